import Derived.Test.YtmoigffjpijpaabF3
import Derived.Test.YtmoigffjpijpaabL0
set_option linter.unusedVariables false
set_option linter.unusedSimpArgs false
namespace Go.Proofs.Ytmoigffjpijpaab
open Go Go.PV
theorem text_ff : text 16 false 255 = [102, 102] := by
  simp [text, digs, lettersOf, smalls]
theorem inbase_awake : Meets Try.prog 27 [.ints .u64 [255], .int .i64 16, .bool false] (.tup [.str [102, 102], .int .i64 0]) := by
  have h := in_base [255] (by intro x hx; simp at hx; omega) (by simp) 16 (by decide) false
  have e : inBaseR [255] 16 false = .tup [.str [102, 102], .int .i64 0] := by
    have hs : size [255] = 1 := by decide
    have hv : val [255] = 255 := val_one 255
    unfold inBaseR
    rw [hs, hv, if_neg (by decide), if_neg (by decide), if_neg (by decide)]
    rw [show (16 : Int).toNat = 16 from rfl, show (255 : Int).toNat = 255 from rfl, text_ff]
  rwa [e] at h

theorem frombase_awake : Meets Try.prog 15 [.str [90, 122], .int .i64 36] (.tup [.ints .u64 [1295], .int .i64 0, .int .i64 0]) := by
  have hn : num 36 [90, 122] = 1295 := by decide
  have hl : natL 1295 = [1295] := by simp [natL, digs]
  refine from_base_main [90, 122] (by intro c hc; simp at hc; omega) (by simp) 36 (by decide) (by simp) (fun j hj => ?_) _ (fun _ => by rw [hn, hl]) (fun h => absurd ?_ h)
  · simp at hj
    have : j = 0 ∨ j = 1 := by omega
    rcases this with rfl | rfl <;> decide
  · rw [hn]
    have := pow_mono64 (show 1 ≤ 4096 by decide)
    rw [Int.pow_succ, Int.pow_zero] at this
    simp only [B64] at this ⊢
    omega

end Go.Proofs.Ytmoigffjpijpaab

