import Derived.Test.YtjfakpogfakicaaDoorF3
import Derived.Test.YtjfakpogfakicaaDoorL0
set_option linter.unusedVariables false
set_option linter.unusedSimpArgs false
namespace Go.Proofs.YtjfakpogfakicaaDoor
open Go Go.PV
theorem text_ff : text 16 false 255 = [102, 102] := by
  simp [text, digs, lettersOf, smalls]
theorem frombase_awake : Meets Tryd.prog 15 [.str [90, 122], .int .i64 36] (.tup [.ints .u64 [1295], .int .i64 0, .int .i64 0]) := by
  have hn : num 36 [90, 122] = 1295 := by decide
  have hl : natL 1295 = [1295] := by simp [natL, digs]
  refine from_base_main [90, 122] (by intro c hc; simp at hc; omega) (by simp) 36 (by decide) (by simp) (fun j hj => ?_) _ (fun _ => by rw [hn, hl]) (fun h => absurd ?_ h)
  · simp at hj
    have : j = 0 ∨ j = 1 := by omega
    rcases this with rfl | rfl <;> decide
  · rw [hn]
    have := pow_mono64 (show 1 ≤ 4096 by decide)
    rw [Int.pow_succ, Int.pow_zero] at this
    simp only [B64] at this ⊢
    omega

end Go.Proofs.YtjfakpogfakicaaDoor

