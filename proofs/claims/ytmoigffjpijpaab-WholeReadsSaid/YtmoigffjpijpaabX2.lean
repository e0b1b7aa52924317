import Derived.Test.YtmoigffjpijpaabX1
import Derived.Test.YtmoigffjpijpaabL2
set_option linter.unusedVariables false
set_option linter.unusedSimpArgs false
namespace Go.Proofs.Ytmoigffjpijpaab
open Go Go.PV

theorem rawE_zero {f w p : Int} (h : rawE f w p = 0) : rawE f 0 p = 0 := by
  obtain ⟨f0, f1, w0, w1, p0, p1⟩ := rawE_ok h
  exact rawE_0 (by omega) (by omega)

theorem padT_bare {f p : Int} {head body : List Int} {z : Bool} (hr : rawE f 0 p = 0) (hl : head.length + body.length ≤ 16777216) : padT f 0 p head body z = head ++ body := by
  unfold padT padS
  rw [if_neg (by omega), if_neg (by omega)]
  simp only [Int.toNat_zero, Nat.zero_sub, List.replicate_zero, List.append_nil, List.nil_append]
  split
  · rfl
  · split <;> rfl

theorem padT_wide {f w p h : Int} {head body : List Int} {z : Bool} (hr : rawE f w p = 0) (hl : head.length + body.length ≤ 16777216) (hh : (z = true ∧ h = (head.length : Int)) ∨ (z = false ∧ h = -1)) :
    padT f w p head body z = widenS f w (head ++ body) h := by
  obtain ⟨f0, f1, w0, w1, p0, p1⟩ := rawE_ok hr
  unfold padT padS widenS
  rw [if_neg (by omega), if_neg (by omega), List.length_append]
  by_cases h0 : w - ((head.length + body.length : Nat) : Int) ≤ 0
  · rw [if_pos h0, show w.toNat - (head.length + body.length) = 0 by omega]
    simp only [List.replicate_zero, List.append_nil, List.nil_append]
    split
    · rfl
    · split <;> rfl
  · rw [if_neg h0]
    generalize w.toNat - (head.length + body.length) = m
    by_cases c1 : f % 2 = 1
    · rw [if_pos c1, if_pos c1]
    · rw [if_neg c1, if_neg c1]
      rcases hh with ⟨rfl, rfl⟩ | ⟨rfl, rfl⟩
      · by_cases c16 : f / 16 % 2 = 1
        · rw [if_pos ⟨c16, rfl⟩, if_pos ⟨c16, by omega, by omega⟩, Int.toNat_natCast, List.take_left, List.drop_left]
        · rw [if_neg (fun h => c16 h.1), if_neg (fun h => c16 h.1), List.append_assoc]
      · rw [if_neg (fun h => by cases h.2), if_neg (fun h => absurd h.2.1 (by decide)), List.append_assoc]

theorem padE_ok {f w p : Int} {head body : List Int} (hr : rawE f w p = 0) (hl : head.length + body.length ≤ 16777216) : padE f w p head body = 0 := by
  unfold padE; rw [if_neg (by omega), if_neg (by omega)]

theorem padT_len {f w p : Int} {head body : List Int} {z : Bool} (hr : rawE f w p = 0) (hl : head.length + body.length ≤ 16777216) : (padT f w p head body z).length ≤ 16781312 := by
  obtain ⟨f0, f1, w0, w1, p0, p1⟩ := rawE_ok hr
  unfold padT padS
  rw [if_neg (by omega), if_neg (by omega)]
  split
  · simp only [List.length_append, List.length_replicate]; omega
  · split <;> (simp only [List.length_append, List.length_replicate]; omega)

/-- A call's two answers, with the width and without, and what widened says of them. -/
theorem wide_ok {v f w p h : Int} {head body : List Int} {z : Bool} (hr : rawE f w p = 0) (hl : head.length + body.length ≤ 16777216) (hh : (z = true ∧ h = (head.length : Int)) ∨ (z = false ∧ h = -1)) (hh2 : -1 ≤ h ∧ h ≤ 2) :
    Meets Try.prog 10 [specV v f w p, .str (padT f w p head body z), .str (head ++ body), .int .i64 h] (.bool true) := by
  obtain ⟨f0, f1, w0, w1, p0, p1⟩ := rawE_ok hr
  refine law_widened v f w p _ _ h ⟨f0, f1⟩ ⟨w0, w1⟩ ?_ ?_ hh2 (padT_wide hr hl hh)
  · have := padT_len (z := z) hr hl; omega
  · rw [List.length_append]; omega

theorem checkE_good {verbs : List Int} {v f w p : Int} (hv : v ∈ verbs) (hr : rawE f w p = 0) : checkE verbs v f w p = 0 := by
  rw [checkE, if_neg (fun h => h hv)]; exact hr

theorem char_wide {f w p : Int} (hr : rawE f w p = 0) (t : List Int) (ht : t.length ≤ 16777216) : ∃ A N, Meets Try.prog 14 [specV 99 f w p, .str t] (.tup [.str A, .int .i64 0]) ∧ Meets Try.prog 14 [specV 99 f 0 p, .str t] (.tup [.str N, .int .i64 0]) ∧ N.length ≤ 1 ∧ Meets Try.prog 10 [specV 99 f w p, .str A, .str N, .int .i64 (-1)] (.bool true) := by
  have hr0 := rawE_zero hr
  have hl : ([] : List Int).length + (t.take 1).length ≤ 16777216 := by simp; omega
  have h1 := whole_char 99 f w p t (by decide) (by omega)
  have h2 := whole_char 99 f 0 p t (by decide) (by omega)
  rw [charR, if_neg (by rw [checkE_good (by decide) hr]; decide), padR_eq, padE_ok hr hl] at h1
  rw [charR, if_neg (by rw [checkE_good (by decide) hr0]; decide), padR_eq, padE_ok hr0 hl, padT_bare hr0 hl] at h2
  exact ⟨_, _, h1, h2, by simp; omega, wide_ok hr hl (.inr ⟨rfl, rfl⟩) (by decide)⟩

theorem text_wide {f w p : Int} (hr : rawE f w p = 0) (t : List Int) (ht : t.length ≤ 16777216) : ∃ A N, Meets Try.prog 13 [specV 115 f w p, .str t] (.tup [.str A, .int .i64 0]) ∧ Meets Try.prog 13 [specV 115 f 0 p, .str t] (.tup [.str N, .int .i64 0]) ∧ Meets Try.prog 10 [specV 115 f w p, .str A, .str N, .int .i64 (-1)] (.bool true) := by
  have hr0 := rawE_zero hr
  have hl : ([] : List Int).length + (if 0 ≤ p then t.take p.toNat else t).length ≤ 16777216 := by split <;> simp <;> omega
  have h1 := whole_text 115 f w p t (by decide) (by omega)
  have h2 := whole_text 115 f 0 p t (by decide) (by omega)
  rw [textR, if_neg (by rw [checkE_good (by decide) hr]; decide), padR_eq, padE_ok hr hl] at h1
  rw [textR, if_neg (by rw [checkE_good (by decide) hr0]; decide), padR_eq, padE_ok hr0 hl, padT_bare hr0 hl] at h2
  exact ⟨_, _, h1, h2, wide_ok hr hl (.inr ⟨rfl, rfl⟩) (by decide)⟩

theorem uns_len (v f p : Int) (x : Nat) (hx : (x : Int) < B64) (hp : -1 ≤ p ∧ p ≤ 4096) : (unsHead v f x).length + (unsBody v f (fill p (unsDig v x))).length ≤ 16777216 := by
  have h1 : (unsDig v x).length ≤ 262144 := by
    unfold unsDig
    split
    · exact written_one x hx (by decide) _
    · split
      · exact written_one x hx (by decide) _
      · exact written_one x hx (by decide) _
  have h2 := fill_len p (unsDig v x)
  generalize fill p (unsDig v x) = B at *
  unfold unsHead unsBody
  split <;> split <;> simp only [List.length_cons, List.length_nil] <;> omega

theorem uns_wide {v f w p : Int} (hv : v ∈ ([111, 117, 120, 88] : List Int)) (hr : rawE f w p = 0) (x : Nat) (hx : (x : Int) < B64) : ∃ A N, Meets Try.prog 11 [specV v f w p, .int .u64 (x : Int)] (.tup [.str A, .int .i64 0]) ∧ Meets Try.prog 11 [specV v f 0 p, .int .u64 (x : Int)] (.tup [.str N, .int .i64 0]) ∧
    ∀ h : Int, ((0 ≤ p → h = -1) ∧ (p < 0 → (f / 8 % 2 = 1 ∧ (v = 120 ∨ v = 88) ∧ x ≠ 0 → h = 2) ∧ (¬ (f / 8 % 2 = 1 ∧ (v = 120 ∨ v = 88) ∧ x ≠ 0) → h = 0))) → Meets Try.prog 10 [specV v f w p, .str A, .str N, .int .i64 h] (.bool true) := by
  obtain ⟨f0, f1, w0, w1, p0, p1⟩ := rawE_ok hr
  have hr0 := rawE_zero hr
  have hl := uns_len v f p x hx ⟨p0, p1⟩
  have hvb : 0 ≤ v ∧ v < 256 := by
    simp only [List.mem_cons, List.not_mem_nil, or_false] at hv; omega
  have h1 := whole_unsigned v f w p x hvb hx
  have h2 := whole_unsigned v f 0 p x hvb hx
  have hc := checkE_good hv hr
  have hc0 := checkE_good hv hr0
  rw [unsT, unsE, if_neg (by omega), if_neg (by omega), padE_ok hr hl] at h1
  rw [unsT, unsE, if_neg (by omega), if_neg (by omega), padE_ok hr0 hl, padT_bare hr0 hl] at h2
  refine ⟨_, _, h1, h2, fun h hh => wide_ok hr hl ?_ ?_⟩
  · by_cases hp : p = -1
    · refine .inl ⟨decide_eq_true hp, ?_⟩
      have := hh.2 (by omega)
      unfold unsHead
      split
      · rename_i hc; exact this.1 hc
      · rename_i hc; exact this.2 hc
    · exact .inr ⟨decide_eq_false hp, hh.1 (by omega)⟩
  · by_cases hp : 0 ≤ p
    · have := hh.1 hp; omega
    · have := hh.2 (by omega)
      by_cases hc : f / 8 % 2 = 1 ∧ (v = 120 ∨ v = 88) ∧ x ≠ 0
      · have := this.1 hc; omega
      · have := this.2 hc; omega

theorem headS_is (f : Int) (b : Bool) : headS f b = [45] ∨ headS f b = [43] ∨ headS f b = [32] ∨ headS f b = [] := by
  unfold headS
  split
  · exact .inl rfl
  · split
    · exact .inr (.inl rfl)
    · split
      · exact .inr (.inr (.inl rfl))
      · exact .inr (.inr (.inr rfl))

theorem fill_minus (D : List Int) : fill (-1) D = D := by
  unfold fill
  rw [if_neg (fun h => absurd h.2 (by decide))]
  rw [show ((-1 : Int).toNat - D.length) = 0 by simp]
  rfl

def sgnC (n0 : Int) : Prop := n0 = 45 ∨ n0 = 43 ∨ n0 = 32

theorem sig_wide {v f w p : Int} (hv : v ∈ ([100, 105] : List Int)) (hr : rawE f w p = 0) (neg : Bool) (n : List Int) (hn : Limbs n) (hnl : n.length ≤ 17592186043904) (hs : size n ≤ 4096) :
    ∃ A N, Meets Try.prog 9 [specV v f w p, .bool neg, .ints .u64 n] (.tup [.str A, .int .i64 0]) ∧ Meets Try.prog 9 [specV v f 0 p, .bool neg, .ints .u64 n] (.tup [.str N, .int .i64 0]) ∧ N.length ≤ 300000 ∧ (p < 0 → N ≠ []) ∧
    ∀ h : Int, ((0 ≤ p → h = -1) ∧ (p < 0 → (sgnC (N.getD 0 0) → h = 1) ∧ (¬ sgnC (N.getD 0 0) → h = 0))) → Meets Try.prog 10 [specV v f w p, .str A, .str N, .int .i64 h] (.bool true) := by
  obtain ⟨f0, f1, w0, w1, p0, p1⟩ := rawE_ok hr
  have hr0 := rawE_zero hr
  have hvb : 0 ≤ v ∧ v < 256 := by
    simp only [List.mem_cons, List.not_mem_nil, or_false] at hv; omega
  have h1 := whole_signed v f w p neg n hvb hn hnl
  have h2 := whole_signed v f 0 p neg n hvb hn hnl
  have hwl := written_len hn hs (b := 10) (by omega) false
  have hne := written_ne (b := 10) (by omega) false (val n).toNat
  have hdg := fun j hj => written_digit (b := 10) (by omega) false (val n).toNat j hj
  have hc := checkE_good hv hr
  have hc0 := checkE_good hv hr0
  rw [signedR, if_neg (by omega), if_neg (by omega)] at h1 h2
  generalize written 10 false (val n).toNat = D at *
  have hfn := fill_len p D
  have hhl := headS_len f (neg && decide (0 < size n))
  have hhs := headS_is f (neg && decide (0 < size n))
  generalize headS f (neg && decide (0 < size n)) = Hd at *
  have hl : Hd.length + (fill p D).length ≤ 16777216 := by omega
  rw [padR_eq, padE_ok hr hl] at h1
  rw [padR_eq, padE_ok hr0 hl, padT_bare hr0 hl] at h2
  have hd0 : ∀ hd : 0 < D.length, ¬ sgnC (D.getD 0 0) := by
    intro hd
    obtain ⟨d, hd1, hd2⟩ := hdg 0 hd
    rw [hd2, letter_is false d (by omega), if_pos hd1]
    unfold sgnC; omega
  have hDl : 0 < D.length := List.length_pos_iff.2 hne
  refine ⟨_, _, h1, h2, by rw [List.length_append]; omega, fun hp => ?_, fun h hh => wide_ok hr hl ?_ ?_⟩
  · have : p = -1 := by omega
    subst this
    rw [fill_minus]
    intro h; exact hne (List.append_eq_nil_iff.1 h).2
  · by_cases hp : p = -1
    · refine .inl ⟨decide_eq_true hp, ?_⟩
      have h3 := hh.2 (by omega)
      subst hp
      rw [fill_minus] at h3
      rcases hhs with rfl | rfl | rfl | rfl
      · exact h3.1 (.inl rfl)
      · exact h3.1 (.inr (.inl rfl))
      · exact h3.1 (.inr (.inr rfl))
      · exact h3.2 (hd0 hDl)
    · exact .inr ⟨decide_eq_false hp, hh.1 (by omega)⟩
  · by_cases hp : 0 ≤ p
    · have := hh.1 hp; omega
    · have h3 := hh.2 (by omega)
      by_cases hc : sgnC ((Hd ++ fill p D).getD 0 0)
      · have := h3.1 hc; omega
      · have := h3.2 hc; omega
end Go.Proofs.Ytmoigffjpijpaab

