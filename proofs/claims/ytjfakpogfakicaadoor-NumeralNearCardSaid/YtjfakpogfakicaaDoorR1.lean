import Derived.Test.YtjfakpogfakicaaDoorM7
set_option linter.unusedVariables false
set_option linter.unusedSimpArgs false
namespace Go.Proofs.YtjfakpogfakicaaDoor
open Go Go.PV

theorem numN_congr (b : Nat) {s t : List Int} : ∀ n, (∀ j, j < n → s.getD j 0 = t.getD j 0) → numN b s n = numN b t n
  | 0, _ => rfl
  | n + 1, h => by rw [numN, numN, numN_congr b n fun j hj => h j (by omega), h n (by omega)]
theorem getD_set_ne {s : List Int} {k j : Nat} {x : Int} (h : k ≠ j) : (s.set k x).getD j 0 = s.getD j 0 := by
  rw [List.getD_eq_getElem?_getD, List.getD_eq_getElem?_getD, List.getElem?_set_ne h]
theorem getD_set_eq {s : List Int} {k : Nat} {x : Int} (h : k < s.length) : (s.set k x).getD k 0 = x := by
  rw [List.getD_eq_getElem?_getD, List.getElem?_set_self h]; rfl
theorem getD_take' {s : List Int} {k j : Nat} (h : j < k) : (s.take k).getD j 0 = s.getD j 0 := by
  rw [List.getD_eq_getElem?_getD, List.getD_eq_getElem?_getD, List.getElem?_take_of_lt h]
theorem getD_drop' {s : List Int} {k j : Nat} : (s.drop k).getD j 0 = s.getD (k + j) 0 := by
  rw [List.getD_eq_getElem?_getD, List.getD_eq_getElem?_getD, List.getElem?_drop]
theorem numN_split (b : Nat) (s : List Int) (k : Nat) : ∀ i, numN b s (k + i) = numN b s k * b ^ i + numN b (s.drop k) i
  | 0 => by simp [numN]
  | i + 1 => by
    rw [show k + (i + 1) = (k + i) + 1 by omega, numN, numN_split b s k i, numN, getD_drop', Nat.pow_succ, Nat.add_mul, Nat.mul_assoc]
    omega
theorem num_split (b : Nat) {s : List Int} {k : Nat} (hk : k ≤ s.length) : num b s = num b (s.take k) * b ^ (s.length - k) + num b (s.drop k) := by
  have h := numN_split b s k (s.length - k)
  rw [show k + (s.length - k) = s.length by omega] at h
  unfold num
  rw [List.length_take, List.length_drop, Nat.min_eq_left hk, numN_congr b (s := s.take k) (t := s) k fun j hj => getD_take' hj]
  exact h
theorem worth_digit {c : Int} (h : 48 ≤ c ∧ c ≤ 57) : worth c = c - 48 := by unfold worth; rw [if_pos h]
theorem numN_digs_lt {s : List Int} (hs : Digs s) : ∀ n, n ≤ s.length → numN 10 s n < 10 ^ n
  | 0, _ => by simp [numN]
  | n + 1, h => by
    have ih := numN_digs_lt hs n (by omega)
    have hd := digs_get hs (show n < s.length by omega)
    rw [numN, worth_digit hd, Nat.pow_succ]
    omega
theorem num_digs_lt {s : List Int} (hs : Digs s) : num 10 s < 10 ^ s.length := numN_digs_lt hs _ (Nat.le_refl _)
theorem digs_drop {s : List Int} (h : Digs s) (k : Nat) : Digs (s.drop k) := fun x hx => h x (List.mem_of_mem_drop hx)
theorem numN_allz {s : List Int} (hs : Digs s) : ∀ n, n ≤ s.length → (numN 10 s n = 0 ↔ ∀ j, j < n → s.getD j 0 = 48)
  | 0, _ => ⟨fun _ j hj => absurd hj (by omega), fun _ => rfl⟩
  | n + 1, h => by
    have ih := numN_allz hs n (by omega)
    have hd := digs_get hs (show n < s.length by omega)
    rw [numN, worth_digit hd]
    constructor
    · intro h0 j hj
      by_cases e : j = n
      · subst e; omega
      · exact ih.1 (by omega) j (by omega)
    · intro h0
      rw [ih.2 fun j hj => h0 j (by omega), h0 n (by omega)]; rfl

/-- One more at the end: the value is one more. -/
theorem upD_val : ∀ (k : Nat) (row : List Int), k ≤ row.length → Digs row → (upD row k).1.length = row.length ∧ Digs (upD row k).1 ∧ (∀ j, k ≤ j → (upD row k).1.getD j 0 = row.getD j 0) ∧
    numN 10 (upD row k).1 k + (if (upD row k).2 then 10 ^ k else 0) = numN 10 row k + 1
  | 0, row, _, hd => ⟨rfl, hd, fun _ _ => rfl, by simp [upD, numN]⟩
  | k + 1, row, hk, hd => by
    have hx := digs_get hd (show k < row.length by omega)
    rw [upD]
    by_cases h57 : row.getD k 0 = 57
    · rw [if_pos h57]
      obtain ⟨h1, h2, h3, h4⟩ := upD_val k (row.set k 48) (by simp; omega) (digs_set hd k (by decide))
      have hn : numN 10 (row.set k 48) k = numN 10 row k := numN_congr 10 k fun j hj => getD_set_ne (by omega)
      have hk0 : (upD (row.set k 48) k).1.getD k 0 = 48 := by rw [h3 k (Nat.le_refl _), getD_set_eq (by omega)]
      refine ⟨by rw [h1, List.length_set], h2, fun j hj => ?_, ?_⟩
      · rw [h3 j (by omega), getD_set_ne (by omega)]
      · rw [numN, numN, hk0, h57, hn.symm, Nat.pow_succ]
        have w1 : (worth 48).toNat = 0 := rfl
        have w2 : (worth 57).toNat = 9 := rfl
        rw [w1, w2]
        generalize (upD (row.set k 48) k).2 = q at *
        cases q <;> simp only [Bool.false_eq_true, if_false, if_true] at h4 ⊢ <;> omega
    · rw [if_neg h57]
      refine ⟨by rw [List.length_set], digs_set hd k (by omega), fun j hj => ?_, ?_⟩
      · exact getD_set_ne (by omega)
      · have e : (row.set k (row.getD k 0 + 1)).getD k 0 = row.getD k 0 + 1 := getD_set_eq (by omega)
        have hn : numN 10 (row.set k (row.getD k 0 + 1)) k = numN 10 row k := numN_congr 10 k fun j hj => getD_set_ne (by omega)
        rw [numN, numN, e, hn, worth_digit hx, worth_digit (show 48 ≤ row.getD k 0 + 1 ∧ row.getD k 0 + 1 ≤ 57 by omega)]
        simp only [Bool.false_eq_true, if_false]
        omega

/-- Is the row rounded up? -/
def upR (s : List Int) (k : Nat) (mo z : Nat) : Prop := ¬ (s.getD k 0 < 53 ∨ (s.getD k 0 = 53 ∧ mo ≠ 1 ∧ z = 1 ∧ ¬ (0 < k ∧ (s.getD (k - 1) 0 - 48) % 2 = 1)))

/-- What a rounded row is worth, by what is cut off. -/
theorem roundR_val {s : List Int} (hs : Digs s) {k : Nat} (hk : k < s.length) (mo z : Nat) (hz : z = 1 ↔ AllZ (s.drop (k + 1))) {A D U : Nat} (hA : num 10 (s.take k) = A) (hD : num 10 (s.drop k) = D) (hU : 10 ^ (s.length - k) = U) :
    (roundR s k mo z).1.length = k ∧ Digs (roundR s k mo z).1 ∧ D < U ∧ num 10 s = A * U + D ∧
    ((¬ (roundR s k mo z).2 ∧ num 10 (roundR s k mo z).1 = A ∧ (2 * D < U ∨ 2 * D = U ∧ mo ≠ 1 ∧ A % 2 = 0)) ∨
     (num 10 (roundR s k mo z).1 + (if (roundR s k mo z).2 then 10 ^ k else 0) = A + 1 ∧ (U < 2 * D ∨ 2 * D = U ∧ (mo = 1 ∨ A % 2 = 1)))) := by
  have htl : (s.take k).length = k := by rw [List.length_take]; omega
  have hdl : (s.drop k).length = s.length - k := List.length_drop
  have hsp := num_split 10 (s := s) (k := k) (by omega)
  have hDU : D < U := by rw [← hD, ← hU, ← hdl]; exact num_digs_lt (digs_drop hs k)
  rw [hA, hD, hU] at hsp
  have hx := digs_get hs hk
  -- the first digit that is cut, and the rest
  obtain ⟨m, hm⟩ : ∃ m, s.length - k = m + 1 := ⟨s.length - k - 1, by omega⟩
  have hr := numN_split 10 (s.drop k) 1 m
  have hd1 : numN 10 (s.drop k) 1 = (s.getD k 0 - 48).toNat := by
    rw [numN, numN, getD_drop', Nat.add_zero, worth_digit hx]; omega
  have hDe : D = numN 10 (s.drop k) (1 + m) := by rw [← hD, num, hdl, hm, Nat.add_comm]
  rw [← hDe, hd1, List.drop_drop] at hr
  have hdl2 : (s.drop (k + 1)).length = m := by rw [List.length_drop]; omega
  have hrl := numN_digs_lt (digs_drop hs (k + 1)) m (by omega)
  have hrz := numN_allz (digs_drop hs (k + 1)) m (by omega)
  have hz' : z = 1 ↔ numN 10 (s.drop (k + 1)) m = 0 := by rw [hz, hrz]; unfold AllZ; rw [hdl2]
  rw [hm, Nat.pow_succ] at hU
  generalize numN 10 (s.drop (k + 1)) m = r at *
  generalize 10 ^ m = P at *
  obtain ⟨x, hx2⟩ : ∃ x : Nat, s.getD k 0 = 48 + (x : Int) := ⟨(s.getD k 0 - 48).toNat, by omega⟩
  rw [hx2] at hr hx
  rw [show (48 + (x : Int) - 48).toNat = x by omega] at hr
  have hx9 : x ≤ 9 := by omega
  -- the last digit kept
  have hAp : 0 < k → (A % 2 = 1 ↔ (s.getD (k - 1) 0 - 48) % 2 = 1) := fun h0 => by
    obtain ⟨j, rfl⟩ : ∃ j, k = j + 1 := ⟨k - 1, by omega⟩
    have hl := digs_get hs (show j < s.length by omega)
    rw [← hA, num, htl, numN, getD_take' (by omega), worth_digit hl, Nat.add_sub_cancel]
    omega
  have hA0 : k = 0 → A = 0 := fun h0 => by subst h0; rw [← hA]; rfl
  have hcmp : (s.getD k 0 < 53 → 2 * D < U) ∧ (s.getD k 0 = 53 → U ≤ 2 * D ∧ (2 * D = U ↔ r = 0)) ∧ (53 < s.getD k 0 → U < 2 * D) := by
    rw [hx2]
    refine ⟨fun h => ?_, fun h => ?_, fun h => ?_⟩
    · have hx4 : x ≤ 4 := by omega
      have := Nat.mul_le_mul_right P hx4
      omega
    · obtain rfl : x = 5 := by omega
      omega
    · have hx6 : 6 ≤ x := by omega
      have := Nat.mul_le_mul_right P hx6
      have : 0 < P := by omega
      omega
  unfold roundR
  by_cases hdn : s.getD k 0 < 53 ∨ (s.getD k 0 = 53 ∧ mo ≠ 1 ∧ z = 1 ∧ ¬ (0 < k ∧ (s.getD (k - 1) 0 - 48) % 2 = 1))
  · rw [if_pos hdn]
    refine ⟨htl, digs_take hs k, hDU, hsp, .inl ⟨by simp, hA, ?_⟩⟩
    rcases hdn with h | ⟨h1, h2, h3, h4⟩
    · exact .inl (hcmp.1 h)
    · refine .inr ⟨((hcmp.2.1 h1).2.2 (hz'.1 h3)), h2, ?_⟩
      rcases Nat.eq_zero_or_pos k with h0 | h0
      · rw [hA0 h0]
      · have : ¬ A % 2 = 1 := fun h => h4 ⟨h0, (hAp h0).1 h⟩
        omega
  · rw [if_neg hdn]
    obtain ⟨u1, u2, u3, u4⟩ := upD_val k (s.take k) (by omega) (digs_take hs k)
    have hnt : numN 10 (s.take k) k = A := by rw [← hA, num, htl]
    rw [hnt] at u4
    refine ⟨by rw [u1, htl], u2, hDU, hsp, .inr ⟨?_, ?_⟩⟩
    · rw [num, u1, htl]; exact u4
    · have h1 : ¬ s.getD k 0 < 53 := fun h => hdn (.inl h)
      by_cases h53 : s.getD k 0 = 53
      · obtain ⟨c1, c2⟩ := hcmp.2.1 h53
        by_cases hr0 : r = 0
        · refine .inr ⟨c2.2 hr0, ?_⟩
          by_cases hmo : mo = 1
          · exact .inl hmo
          · refine .inr ?_
            have h2 : 0 < k ∧ (s.getD (k - 1) 0 - 48) % 2 = 1 := Classical.not_not.1 fun h => hdn (.inr ⟨h53, hmo, hz'.2 hr0, h⟩)
            exact (hAp h2.1).2 h2.2
        · exact .inl (by have : ¬ 2 * D = U := fun h => hr0 (c2.1 h); omega)
      · exact .inl (hcmp.2.2 (by omega))
end Go.Proofs.YtjfakpogfakicaaDoor

