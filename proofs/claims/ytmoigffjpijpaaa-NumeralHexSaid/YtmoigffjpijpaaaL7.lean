import Derived.Test.YtmoigffjpijpaaaL5
set_option linter.unusedVariables false
set_option linter.unusedSimpArgs false
namespace Go.Proofs.Ytmoigffjpijpaaa
open Go Go.PV

theorem digs_getD {b : Nat} (hb : 2 ≤ b) : ∀ i v, (digs b v).getD i 0 = v / b ^ i % b
  | 0, v => by
    by_cases h : v = 0
    · subst h; simp [digs_zero]
    · rw [digs_step hb h]; simp
  | i + 1, v => by
    by_cases h : v = 0
    · subst h; simp [digs_zero]
    · rw [digs_step hb h, List.getD_cons_succ, digs_getD hb i, Nat.div_div_eq_div_mul, Nat.pow_succ, Nat.mul_comm]

theorem natL_getD (v i : Nat) : (natL v).getD i 0 = ((v / 18446744073709551616 ^ i % 18446744073709551616 : Nat) : Int) := by
  have h := digs_getD (b := 18446744073709551616) (by decide) i v
  rw [← h]
  unfold natL
  rw [List.getD_eq_getElem?_getD, List.getD_eq_getElem?_getD, List.getElem?_map]
  cases (digs 18446744073709551616 v)[i]? <;> rfl

theorem pow_limb (i : Nat) : 18446744073709551616 ^ i = 2 ^ (64 * i) := by
  rw [Nat.pow_mul]

/-- A bit of a limb is a bit of the number; so are four of them. -/
theorem limb_bits {v i k c : Nat} (hc : 2 ^ c ≤ 256) (hk : k + c ≤ 64) : (v / 18446744073709551616 ^ i % 18446744073709551616) / 2 ^ k % 256 % 2 ^ c = v / 2 ^ (64 * i + k) % 2 ^ c := by
  have hc8 : c ≤ 8 := by
    rcases Nat.lt_or_ge 8 c with h | h
    · have := Nat.pow_lt_pow_right (show 1 < 2 by decide) h
      simp only [Nat.reducePow] at this; omega
    · exact h
  have e1 : (18446744073709551616 : Nat) = 2 ^ k * 2 ^ (64 - k) := by rw [← Nat.pow_add, show k + (64 - k) = 64 by omega]
  have e3 : (v / 18446744073709551616 ^ i % 18446744073709551616) / 2 ^ k = v / 2 ^ (64 * i + k) % 2 ^ (64 - k) := by
    rw [show v / 18446744073709551616 ^ i % 18446744073709551616 = v / 2 ^ (64 * i) % (2 ^ k * 2 ^ (64 - k)) by rw [← e1, pow_limb]]
    rw [Nat.mod_mul_right_div_self, Nat.div_div_eq_div_mul, ← Nat.pow_add]
  rw [e3, show (256 : Nat) = 2 ^ 8 from rfl, Nat.mod_mod_of_dvd _ (Nat.pow_dvd_pow 2 hc8), Nat.mod_mod_of_dvd _ (Nat.pow_dvd_pow 2 (by omega))]

theorem text_more {b : Nat} (hb : 2 ≤ b) (u : Bool) {v d : Nat} (hd : d < b) : text b u (v * b + d) = if d ≠ 0 ∨ 0 < (text b u v).length then text b u v ++ [letter u d] else text b u v := by
  by_cases h : v * b + d = 0
  · have hd0 : d = 0 := by omega
    have hv0 : v = 0 := by
      rcases Nat.eq_zero_or_pos v with h1 | h1
      · exact h1
      · have := Nat.mul_pos h1 (show 0 < b by omega); omega
    subst hd0 hv0
    rw [if_neg (by simp [text_nil])]
    simp
  · rw [text_next hb u hd h, if_pos]
    by_cases h1 : d = 0
    · right
      refine List.length_pos_iff.2 (text_ne hb u ?_)
      rintro rfl; omega
    · exact .inl h1

theorem two_step (v m : Nat) : text 2 false (v / 2 ^ m) = if v / 2 ^ m % 2 ≠ 0 ∨ 0 < (text 2 false (v / 2 ^ (m + 1))).length then text 2 false (v / 2 ^ (m + 1)) ++ [letter false (v / 2 ^ m % 2)] else text 2 false (v / 2 ^ (m + 1)) := by
  have e : v / 2 ^ m = v / 2 ^ (m + 1) * 2 + v / 2 ^ m % 2 := by
    rw [Nat.pow_succ, ← Nat.div_div_eq_div_mul]; omega
  have h := text_more (b := 2) (by decide) false (v := v / 2 ^ (m + 1)) (d := v / 2 ^ m % 2) (by omega)
  rw [← e] at h
  exact h

theorem hex_step (v m : Nat) : text 16 true (v / 2 ^ m) = if v / 2 ^ m % 16 ≠ 0 ∨ 0 < (text 16 true (v / 2 ^ (m + 4))).length then text 16 true (v / 2 ^ (m + 4)) ++ [letter true (v / 2 ^ m % 16)] else text 16 true (v / 2 ^ (m + 4)) := by
  have e : v / 2 ^ m = v / 2 ^ (m + 4) * 16 + v / 2 ^ m % 16 := by
    rw [Nat.pow_add, ← Nat.div_div_eq_div_mul]; omega
  have h := text_more (b := 16) (by decide) true (v := v / 2 ^ (m + 4)) (d := v / 2 ^ m % 16) (by omega)
  rw [← e] at h
  exact h

/-- The digits of base 16 while m bits are still to come. -/
def hexAt (v m : Nat) : List Int := text 16 true (v / 2 ^ (4 * ((m + 3) / 4)))
def twoAt (v m : Nat) : List Int := text 2 false (v / 2 ^ m)

theorem hexAt_same {v m : Nat} (h : m % 4 ≠ 0) : hexAt v m = hexAt v (m + 1) := by
  unfold hexAt
  rw [show (m + 3) / 4 = (m + 1 + 3) / 4 by omega]
theorem hexAt_step {v m : Nat} (h : m % 4 = 0) : hexAt v m = if v / 2 ^ m % 16 ≠ 0 ∨ 0 < (hexAt v (m + 1)).length then hexAt v (m + 1) ++ [letter true (v / 2 ^ m % 16)] else hexAt v (m + 1) := by
  unfold hexAt
  rw [show 4 * ((m + 3) / 4) = m by omega, show 4 * ((m + 1 + 3) / 4) = m + 4 by omega]
  exact hex_step v m

theorem letter_two : ∀ d : Fin 2, letter false d.val = 48 + (d.val : Int) := by decide
def hexes : List Int := [48, 49, 50, 51, 52, 53, 54, 55, 56, 57, 65, 66, 67, 68, 69, 70]
theorem letter_hex : ∀ d : Fin 16, letter true d.val = hexes.getD d.val 0 := by decide

set_option exponentiation.threshold 300000 in
theorem div_small {v m : Nat} (h : v < 2 ^ 262144) : v / 2 ^ m < 2 ^ 262144 := Nat.lt_of_le_of_lt (Nat.div_le_self _ _) h

theorem text_bytes {b : Nat} (hb : 2 ≤ b ∧ b ≤ 36) (u : Bool) (v : Nat) : Bytes' (text b u v) := by
  intro x hx
  obtain ⟨d, hd, rfl⟩ := text_all hb u v x hx
  have := letter_all u ⟨d, by omega⟩
  exact ⟨this.2.2.1, this.2.2.2.1⟩
end Go.Proofs.Ytmoigffjpijpaaa

