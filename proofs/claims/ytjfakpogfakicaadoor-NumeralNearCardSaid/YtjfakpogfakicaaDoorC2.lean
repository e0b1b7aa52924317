import Derived.Test.YtjfakpogfakicaaDoorN5
import Derived.Test.YtjfakpogfakicaaDoorD3
import Derived.Test.YtjfakpogfakicaaDoorC1
import Derived.Test.YtjfakpogfakicaaDoorN6
import Derived.Test.YtjfakpogfakicaaDoorB2
set_option linter.unusedVariables false
set_option linter.unusedSimpArgs false
namespace Go.Proofs.YtjfakpogfakicaaDoor
open Go Go.PV

/-- The digits of a number, the lowest first; none of nought. -/
def digs (b v : Nat) : List Nat := if h : v = 0 ∨ b < 2 then [] else (v % b) :: digs b (v / b)
termination_by v
decreasing_by exact Nat.div_lt_self (by omega) (by omega)

theorem digs_zero (b : Nat) : digs b 0 = [] := by rw [digs]; simp
theorem digs_step {b v : Nat} (hb : 2 ≤ b) (hv : v ≠ 0) : digs b v = (v % b) :: digs b (v / b) := by
  rw [digs, dif_neg (by omega)]

theorem digs_lt {b : Nat} (hb : 2 ≤ b) : ∀ v, ∀ d ∈ digs b v, d < b := by
  intro v
  induction v using Nat.strongRecOn with
  | _ v ih =>
    intro d hd
    by_cases h0 : v = 0
    · subst h0; rw [digs_zero] at hd; cases hd
    · rw [digs_step hb h0] at hd
      rcases List.mem_cons.1 hd with rfl | hd
      · exact Nat.mod_lt _ (by omega)
      · exact ih _ (Nat.div_lt_self (by omega) (by omega)) d hd

theorem digs_len {b : Nat} (hb : 2 ≤ b) : ∀ k v, v < 2 ^ k → (digs b v).length ≤ k := by
  intro k
  induction k with
  | zero => intro v hv; have : v = 0 := by simpa using hv
            subst this; simp [digs_zero]
  | succ k ih =>
    intro v hv
    by_cases h0 : v = 0
    · subst h0; simp [digs_zero]
    · rw [digs_step hb h0, List.length_cons]
      have : v / b ≤ v / 2 := Nat.div_le_div_left hb (by decide)
      have := ih (v / b) (by rw [Nat.pow_succ] at hv; omega)
      omega

/-- One digit of what is left: r of this chunk, t of the chunks above. -/
theorem digs_part {b m r t : Nat} (hb : 2 ≤ b) (h : r ≠ 0 ∨ t ≠ 0) : digs b (r + b ^ (m + 1) * t) = (r % b) :: digs b (r / b + b ^ m * t) := by
  have hp := Nat.pow_pos (n := m + 1) (show 0 < b by omega)
  have e : b ^ (m + 1) * t = b * (b ^ m * t) := by rw [Nat.pow_succ]; grind
  have h0 : r + b ^ (m + 1) * t ≠ 0 := by
    rcases h with h | h
    · omega
    · have := Nat.mul_pos hp (Nat.pos_of_ne_zero h); omega
  rw [digs_step hb h0, e, Nat.add_mul_mod_self_left, Nat.add_mul_div_left _ _ (by omega)]

def smalls : List Int := [48, 49, 50, 51, 52, 53, 54, 55, 56, 57, 97, 98, 99, 100, 101, 102, 103, 104, 105, 106, 107, 108, 109, 110, 111, 112, 113, 114, 115, 116, 117, 118, 119, 120, 121, 122]
def larges : List Int := [48, 49, 50, 51, 52, 53, 54, 55, 56, 57, 65, 66, 67, 68, 69, 70, 71, 72, 73, 74, 75, 76, 77, 78, 79, 80, 81, 82, 83, 84, 85, 86, 87, 88, 89, 90]
def lettersOf (upper : Bool) : List Int := bif upper then larges else smalls
theorem lettersOf_len (u : Bool) : (lettersOf u).length = 36 := by cases u <;> rfl
theorem lettersOf_byte (u : Bool) : ∀ x ∈ lettersOf u, 0 ≤ x ∧ x < 256 := by cases u <;> decide

/-- The text of a number in a base. -/
def text (b : Nat) (u : Bool) (v : Nat) : List Int := ((digs b v).map fun d => (lettersOf u).getD d 0).reverse

/-- Division by one limb, from the top limb down: the limbs below i are still to come. -/
structure DivI (t0 t : List Int) (n i : Nat) (p rest : Int) : Prop where
  len : t.length = t0.length
  lim : Limbs t
  low : ∀ j, j < i → t.getD j 0 = t0.getD j 0
  rst : 0 ≤ rest ∧ rest < p
  eq : ∃ d, vt t n = vt t i + d ∧ vt t0 n = vt t i + d * p + rest * B64 ^ i

theorem vt_set_add (l : List Int) (i : Nat) (q : Int) (hi : i < l.length) : ∀ n, i < n → vt (l.set i q) n = vt l n + B64 ^ i * (q - l.getD i 0)
  | 0, h => by omega
  | n + 1, h => by
    simp only [vt]
    by_cases e : i = n
    · subst e
      rw [vt_set_ge _ _ _ _ hi (Nat.le_refl _), getD_set _ _ _ _ hi, if_pos rfl]
      grind
    · rw [vt_set_add l i q hi n (by omega), getD_set _ _ _ _ hi, if_neg (by omega)]
      grind

theorem DivI.start {t : List Int} {n : Nat} {p : Int} (h : Limbs t) (hp : 0 < p) : DivI t t n n p 0 :=
  ⟨rfl, h, fun _ _ => rfl, ⟨by omega, hp⟩, 0, by omega, by simp⟩

theorem DivI.step {t0 t : List Int} {n i : Nat} {p rest : Int} (h : DivI t0 t n (i + 1) p rest) (hi : i < t.length) (hin : i < n) (hp : 0 < p ∧ p < B64) :
    DivI t0 (t.set i ((rest * B64 + t.getD i 0) / p)) n i p ((rest * B64 + t.getD i 0) % p) := by
  obtain ⟨d, hd1, hd2⟩ := h.eq
  have hx := getD_limb h.lim i
  have hr := h.rst
  have e1 := Int.emod_add_mul_ediv (rest * B64 + t.getD i 0) p
  have e2 := Int.emod_nonneg (rest * B64 + t.getD i 0) (show p ≠ 0 by omega)
  have e3 := Int.emod_lt_of_pos (rest * B64 + t.getD i 0) hp.1
  have hB : (0 : Int) < B64 := by decide
  have hq0 : 0 ≤ (rest * B64 + t.getD i 0) / p := Int.ediv_nonneg (by have := Int.mul_nonneg hr.1 (Int.le_of_lt hB); omega) (by omega)
  have hq1 : (rest * B64 + t.getD i 0) / p < B64 := by
    rw [Int.ediv_lt_iff_lt_mul hp.1]
    have : (rest + 1) * B64 ≤ p * B64 := Int.mul_le_mul_of_nonneg_right (by omega) (Int.le_of_lt hB)
    have : (rest + 1) * B64 = rest * B64 + B64 := by grind
    have : B64 * p = p * B64 := Int.mul_comm _ _
    omega
  refine ⟨by rw [List.length_set]; exact h.len, limbs_set h.lim i ⟨hq0, hq1⟩, fun j hj => ?_, ⟨e2, e3⟩, d + B64 ^ i * ((rest * B64 + t.getD i 0) / p), ?_, ?_⟩
  · rw [getD_set _ _ _ _ hi, if_neg (by omega)]; exact h.low j (by omega)
  · rw [vt_set_add _ _ _ hi n hin, vt_set_ge _ _ _ _ hi (Nat.le_refl _), hd1]
    simp only [vt]; grind
  · rw [vt_set_ge _ _ _ _ hi (Nat.le_refl _), hd2]
    simp only [vt, Int.pow_succ]
    generalize (rest * B64 + t.getD i 0) / p = q at *
    generalize (rest * B64 + t.getD i 0) % p = r at *
    have : rest * (B64 ^ i * B64) + B64 ^ i * t.getD i 0 = B64 ^ i * (r + p * q) := by rw [e1]; grind
    grind

theorem DivI.fin {t0 t : List Int} {n : Nat} {p rest : Int} (h : DivI t0 t n 0 p rest) : vt t n = vt t0 n / p ∧ rest = vt t0 n % p := by
  obtain ⟨d, hd1, hd2⟩ := h.eq
  have hr := h.rst
  have hv0 : vt t 0 = 0 := rfl
  rw [hv0] at hd1 hd2
  simp only [Int.pow_zero, Int.mul_one, Int.zero_add] at hd1 hd2
  have := (Int.ediv_emod_unique (a := vt t0 n) (r := rest) (q := d) (b := p) (by omega)).2 ⟨by rw [hd2, Int.mul_comm p d, Int.add_comm], hr.1, hr.2⟩
  exact ⟨by rw [hd1]; exact this.1.symm, this.2.symm⟩
end Go.Proofs.YtjfakpogfakicaaDoor

