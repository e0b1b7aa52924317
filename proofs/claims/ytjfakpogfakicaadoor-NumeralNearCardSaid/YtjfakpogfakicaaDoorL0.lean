import Derived.Test.YtjfakpogfakicaaDoorF1
import Derived.Test.YtjfakpogfakicaaDoorI1
set_option linter.unusedVariables false
set_option linter.unusedSimpArgs false
namespace Go.Proofs.YtjfakpogfakicaaDoor
open Go Go.PV

theorem list_ext {a b : List Int} (hl : a.length = b.length) (h : ∀ j, j < a.length → a.getD j 0 = b.getD j 0) : a = b := by
  refine List.ext_getElem hl fun i h1 h2 => ?_
  have := h i h1
  simpa [List.getD_eq_getElem?_getD, List.getElem?_eq_getElem h1, List.getElem?_eq_getElem h2] using this
theorem val_one (x : Int) : val [x] = x := by simp [val, vt]
def letter (u : Bool) (d : Nat) : Int := (lettersOf u).getD d 0
theorem letter_all : ∀ u : Bool, ∀ d : Fin 36, worth (letter u d.val) = (d.val : Int) ∧ (letter u d.val = 48 → d.val = 0) ∧ 0 ≤ letter u d.val ∧ letter u d.val < 256 ∧ (u = true → ¬ (97 ≤ letter u d.val ∧ letter u d.val ≤ 122)) ∧ (u = false → ¬ (65 ≤ letter u d.val ∧ letter u d.val ≤ 90)) := by decide

theorem text_nil (b : Nat) (u : Bool) : text b u 0 = [] := by simp [text, digs_zero]
theorem text_step {b : Nat} (hb : 2 ≤ b) (u : Bool) {v : Nat} (hv : v ≠ 0) : text b u v = text b u (v / b) ++ [letter u (v % b)] := by
  unfold text letter
  rw [digs_step hb hv, List.map_cons, List.reverse_cons]

theorem numN_append (b : Nat) (l : List Int) (x : Int) : ∀ i, i ≤ l.length → numN b (l ++ [x]) i = numN b l i
  | 0, _ => rfl
  | i + 1, h => by
    simp only [numN]
    rw [numN_append b l x i (by omega)]
    rw [show (l ++ [x]).getD i 0 = l.getD i 0 by simp [List.getD_eq_getElem?_getD, List.getElem?_append_left (show i < l.length by omega)]]

theorem num_append (b : Nat) (l : List Int) (x : Int) : num b (l ++ [x]) = num b l * b + (worth x).toNat := by
  unfold num
  rw [List.length_append, List.length_singleton]
  simp only [numN]
  rw [numN_append b l x _ (Nat.le_refl _)]
  rw [show (l ++ [x]).getD l.length 0 = x by simp [List.getD_eq_getElem?_getD]]

theorem num_text {b : Nat} (hb : 2 ≤ b ∧ b ≤ 36) (u : Bool) : ∀ v, num b (text b u v) = v := by
  intro v
  induction v using Nat.strongRecOn with
  | _ v ih =>
    by_cases h0 : v = 0
    · subst h0; rw [text_nil]; rfl
    · have hm := Nat.mod_lt v (show b > 0 by omega)
      have hl := (letter_all u ⟨v % b, by omega⟩).1
      simp only at hl
      rw [text_step hb.1 u h0, num_append, ih _ (Nat.div_lt_self (by omega) (by omega)), hl, Int.toNat_natCast]
      exact Nat.div_add_mod' v b

theorem text_ne {b : Nat} (hb : 2 ≤ b) (u : Bool) {v : Nat} (hv : v ≠ 0) : text b u v ≠ [] := by
  rw [text_step hb u hv]; simp

theorem text_head {b : Nat} (hb : 2 ≤ b ∧ b ≤ 36) (u : Bool) : ∀ v, v ≠ 0 → (text b u v).getD 0 0 ≠ 48 := by
  intro v
  induction v using Nat.strongRecOn with
  | _ v ih =>
    intro h0
    have hm := Nat.mod_lt v (show b > 0 by omega)
    rw [text_step hb.1 u h0]
    by_cases h1 : v / b = 0
    · rw [h1, text_nil]
      have hl := (letter_all u ⟨v % b, by omega⟩).2.1
      simp only at hl
      intro h
      have h2 := hl (by simpa using h)
      have := Nat.div_add_mod v b
      rw [h1, h2] at this
      simp at this; omega
    · have h2 := ih _ (Nat.div_lt_self (by omega) (by omega)) h1
      have h3 := text_ne hb.1 u h1
      cases hc : text b u (v / b) with
      | nil => exact absurd hc h3
      | cons x l => rw [hc] at h2; simpa using h2

theorem text_all {b : Nat} (hb : 2 ≤ b ∧ b ≤ 36) (u : Bool) (v : Nat) : ∀ x ∈ text b u v, ∃ d : Nat, d < b ∧ x = letter u d := by
  intro x hx
  unfold text at hx
  rw [List.mem_reverse] at hx
  obtain ⟨d, hd, rfl⟩ := List.mem_map.1 hx
  exact ⟨d, digs_lt hb.1 _ d hd, rfl⟩

/-- What InBase writes, nought too. -/
def written (b : Nat) (u : Bool) (v : Nat) : List Int := if v = 0 then [48] else text b u v

theorem letter_zero (u : Bool) : letter u 0 = 48 := by cases u <;> rfl
theorem num_zero (b : Nat) : num b [48] = 0 := by
  have h : worth 48 = 0 := by decide
  simp [num, numN, h]

theorem written_all {b : Nat} (hb : 2 ≤ b ∧ b ≤ 36) (u : Bool) (v : Nat) : ∀ x ∈ written b u v, ∃ d : Nat, d < b ∧ x = letter u d := by
  intro x hx
  unfold written at hx
  split at hx
  · rw [List.mem_singleton] at hx
    exact ⟨0, by omega, by rw [letter_zero]; exact hx⟩
  · exact text_all hb u v x hx

theorem written_num {b : Nat} (hb : 2 ≤ b ∧ b ≤ 36) (u : Bool) (v : Nat) : num b (written b u v) = v := by
  unfold written
  split
  · rename_i h; rw [h]; exact num_zero b
  · exact num_text hb u v

theorem written_ne {b : Nat} (hb : 2 ≤ b ∧ b ≤ 36) (u : Bool) (v : Nat) : written b u v ≠ [] := by
  unfold written
  split
  · simp
  · exact text_ne hb.1 u (by assumption)

theorem text_len {b : Nat} (hb : 2 ≤ b) (u : Bool) {k v : Nat} (h : v < 2 ^ k) : (text b u v).length ≤ k := by
  unfold text; rw [List.length_reverse, List.length_map]; exact digs_len hb k v h

theorem val_nonneg {a : List Int} (ha : Limbs a) : 0 ≤ val a := (vt_bound ha a.length).1

theorem size_zero {a : List Int} (ha : Limbs a) : size a = 0 ↔ val a = 0 := by
  constructor
  · intro h
    have := vt_size a
    rw [h] at this
    exact this.symm
  · intro h
    have h1 := trim_eq ha
    rw [h] at h1
    have h2 := trim_len a
    rw [h1] at h2
    rw [← h2]
    simp [natL, digs_zero]

theorem val_small {a : List Int} (ha : Limbs a) (h : size a ≤ 4096) : val a < B64 ^ 4096 := by
  have h1 := vt_bound ha (size a)
  rw [vt_size] at h1
  have := pow_mono64 h
  omega

set_option exponentiation.threshold 300000 in
theorem pow4096 : B64 ^ 4096 = ((2 ^ 262144 : Nat) : Int) := by
  rw [show (262144 : Nat) = 64 * 4096 from rfl, Nat.pow_mul, Int.natCast_pow]; rfl

theorem written_len {a : List Int} (ha : Limbs a) (h : size a ≤ 4096) {b : Nat} (hb : 2 ≤ b) (u : Bool) : (written b u (val a).toNat).length ≤ 262144 := by
  unfold written
  split
  · simp
  · refine text_len hb u ?_
    have h1 := val_small ha h
    rw [pow4096] at h1
    have := val_nonneg ha
    omega

theorem written_digit {b : Nat} (hb : 2 ≤ b ∧ b ≤ 36) (u : Bool) (v j : Nat) (hj : j < (written b u v).length) : ∃ d : Nat, d < b ∧ (written b u v).getD j 0 = letter u d := by
  refine written_all hb u v _ ?_
  rw [List.getD_eq_getElem?_getD, List.getElem?_eq_getElem hj]; exact List.getElem_mem hj

theorem written_bytes {b : Nat} (hb : 2 ≤ b ∧ b ≤ 36) (u : Bool) (v : Nat) : Bytes' (written b u v) := by
  intro x hx
  obtain ⟨d, hd, rfl⟩ := written_all hb u v x hx
  have := letter_all u ⟨d, by omega⟩
  exact ⟨this.2.2.1, this.2.2.2.1⟩

end Go.Proofs.YtjfakpogfakicaaDoor

