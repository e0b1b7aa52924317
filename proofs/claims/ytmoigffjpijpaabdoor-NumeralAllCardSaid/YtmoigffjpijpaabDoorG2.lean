import Derived.Test.YtmoigffjpijpaabDoorL0
set_option linter.unusedVariables false
set_option linter.unusedSimpArgs false
namespace Go.Proofs.YtmoigffjpijpaabDoor
open Go Go.PV

/-- k digits of a number, zeros too. -/
def pad (b : Nat) : Nat → Nat → List Nat
  | 0, _ => []
  | k + 1, d => d % b :: pad b k (d / b)
theorem pad_len (b : Nat) : ∀ k d, (pad b k d).length = k
  | 0, _ => rfl
  | k + 1, d => by rw [pad, List.length_cons, pad_len b k]
theorem pad_lt {b : Nat} (hb : 2 ≤ b) : ∀ k d, ∀ x ∈ pad b k d, x < b
  | 0, _, x, h => by cases h
  | k + 1, d, x, h => by
    rcases List.mem_cons.1 h with rfl | h
    · exact Nat.mod_lt _ (by omega)
    · exact pad_lt hb k _ x h
theorem pad_zero (b : Nat) : ∀ k, pad b k 0 = List.replicate k 0
  | 0 => rfl
  | k + 1 => by rw [pad, Nat.zero_mod, Nat.zero_div, pad_zero b k]; rfl
theorem pad_digs {b : Nat} (hb : 2 ≤ b) : ∀ k v, v < b ^ k → ∃ z, pad b k v = digs b v ++ List.replicate z 0
  | 0, v, h => ⟨0, by have : v = 0 := by simpa using h
                      subst this; simp [pad, digs_zero]⟩
  | k + 1, v, h => by
    by_cases h0 : v = 0
    · subst h0; exact ⟨k + 1, by rw [pad_zero, digs_zero]; rfl⟩
    · obtain ⟨z, hz⟩ := pad_digs hb k (v / b) (by rw [Nat.pow_succ, Nat.mul_comm] at h; exact Nat.div_lt_of_lt_mul h)
      exact ⟨z, by rw [pad, hz, digs_step hb h0]; rfl⟩
theorem digs_split {b : Nat} (hb : 2 ≤ b) : ∀ k v, v / b ^ k ≠ 0 → digs b v = pad b k (v % b ^ k) ++ digs b (v / b ^ k)
  | 0, v, h => by simp [pad]
  | k + 1, v, h => by
    have h0 : v ≠ 0 := by rintro rfl; simp at h
    have e1 : v / b ^ (k + 1) = v / b / b ^ k := by rw [Nat.pow_succ, Nat.mul_comm, Nat.div_div_eq_div_mul]
    have e2 : v % b ^ (k + 1) % b = v % b := Nat.mod_mod_of_dvd _ ⟨b ^ k, by rw [Nat.pow_succ, Nat.mul_comm]⟩
    have e3 : v % b ^ (k + 1) / b = v / b % b ^ k := by rw [Nat.pow_succ, Nat.mul_comm, Nat.mod_mul_right_div_self]
    rw [digs_step hb h0, pad, e1, e2, e3, digs_split hb k (v / b) (by rw [← e1]; exact h)]
    rfl

def flat (b k : Nat) (l : List Nat) : List Nat := l.flatMap (pad b k)
theorem flat_digs {b k : Nat} (hb : 2 ≤ b) (hk : 1 ≤ k) : ∀ v, ∃ z, flat b k (digs (b ^ k) v) = digs b v ++ List.replicate z 0 := by
  have hp : 2 ≤ b ^ k := Nat.le_trans hb (by simpa using Nat.pow_le_pow_right (show 0 < b by omega) hk)
  intro v
  induction v using Nat.strongRecOn with
  | _ v ih =>
    by_cases h0 : v = 0
    · subst h0; exact ⟨0, by simp [digs_zero, flat]⟩
    · rw [digs_step hp h0]
      obtain ⟨z, hz⟩ := ih (v / b ^ k) (Nat.div_lt_self (by omega) (by omega))
      by_cases h1 : v / b ^ k = 0
      · rw [h1, digs_zero]
        have hlt : v < b ^ k := by
          rcases Nat.lt_or_ge v (b ^ k) with h | h
          · exact h
          · have := Nat.div_pos h (by omega); omega
        obtain ⟨z', hz'⟩ := pad_digs hb k v hlt
        exact ⟨z', by simp only [flat, List.flatMap_cons, List.flatMap_nil, List.append_nil]; rw [Nat.mod_eq_of_lt hlt, hz']⟩
      · refine ⟨z, ?_⟩
        simp only [flat, List.flatMap_cons] at hz ⊢
        rw [hz, digs_split hb k v h1, List.append_assoc]
theorem flat_len (b k : Nat) : ∀ l : List Nat, (flat b k l).length = l.length * k
  | [] => by simp [flat]
  | d :: l => by
    have := flat_len b k l
    simp only [flat, List.flatMap_cons, List.length_append, List.length_cons, pad_len] at this ⊢
    rw [this, Nat.add_mul]; omega
theorem flat_lt {b : Nat} (hb : 2 ≤ b) (k : Nat) (l : List Nat) : ∀ x ∈ flat b k l, x < b := by
  intro x hx
  obtain ⟨d, _, h⟩ := List.mem_flatMap.1 hx
  exact pad_lt hb k d x h

/-- The letters of digits. -/
def lets (u : Bool) (l : List Nat) : List Int := l.map (letter u)
theorem lets_len (u : Bool) (l : List Nat) : (lets u l).length = l.length := List.length_map ..
theorem text_lets (b : Nat) (u : Bool) (v : Nat) : text b u v = (lets u (digs b v)).reverse := rfl
theorem lets_append (u : Bool) (a b : List Nat) : lets u (a ++ b) = lets u a ++ lets u b := List.map_append ..

/-- The highest digit is none of nought. -/
theorem digs_top {b : Nat} (hb : 2 ≤ b) : ∀ v, v ≠ 0 → (digs b v).getD ((digs b v).length - 1) 0 ≠ 0 := by
  intro v
  induction v using Nat.strongRecOn with
  | _ v ih =>
    intro h0
    rw [digs_step hb h0]
    by_cases h1 : v / b = 0
    · rw [h1, digs_zero]
      have : v % b = v := Nat.mod_eq_of_lt (by
        rcases Nat.lt_or_ge v b with h | h
        · exact h
        · have := Nat.div_pos h (by omega); omega)
      simpa [this] using h0
    · have := ih (v / b) (Nat.div_lt_self (by omega) (by omega)) h1
      have hne : (digs b (v / b)).length ≠ 0 := by rw [digs_step hb h1]; simp
      rw [List.length_cons, show (digs b (v / b)).length + 1 - 1 = ((digs b (v / b)).length - 1) + 1 by omega, List.getD_cons_succ]
      exact this

theorem letter_48 (u : Bool) {d : Nat} (hd : d < 36) (h : letter u d = 48) : d = 0 := (letter_all u ⟨d, hd⟩).2.1 h
end Go.Proofs.YtmoigffjpijpaabDoor

