import Derived.Test.YtmoigffjpijpaabX3
set_option linter.unusedVariables false
set_option linter.unusedSimpArgs false
namespace Go.Proofs.Ytmoigffjpijpaab
open Go Go.PV

theorem numN_cons (b : Nat) (l : List Int) : ∀ i, numN b (48 :: l) (i + 1) = numN b l i
  | 0 => by
    have e : (worth 48).toNat = 0 := by decide
    simp only [numN, List.getD_cons_zero, e]; omega
  | i + 1 => by
    have ih := numN_cons b l i
    rw [numN, ih, List.getD_cons_succ, numN]
theorem num_zeros (b : Nat) (l : List Int) : ∀ k, num b (List.replicate k 48 ++ l) = num b l
  | 0 => rfl
  | k + 1 => by
    rw [List.replicate_succ, List.cons_append, num, List.length_cons, numN_cons]
    exact num_zeros b l k

/-- What the digits with zeros ahead are. -/
structure FillOk (b : Nat) (u : Bool) (v : Nat) (p : Int) (B : List Int) : Prop where
  byte : Bytes' B
  long : p ≤ B.length
  none : v = 0 ∧ p = 0 → B = []
  some : ¬ (v = 0 ∧ p = 0) → B ≠ [] ∧ num b B = v
  dig : ∀ j, j < B.length → ∃ d : Nat, d < b ∧ B.getD j 0 = letter u d
  head : B ≠ [] → B.getD 0 0 = 48 → (B.length : Int) = p ∨ (v = 0 ∧ B = [48])

theorem dig_mem {b : Nat} {u : Bool} {B : List Int} (h : ∀ x ∈ B, ∃ d : Nat, d < b ∧ x = letter u d) : ∀ j, j < B.length → ∃ d : Nat, d < b ∧ B.getD j 0 = letter u d := fun j hj => by
  rw [List.getD_eq_getElem?_getD, List.getElem?_eq_getElem hj]; exact h _ (List.getElem_mem hj)

theorem fill_ok {b : Nat} (hb : 2 ≤ b ∧ b ≤ 36) (u : Bool) (v : Nat) {p : Int} (hp : -1 ≤ p ∧ p ≤ 4096) : FillOk b u v p (fill p (written b u v)) := by
  have hwb := written_bytes hb u v
  have hall := written_all hb u v
  have hnum := written_num hb u v
  have hz : ∀ x ∈ List.replicate p.toNat (48 : Int), ∃ d : Nat, d < b ∧ x = letter u d := fun x hx => ⟨0, by omega, by rw [List.eq_of_mem_replicate hx, letter_zero]⟩
  by_cases h : written b u v = [48] ∧ 0 ≤ p
  · have hv : v = 0 := by rw [← hnum, h.1, num_zero]
    subst hv
    have e : fill p (written b u 0) = List.replicate p.toNat 48 := if_pos h
    refine ⟨fill_byte hwb, ?_, ?_, ?_, ?_, ?_⟩ <;> rw [e]
    · rw [List.length_replicate]; omega
    · rintro ⟨-, rfl⟩; rfl
    · intro h2
      refine ⟨?_, ?_⟩
      · rw [List.ne_nil_iff_length_pos, List.length_replicate]; omega
      · have := num_zeros b [] p.toNat
        rw [List.append_nil] at this
        rw [this]; rfl
    · exact dig_mem hz
    · intro _ _; left; rw [List.length_replicate]; omega
  · have e : fill p (written b u v) = List.replicate (p.toNat - (written b u v).length) 48 ++ written b u v := if_neg h
    have hne := written_ne hb u v
    refine ⟨fill_byte hwb, ?_, ?_, ?_, ?_, ?_⟩ <;> rw [e]
    · rw [List.length_append, List.length_replicate]; omega
    · rintro ⟨rfl, rfl⟩
      exact absurd ⟨rfl, Int.le_refl 0⟩ h
    · intro _
      exact ⟨fun h => hne (List.append_eq_nil_iff.1 h).2, by rw [num_zeros, hnum]⟩
    · refine dig_mem fun x hx => ?_
      rcases List.mem_append.1 hx with h1 | h1
      · exact ⟨0, by omega, by rw [List.eq_of_mem_replicate h1, letter_zero]⟩
      · exact hall x h1
    · intro _ h48
      by_cases hlt : (written b u v).length < p.toNat
      · left; rw [List.length_append, List.length_replicate]; omega
      · rw [show p.toNat - (written b u v).length = 0 by omega] at h48 ⊢
        simp only [List.replicate_zero, List.nil_append] at h48 ⊢
        by_cases hv : v = 0
        · subst hv; exact .inr ⟨rfl, rfl⟩
        · rw [written, if_neg hv] at h48
          exact absurd h48 (text_head hb u v hv)

theorem FillOk.worth {b : Nat} (hb : 2 ≤ b ∧ b ≤ 36) {u : Bool} {v : Nat} {p : Int} {B : List Int} (h : FillOk b u v p B) : ∀ j, j < B.length → worth (B.getD j 0) < b := fun j hj => by
  obtain ⟨d, hd, e⟩ := h.dig j hj
  rw [e, (letter_all u ⟨d, by omega⟩).1]
  simp only
  omega

theorem Meets.nilArg2 {P : Program} {f : FuncId} {k : IntKind} {a : PV} {args : List PV} {res : PV} (hm : Meets P f (a :: .ints k [] :: args) res) : Meets P f (a :: .nil :: args) res := ⟨fun w A vs hA hl ha => by
  refine hm.run w A vs hA hl fun i hi => ?_
  match i with
  | 0 => exact ha 0 hi
  | 1 =>
    have h := ha 1 hi
    simp only [List.getD_cons_zero, List.getD_cons_succ] at h ⊢
    generalize vs.getD 1 undef = v at *
    cases h
    exact .intsNil k
  | i + 2 => exact ha (i + 2) hi⟩
end Go.Proofs.Ytmoigffjpijpaab

