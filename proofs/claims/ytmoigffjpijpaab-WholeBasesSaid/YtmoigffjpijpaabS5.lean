import Derived.Test.YtmoigffjpijpaabS2
set_option linter.unusedVariables false
set_option linter.unusedSimpArgs false
namespace Go.Proofs.Ytmoigffjpijpaab
open Go Go.PV

/-- Pad's text and error. -/
def padT (f w p : Int) (head body : List Int) (z : Bool) : List Int :=
  if rawE f w p ≠ 0 then [] else if 16777216 < head.length + body.length then [] else padS f (w.toNat - (head.length + body.length)) head body z
def padE (f w p : Int) (head body : List Int) : Int :=
  if rawE f w p ≠ 0 then rawE f w p else if 16777216 < head.length + body.length then 3 else 0
theorem padR_eq (f w p : Int) (head body : List Int) (z : Bool) : padR f w p head body z = .tup [.str (padT f w p head body z), .int .i64 (padE f w p head body)] := by
  unfold padR padT padE
  split
  · rfl
  · split <;> rfl

theorem Meets.nilArg {P : Program} {f : FuncId} {k : IntKind} {args : List PV} {res : PV} (hm : Meets P f (.ints k [] :: args) res) : Meets P f (.nil :: args) res := ⟨fun w A vs hA hl ha => by
  refine hm.run w A vs hA hl fun i hi => ?_
  cases i with
  | zero =>
    have h := ha 0 hi
    simp only [List.getD_cons_zero] at h ⊢
    generalize vs.getD 0 undef = v at *
    cases h
    exact .intsNil k
  | succ i => exact ha (i + 1) hi⟩

def unsDig (v : Int) (x : Nat) : List Int := written (if v = 111 then 8 else if v = 120 ∨ v = 88 then 16 else 10) (decide (v = 88)) x
def unsHead (v f : Int) (x : Nat) : List Int := if f / 8 % 2 = 1 ∧ (v = 120 ∨ v = 88) ∧ x ≠ 0 then [48, v] else []
def unsBody (v f : Int) (B : List Int) : List Int := if f / 8 % 2 = 1 ∧ v = 111 ∧ ¬ (0 < B.length ∧ B.getD 0 0 = 48) then 48 :: B else B
def unsT (v f w p : Int) (x : Nat) : List Int :=
  if checkE [111, 117, 120, 88] v f w p ≠ 0 then [] else padT f w p (unsHead v f x) (unsBody v f (fill p (unsDig v x))) (decide (p = -1))
def unsE (v f w p : Int) (x : Nat) : Int :=
  if checkE [111, 117, 120, 88] v f w p ≠ 0 then checkE [111, 117, 120, 88] v f w p else padE f w p (unsHead v f x) (unsBody v f (fill p (unsDig v x)))

theorem fill_byte {p : Int} {D : List Int} (h : Bytes' D) : Bytes' (fill p D) := by
  unfold fill
  intro x hx
  split at hx
  · have := List.eq_of_mem_replicate hx; subst this; decide
  · rcases List.mem_append.1 hx with h1 | h1
    · have := List.eq_of_mem_replicate h1; subst this; decide
    · exact h x h1

theorem one_limb (x : Nat) (hx : (x : Int) < B64) : Limbs [(x : Int)] ∧ size [(x : Int)] ≤ 4096 ∧ (val [(x : Int)]).toNat = x := by
  refine ⟨fun y hy => ?_, ?_, by rw [val_one]; rfl⟩
  · rw [List.mem_singleton] at hy; subst hy; exact ⟨by omega, hx⟩
  · have := size_le [(x : Int)]
    simp only [List.length_singleton] at this; omega

theorem in_base_one (x : Nat) (hx : (x : Int) < B64) (b : Nat) (hb : 2 ≤ b ∧ b ≤ 36) (u : Bool) : Meets Try.prog 27 [.ints .u64 [(x : Int)], .int .i64 (b : Int), .bool u] (.tup [.str (written b u x), .int .i64 0]) := by
  obtain ⟨h1, h2, h3⟩ := one_limb x hx
  have h := in_base_ok h1 (by simp) hb u h2
  rw [h3] at h; exact h
theorem written_one (x : Nat) (hx : (x : Int) < B64) {b : Nat} (hb : 2 ≤ b ∧ b ≤ 36) (u : Bool) : (written b u x).length ≤ 262144 := by
  obtain ⟨h1, h2, h3⟩ := one_limb x hx
  have h := written_len h1 h2 hb.1 u
  rw [h3] at h; exact h

end Go.Proofs.Ytmoigffjpijpaab

