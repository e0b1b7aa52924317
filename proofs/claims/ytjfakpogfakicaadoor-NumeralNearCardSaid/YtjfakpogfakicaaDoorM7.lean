import Derived.Test.YtjfakpogfakicaaDoorM6
set_option linter.unusedVariables false
set_option linter.unusedSimpArgs false
namespace Go.Proofs.YtjfakpogfakicaaDoor
open Go Go.PV

/-- One more at the end: nines become zeros. -/
def upD (row : List Int) : Nat → List Int × Bool
  | 0 => (row, true)
  | i + 1 => if row.getD i 0 = 57 then upD (row.set i 48) i else (row.set i (row.getD i 0 + 1), false)
def Digs (s : List Int) : Prop := ∀ x ∈ s, 48 ≤ x ∧ x ≤ 57
theorem digs_get {s : List Int} (h : Digs s) {i : Nat} (hi : i < s.length) : 48 ≤ s.getD i 0 ∧ s.getD i 0 ≤ 57 := by
  rw [List.getD_eq_getElem?_getD, List.getElem?_eq_getElem hi]; exact h _ (List.getElem_mem hi)
theorem digs_set {s : List Int} (h : Digs s) (i : Nat) {x : Int} (hx : 48 ≤ x ∧ x ≤ 57) : Digs (s.set i x) := fun y hy => by
  rcases List.mem_or_eq_of_mem_set hy with h1 | rfl
  · exact h y h1
  · exact hx
theorem digs_bytes {s : List Int} (h : Digs s) : Bytes' s := fun x hx => by have := h x hx; omega
theorem digs_take {s : List Int} (h : Digs s) (k : Nat) : Digs (s.take k) := fun x hx => h x (List.mem_of_mem_take hx)

/-- What half tells; z: nothing but zeros behind the first. -/
def HalfIs (n0 : Int) (mo z : Nat) (h : Int) : Prop := (n0 < 53 ∧ h = -1) ∨ (53 ≤ n0 ∧ (53 < n0 ∨ mo = 1) ∧ h = 1) ∨ (n0 = 53 ∧ mo ≠ 1 ∧ z = 1 ∧ h = 0) ∨ (n0 = 53 ∧ mo ≠ 1 ∧ z ≠ 1 ∧ h = 1)

/-- Round's answer to a good row that is cut. -/
def roundR (s : List Int) (k : Nat) (mo z : Nat) : List Int × Bool :=
  if s.getD k 0 < 53 ∨ (s.getD k 0 = 53 ∧ mo ≠ 1 ∧ z = 1 ∧ ¬ (0 < k ∧ (s.getD (k - 1) 0 - 48) % 2 = 1)) then (s.take k, false) else upD (s.take k) k

def RdI (k : Nat) (up : List Int × Bool) (a b : Nat) (m : Nat) (F : PV.Frame) (H : PV.Heap) : Prop :=
  ∃ row : List Int, row.length = k ∧ Digs row ∧ m ≤ k ∧ upD row m = up ∧ F = [(b, .int .i64 ((m : Int) - 1)), (a, .sl 0 0 k true)] ∧ H = ⟨1, [(0, .ints .u8 row)], [], []⟩

end Go.Proofs.YtjfakpogfakicaaDoor

