import Derived.Test.YtmoigffjpijpaabVD
import Derived.Test.YtmoigffjpijpaabL0
set_option linter.unusedVariables false
set_option linter.unusedSimpArgs false
namespace Go.Proofs.Ytmoigffjpijpaab
open Go Go.PV

def toI (l : List Nat) : List Int := l.map fun d : Nat => (d : Int)
theorem toI_len (l : List Nat) : (toI l).length = l.length := List.length_map ..
theorem toI_cons (d : Nat) (l : List Nat) : toI (d :: l) = (d : Int) :: toI l := rfl

theorem times_step {p hi c : Nat} (hp : 2 ≤ p) (h : hi ≠ 0) : digs p (hi * 4294967296 + c) = ((hi % p * 4294967296 + c) % p) :: digs p (hi / p * 4294967296 + (hi % p * 4294967296 + c) / p) := by
  have e : hi * 4294967296 + c = (hi % p * 4294967296 + c) + p * (hi / p * 4294967296) := by
    have := Nat.mod_add_div hi p
    calc hi * 4294967296 + c = (hi % p + p * (hi / p)) * 4294967296 + c := by rw [this]
      _ = _ := by grind
  rw [digs_step hp (by omega), e, Nat.add_mul_mod_self_left, Nat.add_mul_div_left _ _ (by omega), Nat.add_comm (_ / p)]

theorem digs_mono {b : Nat} (hb : 2 ≤ b) : ∀ v u, v ≤ u → (digs b v).length ≤ (digs b u).length := by
  intro v
  induction v using Nat.strongRecOn with
  | _ v ih =>
    intro u hu
    by_cases h0 : v = 0
    · subst h0; simp [digs_zero]
    · rw [digs_step hb h0, digs_step hb (show u ≠ 0 by omega), List.length_cons, List.length_cons]
      have := ih (v / b) (Nat.div_lt_self (by omega) (by omega)) (u / b) (Nat.div_le_div_right hu)
      omega

theorem set_mid (a : List Int) (x y : Int) (b : List Int) : (a ++ x :: b).set a.length y = (a ++ [y]) ++ b := by
  rw [List.set_append]; simp
theorem get_mid (a : List Int) (x : Int) (b : List Int) : (a ++ x :: b).getD a.length 0 = x := by
  simp [List.getD_eq_getElem?_getD]

/-- The first loop: done is done; hi's digits are still to be multiplied. -/
def TI (p : Nat) (R : List Int) (m : Nat) (F : PV.Frame) (H : PV.Heap) : Prop :=
  ∃ (done : List Int) (hi c : Nat), done ++ toI (digs p (hi * 4294967296 + c)) = R ∧ c < 4294967296 ∧ (digs p hi).length = m ∧
    F = [(7, .int .i64 (done.length : Int)), (0, .sl 0 0 (done ++ toI (digs p hi)).length true), (1, .int .u64 (c : Int)), (2, .int .u64 (p : Int))] ∧ H = ⟨1, [(0, .ints .u64 (done ++ toI (digs p hi)))], [], []⟩
def TJ (p : Nat) (R : List Int) (m : Nat) (F : PV.Frame) (H : PV.Heap) : Prop :=
  ∃ (done : List Int), done ++ toI (digs p m) = R ∧ m < 4294967296 ∧
    F = [(0, .sl 0 0 done.length true), (1, .int .u64 (m : Int)), (2, .int .u64 (p : Int))] ∧ H = ⟨1, [(0, .ints .u64 done)], [], []⟩

end Go.Proofs.Ytmoigffjpijpaab

