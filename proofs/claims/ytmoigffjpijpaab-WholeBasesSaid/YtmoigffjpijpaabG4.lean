import Derived.Test.YtmoigffjpijpaabG3
import Derived.Test.YtmoigffjpijpaabG1
set_option linter.unusedVariables false
set_option linter.unusedSimpArgs false
namespace Go.Proofs.Ytmoigffjpijpaab
open Go Go.PV

theorem and_low32 (x : Nat) (h : x < 18446744073709551616) : ibits .and .u64 (x : Int) 4294967295 = ((x % 4294967296 : Nat) : Int) := by
  have e1 : (BitVec.ofInt 64 (x : Int)).toNat = x := by
    rw [BitVec.toNat_ofInt]; omega
  have e2 : (BitVec.ofInt 64 (4294967295 : Int)).toNat = 2 ^ 32 - 1 := by decide
  have e : (BitVec.ofInt 64 (x : Int) &&& BitVec.ofInt 64 (4294967295 : Int)).toNat = x % 2 ^ 32 := by
    rw [BitVec.toNat_and, e1, e2, Nat.and_two_pow_sub_one_eq_mod]
  show IntKind.wrap .u64 ((BitVec.ofInt 64 (x : Int) &&& BitVec.ofInt 64 (4294967295 : Int)).toNat : Int) = _
  rw [e]
  have := Nat.mod_lt x (show 2 ^ 32 > 0 by decide)
  exact wrap_u64 (by omega)

/-- What InBase answers, of any row and any base. -/
def inBaseA (a : List Int) (base : Int) (u : Bool) : PV :=
  if 4096 < size a then .tup [.str [], .int .i64 2] else if base < 2 ∨ 36 < base then .tup [.str [], .int .i64 32] else .tup [.str (written base.toNat u (val a).toNat), .int .i64 0]

theorem low_le {V y z A : Nat} (h : (V * 4294967296 + y) * 4294967296 + z ≤ A) : V * 4294967296 + y ≤ A ∧ V ≤ A := by omega

abbrev gfA (a : List Int) (b k : Nat) (u : Bool) (m : Nat) (D : List Int) : PV.Frame := [(12, .int .i64 ((m : Int) - 1)), (11, .sl 0 0 D.length true), (10, .int .u64 ((b ^ k : Nat) : Int)), (9, .int .i64 (k : Int)), (0, .ints .u64 a), (1, .int .i64 (b : Int)), (2, .bool u)]
/-- The groups of what stands above limb m. -/
def GA (a : List Int) (b k n : Nat) (u : Bool) (m : Nat) (F : PV.Frame) (H : PV.Heap) : Prop :=
  ∃ (V : Nat) (D : List Int), m ≤ n ∧ vt a n = vt a m + B64 ^ m * (V : Int) ∧ D = toI (digs (b ^ k) V) ∧ F = gfA a b k u m D ∧ H = ⟨1, [(0, .ints .u64 D)], [], []⟩

abbrev gfB (b k : Nat) (u : Bool) (i : Nat) (D back : List Int) : PV.Frame := [(14, .int .i64 (i : Int)), (13, .sl 1 0 back.length true), (11, .sl 0 0 D.length true), (9, .int .i64 (k : Int)), (1, .int .i64 (b : Int)), (2, .bool u)]
abbrev ghB (D back : List Int) : PV.Heap := ⟨2, [(0, .ints .u64 D), (1, .ints .u8 back)], [], []⟩
def GB (b k : Nat) (u : Bool) (G : List Nat) (D RB : List Int) (m : Nat) (F : PV.Frame) (H : PV.Heap) : Prop :=
  ∃ (i : Nat) (back : List Int), i + m = G.length ∧ back ++ lets u (flat b k (G.drop i)) = RB ∧ F = gfB b k u i D back ∧ H = ghB D back
def GC (b k : Nat) (u : Bool) (i : Nat) (T D RB : List Int) (m : Nat) (F : PV.Frame) (H : PV.Heap) : Prop :=
  ∃ (j g : Nat) (back : List Int), j + m = k ∧ g < 2147483648 ∧ back ++ (lets u (pad b m g) ++ T) = RB ∧ F = (16, .int .i64 (j : Int)) :: (15, .int .u64 (g : Int)) :: gfB b k u i D back ∧ H = ghB D back

/-- The zeros at the end: L digits, m zeros. -/
def GD (L z : Nat) (RB : List Int) (m : Nat) (F : PV.Frame) (H : PV.Heap) : Prop :=
  m ≤ z ∧ F = [(17, .int .i64 ((L + m : Nat) : Int)), (13, .sl 1 0 RB.length true)] ∧ H = ⟨2, [(1, .ints .u8 RB)], [], []⟩
abbrev gfE (RB : List Int) (m : Nat) (out : List Int) : PV.Frame := [(19, .int .i64 ((m : Int) - 1)), (18, .sl 2 0 out.length true), (13, .sl 1 0 RB.length true)]
abbrev ghE (RB out : List Int) : PV.Heap := ⟨3, [(1, .ints .u8 RB), (2, .ints .u8 out)], [], []⟩
def GE (L : Nat) (RB T : List Int) (m : Nat) (F : PV.Frame) (H : PV.Heap) : Prop :=
  ∃ out : List Int, m ≤ L ∧ out ++ (T.take m).reverse = T.reverse ∧ F = gfE RB m out ∧ H = ghE RB out

end Go.Proofs.Ytmoigffjpijpaab

