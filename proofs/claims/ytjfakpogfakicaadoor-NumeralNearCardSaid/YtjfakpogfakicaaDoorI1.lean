import Derived.Test.YtjfakpogfakicaaDoorC2
set_option linter.unusedVariables false
set_option linter.unusedSimpArgs false
namespace Go.Proofs.YtjfakpogfakicaaDoor
open Go Go.PV

/-- InBase's answer. -/
def inBaseR (a : List Int) (base : Int) (u : Bool) : PV :=
  if 4096 < size a then .tup [.str [], .int .i64 2] else if base < 2 ∨ 36 < base then .tup [.str [], .int .i64 32] else if size a = 0 then .tup [.str [48], .int .i64 0] else .tup [.str (text base.toNat u (val a).toNat), .int .i64 0]

theorem trim_len (a : List Int) : (trim a).length = size a := by
  have := size_le a
  simp [trim]; omega

abbrev ifO (b k : Nat) (ℓ : List Int) (n r : Nat) : PV.Frame := [(8, .sl 0 0 n true), (9, .str ℓ), (1, .int .i64 (b : Int)), (10, .int .u64 ((b ^ k : Nat) : Int)), (11, .int .i64 (k : Int)), (12, .sl 1 0 r true)]
abbrev ihO (t rev : List Int) : PV.Heap := ⟨2, [(0, .ints .u64 t), (1, .ints .u8 rev)], [], []⟩
/-- The outer loop: what is written, and what is still to be. -/
def IOut (b k : Nat) (ℓ R : List Int) (L : Nat) (m : Nat) (F : PV.Frame) (H : PV.Heap) : Prop :=
  ∃ n t rev, t.length = L ∧ n ≤ L ∧ Limbs t ∧ (n ≠ 0 → t.getD (n - 1) 0 ≠ 0) ∧ rev ++ (digs b (vt t n).toNat).map (fun d => ℓ.getD d 0) = R ∧ (vt t n).toNat = m ∧ F = ifO b k ℓ n rev.length ∧ H = ihO t rev

def IDiv (b k : Nat) (ℓ t rev : List Int) (n L : Nat) (i : Nat) (F : PV.Frame) (H : PV.Heap) : Prop :=
  ∃ t' rest, t'.length = L ∧ DivI t t' n i ((b ^ k : Nat) : Int) rest ∧ i ≤ n ∧ F = (14, .int .i64 ((i : Int) - 1)) :: (13, .int .u64 rest) :: ifO b k ℓ n rev.length ∧ H = ihO t' rev

def ITrim (b k : Nat) (ℓ t rev : List Int) (n : Nat) (T rest : Int) (i : Nat) (F : PV.Frame) (H : PV.Heap) : Prop :=
  i ≤ n ∧ vt t i = T ∧ F = (13, .int .u64 rest) :: ifO b k ℓ i rev.length ∧ H = ihO t rev

def IDig (b k : Nat) (ℓ R t : List Int) (n τ : Nat) (i : Nat) (F : PV.Frame) (H : PV.Heap) : Prop :=
  ∃ (j r : Nat) (rv : List Int), j + i = k ∧ r < b ^ i ∧ rv ++ (digs b (r + b ^ i * τ)).map (fun d => ℓ.getD d 0) = R ∧ F = (15, .int .i64 (j : Int)) :: (13, .int .u64 ((r : Nat) : Int)) :: ifO b k ℓ n rv.length ∧ H = ihO t rv

end Go.Proofs.YtjfakpogfakicaaDoor

