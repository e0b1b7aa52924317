import Derived.Test.YtjfakpogfakicaaDoorD2
set_option linter.unusedVariables false
set_option linter.unusedSimpArgs false
namespace Go.Proofs.YtjfakpogfakicaaDoor
open Go Go.PV

abbrev fA (Y y1 y0 u m1 m0 s q r : Int) : PV.Frame := [(15, .int .u64 q), (16, .int .u64 r), (2, .int .u64 Y), (9, .int .u64 y1), (10, .int .u64 y0), (11, .int .u64 u), (13, .int .u64 m1), (14, .int .u64 m0), (8, .int .u64 s)]
abbrev fA' (Y y1 y0 u m1 m0 s : Int) : PV.Frame := [(15, .int .u64 (halfQ u y1 y0 m1)), (2, .int .u64 Y), (9, .int .u64 y1), (10, .int .u64 y0), (11, .int .u64 u), (13, .int .u64 m1), (14, .int .u64 m0), (8, .int .u64 s)]
abbrev fB (Y y1 y0 q1 u m0 s q r : Int) : PV.Frame := [(18, .int .u64 q), (16, .int .u64 r), (2, .int .u64 Y), (9, .int .u64 y1), (10, .int .u64 y0), (17, .int .u64 u), (15, .int .u64 q1), (14, .int .u64 m0), (8, .int .u64 s)]
abbrev fB' (Y y1 y0 q1 u m0 s : Int) : PV.Frame := [(18, .int .u64 (halfQ u y1 y0 m0)), (2, .int .u64 Y), (17, .int .u64 u), (15, .int .u64 q1), (14, .int .u64 m0), (8, .int .u64 s)]

/-- The state at the head of the first loop. -/
def DivA (Y y1 y0 u m1 m0 s : Int) (n : Nat) (F : PV.Frame) (H : PV.Heap) : Prop :=
  ∃ q r, Est u y1 y0 m1 q r ∧ r < 4294967296 ∧ q.toNat = n ∧ F = [(15, .int .u64 q), (16, .int .u64 r), (2, .int .u64 Y), (9, .int .u64 y1), (10, .int .u64 y0), (11, .int .u64 u), (13, .int .u64 m1), (14, .int .u64 m0), (8, .int .u64 s)] ∧ H = ⟨0, [], [], []⟩
def DivA' (Y y1 y0 u m1 m0 s : Int) (F : PV.Frame) (H : PV.Heap) : Prop :=
  F = [(15, .int .u64 (halfQ u y1 y0 m1)), (2, .int .u64 Y), (9, .int .u64 y1), (10, .int .u64 y0), (11, .int .u64 u), (13, .int .u64 m1), (14, .int .u64 m0), (8, .int .u64 s)] ∧ H = ⟨0, [], [], []⟩
/-- .. and of the second. -/
def DivB (Y y1 y0 q1 u m0 s : Int) (n : Nat) (F : PV.Frame) (H : PV.Heap) : Prop :=
  ∃ q r, Est u y1 y0 m0 q r ∧ r < 4294967296 ∧ q.toNat = n ∧ F = [(18, .int .u64 q), (16, .int .u64 r), (2, .int .u64 Y), (9, .int .u64 y1), (10, .int .u64 y0), (17, .int .u64 u), (15, .int .u64 q1), (14, .int .u64 m0), (8, .int .u64 s)] ∧ H = ⟨0, [], [], []⟩
def DivB' (Y y1 y0 q1 u m0 s : Int) (F : PV.Frame) (H : PV.Heap) : Prop :=
  F = [(18, .int .u64 (halfQ u y1 y0 m0)), (2, .int .u64 Y), (17, .int .u64 u), (15, .int .u64 q1), (14, .int .u64 m0), (8, .int .u64 s)] ∧ H = ⟨0, [], [], []⟩

end Go.Proofs.YtjfakpogfakicaaDoor

