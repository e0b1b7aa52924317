/-
  No cell of these rows narrows 'for every input' (looked for: loops, veiled, ifaces, maps, wideKeys, modest, calm, conditions, laid).
  DERIVED. THE GIVEN ROWS OF THIS SEAT. 3 by the template 'for every input the law returns true; each argument reads behind the call as it read before'; 0 by the template 'total and deterministic' (their statements: YtmoigffjpijpaabTotals.lean).
  GIVEN WITH THE SEED: the statements are not yours to turn. If you find one false, say at which input.
  Laid BY PROGRAM, IN A SANDBOX (cutbox-rows.mjs): the forced cells as the released guide's own fill.sh prints them over the translation 98976105b94f33fd… (all of the seat's roots in one cut). By AI agents, Wed Nov 11 2026. No macro, syntax, notation, axiom, sorry.
-/
import Derived.Test.YtmoigffjpijpaabChecked
import GoSem.Claim
import GoSem.ClaimJoined
import GoSem.ClaimMapViews
import Derived.JoinedTies
import Derived.KernelRfl
namespace Go.Proofs.Ytmoigffjpijpaab
/- THE CELL 'sum', in the pinned program and in every row, IS THE sha256 OF THE DUMP (.gsa) THAT YtmoigffjpijpaabProg.lean LOADS. Nothing in Lean hashes anything: it is a label: what it is worth is what the hold of that sum in a sandbox is worth. -/
noncomputable def Try.pinned : Pinned := { name := "ytmoigffjpijpaab", sum := "98976105b94f33fde4cda417f53d66e08384b0e82938737f8e2a4e5e43b4c830", checked := Try.checked }
namespace Rows
def none {H : Type} : Left H := { results := [], args := [] }

/-- 'abacuslaw14.WholeWidens': WHATEVER THE INPUT: true; the input reads as it did. -/
def wholeWidensSpec : ChangeSpec := { name := "wholeWidens", fn := fun _ => fun
  | [d] => { results := [.lit (.bool true)], args := [d] }
  | _ => none }
def wholeWidensRow : OpenClaim := { program := "ytmoigffjpijpaab", sum := "98976105b94f33fde4cda417f53d66e08384b0e82938737f8e2a4e5e43b4c830", func := "abacus/abacuslaw14.WholeWidens", spec := "wholeWidens", inPlace := ["internal/bytealg.IndexByteString", "internal/abi.NoEscape", "internal/bytealg.MakeNoZero"], named := ["math/bits.divideError", "math/bits.overflowError"], apart := false }
def WholeWidensSaid : Prop := wholeWidensRow.holds Try.pinned (OpenSpec.ofChange wholeWidensSpec)

/-- ITS FALSE NEIGHBOUR: 'it returns false'. Refute it at one input. -/
def wholeWidensWrong : ChangeSpec := { name := "wholeWidens", fn := fun _ => fun
  | [d] => { results := [.lit (.bool false)], args := [d] }
  | _ => none }
def WholeWidensWrongFalsely : Prop := wholeWidensRow.holds Try.pinned (OpenSpec.ofChange wholeWidensWrong)

/-- 'abacuslaw14.WholeBases': WHATEVER THE INPUT: true; the input reads as it did. -/
def wholeBasesSpec : ChangeSpec := { name := "wholeBases", fn := fun _ => fun
  | [d1, d2] => { results := [.lit (.bool true)], args := [d1, d2] }
  | _ => none }
def wholeBasesRow : OpenClaim := { program := "ytmoigffjpijpaab", sum := "98976105b94f33fde4cda417f53d66e08384b0e82938737f8e2a4e5e43b4c830", func := "abacus/abacuslaw14.WholeBases", spec := "wholeBases", inPlace := ["internal/bytealg.IndexByteString", "internal/abi.NoEscape", "internal/bytealg.MakeNoZero", "math/bits.Add64"], named := ["math/bits.divideError", "math/bits.overflowError"], apart := false }
def WholeBasesSaid : Prop := wholeBasesRow.holds Try.pinned (OpenSpec.ofChange wholeBasesSpec)

/-- ITS FALSE NEIGHBOUR: 'it returns false'. Refute it at one input. -/
def wholeBasesWrong : ChangeSpec := { name := "wholeBases", fn := fun _ => fun
  | [d1, d2] => { results := [.lit (.bool false)], args := [d1, d2] }
  | _ => none }
def WholeBasesWrongFalsely : Prop := wholeBasesRow.holds Try.pinned (OpenSpec.ofChange wholeBasesWrong)

/-- 'abacuslaw14.WholeReads': WHATEVER THE INPUT: true; the input reads as it did. -/
def wholeReadsSpec : ChangeSpec := { name := "wholeReads", fn := fun _ => fun
  | [d1, d2, d3] => { results := [.lit (.bool true)], args := [d1, d2, d3] }
  | _ => none }
def wholeReadsRow : OpenClaim := { program := "ytmoigffjpijpaab", sum := "98976105b94f33fde4cda417f53d66e08384b0e82938737f8e2a4e5e43b4c830", func := "abacus/abacuslaw14.WholeReads", spec := "wholeReads", inPlace := ["internal/bytealg.IndexByteString", "internal/abi.NoEscape", "internal/bytealg.MakeNoZero", "math/bits.Add64"], named := ["math/bits.divideError", "math/bits.overflowError"], apart := false }
def WholeReadsSaid : Prop := wholeReadsRow.holds Try.pinned (OpenSpec.ofChange wholeReadsSpec)

/-- ITS FALSE NEIGHBOUR: 'it returns false'. Refute it at one input. -/
def wholeReadsWrong : ChangeSpec := { name := "wholeReads", fn := fun _ => fun
  | [d1, d2, d3] => { results := [.lit (.bool false)], args := [d1, d2, d3] }
  | _ => none }
def WholeReadsWrongFalsely : Prop := wholeReadsRow.holds Try.pinned (OpenSpec.ofChange wholeReadsWrong)

/- THE SECOND FORM. 'bulk': how many values and letters a reading holds, each counted each time it is reached (what is shared counts as often as it is met; a slice's spare places count too). A statement '..UptoSaid' is the law's where the arguments, and the package variables that the reading takes, are together of bulk at most 1048576: NARROWER than '..Said'. Prove '..Said' where nothing that the law and all that it calls make is longer than what came in: it says more and counts as full. Else prove '..UptoSaid'. A law counts once. -/
mutual
def uptoBulk {H : Type} : DataW H → Nat
  | .lit (.string bytes) => bytes.length + 1
  | .lit _ => 1
  | .nil => 1
  | .ptr d => uptoBulk d + 1
  | .slice elems spare => uptoBulkAll elems + uptoBulkAll spare + 1
  | .agg parts => uptoBulkAll parts + 1
  | .iface _ d => uptoBulk d + 1
  | .map entries => uptoBulkEntries entries + 1
  | .held _ => 1
def uptoBulkAll {H : Type} : List (DataW H) → Nat
  | [] => 0
  | d :: r => uptoBulk d + uptoBulkAll r
def uptoBulkEntries {H : Type} : List (Lit × DataW H) → Nat
  | [] => 0
  | x :: r => uptoBulkEntry x + uptoBulkEntries r
def uptoBulkEntry {H : Type} : Lit × DataW H → Nat
  | (.string bytes, d) => bytes.length + uptoBulk d + 1
  | (_, d) => uptoBulk d + 1
 end
def uptoSmall : (H : Type) → List (DataW H) → Bool := fun _ ds => decide (uptoBulkAll ds ≤ 1048576)
def OpenSpec.upto (s : _root_.Go.ChangeSpec) : _root_.Go.OpenSpec := { _root_.Go.OpenSpec.ofChange s with cond := some uptoSmall }

/-- 'abacuslaw14.WholeWidens', WHERE WHAT IT READS IS OF BULK AT MOST 1048576: true; the input reads as it did. -/
def wholeWidensUptoRow : OpenClaim := { program := "ytmoigffjpijpaab", sum := "98976105b94f33fde4cda417f53d66e08384b0e82938737f8e2a4e5e43b4c830", func := "abacus/abacuslaw14.WholeWidens", spec := "wholeWidens", inPlace := ["internal/bytealg.IndexByteString", "internal/abi.NoEscape", "internal/bytealg.MakeNoZero"], named := ["math/bits.divideError", "math/bits.overflowError"], apart := false, narrowed := true }
def WholeWidensUptoSaid : Prop := wholeWidensUptoRow.holds Try.pinned (OpenSpec.upto wholeWidensSpec)

/-- 'abacuslaw14.WholeBases', WHERE WHAT IT READS IS OF BULK AT MOST 1048576: true; the input reads as it did. -/
def wholeBasesUptoRow : OpenClaim := { program := "ytmoigffjpijpaab", sum := "98976105b94f33fde4cda417f53d66e08384b0e82938737f8e2a4e5e43b4c830", func := "abacus/abacuslaw14.WholeBases", spec := "wholeBases", inPlace := ["internal/bytealg.IndexByteString", "internal/abi.NoEscape", "internal/bytealg.MakeNoZero", "math/bits.Add64"], named := ["math/bits.divideError", "math/bits.overflowError"], apart := false, narrowed := true }
def WholeBasesUptoSaid : Prop := wholeBasesUptoRow.holds Try.pinned (OpenSpec.upto wholeBasesSpec)

/-- 'abacuslaw14.WholeReads', WHERE WHAT IT READS IS OF BULK AT MOST 1048576: true; the input reads as it did. -/
def wholeReadsUptoRow : OpenClaim := { program := "ytmoigffjpijpaab", sum := "98976105b94f33fde4cda417f53d66e08384b0e82938737f8e2a4e5e43b4c830", func := "abacus/abacuslaw14.WholeReads", spec := "wholeReads", inPlace := ["internal/bytealg.IndexByteString", "internal/abi.NoEscape", "internal/bytealg.MakeNoZero", "math/bits.Add64"], named := ["math/bits.divideError", "math/bits.overflowError"], apart := false, narrowed := true }
def WholeReadsUptoSaid : Prop := wholeReadsUptoRow.holds Try.pinned (OpenSpec.upto wholeReadsSpec)

end Rows
end Go.Proofs.Ytmoigffjpijpaab
