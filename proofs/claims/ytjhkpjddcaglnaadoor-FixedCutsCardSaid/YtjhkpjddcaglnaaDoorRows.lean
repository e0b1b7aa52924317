/-
  NARROWER THAN 'FOR EVERY INPUT', by the rows' own cells (each row's printed sentence says how): NumeralNear: laid · FixedAlls: laid · FixedExact: laid · FixedPlaces: laid · FixedHeads: laid · FixedCuts: laid · FixedNearest: laid.
  DERIVED. THE GIVEN ROWS OF THIS SEAT. 7 by the template 'for every input the law returns true; each argument reads behind the call as it read before'; 0 by the template 'total and deterministic' (their statements: YtjhkpjddcaglnaaDoorTotals.lean).
  GIVEN WITH THE SEED: the statements are not yours to turn. If you find one false, say at which input.
  Laid BY PROGRAM, IN A SANDBOX (cutbox-rows.mjs): the forced cells as the released guide's own fill.sh prints them over the translation d823f5b014742f93… (all of the seat's roots in one cut). By AI agents, Wed Nov 11 2026. No macro, syntax, notation, axiom, sorry.
-/
import Derived.Test.YtjhkpjddcaglnaaDoorChecked
import GoSem.PinnedTables
import GoSem.Claim
import GoSem.ClaimJoined
import GoSem.ClaimMapViews
import Derived.JoinedTies
import Derived.KernelRfl
namespace Go.Proofs.YtjhkpjddcaglnaaDoor
/- THE CELL 'sum', in the pinned program and in every row, IS THE sha256 OF THE DUMP (.gsa) THAT YtjhkpjddcaglnaaDoorProg.lean LOADS. Nothing in Lean hashes anything: it is a label: what it is worth is what the hold of that sum in a sandbox is worth. -/
noncomputable def Tryd.pinned : Pinned := { name := "ytjhkpjddcaglnaadoor", sum := "d823f5b014742f93f4cf3073f4c9fa34f93f4204f335b0864034bda257bf9609", checked := Tryd.checked }
namespace Rows
def none {H : Type} : Left H := { results := [], args := [] }

/- WHAT THE LISTED PACKAGE-LEVEL VARIABLES READ AS WHEN THE CALL BEGINS. Each datum BY PROGRAM (the guide's laid-datum.mjs) off the statement by which the dump's own 'gosem.cut.vars' lays the variable. In a bare row this is a premise. The card (YtjhkpjddcaglnaaDoorCards.lean) ties it to the program's text. -/
def laid_unicode_utf8_acceptRanges {H : Type} : DataW H := .agg [.agg [.lit (.int .u8 128), .lit (.int .u8 191)], .agg [.lit (.int .u8 160), .lit (.int .u8 191)], .agg [.lit (.int .u8 128), .lit (.int .u8 159)], .agg [.lit (.int .u8 144), .lit (.int .u8 191)], .agg [.lit (.int .u8 128), .lit (.int .u8 143)], .agg [.lit (.int .u8 0), .lit (.int .u8 0)], .agg [.lit (.int .u8 0), .lit (.int .u8 0)], .agg [.lit (.int .u8 0), .lit (.int .u8 0)], .agg [.lit (.int .u8 0), .lit (.int .u8 0)], .agg [.lit (.int .u8 0), .lit (.int .u8 0)], .agg [.lit (.int .u8 0), .lit (.int .u8 0)], .agg [.lit (.int .u8 0), .lit (.int .u8 0)], .agg [.lit (.int .u8 0), .lit (.int .u8 0)], .agg [.lit (.int .u8 0), .lit (.int .u8 0)], .agg [.lit (.int .u8 0), .lit (.int .u8 0)], .agg [.lit (.int .u8 0), .lit (.int .u8 0)]]
/-- One of Go's own tables, pinned by name: the form's constant. -/
def laid_unicode_utf8_first : DataW Unit := Go.Pinned.utf8First
def laid_math_bits_deBruijn64tab {H : Type} : DataW H := .agg [.lit (.int .u8 0), .lit (.int .u8 1), .lit (.int .u8 56), .lit (.int .u8 2), .lit (.int .u8 57), .lit (.int .u8 49), .lit (.int .u8 28), .lit (.int .u8 3), .lit (.int .u8 61), .lit (.int .u8 58), .lit (.int .u8 42), .lit (.int .u8 50), .lit (.int .u8 38), .lit (.int .u8 29), .lit (.int .u8 17), .lit (.int .u8 4), .lit (.int .u8 62), .lit (.int .u8 47), .lit (.int .u8 59), .lit (.int .u8 36), .lit (.int .u8 45), .lit (.int .u8 43), .lit (.int .u8 51), .lit (.int .u8 22), .lit (.int .u8 53), .lit (.int .u8 39), .lit (.int .u8 33), .lit (.int .u8 30), .lit (.int .u8 24), .lit (.int .u8 18), .lit (.int .u8 12), .lit (.int .u8 5), .lit (.int .u8 63), .lit (.int .u8 55), .lit (.int .u8 48), .lit (.int .u8 27), .lit (.int .u8 60), .lit (.int .u8 41), .lit (.int .u8 37), .lit (.int .u8 16), .lit (.int .u8 46), .lit (.int .u8 35), .lit (.int .u8 44), .lit (.int .u8 21), .lit (.int .u8 52), .lit (.int .u8 32), .lit (.int .u8 23), .lit (.int .u8 11), .lit (.int .u8 54), .lit (.int .u8 26), .lit (.int .u8 40), .lit (.int .u8 15), .lit (.int .u8 34), .lit (.int .u8 20), .lit (.int .u8 31), .lit (.int .u8 10), .lit (.int .u8 25), .lit (.int .u8 14), .lit (.int .u8 19), .lit (.int .u8 9), .lit (.int .u8 13), .lit (.int .u8 8), .lit (.int .u8 7), .lit (.int .u8 6)]

/-- 'abacuslaw03.NumeralNear': WHATEVER THE INPUT: true; the input reads as it did. -/
def numeralNearSpec : ChangeSpec := { name := "numeralNear", fn := fun _ => fun
  | [d1, d2, d3] => { results := [.lit (.bool true)], args := [d1, d2, d3] }
  | _ => none }
def numeralNearRow : OpenClaim := { program := "ytjhkpjddcaglnaadoor", sum := "d823f5b014742f93f4cf3073f4c9fa34f93f4204f335b0864034bda257bf9609", func := "abacus/abacuslaw03.NumeralNear", spec := "numeralNear", inPlace := ["internal/bytealg.IndexByteString", "internal/bytealg.IndexString", "math/bits.Add64", "math/bits.Sub64"], named := ["unicode/utf8.first", "unicode/utf8.acceptRanges", "internal/bytealg.MaxLen"], apart := false, laid := [("unicode/utf8.acceptRanges", laid_unicode_utf8_acceptRanges), ("unicode/utf8.first", laid_unicode_utf8_first)] }
def NumeralNearSaid : Prop := numeralNearRow.holds Tryd.pinned (OpenSpec.ofChange numeralNearSpec)

/-- ITS FALSE NEIGHBOUR: 'it returns false'. Refute it at one input. -/
def numeralNearWrong : ChangeSpec := { name := "numeralNear", fn := fun _ => fun
  | [d1, d2, d3] => { results := [.lit (.bool false)], args := [d1, d2, d3] }
  | _ => none }
def NumeralNearWrongFalsely : Prop := numeralNearRow.holds Tryd.pinned (OpenSpec.ofChange numeralNearWrong)

/-- 'abacuslaw11.FixedAlls': WHATEVER THE INPUT: true; the input reads as it did. -/
def fixedAllsSpec : ChangeSpec := { name := "fixedAlls", fn := fun _ => fun
  | [d] => { results := [.lit (.bool true)], args := [d] }
  | _ => none }
def fixedAllsRow : OpenClaim := { program := "ytjhkpjddcaglnaadoor", sum := "d823f5b014742f93f4cf3073f4c9fa34f93f4204f335b0864034bda257bf9609", func := "abacus/abacuslaw11.FixedAlls", spec := "fixedAlls", inPlace := ["math/bits.Add64", "internal/abi.NoEscape", "internal/bytealg.IndexByteString", "internal/bytealg.IndexString"], named := ["math/bits.deBruijn64tab", "math/bits.divideError", "math/bits.overflowError", "unicode/utf8.first", "unicode/utf8.acceptRanges", "internal/bytealg.MaxLen"], apart := false, laid := [("math/bits.deBruijn64tab", laid_math_bits_deBruijn64tab), ("unicode/utf8.acceptRanges", laid_unicode_utf8_acceptRanges), ("unicode/utf8.first", laid_unicode_utf8_first)] }
def FixedAllsSaid : Prop := fixedAllsRow.holds Tryd.pinned (OpenSpec.ofChange fixedAllsSpec)

/-- ITS FALSE NEIGHBOUR: 'it returns false'. Refute it at one input. -/
def fixedAllsWrong : ChangeSpec := { name := "fixedAlls", fn := fun _ => fun
  | [d] => { results := [.lit (.bool false)], args := [d] }
  | _ => none }
def FixedAllsWrongFalsely : Prop := fixedAllsRow.holds Tryd.pinned (OpenSpec.ofChange fixedAllsWrong)

/-- 'abacuslaw11.FixedExact': WHATEVER THE INPUT: true; the input reads as it did. -/
def fixedExactSpec : ChangeSpec := { name := "fixedExact", fn := fun _ => fun
  | [d] => { results := [.lit (.bool true)], args := [d] }
  | _ => none }
def fixedExactRow : OpenClaim := { program := "ytjhkpjddcaglnaadoor", sum := "d823f5b014742f93f4cf3073f4c9fa34f93f4204f335b0864034bda257bf9609", func := "abacus/abacuslaw11.FixedExact", spec := "fixedExact", inPlace := ["math/bits.Add64", "internal/abi.NoEscape", "internal/bytealg.IndexByteString", "internal/bytealg.IndexString"], named := ["math/bits.deBruijn64tab", "math/bits.divideError", "math/bits.overflowError", "unicode/utf8.first", "unicode/utf8.acceptRanges", "internal/bytealg.MaxLen"], apart := false, laid := [("math/bits.deBruijn64tab", laid_math_bits_deBruijn64tab), ("unicode/utf8.acceptRanges", laid_unicode_utf8_acceptRanges), ("unicode/utf8.first", laid_unicode_utf8_first)] }
def FixedExactSaid : Prop := fixedExactRow.holds Tryd.pinned (OpenSpec.ofChange fixedExactSpec)

/-- ITS FALSE NEIGHBOUR: 'it returns false'. Refute it at one input. -/
def fixedExactWrong : ChangeSpec := { name := "fixedExact", fn := fun _ => fun
  | [d] => { results := [.lit (.bool false)], args := [d] }
  | _ => none }
def FixedExactWrongFalsely : Prop := fixedExactRow.holds Tryd.pinned (OpenSpec.ofChange fixedExactWrong)

/-- 'abacuslaw11.FixedPlaces': WHATEVER THE INPUT: true; the input reads as it did. -/
def fixedPlacesSpec : ChangeSpec := { name := "fixedPlaces", fn := fun _ => fun
  | [d] => { results := [.lit (.bool true)], args := [d] }
  | _ => none }
def fixedPlacesRow : OpenClaim := { program := "ytjhkpjddcaglnaadoor", sum := "d823f5b014742f93f4cf3073f4c9fa34f93f4204f335b0864034bda257bf9609", func := "abacus/abacuslaw11.FixedPlaces", spec := "fixedPlaces", inPlace := ["math/bits.Add64", "internal/abi.NoEscape", "internal/bytealg.IndexByteString", "internal/bytealg.IndexString", "internal/bytealg.MakeNoZero"], named := ["math/bits.deBruijn64tab", "math/bits.divideError", "math/bits.overflowError", "unicode/utf8.first", "unicode/utf8.acceptRanges", "internal/bytealg.MaxLen"], apart := false, laid := [("math/bits.deBruijn64tab", laid_math_bits_deBruijn64tab), ("unicode/utf8.acceptRanges", laid_unicode_utf8_acceptRanges), ("unicode/utf8.first", laid_unicode_utf8_first)] }
def FixedPlacesSaid : Prop := fixedPlacesRow.holds Tryd.pinned (OpenSpec.ofChange fixedPlacesSpec)

/-- ITS FALSE NEIGHBOUR: 'it returns false'. Refute it at one input. -/
def fixedPlacesWrong : ChangeSpec := { name := "fixedPlaces", fn := fun _ => fun
  | [d] => { results := [.lit (.bool false)], args := [d] }
  | _ => none }
def FixedPlacesWrongFalsely : Prop := fixedPlacesRow.holds Tryd.pinned (OpenSpec.ofChange fixedPlacesWrong)

/-- 'abacuslaw11.FixedHeads': WHATEVER THE INPUT: true; the input reads as it did. -/
def fixedHeadsSpec : ChangeSpec := { name := "fixedHeads", fn := fun _ => fun
  | [d1, d2] => { results := [.lit (.bool true)], args := [d1, d2] }
  | _ => none }
def fixedHeadsRow : OpenClaim := { program := "ytjhkpjddcaglnaadoor", sum := "d823f5b014742f93f4cf3073f4c9fa34f93f4204f335b0864034bda257bf9609", func := "abacus/abacuslaw11.FixedHeads", spec := "fixedHeads", inPlace := ["math/bits.Add64", "internal/abi.NoEscape", "internal/bytealg.IndexByteString", "internal/bytealg.IndexString", "internal/bytealg.MakeNoZero"], named := ["math/bits.deBruijn64tab", "math/bits.divideError", "math/bits.overflowError", "unicode/utf8.first", "unicode/utf8.acceptRanges", "internal/bytealg.MaxLen"], apart := false, laid := [("math/bits.deBruijn64tab", laid_math_bits_deBruijn64tab), ("unicode/utf8.acceptRanges", laid_unicode_utf8_acceptRanges), ("unicode/utf8.first", laid_unicode_utf8_first)] }
def FixedHeadsSaid : Prop := fixedHeadsRow.holds Tryd.pinned (OpenSpec.ofChange fixedHeadsSpec)

/-- ITS FALSE NEIGHBOUR: 'it returns false'. Refute it at one input. -/
def fixedHeadsWrong : ChangeSpec := { name := "fixedHeads", fn := fun _ => fun
  | [d1, d2] => { results := [.lit (.bool false)], args := [d1, d2] }
  | _ => none }
def FixedHeadsWrongFalsely : Prop := fixedHeadsRow.holds Tryd.pinned (OpenSpec.ofChange fixedHeadsWrong)

/-- 'abacuslaw11.FixedCuts': WHATEVER THE INPUT: true; the input reads as it did. -/
def fixedCutsSpec : ChangeSpec := { name := "fixedCuts", fn := fun _ => fun
  | [d1, d2] => { results := [.lit (.bool true)], args := [d1, d2] }
  | _ => none }
def fixedCutsRow : OpenClaim := { program := "ytjhkpjddcaglnaadoor", sum := "d823f5b014742f93f4cf3073f4c9fa34f93f4204f335b0864034bda257bf9609", func := "abacus/abacuslaw11.FixedCuts", spec := "fixedCuts", inPlace := ["math/bits.Add64", "internal/abi.NoEscape", "internal/bytealg.IndexByteString", "internal/bytealg.IndexString", "internal/bytealg.MakeNoZero"], named := ["math/bits.deBruijn64tab", "math/bits.divideError", "math/bits.overflowError", "unicode/utf8.first", "unicode/utf8.acceptRanges", "internal/bytealg.MaxLen"], apart := false, laid := [("math/bits.deBruijn64tab", laid_math_bits_deBruijn64tab), ("unicode/utf8.acceptRanges", laid_unicode_utf8_acceptRanges), ("unicode/utf8.first", laid_unicode_utf8_first)] }
def FixedCutsSaid : Prop := fixedCutsRow.holds Tryd.pinned (OpenSpec.ofChange fixedCutsSpec)

/-- ITS FALSE NEIGHBOUR: 'it returns false'. Refute it at one input. -/
def fixedCutsWrong : ChangeSpec := { name := "fixedCuts", fn := fun _ => fun
  | [d1, d2] => { results := [.lit (.bool false)], args := [d1, d2] }
  | _ => none }
def FixedCutsWrongFalsely : Prop := fixedCutsRow.holds Tryd.pinned (OpenSpec.ofChange fixedCutsWrong)

/-- 'abacuslaw11.FixedNearest': WHATEVER THE INPUT: true; the input reads as it did. -/
def fixedNearestSpec : ChangeSpec := { name := "fixedNearest", fn := fun _ => fun
  | [d1, d2] => { results := [.lit (.bool true)], args := [d1, d2] }
  | _ => none }
def fixedNearestRow : OpenClaim := { program := "ytjhkpjddcaglnaadoor", sum := "d823f5b014742f93f4cf3073f4c9fa34f93f4204f335b0864034bda257bf9609", func := "abacus/abacuslaw11.FixedNearest", spec := "fixedNearest", inPlace := ["math/bits.Add64", "internal/abi.NoEscape", "internal/bytealg.IndexByteString", "internal/bytealg.IndexString", "internal/bytealg.MakeNoZero", "math/bits.Sub64"], named := ["math/bits.deBruijn64tab", "math/bits.divideError", "math/bits.overflowError", "unicode/utf8.first", "unicode/utf8.acceptRanges", "internal/bytealg.MaxLen"], apart := false, laid := [("math/bits.deBruijn64tab", laid_math_bits_deBruijn64tab), ("unicode/utf8.acceptRanges", laid_unicode_utf8_acceptRanges), ("unicode/utf8.first", laid_unicode_utf8_first)] }
def FixedNearestSaid : Prop := fixedNearestRow.holds Tryd.pinned (OpenSpec.ofChange fixedNearestSpec)

/-- ITS FALSE NEIGHBOUR: 'it returns false'. Refute it at one input. -/
def fixedNearestWrong : ChangeSpec := { name := "fixedNearest", fn := fun _ => fun
  | [d1, d2] => { results := [.lit (.bool false)], args := [d1, d2] }
  | _ => none }
def FixedNearestWrongFalsely : Prop := fixedNearestRow.holds Tryd.pinned (OpenSpec.ofChange fixedNearestWrong)

/- THE SECOND FORM. 'bulk': how many values and letters a reading holds, each counted each time it is reached (what is shared counts as often as it is met; a slice's spare places count too). A statement '..UptoSaid' is the law's where the arguments, and the package variables that the reading takes, are together of bulk at most 1048576: NARROWER than '..Said'. Prove '..Said' where nothing that the law and all that it calls make is longer than what came in: it says more and counts as full. Else prove '..UptoSaid'. A law counts once. -/
mutual
def uptoBulk {H : Type} : DataW H → Nat
  | .lit (.string bytes) => bytes.length + 1
  | .lit _ => 1
  | .nil => 1
  | .ptr d => uptoBulk d + 1
  | .slice elems spare => uptoBulkAll elems + uptoBulkAll spare + 1
  | .agg parts => uptoBulkAll parts + 1
  | .iface _ d => uptoBulk d + 1
  | .map entries => uptoBulkEntries entries + 1
  | .held _ => 1
def uptoBulkAll {H : Type} : List (DataW H) → Nat
  | [] => 0
  | d :: r => uptoBulk d + uptoBulkAll r
def uptoBulkEntries {H : Type} : List (Lit × DataW H) → Nat
  | [] => 0
  | x :: r => uptoBulkEntry x + uptoBulkEntries r
def uptoBulkEntry {H : Type} : Lit × DataW H → Nat
  | (.string bytes, d) => bytes.length + uptoBulk d + 1
  | (_, d) => uptoBulk d + 1
 end
def uptoSmall : (H : Type) → List (DataW H) → Bool := fun _ ds => decide (uptoBulkAll ds ≤ 1048576)
def OpenSpec.upto (s : _root_.Go.ChangeSpec) : _root_.Go.OpenSpec := { _root_.Go.OpenSpec.ofChange s with cond := some uptoSmall }

/-- 'abacuslaw03.NumeralNear', WHERE WHAT IT READS IS OF BULK AT MOST 1048576: true; the input reads as it did. -/
def numeralNearUptoRow : OpenClaim := { program := "ytjhkpjddcaglnaadoor", sum := "d823f5b014742f93f4cf3073f4c9fa34f93f4204f335b0864034bda257bf9609", func := "abacus/abacuslaw03.NumeralNear", spec := "numeralNear", inPlace := ["internal/bytealg.IndexByteString", "internal/bytealg.IndexString", "math/bits.Add64", "math/bits.Sub64"], named := ["unicode/utf8.first", "unicode/utf8.acceptRanges", "internal/bytealg.MaxLen"], apart := false, laid := [("unicode/utf8.acceptRanges", laid_unicode_utf8_acceptRanges), ("unicode/utf8.first", laid_unicode_utf8_first)], narrowed := true }
def NumeralNearUptoSaid : Prop := numeralNearUptoRow.holds Tryd.pinned (OpenSpec.upto numeralNearSpec)

/-- 'abacuslaw11.FixedAlls', WHERE WHAT IT READS IS OF BULK AT MOST 1048576: true; the input reads as it did. -/
def fixedAllsUptoRow : OpenClaim := { program := "ytjhkpjddcaglnaadoor", sum := "d823f5b014742f93f4cf3073f4c9fa34f93f4204f335b0864034bda257bf9609", func := "abacus/abacuslaw11.FixedAlls", spec := "fixedAlls", inPlace := ["math/bits.Add64", "internal/abi.NoEscape", "internal/bytealg.IndexByteString", "internal/bytealg.IndexString"], named := ["math/bits.deBruijn64tab", "math/bits.divideError", "math/bits.overflowError", "unicode/utf8.first", "unicode/utf8.acceptRanges", "internal/bytealg.MaxLen"], apart := false, laid := [("math/bits.deBruijn64tab", laid_math_bits_deBruijn64tab), ("unicode/utf8.acceptRanges", laid_unicode_utf8_acceptRanges), ("unicode/utf8.first", laid_unicode_utf8_first)], narrowed := true }
def FixedAllsUptoSaid : Prop := fixedAllsUptoRow.holds Tryd.pinned (OpenSpec.upto fixedAllsSpec)

/-- 'abacuslaw11.FixedExact', WHERE WHAT IT READS IS OF BULK AT MOST 1048576: true; the input reads as it did. -/
def fixedExactUptoRow : OpenClaim := { program := "ytjhkpjddcaglnaadoor", sum := "d823f5b014742f93f4cf3073f4c9fa34f93f4204f335b0864034bda257bf9609", func := "abacus/abacuslaw11.FixedExact", spec := "fixedExact", inPlace := ["math/bits.Add64", "internal/abi.NoEscape", "internal/bytealg.IndexByteString", "internal/bytealg.IndexString"], named := ["math/bits.deBruijn64tab", "math/bits.divideError", "math/bits.overflowError", "unicode/utf8.first", "unicode/utf8.acceptRanges", "internal/bytealg.MaxLen"], apart := false, laid := [("math/bits.deBruijn64tab", laid_math_bits_deBruijn64tab), ("unicode/utf8.acceptRanges", laid_unicode_utf8_acceptRanges), ("unicode/utf8.first", laid_unicode_utf8_first)], narrowed := true }
def FixedExactUptoSaid : Prop := fixedExactUptoRow.holds Tryd.pinned (OpenSpec.upto fixedExactSpec)

/-- 'abacuslaw11.FixedPlaces', WHERE WHAT IT READS IS OF BULK AT MOST 1048576: true; the input reads as it did. -/
def fixedPlacesUptoRow : OpenClaim := { program := "ytjhkpjddcaglnaadoor", sum := "d823f5b014742f93f4cf3073f4c9fa34f93f4204f335b0864034bda257bf9609", func := "abacus/abacuslaw11.FixedPlaces", spec := "fixedPlaces", inPlace := ["math/bits.Add64", "internal/abi.NoEscape", "internal/bytealg.IndexByteString", "internal/bytealg.IndexString", "internal/bytealg.MakeNoZero"], named := ["math/bits.deBruijn64tab", "math/bits.divideError", "math/bits.overflowError", "unicode/utf8.first", "unicode/utf8.acceptRanges", "internal/bytealg.MaxLen"], apart := false, laid := [("math/bits.deBruijn64tab", laid_math_bits_deBruijn64tab), ("unicode/utf8.acceptRanges", laid_unicode_utf8_acceptRanges), ("unicode/utf8.first", laid_unicode_utf8_first)], narrowed := true }
def FixedPlacesUptoSaid : Prop := fixedPlacesUptoRow.holds Tryd.pinned (OpenSpec.upto fixedPlacesSpec)

/-- 'abacuslaw11.FixedHeads', WHERE WHAT IT READS IS OF BULK AT MOST 1048576: true; the input reads as it did. -/
def fixedHeadsUptoRow : OpenClaim := { program := "ytjhkpjddcaglnaadoor", sum := "d823f5b014742f93f4cf3073f4c9fa34f93f4204f335b0864034bda257bf9609", func := "abacus/abacuslaw11.FixedHeads", spec := "fixedHeads", inPlace := ["math/bits.Add64", "internal/abi.NoEscape", "internal/bytealg.IndexByteString", "internal/bytealg.IndexString", "internal/bytealg.MakeNoZero"], named := ["math/bits.deBruijn64tab", "math/bits.divideError", "math/bits.overflowError", "unicode/utf8.first", "unicode/utf8.acceptRanges", "internal/bytealg.MaxLen"], apart := false, laid := [("math/bits.deBruijn64tab", laid_math_bits_deBruijn64tab), ("unicode/utf8.acceptRanges", laid_unicode_utf8_acceptRanges), ("unicode/utf8.first", laid_unicode_utf8_first)], narrowed := true }
def FixedHeadsUptoSaid : Prop := fixedHeadsUptoRow.holds Tryd.pinned (OpenSpec.upto fixedHeadsSpec)

/-- 'abacuslaw11.FixedCuts', WHERE WHAT IT READS IS OF BULK AT MOST 1048576: true; the input reads as it did. -/
def fixedCutsUptoRow : OpenClaim := { program := "ytjhkpjddcaglnaadoor", sum := "d823f5b014742f93f4cf3073f4c9fa34f93f4204f335b0864034bda257bf9609", func := "abacus/abacuslaw11.FixedCuts", spec := "fixedCuts", inPlace := ["math/bits.Add64", "internal/abi.NoEscape", "internal/bytealg.IndexByteString", "internal/bytealg.IndexString", "internal/bytealg.MakeNoZero"], named := ["math/bits.deBruijn64tab", "math/bits.divideError", "math/bits.overflowError", "unicode/utf8.first", "unicode/utf8.acceptRanges", "internal/bytealg.MaxLen"], apart := false, laid := [("math/bits.deBruijn64tab", laid_math_bits_deBruijn64tab), ("unicode/utf8.acceptRanges", laid_unicode_utf8_acceptRanges), ("unicode/utf8.first", laid_unicode_utf8_first)], narrowed := true }
def FixedCutsUptoSaid : Prop := fixedCutsUptoRow.holds Tryd.pinned (OpenSpec.upto fixedCutsSpec)

/-- 'abacuslaw11.FixedNearest', WHERE WHAT IT READS IS OF BULK AT MOST 1048576: true; the input reads as it did. -/
def fixedNearestUptoRow : OpenClaim := { program := "ytjhkpjddcaglnaadoor", sum := "d823f5b014742f93f4cf3073f4c9fa34f93f4204f335b0864034bda257bf9609", func := "abacus/abacuslaw11.FixedNearest", spec := "fixedNearest", inPlace := ["math/bits.Add64", "internal/abi.NoEscape", "internal/bytealg.IndexByteString", "internal/bytealg.IndexString", "internal/bytealg.MakeNoZero", "math/bits.Sub64"], named := ["math/bits.deBruijn64tab", "math/bits.divideError", "math/bits.overflowError", "unicode/utf8.first", "unicode/utf8.acceptRanges", "internal/bytealg.MaxLen"], apart := false, laid := [("math/bits.deBruijn64tab", laid_math_bits_deBruijn64tab), ("unicode/utf8.acceptRanges", laid_unicode_utf8_acceptRanges), ("unicode/utf8.first", laid_unicode_utf8_first)], narrowed := true }
def FixedNearestUptoSaid : Prop := fixedNearestUptoRow.holds Tryd.pinned (OpenSpec.upto fixedNearestSpec)

end Rows
end Go.Proofs.YtjhkpjddcaglnaaDoor
