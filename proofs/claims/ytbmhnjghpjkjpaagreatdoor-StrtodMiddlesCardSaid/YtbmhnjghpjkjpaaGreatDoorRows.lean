/-
  NARROWER THAN 'FOR EVERY INPUT', by the rows' own cells (each row's printed sentence says how): CoreReads: laid · CoreRoads: laid · QuickAll: laid · StrtodRoads: laid · CoreOrders: laid · StrtodFraming: laid · StrtodForms: laid · StrtodNearest: laid · StrtodExact: laid · StrtodMiddles: laid · StrtodRising: laid.
  DERIVED. THE GIVEN ROWS OF THIS SEAT. 11 by the template 'for every input the law returns true; each argument reads behind the call as it read before'; 0 by the template 'total and deterministic' (their statements: YtbmhnjghpjkjpaaGreatDoorTotals.lean).
  GIVEN WITH THE SEED: the statements are not yours to turn. If you find one false, say at which input.
  Laid BY PROGRAM, IN A SANDBOX (cutbox-rows.mjs): the forced cells as the released guide's own fill.sh prints them over the translation 34f95d39250bdeea… (all of the seat's roots in one cut). By AI agents, Wed Nov 11 2026. No macro, syntax, notation, axiom, sorry.
-/
import Derived.Test.YtbmhnjghpjkjpaaGreatDoorChecked
import GoSem.PinnedTables
import GoSem.Claim
import GoSem.ClaimJoined
import GoSem.ClaimMapViews
import Derived.JoinedTies
import Derived.KernelRfl
namespace Go.Proofs.YtbmhnjghpjkjpaaGreatDoor
/- THE CELL 'sum', in the pinned program and in every row, IS THE sha256 OF THE DUMP (.gsa) THAT YtbmhnjghpjkjpaaGreatDoorProg.lean LOADS. Nothing in Lean hashes anything: it is a label: what it is worth is what the hold of that sum in a sandbox is worth. -/
noncomputable def Tryz.pinned : Pinned := { name := "ytbmhnjghpjkjpaagreatdoor", sum := "34f95d39250bdeead821b97736c75d90e35cc19da5e91d6137897f27d7948e6a", checked := Tryz.checked }
namespace Rows
def none {H : Type} : Left H := { results := [], args := [] }

/- WHAT THE LISTED PACKAGE-LEVEL VARIABLES READ AS WHEN THE CALL BEGINS. Each datum BY PROGRAM (the guide's laid-datum.mjs) off the statement by which the dump's own 'gosem.cut.vars' lays the variable. In a bare row this is a premise. The card (YtbmhnjghpjkjpaaGreatDoorCards.lean) ties it to the program's text. -/
def laid_unicode_utf8_acceptRanges {H : Type} : DataW H := .agg [.agg [.lit (.int .u8 128), .lit (.int .u8 191)], .agg [.lit (.int .u8 160), .lit (.int .u8 191)], .agg [.lit (.int .u8 128), .lit (.int .u8 159)], .agg [.lit (.int .u8 144), .lit (.int .u8 191)], .agg [.lit (.int .u8 128), .lit (.int .u8 143)], .agg [.lit (.int .u8 0), .lit (.int .u8 0)], .agg [.lit (.int .u8 0), .lit (.int .u8 0)], .agg [.lit (.int .u8 0), .lit (.int .u8 0)], .agg [.lit (.int .u8 0), .lit (.int .u8 0)], .agg [.lit (.int .u8 0), .lit (.int .u8 0)], .agg [.lit (.int .u8 0), .lit (.int .u8 0)], .agg [.lit (.int .u8 0), .lit (.int .u8 0)], .agg [.lit (.int .u8 0), .lit (.int .u8 0)], .agg [.lit (.int .u8 0), .lit (.int .u8 0)], .agg [.lit (.int .u8 0), .lit (.int .u8 0)], .agg [.lit (.int .u8 0), .lit (.int .u8 0)]]
/-- One of Go's own tables, pinned by name: the form's constant. -/
def laid_unicode_utf8_first : DataW Unit := Go.Pinned.utf8First
def laid_math_bits_deBruijn64tab {H : Type} : DataW H := .agg [.lit (.int .u8 0), .lit (.int .u8 1), .lit (.int .u8 56), .lit (.int .u8 2), .lit (.int .u8 57), .lit (.int .u8 49), .lit (.int .u8 28), .lit (.int .u8 3), .lit (.int .u8 61), .lit (.int .u8 58), .lit (.int .u8 42), .lit (.int .u8 50), .lit (.int .u8 38), .lit (.int .u8 29), .lit (.int .u8 17), .lit (.int .u8 4), .lit (.int .u8 62), .lit (.int .u8 47), .lit (.int .u8 59), .lit (.int .u8 36), .lit (.int .u8 45), .lit (.int .u8 43), .lit (.int .u8 51), .lit (.int .u8 22), .lit (.int .u8 53), .lit (.int .u8 39), .lit (.int .u8 33), .lit (.int .u8 30), .lit (.int .u8 24), .lit (.int .u8 18), .lit (.int .u8 12), .lit (.int .u8 5), .lit (.int .u8 63), .lit (.int .u8 55), .lit (.int .u8 48), .lit (.int .u8 27), .lit (.int .u8 60), .lit (.int .u8 41), .lit (.int .u8 37), .lit (.int .u8 16), .lit (.int .u8 46), .lit (.int .u8 35), .lit (.int .u8 44), .lit (.int .u8 21), .lit (.int .u8 52), .lit (.int .u8 32), .lit (.int .u8 23), .lit (.int .u8 11), .lit (.int .u8 54), .lit (.int .u8 26), .lit (.int .u8 40), .lit (.int .u8 15), .lit (.int .u8 34), .lit (.int .u8 20), .lit (.int .u8 31), .lit (.int .u8 10), .lit (.int .u8 25), .lit (.int .u8 14), .lit (.int .u8 19), .lit (.int .u8 9), .lit (.int .u8 13), .lit (.int .u8 8), .lit (.int .u8 7), .lit (.int .u8 6)]

/-- 'abacustop.CoreReads': WHATEVER THE INPUT: true; the input reads as it did. -/
def coreReadsSpec : ChangeSpec := { name := "coreReads", fn := fun _ => fun
  | [d] => { results := [.lit (.bool true)], args := [d] }
  | _ => none }
def coreReadsRow : OpenClaim := { program := "ytbmhnjghpjkjpaagreatdoor", sum := "34f95d39250bdeead821b97736c75d90e35cc19da5e91d6137897f27d7948e6a", func := "abacus/abacustop.CoreReads", spec := "coreReads", inPlace := ["internal/bytealg.IndexByteString", "internal/bytealg.IndexString"], unfollowed := true, recurses := true, named := ["unicode/utf8.first", "unicode/utf8.acceptRanges", "internal/bytealg.MaxLen"], apart := false, laid := [("unicode/utf8.acceptRanges", laid_unicode_utf8_acceptRanges), ("unicode/utf8.first", laid_unicode_utf8_first)] }
def CoreReadsSaid : Prop := coreReadsRow.holds Tryz.pinned (OpenSpec.ofChange coreReadsSpec)

/-- ITS FALSE NEIGHBOUR: 'it returns false'. Refute it at one input. -/
def coreReadsWrong : ChangeSpec := { name := "coreReads", fn := fun _ => fun
  | [d] => { results := [.lit (.bool false)], args := [d] }
  | _ => none }
def CoreReadsWrongFalsely : Prop := coreReadsRow.holds Tryz.pinned (OpenSpec.ofChange coreReadsWrong)

/-- 'abacustop.CoreRoads': WHATEVER THE INPUT: true; the input reads as it did. -/
def coreRoadsSpec : ChangeSpec := { name := "coreRoads", fn := fun _ => fun
  | [d] => { results := [.lit (.bool true)], args := [d] }
  | _ => none }
def coreRoadsRow : OpenClaim := { program := "ytbmhnjghpjkjpaagreatdoor", sum := "34f95d39250bdeead821b97736c75d90e35cc19da5e91d6137897f27d7948e6a", func := "abacus/abacustop.CoreRoads", spec := "coreRoads", inPlace := ["internal/bytealg.IndexByteString", "internal/bytealg.IndexString", "math/bits.Add64", "math/bits.Sub64"], unfollowed := true, recurses := true, named := ["unicode/utf8.first", "unicode/utf8.acceptRanges", "math/bits.deBruijn64tab", "math/bits.divideError", "math/bits.overflowError", "internal/bytealg.MaxLen"], apart := false, laid := [("math/bits.deBruijn64tab", laid_math_bits_deBruijn64tab), ("unicode/utf8.acceptRanges", laid_unicode_utf8_acceptRanges), ("unicode/utf8.first", laid_unicode_utf8_first)] }
def CoreRoadsSaid : Prop := coreRoadsRow.holds Tryz.pinned (OpenSpec.ofChange coreRoadsSpec)

/-- ITS FALSE NEIGHBOUR: 'it returns false'. Refute it at one input. -/
def coreRoadsWrong : ChangeSpec := { name := "coreRoads", fn := fun _ => fun
  | [d] => { results := [.lit (.bool false)], args := [d] }
  | _ => none }
def CoreRoadsWrongFalsely : Prop := coreRoadsRow.holds Tryz.pinned (OpenSpec.ofChange coreRoadsWrong)

/-- 'abacuslaw09.QuickAll': WHATEVER THE INPUT: true; the input reads as it did. -/
def quickAllSpec : ChangeSpec := { name := "quickAll", fn := fun _ => fun
  | [d] => { results := [.lit (.bool true)], args := [d] }
  | _ => none }
def quickAllRow : OpenClaim := { program := "ytbmhnjghpjkjpaagreatdoor", sum := "34f95d39250bdeead821b97736c75d90e35cc19da5e91d6137897f27d7948e6a", func := "abacus/abacuslaw09.QuickAll", spec := "quickAll", inPlace := ["math/bits.Add64", "math/bits.Sub64", "internal/bytealg.IndexByteString", "internal/bytealg.IndexString"], recurses := true, named := ["math/bits.deBruijn64tab", "math/bits.divideError", "math/bits.overflowError", "unicode/utf8.first", "unicode/utf8.acceptRanges", "internal/bytealg.MaxLen"], apart := false, laid := [("math/bits.deBruijn64tab", laid_math_bits_deBruijn64tab), ("unicode/utf8.acceptRanges", laid_unicode_utf8_acceptRanges), ("unicode/utf8.first", laid_unicode_utf8_first)] }
def QuickAllSaid : Prop := quickAllRow.holds Tryz.pinned (OpenSpec.ofChange quickAllSpec)

/-- ITS FALSE NEIGHBOUR: 'it returns false'. Refute it at one input. -/
def quickAllWrong : ChangeSpec := { name := "quickAll", fn := fun _ => fun
  | [d] => { results := [.lit (.bool false)], args := [d] }
  | _ => none }
def QuickAllWrongFalsely : Prop := quickAllRow.holds Tryz.pinned (OpenSpec.ofChange quickAllWrong)

/-- 'abacuslaw10.StrtodRoads': WHATEVER THE INPUT: true; the input reads as it did. -/
def strtodRoadsSpec : ChangeSpec := { name := "strtodRoads", fn := fun _ => fun
  | [d1, d2] => { results := [.lit (.bool true)], args := [d1, d2] }
  | _ => none }
def strtodRoadsRow : OpenClaim := { program := "ytbmhnjghpjkjpaagreatdoor", sum := "34f95d39250bdeead821b97736c75d90e35cc19da5e91d6137897f27d7948e6a", func := "abacus/abacuslaw10.StrtodRoads", spec := "strtodRoads", inPlace := ["internal/bytealg.IndexByteString", "internal/bytealg.IndexString", "math/bits.Add64", "math/bits.Sub64"], unfollowed := true, recurses := true, named := ["unicode/utf8.first", "unicode/utf8.acceptRanges", "math/bits.deBruijn64tab", "math/bits.divideError", "math/bits.overflowError", "internal/bytealg.MaxLen"], apart := false, laid := [("math/bits.deBruijn64tab", laid_math_bits_deBruijn64tab), ("unicode/utf8.acceptRanges", laid_unicode_utf8_acceptRanges), ("unicode/utf8.first", laid_unicode_utf8_first)] }
def StrtodRoadsSaid : Prop := strtodRoadsRow.holds Tryz.pinned (OpenSpec.ofChange strtodRoadsSpec)

/-- ITS FALSE NEIGHBOUR: 'it returns false'. Refute it at one input. -/
def strtodRoadsWrong : ChangeSpec := { name := "strtodRoads", fn := fun _ => fun
  | [d1, d2] => { results := [.lit (.bool false)], args := [d1, d2] }
  | _ => none }
def StrtodRoadsWrongFalsely : Prop := strtodRoadsRow.holds Tryz.pinned (OpenSpec.ofChange strtodRoadsWrong)

/-- 'abacustop.CoreOrders': WHATEVER THE INPUT: true; the input reads as it did. -/
def coreOrdersSpec : ChangeSpec := { name := "coreOrders", fn := fun _ => fun
  | [d1, d2] => { results := [.lit (.bool true)], args := [d1, d2] }
  | _ => none }
def coreOrdersRow : OpenClaim := { program := "ytbmhnjghpjkjpaagreatdoor", sum := "34f95d39250bdeead821b97736c75d90e35cc19da5e91d6137897f27d7948e6a", func := "abacus/abacustop.CoreOrders", spec := "coreOrders", inPlace := ["internal/bytealg.IndexByteString", "internal/bytealg.IndexString", "internal/bytealg.abigen_runtime_cmpstring"], unfollowed := true, recurses := true, named := ["unicode/utf8.first", "unicode/utf8.acceptRanges", "internal/bytealg.MaxLen"], apart := false, laid := [("unicode/utf8.acceptRanges", laid_unicode_utf8_acceptRanges), ("unicode/utf8.first", laid_unicode_utf8_first)] }
def CoreOrdersSaid : Prop := coreOrdersRow.holds Tryz.pinned (OpenSpec.ofChange coreOrdersSpec)

/-- ITS FALSE NEIGHBOUR: 'it returns false'. Refute it at one input. -/
def coreOrdersWrong : ChangeSpec := { name := "coreOrders", fn := fun _ => fun
  | [d1, d2] => { results := [.lit (.bool false)], args := [d1, d2] }
  | _ => none }
def CoreOrdersWrongFalsely : Prop := coreOrdersRow.holds Tryz.pinned (OpenSpec.ofChange coreOrdersWrong)

/-- 'abacuslaw10.StrtodFraming': WHATEVER THE INPUT: true; the input reads as it did. -/
def strtodFramingSpec : ChangeSpec := { name := "strtodFraming", fn := fun _ => fun
  | [d1, d2] => { results := [.lit (.bool true)], args := [d1, d2] }
  | _ => none }
def strtodFramingRow : OpenClaim := { program := "ytbmhnjghpjkjpaagreatdoor", sum := "34f95d39250bdeead821b97736c75d90e35cc19da5e91d6137897f27d7948e6a", func := "abacus/abacuslaw10.StrtodFraming", spec := "strtodFraming", inPlace := ["internal/bytealg.IndexByteString", "internal/bytealg.IndexString", "math/bits.Add64", "math/bits.Sub64"], unfollowed := true, recurses := true, named := ["unicode/utf8.first", "unicode/utf8.acceptRanges", "math/bits.deBruijn64tab", "math/bits.divideError", "math/bits.overflowError", "internal/bytealg.MaxLen"], apart := false, laid := [("math/bits.deBruijn64tab", laid_math_bits_deBruijn64tab), ("unicode/utf8.acceptRanges", laid_unicode_utf8_acceptRanges), ("unicode/utf8.first", laid_unicode_utf8_first)] }
def StrtodFramingSaid : Prop := strtodFramingRow.holds Tryz.pinned (OpenSpec.ofChange strtodFramingSpec)

/-- ITS FALSE NEIGHBOUR: 'it returns false'. Refute it at one input. -/
def strtodFramingWrong : ChangeSpec := { name := "strtodFraming", fn := fun _ => fun
  | [d1, d2] => { results := [.lit (.bool false)], args := [d1, d2] }
  | _ => none }
def StrtodFramingWrongFalsely : Prop := strtodFramingRow.holds Tryz.pinned (OpenSpec.ofChange strtodFramingWrong)

/-- 'abacuslaw10.StrtodForms': WHATEVER THE INPUT: true; the input reads as it did. -/
def strtodFormsSpec : ChangeSpec := { name := "strtodForms", fn := fun _ => fun
  | [d1, d2] => { results := [.lit (.bool true)], args := [d1, d2] }
  | _ => none }
def strtodFormsRow : OpenClaim := { program := "ytbmhnjghpjkjpaagreatdoor", sum := "34f95d39250bdeead821b97736c75d90e35cc19da5e91d6137897f27d7948e6a", func := "abacus/abacuslaw10.StrtodForms", spec := "strtodForms", inPlace := ["internal/bytealg.IndexByteString", "internal/bytealg.IndexString", "math/bits.Add64", "math/bits.Sub64"], unfollowed := true, recurses := true, named := ["unicode/utf8.first", "unicode/utf8.acceptRanges", "math/bits.deBruijn64tab", "math/bits.divideError", "math/bits.overflowError", "internal/bytealg.MaxLen"], apart := false, laid := [("math/bits.deBruijn64tab", laid_math_bits_deBruijn64tab), ("unicode/utf8.acceptRanges", laid_unicode_utf8_acceptRanges), ("unicode/utf8.first", laid_unicode_utf8_first)] }
def StrtodFormsSaid : Prop := strtodFormsRow.holds Tryz.pinned (OpenSpec.ofChange strtodFormsSpec)

/-- ITS FALSE NEIGHBOUR: 'it returns false'. Refute it at one input. -/
def strtodFormsWrong : ChangeSpec := { name := "strtodForms", fn := fun _ => fun
  | [d1, d2] => { results := [.lit (.bool false)], args := [d1, d2] }
  | _ => none }
def StrtodFormsWrongFalsely : Prop := strtodFormsRow.holds Tryz.pinned (OpenSpec.ofChange strtodFormsWrong)

/-- 'abacuslaw10.StrtodNearest': WHATEVER THE INPUT: true; the input reads as it did. -/
def strtodNearestSpec : ChangeSpec := { name := "strtodNearest", fn := fun _ => fun
  | [d] => { results := [.lit (.bool true)], args := [d] }
  | _ => none }
def strtodNearestRow : OpenClaim := { program := "ytbmhnjghpjkjpaagreatdoor", sum := "34f95d39250bdeead821b97736c75d90e35cc19da5e91d6137897f27d7948e6a", func := "abacus/abacuslaw10.StrtodNearest", spec := "strtodNearest", inPlace := ["internal/bytealg.IndexByteString", "internal/bytealg.IndexString", "math/bits.Add64", "math/bits.Sub64"], unfollowed := true, recurses := true, named := ["unicode/utf8.first", "unicode/utf8.acceptRanges", "math/bits.deBruijn64tab", "math/bits.divideError", "math/bits.overflowError", "internal/bytealg.MaxLen"], apart := false, laid := [("math/bits.deBruijn64tab", laid_math_bits_deBruijn64tab), ("unicode/utf8.acceptRanges", laid_unicode_utf8_acceptRanges), ("unicode/utf8.first", laid_unicode_utf8_first)] }
def StrtodNearestSaid : Prop := strtodNearestRow.holds Tryz.pinned (OpenSpec.ofChange strtodNearestSpec)

/-- ITS FALSE NEIGHBOUR: 'it returns false'. Refute it at one input. -/
def strtodNearestWrong : ChangeSpec := { name := "strtodNearest", fn := fun _ => fun
  | [d] => { results := [.lit (.bool false)], args := [d] }
  | _ => none }
def StrtodNearestWrongFalsely : Prop := strtodNearestRow.holds Tryz.pinned (OpenSpec.ofChange strtodNearestWrong)

/-- 'abacuslaw10.StrtodExact': WHATEVER THE INPUT: true; the input reads as it did. -/
def strtodExactSpec : ChangeSpec := { name := "strtodExact", fn := fun _ => fun
  | [d] => { results := [.lit (.bool true)], args := [d] }
  | _ => none }
def strtodExactRow : OpenClaim := { program := "ytbmhnjghpjkjpaagreatdoor", sum := "34f95d39250bdeead821b97736c75d90e35cc19da5e91d6137897f27d7948e6a", func := "abacus/abacuslaw10.StrtodExact", spec := "strtodExact", inPlace := ["internal/bytealg.IndexByteString", "internal/bytealg.IndexString", "math/bits.Add64", "math/bits.Sub64"], unfollowed := true, recurses := true, named := ["unicode/utf8.first", "unicode/utf8.acceptRanges", "math/bits.deBruijn64tab", "math/bits.divideError", "math/bits.overflowError", "internal/bytealg.MaxLen"], apart := false, laid := [("math/bits.deBruijn64tab", laid_math_bits_deBruijn64tab), ("unicode/utf8.acceptRanges", laid_unicode_utf8_acceptRanges), ("unicode/utf8.first", laid_unicode_utf8_first)] }
def StrtodExactSaid : Prop := strtodExactRow.holds Tryz.pinned (OpenSpec.ofChange strtodExactSpec)

/-- ITS FALSE NEIGHBOUR: 'it returns false'. Refute it at one input. -/
def strtodExactWrong : ChangeSpec := { name := "strtodExact", fn := fun _ => fun
  | [d] => { results := [.lit (.bool false)], args := [d] }
  | _ => none }
def StrtodExactWrongFalsely : Prop := strtodExactRow.holds Tryz.pinned (OpenSpec.ofChange strtodExactWrong)

/-- 'abacuslaw10.StrtodMiddles': WHATEVER THE INPUT: true; the input reads as it did. -/
def strtodMiddlesSpec : ChangeSpec := { name := "strtodMiddles", fn := fun _ => fun
  | [d1, d2] => { results := [.lit (.bool true)], args := [d1, d2] }
  | _ => none }
def strtodMiddlesRow : OpenClaim := { program := "ytbmhnjghpjkjpaagreatdoor", sum := "34f95d39250bdeead821b97736c75d90e35cc19da5e91d6137897f27d7948e6a", func := "abacus/abacuslaw10.StrtodMiddles", spec := "strtodMiddles", inPlace := ["internal/bytealg.IndexByteString", "internal/bytealg.IndexString", "math/bits.Add64", "math/bits.Sub64", "internal/abi.NoEscape"], unfollowed := true, recurses := true, named := ["unicode/utf8.first", "unicode/utf8.acceptRanges", "math/bits.deBruijn64tab", "math/bits.divideError", "math/bits.overflowError", "internal/bytealg.MaxLen"], apart := false, laid := [("math/bits.deBruijn64tab", laid_math_bits_deBruijn64tab), ("unicode/utf8.acceptRanges", laid_unicode_utf8_acceptRanges), ("unicode/utf8.first", laid_unicode_utf8_first)] }
def StrtodMiddlesSaid : Prop := strtodMiddlesRow.holds Tryz.pinned (OpenSpec.ofChange strtodMiddlesSpec)

/-- ITS FALSE NEIGHBOUR: 'it returns false'. Refute it at one input. -/
def strtodMiddlesWrong : ChangeSpec := { name := "strtodMiddles", fn := fun _ => fun
  | [d1, d2] => { results := [.lit (.bool false)], args := [d1, d2] }
  | _ => none }
def StrtodMiddlesWrongFalsely : Prop := strtodMiddlesRow.holds Tryz.pinned (OpenSpec.ofChange strtodMiddlesWrong)

/-- 'abacuslaw10.StrtodRising': WHATEVER THE INPUT: true; the input reads as it did. -/
def strtodRisingSpec : ChangeSpec := { name := "strtodRising", fn := fun _ => fun
  | [d1, d2] => { results := [.lit (.bool true)], args := [d1, d2] }
  | _ => none }
def strtodRisingRow : OpenClaim := { program := "ytbmhnjghpjkjpaagreatdoor", sum := "34f95d39250bdeead821b97736c75d90e35cc19da5e91d6137897f27d7948e6a", func := "abacus/abacuslaw10.StrtodRising", spec := "strtodRising", inPlace := ["internal/bytealg.IndexByteString", "internal/bytealg.IndexString", "math/bits.Add64", "math/bits.Sub64", "internal/bytealg.abigen_runtime_cmpstring"], unfollowed := true, recurses := true, named := ["unicode/utf8.first", "unicode/utf8.acceptRanges", "math/bits.deBruijn64tab", "math/bits.divideError", "math/bits.overflowError", "internal/bytealg.MaxLen"], apart := false, laid := [("math/bits.deBruijn64tab", laid_math_bits_deBruijn64tab), ("unicode/utf8.acceptRanges", laid_unicode_utf8_acceptRanges), ("unicode/utf8.first", laid_unicode_utf8_first)] }
def StrtodRisingSaid : Prop := strtodRisingRow.holds Tryz.pinned (OpenSpec.ofChange strtodRisingSpec)

/-- ITS FALSE NEIGHBOUR: 'it returns false'. Refute it at one input. -/
def strtodRisingWrong : ChangeSpec := { name := "strtodRising", fn := fun _ => fun
  | [d1, d2] => { results := [.lit (.bool false)], args := [d1, d2] }
  | _ => none }
def StrtodRisingWrongFalsely : Prop := strtodRisingRow.holds Tryz.pinned (OpenSpec.ofChange strtodRisingWrong)

/- THE SECOND FORM. 'bulk': how many values and letters a reading holds, each counted each time it is reached (what is shared counts as often as it is met; a slice's spare places count too). A statement '..UptoSaid' is the law's where the arguments, and the package variables that the reading takes, are together of bulk at most 1048576: NARROWER than '..Said'. Prove '..Said' where nothing that the law and all that it calls make is longer than what came in: it says more and counts as full. Else prove '..UptoSaid'. A law counts once. -/
mutual
def uptoBulk {H : Type} : DataW H → Nat
  | .lit (.string bytes) => bytes.length + 1
  | .lit _ => 1
  | .nil => 1
  | .ptr d => uptoBulk d + 1
  | .slice elems spare => uptoBulkAll elems + uptoBulkAll spare + 1
  | .agg parts => uptoBulkAll parts + 1
  | .iface _ d => uptoBulk d + 1
  | .map entries => uptoBulkEntries entries + 1
  | .held _ => 1
def uptoBulkAll {H : Type} : List (DataW H) → Nat
  | [] => 0
  | d :: r => uptoBulk d + uptoBulkAll r
def uptoBulkEntries {H : Type} : List (Lit × DataW H) → Nat
  | [] => 0
  | x :: r => uptoBulkEntry x + uptoBulkEntries r
def uptoBulkEntry {H : Type} : Lit × DataW H → Nat
  | (.string bytes, d) => bytes.length + uptoBulk d + 1
  | (_, d) => uptoBulk d + 1
 end
def uptoSmall : (H : Type) → List (DataW H) → Bool := fun _ ds => decide (uptoBulkAll ds ≤ 1048576)
def OpenSpec.upto (s : _root_.Go.ChangeSpec) : _root_.Go.OpenSpec := { _root_.Go.OpenSpec.ofChange s with cond := some uptoSmall }

/-- 'abacustop.CoreReads', WHERE WHAT IT READS IS OF BULK AT MOST 1048576: true; the input reads as it did. -/
def coreReadsUptoRow : OpenClaim := { program := "ytbmhnjghpjkjpaagreatdoor", sum := "34f95d39250bdeead821b97736c75d90e35cc19da5e91d6137897f27d7948e6a", func := "abacus/abacustop.CoreReads", spec := "coreReads", inPlace := ["internal/bytealg.IndexByteString", "internal/bytealg.IndexString"], unfollowed := true, recurses := true, named := ["unicode/utf8.first", "unicode/utf8.acceptRanges", "internal/bytealg.MaxLen"], apart := false, laid := [("unicode/utf8.acceptRanges", laid_unicode_utf8_acceptRanges), ("unicode/utf8.first", laid_unicode_utf8_first)], narrowed := true }
def CoreReadsUptoSaid : Prop := coreReadsUptoRow.holds Tryz.pinned (OpenSpec.upto coreReadsSpec)

/-- 'abacustop.CoreRoads', WHERE WHAT IT READS IS OF BULK AT MOST 1048576: true; the input reads as it did. -/
def coreRoadsUptoRow : OpenClaim := { program := "ytbmhnjghpjkjpaagreatdoor", sum := "34f95d39250bdeead821b97736c75d90e35cc19da5e91d6137897f27d7948e6a", func := "abacus/abacustop.CoreRoads", spec := "coreRoads", inPlace := ["internal/bytealg.IndexByteString", "internal/bytealg.IndexString", "math/bits.Add64", "math/bits.Sub64"], unfollowed := true, recurses := true, named := ["unicode/utf8.first", "unicode/utf8.acceptRanges", "math/bits.deBruijn64tab", "math/bits.divideError", "math/bits.overflowError", "internal/bytealg.MaxLen"], apart := false, laid := [("math/bits.deBruijn64tab", laid_math_bits_deBruijn64tab), ("unicode/utf8.acceptRanges", laid_unicode_utf8_acceptRanges), ("unicode/utf8.first", laid_unicode_utf8_first)], narrowed := true }
def CoreRoadsUptoSaid : Prop := coreRoadsUptoRow.holds Tryz.pinned (OpenSpec.upto coreRoadsSpec)

/-- 'abacuslaw09.QuickAll', WHERE WHAT IT READS IS OF BULK AT MOST 1048576: true; the input reads as it did. -/
def quickAllUptoRow : OpenClaim := { program := "ytbmhnjghpjkjpaagreatdoor", sum := "34f95d39250bdeead821b97736c75d90e35cc19da5e91d6137897f27d7948e6a", func := "abacus/abacuslaw09.QuickAll", spec := "quickAll", inPlace := ["math/bits.Add64", "math/bits.Sub64", "internal/bytealg.IndexByteString", "internal/bytealg.IndexString"], recurses := true, named := ["math/bits.deBruijn64tab", "math/bits.divideError", "math/bits.overflowError", "unicode/utf8.first", "unicode/utf8.acceptRanges", "internal/bytealg.MaxLen"], apart := false, laid := [("math/bits.deBruijn64tab", laid_math_bits_deBruijn64tab), ("unicode/utf8.acceptRanges", laid_unicode_utf8_acceptRanges), ("unicode/utf8.first", laid_unicode_utf8_first)], narrowed := true }
def QuickAllUptoSaid : Prop := quickAllUptoRow.holds Tryz.pinned (OpenSpec.upto quickAllSpec)

/-- 'abacuslaw10.StrtodRoads', WHERE WHAT IT READS IS OF BULK AT MOST 1048576: true; the input reads as it did. -/
def strtodRoadsUptoRow : OpenClaim := { program := "ytbmhnjghpjkjpaagreatdoor", sum := "34f95d39250bdeead821b97736c75d90e35cc19da5e91d6137897f27d7948e6a", func := "abacus/abacuslaw10.StrtodRoads", spec := "strtodRoads", inPlace := ["internal/bytealg.IndexByteString", "internal/bytealg.IndexString", "math/bits.Add64", "math/bits.Sub64"], unfollowed := true, recurses := true, named := ["unicode/utf8.first", "unicode/utf8.acceptRanges", "math/bits.deBruijn64tab", "math/bits.divideError", "math/bits.overflowError", "internal/bytealg.MaxLen"], apart := false, laid := [("math/bits.deBruijn64tab", laid_math_bits_deBruijn64tab), ("unicode/utf8.acceptRanges", laid_unicode_utf8_acceptRanges), ("unicode/utf8.first", laid_unicode_utf8_first)], narrowed := true }
def StrtodRoadsUptoSaid : Prop := strtodRoadsUptoRow.holds Tryz.pinned (OpenSpec.upto strtodRoadsSpec)

/-- 'abacustop.CoreOrders', WHERE WHAT IT READS IS OF BULK AT MOST 1048576: true; the input reads as it did. -/
def coreOrdersUptoRow : OpenClaim := { program := "ytbmhnjghpjkjpaagreatdoor", sum := "34f95d39250bdeead821b97736c75d90e35cc19da5e91d6137897f27d7948e6a", func := "abacus/abacustop.CoreOrders", spec := "coreOrders", inPlace := ["internal/bytealg.IndexByteString", "internal/bytealg.IndexString", "internal/bytealg.abigen_runtime_cmpstring"], unfollowed := true, recurses := true, named := ["unicode/utf8.first", "unicode/utf8.acceptRanges", "internal/bytealg.MaxLen"], apart := false, laid := [("unicode/utf8.acceptRanges", laid_unicode_utf8_acceptRanges), ("unicode/utf8.first", laid_unicode_utf8_first)], narrowed := true }
def CoreOrdersUptoSaid : Prop := coreOrdersUptoRow.holds Tryz.pinned (OpenSpec.upto coreOrdersSpec)

/-- 'abacuslaw10.StrtodFraming', WHERE WHAT IT READS IS OF BULK AT MOST 1048576: true; the input reads as it did. -/
def strtodFramingUptoRow : OpenClaim := { program := "ytbmhnjghpjkjpaagreatdoor", sum := "34f95d39250bdeead821b97736c75d90e35cc19da5e91d6137897f27d7948e6a", func := "abacus/abacuslaw10.StrtodFraming", spec := "strtodFraming", inPlace := ["internal/bytealg.IndexByteString", "internal/bytealg.IndexString", "math/bits.Add64", "math/bits.Sub64"], unfollowed := true, recurses := true, named := ["unicode/utf8.first", "unicode/utf8.acceptRanges", "math/bits.deBruijn64tab", "math/bits.divideError", "math/bits.overflowError", "internal/bytealg.MaxLen"], apart := false, laid := [("math/bits.deBruijn64tab", laid_math_bits_deBruijn64tab), ("unicode/utf8.acceptRanges", laid_unicode_utf8_acceptRanges), ("unicode/utf8.first", laid_unicode_utf8_first)], narrowed := true }
def StrtodFramingUptoSaid : Prop := strtodFramingUptoRow.holds Tryz.pinned (OpenSpec.upto strtodFramingSpec)

/-- 'abacuslaw10.StrtodForms', WHERE WHAT IT READS IS OF BULK AT MOST 1048576: true; the input reads as it did. -/
def strtodFormsUptoRow : OpenClaim := { program := "ytbmhnjghpjkjpaagreatdoor", sum := "34f95d39250bdeead821b97736c75d90e35cc19da5e91d6137897f27d7948e6a", func := "abacus/abacuslaw10.StrtodForms", spec := "strtodForms", inPlace := ["internal/bytealg.IndexByteString", "internal/bytealg.IndexString", "math/bits.Add64", "math/bits.Sub64"], unfollowed := true, recurses := true, named := ["unicode/utf8.first", "unicode/utf8.acceptRanges", "math/bits.deBruijn64tab", "math/bits.divideError", "math/bits.overflowError", "internal/bytealg.MaxLen"], apart := false, laid := [("math/bits.deBruijn64tab", laid_math_bits_deBruijn64tab), ("unicode/utf8.acceptRanges", laid_unicode_utf8_acceptRanges), ("unicode/utf8.first", laid_unicode_utf8_first)], narrowed := true }
def StrtodFormsUptoSaid : Prop := strtodFormsUptoRow.holds Tryz.pinned (OpenSpec.upto strtodFormsSpec)

/-- 'abacuslaw10.StrtodNearest', WHERE WHAT IT READS IS OF BULK AT MOST 1048576: true; the input reads as it did. -/
def strtodNearestUptoRow : OpenClaim := { program := "ytbmhnjghpjkjpaagreatdoor", sum := "34f95d39250bdeead821b97736c75d90e35cc19da5e91d6137897f27d7948e6a", func := "abacus/abacuslaw10.StrtodNearest", spec := "strtodNearest", inPlace := ["internal/bytealg.IndexByteString", "internal/bytealg.IndexString", "math/bits.Add64", "math/bits.Sub64"], unfollowed := true, recurses := true, named := ["unicode/utf8.first", "unicode/utf8.acceptRanges", "math/bits.deBruijn64tab", "math/bits.divideError", "math/bits.overflowError", "internal/bytealg.MaxLen"], apart := false, laid := [("math/bits.deBruijn64tab", laid_math_bits_deBruijn64tab), ("unicode/utf8.acceptRanges", laid_unicode_utf8_acceptRanges), ("unicode/utf8.first", laid_unicode_utf8_first)], narrowed := true }
def StrtodNearestUptoSaid : Prop := strtodNearestUptoRow.holds Tryz.pinned (OpenSpec.upto strtodNearestSpec)

/-- 'abacuslaw10.StrtodExact', WHERE WHAT IT READS IS OF BULK AT MOST 1048576: true; the input reads as it did. -/
def strtodExactUptoRow : OpenClaim := { program := "ytbmhnjghpjkjpaagreatdoor", sum := "34f95d39250bdeead821b97736c75d90e35cc19da5e91d6137897f27d7948e6a", func := "abacus/abacuslaw10.StrtodExact", spec := "strtodExact", inPlace := ["internal/bytealg.IndexByteString", "internal/bytealg.IndexString", "math/bits.Add64", "math/bits.Sub64"], unfollowed := true, recurses := true, named := ["unicode/utf8.first", "unicode/utf8.acceptRanges", "math/bits.deBruijn64tab", "math/bits.divideError", "math/bits.overflowError", "internal/bytealg.MaxLen"], apart := false, laid := [("math/bits.deBruijn64tab", laid_math_bits_deBruijn64tab), ("unicode/utf8.acceptRanges", laid_unicode_utf8_acceptRanges), ("unicode/utf8.first", laid_unicode_utf8_first)], narrowed := true }
def StrtodExactUptoSaid : Prop := strtodExactUptoRow.holds Tryz.pinned (OpenSpec.upto strtodExactSpec)

/-- 'abacuslaw10.StrtodMiddles', WHERE WHAT IT READS IS OF BULK AT MOST 1048576: true; the input reads as it did. -/
def strtodMiddlesUptoRow : OpenClaim := { program := "ytbmhnjghpjkjpaagreatdoor", sum := "34f95d39250bdeead821b97736c75d90e35cc19da5e91d6137897f27d7948e6a", func := "abacus/abacuslaw10.StrtodMiddles", spec := "strtodMiddles", inPlace := ["internal/bytealg.IndexByteString", "internal/bytealg.IndexString", "math/bits.Add64", "math/bits.Sub64", "internal/abi.NoEscape"], unfollowed := true, recurses := true, named := ["unicode/utf8.first", "unicode/utf8.acceptRanges", "math/bits.deBruijn64tab", "math/bits.divideError", "math/bits.overflowError", "internal/bytealg.MaxLen"], apart := false, laid := [("math/bits.deBruijn64tab", laid_math_bits_deBruijn64tab), ("unicode/utf8.acceptRanges", laid_unicode_utf8_acceptRanges), ("unicode/utf8.first", laid_unicode_utf8_first)], narrowed := true }
def StrtodMiddlesUptoSaid : Prop := strtodMiddlesUptoRow.holds Tryz.pinned (OpenSpec.upto strtodMiddlesSpec)

/-- 'abacuslaw10.StrtodRising', WHERE WHAT IT READS IS OF BULK AT MOST 1048576: true; the input reads as it did. -/
def strtodRisingUptoRow : OpenClaim := { program := "ytbmhnjghpjkjpaagreatdoor", sum := "34f95d39250bdeead821b97736c75d90e35cc19da5e91d6137897f27d7948e6a", func := "abacus/abacuslaw10.StrtodRising", spec := "strtodRising", inPlace := ["internal/bytealg.IndexByteString", "internal/bytealg.IndexString", "math/bits.Add64", "math/bits.Sub64", "internal/bytealg.abigen_runtime_cmpstring"], unfollowed := true, recurses := true, named := ["unicode/utf8.first", "unicode/utf8.acceptRanges", "math/bits.deBruijn64tab", "math/bits.divideError", "math/bits.overflowError", "internal/bytealg.MaxLen"], apart := false, laid := [("math/bits.deBruijn64tab", laid_math_bits_deBruijn64tab), ("unicode/utf8.acceptRanges", laid_unicode_utf8_acceptRanges), ("unicode/utf8.first", laid_unicode_utf8_first)], narrowed := true }
def StrtodRisingUptoSaid : Prop := strtodRisingUptoRow.holds Tryz.pinned (OpenSpec.upto strtodRisingSpec)

end Rows
end Go.Proofs.YtbmhnjghpjkjpaaGreatDoor
