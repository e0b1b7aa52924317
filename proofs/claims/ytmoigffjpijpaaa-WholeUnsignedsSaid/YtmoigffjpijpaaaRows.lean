/-
  No cell of these rows narrows 'for every input' (looked for: loops, veiled, ifaces, maps, wideKeys, modest, calm, conditions, laid).
  DERIVED. THE GIVEN ROWS OF THIS SEAT. 12 by the template 'for every input the law returns true; each argument reads behind the call as it read before'; 0 by the template 'total and deterministic' (their statements: YtmoigffjpijpaaaTotals.lean).
  GIVEN WITH THE SEED: the statements are not yours to turn. If you find one false, say at which input.
  Laid BY PROGRAM, IN A SANDBOX (cutbox-rows.mjs): the forced cells as the released guide's own fill.sh prints them over the translation 3333d65de42bc732… (all of the seat's roots in one cut). By AI agents, Wed Nov 11 2026. No macro, syntax, notation, axiom, sorry.
-/
import Derived.Test.YtmoigffjpijpaaaChecked
import GoSem.Claim
import GoSem.ClaimJoined
import GoSem.ClaimMapViews
import Derived.JoinedTies
import Derived.KernelRfl
namespace Go.Proofs.Ytmoigffjpijpaaa
/- THE CELL 'sum', in the pinned program and in every row, IS THE sha256 OF THE DUMP (.gsa) THAT YtmoigffjpijpaaaProg.lean LOADS. Nothing in Lean hashes anything: it is a label: what it is worth is what the hold of that sum in a sandbox is worth. -/
noncomputable def Try.pinned : Pinned := { name := "ytmoigffjpijpaaa", sum := "3333d65de42bc7323ebe27708678ff42d7d9f7bce8cdc9e55ac2c20c55cdc7bd", checked := Try.checked }
namespace Rows
def none {H : Type} : Left H := { results := [], args := [] }

/-- 'abacuslaw23.TokenQuotes': WHATEVER THE INPUT: true; the input reads as it did. -/
def tokenQuotesSpec : ChangeSpec := { name := "tokenQuotes", fn := fun _ => fun
  | [d] => { results := [.lit (.bool true)], args := [d] }
  | _ => none }
def tokenQuotesRow : OpenClaim := { program := "ytmoigffjpijpaaa", sum := "3333d65de42bc7323ebe27708678ff42d7d9f7bce8cdc9e55ac2c20c55cdc7bd", func := "abacus/abacuslaw23.TokenQuotes", spec := "tokenQuotes", apart := false }
def TokenQuotesSaid : Prop := tokenQuotesRow.holds Try.pinned (OpenSpec.ofChange tokenQuotesSpec)

/-- ITS FALSE NEIGHBOUR: 'it returns false'. Refute it at one input. -/
def tokenQuotesWrong : ChangeSpec := { name := "tokenQuotes", fn := fun _ => fun
  | [d] => { results := [.lit (.bool false)], args := [d] }
  | _ => none }
def TokenQuotesWrongFalsely : Prop := tokenQuotesRow.holds Try.pinned (OpenSpec.ofChange tokenQuotesWrong)

/-- 'abacuslaw23.TokenWords': WHATEVER THE INPUT: true; the input reads as it did. -/
def tokenWordsSpec : ChangeSpec := { name := "tokenWords", fn := fun _ => fun
  | [d] => { results := [.lit (.bool true)], args := [d] }
  | _ => none }
def tokenWordsRow : OpenClaim := { program := "ytmoigffjpijpaaa", sum := "3333d65de42bc7323ebe27708678ff42d7d9f7bce8cdc9e55ac2c20c55cdc7bd", func := "abacus/abacuslaw23.TokenWords", spec := "tokenWords", apart := false }
def TokenWordsSaid : Prop := tokenWordsRow.holds Try.pinned (OpenSpec.ofChange tokenWordsSpec)

/-- ITS FALSE NEIGHBOUR: 'it returns false'. Refute it at one input. -/
def tokenWordsWrong : ChangeSpec := { name := "tokenWords", fn := fun _ => fun
  | [d] => { results := [.lit (.bool false)], args := [d] }
  | _ => none }
def TokenWordsWrongFalsely : Prop := tokenWordsRow.holds Try.pinned (OpenSpec.ofChange tokenWordsWrong)

/-- 'abacuslaw24.TreeChecks': WHATEVER THE INPUT: true; the input reads as it did. -/
def treeChecksSpec : ChangeSpec := { name := "treeChecks", fn := fun _ => fun
  | [d] => { results := [.lit (.bool true)], args := [d] }
  | _ => none }
def treeChecksRow : OpenClaim := { program := "ytmoigffjpijpaaa", sum := "3333d65de42bc7323ebe27708678ff42d7d9f7bce8cdc9e55ac2c20c55cdc7bd", func := "abacus/abacuslaw24.TreeChecks", spec := "treeChecks", apart := false }
def TreeChecksSaid : Prop := treeChecksRow.holds Try.pinned (OpenSpec.ofChange treeChecksSpec)

/-- ITS FALSE NEIGHBOUR: 'it returns false'. Refute it at one input. -/
def treeChecksWrong : ChangeSpec := { name := "treeChecks", fn := fun _ => fun
  | [d] => { results := [.lit (.bool false)], args := [d] }
  | _ => none }
def TreeChecksWrongFalsely : Prop := treeChecksRow.holds Try.pinned (OpenSpec.ofChange treeChecksWrong)

/-- 'abacuslaw14.WholeLong': WHATEVER THE INPUT: true; the input reads as it did. -/
def wholeLongSpec : ChangeSpec := { name := "wholeLong", fn := fun _ => fun
  | [] => { results := [.lit (.bool true)], args := [] }
  | _ => none }
def wholeLongRow : OpenClaim := { program := "ytmoigffjpijpaaa", sum := "3333d65de42bc7323ebe27708678ff42d7d9f7bce8cdc9e55ac2c20c55cdc7bd", func := "abacus/abacuslaw14.WholeLong", spec := "wholeLong", inPlace := ["internal/bytealg.IndexByteString", "internal/abi.NoEscape", "internal/bytealg.MakeNoZero"], apart := false }
def WholeLongSaid : Prop := wholeLongRow.holds Try.pinned (OpenSpec.ofChange wholeLongSpec)

/-- ITS FALSE NEIGHBOUR: 'it returns false'. Refute it at one input. -/
def wholeLongWrong : ChangeSpec := { name := "wholeLong", fn := fun _ => fun
  | [] => { results := [.lit (.bool false)], args := [] }
  | _ => none }
def WholeLongWrongFalsely : Prop := wholeLongRow.holds Try.pinned (OpenSpec.ofChange wholeLongWrong)

/-- 'abacuslaw14.WholeTexts': WHATEVER THE INPUT: true; the input reads as it did. -/
def wholeTextsSpec : ChangeSpec := { name := "wholeTexts", fn := fun _ => fun
  | [d1, d2] => { results := [.lit (.bool true)], args := [d1, d2] }
  | _ => none }
def wholeTextsRow : OpenClaim := { program := "ytmoigffjpijpaaa", sum := "3333d65de42bc7323ebe27708678ff42d7d9f7bce8cdc9e55ac2c20c55cdc7bd", func := "abacus/abacuslaw14.WholeTexts", spec := "wholeTexts", inPlace := ["internal/bytealg.IndexByteString", "internal/abi.NoEscape", "internal/bytealg.MakeNoZero"], apart := false }
def WholeTextsSaid : Prop := wholeTextsRow.holds Try.pinned (OpenSpec.ofChange wholeTextsSpec)

/-- ITS FALSE NEIGHBOUR: 'it returns false'. Refute it at one input. -/
def wholeTextsWrong : ChangeSpec := { name := "wholeTexts", fn := fun _ => fun
  | [d1, d2] => { results := [.lit (.bool false)], args := [d1, d2] }
  | _ => none }
def WholeTextsWrongFalsely : Prop := wholeTextsRow.holds Try.pinned (OpenSpec.ofChange wholeTextsWrong)

/-- 'abacuslaw03.NumeralBack': WHATEVER THE INPUT: true; the input reads as it did. -/
def numeralBackSpec : ChangeSpec := { name := "numeralBack", fn := fun _ => fun
  | [d1, d2, d3] => { results := [.lit (.bool true)], args := [d1, d2, d3] }
  | _ => none }
def numeralBackRow : OpenClaim := { program := "ytmoigffjpijpaaa", sum := "3333d65de42bc7323ebe27708678ff42d7d9f7bce8cdc9e55ac2c20c55cdc7bd", func := "abacus/abacuslaw03.NumeralBack", spec := "numeralBack", inPlace := ["internal/abi.NoEscape", "math/bits.Add64"], named := ["math/bits.divideError", "math/bits.overflowError"], apart := false }
def NumeralBackSaid : Prop := numeralBackRow.holds Try.pinned (OpenSpec.ofChange numeralBackSpec)

/-- ITS FALSE NEIGHBOUR: 'it returns false'. Refute it at one input. -/
def numeralBackWrong : ChangeSpec := { name := "numeralBack", fn := fun _ => fun
  | [d1, d2, d3] => { results := [.lit (.bool false)], args := [d1, d2, d3] }
  | _ => none }
def NumeralBackWrongFalsely : Prop := numeralBackRow.holds Try.pinned (OpenSpec.ofChange numeralBackWrong)

/-- 'abacuslaw03.NumeralForth': WHATEVER THE INPUT: true; the input reads as it did. -/
def numeralForthSpec : ChangeSpec := { name := "numeralForth", fn := fun _ => fun
  | [d1, d2] => { results := [.lit (.bool true)], args := [d1, d2] }
  | _ => none }
def numeralForthRow : OpenClaim := { program := "ytmoigffjpijpaaa", sum := "3333d65de42bc7323ebe27708678ff42d7d9f7bce8cdc9e55ac2c20c55cdc7bd", func := "abacus/abacuslaw03.NumeralForth", spec := "numeralForth", inPlace := ["internal/abi.NoEscape", "math/bits.Add64"], named := ["math/bits.divideError", "math/bits.overflowError"], apart := false }
def NumeralForthSaid : Prop := numeralForthRow.holds Try.pinned (OpenSpec.ofChange numeralForthSpec)

/-- ITS FALSE NEIGHBOUR: 'it returns false'. Refute it at one input. -/
def numeralForthWrong : ChangeSpec := { name := "numeralForth", fn := fun _ => fun
  | [d1, d2] => { results := [.lit (.bool false)], args := [d1, d2] }
  | _ => none }
def NumeralForthWrongFalsely : Prop := numeralForthRow.holds Try.pinned (OpenSpec.ofChange numeralForthWrong)

/-- 'abacuslaw03.NumeralHex': WHATEVER THE INPUT: true; the input reads as it did. -/
def numeralHexSpec : ChangeSpec := { name := "numeralHex", fn := fun _ => fun
  | [d] => { results := [.lit (.bool true)], args := [d] }
  | _ => none }
def numeralHexRow : OpenClaim := { program := "ytmoigffjpijpaaa", sum := "3333d65de42bc7323ebe27708678ff42d7d9f7bce8cdc9e55ac2c20c55cdc7bd", func := "abacus/abacuslaw03.NumeralHex", spec := "numeralHex", inPlace := ["internal/abi.NoEscape", "math/bits.Add64"], named := ["math/bits.divideError", "math/bits.overflowError"], apart := false }
def NumeralHexSaid : Prop := numeralHexRow.holds Try.pinned (OpenSpec.ofChange numeralHexSpec)

/-- ITS FALSE NEIGHBOUR: 'it returns false'. Refute it at one input. -/
def numeralHexWrong : ChangeSpec := { name := "numeralHex", fn := fun _ => fun
  | [d] => { results := [.lit (.bool false)], args := [d] }
  | _ => none }
def NumeralHexWrongFalsely : Prop := numeralHexRow.holds Try.pinned (OpenSpec.ofChange numeralHexWrong)

/-- 'abacuslaw03.NumeralKeeps': WHATEVER THE INPUT: true; the input reads as it did. -/
def numeralKeepsSpec : ChangeSpec := { name := "numeralKeeps", fn := fun _ => fun
  | [d1, d2, d3] => { results := [.lit (.bool true)], args := [d1, d2, d3] }
  | _ => none }
def numeralKeepsRow : OpenClaim := { program := "ytmoigffjpijpaaa", sum := "3333d65de42bc7323ebe27708678ff42d7d9f7bce8cdc9e55ac2c20c55cdc7bd", func := "abacus/abacuslaw03.NumeralKeeps", spec := "numeralKeeps", inPlace := ["internal/abi.NoEscape", "math/bits.Add64"], named := ["math/bits.divideError", "math/bits.overflowError"], apart := false }
def NumeralKeepsSaid : Prop := numeralKeepsRow.holds Try.pinned (OpenSpec.ofChange numeralKeepsSpec)

/-- ITS FALSE NEIGHBOUR: 'it returns false'. Refute it at one input. -/
def numeralKeepsWrong : ChangeSpec := { name := "numeralKeeps", fn := fun _ => fun
  | [d1, d2, d3] => { results := [.lit (.bool false)], args := [d1, d2, d3] }
  | _ => none }
def NumeralKeepsWrongFalsely : Prop := numeralKeepsRow.holds Try.pinned (OpenSpec.ofChange numeralKeepsWrong)

/-- 'abacuslaw03.NumeralCounts': WHATEVER THE INPUT: true; the input reads as it did. -/
def numeralCountsSpec : ChangeSpec := { name := "numeralCounts", fn := fun _ => fun
  | [d] => { results := [.lit (.bool true)], args := [d] }
  | _ => none }
def numeralCountsRow : OpenClaim := { program := "ytmoigffjpijpaaa", sum := "3333d65de42bc7323ebe27708678ff42d7d9f7bce8cdc9e55ac2c20c55cdc7bd", func := "abacus/abacuslaw03.NumeralCounts", spec := "numeralCounts", inPlace := ["internal/abi.NoEscape", "math/bits.Add64"], named := ["math/bits.divideError", "math/bits.overflowError"], apart := false }
def NumeralCountsSaid : Prop := numeralCountsRow.holds Try.pinned (OpenSpec.ofChange numeralCountsSpec)

/-- ITS FALSE NEIGHBOUR: 'it returns false'. Refute it at one input. -/
def numeralCountsWrong : ChangeSpec := { name := "numeralCounts", fn := fun _ => fun
  | [d] => { results := [.lit (.bool false)], args := [d] }
  | _ => none }
def NumeralCountsWrongFalsely : Prop := numeralCountsRow.holds Try.pinned (OpenSpec.ofChange numeralCountsWrong)

/-- 'abacuslaw14.WholeSigneds': WHATEVER THE INPUT: true; the input reads as it did. -/
def wholeSignedsSpec : ChangeSpec := { name := "wholeSigneds", fn := fun _ => fun
  | [d] => { results := [.lit (.bool true)], args := [d] }
  | _ => none }
def wholeSignedsRow : OpenClaim := { program := "ytmoigffjpijpaaa", sum := "3333d65de42bc7323ebe27708678ff42d7d9f7bce8cdc9e55ac2c20c55cdc7bd", func := "abacus/abacuslaw14.WholeSigneds", spec := "wholeSigneds", inPlace := ["internal/bytealg.IndexByteString", "internal/abi.NoEscape", "internal/bytealg.MakeNoZero"], named := ["math/bits.divideError", "math/bits.overflowError"], apart := false }
def WholeSignedsSaid : Prop := wholeSignedsRow.holds Try.pinned (OpenSpec.ofChange wholeSignedsSpec)

/-- ITS FALSE NEIGHBOUR: 'it returns false'. Refute it at one input. -/
def wholeSignedsWrong : ChangeSpec := { name := "wholeSigneds", fn := fun _ => fun
  | [d] => { results := [.lit (.bool false)], args := [d] }
  | _ => none }
def WholeSignedsWrongFalsely : Prop := wholeSignedsRow.holds Try.pinned (OpenSpec.ofChange wholeSignedsWrong)

/-- 'abacuslaw14.WholeUnsigneds': WHATEVER THE INPUT: true; the input reads as it did. -/
def wholeUnsignedsSpec : ChangeSpec := { name := "wholeUnsigneds", fn := fun _ => fun
  | [d] => { results := [.lit (.bool true)], args := [d] }
  | _ => none }
def wholeUnsignedsRow : OpenClaim := { program := "ytmoigffjpijpaaa", sum := "3333d65de42bc7323ebe27708678ff42d7d9f7bce8cdc9e55ac2c20c55cdc7bd", func := "abacus/abacuslaw14.WholeUnsigneds", spec := "wholeUnsigneds", inPlace := ["internal/bytealg.IndexByteString", "internal/abi.NoEscape", "internal/bytealg.MakeNoZero"], named := ["math/bits.divideError", "math/bits.overflowError"], apart := false }
def WholeUnsignedsSaid : Prop := wholeUnsignedsRow.holds Try.pinned (OpenSpec.ofChange wholeUnsignedsSpec)

/-- ITS FALSE NEIGHBOUR: 'it returns false'. Refute it at one input. -/
def wholeUnsignedsWrong : ChangeSpec := { name := "wholeUnsigneds", fn := fun _ => fun
  | [d] => { results := [.lit (.bool false)], args := [d] }
  | _ => none }
def WholeUnsignedsWrongFalsely : Prop := wholeUnsignedsRow.holds Try.pinned (OpenSpec.ofChange wholeUnsignedsWrong)

/- THE SECOND FORM. 'bulk': how many values and letters a reading holds, each counted each time it is reached (what is shared counts as often as it is met; a slice's spare places count too). A statement '..UptoSaid' is the law's where the arguments, and the package variables that the reading takes, are together of bulk at most 1048576: NARROWER than '..Said'. Prove '..Said' where nothing that the law and all that it calls make is longer than what came in: it says more and counts as full. Else prove '..UptoSaid'. A law counts once. -/
mutual
def uptoBulk {H : Type} : DataW H → Nat
  | .lit (.string bytes) => bytes.length + 1
  | .lit _ => 1
  | .nil => 1
  | .ptr d => uptoBulk d + 1
  | .slice elems spare => uptoBulkAll elems + uptoBulkAll spare + 1
  | .agg parts => uptoBulkAll parts + 1
  | .iface _ d => uptoBulk d + 1
  | .map entries => uptoBulkEntries entries + 1
  | .held _ => 1
def uptoBulkAll {H : Type} : List (DataW H) → Nat
  | [] => 0
  | d :: r => uptoBulk d + uptoBulkAll r
def uptoBulkEntries {H : Type} : List (Lit × DataW H) → Nat
  | [] => 0
  | x :: r => uptoBulkEntry x + uptoBulkEntries r
def uptoBulkEntry {H : Type} : Lit × DataW H → Nat
  | (.string bytes, d) => bytes.length + uptoBulk d + 1
  | (_, d) => uptoBulk d + 1
 end
def uptoSmall : (H : Type) → List (DataW H) → Bool := fun _ ds => decide (uptoBulkAll ds ≤ 1048576)
def OpenSpec.upto (s : _root_.Go.ChangeSpec) : _root_.Go.OpenSpec := { _root_.Go.OpenSpec.ofChange s with cond := some uptoSmall }

/-- 'abacuslaw23.TokenQuotes', WHERE WHAT IT READS IS OF BULK AT MOST 1048576: true; the input reads as it did. -/
def tokenQuotesUptoRow : OpenClaim := { program := "ytmoigffjpijpaaa", sum := "3333d65de42bc7323ebe27708678ff42d7d9f7bce8cdc9e55ac2c20c55cdc7bd", func := "abacus/abacuslaw23.TokenQuotes", spec := "tokenQuotes", apart := false, narrowed := true }
def TokenQuotesUptoSaid : Prop := tokenQuotesUptoRow.holds Try.pinned (OpenSpec.upto tokenQuotesSpec)

/-- 'abacuslaw23.TokenWords', WHERE WHAT IT READS IS OF BULK AT MOST 1048576: true; the input reads as it did. -/
def tokenWordsUptoRow : OpenClaim := { program := "ytmoigffjpijpaaa", sum := "3333d65de42bc7323ebe27708678ff42d7d9f7bce8cdc9e55ac2c20c55cdc7bd", func := "abacus/abacuslaw23.TokenWords", spec := "tokenWords", apart := false, narrowed := true }
def TokenWordsUptoSaid : Prop := tokenWordsUptoRow.holds Try.pinned (OpenSpec.upto tokenWordsSpec)

/-- 'abacuslaw24.TreeChecks', WHERE WHAT IT READS IS OF BULK AT MOST 1048576: true; the input reads as it did. -/
def treeChecksUptoRow : OpenClaim := { program := "ytmoigffjpijpaaa", sum := "3333d65de42bc7323ebe27708678ff42d7d9f7bce8cdc9e55ac2c20c55cdc7bd", func := "abacus/abacuslaw24.TreeChecks", spec := "treeChecks", apart := false, narrowed := true }
def TreeChecksUptoSaid : Prop := treeChecksUptoRow.holds Try.pinned (OpenSpec.upto treeChecksSpec)

/-- 'abacuslaw14.WholeLong', WHERE WHAT IT READS IS OF BULK AT MOST 1048576: true; the input reads as it did. -/
def wholeLongUptoRow : OpenClaim := { program := "ytmoigffjpijpaaa", sum := "3333d65de42bc7323ebe27708678ff42d7d9f7bce8cdc9e55ac2c20c55cdc7bd", func := "abacus/abacuslaw14.WholeLong", spec := "wholeLong", inPlace := ["internal/bytealg.IndexByteString", "internal/abi.NoEscape", "internal/bytealg.MakeNoZero"], apart := false, narrowed := true }
def WholeLongUptoSaid : Prop := wholeLongUptoRow.holds Try.pinned (OpenSpec.upto wholeLongSpec)

/-- 'abacuslaw14.WholeTexts', WHERE WHAT IT READS IS OF BULK AT MOST 1048576: true; the input reads as it did. -/
def wholeTextsUptoRow : OpenClaim := { program := "ytmoigffjpijpaaa", sum := "3333d65de42bc7323ebe27708678ff42d7d9f7bce8cdc9e55ac2c20c55cdc7bd", func := "abacus/abacuslaw14.WholeTexts", spec := "wholeTexts", inPlace := ["internal/bytealg.IndexByteString", "internal/abi.NoEscape", "internal/bytealg.MakeNoZero"], apart := false, narrowed := true }
def WholeTextsUptoSaid : Prop := wholeTextsUptoRow.holds Try.pinned (OpenSpec.upto wholeTextsSpec)

/-- 'abacuslaw03.NumeralBack', WHERE WHAT IT READS IS OF BULK AT MOST 1048576: true; the input reads as it did. -/
def numeralBackUptoRow : OpenClaim := { program := "ytmoigffjpijpaaa", sum := "3333d65de42bc7323ebe27708678ff42d7d9f7bce8cdc9e55ac2c20c55cdc7bd", func := "abacus/abacuslaw03.NumeralBack", spec := "numeralBack", inPlace := ["internal/abi.NoEscape", "math/bits.Add64"], named := ["math/bits.divideError", "math/bits.overflowError"], apart := false, narrowed := true }
def NumeralBackUptoSaid : Prop := numeralBackUptoRow.holds Try.pinned (OpenSpec.upto numeralBackSpec)

/-- 'abacuslaw03.NumeralForth', WHERE WHAT IT READS IS OF BULK AT MOST 1048576: true; the input reads as it did. -/
def numeralForthUptoRow : OpenClaim := { program := "ytmoigffjpijpaaa", sum := "3333d65de42bc7323ebe27708678ff42d7d9f7bce8cdc9e55ac2c20c55cdc7bd", func := "abacus/abacuslaw03.NumeralForth", spec := "numeralForth", inPlace := ["internal/abi.NoEscape", "math/bits.Add64"], named := ["math/bits.divideError", "math/bits.overflowError"], apart := false, narrowed := true }
def NumeralForthUptoSaid : Prop := numeralForthUptoRow.holds Try.pinned (OpenSpec.upto numeralForthSpec)

/-- 'abacuslaw03.NumeralHex', WHERE WHAT IT READS IS OF BULK AT MOST 1048576: true; the input reads as it did. -/
def numeralHexUptoRow : OpenClaim := { program := "ytmoigffjpijpaaa", sum := "3333d65de42bc7323ebe27708678ff42d7d9f7bce8cdc9e55ac2c20c55cdc7bd", func := "abacus/abacuslaw03.NumeralHex", spec := "numeralHex", inPlace := ["internal/abi.NoEscape", "math/bits.Add64"], named := ["math/bits.divideError", "math/bits.overflowError"], apart := false, narrowed := true }
def NumeralHexUptoSaid : Prop := numeralHexUptoRow.holds Try.pinned (OpenSpec.upto numeralHexSpec)

/-- 'abacuslaw03.NumeralKeeps', WHERE WHAT IT READS IS OF BULK AT MOST 1048576: true; the input reads as it did. -/
def numeralKeepsUptoRow : OpenClaim := { program := "ytmoigffjpijpaaa", sum := "3333d65de42bc7323ebe27708678ff42d7d9f7bce8cdc9e55ac2c20c55cdc7bd", func := "abacus/abacuslaw03.NumeralKeeps", spec := "numeralKeeps", inPlace := ["internal/abi.NoEscape", "math/bits.Add64"], named := ["math/bits.divideError", "math/bits.overflowError"], apart := false, narrowed := true }
def NumeralKeepsUptoSaid : Prop := numeralKeepsUptoRow.holds Try.pinned (OpenSpec.upto numeralKeepsSpec)

/-- 'abacuslaw03.NumeralCounts', WHERE WHAT IT READS IS OF BULK AT MOST 1048576: true; the input reads as it did. -/
def numeralCountsUptoRow : OpenClaim := { program := "ytmoigffjpijpaaa", sum := "3333d65de42bc7323ebe27708678ff42d7d9f7bce8cdc9e55ac2c20c55cdc7bd", func := "abacus/abacuslaw03.NumeralCounts", spec := "numeralCounts", inPlace := ["internal/abi.NoEscape", "math/bits.Add64"], named := ["math/bits.divideError", "math/bits.overflowError"], apart := false, narrowed := true }
def NumeralCountsUptoSaid : Prop := numeralCountsUptoRow.holds Try.pinned (OpenSpec.upto numeralCountsSpec)

/-- 'abacuslaw14.WholeSigneds', WHERE WHAT IT READS IS OF BULK AT MOST 1048576: true; the input reads as it did. -/
def wholeSignedsUptoRow : OpenClaim := { program := "ytmoigffjpijpaaa", sum := "3333d65de42bc7323ebe27708678ff42d7d9f7bce8cdc9e55ac2c20c55cdc7bd", func := "abacus/abacuslaw14.WholeSigneds", spec := "wholeSigneds", inPlace := ["internal/bytealg.IndexByteString", "internal/abi.NoEscape", "internal/bytealg.MakeNoZero"], named := ["math/bits.divideError", "math/bits.overflowError"], apart := false, narrowed := true }
def WholeSignedsUptoSaid : Prop := wholeSignedsUptoRow.holds Try.pinned (OpenSpec.upto wholeSignedsSpec)

/-- 'abacuslaw14.WholeUnsigneds', WHERE WHAT IT READS IS OF BULK AT MOST 1048576: true; the input reads as it did. -/
def wholeUnsignedsUptoRow : OpenClaim := { program := "ytmoigffjpijpaaa", sum := "3333d65de42bc7323ebe27708678ff42d7d9f7bce8cdc9e55ac2c20c55cdc7bd", func := "abacus/abacuslaw14.WholeUnsigneds", spec := "wholeUnsigneds", inPlace := ["internal/bytealg.IndexByteString", "internal/abi.NoEscape", "internal/bytealg.MakeNoZero"], named := ["math/bits.divideError", "math/bits.overflowError"], apart := false, narrowed := true }
def WholeUnsignedsUptoSaid : Prop := wholeUnsignedsUptoRow.holds Try.pinned (OpenSpec.upto wholeUnsignedsSpec)

end Rows
end Go.Proofs.Ytmoigffjpijpaaa
