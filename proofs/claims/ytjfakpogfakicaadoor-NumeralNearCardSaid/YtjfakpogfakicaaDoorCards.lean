/-
  DERIVED. GIVEN WITH THE SEED: THE CARDS: each row of YtjfakpogfakicaaDoorRows.lean that lists a variable, with what it lists TIED to the program's text (the seventh form; the later family's looks); each row that meets fmt, with fmt's text TOLD by the authors' own Lean function (tested against real Go, not proved from fmt's source: count such statements apart). THE CARD IS WHAT COUNTS. Prove the row's statement (the work); the ties are given (YtjfakpogfakicaaDoorTie.lean); close each card by the builder's one call (the guide's Derived/Test/ToyasCard.lean, 'card_holds'). Laid BY PROGRAM, IN A SANDBOX (cutbox-door.mjs). By AI agents, Wed Nov 11 2026. No macro, syntax, notation, axiom, sorry.
-/
import Derived.Test.YtjfakpogfakicaaDoorRows
import GoSem.ClaimSeven
namespace Go.Proofs.YtjfakpogfakicaaDoor
namespace Rows

/-- THE TIED CARD OF 'abacuslaw03.NumeralNear'. -/
def numeralNearCard : Claim7 := { stood := { row := numeralNearRow, standIns := [], harness := (true, "6061535a52630bf073c70f3010b954c6d4d102bbc6c82171d29629d90313272e"), looks := false }, kinds := [], alts := [], laidByText := true, laidKinds := [.data, .pinned], laidTests := true, laidLooks := .later }
def NumeralNearCardSaid : Prop := Claim7.holds Tryd.pinned (.plain (OpenSpec.ofChange numeralNearSpec)) numeralNearCard

/-- THE SECOND FORM's CARD OF 'abacuslaw03.NumeralNear'. -/
def numeralNearUptoCard : Claim7 := { stood := { row := numeralNearUptoRow, standIns := [], harness := (true, "6061535a52630bf073c70f3010b954c6d4d102bbc6c82171d29629d90313272e"), looks := false }, kinds := [], alts := [], laidByText := true, laidKinds := [.data, .pinned], laidTests := true, laidLooks := .later }
def NumeralNearUptoCardSaid : Prop := Claim7.holds Tryd.pinned (.plain (OpenSpec.upto numeralNearSpec)) numeralNearUptoCard
end Rows
end Go.Proofs.YtjfakpogfakicaaDoor
