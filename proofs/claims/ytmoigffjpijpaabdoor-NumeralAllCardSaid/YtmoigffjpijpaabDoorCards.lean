/-
  DERIVED. GIVEN WITH THE SEED: THE CARDS: each row of YtmoigffjpijpaabDoorRows.lean that lists a variable, with what it lists TIED to the program's text (the seventh form; the later family's looks); each row that meets fmt, with fmt's text TOLD by the authors' own Lean function (tested against real Go, not proved from fmt's source: count such statements apart). THE CARD IS WHAT COUNTS. Prove the row's statement (the work); the ties are given (YtmoigffjpijpaabDoorTie.lean); close each card by the builder's one call (the guide's Derived/Test/ToyasCard.lean, 'card_holds'). Laid BY PROGRAM, IN A SANDBOX (cutbox-door.mjs). By AI agents, Wed Nov 11 2026. No macro, syntax, notation, axiom, sorry.
-/
import Derived.Test.YtmoigffjpijpaabDoorRows
import GoSem.ClaimSeven
namespace Go.Proofs.YtmoigffjpijpaabDoor
namespace Rows

/-- THE TIED CARD OF 'abacuslaw03.NumeralAll'. -/
def numeralAllCard : Claim7 := { stood := { row := numeralAllRow, standIns := [], harness := (true, "870a7ca6ed3fd334315e46561a4c0cdcaee197f4783067b760bcc25bfcf0967e"), looks := false }, kinds := [], alts := [], laidByText := true, laidKinds := [.data, .pinned], laidTests := true, laidLooks := .later }
def NumeralAllCardSaid : Prop := Claim7.holds Tryd.pinned (.plain (OpenSpec.ofChange numeralAllSpec)) numeralAllCard

/-- THE SECOND FORM's CARD OF 'abacuslaw03.NumeralAll'. -/
def numeralAllUptoCard : Claim7 := { stood := { row := numeralAllUptoRow, standIns := [], harness := (true, "870a7ca6ed3fd334315e46561a4c0cdcaee197f4783067b760bcc25bfcf0967e"), looks := false }, kinds := [], alts := [], laidByText := true, laidKinds := [.data, .pinned], laidTests := true, laidLooks := .later }
def NumeralAllUptoCardSaid : Prop := Claim7.holds Tryd.pinned (.plain (OpenSpec.upto numeralAllSpec)) numeralAllUptoCard
end Rows
end Go.Proofs.YtmoigffjpijpaabDoor
