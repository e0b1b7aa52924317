/-
  DERIVED. GIVEN WITH THE SEED: THE CARDS: each row of YtmoilbeomnapfaaGreatDoorRows.lean that lists a variable, with what it lists TIED to the program's text (the seventh form; the later family's looks); each row that meets fmt, with fmt's text TOLD by the authors' own Lean function (tested against real Go, not proved from fmt's source: count such statements apart). THE CARD IS WHAT COUNTS. Prove the row's statement (the work); the ties are given (YtmoilbeomnapfaaGreatDoorTie.lean); close each card by the builder's one call (the guide's Derived/Test/ToyasCard.lean, 'card_holds'). Laid BY PROGRAM, IN A SANDBOX (cutbox-door.mjs). By AI agents, Wed Nov 11 2026. No macro, syntax, notation, axiom, sorry.
-/
import Derived.Test.YtmoilbeomnapfaaGreatDoorRows
import GoSem.ClaimSeven
namespace Go.Proofs.YtmoilbeomnapfaaGreatDoor
namespace Rows

/-- THE TIED CARD OF 'abacuslaw12.ShortestAll'. -/
def shortestAllCard : Claim7 := { stood := { row := shortestAllRow, standIns := [], harness := (true, "d02fc3fb357c15fc7156a364c084ac0181ae87669e4c60003d87e74c9de4973e"), looks := false }, kinds := [], alts := [], laidByText := true, laidKinds := [.data, .data, .data, .data, .pinned], laidTests := true, laidLooks := .later }
def ShortestAllCardSaid : Prop := Claim7.holds Tryz.pinned (.plain (OpenSpec.ofChange shortestAllSpec)) shortestAllCard

/-- THE TIED CARD OF 'abacuslaw23.TokenNumbers'. -/
def tokenNumbersCard : Claim7 := { stood := { row := tokenNumbersRow, standIns := [], harness := (true, "d02fc3fb357c15fc7156a364c084ac0181ae87669e4c60003d87e74c9de4973e"), looks := false }, kinds := [], alts := [], laidByText := true, laidKinds := [.data, .data, .data, .data, .pinned], laidTests := true, laidLooks := .later }
def TokenNumbersCardSaid : Prop := Claim7.holds Tryz.pinned (.plain (OpenSpec.ofChange tokenNumbersSpec)) tokenNumbersCard

/-- THE SECOND FORM's CARD OF 'abacuslaw12.ShortestAll'. -/
def shortestAllUptoCard : Claim7 := { stood := { row := shortestAllUptoRow, standIns := [], harness := (true, "d02fc3fb357c15fc7156a364c084ac0181ae87669e4c60003d87e74c9de4973e"), looks := false }, kinds := [], alts := [], laidByText := true, laidKinds := [.data, .data, .data, .data, .pinned], laidTests := true, laidLooks := .later }
def ShortestAllUptoCardSaid : Prop := Claim7.holds Tryz.pinned (.plain (OpenSpec.upto shortestAllSpec)) shortestAllUptoCard

/-- THE SECOND FORM's CARD OF 'abacuslaw23.TokenNumbers'. -/
def tokenNumbersUptoCard : Claim7 := { stood := { row := tokenNumbersUptoRow, standIns := [], harness := (true, "d02fc3fb357c15fc7156a364c084ac0181ae87669e4c60003d87e74c9de4973e"), looks := false }, kinds := [], alts := [], laidByText := true, laidKinds := [.data, .data, .data, .data, .pinned], laidTests := true, laidLooks := .later }
def TokenNumbersUptoCardSaid : Prop := Claim7.holds Tryz.pinned (.plain (OpenSpec.upto tokenNumbersSpec)) tokenNumbersUptoCard
end Rows
end Go.Proofs.YtmoilbeomnapfaaGreatDoor
