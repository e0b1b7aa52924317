/-
  DERIVED. GIVEN WITH THE SEED: THE CARDS: each row of YtjhkpjddcaglnaaDoorRows.lean that lists a variable, with what it lists TIED to the program's text (the seventh form; the later family's looks); each row that meets fmt, with fmt's text TOLD by the authors' own Lean function (tested against real Go, not proved from fmt's source: count such statements apart). THE CARD IS WHAT COUNTS. Prove the row's statement (the work); the ties are given (YtjhkpjddcaglnaaDoorTie.lean); close each card by the builder's one call (the guide's Derived/Test/ToyasCard.lean, 'card_holds'). Laid BY PROGRAM, IN A SANDBOX (cutbox-door.mjs). By AI agents, Wed Nov 11 2026. No macro, syntax, notation, axiom, sorry.
-/
import Derived.Test.YtjhkpjddcaglnaaDoorRows
import GoSem.ClaimSeven
namespace Go.Proofs.YtjhkpjddcaglnaaDoor
namespace Rows

/-- THE TIED CARD OF 'abacuslaw03.NumeralNear'. -/
def numeralNearCard : Claim7 := { stood := { row := numeralNearRow, standIns := [], harness := (true, "0d22ec662232332cad2618075e59c2d26861bb9fb2c1274a5a3af42a916d04ec"), looks := false }, kinds := [], alts := [], laidByText := true, laidKinds := [.data, .pinned], laidTests := true, laidLooks := .later }
def NumeralNearCardSaid : Prop := Claim7.holds Tryd.pinned (.plain (OpenSpec.ofChange numeralNearSpec)) numeralNearCard

/-- THE TIED CARD OF 'abacuslaw11.FixedAlls'. -/
def fixedAllsCard : Claim7 := { stood := { row := fixedAllsRow, standIns := [], harness := (true, "0d22ec662232332cad2618075e59c2d26861bb9fb2c1274a5a3af42a916d04ec"), looks := false }, kinds := [], alts := [], laidByText := true, laidKinds := [.data, .data, .pinned], laidTests := true, laidLooks := .later }
def FixedAllsCardSaid : Prop := Claim7.holds Tryd.pinned (.plain (OpenSpec.ofChange fixedAllsSpec)) fixedAllsCard

/-- THE TIED CARD OF 'abacuslaw11.FixedExact'. -/
def fixedExactCard : Claim7 := { stood := { row := fixedExactRow, standIns := [], harness := (true, "0d22ec662232332cad2618075e59c2d26861bb9fb2c1274a5a3af42a916d04ec"), looks := false }, kinds := [], alts := [], laidByText := true, laidKinds := [.data, .data, .pinned], laidTests := true, laidLooks := .later }
def FixedExactCardSaid : Prop := Claim7.holds Tryd.pinned (.plain (OpenSpec.ofChange fixedExactSpec)) fixedExactCard

/-- THE TIED CARD OF 'abacuslaw11.FixedPlaces'. -/
def fixedPlacesCard : Claim7 := { stood := { row := fixedPlacesRow, standIns := [], harness := (true, "0d22ec662232332cad2618075e59c2d26861bb9fb2c1274a5a3af42a916d04ec"), looks := false }, kinds := [], alts := [], laidByText := true, laidKinds := [.data, .data, .pinned], laidTests := true, laidLooks := .later }
def FixedPlacesCardSaid : Prop := Claim7.holds Tryd.pinned (.plain (OpenSpec.ofChange fixedPlacesSpec)) fixedPlacesCard

/-- THE TIED CARD OF 'abacuslaw11.FixedHeads'. -/
def fixedHeadsCard : Claim7 := { stood := { row := fixedHeadsRow, standIns := [], harness := (true, "0d22ec662232332cad2618075e59c2d26861bb9fb2c1274a5a3af42a916d04ec"), looks := false }, kinds := [], alts := [], laidByText := true, laidKinds := [.data, .data, .pinned], laidTests := true, laidLooks := .later }
def FixedHeadsCardSaid : Prop := Claim7.holds Tryd.pinned (.plain (OpenSpec.ofChange fixedHeadsSpec)) fixedHeadsCard

/-- THE TIED CARD OF 'abacuslaw11.FixedCuts'. -/
def fixedCutsCard : Claim7 := { stood := { row := fixedCutsRow, standIns := [], harness := (true, "0d22ec662232332cad2618075e59c2d26861bb9fb2c1274a5a3af42a916d04ec"), looks := false }, kinds := [], alts := [], laidByText := true, laidKinds := [.data, .data, .pinned], laidTests := true, laidLooks := .later }
def FixedCutsCardSaid : Prop := Claim7.holds Tryd.pinned (.plain (OpenSpec.ofChange fixedCutsSpec)) fixedCutsCard

/-- THE TIED CARD OF 'abacuslaw11.FixedNearest'. -/
def fixedNearestCard : Claim7 := { stood := { row := fixedNearestRow, standIns := [], harness := (true, "0d22ec662232332cad2618075e59c2d26861bb9fb2c1274a5a3af42a916d04ec"), looks := false }, kinds := [], alts := [], laidByText := true, laidKinds := [.data, .data, .pinned], laidTests := true, laidLooks := .later }
def FixedNearestCardSaid : Prop := Claim7.holds Tryd.pinned (.plain (OpenSpec.ofChange fixedNearestSpec)) fixedNearestCard

/-- THE SECOND FORM's CARD OF 'abacuslaw03.NumeralNear'. -/
def numeralNearUptoCard : Claim7 := { stood := { row := numeralNearUptoRow, standIns := [], harness := (true, "0d22ec662232332cad2618075e59c2d26861bb9fb2c1274a5a3af42a916d04ec"), looks := false }, kinds := [], alts := [], laidByText := true, laidKinds := [.data, .pinned], laidTests := true, laidLooks := .later }
def NumeralNearUptoCardSaid : Prop := Claim7.holds Tryd.pinned (.plain (OpenSpec.upto numeralNearSpec)) numeralNearUptoCard

/-- THE SECOND FORM's CARD OF 'abacuslaw11.FixedAlls'. -/
def fixedAllsUptoCard : Claim7 := { stood := { row := fixedAllsUptoRow, standIns := [], harness := (true, "0d22ec662232332cad2618075e59c2d26861bb9fb2c1274a5a3af42a916d04ec"), looks := false }, kinds := [], alts := [], laidByText := true, laidKinds := [.data, .data, .pinned], laidTests := true, laidLooks := .later }
def FixedAllsUptoCardSaid : Prop := Claim7.holds Tryd.pinned (.plain (OpenSpec.upto fixedAllsSpec)) fixedAllsUptoCard

/-- THE SECOND FORM's CARD OF 'abacuslaw11.FixedExact'. -/
def fixedExactUptoCard : Claim7 := { stood := { row := fixedExactUptoRow, standIns := [], harness := (true, "0d22ec662232332cad2618075e59c2d26861bb9fb2c1274a5a3af42a916d04ec"), looks := false }, kinds := [], alts := [], laidByText := true, laidKinds := [.data, .data, .pinned], laidTests := true, laidLooks := .later }
def FixedExactUptoCardSaid : Prop := Claim7.holds Tryd.pinned (.plain (OpenSpec.upto fixedExactSpec)) fixedExactUptoCard

/-- THE SECOND FORM's CARD OF 'abacuslaw11.FixedPlaces'. -/
def fixedPlacesUptoCard : Claim7 := { stood := { row := fixedPlacesUptoRow, standIns := [], harness := (true, "0d22ec662232332cad2618075e59c2d26861bb9fb2c1274a5a3af42a916d04ec"), looks := false }, kinds := [], alts := [], laidByText := true, laidKinds := [.data, .data, .pinned], laidTests := true, laidLooks := .later }
def FixedPlacesUptoCardSaid : Prop := Claim7.holds Tryd.pinned (.plain (OpenSpec.upto fixedPlacesSpec)) fixedPlacesUptoCard

/-- THE SECOND FORM's CARD OF 'abacuslaw11.FixedHeads'. -/
def fixedHeadsUptoCard : Claim7 := { stood := { row := fixedHeadsUptoRow, standIns := [], harness := (true, "0d22ec662232332cad2618075e59c2d26861bb9fb2c1274a5a3af42a916d04ec"), looks := false }, kinds := [], alts := [], laidByText := true, laidKinds := [.data, .data, .pinned], laidTests := true, laidLooks := .later }
def FixedHeadsUptoCardSaid : Prop := Claim7.holds Tryd.pinned (.plain (OpenSpec.upto fixedHeadsSpec)) fixedHeadsUptoCard

/-- THE SECOND FORM's CARD OF 'abacuslaw11.FixedCuts'. -/
def fixedCutsUptoCard : Claim7 := { stood := { row := fixedCutsUptoRow, standIns := [], harness := (true, "0d22ec662232332cad2618075e59c2d26861bb9fb2c1274a5a3af42a916d04ec"), looks := false }, kinds := [], alts := [], laidByText := true, laidKinds := [.data, .data, .pinned], laidTests := true, laidLooks := .later }
def FixedCutsUptoCardSaid : Prop := Claim7.holds Tryd.pinned (.plain (OpenSpec.upto fixedCutsSpec)) fixedCutsUptoCard

/-- THE SECOND FORM's CARD OF 'abacuslaw11.FixedNearest'. -/
def fixedNearestUptoCard : Claim7 := { stood := { row := fixedNearestUptoRow, standIns := [], harness := (true, "0d22ec662232332cad2618075e59c2d26861bb9fb2c1274a5a3af42a916d04ec"), looks := false }, kinds := [], alts := [], laidByText := true, laidKinds := [.data, .data, .pinned], laidTests := true, laidLooks := .later }
def FixedNearestUptoCardSaid : Prop := Claim7.holds Tryd.pinned (.plain (OpenSpec.upto fixedNearestSpec)) fixedNearestUptoCard
end Rows
end Go.Proofs.YtjhkpjddcaglnaaDoor
