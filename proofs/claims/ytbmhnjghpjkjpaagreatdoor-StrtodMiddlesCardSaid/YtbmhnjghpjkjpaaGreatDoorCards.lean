/-
  DERIVED. GIVEN WITH THE SEED: THE CARDS: each row of YtbmhnjghpjkjpaaGreatDoorRows.lean that lists a variable, with what it lists TIED to the program's text (the seventh form; the later family's looks); each row that meets fmt, with fmt's text TOLD by the authors' own Lean function (tested against real Go, not proved from fmt's source: count such statements apart). THE CARD IS WHAT COUNTS. Prove the row's statement (the work); the ties are given (YtbmhnjghpjkjpaaGreatDoorTie.lean); close each card by the builder's one call (the guide's Derived/Test/ToyasCard.lean, 'card_holds'). Laid BY PROGRAM, IN A SANDBOX (cutbox-door.mjs). By AI agents, Wed Nov 11 2026. No macro, syntax, notation, axiom, sorry.
-/
import Derived.Test.YtbmhnjghpjkjpaaGreatDoorRows
import GoSem.ClaimSeven
namespace Go.Proofs.YtbmhnjghpjkjpaaGreatDoor
namespace Rows

/-- THE TIED CARD OF 'abacustop.CoreReads'. -/
def coreReadsCard : Claim7 := { stood := { row := coreReadsRow, standIns := [], harness := (true, "1fb38bde2a6313c339c323fbd7d3c8a858f864d2b2241baeb7c2cf7e17e37021"), looks := false }, kinds := [], alts := [], laidByText := true, laidKinds := [.data, .pinned], laidTests := true, laidLooks := .later }
def CoreReadsCardSaid : Prop := Claim7.holds Tryz.pinned (.plain (OpenSpec.ofChange coreReadsSpec)) coreReadsCard

/-- THE TIED CARD OF 'abacustop.CoreRoads'. -/
def coreRoadsCard : Claim7 := { stood := { row := coreRoadsRow, standIns := [], harness := (true, "1fb38bde2a6313c339c323fbd7d3c8a858f864d2b2241baeb7c2cf7e17e37021"), looks := false }, kinds := [], alts := [], laidByText := true, laidKinds := [.data, .data, .pinned], laidTests := true, laidLooks := .later }
def CoreRoadsCardSaid : Prop := Claim7.holds Tryz.pinned (.plain (OpenSpec.ofChange coreRoadsSpec)) coreRoadsCard

/-- THE TIED CARD OF 'abacuslaw09.QuickAll'. -/
def quickAllCard : Claim7 := { stood := { row := quickAllRow, standIns := [], harness := (true, "1fb38bde2a6313c339c323fbd7d3c8a858f864d2b2241baeb7c2cf7e17e37021"), looks := false }, kinds := [], alts := [], laidByText := true, laidKinds := [.data, .data, .pinned], laidTests := true, laidLooks := .later }
def QuickAllCardSaid : Prop := Claim7.holds Tryz.pinned (.plain (OpenSpec.ofChange quickAllSpec)) quickAllCard

/-- THE TIED CARD OF 'abacuslaw10.StrtodRoads'. -/
def strtodRoadsCard : Claim7 := { stood := { row := strtodRoadsRow, standIns := [], harness := (true, "1fb38bde2a6313c339c323fbd7d3c8a858f864d2b2241baeb7c2cf7e17e37021"), looks := false }, kinds := [], alts := [], laidByText := true, laidKinds := [.data, .data, .pinned], laidTests := true, laidLooks := .later }
def StrtodRoadsCardSaid : Prop := Claim7.holds Tryz.pinned (.plain (OpenSpec.ofChange strtodRoadsSpec)) strtodRoadsCard

/-- THE TIED CARD OF 'abacustop.CoreOrders'. -/
def coreOrdersCard : Claim7 := { stood := { row := coreOrdersRow, standIns := [], harness := (true, "1fb38bde2a6313c339c323fbd7d3c8a858f864d2b2241baeb7c2cf7e17e37021"), looks := false }, kinds := [], alts := [], laidByText := true, laidKinds := [.data, .pinned], laidTests := true, laidLooks := .later }
def CoreOrdersCardSaid : Prop := Claim7.holds Tryz.pinned (.plain (OpenSpec.ofChange coreOrdersSpec)) coreOrdersCard

/-- THE TIED CARD OF 'abacuslaw10.StrtodFraming'. -/
def strtodFramingCard : Claim7 := { stood := { row := strtodFramingRow, standIns := [], harness := (true, "1fb38bde2a6313c339c323fbd7d3c8a858f864d2b2241baeb7c2cf7e17e37021"), looks := false }, kinds := [], alts := [], laidByText := true, laidKinds := [.data, .data, .pinned], laidTests := true, laidLooks := .later }
def StrtodFramingCardSaid : Prop := Claim7.holds Tryz.pinned (.plain (OpenSpec.ofChange strtodFramingSpec)) strtodFramingCard

/-- THE TIED CARD OF 'abacuslaw10.StrtodForms'. -/
def strtodFormsCard : Claim7 := { stood := { row := strtodFormsRow, standIns := [], harness := (true, "1fb38bde2a6313c339c323fbd7d3c8a858f864d2b2241baeb7c2cf7e17e37021"), looks := false }, kinds := [], alts := [], laidByText := true, laidKinds := [.data, .data, .pinned], laidTests := true, laidLooks := .later }
def StrtodFormsCardSaid : Prop := Claim7.holds Tryz.pinned (.plain (OpenSpec.ofChange strtodFormsSpec)) strtodFormsCard

/-- THE TIED CARD OF 'abacuslaw10.StrtodNearest'. -/
def strtodNearestCard : Claim7 := { stood := { row := strtodNearestRow, standIns := [], harness := (true, "1fb38bde2a6313c339c323fbd7d3c8a858f864d2b2241baeb7c2cf7e17e37021"), looks := false }, kinds := [], alts := [], laidByText := true, laidKinds := [.data, .data, .pinned], laidTests := true, laidLooks := .later }
def StrtodNearestCardSaid : Prop := Claim7.holds Tryz.pinned (.plain (OpenSpec.ofChange strtodNearestSpec)) strtodNearestCard

/-- THE TIED CARD OF 'abacuslaw10.StrtodExact'. -/
def strtodExactCard : Claim7 := { stood := { row := strtodExactRow, standIns := [], harness := (true, "1fb38bde2a6313c339c323fbd7d3c8a858f864d2b2241baeb7c2cf7e17e37021"), looks := false }, kinds := [], alts := [], laidByText := true, laidKinds := [.data, .data, .pinned], laidTests := true, laidLooks := .later }
def StrtodExactCardSaid : Prop := Claim7.holds Tryz.pinned (.plain (OpenSpec.ofChange strtodExactSpec)) strtodExactCard

/-- THE TIED CARD OF 'abacuslaw10.StrtodMiddles'. -/
def strtodMiddlesCard : Claim7 := { stood := { row := strtodMiddlesRow, standIns := [], harness := (true, "1fb38bde2a6313c339c323fbd7d3c8a858f864d2b2241baeb7c2cf7e17e37021"), looks := false }, kinds := [], alts := [], laidByText := true, laidKinds := [.data, .data, .pinned], laidTests := true, laidLooks := .later }
def StrtodMiddlesCardSaid : Prop := Claim7.holds Tryz.pinned (.plain (OpenSpec.ofChange strtodMiddlesSpec)) strtodMiddlesCard

/-- THE TIED CARD OF 'abacuslaw10.StrtodRising'. -/
def strtodRisingCard : Claim7 := { stood := { row := strtodRisingRow, standIns := [], harness := (true, "1fb38bde2a6313c339c323fbd7d3c8a858f864d2b2241baeb7c2cf7e17e37021"), looks := false }, kinds := [], alts := [], laidByText := true, laidKinds := [.data, .data, .pinned], laidTests := true, laidLooks := .later }
def StrtodRisingCardSaid : Prop := Claim7.holds Tryz.pinned (.plain (OpenSpec.ofChange strtodRisingSpec)) strtodRisingCard

/-- THE SECOND FORM's CARD OF 'abacustop.CoreReads'. -/
def coreReadsUptoCard : Claim7 := { stood := { row := coreReadsUptoRow, standIns := [], harness := (true, "1fb38bde2a6313c339c323fbd7d3c8a858f864d2b2241baeb7c2cf7e17e37021"), looks := false }, kinds := [], alts := [], laidByText := true, laidKinds := [.data, .pinned], laidTests := true, laidLooks := .later }
def CoreReadsUptoCardSaid : Prop := Claim7.holds Tryz.pinned (.plain (OpenSpec.upto coreReadsSpec)) coreReadsUptoCard

/-- THE SECOND FORM's CARD OF 'abacustop.CoreRoads'. -/
def coreRoadsUptoCard : Claim7 := { stood := { row := coreRoadsUptoRow, standIns := [], harness := (true, "1fb38bde2a6313c339c323fbd7d3c8a858f864d2b2241baeb7c2cf7e17e37021"), looks := false }, kinds := [], alts := [], laidByText := true, laidKinds := [.data, .data, .pinned], laidTests := true, laidLooks := .later }
def CoreRoadsUptoCardSaid : Prop := Claim7.holds Tryz.pinned (.plain (OpenSpec.upto coreRoadsSpec)) coreRoadsUptoCard

/-- THE SECOND FORM's CARD OF 'abacuslaw09.QuickAll'. -/
def quickAllUptoCard : Claim7 := { stood := { row := quickAllUptoRow, standIns := [], harness := (true, "1fb38bde2a6313c339c323fbd7d3c8a858f864d2b2241baeb7c2cf7e17e37021"), looks := false }, kinds := [], alts := [], laidByText := true, laidKinds := [.data, .data, .pinned], laidTests := true, laidLooks := .later }
def QuickAllUptoCardSaid : Prop := Claim7.holds Tryz.pinned (.plain (OpenSpec.upto quickAllSpec)) quickAllUptoCard

/-- THE SECOND FORM's CARD OF 'abacuslaw10.StrtodRoads'. -/
def strtodRoadsUptoCard : Claim7 := { stood := { row := strtodRoadsUptoRow, standIns := [], harness := (true, "1fb38bde2a6313c339c323fbd7d3c8a858f864d2b2241baeb7c2cf7e17e37021"), looks := false }, kinds := [], alts := [], laidByText := true, laidKinds := [.data, .data, .pinned], laidTests := true, laidLooks := .later }
def StrtodRoadsUptoCardSaid : Prop := Claim7.holds Tryz.pinned (.plain (OpenSpec.upto strtodRoadsSpec)) strtodRoadsUptoCard

/-- THE SECOND FORM's CARD OF 'abacustop.CoreOrders'. -/
def coreOrdersUptoCard : Claim7 := { stood := { row := coreOrdersUptoRow, standIns := [], harness := (true, "1fb38bde2a6313c339c323fbd7d3c8a858f864d2b2241baeb7c2cf7e17e37021"), looks := false }, kinds := [], alts := [], laidByText := true, laidKinds := [.data, .pinned], laidTests := true, laidLooks := .later }
def CoreOrdersUptoCardSaid : Prop := Claim7.holds Tryz.pinned (.plain (OpenSpec.upto coreOrdersSpec)) coreOrdersUptoCard

/-- THE SECOND FORM's CARD OF 'abacuslaw10.StrtodFraming'. -/
def strtodFramingUptoCard : Claim7 := { stood := { row := strtodFramingUptoRow, standIns := [], harness := (true, "1fb38bde2a6313c339c323fbd7d3c8a858f864d2b2241baeb7c2cf7e17e37021"), looks := false }, kinds := [], alts := [], laidByText := true, laidKinds := [.data, .data, .pinned], laidTests := true, laidLooks := .later }
def StrtodFramingUptoCardSaid : Prop := Claim7.holds Tryz.pinned (.plain (OpenSpec.upto strtodFramingSpec)) strtodFramingUptoCard

/-- THE SECOND FORM's CARD OF 'abacuslaw10.StrtodForms'. -/
def strtodFormsUptoCard : Claim7 := { stood := { row := strtodFormsUptoRow, standIns := [], harness := (true, "1fb38bde2a6313c339c323fbd7d3c8a858f864d2b2241baeb7c2cf7e17e37021"), looks := false }, kinds := [], alts := [], laidByText := true, laidKinds := [.data, .data, .pinned], laidTests := true, laidLooks := .later }
def StrtodFormsUptoCardSaid : Prop := Claim7.holds Tryz.pinned (.plain (OpenSpec.upto strtodFormsSpec)) strtodFormsUptoCard

/-- THE SECOND FORM's CARD OF 'abacuslaw10.StrtodNearest'. -/
def strtodNearestUptoCard : Claim7 := { stood := { row := strtodNearestUptoRow, standIns := [], harness := (true, "1fb38bde2a6313c339c323fbd7d3c8a858f864d2b2241baeb7c2cf7e17e37021"), looks := false }, kinds := [], alts := [], laidByText := true, laidKinds := [.data, .data, .pinned], laidTests := true, laidLooks := .later }
def StrtodNearestUptoCardSaid : Prop := Claim7.holds Tryz.pinned (.plain (OpenSpec.upto strtodNearestSpec)) strtodNearestUptoCard

/-- THE SECOND FORM's CARD OF 'abacuslaw10.StrtodExact'. -/
def strtodExactUptoCard : Claim7 := { stood := { row := strtodExactUptoRow, standIns := [], harness := (true, "1fb38bde2a6313c339c323fbd7d3c8a858f864d2b2241baeb7c2cf7e17e37021"), looks := false }, kinds := [], alts := [], laidByText := true, laidKinds := [.data, .data, .pinned], laidTests := true, laidLooks := .later }
def StrtodExactUptoCardSaid : Prop := Claim7.holds Tryz.pinned (.plain (OpenSpec.upto strtodExactSpec)) strtodExactUptoCard

/-- THE SECOND FORM's CARD OF 'abacuslaw10.StrtodMiddles'. -/
def strtodMiddlesUptoCard : Claim7 := { stood := { row := strtodMiddlesUptoRow, standIns := [], harness := (true, "1fb38bde2a6313c339c323fbd7d3c8a858f864d2b2241baeb7c2cf7e17e37021"), looks := false }, kinds := [], alts := [], laidByText := true, laidKinds := [.data, .data, .pinned], laidTests := true, laidLooks := .later }
def StrtodMiddlesUptoCardSaid : Prop := Claim7.holds Tryz.pinned (.plain (OpenSpec.upto strtodMiddlesSpec)) strtodMiddlesUptoCard

/-- THE SECOND FORM's CARD OF 'abacuslaw10.StrtodRising'. -/
def strtodRisingUptoCard : Claim7 := { stood := { row := strtodRisingUptoRow, standIns := [], harness := (true, "1fb38bde2a6313c339c323fbd7d3c8a858f864d2b2241baeb7c2cf7e17e37021"), looks := false }, kinds := [], alts := [], laidByText := true, laidKinds := [.data, .data, .pinned], laidTests := true, laidLooks := .later }
def StrtodRisingUptoCardSaid : Prop := Claim7.holds Tryz.pinned (.plain (OpenSpec.upto strtodRisingSpec)) strtodRisingUptoCard
end Rows
end Go.Proofs.YtbmhnjghpjkjpaaGreatDoor
