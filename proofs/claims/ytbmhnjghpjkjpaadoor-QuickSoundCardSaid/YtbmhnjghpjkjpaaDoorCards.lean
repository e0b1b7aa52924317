/-
  DERIVED. GIVEN WITH THE SEED: THE CARDS: each row of YtbmhnjghpjkjpaaDoorRows.lean that lists a variable, with what it lists TIED to the program's text (the seventh form; the later family's looks); each row that meets fmt, with fmt's text TOLD by the authors' own Lean function (tested against real Go, not proved from fmt's source: count such statements apart). THE CARD IS WHAT COUNTS. Prove the row's statement (the work); the ties are given (YtbmhnjghpjkjpaaDoorTie.lean); close each card by the builder's one call (the guide's Derived/Test/ToyasCard.lean, 'card_holds'). Laid BY PROGRAM, IN A SANDBOX (cutbox-door.mjs). By AI agents, Wed Nov 11 2026. No macro, syntax, notation, axiom, sorry.
-/
import Derived.Test.YtbmhnjghpjkjpaaDoorRows
import GoSem.ClaimSeven
namespace Go.Proofs.YtbmhnjghpjkjpaaDoor
namespace Rows

/-- THE TIED CARD OF 'abacuslaw09.QuickTable'. -/
def quickTableCard : Claim7 := { stood := { row := quickTableRow, standIns := [], harness := (true, "d1e3e81c50d3cb0a11d06a9f077bda98c7b75131911508f1252bfede65e821fd"), looks := false }, kinds := [], alts := [], laidByText := true, laidKinds := [.data, .data, .pinned], laidTests := true, laidLooks := .later }
def QuickTableCardSaid : Prop := Claim7.holds Tryd.pinned (.plain (OpenSpec.ofChange quickTableSpec)) quickTableCard

/-- THE TIED CARD OF 'abacuslaw09.QuickSure'. -/
def quickSureCard : Claim7 := { stood := { row := quickSureRow, standIns := [], harness := (true, "d1e3e81c50d3cb0a11d06a9f077bda98c7b75131911508f1252bfede65e821fd"), looks := false }, kinds := [], alts := [], laidByText := true, laidKinds := [.data, .data, .pinned], laidTests := true, laidLooks := .later }
def QuickSureCardSaid : Prop := Claim7.holds Tryd.pinned (.plain (OpenSpec.ofChange quickSureSpec)) quickSureCard

/-- THE TIED CARD OF 'abacuslaw09.QuickSound'. -/
def quickSoundCard : Claim7 := { stood := { row := quickSoundRow, standIns := [], harness := (true, "d1e3e81c50d3cb0a11d06a9f077bda98c7b75131911508f1252bfede65e821fd"), looks := false }, kinds := [], alts := [], laidByText := true, laidKinds := [.data, .data, .pinned], laidTests := true, laidLooks := .later }
def QuickSoundCardSaid : Prop := Claim7.holds Tryd.pinned (.plain (OpenSpec.ofChange quickSoundSpec)) quickSoundCard

/-- THE TIED CARD OF 'abacuslaw09.QuickTrue'. -/
def quickTrueCard : Claim7 := { stood := { row := quickTrueRow, standIns := [], harness := (true, "d1e3e81c50d3cb0a11d06a9f077bda98c7b75131911508f1252bfede65e821fd"), looks := false }, kinds := [], alts := [], laidByText := true, laidKinds := [.data, .data, .pinned], laidTests := true, laidLooks := .later }
def QuickTrueCardSaid : Prop := Claim7.holds Tryd.pinned (.plain (OpenSpec.ofChange quickTrueSpec)) quickTrueCard

/-- THE SECOND FORM's CARD OF 'abacuslaw09.QuickTable'. -/
def quickTableUptoCard : Claim7 := { stood := { row := quickTableUptoRow, standIns := [], harness := (true, "d1e3e81c50d3cb0a11d06a9f077bda98c7b75131911508f1252bfede65e821fd"), looks := false }, kinds := [], alts := [], laidByText := true, laidKinds := [.data, .data, .pinned], laidTests := true, laidLooks := .later }
def QuickTableUptoCardSaid : Prop := Claim7.holds Tryd.pinned (.plain (OpenSpec.upto quickTableSpec)) quickTableUptoCard

/-- THE SECOND FORM's CARD OF 'abacuslaw09.QuickSure'. -/
def quickSureUptoCard : Claim7 := { stood := { row := quickSureUptoRow, standIns := [], harness := (true, "d1e3e81c50d3cb0a11d06a9f077bda98c7b75131911508f1252bfede65e821fd"), looks := false }, kinds := [], alts := [], laidByText := true, laidKinds := [.data, .data, .pinned], laidTests := true, laidLooks := .later }
def QuickSureUptoCardSaid : Prop := Claim7.holds Tryd.pinned (.plain (OpenSpec.upto quickSureSpec)) quickSureUptoCard

/-- THE SECOND FORM's CARD OF 'abacuslaw09.QuickSound'. -/
def quickSoundUptoCard : Claim7 := { stood := { row := quickSoundUptoRow, standIns := [], harness := (true, "d1e3e81c50d3cb0a11d06a9f077bda98c7b75131911508f1252bfede65e821fd"), looks := false }, kinds := [], alts := [], laidByText := true, laidKinds := [.data, .data, .pinned], laidTests := true, laidLooks := .later }
def QuickSoundUptoCardSaid : Prop := Claim7.holds Tryd.pinned (.plain (OpenSpec.upto quickSoundSpec)) quickSoundUptoCard

/-- THE SECOND FORM's CARD OF 'abacuslaw09.QuickTrue'. -/
def quickTrueUptoCard : Claim7 := { stood := { row := quickTrueUptoRow, standIns := [], harness := (true, "d1e3e81c50d3cb0a11d06a9f077bda98c7b75131911508f1252bfede65e821fd"), looks := false }, kinds := [], alts := [], laidByText := true, laidKinds := [.data, .data, .pinned], laidTests := true, laidLooks := .later }
def QuickTrueUptoCardSaid : Prop := Claim7.holds Tryd.pinned (.plain (OpenSpec.upto quickTrueSpec)) quickTrueUptoCard
end Rows
end Go.Proofs.YtbmhnjghpjkjpaaDoor
