/-
  DERIVED. GIVEN WITH THE SEED: THE CARDS: each row of YtfcbohachbeamaaGreatDoorRows.lean that lists a variable, with what it lists TIED to the program's text (the seventh form; the later family's looks); each row that meets fmt, with fmt's text TOLD by the authors' own Lean function (tested against real Go, not proved from fmt's source: count such statements apart). THE CARD IS WHAT COUNTS. Prove the row's statement (the work); the ties are given (YtfcbohachbeamaaGreatDoorTie.lean); close each card by the builder's one call (the guide's Derived/Test/ToyasCard.lean, 'card_holds'). Laid BY PROGRAM, IN A SANDBOX (cutbox-door.mjs). By AI agents, Wed Nov 11 2026. No macro, syntax, notation, axiom, sorry.
-/
import Derived.Test.YtfcbohachbeamaaGreatDoorRows
import GoSem.ClaimSeven
namespace Go.Proofs.YtfcbohachbeamaaGreatDoor
namespace Rows

/-- THE TIED CARD OF 'epacttop.WholeUnsmear'. -/
def wholeUnsmearCard : Claim7 := { stood := { row := wholeUnsmearRow, standIns := [], harness := (true, "a5e92cdeb43a38ddbd0d8937355bc9b290e20584731649ef899c437057fd7b54"), looks := true }, kinds := [], alts := [], laidByText := true, laidKinds := [.data, .data, .data, .data, .sentinel, .sentinel, .pinned], laidTests := true, laidLooks := .later }
def WholeUnsmearCardSaid : Prop := Claim7.holds Tryz.pinned (.plain (OpenSpec.ofChange wholeUnsmearSpec)) wholeUnsmearCard

/-- THE TIED CARD OF 'epacttop.WholeTwice'. -/
def wholeTwiceCard : Claim7 := { stood := { row := wholeTwiceRow, standIns := [], harness := (true, "a5e92cdeb43a38ddbd0d8937355bc9b290e20584731649ef899c437057fd7b54"), looks := true }, kinds := [], alts := [], laidByText := true, laidKinds := [.data, .data, .data, .data, .sentinel, .sentinel, .pinned], laidTests := true, laidLooks := .later }
def WholeTwiceCardSaid : Prop := Claim7.holds Tryz.pinned (.plain (OpenSpec.ofChange wholeTwiceSpec)) wholeTwiceCard

/-- THE TIED CARD OF 'epacttop.WholeTurns'. -/
def wholeTurnsCard : Claim7 := { stood := { row := wholeTurnsRow, standIns := [], harness := (true, "a5e92cdeb43a38ddbd0d8937355bc9b290e20584731649ef899c437057fd7b54"), looks := true }, kinds := [], alts := [], laidByText := true, laidKinds := [.data, .data, .data, .data, .sentinel, .sentinel, .pinned], laidTests := true, laidLooks := .later }
def WholeTurnsCardSaid : Prop := Claim7.holds Tryz.pinned (.plain (OpenSpec.ofChange wholeTurnsSpec)) wholeTurnsCard

/-- THE TIED CARD OF 'epacttop.WholeDiffs'. -/
def wholeDiffsCard : Claim7 := { stood := { row := wholeDiffsRow, standIns := [], harness := (true, "a5e92cdeb43a38ddbd0d8937355bc9b290e20584731649ef899c437057fd7b54"), looks := true }, kinds := [], alts := [], laidByText := true, laidKinds := [.data, .data, .data, .data, .sentinel, .sentinel, .pinned], laidTests := true, laidLooks := .later }
def WholeDiffsCardSaid : Prop := Claim7.holds Tryz.pinned (.plain (OpenSpec.ofChange wholeDiffsSpec)) wholeDiffsCard

/-- THE TIED CARD OF 'epacttop.WholeFiles'. -/
def wholeFilesCard : Claim7 := { stood := { row := wholeFilesRow, standIns := [], harness := (true, "a5e92cdeb43a38ddbd0d8937355bc9b290e20584731649ef899c437057fd7b54"), looks := true }, kinds := [], alts := [], laidByText := true, laidKinds := [.data, .data, .data, .data, .sentinel, .sentinel, .pinned], laidTests := true, laidLooks := .later }
def WholeFilesCardSaid : Prop := Claim7.holds Tryz.pinned (.plain (OpenSpec.ofChange wholeFilesSpec)) wholeFilesCard

/-- THE TIED CARD OF 'epacttop.WholeAgain'. -/
def wholeAgainCard : Claim7 := { stood := { row := wholeAgainRow, standIns := [], harness := (true, "a5e92cdeb43a38ddbd0d8937355bc9b290e20584731649ef899c437057fd7b54"), looks := true }, kinds := [], alts := [], laidByText := true, laidKinds := [.data, .data, .data, .data, .sentinel, .sentinel, .pinned], laidTests := true, laidLooks := .later }
def WholeAgainCardSaid : Prop := Claim7.holds Tryz.pinned (.plain (OpenSpec.ofChange wholeAgainSpec)) wholeAgainCard

/-- THE SECOND FORM's CARD OF 'epacttop.WholeUnsmear'. -/
def wholeUnsmearUptoCard : Claim7 := { stood := { row := wholeUnsmearUptoRow, standIns := [], harness := (true, "a5e92cdeb43a38ddbd0d8937355bc9b290e20584731649ef899c437057fd7b54"), looks := true }, kinds := [], alts := [], laidByText := true, laidKinds := [.data, .data, .data, .data, .sentinel, .sentinel, .pinned], laidTests := true, laidLooks := .later }
def WholeUnsmearUptoCardSaid : Prop := Claim7.holds Tryz.pinned (.plain (OpenSpec.upto wholeUnsmearSpec)) wholeUnsmearUptoCard

/-- THE SECOND FORM's CARD OF 'epacttop.WholeTwice'. -/
def wholeTwiceUptoCard : Claim7 := { stood := { row := wholeTwiceUptoRow, standIns := [], harness := (true, "a5e92cdeb43a38ddbd0d8937355bc9b290e20584731649ef899c437057fd7b54"), looks := true }, kinds := [], alts := [], laidByText := true, laidKinds := [.data, .data, .data, .data, .sentinel, .sentinel, .pinned], laidTests := true, laidLooks := .later }
def WholeTwiceUptoCardSaid : Prop := Claim7.holds Tryz.pinned (.plain (OpenSpec.upto wholeTwiceSpec)) wholeTwiceUptoCard

/-- THE SECOND FORM's CARD OF 'epacttop.WholeTurns'. -/
def wholeTurnsUptoCard : Claim7 := { stood := { row := wholeTurnsUptoRow, standIns := [], harness := (true, "a5e92cdeb43a38ddbd0d8937355bc9b290e20584731649ef899c437057fd7b54"), looks := true }, kinds := [], alts := [], laidByText := true, laidKinds := [.data, .data, .data, .data, .sentinel, .sentinel, .pinned], laidTests := true, laidLooks := .later }
def WholeTurnsUptoCardSaid : Prop := Claim7.holds Tryz.pinned (.plain (OpenSpec.upto wholeTurnsSpec)) wholeTurnsUptoCard

/-- THE SECOND FORM's CARD OF 'epacttop.WholeDiffs'. -/
def wholeDiffsUptoCard : Claim7 := { stood := { row := wholeDiffsUptoRow, standIns := [], harness := (true, "a5e92cdeb43a38ddbd0d8937355bc9b290e20584731649ef899c437057fd7b54"), looks := true }, kinds := [], alts := [], laidByText := true, laidKinds := [.data, .data, .data, .data, .sentinel, .sentinel, .pinned], laidTests := true, laidLooks := .later }
def WholeDiffsUptoCardSaid : Prop := Claim7.holds Tryz.pinned (.plain (OpenSpec.upto wholeDiffsSpec)) wholeDiffsUptoCard

/-- THE SECOND FORM's CARD OF 'epacttop.WholeFiles'. -/
def wholeFilesUptoCard : Claim7 := { stood := { row := wholeFilesUptoRow, standIns := [], harness := (true, "a5e92cdeb43a38ddbd0d8937355bc9b290e20584731649ef899c437057fd7b54"), looks := true }, kinds := [], alts := [], laidByText := true, laidKinds := [.data, .data, .data, .data, .sentinel, .sentinel, .pinned], laidTests := true, laidLooks := .later }
def WholeFilesUptoCardSaid : Prop := Claim7.holds Tryz.pinned (.plain (OpenSpec.upto wholeFilesSpec)) wholeFilesUptoCard

/-- THE SECOND FORM's CARD OF 'epacttop.WholeAgain'. -/
def wholeAgainUptoCard : Claim7 := { stood := { row := wholeAgainUptoRow, standIns := [], harness := (true, "a5e92cdeb43a38ddbd0d8937355bc9b290e20584731649ef899c437057fd7b54"), looks := true }, kinds := [], alts := [], laidByText := true, laidKinds := [.data, .data, .data, .data, .sentinel, .sentinel, .pinned], laidTests := true, laidLooks := .later }
def WholeAgainUptoCardSaid : Prop := Claim7.holds Tryz.pinned (.plain (OpenSpec.upto wholeAgainSpec)) wholeAgainUptoCard
end Rows
end Go.Proofs.YtfcbohachbeamaaGreatDoor
