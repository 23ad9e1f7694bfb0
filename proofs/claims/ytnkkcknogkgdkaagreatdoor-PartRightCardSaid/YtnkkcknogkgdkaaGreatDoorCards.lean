/-
  DERIVED. GIVEN WITH THE SEED: THE CARDS: each row of YtnkkcknogkgdkaaGreatDoorRows.lean that lists a variable, with what it lists TIED to the program's text (the seventh form; the later family's looks); each row that meets fmt, with fmt's text TOLD by the authors' own Lean function (tested against real Go, not proved from fmt's source: count such statements apart). THE CARD IS WHAT COUNTS. Prove the row's statement (the work); the ties are given (YtnkkcknogkgdkaaGreatDoorTie.lean); close each card by the builder's one call (the guide's Derived/Test/ToyasCard.lean, 'card_holds'). Laid BY PROGRAM, IN A SANDBOX (cutbox-door.mjs). By AI agents, Wed Nov 11 2026. No macro, syntax, notation, axiom, sorry.
-/
import Derived.Test.YtnkkcknogkgdkaaGreatDoorRows
import GoSem.ClaimSeven
namespace Go.Proofs.YtnkkcknogkgdkaaGreatDoor
namespace Rows

/-- THE TIED CARD OF 'fretsawlaw22.PartParse'. -/
def partParseCard : Claim7 := { stood := { row := partParseRow, standIns := [], harness := (true, "215719c6a672340c84e0b7a4cb239a17268330389d67e8e56c83d2d65ce845ed"), looks := true }, kinds := [], alts := [], laidByText := true, laidKinds := [.data, .data, .data, .sentinel, .sentinel], laidTests := true, laidLooks := .later }
def PartParseCardSaid : Prop := Claim7.holds Tryz.pinned (.plain (OpenSpec.ofChange partParseSpec)) partParseCard

/-- THE TIED CARD OF 'fretsawlaw22.PartMake'. -/
def partMakeCard : Claim7 := { stood := { row := partMakeRow, standIns := [], harness := (true, "215719c6a672340c84e0b7a4cb239a17268330389d67e8e56c83d2d65ce845ed"), looks := true }, kinds := [], alts := [], laidByText := true, laidKinds := [.data, .data, .data, .sentinel, .sentinel], laidTests := true, laidLooks := .later }
def PartMakeCardSaid : Prop := Claim7.holds Tryz.pinned (.plain (OpenSpec.ofChange partMakeSpec)) partMakeCard

/-- THE TIED CARD OF 'fretsawlaw22.PartRight'. -/
def partRightCard : Claim7 := { stood := { row := partRightRow, standIns := [], harness := (true, "215719c6a672340c84e0b7a4cb239a17268330389d67e8e56c83d2d65ce845ed"), looks := true }, kinds := [], alts := [], laidByText := true, laidKinds := [.data, .data, .data, .sentinel, .sentinel], laidTests := true, laidLooks := .later }
def PartRightCardSaid : Prop := Claim7.holds Tryz.pinned (.plain (OpenSpec.ofChange partRightSpec)) partRightCard

/-- THE TIED CARD OF 'fretsawlaw22.PartJoined'. -/
def partJoinedCard : Claim7 := { stood := { row := partJoinedRow, standIns := [], harness := (true, "215719c6a672340c84e0b7a4cb239a17268330389d67e8e56c83d2d65ce845ed"), looks := true }, kinds := [], alts := [], laidByText := true, laidKinds := [.data, .data, .data, .sentinel, .sentinel], laidTests := true, laidLooks := .later }
def PartJoinedCardSaid : Prop := Claim7.holds Tryz.pinned (.plain (OpenSpec.ofChange partJoinedSpec)) partJoinedCard

/-- THE TIED CARD OF 'fretsawlaw22.PartFirst'. -/
def partFirstCard : Claim7 := { stood := { row := partFirstRow, standIns := [], harness := (true, "215719c6a672340c84e0b7a4cb239a17268330389d67e8e56c83d2d65ce845ed"), looks := true }, kinds := [], alts := [], laidByText := true, laidKinds := [.data, .data, .data, .sentinel, .sentinel], laidTests := true, laidLooks := .later }
def PartFirstCardSaid : Prop := Claim7.holds Tryz.pinned (.plain (OpenSpec.ofChange partFirstSpec)) partFirstCard

/-- THE TIED CARD OF 'fretsawlaw22.PartAll'. -/
def partAllCard : Claim7 := { stood := { row := partAllRow, standIns := [], harness := (true, "215719c6a672340c84e0b7a4cb239a17268330389d67e8e56c83d2d65ce845ed"), looks := true }, kinds := [], alts := [], laidByText := true, laidKinds := [.data, .data, .data, .sentinel, .sentinel], laidTests := true, laidLooks := .later }
def PartAllCardSaid : Prop := Claim7.holds Tryz.pinned (.plain (OpenSpec.ofChange partAllSpec)) partAllCard

/-- THE TIED CARD OF 'fretsawlaw22.PartPrint'. -/
def partPrintCard : Claim7 := { stood := { row := partPrintRow, standIns := [], harness := (true, "215719c6a672340c84e0b7a4cb239a17268330389d67e8e56c83d2d65ce845ed"), looks := true }, kinds := [], alts := [], laidByText := true, laidKinds := [.data, .data, .data, .sentinel, .sentinel], laidTests := true, laidLooks := .later }
def PartPrintCardSaid : Prop := Claim7.holds Tryz.pinned (.plain (OpenSpec.ofChange partPrintSpec)) partPrintCard

/-- THE TIED CARD OF 'fretsawlaw22.PartAgain'. -/
def partAgainCard : Claim7 := { stood := { row := partAgainRow, standIns := [], harness := (true, "215719c6a672340c84e0b7a4cb239a17268330389d67e8e56c83d2d65ce845ed"), looks := true }, kinds := [], alts := [], laidByText := true, laidKinds := [.data, .data, .data, .sentinel, .sentinel], laidTests := true, laidLooks := .later }
def PartAgainCardSaid : Prop := Claim7.holds Tryz.pinned (.plain (OpenSpec.ofChange partAgainSpec)) partAgainCard

/-- THE TIED CARD OF 'fretsawlaw22.PartStraight'. -/
def partStraightCard : Claim7 := { stood := { row := partStraightRow, standIns := [], harness := (true, "215719c6a672340c84e0b7a4cb239a17268330389d67e8e56c83d2d65ce845ed"), looks := true }, kinds := [], alts := [], laidByText := true, laidKinds := [.data, .data, .data, .sentinel, .sentinel], laidTests := true, laidLooks := .later }
def PartStraightCardSaid : Prop := Claim7.holds Tryz.pinned (.plain (OpenSpec.ofChange partStraightSpec)) partStraightCard

/-- THE SECOND FORM's CARD OF 'fretsawlaw22.PartParse'. -/
def partParseUptoCard : Claim7 := { stood := { row := partParseUptoRow, standIns := [], harness := (true, "215719c6a672340c84e0b7a4cb239a17268330389d67e8e56c83d2d65ce845ed"), looks := true }, kinds := [], alts := [], laidByText := true, laidKinds := [.data, .data, .data, .sentinel, .sentinel], laidTests := true, laidLooks := .later }
def PartParseUptoCardSaid : Prop := Claim7.holds Tryz.pinned (.plain (OpenSpec.upto partParseSpec)) partParseUptoCard

/-- THE SECOND FORM's CARD OF 'fretsawlaw22.PartMake'. -/
def partMakeUptoCard : Claim7 := { stood := { row := partMakeUptoRow, standIns := [], harness := (true, "215719c6a672340c84e0b7a4cb239a17268330389d67e8e56c83d2d65ce845ed"), looks := true }, kinds := [], alts := [], laidByText := true, laidKinds := [.data, .data, .data, .sentinel, .sentinel], laidTests := true, laidLooks := .later }
def PartMakeUptoCardSaid : Prop := Claim7.holds Tryz.pinned (.plain (OpenSpec.upto partMakeSpec)) partMakeUptoCard

/-- THE SECOND FORM's CARD OF 'fretsawlaw22.PartRight'. -/
def partRightUptoCard : Claim7 := { stood := { row := partRightUptoRow, standIns := [], harness := (true, "215719c6a672340c84e0b7a4cb239a17268330389d67e8e56c83d2d65ce845ed"), looks := true }, kinds := [], alts := [], laidByText := true, laidKinds := [.data, .data, .data, .sentinel, .sentinel], laidTests := true, laidLooks := .later }
def PartRightUptoCardSaid : Prop := Claim7.holds Tryz.pinned (.plain (OpenSpec.upto partRightSpec)) partRightUptoCard

/-- THE SECOND FORM's CARD OF 'fretsawlaw22.PartJoined'. -/
def partJoinedUptoCard : Claim7 := { stood := { row := partJoinedUptoRow, standIns := [], harness := (true, "215719c6a672340c84e0b7a4cb239a17268330389d67e8e56c83d2d65ce845ed"), looks := true }, kinds := [], alts := [], laidByText := true, laidKinds := [.data, .data, .data, .sentinel, .sentinel], laidTests := true, laidLooks := .later }
def PartJoinedUptoCardSaid : Prop := Claim7.holds Tryz.pinned (.plain (OpenSpec.upto partJoinedSpec)) partJoinedUptoCard

/-- THE SECOND FORM's CARD OF 'fretsawlaw22.PartFirst'. -/
def partFirstUptoCard : Claim7 := { stood := { row := partFirstUptoRow, standIns := [], harness := (true, "215719c6a672340c84e0b7a4cb239a17268330389d67e8e56c83d2d65ce845ed"), looks := true }, kinds := [], alts := [], laidByText := true, laidKinds := [.data, .data, .data, .sentinel, .sentinel], laidTests := true, laidLooks := .later }
def PartFirstUptoCardSaid : Prop := Claim7.holds Tryz.pinned (.plain (OpenSpec.upto partFirstSpec)) partFirstUptoCard

/-- THE SECOND FORM's CARD OF 'fretsawlaw22.PartAll'. -/
def partAllUptoCard : Claim7 := { stood := { row := partAllUptoRow, standIns := [], harness := (true, "215719c6a672340c84e0b7a4cb239a17268330389d67e8e56c83d2d65ce845ed"), looks := true }, kinds := [], alts := [], laidByText := true, laidKinds := [.data, .data, .data, .sentinel, .sentinel], laidTests := true, laidLooks := .later }
def PartAllUptoCardSaid : Prop := Claim7.holds Tryz.pinned (.plain (OpenSpec.upto partAllSpec)) partAllUptoCard

/-- THE SECOND FORM's CARD OF 'fretsawlaw22.PartPrint'. -/
def partPrintUptoCard : Claim7 := { stood := { row := partPrintUptoRow, standIns := [], harness := (true, "215719c6a672340c84e0b7a4cb239a17268330389d67e8e56c83d2d65ce845ed"), looks := true }, kinds := [], alts := [], laidByText := true, laidKinds := [.data, .data, .data, .sentinel, .sentinel], laidTests := true, laidLooks := .later }
def PartPrintUptoCardSaid : Prop := Claim7.holds Tryz.pinned (.plain (OpenSpec.upto partPrintSpec)) partPrintUptoCard

/-- THE SECOND FORM's CARD OF 'fretsawlaw22.PartAgain'. -/
def partAgainUptoCard : Claim7 := { stood := { row := partAgainUptoRow, standIns := [], harness := (true, "215719c6a672340c84e0b7a4cb239a17268330389d67e8e56c83d2d65ce845ed"), looks := true }, kinds := [], alts := [], laidByText := true, laidKinds := [.data, .data, .data, .sentinel, .sentinel], laidTests := true, laidLooks := .later }
def PartAgainUptoCardSaid : Prop := Claim7.holds Tryz.pinned (.plain (OpenSpec.upto partAgainSpec)) partAgainUptoCard

/-- THE SECOND FORM's CARD OF 'fretsawlaw22.PartStraight'. -/
def partStraightUptoCard : Claim7 := { stood := { row := partStraightUptoRow, standIns := [], harness := (true, "215719c6a672340c84e0b7a4cb239a17268330389d67e8e56c83d2d65ce845ed"), looks := true }, kinds := [], alts := [], laidByText := true, laidKinds := [.data, .data, .data, .sentinel, .sentinel], laidTests := true, laidLooks := .later }
def PartStraightUptoCardSaid : Prop := Claim7.holds Tryz.pinned (.plain (OpenSpec.upto partStraightSpec)) partStraightUptoCard
end Rows
end Go.Proofs.YtnkkcknogkgdkaaGreatDoor
