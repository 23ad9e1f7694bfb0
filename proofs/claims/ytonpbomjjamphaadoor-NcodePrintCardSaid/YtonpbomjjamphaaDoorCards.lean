/-
  DERIVED. GIVEN WITH THE SEED: THE CARDS: each row of YtonpbomjjamphaaDoorRows.lean that lists a variable, with what it lists TIED to the program's text (the seventh form; the later family's looks); each row that meets fmt, with fmt's text TOLD by the authors' own Lean function (tested against real Go, not proved from fmt's source: count such statements apart). THE CARD IS WHAT COUNTS. Prove the row's statement (the work); the ties are given (YtonpbomjjamphaaDoorTie.lean); close each card by the builder's one call (the guide's Derived/Test/ToyasCard.lean, 'card_holds'). Laid BY PROGRAM, IN A SANDBOX (cutbox-door.mjs). By AI agents, Wed Nov 11 2026. No macro, syntax, notation, axiom, sorry.
-/
import Derived.Test.YtonpbomjjamphaaDoorRows
import GoSem.ClaimSeven
namespace Go.Proofs.YtonpbomjjamphaaDoor
namespace Rows

/-- THE TIED CARD OF 'fretsawlaw49.NcodeShift'. -/
def ncodeShiftCard : Claim7 := { stood := { row := ncodeShiftRow, standIns := [], harness := (true, "50eb245dde0790f64e269d88629aedc6c92481c330070c7f11361c5e5a816c7b"), looks := true }, kinds := [], alts := [], laidByText := true, laidKinds := [.data, .data, .data], laidTests := true, laidLooks := .later }
def NcodeShiftCardSaid : Prop := Claim7.holds Tryd.pinned (.plain (OpenSpec.ofChange ncodeShiftSpec)) ncodeShiftCard

/-- THE TIED CARD OF 'fretsawlaw49.NcodeJoin'. -/
def ncodeJoinCard : Claim7 := { stood := { row := ncodeJoinRow, standIns := [], harness := (true, "50eb245dde0790f64e269d88629aedc6c92481c330070c7f11361c5e5a816c7b"), looks := true }, kinds := [], alts := [], laidByText := true, laidKinds := [.data, .data, .data], laidTests := true, laidLooks := .later }
def NcodeJoinCardSaid : Prop := Claim7.holds Tryd.pinned (.plain (OpenSpec.ofChange ncodeJoinSpec)) ncodeJoinCard

/-- THE TIED CARD OF 'fretsawlaw49.NcodeChange'. -/
def ncodeChangeCard : Claim7 := { stood := { row := ncodeChangeRow, standIns := [], harness := (true, "50eb245dde0790f64e269d88629aedc6c92481c330070c7f11361c5e5a816c7b"), looks := true }, kinds := [], alts := [], laidByText := true, laidKinds := [.data, .data, .data], laidTests := true, laidLooks := .later }
def NcodeChangeCardSaid : Prop := Claim7.holds Tryd.pinned (.plain (OpenSpec.ofChange ncodeChangeSpec)) ncodeChangeCard

/-- THE TIED CARD OF 'fretsawlaw49.NcodePrint'. -/
def ncodePrintCard : Claim7 := { stood := { row := ncodePrintRow, standIns := [], harness := (true, "50eb245dde0790f64e269d88629aedc6c92481c330070c7f11361c5e5a816c7b"), looks := true }, kinds := [], alts := [], laidByText := true, laidKinds := [.data, .data, .data, .data, .sentinel, .sentinel, .pinned], laidTests := true, laidLooks := .later }
def NcodePrintCardSaid : Prop := Claim7.holds Tryd.pinned (.plain (OpenSpec.ofChange ncodePrintSpec)) ncodePrintCard

/-- THE TIED CARD OF 'fretsawlaw49.NcodeLines'. -/
def ncodeLinesCard : Claim7 := { stood := { row := ncodeLinesRow, standIns := [], harness := (true, "50eb245dde0790f64e269d88629aedc6c92481c330070c7f11361c5e5a816c7b"), looks := true }, kinds := [], alts := [], laidByText := true, laidKinds := [.data, .data, .data, .data, .sentinel, .sentinel, .pinned], laidTests := true, laidLooks := .later }
def NcodeLinesCardSaid : Prop := Claim7.holds Tryd.pinned (.plain (OpenSpec.ofChange ncodeLinesSpec)) ncodeLinesCard

/-- THE TIED CARD OF 'fretsawlaw49.NcodeNumbers'. -/
def ncodeNumbersCard : Claim7 := { stood := { row := ncodeNumbersRow, standIns := [], harness := (true, "50eb245dde0790f64e269d88629aedc6c92481c330070c7f11361c5e5a816c7b"), looks := true }, kinds := [], alts := [], laidByText := true, laidKinds := [.data, .data, .data, .data, .sentinel, .sentinel, .pinned], laidTests := true, laidLooks := .later }
def NcodeNumbersCardSaid : Prop := Claim7.holds Tryd.pinned (.plain (OpenSpec.ofChange ncodeNumbersSpec)) ncodeNumbersCard

/-- THE SECOND FORM's CARD OF 'fretsawlaw49.NcodeShift'. -/
def ncodeShiftUptoCard : Claim7 := { stood := { row := ncodeShiftUptoRow, standIns := [], harness := (true, "50eb245dde0790f64e269d88629aedc6c92481c330070c7f11361c5e5a816c7b"), looks := true }, kinds := [], alts := [], laidByText := true, laidKinds := [.data, .data, .data], laidTests := true, laidLooks := .later }
def NcodeShiftUptoCardSaid : Prop := Claim7.holds Tryd.pinned (.plain (OpenSpec.upto ncodeShiftSpec)) ncodeShiftUptoCard

/-- THE SECOND FORM's CARD OF 'fretsawlaw49.NcodeJoin'. -/
def ncodeJoinUptoCard : Claim7 := { stood := { row := ncodeJoinUptoRow, standIns := [], harness := (true, "50eb245dde0790f64e269d88629aedc6c92481c330070c7f11361c5e5a816c7b"), looks := true }, kinds := [], alts := [], laidByText := true, laidKinds := [.data, .data, .data], laidTests := true, laidLooks := .later }
def NcodeJoinUptoCardSaid : Prop := Claim7.holds Tryd.pinned (.plain (OpenSpec.upto ncodeJoinSpec)) ncodeJoinUptoCard

/-- THE SECOND FORM's CARD OF 'fretsawlaw49.NcodeChange'. -/
def ncodeChangeUptoCard : Claim7 := { stood := { row := ncodeChangeUptoRow, standIns := [], harness := (true, "50eb245dde0790f64e269d88629aedc6c92481c330070c7f11361c5e5a816c7b"), looks := true }, kinds := [], alts := [], laidByText := true, laidKinds := [.data, .data, .data], laidTests := true, laidLooks := .later }
def NcodeChangeUptoCardSaid : Prop := Claim7.holds Tryd.pinned (.plain (OpenSpec.upto ncodeChangeSpec)) ncodeChangeUptoCard

/-- THE SECOND FORM's CARD OF 'fretsawlaw49.NcodePrint'. -/
def ncodePrintUptoCard : Claim7 := { stood := { row := ncodePrintUptoRow, standIns := [], harness := (true, "50eb245dde0790f64e269d88629aedc6c92481c330070c7f11361c5e5a816c7b"), looks := true }, kinds := [], alts := [], laidByText := true, laidKinds := [.data, .data, .data, .data, .sentinel, .sentinel, .pinned], laidTests := true, laidLooks := .later }
def NcodePrintUptoCardSaid : Prop := Claim7.holds Tryd.pinned (.plain (OpenSpec.upto ncodePrintSpec)) ncodePrintUptoCard

/-- THE SECOND FORM's CARD OF 'fretsawlaw49.NcodeLines'. -/
def ncodeLinesUptoCard : Claim7 := { stood := { row := ncodeLinesUptoRow, standIns := [], harness := (true, "50eb245dde0790f64e269d88629aedc6c92481c330070c7f11361c5e5a816c7b"), looks := true }, kinds := [], alts := [], laidByText := true, laidKinds := [.data, .data, .data, .data, .sentinel, .sentinel, .pinned], laidTests := true, laidLooks := .later }
def NcodeLinesUptoCardSaid : Prop := Claim7.holds Tryd.pinned (.plain (OpenSpec.upto ncodeLinesSpec)) ncodeLinesUptoCard

/-- THE SECOND FORM's CARD OF 'fretsawlaw49.NcodeNumbers'. -/
def ncodeNumbersUptoCard : Claim7 := { stood := { row := ncodeNumbersUptoRow, standIns := [], harness := (true, "50eb245dde0790f64e269d88629aedc6c92481c330070c7f11361c5e5a816c7b"), looks := true }, kinds := [], alts := [], laidByText := true, laidKinds := [.data, .data, .data, .data, .sentinel, .sentinel, .pinned], laidTests := true, laidLooks := .later }
def NcodeNumbersUptoCardSaid : Prop := Claim7.holds Tryd.pinned (.plain (OpenSpec.upto ncodeNumbersSpec)) ncodeNumbersUptoCard
end Rows
end Go.Proofs.YtonpbomjjamphaaDoor
