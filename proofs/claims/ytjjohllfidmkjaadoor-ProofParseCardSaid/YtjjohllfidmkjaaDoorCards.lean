/-
  DERIVED. GIVEN WITH THE SEED: THE CARDS: each row of YtjjohllfidmkjaaDoorRows.lean that lists a variable, with what it lists TIED to the program's text (the seventh form; the later family's looks); each row that meets fmt, with fmt's text TOLD by the authors' own Lean function (tested against real Go, not proved from fmt's source: count such statements apart). THE CARD IS WHAT COUNTS. Prove the row's statement (the work); the ties are given (YtjjohllfidmkjaaDoorTie.lean); close each card by the builder's one call (the guide's Derived/Test/ToyasCard.lean, 'card_holds'). Laid BY PROGRAM, IN A SANDBOX (cutbox-door.mjs). By AI agents, Wed Nov 11 2026. No macro, syntax, notation, axiom, sorry.
-/
import Derived.Test.YtjjohllfidmkjaaDoorRows
import GoSem.ClaimSeven
namespace Go.Proofs.YtjjohllfidmkjaaDoor
namespace Rows

/-- THE TIED CARD OF 'fretsawlaw35.ProofCheck'. -/
def proofCheckCard : Claim7 := { stood := { row := proofCheckRow, standIns := [], harness := (true, "6da505104e378d61355e0f4013f74060038a57e8abfcbfe4b3a1ada3f0c03391"), looks := true }, kinds := [], alts := [], laidByText := true, laidKinds := [.data, .data, .data, .sentinel, .sentinel], laidTests := true, laidLooks := .later }
def ProofCheckCardSaid : Prop := Claim7.holds Tryd.pinned (.plain (OpenSpec.ofChange proofCheckSpec)) proofCheckCard

/-- THE TIED CARD OF 'fretsawlaw35.ProofSound'. -/
def proofSoundCard : Claim7 := { stood := { row := proofSoundRow, standIns := [], harness := (true, "6da505104e378d61355e0f4013f74060038a57e8abfcbfe4b3a1ada3f0c03391"), looks := true }, kinds := [], alts := [], laidByText := true, laidKinds := [.data, .data, .data, .sentinel, .sentinel], laidTests := true, laidLooks := .later }
def ProofSoundCardSaid : Prop := Claim7.holds Tryd.pinned (.plain (OpenSpec.ofChange proofSoundSpec)) proofSoundCard

/-- THE TIED CARD OF 'fretsawlaw35.ProofSame'. -/
def proofSameCard : Claim7 := { stood := { row := proofSameRow, standIns := [], harness := (true, "6da505104e378d61355e0f4013f74060038a57e8abfcbfe4b3a1ada3f0c03391"), looks := true }, kinds := [], alts := [], laidByText := true, laidKinds := [.data, .data, .data, .sentinel, .sentinel], laidTests := true, laidLooks := .later }
def ProofSameCardSaid : Prop := Claim7.holds Tryd.pinned (.plain (OpenSpec.ofChange proofSameSpec)) proofSameCard

/-- THE TIED CARD OF 'fretsawlaw35.ProofTexts'. -/
def proofTextsCard : Claim7 := { stood := { row := proofTextsRow, standIns := [], harness := (true, "6da505104e378d61355e0f4013f74060038a57e8abfcbfe4b3a1ada3f0c03391"), looks := true }, kinds := [], alts := [], laidByText := true, laidKinds := [.data, .data, .data, .sentinel, .sentinel], laidTests := true, laidLooks := .later }
def ProofTextsCardSaid : Prop := Claim7.holds Tryd.pinned (.plain (OpenSpec.ofChange proofTextsSpec)) proofTextsCard

/-- THE TIED CARD OF 'fretsawlaw35.ProofParse'. -/
def proofParseCard : Claim7 := { stood := { row := proofParseRow, standIns := [], harness := (true, "6da505104e378d61355e0f4013f74060038a57e8abfcbfe4b3a1ada3f0c03391"), looks := true }, kinds := [], alts := [], laidByText := true, laidKinds := [.data, .data, .data, .sentinel, .sentinel], laidTests := true, laidLooks := .later }
def ProofParseCardSaid : Prop := Claim7.holds Tryd.pinned (.plain (OpenSpec.ofChange proofParseSpec)) proofParseCard

/-- THE TIED CARD OF 'fretsawlaw35.ProofBuild'. -/
def proofBuildCard : Claim7 := { stood := { row := proofBuildRow, standIns := [], harness := (true, "6da505104e378d61355e0f4013f74060038a57e8abfcbfe4b3a1ada3f0c03391"), looks := true }, kinds := [], alts := [], laidByText := true, laidKinds := [.data, .data, .data, .sentinel, .sentinel], laidTests := true, laidLooks := .later }
def ProofBuildCardSaid : Prop := Claim7.holds Tryd.pinned (.plain (OpenSpec.ofChange proofBuildSpec)) proofBuildCard

/-- THE TIED CARD OF 'fretsawlaw35.ProofLimits'. -/
def proofLimitsCard : Claim7 := { stood := { row := proofLimitsRow, standIns := [], harness := (true, "6da505104e378d61355e0f4013f74060038a57e8abfcbfe4b3a1ada3f0c03391"), looks := true }, kinds := [], alts := [], laidByText := true, laidKinds := [.data, .data, .data, .sentinel, .sentinel], laidTests := true, laidLooks := .later }
def ProofLimitsCardSaid : Prop := Claim7.holds Tryd.pinned (.plain (OpenSpec.ofChange proofLimitsSpec)) proofLimitsCard

/-- THE TIED CARD OF 'fretsawlaw35.ProofPath'. -/
def proofPathCard : Claim7 := { stood := { row := proofPathRow, standIns := [], harness := (true, "6da505104e378d61355e0f4013f74060038a57e8abfcbfe4b3a1ada3f0c03391"), looks := true }, kinds := [], alts := [], laidByText := true, laidKinds := [.data, .data, .data, .sentinel, .sentinel], laidTests := true, laidLooks := .later }
def ProofPathCardSaid : Prop := Claim7.holds Tryd.pinned (.plain (OpenSpec.ofChange proofPathSpec)) proofPathCard

/-- THE SECOND FORM's CARD OF 'fretsawlaw35.ProofCheck'. -/
def proofCheckUptoCard : Claim7 := { stood := { row := proofCheckUptoRow, standIns := [], harness := (true, "6da505104e378d61355e0f4013f74060038a57e8abfcbfe4b3a1ada3f0c03391"), looks := true }, kinds := [], alts := [], laidByText := true, laidKinds := [.data, .data, .data, .sentinel, .sentinel], laidTests := true, laidLooks := .later }
def ProofCheckUptoCardSaid : Prop := Claim7.holds Tryd.pinned (.plain (OpenSpec.upto proofCheckSpec)) proofCheckUptoCard

/-- THE SECOND FORM's CARD OF 'fretsawlaw35.ProofSound'. -/
def proofSoundUptoCard : Claim7 := { stood := { row := proofSoundUptoRow, standIns := [], harness := (true, "6da505104e378d61355e0f4013f74060038a57e8abfcbfe4b3a1ada3f0c03391"), looks := true }, kinds := [], alts := [], laidByText := true, laidKinds := [.data, .data, .data, .sentinel, .sentinel], laidTests := true, laidLooks := .later }
def ProofSoundUptoCardSaid : Prop := Claim7.holds Tryd.pinned (.plain (OpenSpec.upto proofSoundSpec)) proofSoundUptoCard

/-- THE SECOND FORM's CARD OF 'fretsawlaw35.ProofSame'. -/
def proofSameUptoCard : Claim7 := { stood := { row := proofSameUptoRow, standIns := [], harness := (true, "6da505104e378d61355e0f4013f74060038a57e8abfcbfe4b3a1ada3f0c03391"), looks := true }, kinds := [], alts := [], laidByText := true, laidKinds := [.data, .data, .data, .sentinel, .sentinel], laidTests := true, laidLooks := .later }
def ProofSameUptoCardSaid : Prop := Claim7.holds Tryd.pinned (.plain (OpenSpec.upto proofSameSpec)) proofSameUptoCard

/-- THE SECOND FORM's CARD OF 'fretsawlaw35.ProofTexts'. -/
def proofTextsUptoCard : Claim7 := { stood := { row := proofTextsUptoRow, standIns := [], harness := (true, "6da505104e378d61355e0f4013f74060038a57e8abfcbfe4b3a1ada3f0c03391"), looks := true }, kinds := [], alts := [], laidByText := true, laidKinds := [.data, .data, .data, .sentinel, .sentinel], laidTests := true, laidLooks := .later }
def ProofTextsUptoCardSaid : Prop := Claim7.holds Tryd.pinned (.plain (OpenSpec.upto proofTextsSpec)) proofTextsUptoCard

/-- THE SECOND FORM's CARD OF 'fretsawlaw35.ProofParse'. -/
def proofParseUptoCard : Claim7 := { stood := { row := proofParseUptoRow, standIns := [], harness := (true, "6da505104e378d61355e0f4013f74060038a57e8abfcbfe4b3a1ada3f0c03391"), looks := true }, kinds := [], alts := [], laidByText := true, laidKinds := [.data, .data, .data, .sentinel, .sentinel], laidTests := true, laidLooks := .later }
def ProofParseUptoCardSaid : Prop := Claim7.holds Tryd.pinned (.plain (OpenSpec.upto proofParseSpec)) proofParseUptoCard

/-- THE SECOND FORM's CARD OF 'fretsawlaw35.ProofBuild'. -/
def proofBuildUptoCard : Claim7 := { stood := { row := proofBuildUptoRow, standIns := [], harness := (true, "6da505104e378d61355e0f4013f74060038a57e8abfcbfe4b3a1ada3f0c03391"), looks := true }, kinds := [], alts := [], laidByText := true, laidKinds := [.data, .data, .data, .sentinel, .sentinel], laidTests := true, laidLooks := .later }
def ProofBuildUptoCardSaid : Prop := Claim7.holds Tryd.pinned (.plain (OpenSpec.upto proofBuildSpec)) proofBuildUptoCard

/-- THE SECOND FORM's CARD OF 'fretsawlaw35.ProofLimits'. -/
def proofLimitsUptoCard : Claim7 := { stood := { row := proofLimitsUptoRow, standIns := [], harness := (true, "6da505104e378d61355e0f4013f74060038a57e8abfcbfe4b3a1ada3f0c03391"), looks := true }, kinds := [], alts := [], laidByText := true, laidKinds := [.data, .data, .data, .sentinel, .sentinel], laidTests := true, laidLooks := .later }
def ProofLimitsUptoCardSaid : Prop := Claim7.holds Tryd.pinned (.plain (OpenSpec.upto proofLimitsSpec)) proofLimitsUptoCard

/-- THE SECOND FORM's CARD OF 'fretsawlaw35.ProofPath'. -/
def proofPathUptoCard : Claim7 := { stood := { row := proofPathUptoRow, standIns := [], harness := (true, "6da505104e378d61355e0f4013f74060038a57e8abfcbfe4b3a1ada3f0c03391"), looks := true }, kinds := [], alts := [], laidByText := true, laidKinds := [.data, .data, .data, .sentinel, .sentinel], laidTests := true, laidLooks := .later }
def ProofPathUptoCardSaid : Prop := Claim7.holds Tryd.pinned (.plain (OpenSpec.upto proofPathSpec)) proofPathUptoCard
end Rows
end Go.Proofs.YtjjohllfidmkjaaDoor
