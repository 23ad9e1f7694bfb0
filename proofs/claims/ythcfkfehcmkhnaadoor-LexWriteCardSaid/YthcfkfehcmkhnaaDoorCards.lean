/-
  DERIVED. GIVEN WITH THE SEED: THE CARDS: each row of YthcfkfehcmkhnaaDoorRows.lean that lists a variable, with what it lists TIED to the program's text (the seventh form; the later family's looks); each row that meets fmt, with fmt's text TOLD by the authors' own Lean function (tested against real Go, not proved from fmt's source: count such statements apart). THE CARD IS WHAT COUNTS. Prove the row's statement (the work); the ties are given (YthcfkfehcmkhnaaDoorTie.lean); close each card by the builder's one call (the guide's Derived/Test/ToyasCard.lean, 'card_holds'). Laid BY PROGRAM, IN A SANDBOX (cutbox-door.mjs). By AI agents, Wed Nov 11 2026. No macro, syntax, notation, axiom, sorry.
-/
import Derived.Test.YthcfkfehcmkhnaaDoorRows
import GoSem.ClaimSeven
namespace Go.Proofs.YthcfkfehcmkhnaaDoor
namespace Rows

/-- THE TIED CARD OF 'fretsawlaw04.LexTokens'. -/
def lexTokensCard : Claim7 := { stood := { row := lexTokensRow, standIns := [], harness := (true, "d79a645ea45e85abd9e36cd6e157e386fff1b6002a0d437fc4be4fa559748ee7"), looks := true }, kinds := [], alts := [], laidByText := true, laidKinds := [.data, .data, .data, .sentinel, .sentinel], laidTests := true, laidLooks := .later }
def LexTokensCardSaid : Prop := Claim7.holds Tryd.pinned (.plain (OpenSpec.ofChange lexTokensSpec)) lexTokensCard

/-- THE TIED CARD OF 'fretsawlaw04.LexParts'. -/
def lexPartsCard : Claim7 := { stood := { row := lexPartsRow, standIns := [], harness := (true, "d79a645ea45e85abd9e36cd6e157e386fff1b6002a0d437fc4be4fa559748ee7"), looks := true }, kinds := [], alts := [], laidByText := true, laidKinds := [.data, .data, .data, .sentinel, .sentinel], laidTests := true, laidLooks := .later }
def LexPartsCardSaid : Prop := Claim7.holds Tryd.pinned (.plain (OpenSpec.ofChange lexPartsSpec)) lexPartsCard

/-- THE TIED CARD OF 'fretsawlaw04.LexLimits'. -/
def lexLimitsCard : Claim7 := { stood := { row := lexLimitsRow, standIns := [], harness := (true, "d79a645ea45e85abd9e36cd6e157e386fff1b6002a0d437fc4be4fa559748ee7"), looks := true }, kinds := [], alts := [], laidByText := true, laidKinds := [.data, .data, .data, .sentinel, .sentinel], laidTests := true, laidLooks := .later }
def LexLimitsCardSaid : Prop := Claim7.holds Tryd.pinned (.plain (OpenSpec.ofChange lexLimitsSpec)) lexLimitsCard

/-- THE TIED CARD OF 'fretsawlaw04.LexBlanks'. -/
def lexBlanksCard : Claim7 := { stood := { row := lexBlanksRow, standIns := [], harness := (true, "d79a645ea45e85abd9e36cd6e157e386fff1b6002a0d437fc4be4fa559748ee7"), looks := true }, kinds := [], alts := [], laidByText := true, laidKinds := [.data, .data, .data, .sentinel, .sentinel], laidTests := true, laidLooks := .later }
def LexBlanksCardSaid : Prop := Claim7.holds Tryd.pinned (.plain (OpenSpec.ofChange lexBlanksSpec)) lexBlanksCard

/-- THE TIED CARD OF 'fretsawlaw04.LexOffsets'. -/
def lexOffsetsCard : Claim7 := { stood := { row := lexOffsetsRow, standIns := [], harness := (true, "d79a645ea45e85abd9e36cd6e157e386fff1b6002a0d437fc4be4fa559748ee7"), looks := true }, kinds := [], alts := [], laidByText := true, laidKinds := [.data, .data, .data, .sentinel, .sentinel], laidTests := true, laidLooks := .later }
def LexOffsetsCardSaid : Prop := Claim7.holds Tryd.pinned (.plain (OpenSpec.ofChange lexOffsetsSpec)) lexOffsetsCard

/-- THE TIED CARD OF 'fretsawlaw04.LexRoundTrip'. -/
def lexRoundTripCard : Claim7 := { stood := { row := lexRoundTripRow, standIns := [], harness := (true, "d79a645ea45e85abd9e36cd6e157e386fff1b6002a0d437fc4be4fa559748ee7"), looks := true }, kinds := [], alts := [], laidByText := true, laidKinds := [.data, .data, .data, .sentinel, .sentinel], laidTests := true, laidLooks := .later }
def LexRoundTripCardSaid : Prop := Claim7.holds Tryd.pinned (.plain (OpenSpec.ofChange lexRoundTripSpec)) lexRoundTripCard

/-- THE TIED CARD OF 'fretsawlaw04.LexWrite'. -/
def lexWriteCard : Claim7 := { stood := { row := lexWriteRow, standIns := [], harness := (true, "d79a645ea45e85abd9e36cd6e157e386fff1b6002a0d437fc4be4fa559748ee7"), looks := true }, kinds := [], alts := [], laidByText := true, laidKinds := [.data, .data, .data, .sentinel, .sentinel], laidTests := true, laidLooks := .later }
def LexWriteCardSaid : Prop := Claim7.holds Tryd.pinned (.plain (OpenSpec.ofChange lexWriteSpec)) lexWriteCard

/-- THE SECOND FORM's CARD OF 'fretsawlaw04.LexTokens'. -/
def lexTokensUptoCard : Claim7 := { stood := { row := lexTokensUptoRow, standIns := [], harness := (true, "d79a645ea45e85abd9e36cd6e157e386fff1b6002a0d437fc4be4fa559748ee7"), looks := true }, kinds := [], alts := [], laidByText := true, laidKinds := [.data, .data, .data, .sentinel, .sentinel], laidTests := true, laidLooks := .later }
def LexTokensUptoCardSaid : Prop := Claim7.holds Tryd.pinned (.plain (OpenSpec.upto lexTokensSpec)) lexTokensUptoCard

/-- THE SECOND FORM's CARD OF 'fretsawlaw04.LexParts'. -/
def lexPartsUptoCard : Claim7 := { stood := { row := lexPartsUptoRow, standIns := [], harness := (true, "d79a645ea45e85abd9e36cd6e157e386fff1b6002a0d437fc4be4fa559748ee7"), looks := true }, kinds := [], alts := [], laidByText := true, laidKinds := [.data, .data, .data, .sentinel, .sentinel], laidTests := true, laidLooks := .later }
def LexPartsUptoCardSaid : Prop := Claim7.holds Tryd.pinned (.plain (OpenSpec.upto lexPartsSpec)) lexPartsUptoCard

/-- THE SECOND FORM's CARD OF 'fretsawlaw04.LexLimits'. -/
def lexLimitsUptoCard : Claim7 := { stood := { row := lexLimitsUptoRow, standIns := [], harness := (true, "d79a645ea45e85abd9e36cd6e157e386fff1b6002a0d437fc4be4fa559748ee7"), looks := true }, kinds := [], alts := [], laidByText := true, laidKinds := [.data, .data, .data, .sentinel, .sentinel], laidTests := true, laidLooks := .later }
def LexLimitsUptoCardSaid : Prop := Claim7.holds Tryd.pinned (.plain (OpenSpec.upto lexLimitsSpec)) lexLimitsUptoCard

/-- THE SECOND FORM's CARD OF 'fretsawlaw04.LexBlanks'. -/
def lexBlanksUptoCard : Claim7 := { stood := { row := lexBlanksUptoRow, standIns := [], harness := (true, "d79a645ea45e85abd9e36cd6e157e386fff1b6002a0d437fc4be4fa559748ee7"), looks := true }, kinds := [], alts := [], laidByText := true, laidKinds := [.data, .data, .data, .sentinel, .sentinel], laidTests := true, laidLooks := .later }
def LexBlanksUptoCardSaid : Prop := Claim7.holds Tryd.pinned (.plain (OpenSpec.upto lexBlanksSpec)) lexBlanksUptoCard

/-- THE SECOND FORM's CARD OF 'fretsawlaw04.LexOffsets'. -/
def lexOffsetsUptoCard : Claim7 := { stood := { row := lexOffsetsUptoRow, standIns := [], harness := (true, "d79a645ea45e85abd9e36cd6e157e386fff1b6002a0d437fc4be4fa559748ee7"), looks := true }, kinds := [], alts := [], laidByText := true, laidKinds := [.data, .data, .data, .sentinel, .sentinel], laidTests := true, laidLooks := .later }
def LexOffsetsUptoCardSaid : Prop := Claim7.holds Tryd.pinned (.plain (OpenSpec.upto lexOffsetsSpec)) lexOffsetsUptoCard

/-- THE SECOND FORM's CARD OF 'fretsawlaw04.LexRoundTrip'. -/
def lexRoundTripUptoCard : Claim7 := { stood := { row := lexRoundTripUptoRow, standIns := [], harness := (true, "d79a645ea45e85abd9e36cd6e157e386fff1b6002a0d437fc4be4fa559748ee7"), looks := true }, kinds := [], alts := [], laidByText := true, laidKinds := [.data, .data, .data, .sentinel, .sentinel], laidTests := true, laidLooks := .later }
def LexRoundTripUptoCardSaid : Prop := Claim7.holds Tryd.pinned (.plain (OpenSpec.upto lexRoundTripSpec)) lexRoundTripUptoCard

/-- THE SECOND FORM's CARD OF 'fretsawlaw04.LexWrite'. -/
def lexWriteUptoCard : Claim7 := { stood := { row := lexWriteUptoRow, standIns := [], harness := (true, "d79a645ea45e85abd9e36cd6e157e386fff1b6002a0d437fc4be4fa559748ee7"), looks := true }, kinds := [], alts := [], laidByText := true, laidKinds := [.data, .data, .data, .sentinel, .sentinel], laidTests := true, laidLooks := .later }
def LexWriteUptoCardSaid : Prop := Claim7.holds Tryd.pinned (.plain (OpenSpec.upto lexWriteSpec)) lexWriteUptoCard
end Rows
end Go.Proofs.YthcfkfehcmkhnaaDoor
