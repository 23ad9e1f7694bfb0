/-
  DERIVED. GIVEN WITH THE SEED: THE CARDS: each row of YtnmmhcchpcbeeaaGreatDoorRows.lean that lists a variable, with what it lists TIED to the program's text (the seventh form; the later family's looks); each row that meets fmt, with fmt's text TOLD by the authors' own Lean function (tested against real Go, not proved from fmt's source: count such statements apart). THE CARD IS WHAT COUNTS. Prove the row's statement (the work); the ties are given (YtnmmhcchpcbeeaaGreatDoorTie.lean); close each card by the builder's one call (the guide's Derived/Test/ToyasCard.lean, 'card_holds'). Laid BY PROGRAM, IN A SANDBOX (cutbox-door.mjs). By AI agents, Wed Nov 11 2026. No macro, syntax, notation, axiom, sorry.
-/
import Derived.Test.YtnmmhcchpcbeeaaGreatDoorRows
import GoSem.ClaimSeven
namespace Go.Proofs.YtnmmhcchpcbeeaaGreatDoor
namespace Rows

/-- THE TIED CARD OF 'fretsawlaw23.DrawingDecode'. -/
def drawingDecodeCard : Claim7 := { stood := { row := drawingDecodeRow, standIns := [], harness := (true, "a4cdc6801b50f471a6d0ab966e9ef62ebac95363c3c2c2f8bb888e548f8be7e0"), looks := true }, kinds := [], alts := [], laidByText := true, laidKinds := [.data, .data, .data, .data, .sentinel, .sentinel, .pinned], laidTests := true, laidLooks := .later }
def DrawingDecodeCardSaid : Prop := Claim7.holds Tryz.pinned (.plain (OpenSpec.ofChange drawingDecodeSpec)) drawingDecodeCard

/-- THE TIED CARD OF 'fretsawlaw23.DrawingPrefix'. -/
def drawingPrefixCard : Claim7 := { stood := { row := drawingPrefixRow, standIns := [], harness := (true, "a4cdc6801b50f471a6d0ab966e9ef62ebac95363c3c2c2f8bb888e548f8be7e0"), looks := true }, kinds := [], alts := [], laidByText := true, laidKinds := [.data, .data, .data, .data, .sentinel, .sentinel, .pinned], laidTests := true, laidLooks := .later }
def DrawingPrefixCardSaid : Prop := Claim7.holds Tryz.pinned (.plain (OpenSpec.ofChange drawingPrefixSpec)) drawingPrefixCard

/-- THE TIED CARD OF 'fretsawlaw23.DrawingEncode'. -/
def drawingEncodeCard : Claim7 := { stood := { row := drawingEncodeRow, standIns := [], harness := (true, "a4cdc6801b50f471a6d0ab966e9ef62ebac95363c3c2c2f8bb888e548f8be7e0"), looks := true }, kinds := [], alts := [], laidByText := true, laidKinds := [.data, .data, .data, .data, .sentinel, .sentinel, .pinned], laidTests := true, laidLooks := .later }
def DrawingEncodeCardSaid : Prop := Claim7.holds Tryz.pinned (.plain (OpenSpec.ofChange drawingEncodeSpec)) drawingEncodeCard

/-- THE SECOND FORM's CARD OF 'fretsawlaw23.DrawingDecode'. -/
def drawingDecodeUptoCard : Claim7 := { stood := { row := drawingDecodeUptoRow, standIns := [], harness := (true, "a4cdc6801b50f471a6d0ab966e9ef62ebac95363c3c2c2f8bb888e548f8be7e0"), looks := true }, kinds := [], alts := [], laidByText := true, laidKinds := [.data, .data, .data, .data, .sentinel, .sentinel, .pinned], laidTests := true, laidLooks := .later }
def DrawingDecodeUptoCardSaid : Prop := Claim7.holds Tryz.pinned (.plain (OpenSpec.upto drawingDecodeSpec)) drawingDecodeUptoCard

/-- THE SECOND FORM's CARD OF 'fretsawlaw23.DrawingPrefix'. -/
def drawingPrefixUptoCard : Claim7 := { stood := { row := drawingPrefixUptoRow, standIns := [], harness := (true, "a4cdc6801b50f471a6d0ab966e9ef62ebac95363c3c2c2f8bb888e548f8be7e0"), looks := true }, kinds := [], alts := [], laidByText := true, laidKinds := [.data, .data, .data, .data, .sentinel, .sentinel, .pinned], laidTests := true, laidLooks := .later }
def DrawingPrefixUptoCardSaid : Prop := Claim7.holds Tryz.pinned (.plain (OpenSpec.upto drawingPrefixSpec)) drawingPrefixUptoCard

/-- THE SECOND FORM's CARD OF 'fretsawlaw23.DrawingEncode'. -/
def drawingEncodeUptoCard : Claim7 := { stood := { row := drawingEncodeUptoRow, standIns := [], harness := (true, "a4cdc6801b50f471a6d0ab966e9ef62ebac95363c3c2c2f8bb888e548f8be7e0"), looks := true }, kinds := [], alts := [], laidByText := true, laidKinds := [.data, .data, .data, .data, .sentinel, .sentinel, .pinned], laidTests := true, laidLooks := .later }
def DrawingEncodeUptoCardSaid : Prop := Claim7.holds Tryz.pinned (.plain (OpenSpec.upto drawingEncodeSpec)) drawingEncodeUptoCard
end Rows
end Go.Proofs.YtnmmhcchpcbeeaaGreatDoor
