/-
  DERIVED. GIVEN WITH THE SEED: THE CARDS: each row of YteldekkodhfkkaaGreatDoorRows.lean that lists a variable, with what it lists TIED to the program's text (the seventh form; the later family's looks); each row that meets fmt, with fmt's text TOLD by the authors' own Lean function (tested against real Go, not proved from fmt's source: count such statements apart). THE CARD IS WHAT COUNTS. Prove the row's statement (the work); the ties are given (YteldekkodhfkkaaGreatDoorTie.lean); close each card by the builder's one call (the guide's Derived/Test/ToyasCard.lean, 'card_holds'). Laid BY PROGRAM, IN A SANDBOX (cutbox-door.mjs). By AI agents, Wed Nov 11 2026. No macro, syntax, notation, axiom, sorry.
-/
import Derived.Test.YteldekkodhfkkaaGreatDoorRows
import GoSem.ClaimSeven
namespace Go.Proofs.YteldekkodhfkkaaGreatDoor
namespace Rows

/-- THE TIED CARD OF 'fretsawlaw24.OrderText'. -/
def orderTextCard : Claim7 := { stood := { row := orderTextRow, standIns := [], harness := (true, "3ac5fa995b539549fafa184badfe0715bd9a63d8ffe669fd28de4926bcf292bf"), looks := true }, kinds := [], alts := [], laidByText := true, laidKinds := [.data, .data, .data, .sentinel, .sentinel], laidTests := true, laidLooks := .later }
def OrderTextCardSaid : Prop := Claim7.holds Tryz.pinned (.plain (OpenSpec.ofChange orderTextSpec)) orderTextCard

/-- THE SECOND FORM's CARD OF 'fretsawlaw24.OrderText'. -/
def orderTextUptoCard : Claim7 := { stood := { row := orderTextUptoRow, standIns := [], harness := (true, "3ac5fa995b539549fafa184badfe0715bd9a63d8ffe669fd28de4926bcf292bf"), looks := true }, kinds := [], alts := [], laidByText := true, laidKinds := [.data, .data, .data, .sentinel, .sentinel], laidTests := true, laidLooks := .later }
def OrderTextUptoCardSaid : Prop := Claim7.holds Tryz.pinned (.plain (OpenSpec.upto orderTextSpec)) orderTextUptoCard
end Rows
end Go.Proofs.YteldekkodhfkkaaGreatDoor
