/-
  DERIVED. GIVEN WITH THE SEED: THE CARDS: each row of YtonpbomjjamphaaGreatDoorRows.lean that lists a variable, with what it lists TIED to the program's text (the seventh form; the later family's looks); each row that meets fmt, with fmt's text TOLD by the authors' own Lean function (tested against real Go, not proved from fmt's source: count such statements apart). THE CARD IS WHAT COUNTS. Prove the row's statement (the work); the ties are given (YtonpbomjjamphaaGreatDoorTie.lean); close each card by the builder's one call (the guide's Derived/Test/ToyasCard.lean, 'card_holds'). Laid BY PROGRAM, IN A SANDBOX (cutbox-door.mjs). By AI agents, Wed Nov 11 2026. No macro, syntax, notation, axiom, sorry.
-/
import Derived.Test.YtonpbomjjamphaaGreatDoorRows
import GoSem.ClaimSeven
namespace Go.Proofs.YtonpbomjjamphaaGreatDoor
namespace Rows

/-- THE TIED CARD OF 'fretsawlaw49.NcodeParse'. -/
def ncodeParseCard : Claim7 := { stood := { row := ncodeParseRow, standIns := [], harness := (true, "84e732cfbc583b5431b4018d4504e39291c05130a0c11cd08315aac28856217e"), looks := true }, kinds := [], alts := [], laidByText := true, laidKinds := [.data, .data, .data, .data, .sentinel, .sentinel, .pinned], laidTests := true, laidLooks := .later }
def NcodeParseCardSaid : Prop := Claim7.holds Tryz.pinned (.plain (OpenSpec.ofChange ncodeParseSpec)) ncodeParseCard

/-- THE SECOND FORM's CARD OF 'fretsawlaw49.NcodeParse'. -/
def ncodeParseUptoCard : Claim7 := { stood := { row := ncodeParseUptoRow, standIns := [], harness := (true, "84e732cfbc583b5431b4018d4504e39291c05130a0c11cd08315aac28856217e"), looks := true }, kinds := [], alts := [], laidByText := true, laidKinds := [.data, .data, .data, .data, .sentinel, .sentinel, .pinned], laidTests := true, laidLooks := .later }
def NcodeParseUptoCardSaid : Prop := Claim7.holds Tryz.pinned (.plain (OpenSpec.upto ncodeParseSpec)) ncodeParseUptoCard
end Rows
end Go.Proofs.YtonpbomjjamphaaGreatDoor
