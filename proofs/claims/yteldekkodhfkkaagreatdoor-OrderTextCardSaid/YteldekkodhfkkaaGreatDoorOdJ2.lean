/- The law OrderJoined, walked: all ways. Conditions: the lists lie in memory. -/
import Derived.Test.YteldekkodhfkkaaGreatDoorOdJ
namespace Go.Proofs.YteldekkodhfkkaaGreatDoor.OdW
open Go Go.RowKit Go.Proofs.YteldekkodhfkkaaGreatDoor.Mem

/-- A list of items that came in. -/
def Arg (w : World) (A : Option Addr) (len c : Nat) (l : List Od.It) : Prop := l.length = len ∧ (∀ x ∈ l, (Lit.int .i64 x.q).wf = true ∧ (Lit.int .i64 x.d).wf = true) ∧ Row w A (l.flatMap itCells) ∧ len ≤ maxLen ∧ len ≤ c
theorem max_i64 {n : Nat} (h : n ≤ maxLen) : n ≤ 9223372036854775807 := by unfold maxLen at h; omega
end Go.Proofs.YteldekkodhfkkaaGreatDoor.OdW
