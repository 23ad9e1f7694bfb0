/- Walks: a demand as the reference has it; the quantity of a part. Conditions: the demand lies in memory and has at most a million parts. -/
import Derived.Test.YteldekkodhfkkaaGreatDoorOdN
namespace Go.Proofs.YteldekkodhfkkaaGreatDoor.OdW
open Go Go.RowKit Go.Proofs.YteldekkodhfkkaaGreatDoor.Mem

/-- The quantity of a part. -/
def of : List Nd → List UInt8 → Int
  | [], _ => 0
  | x :: r, p => if x.1 = p then x.2 else of r p
theorem of_drop {l : List Nd} {p : List UInt8} (k : Nat) (h : k < l.length) : of (l.drop k) p = if l[k].1 = p then l[k].2 else of (l.drop (k + 1)) p := by
  rw [List.drop_eq_getElem_cons h]
  rfl
end Go.Proofs.YteldekkodhfkkaaGreatDoor.OdW
