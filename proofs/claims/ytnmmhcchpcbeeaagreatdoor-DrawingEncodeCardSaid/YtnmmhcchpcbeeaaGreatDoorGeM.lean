/- Plain laws: two ways to tell how segments meet, whether a ring is valid, and where a point lies, say the same. Conditions: none. -/
import Derived.Test.YtnmmhcchpcbeeaaGreatDoorGeC

namespace Go.Proofs.YtnmmhcchpcbeeaaGreatDoor.Ge
def both (s t : S) (p : V) : Bool := on s p && on t p
/-- A number by which points of small coordinates are ordered. -/
def key (p : V) : Int := p.2 * 10000 + p.1
theorem within_iff {p : V} {m : Int} : within p m = true ↔ -m ≤ p.1 ∧ p.1 ≤ m ∧ -m ≤ p.2 ∧ p.2 ≤ m := by
 unfold within
 simp only [Bool.and_eq_true, decide_eq_true_eq]
end Go.Proofs.YtnmmhcchpcbeeaaGreatDoor.Ge
