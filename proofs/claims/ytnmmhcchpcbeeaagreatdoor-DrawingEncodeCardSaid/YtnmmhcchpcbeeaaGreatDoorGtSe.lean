/- Drawings as texts, plain: the reader's loop at one entity. No program in sight. Conditions: none. -/
import Derived.Test.YtnmmhcchpcbeeaaGreatDoorGtR

namespace Go.Proofs.YtnmmhcchpcbeeaaGreatDoor.Gt
open Go Go.Proofs.YtnmmhcchpcbeeaaGreatDoor.Ge
theorem bad_of {s : S} (h : ¬ s.bad = false) : s.bad = true := by cases hx : s.bad <;> simp_all
theorem ents_bad (f : Nat) (L : List (List UInt8)) (s : S) (d : List Ent) (h : s.bad = true) : (ents L f s d).1 = s := by
 cases f with
 | zero => rfl
 | succ f => unfold ents; rw [if_pos (.inl h)]; simp [h]
theorem ents_stop (f : Nat) (L : List (List UInt8)) (s : S) (d : List Ent) (h : s.bad = false) (hk : (rdName L d.length s).1 = kEof ∨ (rdName L d.length s).2.bad = true) : ents L (f + 1) s d = ((rdName L d.length s).2, d) := by
 unfold ents
 rw [if_pos (.inr hk), if_neg (by simp [h])]
theorem ents_go (f : Nat) (L : List (List UInt8)) (s : S) (d : List Ent) (h : s.bad = false) (h1 : (rdName L d.length s).1 ≠ kEof) (h2 : (rdName L d.length s).2.bad = false) :
  ents L (f + 1) s d = ents L f (rdEnt L (rdName L d.length s).1 (rdName L d.length s).2).2 (d ++ [(rdEnt L (rdName L d.length s).1 (rdName L d.length s).2).1]) := by
 rw [ents, if_neg (by simp [h, h1, h2])]
end Go.Proofs.YtnmmhcchpcbeeaaGreatDoor.Gt
