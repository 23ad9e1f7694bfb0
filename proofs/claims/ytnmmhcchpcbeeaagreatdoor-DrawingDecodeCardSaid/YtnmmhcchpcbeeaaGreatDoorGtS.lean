/- Drawings as texts, plain law: a proper prefix of the text of a drawing is wrong at its end. Conditions: none. -/
import Derived.Test.YtnmmhcchpcbeeaaGreatDoorGtQ

namespace Go.Proofs.YtnmmhcchpcbeeaaGreatDoor.Gt
open Go Go.Proofs.YtnmmhcchpcbeeaaGreatDoor.Ge

/-! ### What is written is read -/
def Reads {α} (F : Op α) (v : α) (ls : List (List UInt8)) : Prop := ∀ L s r, s.bad = false → L.drop s.i = ls ++ r → (F L s).1 = v ∧ (F L s).2.bad = false ∧ L.drop (F L s).2.i = r
theorem Reads.bnd {α β} {F : Op α} {G : α → Op β} {a : α} {b : β} {l1 l2 : List (List UInt8)} (h1 : Reads F a l1) (h2 : Reads (G a) b l2) : Reads (bnd F G) b (l1 ++ l2) := fun L s r hb hd => by
 rw [List.append_assoc] at hd
 obtain ⟨e1, e2, e3⟩ := h1 L s (l2 ++ r) hb hd
 have h := h2 L (F L s).2 r e2 e3
 unfold Gt.bnd
 rw [e1]
 exact h
theorem within_iff {v : V} : within v 2000 = true ↔ (-2000 ≤ v.1 ∧ v.1 ≤ 2000 ∧ -2000 ≤ v.2 ∧ v.2 ≤ 2000) := by
 simp [within]
end Go.Proofs.YtnmmhcchpcbeeaaGreatDoor.Gt

namespace Go.Proofs.YtnmmhcchpcbeeaaGreatDoor.Gt
open Go Go.Proofs.YtnmmhcchpcbeeaaGreatDoor.Ge

/-- Where a reader of the first n lines stands, beside one of all of them: at the same place, or at the end, in vain. -/
def Rel (n : Nat) (s s' : S) : Prop := (s'.bad = false ∧ s' = s ∧ s.i ≤ n) ∨ s' = ⟨n, true⟩
def Sim {α} (F : Op α) : Prop := ∀ L n s s', Rel n s s' → (F L s).2.bad = false → Rel n (F L s).2 (F (L.take n) s').2 ∧ ((F (L.take n) s').2.bad = false → (F (L.take n) s').1 = (F L s).1)
theorem Sim.bnd {α β} {F : Op α} {G : α → Op β} (hF : Sim F) (hG : ∀ a, Sim (G a)) (hS : ∀ a, Stay (G a)) : Sim (bnd F G) := fun L n s s' h hb => by
 have hb1 : (F L s).2.bad = false := not_bad (hS _) hb
 obtain ⟨h1, h2⟩ := hF L n s s' h hb1
 show Rel n (G (F L s).1 L (F L s).2).2 (G (F (L.take n) s').1 (L.take n) (F (L.take n) s').2).2 ∧ ((G (F (L.take n) s').1 (L.take n) (F (L.take n) s').2).2.bad = false → (G (F (L.take n) s').1 (L.take n) (F (L.take n) s').2).1 = (G (F L s).1 L (F L s).2).1)
 cases hx : (F (L.take n) s').2.bad with
 | false =>
  rw [h2 hx]
  exact hG _ L n _ _ h1 hb
 | true =>
  have e : (F (L.take n) s').2 = ⟨n, true⟩ := by
   rcases h1 with h1 | h1
   ·rw [h1.1] at hx; cases hx
   ·exact h1
  have e2 := hS (F (L.take n) s').1 (L.take n) (F (L.take n) s').2 hx
  exact ⟨.inr (e2.trans e), fun h => by rw [e2, hx] at h; cases h⟩
theorem ents_stop (f : Nat) (L : List (List UInt8)) (s : S) (d : List Ent) (h : s.bad = false) (hk : (rdName L d.length s).1 = kEof ∨ (rdName L d.length s).2.bad = true) : ents L (f + 1) s d = ((rdName L d.length s).2, d) := by
 unfold ents
 rw [if_pos (.inr hk), if_neg (by simp [h])]
theorem ents_go (f : Nat) (L : List (List UInt8)) (s : S) (d : List Ent) (h : s.bad = false) (h1 : (rdName L d.length s).1 ≠ kEof) (h2 : (rdName L d.length s).2.bad = false) :
  ents L (f + 1) s d = ents L f (rdEnt L (rdName L d.length s).1 (rdName L d.length s).2).2 (d ++ [(rdEnt L (rdName L d.length s).1 (rdName L d.length s).2).1]) := by
 rw [ents, if_neg (by simp [h, h1, h2])]
end Go.Proofs.YtnmmhcchpcbeeaaGreatDoor.Gt
