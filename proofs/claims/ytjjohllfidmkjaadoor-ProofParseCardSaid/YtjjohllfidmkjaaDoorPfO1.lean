/- A tree gathered kid by kid in new memory. No function is in sight. Conditions: as stated. -/
import Derived.Test.YtjjohllfidmkjaaDoorPfTree
import Derived.OneCell
namespace Go.Proofs.YtjjohllfidmkjaaDoor.Pf
open Go Go.RowKit Go.Proofs.YtjjohllfidmkjaaDoor.Mem

theorem stored3 {w : World} {b : Nat} {x y z u : Value} {t : TypeId} (h : w.heap[b]? = some (.cells #[x, y, z] t (0, 0))) : (w.setCell ⟨b, 1, none⟩ u).heap[b]? = some (.cells #[x, u, z] t (0, 0)) := by
  have hlt := lt_of_block h
  have h' : w.heap[b] = .cells #[x, y, z] t (0, 0) := by simpa [Array.getElem?_eq_getElem hlt] using h
  show (w.heap.modify b _)[b]? = _
  rw [Array.getElem?_eq_getElem (by simpa using hlt), Array.getElem_modify_self, h']
  rfl
theorem cell3 {w : World} {b : Nat} {x y z : Value} {t : TypeId} (h : w.heap[b]? = some (.cells #[x, y, z] t (0, 0))) : w.cell? ⟨b, 0, none⟩ = some x ∧ w.cell? ⟨b, 1, none⟩ = some y ∧ w.cell? ⟨b, 2, none⟩ = some z := by
  refine ⟨?_, ?_, ?_⟩ <;> simp [World.cell?, h]
theorem free3 {w : World} {b : Nat} {x y z : Value} {t : TypeId} (h : w.heap[b]? = some (.cells #[x, y, z] t (0, 0))) (j : Nat) : w.frozen? ⟨b, j, none⟩ = false := by simp [World.frozen?, h]
theorem cells3 {w : World} {b : Nat} {x y z : Value} {t : TypeId} (h : w.heap[b]? = some (.cells #[x, y, z] t (0, 0))) : ∀ (j : Nat) (u : Value), [x, y, z][j]? = some u → w.cell? ((⟨b, 0, none⟩ : Addr).add j) = some u := by
  obtain ⟨h0, h1, h2⟩ := cell3 h
  intro j u hj
  match j, hj with
  | 0, hj => simp at hj; subst hj; simpa [Addr.add] using h0
  | 1, hj => simp at hj; subst hj; simpa [Addr.add] using h1
  | 2, hj => simp at hj; subst hj; simpa [Addr.add] using h2
  | j + 3, hj => simp at hj

/-- A tree handed back: it lies in the old blocks of a set, and in new ones. -/
def TreeRet (S : Nat → Prop) (w : World) (t : T) (e : Ending) (w' : World) : Prop :=
  ∃ s A n c B m d, e = .returned (.agg #[.int .i64 s, .slice A n c, .slice B m d]) ∧ TreeIn (fun g => S g ∧ g < w.heap.size ∨ w.heap.size ≤ g) w' t [.int .i64 s, .slice A n c, .slice B m d] ∧ Below w.heap.size w w'
/-- The blocks of the kids that were gathered. -/
def KidS (S : Nat → Prop) (b0 : Nat) (v : Value) (g : Nat) : Prop := S g ∧ g < b0 ∨ (b0 + 3 ≤ g ∧ v.ownBlock ≠ some g)
/-- The kids gathered so far, behind a box at block 'bx'. -/
def Gath (S : Nat → Prop) (b0 bx : Nat) (s : Int) (lf : Value) (E : TypeId) (ks : List T) (k : Nat) (v : Value) (ws : List Value) (wr : World) : Prop :=
  k ≤ ks.length ∧ (wr.ownsRow (b0 + 3) E 3 v k ws ∧ KidsIn (KidS S b0 v) wr (ks.take k) ws) ∧ wr.heap[bx]? = some (.cells #[.int .i64 s, v, lf] E (0, 0))
theorem Gath.same {S : Nat → Prop} {b0 bx : Nat} {s : Int} {lf : Value} {E : TypeId} {ks : List T} {k : Nat} {v : Value} {ws : List Value} {w w' : World} (h : Gath S b0 bx s lf E ks k v ws w) (hb : Below w.heap.size w w') : Gath S b0 bx s lf E ks k v ws w' := by
  obtain ⟨h1, ⟨h2, h3⟩, h4⟩ := h
  exact ⟨h1, ⟨own_below h2 hb, h3.below hb⟩, (hb.block _ (lt_of_block h4)).trans h4⟩
theorem Gath.next {S : Nat → Prop} {b0 bx : Nat} {s : Int} {lf : Value} {E : TypeId} {ks : List T} {k : Nat} {v : Value} {ws : List Value} {w w2 w4 : World} {g cap B1 : Nat} {kc : List Value} {Q : Nat → Prop}
    (hx : b0 ≤ bx) (hx2 : bx < b0 + 3) (hw : b0 + 3 ≤ w.heap.size) (h : Gath S b0 bx s lf E ks k v ws w) (hk : k < ks.length) (hb2 : Below w.heap.size w w2) (hT : TreeIn Q w2 ks[k] kc) (hQ : ∀ x, Q x → S x ∧ x < b0 ∨ w.heap.size ≤ x ∧ x < B1)
    (hgrow : w2.grownBy w4 v.ownBlock) (hat : v.ownBlock = some g ∨ (B1 ≤ g ∧ w.heap.size ≤ g)) (own4 : w4.ownsRow (b0 + 3) E 3 (.slice (some ⟨g, 0, none⟩) (k + 1) cap) (k + 1) (ws ++ kc)) :
    Gath S b0 bx s lf E ks (k + 1) (.slice (some ⟨g, 0, none⟩) (k + 1) cap) (ws ++ kc) (w4.setCell ⟨bx, 1, none⟩ (.slice (some ⟨g, 0, none⟩) (k + 1) cap)) := by
  obtain ⟨h1, ⟨h2, h3⟩, h4⟩ := h
  have hlt := h2.lt
  have hv : ∀ x, v.ownBlock = some x → b0 + 3 ≤ x ∧ x < w.heap.size := hlt
  have hbx : some bx ≠ v.ownBlock := fun e => by have := hv bx e.symm; omega
  have hbx4 : w4.heap[bx]? = some (.cells #[.int .i64 s, v, lf] E (0, 0)) := (hgrow.block bx (by have := hb2.size; omega) hbx).trans ((hb2.block bx (by omega)).trans h4)
  have hgx : bx ≠ g := by
    have := own4.lt g rfl
    omega
  refine ⟨hk, ⟨?_, ?_⟩, stored3 hbx4⟩
  · refine ownsRow_setCell_other own4 ?_ _
    show some g ≠ some bx
    intro e; cases e; exact hgx rfl
  · rw [List.take_succ_eq_append_getElem hk]
    have blk : ∀ x, x < w2.heap.size → v.ownBlock ≠ some x → x ≠ bx → (w4.setCell ⟨bx, 1, none⟩ (.slice (some ⟨g, 0, none⟩) (k + 1) cap)).heap[x]? = w2.heap[x]? := fun x hx hn hxb => by
      rw [Below.heap_setCell _ _ _ _ hxb]
      exact hgrow.block x hx (fun e => hn e.symm)
    have own' : ∀ x, (Value.slice (some ⟨g, 0, none⟩) (k + 1) cap).ownBlock = some x → x = g := fun x e => by
      have : some g = some x := e
      cases this; rfl
    refine KidsIn.snoc ?_ ?_
    · refine TreeIn.stays (S := fun x => Q x ∧ x < w2.heap.size) (w := w2) (fun x hx hlt2 => ?_) (fun x hx hlt2 => ?_) _ _ (TreeIn.stays (fun _ _ _ => rfl) (fun x hx hlt2 => ⟨hx, hlt2⟩) _ _ hT)
      · have hq := hQ x hx.1
        refine blk x hx.2 (fun e => ?_) (by omega)
        have := hv x e
        omega
      · rcases hQ x hx.1 with hq | hq
        · exact .inl hq
        · refine .inr ⟨by omega, fun e => ?_⟩
          have e2 := own' x e
          subst e2
          rcases hat with ha | ha
          · have := hv _ ha; omega
          · omega
    · refine KidsIn.stays (S := fun x => KidS S b0 v x ∧ x < w.heap.size) (w := w2) (fun x hx hlt2 => ?_) (fun x hx hlt2 => ?_) _ _ ?_
      · rcases hx.1 with hq | hq
        · exact blk x hlt2 (fun e => by have := hv x e; omega) (by omega)
        · exact blk x hlt2 hq.2 (by omega)
      · rcases hx.1 with hq | hq
        · exact .inl hq
        · refine .inr ⟨hq.1, fun e => ?_⟩
          have e2 := own' x e
          subst e2
          rcases hat with ha | ha
          · exact hq.2 ha
          · omega
      · exact (KidsIn.stays (S' := fun x => KidS S b0 v x ∧ x < w.heap.size) (fun x hx hlt2 => hb2.block x hlt2) (fun x hx hlt2 => ⟨hx, hlt2⟩) _ _ h3)
/-- All kids gathered: the tree. -/
theorem Gath.tree {S : Nat → Prop} {b0 bx : Nat} {s : Int} {B : Option Addr} {d : Nat} {lf : List Int} {E : TypeId} {ks : List T} {v : Value} {ws : List Value} {w0 w : World} (h : Gath S b0 bx s (.slice B lf.length d) E ks ks.length v ws w) (hb0 : w0.heap.size = b0) (hb : Below b0 w0 w) (hd : lf.length ≤ d) (hl : RowS S w0 B (intCells lf)) :
    ∃ A c, v = .slice A ks.length c ∧ TreeIn (fun g => S g ∧ g < b0 ∨ b0 + 3 ≤ g) w (.mk s ks lf) [.int .i64 s, v, .slice B lf.length d] := by
  obtain ⟨h1, ⟨h2, h3⟩, h4⟩ := h
  rw [List.take_length] at h3
  obtain ⟨A, c, rfl, hc⟩ := own_shape h2
  refine ⟨A, c, rfl, ?_⟩
  unfold TreeIn
  refine ⟨A, c, B, d, ws, rfl, hc, hd, ?_, KidsIn.stays (fun _ _ _ => rfl) (fun x hx _ => ?_) _ _ h3, hl.stays (fun x _ hlt => hb.block x (by omega)) (fun x hx hlt => .inl ⟨hx, by omega⟩)⟩
  · intro hne
    have hr := Row.of_own h2
    obtain ⟨g, off, e, hg, hcell⟩ := hr hne
    subst e
    refine ⟨g, off, rfl, .inr ?_, hg, hcell⟩
    rcases h2.2 with ⟨h0, _⟩ | ⟨g', cap, cur, hv, hb', _⟩
    · cases h0
    · cases hv; omega
  · rcases hx with hq | hq
    · exact .inl hq
    · exact .inr hq.1
end Go.Proofs.YtjjohllfidmkjaaDoor.Pf
