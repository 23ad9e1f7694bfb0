/- What the program's reader of trees leaves behind. Conditions: none. -/
import Derived.Test.YtjjohllfidmkjaaDoorPfL
import Derived.Test.YtjjohllfidmkjaaDoorPfR2
import Derived.Test.YtjjohllfidmkjaaDoorPfO
namespace Go.Proofs.YtjjohllfidmkjaaDoor.PfW
open Go Go.RowKit Go.Proofs.YtjjohllfidmkjaaDoor.Mem Go.Proofs.YtjjohllfidmkjaaDoor.Pf

def PRet (br : Nat) (r : Option (T × Nat × List UInt8)) (w : World) (e : Ending) (w' : World) : Prop :=
  w.grownBy w' (some br) ∧ ∃ (s : Int) (A : Option Addr) (m c : Nat) (B : Option Addr) (k d : Nat), match r with
    | some (t, n, rest) => e = .returned (.tuple #[.agg #[.int .i64 s, .slice A m c, .slice B k d], .bool true]) ∧ w'.heap[br]? = some (rdO rest n) ∧ TreeIn (fun g => w.heap.size ≤ g) w' t [.int .i64 s, .slice A m c, .slice B k d]
    | none => e = .returned (.tuple #[.agg #[.int .i64 s, .slice A m c, .slice B k d], .bool false]) ∧ ∃ t n, w'.heap[br]? = some (rdO t n) ∧ t.length ≤ 1000000
/-- Where the reader of a tree stands. -/
structure TSt (br n : Nat) (w : World) (x : Int) (acc : List T) (s : List UInt8) (v : Value) (ws : List Value) (wr : World) : Prop where
  rd : wr.heap[br]? = some (rdO s n)
  box : wr.heap[w.heap.size]? = some (.cells #[.int .i64 x, v, .slice none 0 0] 38 (0, 0))
  own : wr.ownsRow (w.heap.size + 1) 38 3 v acc.length ws
  kids : KidsIn (fun g => w.heap.size < g ∧ v.ownBlock ≠ some g) wr acc ws
  grow : w.grownBy wr (some br)
  lt : br < w.heap.size
  few : acc.length ≤ 100
  len : s.length ≤ 1000000
theorem TSt.step {br n m : Nat} {w wr w' : World} {x : Int} {acc : List T} {s t : List UInt8} {v : Value} {ws : List Value} (h : TSt br n w x acc s v ws wr) (hr : w'.heap[br]? = some (rdO t m)) (hg : wr.grownBy w' (some br)) (hl : t.length ≤ 1000000) : TSt br m w x acc t v ws w' := by
  have hlt := h.own.lt
  have h2 := lt_of_block h.box
  have h3 := h.lt
  refine ⟨hr, (hg.block _ h2 (by intro e; cases e; omega)).trans h.box, ⟨h.own.1, ?_⟩, KidsIn.stays (fun g hg1 hg2 => hg.block g hg2 (by intro e; cases e; omega)) (fun _ h _ => h) _ _ h.kids, grown_trans h.grow hg, h3, h.few, hl⟩
  rcases h.own.2 with h0 | ⟨g, cap, cur, hv, hb, hh, r⟩
  · exact .inl h0
  · refine .inr ⟨g, cap, cur, hv, hb, ?_, r⟩
    rw [hg.block g (lt_of_block hh) (by intro e; cases e; omega)]; exact hh
theorem TSt.push {br n : Nat} {w wr w1 w2 : World} {x : Int} {acc : List T} {s : List UInt8} {v : Value} {ws kc : List Value} {k : T} {g c B0 : Nat} (h : TSt br n w x acc s v ws wr) (hb : Below wr.heap.size wr w1)
    (hT : TreeIn (fun y => B0 ≤ y) w1 k kc) (hB0 : w.heap.size < B0) (hvB : ∀ y, v.ownBlock = some y → y < B0) (hat : v.ownBlock = some g ∨ w1.heap.size ≤ g)
    (hown : w2.ownsRow (w.heap.size + 1) 38 3 (.slice (some ⟨g, 0, none⟩) (acc.length + 1) c) (acc.length + 1) (ws ++ kc)) (hg : w1.grownBy w2 v.ownBlock) (hf : acc.length < 100) :
    TSt br n w x (acc ++ [k]) s (.slice (some ⟨g, 0, none⟩) (acc.length + 1) c) (ws ++ kc) (w2.setCell ⟨w.heap.size, 1, none⟩ (.slice (some ⟨g, 0, none⟩) (acc.length + 1) c)) := by
  have hlt := h.own.lt
  have h2 := lt_of_block h.box
  have h3 := h.lt
  have hz := hb.size
  have hz2 := hg.size
  have ne : ∀ k, k ≤ w.heap.size → some k ≠ v.ownBlock := fun k hk e => by have := hlt k e.symm; omega
  have hgo := hown.lt g rfl
  have bx2 : w2.heap[w.heap.size]? = some (.cells #[.int .i64 x, v, .slice none 0 0] 38 (0, 0)) := (hg.block _ (by omega) (ne _ (by omega))).trans ((hb.block _ h2).trans h.box)
  have far : ∀ y, y < w1.heap.size → v.ownBlock ≠ some y → y ≠ w.heap.size → (w2.setCell ⟨w.heap.size, 1, none⟩ (.slice (some ⟨g, 0, none⟩) (acc.length + 1) c)).heap[y]? = w1.heap[y]? := fun y hy hn hne => by
    rw [Below.heap_setCell _ _ _ _ hne]; exact hg.block y hy (fun e => hn e.symm)
  have own' : ∀ y, (Value.slice (some ⟨g, 0, none⟩) (acc.length + 1) c).ownBlock = some y → y = g := fun y e => by
    have : some g = some y := e
    cases this; rfl
  refine ⟨?_, stored3 bx2, ?_, ?_, ?_, h3, ?_, h.len⟩
  · rw [far br (by omega) (fun e => ne br (by omega) e.symm) (by omega), hb.block _ (by omega)]; exact h.rd
  · rw [List.length_append]
    exact ownsRow_setCell_other hown (fun e => by have e' : some g = some w.heap.size := e; cases e'; omega) _
  · refine KidsIn.snoc ?_ ?_
    · refine TreeIn.stays (S := fun y => B0 ≤ y) (w := w1) (fun y hy hy2 => far y hy2 (fun e => by have := hvB y e; omega) (by omega)) (fun y hy hy2 => ⟨by omega, fun e => ?_⟩) _ _ hT
      have e2 := own' y e
      subst e2
      rcases hat with ha | ha
      · have := hvB _ ha; omega
      · omega
    · refine KidsIn.stays (S := fun y => (w.heap.size < y ∧ v.ownBlock ≠ some y) ∧ y < wr.heap.size) (w := w1) (fun y hy hy2 => far y hy2 hy.1.2 (by omega)) (fun y hy hy2 => ⟨hy.1.1, fun e => ?_⟩) _ _ (KidsIn.stays (S' := fun y => (w.heap.size < y ∧ v.ownBlock ≠ some y) ∧ y < wr.heap.size) (fun y hy hy2 => hb.block y hy2) (fun y hy hy2 => ⟨hy, hy2⟩) _ _ h.kids)
      have e2 := own' y e
      subst e2
      rcases hat with ha | ha
      · exact hy.1.2 ha
      · omega
  · have hg2 : w.grownBy w2 (some br) := ⟨hg.os.trans (hb.os.trans h.grow.os), hg.tape.trans (hb.tape.trans h.grow.tape), hg.output.trans (hb.output.trans h.grow.output), Nat.le_trans h.grow.size (Nat.le_trans hb.size hg.size), fun i hi hne => by
      rw [hg.block i (by have := h.grow.size; omega) (ne i (by omega)), hb.block i (by have := h.grow.size; omega)]; exact h.grow.block i hi hne⟩
    exact grown_new hg2 (Nat.le_refl _) 1 _
  · rw [List.length_append]; simp; omega
theorem TSt.split {br n : Nat} {w wr : World} {x : Int} {s : List UInt8} (h : TSt br n w x [] s (.slice none 0 0) [] wr) (y : Int) : TSt br n w y [] s (.slice none 0 0) [] (wr.setCell ⟨w.heap.size, 0, none⟩ (.int .i64 y)) := by
  have h3 := h.lt
  refine ⟨?_, ?_, World.ownsRow_nil _ _ _ _, by unfold KidsIn; rfl, grown_new h.grow (Nat.le_refl _) 0 _, h3, h.few, h.len⟩
  · rw [Below.heap_setCell _ _ _ _ (by show br ≠ w.heap.size; omega)]; exact h.rd
  · have hlt := lt_of_block h.box
    have h' : wr.heap[w.heap.size] = .cells #[.int .i64 x, .slice none 0 0, .slice none 0 0] 38 (0, 0) := by simpa [Array.getElem?_eq_getElem hlt] using h.box
    show (wr.heap.modify _ _)[w.heap.size]? = _
    rw [Array.getElem?_eq_getElem (by simpa using hlt), Array.getElem_modify_self, h']; rfl
/-- The tree gathered. -/
theorem TSt.tree {br n : Nat} {w wr : World} {x : Int} {acc : List T} {s : List UInt8} {A : Option Addr} {c : Nat} {ws : List Value} (h : TSt br n w x acc s (.slice A acc.length c) ws wr) (hc : acc.length ≤ c) :
    TreeIn (fun g => w.heap.size < g) wr (.mk x acc []) [.int .i64 x, .slice A acc.length c, .slice none 0 0] := by
  unfold TreeIn
  refine ⟨A, c, none, 0, ws, rfl, hc, Nat.le_refl _, ?_, KidsIn.stays (fun _ _ _ => rfl) (fun y hy _ => hy.1) _ _ h.kids, fun hne => absurd rfl hne⟩
  intro hne
  obtain ⟨g, off, rfl, hg, hcell⟩ := Row.of_own h.own hne
  refine ⟨g, off, rfl, ?_, hg, hcell⟩
  rcases h.own.2 with ⟨h0, _⟩ | ⟨g', cap, cur, hv, hb', _⟩
  · cases h0
  · cases hv; show w.heap.size < g; omega
theorem tree_bad {f d n : Nat} {s : List UInt8} (h : 2000 < n + 1 ∨ 40 < d) : pTree (f + 1) d n s = none := by rw [pTree, if_pos h]
theorem tree_leaf {f d n : Nat} {s : List UInt8} (h : ¬ (2000 < n + 1 ∨ 40 < d)) (h1 : hp s 40 = true) : pTree (f + 1) d n s = match pLeaf f [] (tp s 40) with | none => none | some (l, r2) => some (.mk 0 [] l, n + 1, r2) := by
  rw [pTree, if_neg h, if_pos h1]
  cases pLeaf f [] (tp s 40) <;> rfl
theorem tree_no {f d n : Nat} {s : List UInt8} (h : ¬ (2000 < n + 1 ∨ 40 < d)) (h1 : hp s 40 = false) (h2 : hp s 91 = false) : pTree (f + 1) d n s = none := by
  rw [pTree, if_neg h, if_neg (by rw [h1]; simp), if_neg (by rw [h2]; simp)]
def nodeOf (x : Int) : Option (List T × Nat × List UInt8) → Option (T × Nat × List UInt8)
  | none => none
  | some (ks, n2, r3) => some (.mk x ks [], n2, r3)
theorem tree_node {f d n : Nat} {s : List UInt8} (h : ¬ (2000 < n + 1 ∨ 40 < d)) (h1 : hp s 40 = false) (h2 : hp s 91 = true) : pTree (f + 1) d n s = match pNum (tp s 91) with | none => none | some (x, r2) => nodeOf x (pKids f d (n + 1) [] r2) := by
  rw [pTree, if_neg h, if_neg (by rw [h1]; simp), if_pos h2]
  cases hn : pNum (tp s 91) with
  | none => rfl
  | some p =>
    obtain ⟨x, r2⟩ := p
    cases hk : pKids f d (n + 1) [] r2 with
    | none => simp only [hk]; rfl
    | some q => obtain ⟨ks, n2, r3⟩ := q; simp only [hk]; rfl
theorem kids_end {f d n : Nat} {acc : List T} {s : List UInt8} (h : hp s 32 = false) (h1 : 0 < acc.length) (h2 : hp s 93 = true) : pKids (f + 1) d n acc s = some (acc, n, tp s 93) := by
  rw [pKids, if_neg (by rw [h]; simp), if_pos ⟨h1, h2⟩]
theorem kids_no {f d n : Nat} {acc : List T} {s : List UInt8} (h : hp s 32 = false) (h1 : ¬ (0 < acc.length ∧ hp s 93 = true)) : pKids (f + 1) d n acc s = none := by
  rw [pKids, if_neg (by rw [h]; simp), if_neg h1]
theorem kids_none {f d n : Nat} {acc : List T} {s : List UInt8} (h : hp s 32 = true) (h1 : pTree f (d + 1) n (tp s 32) = none) : pKids (f + 1) d n acc s = none := by
  rw [pKids, if_pos h, h1]
theorem kids_full {f d n n2 : Nat} {acc : List T} {s r : List UInt8} {k : T} (h : hp s 32 = true) (h1 : pTree f (d + 1) n (tp s 32) = some (k, n2, r)) (h2 : acc.length = 100) : pKids (f + 1) d n acc s = none := by
  rw [pKids, if_pos h, h1]
  exact if_pos h2
theorem kids_go {f d n n2 : Nat} {acc : List T} {s r : List UInt8} {k : T} (h : hp s 32 = true) (h1 : pTree f (d + 1) n (tp s 32) = some (k, n2, r)) (h2 : acc.length ≠ 100) : pKids (f + 1) d n acc s = pKids f d n2 (acc ++ [k]) r := by
  rw [pKids, if_pos h, h1]
  exact if_neg h2
end Go.Proofs.YtjjohllfidmkjaaDoor.PfW
