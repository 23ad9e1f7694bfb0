/- A path that a closure keeps in a captured variable. No function is in sight. Conditions: as stated. -/
import Derived.Test.YtjjohllfidmkjaaDoorPfO1
import Derived.Test.YtjjohllfidmkjaaDoorPfY2
namespace Go.Proofs.YtjjohllfidmkjaaDoor.Pf
open Go Go.RowKit Go.Proofs.YtjjohllfidmkjaaDoor.Mem

/-- A step that writes the path's variable and its row, and makes new blocks. -/
structure PStep (bp : Nat) (v v' : Value) (w w' : World) : Prop where
  os : w'.os = w.os
  tape : w'.tape = w.tape
  output : w'.output = w.output
  size : w.heap.size ≤ w'.heap.size
  block : ∀ g, g < w.heap.size → g ≠ bp → v.ownBlock ≠ some g → w'.heap[g]? = w.heap[g]?
  own : ∀ g, v'.ownBlock = some g → v.ownBlock = some g ∨ w.heap.size ≤ g
theorem PStep.trans {bp : Nat} {v v1 v2 : Value} {w w1 w2 : World} (h : PStep bp v v1 w w1) (k : PStep bp v1 v2 w1 w2) : PStep bp v v2 w w2 := by
  refine ⟨k.os.trans h.os, k.tape.trans h.tape, k.output.trans h.output, Nat.le_trans h.size k.size, fun g hg hn hv => ?_, fun g hg => ?_⟩
  · rw [k.block g (Nat.lt_of_lt_of_le hg h.size) hn (fun e => ?_), h.block g hg hn hv]
    rcases h.own g e with e1 | e1
    · exact hv e1
    · omega
  · rcases k.own g hg with e1 | e1
    · exact h.own g e1
    · exact .inr (Nat.le_trans h.size e1)
theorem PStep.of_below {bp : Nat} {v : Value} {w w' : World} (h : Below w.heap.size w w') : PStep bp v v w w' := ⟨h.os, h.tape, h.output, h.size, fun g hg _ _ => h.block g hg, fun _ h => .inl h⟩
theorem PStep.below {bp b0 : Nat} {v v' : Value} {w w' : World} (h : PStep bp v v' w w') (h1 : b0 ≤ bp) (h2 : ∀ g, v.ownBlock = some g → b0 ≤ g) (h3 : b0 ≤ w.heap.size) : Below b0 w w' :=
  ⟨h.os, h.tape, h.output, h.size, fun g hg => h.block g (by omega) (by omega) (fun e => by have := h2 g e; omega)⟩
theorem PStep.stays {bp b0 : Nat} {v v' : Value} {w w' : World} (h : PStep bp v v' w w') (h1 : b0 ≤ bp) (h2 : ∀ g, v.ownBlock = some g → b0 ≤ g) : Stays (fun g => g < b0) w w' := fun g hg hlt => h.block g hlt (by omega) (fun e => by have := h2 g e; omega)
/-- The path. -/
def PathIs (base bp : Nat) (TI TE : TypeId) (v : Value) (l : List Nat) (w : World) : Prop :=
  w.heap[bp]? = some (.cells #[v] TI (0, 0)) ∧ w.ownsRow base TE 1 v l.length (natCells l) ∧ bp < base ∧ base ≤ w.heap.size
theorem PathIs.own {base bp : Nat} {TI TE : TypeId} {v : Value} {l : List Nat} {w : World} (h : PathIs base bp TI TE v l w) : ∀ g, v.ownBlock = some g → base ≤ g ∧ g < w.heap.size := h.2.1.lt
theorem PathIs.below {base bp : Nat} {TI TE : TypeId} {v : Value} {l : List Nat} {w w' : World} (h : PathIs base bp TI TE v l w) (hb : Below w.heap.size w w') : PathIs base bp TI TE v l w' :=
  ⟨(hb.block _ (lt_of_block h.1)).trans h.1, own_below h.2.1 hb, h.2.2.1, Nat.le_trans h.2.2.2 hb.size⟩
/-- An element appended, and the row stored back. -/
theorem PathIs.push {base bp : Nat} {TI TE : TypeId} {v v' : Value} {l : List Nat} {i : Nat} {w w1 w2 : World} (h : PathIs base bp TI TE v l w) (hb : Below w.heap.size w w1)
    (hown : w2.ownsRow base TE 1 v' (l.length + 1) (natCells l ++ [.int .i64 (i : Int)])) (hg : w1.grownBy w2 v.ownBlock) (hat : ∀ g, v'.ownBlock = some g → v.ownBlock = some g ∨ w.heap.size ≤ g) :
    PathIs base bp TI TE v' (l ++ [i]) (w2.setCell ⟨bp, 0, none⟩ v') ∧ PStep bp v v' w (w2.setCell ⟨bp, 0, none⟩ v') := by
  have hlt := h.own
  have hbp := lt_of_block h.1
  have e2 : w2.heap[bp]? = some (.cells #[v] TI (0, 0)) := (hg.block bp (by have := hb.size; omega) (fun e => by have := hlt bp e.symm; have := h.2.2.1; omega)).trans ((hb.block _ hbp).trans h.1)
  have hcells : natCells l ++ [.int .i64 (i : Int)] = natCells (l ++ [i]) := by simp [natCells, intCells, ints]
  refine ⟨⟨one_setCell e2, ?_, h.2.2.1, ?_⟩, ⟨hg.os.trans hb.os, hg.tape.trans hb.tape, hg.output.trans hb.output, ?_, fun g hg1 hn hv => ?_, hat⟩⟩
  · rw [← hcells, List.length_append]
    exact ownsRow_setCell_other hown (fun e => by have h5 : base ≤ bp := (hown.lt _ e).1; have := h.2.2.1; omega) _
  · have h1 := h.2.2.2; have h2 := hb.size; have h3 := hg.size
    show base ≤ (w2.setCell _ _).heap.size
    simp [World.setCell]; omega
  · have h2 := hb.size; have h3 := hg.size
    show w.heap.size ≤ (w2.setCell _ _).heap.size
    simp [World.setCell]; omega
  · rw [Below.heap_setCell _ _ _ _ hn, hg.block g (by have := hb.size; omega) (fun e => hv e.symm), hb.block g hg1]
/-- The last element struck. -/
theorem PathIs.pop {base bp : Nat} {TI TE : TypeId} {g c : Nat} {l : List Nat} {i n : Nat} {w : World} (h : PathIs base bp TI TE (.slice (some ⟨g, 0, none⟩) n c) (l ++ [i]) w) :
    PathIs base bp TI TE (.slice (some ⟨g, 0, none⟩) l.length c) l (w.setCell ⟨bp, 0, none⟩ (.slice (some ⟨g, 0, none⟩) l.length c)) ∧ PStep bp (.slice (some ⟨g, 0, none⟩) n c) (.slice (some ⟨g, 0, none⟩) l.length c) w (w.setCell ⟨bp, 0, none⟩ (.slice (some ⟨g, 0, none⟩) l.length c)) := by
  obtain ⟨h1, h2, h3, h4⟩ := h
  have hg := h2.lt g rfl
  have hl : natCells (l ++ [i]) = natCells l ++ [.int .i64 (i : Int)] := by simp [natCells, intCells, ints]
  have h2' : w.ownsRow base TE 1 (.slice (some ⟨g, 0, none⟩) l.length c) l.length (natCells l) := by
    obtain ⟨e1, e2⟩ := h2
    refine ⟨by rw [nat_len]; omega, ?_⟩
    rcases e2 with ⟨e, _⟩ | ⟨g', cap, cur, hv, hb, hh, hn, hc, hs, ht⟩
    · cases e
    · cases hv
      simp only [List.length_append, List.length_cons, List.length_nil] at hn ht
      refine .inr ⟨g, c, cur, rfl, hb, hh, by omega, hc, hs, ?_⟩
      rw [hl] at ht
      have ht2 : cur.toList.take (l.length * 1) = (cur.toList.take ((l.length + 1) * 1)).take (l.length * 1) := by rw [List.take_take]; congr 1; omega
      rw [ht2, show (l.length + 1) * 1 = (l.length + (0 + 1)) * 1 by omega, ht]
      rw [List.take_append_of_le_length (by rw [nat_len]; omega), List.take_of_length_le (by rw [nat_len]; omega)]
  refine ⟨⟨one_setCell h1, ownsRow_setCell_other h2' (fun e => ?_) _, h3, ?_⟩, ⟨rfl, rfl, rfl, ?_, fun g1 hg1 hn hv => ?_, fun _ h => .inl h⟩⟩
  · have e' : some g = some bp := e
    cases e'
    omega
  · show base ≤ (w.setCell _ _).heap.size
    simp [World.setCell]; omega
  · show w.heap.size ≤ (w.setCell _ _).heap.size
    simp [World.setCell]
  · exact Below.heap_setCell _ _ _ _ hn
/-- A block that a step leaves alone. -/
def Live (bp : Nat) (v : Value) (w : World) (x : Nat) (o : Obj) : Prop := x ≠ bp ∧ v.ownBlock ≠ some x ∧ w.heap[x]? = some o
theorem Live.step {bp : Nat} {v v' : Value} {w w' : World} {x : Nat} {o : Obj} (h : Live bp v w x o) (hs : PStep bp v v' w w') : Live bp v' w' x o := by
  obtain ⟨h1, h2, h3⟩ := h
  have hx := lt_of_block h3
  refine ⟨h1, fun e => ?_, (hs.block x hx h1 h2).trans h3⟩
  rcases hs.own x e with e1 | e1
  · exact h2 e1
  · omega
theorem Live.fresh {base bp : Nat} {TI TE : TypeId} {v : Value} {l : List Nat} {w w' : World} {x : Nat} {o : Obj} (h : PathIs base bp TI TE v l w) (hx : w.heap.size ≤ x) (ho : w'.heap[x]? = some o) : Live bp v w' x o := by
  have hb := lt_of_block h.1
  refine ⟨by omega, fun e => ?_, ho⟩
  have := h.own x e
  omega
end Go.Proofs.YtjjohllfidmkjaaDoor.Pf
