/- What a world keeps behind calls that only make memory: rows, blocks. No function is in sight. Conditions: none. -/
import Derived.Test.YteldekkodhfkkaaGreatDoorMem
namespace Go.Proofs.YteldekkodhfkkaaGreatDoor.Mem
open Go Go.RowKit

/-- Since w0 nothing old has turned; the rows and the blocks lie as listed. -/
structure Kept (w0 : World) (rows : List (Option Addr × List Value)) (blks : List (Nat × Obj)) (W : World) : Prop where
  bel : Below w0.heap.size w0 W
  row : ∀ (i : Nat) r, rows[i]? = some r → Row W r.1 r.2
  blk : ∀ (i : Nat) b, blks[i]? = some b → W.heap[b.1]? = some b.2
theorem heap_lt {w : World} {b : Nat} {o : Obj} (h : w.heap[b]? = some o) : b < w.heap.size := by
  rcases Nat.lt_or_ge b w.heap.size with hlt | hge
  · exact hlt
  · rw [Array.getElem?_eq_none hge] at h; cases h
theorem Kept.start (w0 : World) : Kept w0 [] [] w0 := ⟨Below.refl _ _, fun i r h => by simp at h, fun i b h => by simp at h⟩
theorem Kept.below {w0 W W' : World} {rows : List (Option Addr × List Value)} {blks : List (Nat × Obj)} (h : Kept w0 rows blks W) (hb : Below W.heap.size W W') : Kept w0 rows blks W' :=
  ⟨h.bel.trans (hb.mono h.bel.size), fun i r hi => (h.row i r hi).below hb, fun i b hi => (hb.block _ (heap_lt (h.blk i b hi))).trans (h.blk i b hi)⟩
theorem Kept.add {w0 W : World} {rows : List (Option Addr × List Value)} {blks : List (Nat × Obj)} {A : Option Addr} {xs : List Value} (h : Kept w0 rows blks W) (hr : Row W A xs) : Kept w0 (rows ++ [(A, xs)]) blks W :=
  ⟨h.bel, fun i r hi => by
    rcases Nat.lt_or_ge i rows.length with hlt | hge
    · rw [List.getElem?_append_left hlt] at hi; exact h.row i r hi
    · rw [List.getElem?_append_right hge] at hi
      match i - rows.length, hi with
      | 0, hi => simp at hi; subst hi; exact hr
      | _ + 1, hi => simp at hi, h.blk⟩
theorem Kept.addB {w0 W : World} {rows : List (Option Addr × List Value)} {blks : List (Nat × Obj)} {k : Nat} {o : Obj} (h : Kept w0 rows blks W) (hr : W.heap[k]? = some o) : Kept w0 rows (blks ++ [(k, o)]) W :=
  ⟨h.bel, h.row, fun i r hi => by
    rcases Nat.lt_or_ge i blks.length with hlt | hge
    · rw [List.getElem?_append_left hlt] at hi; exact h.blk i r hi
    · rw [List.getElem?_append_right hge] at hi
      match i - blks.length, hi with
      | 0, hi => simp at hi; subst hi; exact hr
      | _ + 1, hi => simp at hi⟩
theorem Kept.r {w0 W : World} {rows : List (Option Addr × List Value)} {blks : List (Nat × Obj)} {A : Option Addr} {xs : List Value} (h : Kept w0 rows blks W) (i : Nat) (hi : rows[i]? = some (A, xs)) : Row W A xs := h.row i _ hi
theorem Kept.b {w0 W : World} {rows : List (Option Addr × List Value)} {blks : List (Nat × Obj)} {k : Nat} {o : Obj} (h : Kept w0 rows blks W) (i : Nat) (hi : blks[i]? = some (k, o)) : W.heap[k]? = some o := h.blk i _ hi
end Go.Proofs.YteldekkodhfkkaaGreatDoor.Mem
