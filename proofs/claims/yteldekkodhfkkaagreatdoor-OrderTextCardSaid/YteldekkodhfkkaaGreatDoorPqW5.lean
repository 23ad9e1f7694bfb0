/- What the parser's run keeps: the parser's block, the tokens, the items so far. Conditions: as stated. -/
import Derived.Test.YteldekkodhfkkaaGreatDoorPqW4
import Derived.Test.YteldekkodhfkkaaGreatDoorOdJ2
import Derived.Laws.OwnMore
namespace Go.Proofs.YteldekkodhfkkaaGreatDoor.PqW
open Go Go.RowKit Go.Proofs.YteldekkodhfkkaaGreatDoor.Mem
open Go.Proofs.YteldekkodhfkkaaGreatDoor.LexW (tokCells toksCells)
open Go.Proofs.YteldekkodhfkkaaGreatDoor.OdW (itCells it_len)

/-- The parser at block b in world W; the items so far are a row of the call's own, beyond b. -/
structure PS (wX : World) (b : Nat) (A : Option Addr) (c : Nat) (ts : List Lex.Tok) (st : Pq.St) (v : Value) (acc : List Od.It) (W : World) : Prop where
  blk : W.heap[b]? = some (pobj A ts.length c st)
  row : Row W A (ts.flatMap tokCells)
  own : W.ownsRow (b + 1) 33 4 v acc.length (acc.flatMap itCells)
  gr : wX.grownBy W (some b)
section
variable {wX W W' : World} {b c : Nat} {A : Option Addr} {ts : List Lex.Tok} {st st' : Pq.St} {v : Value} {acc : List Od.It}
theorem row_keep {xs : List Value} (h : Row W A xs) (hg : W.grownBy W' (some b)) (hA : Apart A b) : Row W' A xs := fun hne => by
  obtain ⟨g, off, e, h1, h2⟩ := h hne
  refine ⟨g, off, e, Nat.lt_of_lt_of_le h1 hg.size, fun j hj => ?_⟩
  rw [← h2 j hj]
  exact World.cell?_of_block (hg.block g h1 (fun e2 => hA g off e (by injection e2)))
theorem PS.far (h : PS wX b A c ts st v acc W) : v.ownBlock ≠ some b := fun e => by
  have := own_block h.own b e
  omega
theorem PS.newer (h : PS wX b A c ts st v acc W) : v.ownBlock ≠ some W.heap.size := fun e => by
  have := (h.own.lt _ e).2
  omega
/-- A method of the parser has been called. -/
theorem PS.step (h : PS wX b A c ts st v acc W) (hA : Apart A b) (h1 : W'.heap[b]? = some (pobj A ts.length c st')) (h2 : W.grownBy W' (some b)) : PS wX b A c ts st' v acc W' :=
  ⟨h1, row_keep h.row h2 hA, h.own.kept h2 (.inr h.far), h.gr.trans h2⟩
theorem PS.alloc (h : PS wX b A c ts st v acc W) (o : Obj) : PS wX b A c ts st v acc (W.alloc o) :=
  ⟨block_old h.blk, row_box h.row o, h.own.alloc o, grown_alloc h.gr o⟩
theorem PS.drewN (h : PS wX b A c ts st v acc W) (n : Nat) : PS wX b A c ts st v acc (W.drewN n) :=
  ⟨h.blk, h.row.below (below_drewN (Below.refl _ _) n), own_below h.own (below_drewN (Below.refl _ _) n), grown_drewN h.gr n⟩
theorem PS.size (h : PS wX b A c ts st v acc W) : b < W.heap.size := heap_lt h.blk
/-- A store into a block of the call's own that is neither the parser's nor the items'. -/
theorem PS.store (h : PS wX b A c ts st v acc W) {k : Nat} (hk : wX.heap.size ≤ k) (hb : b < k) (hv : v.ownBlock ≠ some k) (hA : Apart A k) (j : Nat) (u : Value) : PS wX b A c ts st v acc (W.setCell ⟨k, j, none⟩ u) := by
  have hg : W.grownBy (W.setCell ⟨k, j, none⟩ u) (some k) := ⟨rfl, rfl, rfl, by simp, fun i _ hne => block_other _ _ _ _ (fun e => hne (by rw [e]))⟩
  exact ⟨(block_other _ _ _ _ (by omega)).trans h.blk, row_keep h.row hg hA, h.own.kept hg (.inr hv), grown_new h.gr hk j u⟩
/-- An item has been put to the others. -/
theorem PS.put (h : PS wX b A c ts st v acc W) (hX : wX.heap.size ≤ b + 1) (hA : ∀ g off, A = some ⟨g, off, none⟩ → g < b) {v' : Value} {x : Od.It} (hg : W.grownBy W' v.ownBlock) (ho : W'.ownsRow (b + 1) 33 4 v' (acc.length + 1) (acc.flatMap itCells ++ itCells x)) : PS wX b A c ts st v' (acc ++ [x]) W' := by
  have hw : ∀ k, v.ownBlock = some k → b + 1 ≤ k := own_block h.own
  refine ⟨?_, ?_, by rw [flatMap_snoc, List.length_append]; exact ho, ?_⟩
  · rw [hg.block b h.size (fun e => h.far e.symm)]
    exact h.blk
  · intro hne
    obtain ⟨g, off, e, h1, h2⟩ := h.row hne
    have hgb := hA g off e
    refine ⟨g, off, e, Nat.lt_of_lt_of_le h1 hg.size, fun j hj => ?_⟩
    rw [← h2 j hj]
    exact World.cell?_of_block (hg.block g h1 (fun e2 => by have := hw g e2.symm; omega))
  · exact ⟨hg.os.trans h.gr.os, hg.tape.trans h.gr.tape, hg.output.trans h.gr.output, Nat.le_trans h.gr.size hg.size, fun i hi hne => by
      rw [hg.block i (Nat.lt_of_lt_of_le hi h.gr.size) (fun e => by have := hw i e.symm; omega)]
      exact h.gr.block i hi hne⟩
theorem PS.start {w1 : World} {n : Nat} (hn : n = ts.length) (hr : Row w1 A (ts.flatMap tokCells)) : PS (w1.alloc (pobj A n c ⟨0, 0⟩)) w1.heap.size A c ts ⟨0, 0⟩ (.slice none 0 0) [] (w1.alloc (pobj A n c ⟨0, 0⟩)) := by
  subst hn
  exact ⟨heap_alloc_new _ _, row_box hr _, World.ownsRow_nil _ _ _ _, World.grownBy.refl _ _⟩
theorem apart_of {w1 : World} {xs : List Value} (h : Row w1 A xs) (hne : xs ≠ []) : (∀ g off, A = some ⟨g, off, none⟩ → g < w1.heap.size) := fun g off e => by
  obtain ⟨g', off', e', h1, _⟩ := h hne
  rw [e] at e'
  cases e'
  exact h1
end
end Go.Proofs.YteldekkodhfkkaaGreatDoor.PqW
