/- Walks: the least box round points. Conditions: the points lie in memory; at most a million. -/
import Derived.Test.YtnmmhcchpcbeeaaGreatGeC
import Derived.Test.YtnmmhcchpcbeeaaGreatRowK
import Derived.Lib.Builder
import Derived.Laws.Rows
import Derived.BigRegion
import Derived.WalkSpells
import Derived.WalkSmall
import Derived.Deep.RegionWith
import Derived.BigQuiet
import Derived.Deep.QuietTactic
import Derived.Laws.Concat
import Derived.Laws.StructEq
import Derived.Lib.Slices
import Derived.Lib.Walk
import Derived.Lib.AppendStr
import Derived.Shelf.Abstract

namespace Go.Proofs.YtnmmhcchpcbeeaaGreat.Ge
structure Bx where
  lx : Int
  ly : Int
  hx : Int
  hy : Int
def bstep (b : Bx) (q : Int × Int) : Bx := ⟨min b.lx q.1, min b.ly q.2, max b.hx q.1, max b.hy q.2⟩
def box : List (Int × Int) → Bx
  | [] => ⟨0, 0, 0, 0⟩
  | q :: r => (q :: r).foldl bstep ⟨q.1, q.2, q.1, q.2⟩
end Go.Proofs.YtnmmhcchpcbeeaaGreat.Ge
namespace Go.Proofs.YtnmmhcchpcbeeaaGreat.GeW
open Go Go.RowKit Go.Proofs.YtnmmhcchpcbeeaaGreat.Mem
theorem take_snoc' {α : Type} (l : List α) (k : Nat) (h : k < l.length) : l.take (k + 1) = l.take k ++ [l[k]] := List.take_succ_eq_append_getElem h

def ptCells (q : Int × Int) : List Value := [.int .i64 q.1, .int .i64 q.2]
theorem pt_len (q : Int × Int) : (ptCells q).length = 2 := rfl
def boxV (b : Ge.Bx) : Value := .agg #[.int .i64 b.lx, .int .i64 b.ly, .int .i64 b.hx, .int .i64 b.hy]
def boxCells (b : Ge.Bx) : Array Value := #[.int .i64 b.lx, .int .i64 b.ly, .int .i64 b.hx, .int .i64 b.hy]
theorem block_lt' {w : World} {b : Nat} {o : Obj} (h : w.heap[b]? = some o) : b < w.heap.size := by
  rcases Nat.lt_or_ge b w.heap.size with hlt | hge
  · exact hlt
  · rw [Array.getElem?_eq_none hge] at h; cases h
/-- A store into a block that is known whole. -/
theorem block_set {w : World} {b : Nat} {cs : Array Value} {T : TypeId} {fr : Nat × Nat} (h : w.heap[b]? = some (.cells cs T fr)) (j : Nat) (v : Value) : (w.setCell ⟨b, j, none⟩ v).heap[b]? = some (.cells (cs.setIfInBounds j v) T fr) := by
  simp [World.setCell, Array.getElem?_modify, h]
theorem block_other {b : Nat} (w : World) (c j : Nat) (v : Value) (h : b ≠ c) : (w.setCell ⟨c, j, none⟩ v).heap[b]? = w.heap[b]? := Below.heap_setCell _ _ _ _ (fun e => h e)
theorem block_old {w : World} {b : Nat} {o o' : Obj} (h : w.heap[b]? = some o) : (w.alloc o').heap[b]? = some o := by
  rw [← h]; exact Below.heap_alloc _ _ _ (block_lt' h)
theorem heap_alloc_new2 (w : World) (o : Obj) {b : Nat} (h : b = w.heap.size) : (w.alloc o).heap[b]? = some o := by subst h; exact heap_alloc_new w o
theorem box_next (l : List (Int × Int)) (k : Nat) (h : k < l.length) (b : Ge.Bx) : (l.take (k + 1)).foldl Ge.bstep b = Ge.bstep ((l.take k).foldl Ge.bstep b) l[k] := by
  rw [take_snoc' l k h, List.foldl_append]; rfl
theorem block_lt {w : World} {b : Nat} {o : Obj} (h : w.heap[b]? = some o) : b < w.heap.size := by
  rcases Nat.lt_or_ge b w.heap.size with hlt | hge
  · exact hlt
  · rw [Array.getElem?_eq_none hge] at h; cases h

theorem boxOf_nil (w : World) (A : Option Addr) (c : Nat) : Calls Tryz.prog 212 #[.slice A 0 c] w fun e w' => e = .returned (.tuple #[boxV ⟨0, 0, 0, 0⟩, .bool false]) ∧ Below w.heap.size w w' := by
  go_enter Tryz.func212, Tryz.ntmps212
  go_wp2
  exact bodyPost_ret (v := .tuple #[boxV ⟨0, 0, 0, 0⟩, .bool false]) (by simp [results, Tryz.results212, go_sem, boxV]) rfl ⟨rfl, (Below.refl _ _).alloc (Nat.le_refl _) _⟩

set_option maxRecDepth 100000 in
set_option maxHeartbeats 2000000 in
theorem boxOf_any (l : List (Int × Int)) (A : Option Addr) (c : Nat) (w : World) (hr : Row w A (l.flatMap ptCells)) (hl : l.length ≤ 1000000) (h0 : 0 < l.length) :
    Calls Tryz.prog 212 #[.slice A l.length c] w fun e w' => e = .returned (.tuple #[boxV (Ge.box l), .bool true]) ∧ Below w.heap.size w w' := by
  obtain ⟨g, off, rfl, hg, ca⟩ := row_get pt_len (by decide) hr h0
  have a0 := ca 0 h0 0 (by decide)
  have a1 := ca 0 h0 1 (by decide)
  have CA := Lib.hid ca
  have hne : ((l.length : Int) == 0) = false := beq_eq_false_iff_ne.2 (by omega)
  have hzl : (0 : Int) < (l.length : Int) := by omega
  clear ca hr
  generalize hq : l[0] = q at *
  obtain ⟨qx, qy⟩ := q
  simp only [ptCells, List.getElem?_cons_zero, List.getElem?_cons_succ, Nat.add_zero, Nat.zero_mul] at a0 a1
  have HQ := Lib.hid hq
  clear hq
  go_enter Tryz.func212, Tryz.ntmps212
  go_wp2
  go_region
  have hst : Hid (∀ h : 0 < l.length, Ge.box l = l.foldl Ge.bstep ⟨qx, qy, qx, qy⟩) := Lib.hid (by
    intro h
    cases l with
    | nil => simp at h
    | cons a r =>
      have := HQ.out
      simp only [List.getElem_cons_zero] at this
      subst this; rfl)
  go_wp2
  go_loopw [19] (fun t wr => ∃ k : Nat, k ≤ l.length ∧ t = .int .i64 k ∧ wr.heap[w.heap.size]? = some (.cells #[.int .i64 0, .int .i64 0, .int .i64 0, .int .i64 0] 206 (0, 0)) ∧ (∃ b : Ge.Bx, Hid (b = (l.take k).foldl Ge.bstep ⟨qx, qy, qx, qy⟩) ∧ wr.heap[w.heap.size + 1]? = some (.cells (boxCells b) 206 (0, 0))) ∧ Below w.heap.size w wr) (fun t _ => l.length - (intOf t).toNat)
  case atStart => exact ⟨0, Nat.zero_le _, rfl, block_old (heap_alloc_new w _), ⟨⟨qx, qy, qx, qy⟩, Lib.hid rfl, heap_alloc_new2 _ _ (by simp)⟩, below_drew (((Below.refl _ _).alloc (Nat.le_refl _) _).alloc (by simp) _)⟩
  case round =>
    obtain ⟨k, hk, rfl, hR, ⟨b, hd, hb⟩, hbel⟩ := hrel
    by_cases hlt : k < l.length
    · have e0 := CA.out k hlt 0 (by decide)
      have e1 := CA.out k hlt 1 (by decide)
      have hnx := Lib.hid (box_next l k hlt ⟨qx, qy, qx, qy⟩)
      have hgz := Nat.lt_of_lt_of_le hg hbel.size
      have hbz := block_lt hb
      have hgne : g ≠ w.heap.size + 1 := by omega
      have hk1 : (0 : Int) ≤ (k : Int) := by omega
      have hk2 : (k : Int) < (l.length : Int) := by omega
      generalize l[k] = r at *
      obtain ⟨rx, ry⟩ := r
      obtain ⟨lx, ly, hx, hy⟩ := b
      simp only [ptCells, List.getElem?_cons_zero, List.getElem?_cons_succ, Nat.add_zero] at e0 e1
      have HE0 := Lib.hid e0
      have HE1 := Lib.hid e1
      have d0 := (hbel.cell (p := ⟨g, _, none⟩) hg).trans e0
      have d1 := (hbel.cell (p := ⟨g, _, none⟩) hg).trans e1
      clear e0 e1
      have HB := Lib.hid hb
      have HR0 := Lib.hid hR
      have HBE := Lib.hid hbel
      have c0 : wr.cell? ⟨w.heap.size + 1, 0, none⟩ = some (.int .i64 lx) := by rw [Lib.cell_of_heap hb]; rfl
      have c1 : wr.cell? ⟨w.heap.size + 1, 1, none⟩ = some (.int .i64 ly) := by rw [Lib.cell_of_heap hb]; rfl
      have f0 : wr.frozen? ⟨w.heap.size + 1, 0, none⟩ = false := Lib.frozen_of_heap hb 0
      have f1 : wr.frozen? ⟨w.heap.size + 1, 1, none⟩ = false := Lib.frozen_of_heap hb 1
      clear hb hR hbel
      go_wp2
      go_region
      as_aux_lemma =>
        have hb1 := block_set (block_set HB.out 0 (.int .i64 (min lx rx))) 1 (.int .i64 (min ly ry))
        have hR1 := (block_other (b := w.heap.size) ((wr.setCell ⟨w.heap.size + 1, 0, none⟩ (.int .i64 (min lx rx)))) (w.heap.size + 1) 1 (.int .i64 (min ly ry)) (by omega)).trans ((block_other wr (w.heap.size + 1) 0 (.int .i64 (min lx rx)) (by omega)).trans HR0.out)
        have hbel1 := ((HBE.out.setCell (p := ⟨w.heap.size + 1, 0, none⟩) (by simp) (.int .i64 (min lx rx))).setCell (p := ⟨w.heap.size + 1, 1, none⟩) (by simp) (.int .i64 (min ly ry)))
        have hb1' := below_drew hbel1
        have hb1d : ((wr.setCell ⟨w.heap.size + 1, 0, none⟩ (.int .i64 (min lx rx))).setCell ⟨w.heap.size + 1, 1, none⟩ (.int .i64 (min ly ry))).drew.heap[w.heap.size + 1]? = some (.cells #[.int .i64 (min lx rx), .int .i64 (min ly ry), .int .i64 hx, .int .i64 hy] 206 (0, 0)) := hb1
        have hR1d : ((wr.setCell ⟨w.heap.size + 1, 0, none⟩ (.int .i64 (min lx rx))).setCell ⟨w.heap.size + 1, 1, none⟩ (.int .i64 (min ly ry))).drew.heap[w.heap.size]? = some (.cells #[.int .i64 0, .int .i64 0, .int .i64 0, .int .i64 0] 206 (0, 0)) := hR1
        clear hb1 hR1 hbel1
        generalize ((wr.setCell ⟨w.heap.size + 1, 0, none⟩ (.int .i64 (min lx rx))).setCell ⟨w.heap.size + 1, 1, none⟩ (.int .i64 (min ly ry))).drew = W1 at *
        have hb1 := hb1d
        have hR1 := hR1d
        have hbel1 := hb1'
        clear hb1d hR1d
        have e2 := (hbel1.cell (p := ⟨g, _, none⟩) hg).trans HE0.out
        have e3 := (hbel1.cell (p := ⟨g, _, none⟩) hg).trans HE1.out
        have hgz1 := Nat.lt_of_lt_of_le hg hbel1.size
        have hbz1 := block_lt hb1
        have c2 : W1.cell? ⟨w.heap.size + 1, 2, none⟩ = some (.int .i64 hx) := by rw [Lib.cell_of_heap hb1]; rfl
        have c3 : W1.cell? ⟨w.heap.size + 1, 3, none⟩ = some (.int .i64 hy) := by rw [Lib.cell_of_heap hb1]; rfl
        have f2 : W1.frozen? ⟨w.heap.size + 1, 2, none⟩ = false := Lib.frozen_of_heap hb1 2
        have f3 : W1.frozen? ⟨w.heap.size + 1, 3, none⟩ = false := Lib.frozen_of_heap hb1 3
        have HB1 := Lib.hid hb1
        have HR1 := Lib.hid hR1
        have HBE1 := Lib.hid hbel1
        clear hb1 hR1 hbel1 hb1' c0 c1 f0 f1 d0 d1
        go_wp2
        go_region
        as_aux_lemma =>
          have hb2 := block_set (block_set HB1.out 2 (.int .i64 (max hx rx))) 3 (.int .i64 (max hy ry))
          have hR2 := (block_other (b := w.heap.size) ((W1.setCell ⟨w.heap.size + 1, 2, none⟩ (.int .i64 (max hx rx)))) (w.heap.size + 1) 3 (.int .i64 (max hy ry)) (by omega)).trans ((block_other W1 (w.heap.size + 1) 2 (.int .i64 (max hx rx)) (by omega)).trans HR1.out)
          have hbel2 := ((HBE1.out.setCell (p := ⟨w.heap.size + 1, 2, none⟩) (by simp) (.int .i64 (max hx rx))).setCell (p := ⟨w.heap.size + 1, 3, none⟩) (by simp) (.int .i64 (max hy ry)))
          generalize ((W1.setCell ⟨w.heap.size + 1, 2, none⟩ (.int .i64 (max hx rx))).setCell ⟨w.heap.size + 1, 3, none⟩ (.int .i64 (max hy ry))) = W2 at *
          have HB2 := Lib.hid hb2
          have HR2 := Lib.hid hR2
          have HBE2 := Lib.hid (below_drew hbel2)
          clear hb2 hR2 hbel2 c2 c3 f2 f3 e2 e3
          go_wp2
          go_roundw
          case rel => exact ⟨k + 1, by omega, by go_num, HR2.out, ⟨⟨min lx rx, min ly ry, max hx rx, max hy ry⟩, Lib.hid (by rw [hnx.out, ← hd.out]; rfl), HB2.out⟩, HBE2.out⟩
          case measure => simp [intOf]; omega
    · obtain rfl : k = l.length := by omega
      have hfin : Hid (Ge.box l = b) := Lib.hid (by rw [hst.out h0, hd.out, List.take_length])
      obtain ⟨lx, ly, hx, hy⟩ := b
      have c0 : wr.cell? ⟨w.heap.size + 1, 0, none⟩ = some (.int .i64 lx) := by rw [Lib.cell_of_heap hb]; rfl
      have c1 : wr.cell? ⟨w.heap.size + 1, 1, none⟩ = some (.int .i64 ly) := by rw [Lib.cell_of_heap hb]; rfl
      have c2 : wr.cell? ⟨w.heap.size + 1, 2, none⟩ = some (.int .i64 hx) := by rw [Lib.cell_of_heap hb]; rfl
      have c3 : wr.cell? ⟨w.heap.size + 1, 3, none⟩ = some (.int .i64 hy) := by rw [Lib.cell_of_heap hb]; rfl
      have r0 : wr.cell? ⟨w.heap.size, 0, none⟩ = some (.int .i64 0) := by rw [Lib.cell_of_heap hR]; rfl
      have r1 : wr.cell? ⟨w.heap.size, 1, none⟩ = some (.int .i64 0) := by rw [Lib.cell_of_heap hR]; rfl
      have r2 : wr.cell? ⟨w.heap.size, 2, none⟩ = some (.int .i64 0) := by rw [Lib.cell_of_heap hR]; rfl
      have r3 : wr.cell? ⟨w.heap.size, 3, none⟩ = some (.int .i64 0) := by rw [Lib.cell_of_heap hR]; rfl
      have f0 : wr.frozen? ⟨w.heap.size, 0, none⟩ = false := Lib.frozen_of_heap hR 0
      have f1 : wr.frozen? ⟨w.heap.size, 1, none⟩ = false := Lib.frozen_of_heap hR 1
      have f2 : wr.frozen? ⟨w.heap.size, 2, none⟩ = false := Lib.frozen_of_heap hR 2
      have f3 : wr.frozen? ⟨w.heap.size, 3, none⟩ = false := Lib.frozen_of_heap hR 3
      have hrz := block_lt hR
      have HBE := Lib.hid hbel
      have HRR := Lib.hid hR
      clear hb hR hbel
      go_wp2
      have hb4 := ((((HBE.out.setCell (p := ⟨w.heap.size, 0, none⟩) (Nat.le_refl _) (.int .i64 lx)).setCell (p := ⟨w.heap.size, 1, none⟩) (Nat.le_refl _) (.int .i64 ly)).setCell (p := ⟨w.heap.size, 2, none⟩) (Nat.le_refl _) (.int .i64 hx)).setCell (p := ⟨w.heap.size, 3, none⟩) (Nat.le_refl _) (.int .i64 hy))
      have hr4 := block_set (block_set (block_set (block_set HRR.out 0 (.int .i64 lx)) 1 (.int .i64 ly)) 2 (.int .i64 hx)) 3 (.int .i64 hy)
      generalize ((((wr.setCell ⟨w.heap.size, 0, none⟩ (.int .i64 lx)).setCell ⟨w.heap.size, 1, none⟩ (.int .i64 ly)).setCell ⟨w.heap.size, 2, none⟩ (.int .i64 hx)).setCell ⟨w.heap.size, 3, none⟩ (.int .i64 hy)) = W4 at *
      have s0 : W4.cell? ⟨w.heap.size, 0, none⟩ = some (.int .i64 lx) := by rw [Lib.cell_of_heap hr4]; rfl
      have s1 : W4.cell? ⟨w.heap.size, 1, none⟩ = some (.int .i64 ly) := by rw [Lib.cell_of_heap hr4]; rfl
      have s2 : W4.cell? ⟨w.heap.size, 2, none⟩ = some (.int .i64 hx) := by rw [Lib.cell_of_heap hr4]; rfl
      have s3 : W4.cell? ⟨w.heap.size, 3, none⟩ = some (.int .i64 hy) := by rw [Lib.cell_of_heap hr4]; rfl
      rw [hfin.out]
      exact bodyPost_ret (v := .tuple #[.agg #[.int .i64 lx, .int .i64 ly, .int .i64 hx, .int .i64 hy], .bool true]) (by simp [results, Tryz.results212, go_sem, s0, s1, s2, s3]) rfl ⟨rfl, hb4⟩
end Go.Proofs.YtnmmhcchpcbeeaaGreat.GeW
