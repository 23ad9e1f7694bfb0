/- Walks: the scanner of drawings passes a code, a number, a point; a check. Conditions: the scanner and its lines lie in memory, apart; the library's variables hold what a start lays. -/
import Derived.Test.YtnmmhcchpcbeeaaGreatDoorGtR
import Derived.Test.YtnmmhcchpcbeeaaGreatDoorMem2
import Derived.Deep.QuietTactic
import Derived.StillTailTactics
import Derived.Shelf.Abstract
import Derived.Test.YtnmmhcchpcbeeaaGreatDoorShelf
import Derived.Test.YtnmmhcchpcbeeaaGreatDoorOdLex
import Derived.Lib.LaidTab
import Derived.Lib.AtoiErrMem
import Derived.Laws.Concat
import Derived.WalkSpells
import Derived.Deep.RegionHeld3
import Derived.Deep.DrawnRows
import Derived.BigQuiet
import Derived.Shelf.Vars
import Derived.WalkSmall

namespace Go.Proofs.YtnmmhcchpcbeeaaGreatDoor.GtW
open Go Go.RowKit Go.Proofs.YtnmmhcchpcbeeaaGreatDoor.Mem Go.Proofs.YtnmmhcchpcbeeaaGreatDoor.Gt

theorem block_set {w : World} {b : Nat} {cs : Array Value} {T : TypeId} {fr : Nat × Nat} (h : w.heap[b]? = some (.cells cs T fr)) (j : Nat) (v : Value) : (w.setCell ⟨b, j, none⟩ v).heap[b]? = some (.cells (cs.setIfInBounds j v) T fr) := by
 simp [World.setCell, Array.getElem?_modify, h]
theorem block_other {b : Nat} (w : World) (c j : Nat) (v : Value) (h : b ≠ c) : (w.setCell ⟨c, j, none⟩ v).heap[b]? = w.heap[b]? := Below.heap_setCell _ _ _ _ (fun e => h e)
theorem cell_of {w : World} {b : Nat} {cs : Array Value} {T : TypeId} (h : w.heap[b]? = some (.cells cs T (0, 0))) (j : Nat) (v : Value) (hj : cs[j]? = some v) : w.cell? ⟨b, j, none⟩ = some v := by
 simp [World.cell?, h, hj]
theorem free_of {w : World} {b : Nat} {cs : Array Value} {T : TypeId} (h : w.heap[b]? = some (.cells cs T (0, 0))) (j : Nat) : w.frozen? ⟨b, j, none⟩ = false := by
 simp [World.frozen?, h]
theorem blk_lt {w : World} {b : Nat} {o : Obj} (h : w.heap[b]? = some o) : b < w.heap.size := by
 rcases Nat.lt_or_ge b w.heap.size with h2 | h2
 ·exact h2
 ·rw [Array.getElem?_eq_none h2] at h; cases h
theorem grown_set {w w' : World} {b : Nat} (h : w.grownBy w' (some b)) (j : Nat) (v : Value) : w.grownBy (w'.setCell ⟨b, j, none⟩ v) (some b) :=
 ⟨h.os, h.tape, h.output, by simpa using h.size, fun i hi hne => by rw [block_other _ _ _ _ (fun e => hne (by rw [e]))]; exact h.block i hi hne⟩
theorem grown_drewN {w w' : World} {row : Option Nat} (h : w.grownBy w' row) (n : Nat) : w.grownBy (w'.drewN n) row := ⟨h.os, h.tape, h.output, h.size, h.block⟩
theorem grown_below {w w' w2 : World} {row : Option Nat} (h : w.grownBy w' row) (hb : Below w'.heap.size w' w2) : w.grownBy w2 row :=
 ⟨hb.os.trans h.os, hb.tape.trans h.tape, hb.output.trans h.output, Nat.le_trans h.size hb.size, fun i hi hne => by rw [hb.block i (Nat.lt_of_lt_of_le hi h.size)]; exact h.block i hi hne⟩
theorem grown_refl (w : World) (row : Option Nat) : w.grownBy w row := ⟨rfl, rfl, rfl, Nat.le_refl _, fun _ _ _ => rfl⟩
theorem p_below {w w' : World} {b : Nat} {o : Obj} (h : w.heap[b]? = some o) (hb : Below w.heap.size w w') : w'.heap[b]? = some o := (hb.block b (blk_lt h)).trans h

/-- The scanner as an object. -/
def sobj (A : Option Addr) (n c : Nat) (s : Gt.S) : Obj := .cells #[.slice A n c, .int .i64 (s.i : Int), .bool s.bad] 61 (0, 0)
def strV (x : List UInt8) : Value := .string ⟨x.toArray⟩
def Apart (A : Option Addr) (b : Nat) : Prop := ∀ g off, A = some ⟨g, off, none⟩ → g ≠ b
theorem scell {w : World} {b : Nat} {A : Option Addr} {n c : Nat} {s : Gt.S} (h : w.heap[b]? = some (sobj A n c s)) : w.cell? ⟨b, 0, none⟩ = some (.slice A n c) ∧ w.cell? ⟨b, 1, none⟩ = some (.int .i64 (s.i : Int)) ∧ w.cell? ⟨b, 2, none⟩ = some (.bool s.bad) ∧ ∀ j, w.frozen? ⟨b, j, none⟩ = false :=
 ⟨cell_of h 0 _ rfl, cell_of h 1 _ rfl, cell_of h 2 _ rfl, fun j => free_of h j⟩
theorem sset_bad {w : World} {b : Nat} {A : Option Addr} {n c : Nat} {s : Gt.S} (h : w.heap[b]? = some (sobj A n c s)) : (w.setCell ⟨b, 2, none⟩ (.bool true)).heap[b]? = some (sobj A n c ⟨s.i, true⟩) := block_set h 2 _
theorem sset_i {w : World} {b : Nat} {A : Option Addr} {n c : Nat} {s : Gt.S} (h : w.heap[b]? = some (sobj A n c s)) (i : Nat) : (w.setCell ⟨b, 1, none⟩ (.int .i64 (i : Int))).heap[b]? = some (sobj A n c ⟨i, s.bad⟩) := block_set h 1 _
theorem wrapEq (x : Int) : IntKind.i64.wrap x = wrap64 x := by
 rw [IntKind.wrap_i64]
 unfold wrap64
 omega
theorem line_get {w : World} {A : Option Addr} {L : List (List UInt8)} (h : Row w A (L.map strV)) {i : Nat} (hi : i < L.length) : ∃ g off, A = some ⟨g, off, none⟩ ∧ g < w.heap.size ∧ w.cell? ⟨g, off + i, none⟩ = some (strV L[i]) := by
 obtain ⟨g, off, e, hg, hc⟩ := h (fun e => by have := congrArg List.length e; rw [List.length_map, List.length_nil] at this; omega)
 exact ⟨g, off, e, hg, (hc i (by simpa using hi)).trans (by simp [List.getElem?_eq_getElem hi])⟩
theorem nx_ways (L : List (List UInt8)) (good : List UInt8 → Bool) (s : Gt.S) : (s.bad = true ∧ nx L good s = ([], s)) ∨ (s.bad = false ∧ L.length ≤ s.i ∧ nx L good s = ([], ⟨s.i, true⟩)) ∨
  (s.bad = false ∧ ∃ h : s.i < L.length, good L[s.i] = false ∧ nx L good s = ([], ⟨s.i, true⟩)) ∨ (s.bad = false ∧ ∃ h : s.i < L.length, good L[s.i] = true ∧ nx L good s = (L[s.i], ⟨s.i + 1, false⟩)) := by
 unfold nx
 cases hb : s.bad with
 | true => exact .inl ⟨rfl, by simp⟩
 | false =>
  right
  by_cases h : s.i < L.length
  ·right
   cases hg : good L[s.i] with
   | false => exact .inl ⟨rfl, h, hg, by simp [List.getElem?_eq_getElem h, hg]⟩
   | true => exact .inr ⟨rfl, h, hg, by simp [List.getElem?_eq_getElem h, hg]⟩
  ·exact .inl ⟨rfl, by omega, by simp [List.getElem?_eq_none (show L.length ≤ s.i by omega)]⟩

set_option maxRecDepth 100000 in
set_option maxHeartbeats 1000000 in
theorem next_0 (g : FuncId) (good : List UInt8 → Bool) (eg : Enters Tryz.prog g) (L : List (List UInt8)) (A : Option Addr) (c b : Nat) (s : Gt.S) (w : World)
  (hg : ∀ (x : List UInt8), x ∈ L → ∀ n, Calls Tryz.prog g #[.string ⟨x.toArray⟩] (w.drewN n) fun e w' => e = .returned (.bool (good x)) ∧ Below w.heap.size (w.drewN n) w')
  (hb : w.heap[b]? = some (sobj A L.length c s)) (hr : Row w A (L.map strV)) (hA : Apart A b) (hn : L.length ≤ 4611686018427387904) :
  Calls Tryz.prog 24 #[.pointer (some ⟨b, 0, none⟩), .func (.func g) #[] #[]] w fun e w' => e = .returned (.string ⟨(nx L good s).1.toArray⟩) ∧ w'.heap[b]? = some (sobj A L.length c (nx L good s).2) ∧ w.grownBy w' (some b) := by
 obtain ⟨c0, c1, c2, cf⟩ := scell hb
 have hlt := blk_lt hb
 have f1 := cf 1
 have f2 := cf 2
 clear cf
 obtain ⟨i, er⟩ := s
 simp only at c1 c2
 have HB := Lib.hid hb
 have HRR := Lib.hid hr
 have HG := Lib.hid hg
 have HGR := Lib.hid (grown_refl w (some b))
 clear hb hr hg
 unfold Enters at eg
 rcases nx_ways L good ⟨i, er⟩ with ⟨he, ht⟩ | ⟨he, hi, ht⟩ | ⟨he, hi, hgd, ht⟩ | ⟨he, hi, hgd, ht⟩
 ·rw [ht]
  simp only at he
  subst he
  clear ht
  go_enter Tryz.func24, Tryz.ntmps24
  go_wp2_with fail
  go_quiet (fail)
  go_wp2
  go_ret
  exact ⟨rfl, sset_bad (s := ⟨i, true⟩) HB.out, grown_set (grown_drewN HGR.out _) _ _⟩
 ·rw [ht]
  simp only at he hi
  subst he
  clear ht
  have d1 : decide ((L.length : Int) ≤ (i : Int)) = true := by simp; omega
  go_enter Tryz.func24, Tryz.ntmps24
  go_wp2_with fail
  go_quiet (fail)
  go_wp2
  go_ret
  exact ⟨rfl, sset_bad (s := ⟨i, false⟩) HB.out, grown_set (grown_drewN HGR.out _) _ _⟩
 ·rw [ht]
  simp only at he hi hgd
  subst he
  clear ht
  have d1 : decide ((L.length : Int) ≤ (i : Int)) = false := by simp; omega
  have d2 : decide (L.length ≤ i) = false := by simp; omega
  have hi0 : (0 : Int) ≤ (i : Int) := by omega
  have hi1 : (i : Int) < (L.length : Int) := by omega
  obtain ⟨g2, off, rfl, hg2, t0⟩ := line_get HRR.out hi
  have HG9 := Lib.hid (HG.out L[i] (List.getElem_mem hi) 1)
  rw [hgd] at HG9
  generalize L[i] = x at *
  unfold strV at t0
  generalize (ByteArray.mk x.toArray) = TB at *
  go_enter Tryz.func24, Tryz.ntmps24
  go_wp2_with fail
  refine wp_region_still_tail 28 (by kernel_rfl) (by kernel_rfl) ?_
  simp only [List.take_succ_cons, List.take_zero, List.drop_succ_cons, List.drop_zero]
  iterate 28 still_step
  refine wpStill_nil ?_
  change wpList _ _ _ _ _ (w.drewN 1)
  go_wp2_with fail
  refine HG9.out.mono ?_
  rintro e w2 ⟨rfl, hbel⟩
  have HB2 := Lib.hid (p_below (w := w.drewN 1) HB.out hbel)
  have HG2 := Lib.hid (grown_below (grown_drewN HGR.out 1) hbel)
  obtain ⟨r0, r1, r2, rf⟩ := scell HB2.out
  simp only at r1 r2
  have rf2 := rf 2
  clear c0 c1 c2 f1 f2 hbel rf
  go_wp2
  go_ret
  exact ⟨rfl, sset_bad HB2.out, grown_set HG2.out _ _⟩
 ·rw [ht]
  simp only at he hi hgd
  subst he
  clear ht
  have d1 : decide ((L.length : Int) ≤ (i : Int)) = false := by simp; omega
  have d2 : decide (L.length ≤ i) = false := by simp; omega
  have hi0 : (0 : Int) ≤ (i : Int) := by omega
  have hi1 : (i : Int) < (L.length : Int) := by omega
  obtain ⟨g2, off, rfl, hg2, t0⟩ := line_get HRR.out hi
  have hgb : g2 ≠ b := hA g2 off rfl
  have HG9 := Lib.hid (HG.out L[i] (List.getElem_mem hi) 1)
  rw [hgd] at HG9
  simp only
  generalize L[i] = x at *
  unfold strV at t0
  generalize hXB : (ByteArray.mk x.toArray) = TB at *
  go_enter Tryz.func24, Tryz.ntmps24
  go_wp2_with fail
  refine wp_region_still_tail 28 (by kernel_rfl) (by kernel_rfl) ?_
  simp only [List.take_succ_cons, List.take_zero, List.drop_succ_cons, List.drop_zero]
  iterate 28 still_step
  refine wpStill_nil ?_
  change wpList _ _ _ _ _ (w.drewN 1)
  go_wp2_with fail
  refine HG9.out.mono ?_
  rintro e w2 ⟨rfl, hbel⟩
  have HB2 := Lib.hid (p_below (w := w.drewN 1) HB.out hbel)
  have HG2 := Lib.hid (grown_below (grown_drewN HGR.out 1) hbel)
  obtain ⟨r0, r1, r2, rf⟩ := scell HB2.out
  simp only at r1 r2
  have rf1 := rf 1
  have q0 := (hbel.cell (p := ⟨g2, off + i, none⟩) (by simp; omega)).trans t0
  clear c0 c1 c2 f1 f2 hbel rf
  have x0 : IntKind.i64.wrap ((i : Int) + 1) = (i : Int) + 1 := by rw [wrapEq]; unfold wrap64; omega
  have HB3 : Hid ((w2.setCell ⟨b, 1, none⟩ (.int .i64 ((i : Int) + 1))).heap[b]? = some (sobj (some ⟨g2, off, none⟩) L.length c ⟨i + 1, false⟩)) := Lib.hid (sset_i HB2.out (i + 1))
  have HG3 := Lib.hid (grown_set HG2.out 1 (.int .i64 ((i : Int) + 1)))
  have s0 : (w2.setCell ⟨b, 1, none⟩ (.int .i64 ((i : Int) + 1))).cell? ⟨g2, off + i, none⟩ = some (.string TB) := by rw [World.cell?_of_block (block_other _ _ _ _ hgb)]; exact q0
  clear q0
  have x1 : (i : Int) + 1 ≤ 9223372036854775807 := by omega
  go_wp2_with fail
  obtain ⟨u0, u1, u2, uf⟩ := scell HB3.out
  generalize (w2.setCell ⟨b, 1, none⟩ (.int .i64 ((i : Int) + 1))) = W3 at *
  simp only at u1 u2
  have x2 : IntKind.i64.wrap (i : Int) = (i : Int) := by rw [wrapEq]; unfold wrap64; omega
  have x3 : IntKind.i64.wrap ((i : Int) + 1 - 1) = (i : Int) := by rw [wrapEq]; unfold wrap64; omega
  go_quiet (fail)
  go_wp2
  go_ret
  exact ⟨rfl, HB3.out, grown_drewN HG3.out _⟩

set_option maxRecDepth 100000 in
set_option maxHeartbeats 1000000 in
theorem next_1 (g : FuncId) (good : List UInt8 → Bool) (eg : Enters Tryz.prog g) (b1 : Nat) (L : List (List UInt8)) (A : Option Addr) (c b : Nat) (s : Gt.S) (w : World)
  (hg : ∀ (x : List UInt8), x ∈ L → ∀ n, Calls Tryz.prog g #[.string ⟨x.toArray⟩, .pointer (some ⟨b1, 0, none⟩)] (w.drewN n) fun e w' => e = .returned (.bool (good x)) ∧ Below w.heap.size (w.drewN n) w')
  (hb : w.heap[b]? = some (sobj A L.length c s)) (hr : Row w A (L.map strV)) (hA : Apart A b) (hn : L.length ≤ 4611686018427387904) :
  Calls Tryz.prog 24 #[.pointer (some ⟨b, 0, none⟩), .func (.func g) #[] #[.pointer (some ⟨b1, 0, none⟩)]] w fun e w' => e = .returned (.string ⟨(nx L good s).1.toArray⟩) ∧ w'.heap[b]? = some (sobj A L.length c (nx L good s).2) ∧ w.grownBy w' (some b) := by
 obtain ⟨c0, c1, c2, cf⟩ := scell hb
 have hlt := blk_lt hb
 have f1 := cf 1
 have f2 := cf 2
 clear cf
 obtain ⟨i, er⟩ := s
 simp only at c1 c2
 have HB := Lib.hid hb
 have HRR := Lib.hid hr
 have HG := Lib.hid hg
 have HGR := Lib.hid (grown_refl w (some b))
 clear hb hr hg
 unfold Enters at eg
 rcases nx_ways L good ⟨i, er⟩ with ⟨he, ht⟩ | ⟨he, hi, ht⟩ | ⟨he, hi, hgd, ht⟩ | ⟨he, hi, hgd, ht⟩
 ·rw [ht]
  simp only at he
  subst he
  clear ht
  go_enter Tryz.func24, Tryz.ntmps24
  go_wp2_with fail
  go_quiet (fail)
  go_wp2
  go_ret
  exact ⟨rfl, sset_bad (s := ⟨i, true⟩) HB.out, grown_set (grown_drewN HGR.out _) _ _⟩
 ·rw [ht]
  simp only at he hi
  subst he
  clear ht
  have d1 : decide ((L.length : Int) ≤ (i : Int)) = true := by simp; omega
  go_enter Tryz.func24, Tryz.ntmps24
  go_wp2_with fail
  go_quiet (fail)
  go_wp2
  go_ret
  exact ⟨rfl, sset_bad (s := ⟨i, false⟩) HB.out, grown_set (grown_drewN HGR.out _) _ _⟩
 ·rw [ht]
  simp only at he hi hgd
  subst he
  clear ht
  have d1 : decide ((L.length : Int) ≤ (i : Int)) = false := by simp; omega
  have d2 : decide (L.length ≤ i) = false := by simp; omega
  have hi0 : (0 : Int) ≤ (i : Int) := by omega
  have hi1 : (i : Int) < (L.length : Int) := by omega
  obtain ⟨g2, off, rfl, hg2, t0⟩ := line_get HRR.out hi
  have HG9 := Lib.hid (HG.out L[i] (List.getElem_mem hi) 1)
  rw [hgd] at HG9
  generalize L[i] = x at *
  unfold strV at t0
  generalize (ByteArray.mk x.toArray) = TB at *
  go_enter Tryz.func24, Tryz.ntmps24
  go_wp2_with fail
  refine wp_region_still_tail 28 (by kernel_rfl) (by kernel_rfl) ?_
  simp only [List.take_succ_cons, List.take_zero, List.drop_succ_cons, List.drop_zero]
  iterate 28 still_step
  refine wpStill_nil ?_
  change wpList _ _ _ _ _ (w.drewN 1)
  go_wp2_with fail
  refine HG9.out.mono ?_
  rintro e w2 ⟨rfl, hbel⟩
  have HB2 := Lib.hid (p_below (w := w.drewN 1) HB.out hbel)
  have HG2 := Lib.hid (grown_below (grown_drewN HGR.out 1) hbel)
  obtain ⟨r0, r1, r2, rf⟩ := scell HB2.out
  simp only at r1 r2
  have rf2 := rf 2
  clear c0 c1 c2 f1 f2 hbel rf
  go_wp2
  go_ret
  exact ⟨rfl, sset_bad HB2.out, grown_set HG2.out _ _⟩
 ·rw [ht]
  simp only at he hi hgd
  subst he
  clear ht
  have d1 : decide ((L.length : Int) ≤ (i : Int)) = false := by simp; omega
  have d2 : decide (L.length ≤ i) = false := by simp; omega
  have hi0 : (0 : Int) ≤ (i : Int) := by omega
  have hi1 : (i : Int) < (L.length : Int) := by omega
  obtain ⟨g2, off, rfl, hg2, t0⟩ := line_get HRR.out hi
  have hgb : g2 ≠ b := hA g2 off rfl
  have HG9 := Lib.hid (HG.out L[i] (List.getElem_mem hi) 1)
  rw [hgd] at HG9
  simp only
  generalize L[i] = x at *
  unfold strV at t0
  generalize hXB : (ByteArray.mk x.toArray) = TB at *
  go_enter Tryz.func24, Tryz.ntmps24
  go_wp2_with fail
  refine wp_region_still_tail 28 (by kernel_rfl) (by kernel_rfl) ?_
  simp only [List.take_succ_cons, List.take_zero, List.drop_succ_cons, List.drop_zero]
  iterate 28 still_step
  refine wpStill_nil ?_
  change wpList _ _ _ _ _ (w.drewN 1)
  go_wp2_with fail
  refine HG9.out.mono ?_
  rintro e w2 ⟨rfl, hbel⟩
  have HB2 := Lib.hid (p_below (w := w.drewN 1) HB.out hbel)
  have HG2 := Lib.hid (grown_below (grown_drewN HGR.out 1) hbel)
  obtain ⟨r0, r1, r2, rf⟩ := scell HB2.out
  simp only at r1 r2
  have rf1 := rf 1
  have q0 := (hbel.cell (p := ⟨g2, off + i, none⟩) (by simp; omega)).trans t0
  clear c0 c1 c2 f1 f2 hbel rf
  have x0 : IntKind.i64.wrap ((i : Int) + 1) = (i : Int) + 1 := by rw [wrapEq]; unfold wrap64; omega
  have HB3 : Hid ((w2.setCell ⟨b, 1, none⟩ (.int .i64 ((i : Int) + 1))).heap[b]? = some (sobj (some ⟨g2, off, none⟩) L.length c ⟨i + 1, false⟩)) := Lib.hid (sset_i HB2.out (i + 1))
  have HG3 := Lib.hid (grown_set HG2.out 1 (.int .i64 ((i : Int) + 1)))
  have s0 : (w2.setCell ⟨b, 1, none⟩ (.int .i64 ((i : Int) + 1))).cell? ⟨g2, off + i, none⟩ = some (.string TB) := by rw [World.cell?_of_block (block_other _ _ _ _ hgb)]; exact q0
  clear q0
  have x1 : (i : Int) + 1 ≤ 9223372036854775807 := by omega
  go_wp2_with fail
  obtain ⟨u0, u1, u2, uf⟩ := scell HB3.out
  generalize (w2.setCell ⟨b, 1, none⟩ (.int .i64 ((i : Int) + 1))) = W3 at *
  simp only at u1 u2
  have x2 : IntKind.i64.wrap (i : Int) = (i : Int) := by rw [wrapEq]; unfold wrap64; omega
  have x3 : IntKind.i64.wrap ((i : Int) + 1 - 1) = (i : Int) := by rw [wrapEq]; unfold wrap64; omega
  go_quiet (fail)
  go_wp2
  go_ret
  exact ⟨rfl, HB3.out, grown_drewN HG3.out _⟩

set_option maxRecDepth 100000 in
set_option maxHeartbeats 1000000 in
theorem next_2 (g : FuncId) (good : List UInt8 → Bool) (eg : Enters Tryz.prog g) (b1 : Nat) (b2 : Nat) (L : List (List UInt8)) (A : Option Addr) (c b : Nat) (s : Gt.S) (w : World)
  (hg : ∀ (x : List UInt8), x ∈ L → ∀ n, Calls Tryz.prog g #[.string ⟨x.toArray⟩, .pointer (some ⟨b1, 0, none⟩), .pointer (some ⟨b2, 0, none⟩)] (w.drewN n) fun e w' => e = .returned (.bool (good x)) ∧ Below w.heap.size (w.drewN n) w')
  (hb : w.heap[b]? = some (sobj A L.length c s)) (hr : Row w A (L.map strV)) (hA : Apart A b) (hn : L.length ≤ 4611686018427387904) :
  Calls Tryz.prog 24 #[.pointer (some ⟨b, 0, none⟩), .func (.func g) #[] #[.pointer (some ⟨b1, 0, none⟩), .pointer (some ⟨b2, 0, none⟩)]] w fun e w' => e = .returned (.string ⟨(nx L good s).1.toArray⟩) ∧ w'.heap[b]? = some (sobj A L.length c (nx L good s).2) ∧ w.grownBy w' (some b) := by
 obtain ⟨c0, c1, c2, cf⟩ := scell hb
 have hlt := blk_lt hb
 have f1 := cf 1
 have f2 := cf 2
 clear cf
 obtain ⟨i, er⟩ := s
 simp only at c1 c2
 have HB := Lib.hid hb
 have HRR := Lib.hid hr
 have HG := Lib.hid hg
 have HGR := Lib.hid (grown_refl w (some b))
 clear hb hr hg
 unfold Enters at eg
 rcases nx_ways L good ⟨i, er⟩ with ⟨he, ht⟩ | ⟨he, hi, ht⟩ | ⟨he, hi, hgd, ht⟩ | ⟨he, hi, hgd, ht⟩
 ·rw [ht]
  simp only at he
  subst he
  clear ht
  go_enter Tryz.func24, Tryz.ntmps24
  go_wp2_with fail
  go_quiet (fail)
  go_wp2
  go_ret
  exact ⟨rfl, sset_bad (s := ⟨i, true⟩) HB.out, grown_set (grown_drewN HGR.out _) _ _⟩
 ·rw [ht]
  simp only at he hi
  subst he
  clear ht
  have d1 : decide ((L.length : Int) ≤ (i : Int)) = true := by simp; omega
  go_enter Tryz.func24, Tryz.ntmps24
  go_wp2_with fail
  go_quiet (fail)
  go_wp2
  go_ret
  exact ⟨rfl, sset_bad (s := ⟨i, false⟩) HB.out, grown_set (grown_drewN HGR.out _) _ _⟩
 ·rw [ht]
  simp only at he hi hgd
  subst he
  clear ht
  have d1 : decide ((L.length : Int) ≤ (i : Int)) = false := by simp; omega
  have d2 : decide (L.length ≤ i) = false := by simp; omega
  have hi0 : (0 : Int) ≤ (i : Int) := by omega
  have hi1 : (i : Int) < (L.length : Int) := by omega
  obtain ⟨g2, off, rfl, hg2, t0⟩ := line_get HRR.out hi
  have HG9 := Lib.hid (HG.out L[i] (List.getElem_mem hi) 1)
  rw [hgd] at HG9
  generalize L[i] = x at *
  unfold strV at t0
  generalize (ByteArray.mk x.toArray) = TB at *
  go_enter Tryz.func24, Tryz.ntmps24
  go_wp2_with fail
  refine wp_region_still_tail 28 (by kernel_rfl) (by kernel_rfl) ?_
  simp only [List.take_succ_cons, List.take_zero, List.drop_succ_cons, List.drop_zero]
  iterate 28 still_step
  refine wpStill_nil ?_
  change wpList _ _ _ _ _ (w.drewN 1)
  go_wp2_with fail
  refine HG9.out.mono ?_
  rintro e w2 ⟨rfl, hbel⟩
  have HB2 := Lib.hid (p_below (w := w.drewN 1) HB.out hbel)
  have HG2 := Lib.hid (grown_below (grown_drewN HGR.out 1) hbel)
  obtain ⟨r0, r1, r2, rf⟩ := scell HB2.out
  simp only at r1 r2
  have rf2 := rf 2
  clear c0 c1 c2 f1 f2 hbel rf
  go_wp2
  go_ret
  exact ⟨rfl, sset_bad HB2.out, grown_set HG2.out _ _⟩
 ·rw [ht]
  simp only at he hi hgd
  subst he
  clear ht
  have d1 : decide ((L.length : Int) ≤ (i : Int)) = false := by simp; omega
  have d2 : decide (L.length ≤ i) = false := by simp; omega
  have hi0 : (0 : Int) ≤ (i : Int) := by omega
  have hi1 : (i : Int) < (L.length : Int) := by omega
  obtain ⟨g2, off, rfl, hg2, t0⟩ := line_get HRR.out hi
  have hgb : g2 ≠ b := hA g2 off rfl
  have HG9 := Lib.hid (HG.out L[i] (List.getElem_mem hi) 1)
  rw [hgd] at HG9
  simp only
  generalize L[i] = x at *
  unfold strV at t0
  generalize hXB : (ByteArray.mk x.toArray) = TB at *
  go_enter Tryz.func24, Tryz.ntmps24
  go_wp2_with fail
  refine wp_region_still_tail 28 (by kernel_rfl) (by kernel_rfl) ?_
  simp only [List.take_succ_cons, List.take_zero, List.drop_succ_cons, List.drop_zero]
  iterate 28 still_step
  refine wpStill_nil ?_
  change wpList _ _ _ _ _ (w.drewN 1)
  go_wp2_with fail
  refine HG9.out.mono ?_
  rintro e w2 ⟨rfl, hbel⟩
  have HB2 := Lib.hid (p_below (w := w.drewN 1) HB.out hbel)
  have HG2 := Lib.hid (grown_below (grown_drewN HGR.out 1) hbel)
  obtain ⟨r0, r1, r2, rf⟩ := scell HB2.out
  simp only at r1 r2
  have rf1 := rf 1
  have q0 := (hbel.cell (p := ⟨g2, off + i, none⟩) (by simp; omega)).trans t0
  clear c0 c1 c2 f1 f2 hbel rf
  have x0 : IntKind.i64.wrap ((i : Int) + 1) = (i : Int) + 1 := by rw [wrapEq]; unfold wrap64; omega
  have HB3 : Hid ((w2.setCell ⟨b, 1, none⟩ (.int .i64 ((i : Int) + 1))).heap[b]? = some (sobj (some ⟨g2, off, none⟩) L.length c ⟨i + 1, false⟩)) := Lib.hid (sset_i HB2.out (i + 1))
  have HG3 := Lib.hid (grown_set HG2.out 1 (.int .i64 ((i : Int) + 1)))
  have s0 : (w2.setCell ⟨b, 1, none⟩ (.int .i64 ((i : Int) + 1))).cell? ⟨g2, off + i, none⟩ = some (.string TB) := by rw [World.cell?_of_block (block_other _ _ _ _ hgb)]; exact q0
  clear q0
  have x1 : (i : Int) + 1 ≤ 9223372036854775807 := by omega
  go_wp2_with fail
  obtain ⟨u0, u1, u2, uf⟩ := scell HB3.out
  generalize (w2.setCell ⟨b, 1, none⟩ (.int .i64 ((i : Int) + 1))) = W3 at *
  simp only at u1 u2
  have x2 : IntKind.i64.wrap (i : Int) = (i : Int) := by rw [wrapEq]; unfold wrap64; omega
  have x3 : IntKind.i64.wrap ((i : Int) + 1 - 1) = (i : Int) := by rw [wrapEq]; unfold wrap64; omega
  go_quiet (fail)
  go_wp2
  go_ret
  exact ⟨rfl, HB3.out, grown_drewN HG3.out _⟩
end Go.Proofs.YtnmmhcchpcbeeaaGreatDoor.GtW

namespace Go.Proofs.YtnmmhcchpcbeeaaGreatDoor.GtW
open Go Go.RowKit Go.Proofs.YtnmmhcchpcbeeaaGreatDoor.Mem Go.Proofs.YtnmmhcchpcbeeaaGreatDoor.Gt
attribute [local go_sem ↓] Go.wp_at_zero Go.wp_at_succ

theorem gPow : Tryz.prog.globalNamed "internal/strconv.uint64pow10" = some 1 := by kernel_rfl
/-- What the library's variables hold: its table, a bound, two errors. -/
structure Glob (w : World) : Prop where
 tab : Lib.TabIs Tryz.prog w "internal/strconv.uint64pow10" .u64 Lib.pow10Tab
 max : ∃ m, w.cell? ⟨0, 0, none⟩ = some (.int .i64 m)
 syn : ∃ ev, w.cell? ⟨5, 0, none⟩ = some ev ∧ (ev = .nilIface ∨ ∃ te pe, ev = .iface te pe)
 rng : ∃ ev, w.cell? ⟨6, 0, none⟩ = some ev ∧ (ev = .nilIface ∨ ∃ te pe, ev = .iface te pe)
 lt : 6 < w.heap.size
theorem Glob.below7 {w w' : World} (h : Glob w) (hb : Below 7 w w') : Glob w' := by
 obtain ⟨h1, ⟨m, hm⟩, ⟨e3, h3, g3⟩, ⟨e4, h4, g4⟩, h5⟩ := h
 exact ⟨var?_below hb gPow (by decide) h1, ⟨m, (hb.cell (p := ⟨0, 0, none⟩) (by decide)).trans hm⟩, ⟨e3, (hb.cell (p := ⟨5, 0, none⟩) (by decide)).trans h3, g3⟩, ⟨e4, (hb.cell (p := ⟨6, 0, none⟩) (by decide)).trans h4, g4⟩, Nat.lt_of_lt_of_le h5 hb.size⟩
theorem Glob.below {w w' : World} (h : Glob w) (hb : Below w.heap.size w w') : Glob w' := h.below7 (hb.mono h.lt)
theorem Glob.drew {w : World} (h : Glob w) (n : Nat) : Glob (w.drewN n) := h.below (below_drewN (Below.refl w.heap.size w) n)
theorem Glob.grown {w w' : World} {b : Nat} (h : Glob w) (hg : w.grownBy w' (some b)) (hb : 7 ≤ b) : Glob w' :=
 h.below7 ⟨hg.os, hg.tape, hg.output, hg.size, fun k hk => hg.block k (by have := h.lt; omega) (fun e => by cases e; omega)⟩
theorem atoiAll_i64 {d : List UInt8} {n : Int} (h : Lib.atoiAll d = .ok n) : (-9223372036854775808 ≤ n ∧ n ≤ 9223372036854775807) := by
 unfold Lib.atoiAll at h
 split at h
 ·cases h
 ·simp only at h
  split at h
  ·cases h
  ·cases h
  ·rename_i u hu
   have := Lib.parseMag_lt hu
   split at h
   ·cases h
   ·split at h
    ·cases h
    ·injection h with h
     subst h
     split <;> omega

theorem str_size (a : List UInt8) : (ByteArray.mk a.toArray).size = a.length := by
 show a.toArray.size = _; simp
theorem str_eql (a b : List UInt8) : ((ByteArray.mk a.toArray).toList == (ByteArray.mk b.toArray).toList) = decide (a = b) := by
 rw [Go.ByteArray.toList_eq, Go.ByteArray.toList_eq, Bool.eq_iff_iff]
 simp

theorem atoi_ok {d : List UInt8} {n : Int} (h : Lib.atoiAll d = .ok n) (hd : d.length ≤ 1000000) (w : World) :
  Calls Tryz.prog 98 #[.string ⟨d.toArray⟩] w fun e w' => e = .returned (.tuple #[.int .i64 n, .nilIface]) ∧ Below w.heap.size w w' :=
 (Tryz.strconv_Atoi_ok ⟨d.toArray⟩ (by rw [str_size]; omega) n (by simpa using h) w).mono fun e w' ⟨he, hw⟩ => ⟨he, by
  rcases hw with rfl | ⟨t, rfl⟩
  ·exact Below.refl _ _
  ·exact Lib.bytesWorld_below _ _ _⟩
theorem atoi_bad {d : List UInt8} (h : ∀ n, Lib.atoiAll d ≠ .ok n) (hd : d.length ≤ 1000000) (w : World) (hG : Glob w) :
  Calls Tryz.prog 98 #[.string ⟨d.toArray⟩] w fun e w' => (∃ x N, e = .returned (.tuple #[.int .i64 x, .iface 207 (.pointer (some ⟨N, 0, none⟩))])) ∧ Below w.heap.size w w' := by
 obtain ⟨_, _, ⟨e3, h3, g3⟩, ⟨e4, h4, g4⟩, _⟩ := hG
 by_cases hr : Lib.atoiAll d = .range
 ·exact (Tryz.strconv_Atoi_range ⟨d.toArray⟩ (by rw [str_size]; omega) (by simpa using hr) e4 w h4 g4).mono fun e w' ⟨N, he, _, _, hb⟩ => ⟨⟨_, N, he⟩, hb⟩
 ·exact (Tryz.strconv_Atoi_wrong ⟨d.toArray⟩ (by rw [str_size]; omega) (by simpa using h) (by simpa using hr) e3 w h3 g3).mono fun e w' ⟨N, he, _, _, hb⟩ => ⟨⟨_, N, he⟩, hb⟩
theorem itoa_any (n : Int) (w : World) (hL : Glob w) (h0 : -9223372036854775808 ≤ n) (h1 : n ≤ 9223372036854775807) :
  Calls Tryz.prog 36 #[.int .i64 n] w fun e w' => e = .returned (.string ⟨(Lib.itoa n).toArray⟩) ∧ Below w.heap.size w w' :=
 (Tryz.strconv_Itoa n h0 h1 w hL.tab).mono fun e w' ⟨he, k, os, hw⟩ => ⟨he, by subst hw; exact Lib.below_grow _ _ (Nat.le_refl _) _ _⟩

set_option maxRecDepth 100000 in
theorem code1_any (x : List UInt8) (n : Int) (b : Nat) (w : World) (hG : Glob w) (hn : -9223372036854775808 ≤ n ∧ n ≤ 9223372036854775807) (hc : w.cell? ⟨b, 0, none⟩ = some (.int .i64 n)) :
  Calls Tryz.prog 55 #[.string ⟨x.toArray⟩, .pointer (some ⟨b, 0, none⟩)] w fun e w' => e = .returned (.bool (decide (x = Lib.itoa n))) ∧ Below w.heap.size w w' := by
 have HI := Lib.hid (fun W h => itoa_any n W h hn.1 hn.2)
 have HG := Lib.hid hG
 have hq := str_eql x (Lib.itoa n)
 generalize (ByteArray.mk x.toArray) = XB at *
 generalize (ByteArray.mk (Lib.itoa n).toArray) = TB at *
 generalize decide (x = Lib.itoa n) = r at *
 clear hG
 go_enter Tryz.func55, Tryz.ntmps55
 go_wp2_with fail
 refine (HI.out _ HG.out).mono ?_
 rintro e w2 ⟨rfl, hb2⟩
 go_wp2
 go_ret
 exact ⟨rfl, hb2⟩
theorem numOk_ok {lo hi n : Int} {x : List UInt8} (h : Lib.atoiAll x = .ok n) : numOk lo hi x = (decide (Lib.itoa n = x) && (decide (lo ≤ n) && decide (n ≤ hi))) := by
 unfold numOk; rw [h]
theorem numOk_bad {lo hi : Int} {x : List UInt8} (h : ∀ n, Lib.atoiAll x ≠ .ok n) : numOk lo hi x = false := by
 unfold numOk
 cases hx : Lib.atoiAll x with
 | ok n => exact absurd hx (h n)
 | _ => rfl
set_option maxRecDepth 100000 in
set_option maxHeartbeats 1000000 in
theorem number1_any (x : List UInt8) (lo hi : Int) (b1 b2 : Nat) (w : World) (hG : Glob w) (hx : x.length ≤ 1000000) (h1 : w.cell? ⟨b1, 0, none⟩ = some (.int .i64 lo)) (h2 : w.cell? ⟨b2, 0, none⟩ = some (.int .i64 hi)) :
  Calls Tryz.prog 97 #[.string ⟨x.toArray⟩, .pointer (some ⟨b1, 0, none⟩), .pointer (some ⟨b2, 0, none⟩)] w fun e w' => e = .returned (.bool (numOk lo hi x)) ∧ Below w.heap.size w w' := by
 have hl1 := World.block_lt_of_cell? w _ h1
 have hl2 := World.block_lt_of_cell? w _ h2
 by_cases hok : ∃ n, Lib.atoiAll x = .ok n
 ·obtain ⟨n, hn⟩ := hok
  have hb := atoiAll_i64 hn
  have HA := Lib.hid (fun W => atoi_ok hn hx W)
  have HI := Lib.hid (fun W h => itoa_any n W h hb.1 hb.2)
  have hq := str_eql (Lib.itoa n) x
  have HG := Lib.hid hG
  rw [numOk_ok hn]
  generalize (ByteArray.mk x.toArray) = XB at *
  generalize (ByteArray.mk (Lib.itoa n).toArray) = TB at *
  generalize decide (Lib.itoa n = x) = r at *
  clear hG hn
  go_enter Tryz.func97, Tryz.ntmps97
  go_wp2_with fail
  refine (HA.out _).mono ?_
  rintro e w2 ⟨rfl, hb2⟩
  have HG2 := Lib.hid (HG.out.below hb2)
  have k1 := (hb2.cell (p := ⟨b1, 0, none⟩) hl1).trans h1
  have k2 := (hb2.cell (p := ⟨b2, 0, none⟩) hl2).trans h2
  have HB2 := Lib.hid hb2
  clear h1 h2 hb2
  go_wp2_with fail
  refine (HI.out _ HG2.out).mono ?_
  rintro e w3 ⟨rfl, hb3⟩
  have m1 := (hb3.cell (p := ⟨b1, 0, none⟩) (World.block_lt_of_cell? w2 _ k1)).trans k1
  have m2 := (hb3.cell (p := ⟨b2, 0, none⟩) (World.block_lt_of_cell? w2 _ k2)).trans k2
  have HB3 := Lib.hid (HB2.out.trans (hb3.mono HB2.out.size))
  clear k1 k2 hb3
  have e1 : (TB.toList == XB.toList) = r := hq
  cases r
  ·go_wp2
   go_ret
   exact ⟨rfl, HB3.out⟩
  ·by_cases hlo : lo ≤ n
   ·have d1 : decide (lo ≤ n) = true := by simpa using hlo
    go_wp2
    go_ret
    exact ⟨by simp [d1], HB3.out⟩
   ·have d1 : decide (lo ≤ n) = false := by simpa using hlo
    go_wp2
    go_ret
    exact ⟨by simp [d1], HB3.out⟩
 ·have hbad : ∀ n, Lib.atoiAll x ≠ .ok n := fun n e => hok ⟨n, e⟩
  have HA := Lib.hid (fun W h => atoi_bad hbad hx W h)
  rw [numOk_bad hbad]
  go_enter Tryz.func97, Tryz.ntmps97
  go_wp2_with fail
  refine (HA.out _ hG).mono ?_
  rintro e w2 ⟨⟨y, N, rfl⟩, hb2⟩
  go_wp2
  go_ret
  exact ⟨rfl, hb2⟩
end Go.Proofs.YtnmmhcchpcbeeaaGreatDoor.GtW

namespace Go.Proofs.YtnmmhcchpcbeeaaGreatDoor.GtW
open Go Go.RowKit Go.Proofs.YtnmmhcchpcbeeaaGreatDoor.Mem Go.Proofs.YtnmmhcchpcbeeaaGreatDoor.Gt Go.Proofs.YtnmmhcchpcbeeaaGreatDoor.Ge
attribute [local go_sem ↓] Go.wp_at_zero Go.wp_at_succ

/-- The scanner and its lines in a world. -/
structure Sc (w : World) (b : Nat) (A : Option Addr) (c : Nat) (L : List (List UInt8)) (s : Gt.S) : Prop where
 obj : w.heap[b]? = some (sobj A L.length c s)
 row : Row w A (L.map strV)
 apart : Apart A b
 few : L.length ≤ 4611686018427387904
 short : ∀ x ∈ L, x.length ≤ 1000000
 glob : Glob w
 high : 7 ≤ b
theorem Sc.below {w w' : World} {b : Nat} {A : Option Addr} {c : Nat} {L : List (List UInt8)} {s : Gt.S} (h : Sc w b A c L s) (hb : Below w.heap.size w w') : Sc w' b A c L s :=
 ⟨p_below h.obj hb, h.row.below hb, h.apart, h.few, h.short, h.glob.below hb, h.high⟩
theorem row_grown {w w' : World} {b : Nat} {A : Option Addr} {xs : List Value} (h : Row w A xs) (hA : Apart A b) (hg : w.grownBy w' (some b)) : Row w' A xs := fun hne => by
 obtain ⟨g, off, e, hlt, hc⟩ := h hne
 refine ⟨g, off, e, Nat.lt_of_lt_of_le hlt hg.size, fun j hj => ?_⟩
 rw [World.cell?_of_block (a := ⟨g, off + j, none⟩) (hg.block g hlt (fun e2 => hA g off e (by injection e2)))]
 exact hc j hj
theorem Sc.grown {w w' : World} {b : Nat} {A : Option Addr} {c : Nat} {L : List (List UInt8)} {s s' : Gt.S} (h : Sc w b A c L s) (ho : w'.heap[b]? = some (sobj A L.length c s')) (hg : w.grownBy w' (some b)) : Sc w' b A c L s' :=
 ⟨ho, row_grown h.row h.apart hg, h.apart, h.few, h.short, h.glob.grown hg h.high, h.high⟩
theorem bel1 (W : World) (o : Obj) : Below W.heap.size W (W.alloc o) := (Below.refl _ _).alloc (Nat.le_refl _) o
/-- What a call of the scanner does: it answers v, leaves the scanner in state s', and everything else as it was. -/
def Did (w : World) (b : Nat) (A : Option Addr) (c : Nat) (L : List (List UInt8)) (v : Value) (s' : Gt.S) (e : Ending) (w' : World) : Prop := e = .returned v ∧ Sc w' b A c L s' ∧ w.grownBy w' (some b)
theorem new_cell (w : World) (v : Value) (T : TypeId) : (w.alloc (.cells #[v] T)).cell? ⟨w.heap.size, 0, none⟩ = some v := by
 exact cell_of (Go.Proofs.YtnmmhcchpcbeeaaGreatDoor.GeW.heap_alloc_new w (.cells #[v] T)) 0 v rfl
theorem atoi_val {x : List UInt8} (h : Lib.atoiAll x ≠ .range) (hd : x.length ≤ 1000000) (w : World) (hG : Glob w) :
  Calls Tryz.prog 98 #[.string ⟨x.toArray⟩] w fun e w' => (∃ ev, e = .returned (.tuple #[.int .i64 (numV x), ev])) ∧ Below w.heap.size w w' := by
 by_cases hok : ∃ n, Lib.atoiAll x = .ok n
 ·obtain ⟨n, hn⟩ := hok
  refine (atoi_ok hn hd w).mono ?_
  rintro e w' ⟨rfl, hb⟩
  exact ⟨⟨_, by unfold numV; rw [hn]⟩, hb⟩
 ·have hbad : ∀ n, Lib.atoiAll x ≠ .ok n := fun n e => hok ⟨n, e⟩
  obtain ⟨_, _, ⟨e3, h3, g3⟩, _, _⟩ := hG
  refine (Tryz.strconv_Atoi_wrong ⟨x.toArray⟩ (by rw [str_size]; omega) (by simpa using hbad) (by simpa using h) e3 w h3 g3).mono ?_
  rintro e w' ⟨N, rfl, _, _, hb⟩
  refine ⟨⟨.iface 207 (.pointer (some ⟨N, 0, none⟩)), ?_⟩, hb⟩
  have hv : numV x = 0 := by
   unfold numV
   cases hx : Lib.atoiAll x <;> first | rfl | exact absurd hx (hbad _)
  rw [hv]
theorem nx_line {L : List (List UInt8)} {good : List UInt8 → Bool} {s : Gt.S} : (nx L good s).1 = [] ∨ ((nx L good s).1 ∈ L ∧ good (nx L good s).1 = true) := by
 rcases nx_ways L good s with ⟨_, h⟩ | ⟨_, _, h⟩ | ⟨_, _, _, h⟩ | ⟨_, hi, hg, h⟩
 ·rw [h]; exact .inl rfl
 ·rw [h]; exact .inl rfl
 ·rw [h]; exact .inl rfl
 ·rw [h]; exact .inr ⟨List.getElem_mem hi, hg⟩
theorem num_line {L : List (List UInt8)} {lo hi : Int} {s : Gt.S} (hs : ∀ x ∈ L, x.length ≤ 1000000) : Lib.atoiAll (nx L (numOk lo hi) s).1 ≠ .range ∧ (nx L (numOk lo hi) s).1.length ≤ 1000000 := by
 rcases nx_line (L := L) (good := numOk lo hi) (s := s) with h | ⟨h1, h2⟩
 ·rw [h]; exact ⟨by simp [Lib.atoiAll], by simp⟩
 ·have h3 := hs _ h1
  clear h1 hs
  generalize (nx L (numOk lo hi) s).1 = x at *
  refine ⟨fun e => ?_, h3⟩
  unfold numOk at h2
  rw [e] at h2
  cases h2

set_option maxRecDepth 100000 in
set_option maxHeartbeats 1000000 in
theorem code_any (L : List (List UInt8)) (A : Option Addr) (c b : Nat) (s : Gt.S) (n : Int) (w : World) (h : Sc w b A c L s) (hn : -9223372036854775808 ≤ n ∧ n ≤ 9223372036854775807) :
  Calls Tryz.prog 23 #[.pointer (some ⟨b, 0, none⟩), .int .i64 n] w (Did w b A c L (.tuple #[]) (cd L n s)) := by
 have h1 := h.below (bel1 w (.cells #[.int .i64 n] 3))
 have HG := Lib.hid (World.grownBy_alloc w (.cells #[.int .i64 n] 3) (some b))
 have HN := Lib.hid (next_1 55 (fun x => decide (x = Lib.itoa n)) (enters_of Tryz.func55 (by kernel_rfl) rfl) w.heap.size L A c b s (w.alloc (.cells #[.int .i64 n] 3))
  (fun x _ k => code1_any x n w.heap.size _ (h1.glob.drew k) hn (new_cell w _ _)) h1.obj h1.row h1.apart h1.few)
 have H1 := Lib.hid h1
 clear h h1
 unfold cd
 generalize nx L (fun x => decide (x = Lib.itoa n)) s = r at *
 go_enter Tryz.func23, Tryz.ntmps23
 go_wp2_with fail
 generalize w.alloc (.cells #[.int .i64 n] 3) = W1 at *
 refine HN.out.mono ?_
 rintro e w2 ⟨rfl, ho, hg⟩
 go_wp2
 go_end0
 exact ⟨rfl, H1.out.grown ho hg, HG.out.trans hg⟩

theorem grown_new {w w' : World} {b k : Nat} (h : w.grownBy w' (some b)) (hk : w.heap.size ≤ k) (j : Nat) (v : Value) : w.grownBy (w'.setCell ⟨k, j, none⟩ v) (some b) :=
 ⟨h.os, h.tape, h.output, by simpa using h.size, fun i hi hne => by rw [block_other _ _ _ _ (by omega)]; exact h.block i hi hne⟩
theorem grown_cell {w w' : World} {b g j : Nat} {v : Value} (hg : w.grownBy w' (some b)) (hne : g ≠ b) (h : w.cell? ⟨g, j, none⟩ = some v) : w'.cell? ⟨g, j, none⟩ = some v := by
 rw [World.cell?_of_block (a := ⟨g, j, none⟩) (hg.block g (World.block_lt_of_cell? w _ h) (fun e => hne (by injection e)))]
 exact h
set_option maxRecDepth 100000 in
set_option maxHeartbeats 1000000 in
theorem number_any (L : List (List UInt8)) (A : Option Addr) (c b : Nat) (s : Gt.S) (n lo hi : Int) (w : World) (h : Sc w b A c L s) (hn : -9223372036854775808 ≤ n ∧ n ≤ 9223372036854775807) :
  Calls Tryz.prog 63 #[.pointer (some ⟨b, 0, none⟩), .int .i64 n, .int .i64 lo, .int .i64 hi] w (Did w b A c L (.int .i64 (nb L n lo hi s).1) (nb L n lo hi s).2) := by
 have hbl := blk_lt h.obj
 have h1 := (h.below (bel1 w (.cells #[.int .i64 lo] 3))).below (bel1 _ (.cells #[.int .i64 hi] 3))
 have hg1 := (World.grownBy_alloc w (.cells #[.int .i64 lo] 3) (some b)).trans (World.grownBy_alloc _ (.cells #[.int .i64 hi] 3) (some b))
 have k1 : ((w.alloc (.cells #[.int .i64 lo] 3)).alloc (.cells #[.int .i64 hi] 3)).cell? ⟨w.heap.size, 0, none⟩ = some (.int .i64 lo) :=
  ((bel1 (w.alloc (.cells #[.int .i64 lo] 3)) (.cells #[.int .i64 hi] 3)).cell (p := ⟨w.heap.size, 0, none⟩) (by simp)).trans (new_cell w _ _)
 have k2 : ((w.alloc (.cells #[.int .i64 lo] 3)).alloc (.cells #[.int .i64 hi] 3)).cell? ⟨w.heap.size + 1, 0, none⟩ = some (.int .i64 hi) := by simp
 have HK1 := Lib.hid k1
 have HK2 := Lib.hid k2
 have H1 := Lib.hid h1
 have HG1 := Lib.hid hg1
 have HC := Lib.hid (code_any L A c b s n _ h1 hn)
 have HNX := Lib.hid (fun W (hW : Sc W b A c L (cd L n s)) b1 b2 (q1 : W.cell? ⟨b1, 0, none⟩ = some (.int .i64 lo)) (q2 : W.cell? ⟨b2, 0, none⟩ = some (.int .i64 hi)) => next_2 97 (numOk lo hi) (enters_of Tryz.func97 (by kernel_rfl) rfl) b1 b2 L A c b (cd L n s) W
  (fun x hx k => number1_any x lo hi b1 b2 _ (hW.glob.drew k) (hW.short x hx) q1 q2) hW.obj hW.row hW.apart hW.few)
 have HL := Lib.hid (num_line (lo := lo) (hi := hi) (s := cd L n s) h.short)
 have hne1 : w.heap.size ≠ b := by omega
 have hne2 : w.heap.size + 1 ≠ b := by omega
 clear h h1 hg1 k1 k2
 unfold nb
 generalize nx L (numOk lo hi) (cd L n s) = r at *
 generalize cd L n s = s1 at *
 have HAT := Lib.hid (fun W hW => atoi_val HL.out.1 HL.out.2 W hW)
 go_enter Tryz.func63, Tryz.ntmps63
 go_wp2_with fail
 refine HC.out.mono ?_
 rintro e w2 ⟨rfl, h2, hg2⟩
 have HK12 := Lib.hid (grown_cell hg2 hne1 HK1.out)
 have HK22 := Lib.hid (grown_cell hg2 hne2 HK2.out)
 have HG2 := Lib.hid (HG1.out.trans hg2)
 have H2 := Lib.hid h2
 clear h2 hg2
 go_wp2_with fail
 refine (HNX.out _ H2.out _ _ HK12.out HK22.out).mono ?_
 rintro e w3 ⟨rfl, ho, hg⟩
 have H3 := Lib.hid (H2.out.grown ho hg)
 have HG3 := Lib.hid (HG2.out.trans hg)
 clear ho hg
 go_wp2_with fail
 refine (HAT.out _ H3.out.glob).mono ?_
 rintro e w4 ⟨⟨ev, rfl⟩, hb4⟩
 have H4 := Lib.hid (H3.out.below hb4)
 have HG4 := Lib.hid (grown_below HG3.out hb4)
 clear hb4
 go_wp2
 go_ret
 exact ⟨rfl, H4.out, HG4.out⟩
set_option maxRecDepth 100000 in
set_option maxHeartbeats 1000000 in
theorem point_any (L : List (List UInt8)) (A : Option Addr) (c b : Nat) (s : Gt.S) (n : Int) (w : World) (h : Sc w b A c L s) (hn : 0 ≤ n ∧ n ≤ 1000) :
  Calls Tryz.prog 60 #[.pointer (some ⟨b, 0, none⟩), .int .i64 n] w (Did w b A c L (.agg #[.int .i64 (pt L n s).1.1, .int .i64 (pt L n s).1.2]) (pt L n s).2) := by
 have hbl := blk_lt h.obj
 have H0 := Lib.hid h
 have H1 := Lib.hid (h.below (bel1 w (.cells #[.int .i64 0, .int .i64 0] 47)))
 have HG1 := Lib.hid (World.grownBy_alloc w (.cells #[.int .i64 0, .int .i64 0] 47) (some b))
 have HO := Lib.hid (Go.Proofs.YtnmmhcchpcbeeaaGreatDoor.GeW.heap_alloc_new w (.cells #[.int .i64 0, .int .i64 0] 47))
 have HNA := Lib.hid (fun W hW => number_any L A c b s n (-2000) 2000 W hW (by omega))
 have HNB := Lib.hid (fun W s2 hW => number_any L A c b s2 (n + 10) (-2000) 2000 W hW (by omega))
 have hne : w.heap.size ≠ b := by omega
 have hw : IntKind.i64.wrap (n + 10) = n + 10 := by rw [wrapEq]; unfold wrap64; omega
 clear h
 unfold pt
 generalize nb L n (-2000) 2000 s = r1 at *
 have HNB1 := Lib.hid (fun W hW => HNB.out W r1.2 hW)
 clear HNB
 generalize nb L (n + 10) (-2000) 2000 r1.2 = r2 at *
 go_enter Tryz.func60, Tryz.ntmps60
 go_wp2_with fail
 generalize w.alloc (.cells #[.int .i64 0, .int .i64 0] 47) = W1 at *
 refine (HNA.out _ H1.out).mono ?_
 rintro e w2 ⟨rfl, h2, hg2⟩
 have HG2 := Lib.hid (HG1.out.trans hg2)
 have HO2 := Lib.hid ((hg2.block _ (blk_lt HO.out) (fun e => hne (by injection e))).trans HO.out)
 have H2 := Lib.hid h2
 clear h2 hg2
 go_wp2_with fail
 refine (HNB1.out _ H2.out).mono ?_
 rintro e w3 ⟨rfl, h3, hg3⟩
 have HG3 := Lib.hid (HG2.out.trans hg3)
 have HO3 := Lib.hid ((hg3.block _ (blk_lt HO2.out) (fun e => hne (by injection e))).trans HO2.out)
 have H3 := Lib.hid h3
 clear h3 hg3
 have o0 := cell_of HO3.out 0 _ rfl
 have o1 := cell_of HO3.out 1 _ rfl
 have p0 := free_of HO3.out 0
 have p1 := free_of HO3.out 1
 have HO4 := Lib.hid (block_set (block_set HO3.out 0 (.int .i64 r1.1)) 1 (.int .i64 r2.1))
 go_wp2
 have l0 := cell_of HO4.out 0 _ rfl
 have l1 := cell_of HO4.out 1 _ rfl
 refine bodyPost_ret (v := .agg #[.int .i64 r1.1, .int .i64 r2.1]) (by simp [results, Tryz.results60, go_sem, l0, l1]) rfl ⟨rfl, ?_, ?_⟩
 ·exact H0.out.grown ((block_other _ _ _ _ (fun e => hne e.symm)).trans ((block_other _ _ _ _ (fun e => hne e.symm)).trans H3.out.obj)) (grown_new (grown_new HG3.out (Nat.le_refl _) _ _) (Nat.le_refl _) _ _)
 ·exact grown_new (grown_new HG3.out (Nat.le_refl _) _ _) (Nat.le_refl _) _ _
set_option maxRecDepth 100000 in
set_option maxHeartbeats 1000000 in
theorem check_any (L : List (List UInt8)) (A : Option Addr) (c b : Nat) (s : Gt.S) (g : Bool) (w : World) (h : Sc w b A c L s) (hi : s.bad = false → 1 ≤ s.i ∧ s.i ≤ L.length) :
  Calls Tryz.prog 61 #[.pointer (some ⟨b, 0, none⟩), .bool g] w (Did w b A c L (.tuple #[]) (ck g s)) := by
 obtain ⟨c0, c1, c2, cf⟩ := scell h.obj
 have f1 := cf 1
 have f2 := cf 2
 have H1 := Lib.hid h
 have hf := h.few
 clear cf h
 obtain ⟨i, bad⟩ := s
 simp only at c1 c2 hi
 cases bad
 ·cases g
  ·obtain ⟨hi1, hi2⟩ := hi rfl
   have HB := Lib.hid H1.out.obj
   have x0 : IntKind.i64.wrap ((i : Int) - 1) = ((i - 1 : Nat) : Int) := by rw [wrapEq]; unfold wrap64; omega
   have HB2 := Lib.hid (sset_bad HB.out)
   have HB3 := Lib.hid (sset_i HB2.out (i - 1))
   have HG3 := Lib.hid (grown_set (grown_set (grown_refl w (some b)) 2 (.bool true)) 1 (.int .i64 ((i - 1 : Nat) : Int)))
   obtain ⟨u0, u1, u2, uf⟩ := scell HB2.out
   simp only at u1 u2
   have g1 := uf 1
   rw [show ck false ⟨i, false⟩ = ⟨i - 1, true⟩ from rfl]
   go_enter Tryz.func61, Tryz.ntmps61
   go_wp2
   go_end0
   exact ⟨rfl, H1.out.grown HB3.out HG3.out, HG3.out⟩
  ·rw [show ck true ⟨i, false⟩ = ⟨i, false⟩ from rfl]
   go_enter Tryz.func61, Tryz.ntmps61
   go_wp2
   go_end0
   exact ⟨rfl, H1.out, grown_refl _ _⟩
 ·rw [show ck g ⟨i, true⟩ = ⟨i, true⟩ by simp [ck]]
  go_enter Tryz.func61, Tryz.ntmps61
  go_wp2
  go_end0
  exact ⟨rfl, H1.out, grown_refl _ _⟩
end Go.Proofs.YtnmmhcchpcbeeaaGreatDoor.GtW
