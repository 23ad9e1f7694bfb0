/- Walks: whether two lists of points, and two drawings, are equal, at equal ones. Conditions: they lie in memory. -/
import Derived.Test.YtnmmhcchpcbeeaaGreatDoorGtRf
import Derived.Test.YtnmmhcchpcbeeaaGreatDoorEqV
import Derived.Deep.CutRange

namespace Go.Proofs.YtnmmhcchpcbeeaaGreatDoor.GtW
open Go Go.RowKit Go.Proofs.YtnmmhcchpcbeeaaGreatDoor.Mem Go.Proofs.YtnmmhcchpcbeeaaGreatDoor.Gt Go.Proofs.YtnmmhcchpcbeeaaGreatDoor.Ge
open Go.Proofs.YtnmmhcchpcbeeaaGreatDoor.GeW (EntV entVals PtsIn PtAt Tagged RowT RowW Ents own_keep own_tag ptCells)
attribute [local go_sem ↓] Go.wp_at_zero Go.wp_at_succ

theorem info_rentA : (Tryz.prog.info? 72).map (fun i => (i.zero, i.size, i.bytes)) = some (some (.agg #[.int .i64 0, .string ⟨#[]⟩, .int .i64 0, .int .i64 0, .int .i64 0, .int .i64 0, .int .i64 0, .int .i64 0, .int .i64 0, .int .i64 0, .int .i64 0, .int .i64 0, .bool false, .slice none 0 0]), 14, 136) := by kernel_rfl
theorem info_entA : (Tryz.prog.info? 52).map (fun i => (i.zero, i.size, i.bytes)) = some (some (.agg #[.int .i64 0, .string ⟨#[]⟩, .int .i64 0, .int .i64 0, .int .i64 0, .int .i64 0, .int .i64 0, .int .i64 0, .int .i64 0, .int .i64 0, .int .i64 0, .int .i64 0, .bool false, .slice none 0 0]), 14, 136) := by kernel_rfl
set_option maxRecDepth 100000 in
set_option maxHeartbeats 2000000 in
theorem theirs_all (es : List EntV) (A : Option Addr) (c : Nat) (w : World) (hr : Ents w A es) (hes : es.length ≤ 1000) :
  Calls Tryz.prog 10 #[.slice A es.length c] w fun e w' => ∃ (B : Option Addr) (d : Nat), e = .returned (.slice B es.length d) ∧ Ents w' B es ∧ Below w.heap.size w w' := by
 have HR := Lib.hid hr.1
 have HPT := Lib.hid hr
 have hl := hr.2.2
 obtain ⟨i0, ia, ib, ic, id⟩ := info_parts info_rentA
 clear hr
 go_enter Tryz.func10, Tryz.ntmps10
 go_wp2
 go_loopw [3, 4] (fun o i wr => ∃ j : Nat, i = .int .i64 (j : Int) ∧ j ≤ es.length ∧ Hid (wr.ownsRow w.heap.size 72 14 o (es.take j).length ((es.take j).flatMap entVals)) ∧ Hid (Below w.heap.size w wr)) (fun _ i _ => es.length - (intOf i).toNat)
 case atStart => exact ⟨0, rfl, Nat.zero_le _, Lib.hid (World.ownsRow_nil _ _ _ _), Lib.hid (Below.refl _ _)⟩
 case round =>
  obtain ⟨j, rfl, hj, HOJ, HB⟩ := hrel
  by_cases hlt : j < es.length
  ·have HTJ : Hid (es.take (j + 1) = es.take j ++ [es[j]]) := Lib.hid (List.take_succ_eq_append_getElem hlt)
   have hll : (es.take j).length ≤ 1000 := by rw [List.length_take]; omega
   obtain ⟨oA, oc, rfl, hoc⟩ := own_shape HOJ.out
   obtain ⟨g, off, rfl, hg, ca⟩ := row_get GeW.ent_len (by decide) HR.out (by omega)
   have a0 := (HB.out.cell (p := ⟨g, off + j * 14 + 0, none⟩) hg).trans (ca j hlt 0 (by decide))
   have a1 := (HB.out.cell (p := ⟨g, off + j * 14 + 1, none⟩) hg).trans (ca j hlt 1 (by decide))
   have a2 := (HB.out.cell (p := ⟨g, off + j * 14 + 2, none⟩) hg).trans (ca j hlt 2 (by decide))
   have a3 := (HB.out.cell (p := ⟨g, off + j * 14 + 3, none⟩) hg).trans (ca j hlt 3 (by decide))
   have a4 := (HB.out.cell (p := ⟨g, off + j * 14 + 4, none⟩) hg).trans (ca j hlt 4 (by decide))
   have a5 := (HB.out.cell (p := ⟨g, off + j * 14 + 5, none⟩) hg).trans (ca j hlt 5 (by decide))
   have a6 := (HB.out.cell (p := ⟨g, off + j * 14 + 6, none⟩) hg).trans (ca j hlt 6 (by decide))
   have a7 := (HB.out.cell (p := ⟨g, off + j * 14 + 7, none⟩) hg).trans (ca j hlt 7 (by decide))
   have a8 := (HB.out.cell (p := ⟨g, off + j * 14 + 8, none⟩) hg).trans (ca j hlt 8 (by decide))
   have a9 := (HB.out.cell (p := ⟨g, off + j * 14 + 9, none⟩) hg).trans (ca j hlt 9 (by decide))
   have a10 := (HB.out.cell (p := ⟨g, off + j * 14 + 10, none⟩) hg).trans (ca j hlt 10 (by decide))
   have a11 := (HB.out.cell (p := ⟨g, off + j * 14 + 11, none⟩) hg).trans (ca j hlt 11 (by decide))
   have a12 := (HB.out.cell (p := ⟨g, off + j * 14 + 12, none⟩) hg).trans (ca j hlt 12 (by decide))
   have a13 := (HB.out.cell (p := ⟨g, off + j * 14 + 13, none⟩) hg).trans (ca j hlt 13 (by decide))
   generalize es[j] = q at *
   obtain ⟨⟨kd, lay, ⟨ax, ay⟩, ⟨bx, b_y⟩, ⟨fx, fy⟩, ⟨tx, ty⟩, ⟨cx, cy⟩, cw, pts⟩, qA, qk⟩ := q
   simp only [entVals, List.getElem?_cons_zero, List.getElem?_cons_succ, Nat.add_zero] at a0 a1 a2 a3 a4 a5 a6 a7 a8 a9 a10 a11 a12 a13
   generalize es.take j = cur at *
   have hj1 : (0 : Int) ≤ (j : Int) := by omega
   have hj2 : (j : Int) < (es.length : Int) := by omega
   have C2 : Hid (cur.length + 1 ≤ maxLen ∧ (cur.length + 1) * 136 ≤ 140737488355328 ∧ ∀ u ∈ ([.int .i64 kd, .string ⟨lay.toArray⟩, .int .i64 ax, .int .i64 ay, .int .i64 bx, .int .i64 b_y, .int .i64 fx, .int .i64 fy, .int .i64 tx, .int .i64 ty, .int .i64 cx, .int .i64 cy, .bool cw, .slice qA pts.length qk] : List Value), u.oneCell' = true) := Lib.hid ⟨by unfold maxLen; omega, by omega, by intro u hu; simp at hu; rcases hu with rfl | rfl | rfl | rfl | rfl | rfl | rfl | rfl | rfl | rfl | rfl | rfl | rfl | rfl <;> rfl⟩
   clear ca
   go_wp2_with (at_builtin; refine wpList_append_row _ rfl _ _ 27 rfl w.heap.size 72 i0 _ 14 136 Tryz.underlying27 ia ib ic id rfl (by omega) _ _ _ rfl (HOJ.out.alloc (.cells #[.int .i64 kd, .string ⟨lay.toArray⟩, .int .i64 ax, .int .i64 ay, .int .i64 bx, .int .i64 b_y, .int .i64 fx, .int .i64 fy, .int .i64 tx, .int .i64 ty, .int .i64 cx, .int .i64 cy, .bool cw, .slice qA pts.length qk] 72)) (some ⟨wr.heap.size, 0, none⟩) 1 1 [.int .i64 kd, .string ⟨lay.toArray⟩, .int .i64 ax, .int .i64 ay, .int .i64 bx, .int .i64 b_y, .int .i64 fx, .int .i64 fy, .int .i64 tx, .int .i64 ty, .int .i64 cx, .int .i64 cy, .bool cw, .slice qA pts.length qk] rfl (GeW.newN_row wr [.int .i64 kd, .string ⟨lay.toArray⟩, .int .i64 ax, .int .i64 ay, .int .i64 bx, .int .i64 b_y, .int .i64 fx, .int .i64 fy, .int .i64 tx, .int .i64 ty, .int .i64 cx, .int .i64 cy, .bool cw, .slice qA pts.length qk] 72) rfl C2.out.2.2 C2.out.1 C2.out.2.1 (by have := HB.out.size; simp <;> omega) ?_)
   intro v' wa hown hg1
   have HF1 := Lib.hid (below_append (HB.out.alloc HB.out.size (.cells #[.int .i64 kd, .string ⟨lay.toArray⟩, .int .i64 ax, .int .i64 ay, .int .i64 bx, .int .i64 b_y, .int .i64 fx, .int .i64 fy, .int .i64 tx, .int .i64 ty, .int .i64 cx, .int .i64 cy, .bool cw, .slice qA pts.length qk] 72)) (by have := HB.out.size; simp <;> omega) (HOJ.out.alloc (.cells #[.int .i64 kd, .string ⟨lay.toArray⟩, .int .i64 ax, .int .i64 ay, .int .i64 bx, .int .i64 b_y, .int .i64 fx, .int .i64 fy, .int .i64 tx, .int .i64 ty, .int .i64 cx, .int .i64 cy, .bool cw, .slice qA pts.length qk] 72)) hg1 (Nat.le_refl _))
   have HP := Lib.hid hown
   clear hown hg1
   clear a0 a1 a2 a3 a4 a5 a6 a7 a8 a9 a10 a11 a12 a13
   go_wp2
   go_roundw
   case rel => exact ⟨j + 1, by go_num, by omega, Lib.hid (by rw [HTJ.out]; simpa [List.flatMap_append, entVals] using HP.out), HF1⟩
   case measure => simp [intOf]; omega
  ·obtain rfl : j = es.length := by omega
   have HEL : Hid ((es.take es.length).length = es.length ∧ (es.take es.length).flatMap entVals = es.flatMap entVals) := Lib.hid (by rw [List.take_length]; exact ⟨rfl, rfl⟩)
   have HOF := HOJ.out
   rw [HEL.out.1, HEL.out.2] at HOF
   obtain ⟨oA, oc, rfl, hoc⟩ := own_shape HOF
   have HO := Lib.hid HOF
   clear HOF
   go_wp2
   go_ret
   exact ⟨oA, oc, rfl, ⟨Row.of_own HO.out, (HPT.out.below HB.out).2.1, hl⟩, HB.out⟩
set_option maxRecDepth 100000 in
set_option maxHeartbeats 2000000 in
theorem own_all (es : List EntV) (A : Option Addr) (c : Nat) (w : World) (hr : Ents w A es) (hes : es.length ≤ 1000) :
  Calls Tryz.prog 14 #[.slice A es.length c] w fun e w' => ∃ (B : Option Addr) (d : Nat), e = .returned (.slice B es.length d) ∧ Ents w' B es ∧ Below w.heap.size w w' := by
 have HR := Lib.hid hr.1
 have HPT := Lib.hid hr
 have hl := hr.2.2
 obtain ⟨i0, ia, ib, ic, id⟩ := info_parts info_entA
 clear hr
 go_enter Tryz.func14, Tryz.ntmps14
 go_wp2
 go_loopw [3, 4] (fun o i wr => ∃ j : Nat, i = .int .i64 (j : Int) ∧ j ≤ es.length ∧ Hid (wr.ownsRow w.heap.size 52 14 o (es.take j).length ((es.take j).flatMap entVals)) ∧ Hid (Below w.heap.size w wr)) (fun _ i _ => es.length - (intOf i).toNat)
 case atStart => exact ⟨0, rfl, Nat.zero_le _, Lib.hid (World.ownsRow_nil _ _ _ _), Lib.hid (Below.refl _ _)⟩
 case round =>
  obtain ⟨j, rfl, hj, HOJ, HB⟩ := hrel
  by_cases hlt : j < es.length
  ·have HTJ : Hid (es.take (j + 1) = es.take j ++ [es[j]]) := Lib.hid (List.take_succ_eq_append_getElem hlt)
   have hll : (es.take j).length ≤ 1000 := by rw [List.length_take]; omega
   obtain ⟨oA, oc, rfl, hoc⟩ := own_shape HOJ.out
   obtain ⟨g, off, rfl, hg, ca⟩ := row_get GeW.ent_len (by decide) HR.out (by omega)
   have a0 := (HB.out.cell (p := ⟨g, off + j * 14 + 0, none⟩) hg).trans (ca j hlt 0 (by decide))
   have a1 := (HB.out.cell (p := ⟨g, off + j * 14 + 1, none⟩) hg).trans (ca j hlt 1 (by decide))
   have a2 := (HB.out.cell (p := ⟨g, off + j * 14 + 2, none⟩) hg).trans (ca j hlt 2 (by decide))
   have a3 := (HB.out.cell (p := ⟨g, off + j * 14 + 3, none⟩) hg).trans (ca j hlt 3 (by decide))
   have a4 := (HB.out.cell (p := ⟨g, off + j * 14 + 4, none⟩) hg).trans (ca j hlt 4 (by decide))
   have a5 := (HB.out.cell (p := ⟨g, off + j * 14 + 5, none⟩) hg).trans (ca j hlt 5 (by decide))
   have a6 := (HB.out.cell (p := ⟨g, off + j * 14 + 6, none⟩) hg).trans (ca j hlt 6 (by decide))
   have a7 := (HB.out.cell (p := ⟨g, off + j * 14 + 7, none⟩) hg).trans (ca j hlt 7 (by decide))
   have a8 := (HB.out.cell (p := ⟨g, off + j * 14 + 8, none⟩) hg).trans (ca j hlt 8 (by decide))
   have a9 := (HB.out.cell (p := ⟨g, off + j * 14 + 9, none⟩) hg).trans (ca j hlt 9 (by decide))
   have a10 := (HB.out.cell (p := ⟨g, off + j * 14 + 10, none⟩) hg).trans (ca j hlt 10 (by decide))
   have a11 := (HB.out.cell (p := ⟨g, off + j * 14 + 11, none⟩) hg).trans (ca j hlt 11 (by decide))
   have a12 := (HB.out.cell (p := ⟨g, off + j * 14 + 12, none⟩) hg).trans (ca j hlt 12 (by decide))
   have a13 := (HB.out.cell (p := ⟨g, off + j * 14 + 13, none⟩) hg).trans (ca j hlt 13 (by decide))
   generalize es[j] = q at *
   obtain ⟨⟨kd, lay, ⟨ax, ay⟩, ⟨bx, b_y⟩, ⟨fx, fy⟩, ⟨tx, ty⟩, ⟨cx, cy⟩, cw, pts⟩, qA, qk⟩ := q
   simp only [entVals, List.getElem?_cons_zero, List.getElem?_cons_succ, Nat.add_zero] at a0 a1 a2 a3 a4 a5 a6 a7 a8 a9 a10 a11 a12 a13
   generalize es.take j = cur at *
   have hj1 : (0 : Int) ≤ (j : Int) := by omega
   have hj2 : (j : Int) < (es.length : Int) := by omega
   have C2 : Hid (cur.length + 1 ≤ maxLen ∧ (cur.length + 1) * 136 ≤ 140737488355328 ∧ ∀ u ∈ ([.int .i64 kd, .string ⟨lay.toArray⟩, .int .i64 ax, .int .i64 ay, .int .i64 bx, .int .i64 b_y, .int .i64 fx, .int .i64 fy, .int .i64 tx, .int .i64 ty, .int .i64 cx, .int .i64 cy, .bool cw, .slice qA pts.length qk] : List Value), u.oneCell' = true) := Lib.hid ⟨by unfold maxLen; omega, by omega, by intro u hu; simp at hu; rcases hu with rfl | rfl | rfl | rfl | rfl | rfl | rfl | rfl | rfl | rfl | rfl | rfl | rfl | rfl <;> rfl⟩
   clear ca
   go_wp2_with (at_builtin; refine wpList_append_row _ rfl _ _ 23 rfl w.heap.size 52 i0 _ 14 136 Tryz.underlying23 ia ib ic id rfl (by omega) _ _ _ rfl (HOJ.out.alloc (.cells #[.int .i64 kd, .string ⟨lay.toArray⟩, .int .i64 ax, .int .i64 ay, .int .i64 bx, .int .i64 b_y, .int .i64 fx, .int .i64 fy, .int .i64 tx, .int .i64 ty, .int .i64 cx, .int .i64 cy, .bool cw, .slice qA pts.length qk] 52)) (some ⟨wr.heap.size, 0, none⟩) 1 1 [.int .i64 kd, .string ⟨lay.toArray⟩, .int .i64 ax, .int .i64 ay, .int .i64 bx, .int .i64 b_y, .int .i64 fx, .int .i64 fy, .int .i64 tx, .int .i64 ty, .int .i64 cx, .int .i64 cy, .bool cw, .slice qA pts.length qk] rfl (GeW.newN_row wr [.int .i64 kd, .string ⟨lay.toArray⟩, .int .i64 ax, .int .i64 ay, .int .i64 bx, .int .i64 b_y, .int .i64 fx, .int .i64 fy, .int .i64 tx, .int .i64 ty, .int .i64 cx, .int .i64 cy, .bool cw, .slice qA pts.length qk] 52) rfl C2.out.2.2 C2.out.1 C2.out.2.1 (by have := HB.out.size; simp <;> omega) ?_)
   intro v' wa hown hg1
   have HF1 := Lib.hid (below_append (HB.out.alloc HB.out.size (.cells #[.int .i64 kd, .string ⟨lay.toArray⟩, .int .i64 ax, .int .i64 ay, .int .i64 bx, .int .i64 b_y, .int .i64 fx, .int .i64 fy, .int .i64 tx, .int .i64 ty, .int .i64 cx, .int .i64 cy, .bool cw, .slice qA pts.length qk] 52)) (by have := HB.out.size; simp <;> omega) (HOJ.out.alloc (.cells #[.int .i64 kd, .string ⟨lay.toArray⟩, .int .i64 ax, .int .i64 ay, .int .i64 bx, .int .i64 b_y, .int .i64 fx, .int .i64 fy, .int .i64 tx, .int .i64 ty, .int .i64 cx, .int .i64 cy, .bool cw, .slice qA pts.length qk] 52)) hg1 (Nat.le_refl _))
   have HP := Lib.hid hown
   clear hown hg1
   clear a0 a1 a2 a3 a4 a5 a6 a7 a8 a9 a10 a11 a12 a13
   go_wp2
   go_roundw
   case rel => exact ⟨j + 1, by go_num, by omega, Lib.hid (by rw [HTJ.out]; simpa [List.flatMap_append, entVals] using HP.out), HF1⟩
   case measure => simp [intOf]; omega
  ·obtain rfl : j = es.length := by omega
   have HEL : Hid ((es.take es.length).length = es.length ∧ (es.take es.length).flatMap entVals = es.flatMap entVals) := Lib.hid (by rw [List.take_length]; exact ⟨rfl, rfl⟩)
   have HOF := HOJ.out
   rw [HEL.out.1, HEL.out.2] at HOF
   obtain ⟨oA, oc, rfl, hoc⟩ := own_shape HOF
   have HO := Lib.hid HOF
   clear HOF
   go_wp2
   go_ret
   exact ⟨oA, oc, rfl, ⟨Row.of_own HO.out, (HPT.out.below HB.out).2.1, hl⟩, HB.out⟩
end Go.Proofs.YtnmmhcchpcbeeaaGreatDoor.GtW

namespace Go.Proofs.YtnmmhcchpcbeeaaGreatDoor.GtW
open Go Go.RowKit Go.Proofs.YtnmmhcchpcbeeaaGreatDoor.Mem Go.Proofs.YtnmmhcchpcbeeaaGreatDoor.Gt Go.Proofs.YtnmmhcchpcbeeaaGreatDoor.Ge
open Go.Proofs.YtnmmhcchpcbeeaaGreatDoor.GeW (EntV entVals PtsIn PtAt Tagged RowT RowW Ents own_keep own_tag ptCells)
attribute [local go_sem ↓] Go.wp_at_zero Go.wp_at_succ

set_option maxRecDepth 100000 in
set_option maxHeartbeats 2000000 in
theorem sameVecs_eq (l : List V) (A B : Option Addr) (c d : Nat) (w : World) (hr : Row w A (l.flatMap ptCells)) (hs : Row w B (l.flatMap ptCells)) (hl : l.length ≤ 1000000) :
  Calls Tryz.prog 33 #[.slice A l.length c, .slice B l.length d] w fun e w' => e = .returned (.bool true) ∧ Below w.heap.size w w' := by
 have HR := Lib.hid hr
 have HS := Lib.hid hs
 have n1 : ((l.length : Int) != (l.length : Int)) = false := bne_self_eq_false ..
 clear hr hs
 go_enter Tryz.func33, Tryz.ntmps33
 go_wp2
 go_loopw [5] (fun i wr => ∃ j : Nat, i = .int .i64 (j : Int) ∧ j ≤ l.length ∧ Hid (Below w.heap.size w wr)) (fun i _ => l.length - (intOf i).toNat)
 case atStart => exact ⟨0, rfl, Nat.zero_le _, Lib.hid (Below.refl _ _)⟩
 case round =>
  obtain ⟨j, rfl, hj, HB⟩ := hrel
  by_cases hlt : j < l.length
  ·obtain ⟨g, o1, rfl, hg, ca⟩ := row_get GeW.pt_len (by decide) HR.out (by omega)
   obtain ⟨g2, o2, rfl, hg2, cb⟩ := row_get GeW.pt_len (by decide) HS.out (by omega)
   have a0 := (HB.out.cell (p := ⟨g, o1 + j * 2 + 0, none⟩) hg).trans (ca j hlt 0 (by decide))
   have a1 := (HB.out.cell (p := ⟨g, o1 + j * 2 + 1, none⟩) hg).trans (ca j hlt 1 (by decide))
   have b0 := (HB.out.cell (p := ⟨g2, o2 + j * 2 + 0, none⟩) hg2).trans (cb j hlt 0 (by decide))
   have b1 := (HB.out.cell (p := ⟨g2, o2 + j * 2 + 1, none⟩) hg2).trans (cb j hlt 1 (by decide))
   generalize l[j] = q at *
   obtain ⟨ax, ay⟩ := q
   simp only [ptCells, List.getElem?_cons_zero, List.getElem?_cons_succ, Nat.add_zero] at a0 a1 b0 b1
   have hj1 : (0 : Int) ≤ (j : Int) := by omega
   have hj2 : (j : Int) < (l.length : Int) := by omega
   have e1 : ∀ W, (binOp .neq 47 (.agg #[.int .i64 ax, .int .i64 ay]) (.agg #[.int .i64 ax, .int .i64 ay])).run Tryz.prog W = .ok (.bool false) W := fun W => by rw [GeW.neq_vec, decide_eq_true rfl]; rfl
   clear ca cb
   go_upto_region 6 with fail
   go_quiet (fail)
   go_wp2
   go_roundw
   case rel => exact ⟨j + 1, by go_num, by omega, Lib.hid (below_drewN HB.out nq)⟩
   case measure => simp [intOf]; omega
  ·obtain rfl : j = l.length := by omega
   go_wp2
   go_ret
   exact ⟨rfl, HB.out⟩
theorem ba_self (L : ByteArray) : (L == L) = true := by
 cases L with
 | mk d => first | exact beq_self_eq_true d | (show (d == d) = true; simp) | (show decide _ = true; simp)
theorem cells14v {w : World} {b pl ka : Nat} {kd ax ay bx b_y fx fy tx ty cx cy : Int} {cw : Bool} {lay : List UInt8} {PA : Option Addr} (h : w.heap[b]? = some (.cells #[.int .i64 kd, .string ⟨lay.toArray⟩, .int .i64 ax, .int .i64 ay, .int .i64 bx, .int .i64 b_y, .int .i64 fx, .int .i64 fy, .int .i64 tx, .int .i64 ty, .int .i64 cx, .int .i64 cy, .bool cw, .slice PA pl ka] 72 (0, 0))) : w.cell? ⟨b, 0, none⟩ = some (.int .i64 kd) ∧ w.cell? ⟨b, 1, none⟩ = some (.string ⟨lay.toArray⟩) ∧ w.cell? ⟨b, 2, none⟩ = some (.int .i64 ax) ∧ w.cell? ⟨b, 3, none⟩ = some (.int .i64 ay) ∧ w.cell? ⟨b, 4, none⟩ = some (.int .i64 bx) ∧ w.cell? ⟨b, 5, none⟩ = some (.int .i64 b_y) ∧ w.cell? ⟨b, 6, none⟩ = some (.int .i64 fx) ∧ w.cell? ⟨b, 7, none⟩ = some (.int .i64 fy) ∧ w.cell? ⟨b, 8, none⟩ = some (.int .i64 tx) ∧ w.cell? ⟨b, 9, none⟩ = some (.int .i64 ty) ∧ w.cell? ⟨b, 10, none⟩ = some (.int .i64 cx) ∧ w.cell? ⟨b, 11, none⟩ = some (.int .i64 cy) ∧ w.cell? ⟨b, 12, none⟩ = some (.bool cw) ∧ w.cell? ⟨b, 13, none⟩ = some (.slice PA pl ka) := by
 refine ⟨?_, ?_, ?_, ?_, ?_, ?_, ?_, ?_, ?_, ?_, ?_, ?_, ?_, ?_⟩ <;> simp [World.cell?, h]
set_option maxRecDepth 100000 in
set_option maxHeartbeats 4000000 in
theorem sameEnts_eq (es fs : List EntV) (A B : Option Addr) (c d : Nat) (w : World) (hr : Ents w A es) (hs : Ents w B fs) (hef : es.map EntV.e = fs.map EntV.e) :
  Calls Tryz.prog 9 #[.slice A es.length c, .slice B fs.length d] w fun e w' => e = .returned (.bool true) ∧ Below w.heap.size w w' := by
 have hlen : fs.length = es.length := by have := congrArg List.length hef; simpa using this.symm
 have HR := Lib.hid hr
 have HS := Lib.hid hs
 have HEF := Lib.hid hef
 rw [hlen]
 have hl := hr.2.2
 have n1 : ((es.length : Int) != (es.length : Int)) = false := bne_self_eq_false ..
 clear hr hs hef
 go_enter Tryz.func9, Tryz.ntmps9
 go_wp2
 go_loopw [5, 6, 7] (fun i _ _ wr => ∃ j : Nat, i = .int .i64 (j : Int) ∧ j ≤ es.length ∧ Hid (Below w.heap.size w wr)) (fun i _ _ _ => es.length - (intOf i).toNat)
 case atStart => exact ⟨0, rfl, Nat.zero_le _, Lib.hid (Below.refl _ _)⟩
 case round =>
  obtain ⟨j, rfl, hj, HB⟩ := hrel
  by_cases hlt : j < es.length
  ·have hlt2 : j < fs.length := by omega
   obtain ⟨g, o1, rfl, hg, ca⟩ := row_get GeW.ent_len (by decide) HR.out.1 (by omega)
   obtain ⟨g2, o2, rfl, hg2, cb⟩ := row_get GeW.ent_len (by decide) HS.out.1 (by omega)
   have a0 := (HB.out.cell (p := ⟨g, o1 + j * 14 + 0, none⟩) hg).trans (ca j hlt 0 (by decide))
   have a1 := (HB.out.cell (p := ⟨g, o1 + j * 14 + 1, none⟩) hg).trans (ca j hlt 1 (by decide))
   have a2 := (HB.out.cell (p := ⟨g, o1 + j * 14 + 2, none⟩) hg).trans (ca j hlt 2 (by decide))
   have a3 := (HB.out.cell (p := ⟨g, o1 + j * 14 + 3, none⟩) hg).trans (ca j hlt 3 (by decide))
   have a4 := (HB.out.cell (p := ⟨g, o1 + j * 14 + 4, none⟩) hg).trans (ca j hlt 4 (by decide))
   have a5 := (HB.out.cell (p := ⟨g, o1 + j * 14 + 5, none⟩) hg).trans (ca j hlt 5 (by decide))
   have a6 := (HB.out.cell (p := ⟨g, o1 + j * 14 + 6, none⟩) hg).trans (ca j hlt 6 (by decide))
   have a7 := (HB.out.cell (p := ⟨g, o1 + j * 14 + 7, none⟩) hg).trans (ca j hlt 7 (by decide))
   have a8 := (HB.out.cell (p := ⟨g, o1 + j * 14 + 8, none⟩) hg).trans (ca j hlt 8 (by decide))
   have a9 := (HB.out.cell (p := ⟨g, o1 + j * 14 + 9, none⟩) hg).trans (ca j hlt 9 (by decide))
   have a10 := (HB.out.cell (p := ⟨g, o1 + j * 14 + 10, none⟩) hg).trans (ca j hlt 10 (by decide))
   have a11 := (HB.out.cell (p := ⟨g, o1 + j * 14 + 11, none⟩) hg).trans (ca j hlt 11 (by decide))
   have a12 := (HB.out.cell (p := ⟨g, o1 + j * 14 + 12, none⟩) hg).trans (ca j hlt 12 (by decide))
   have a13 := (HB.out.cell (p := ⟨g, o1 + j * 14 + 13, none⟩) hg).trans (ca j hlt 13 (by decide))
   have b0 := (HB.out.cell (p := ⟨g2, o2 + j * 14 + 0, none⟩) hg2).trans (cb j hlt2 0 (by decide))
   have b1 := (HB.out.cell (p := ⟨g2, o2 + j * 14 + 1, none⟩) hg2).trans (cb j hlt2 1 (by decide))
   have b2 := (HB.out.cell (p := ⟨g2, o2 + j * 14 + 2, none⟩) hg2).trans (cb j hlt2 2 (by decide))
   have b3 := (HB.out.cell (p := ⟨g2, o2 + j * 14 + 3, none⟩) hg2).trans (cb j hlt2 3 (by decide))
   have b4 := (HB.out.cell (p := ⟨g2, o2 + j * 14 + 4, none⟩) hg2).trans (cb j hlt2 4 (by decide))
   have b5 := (HB.out.cell (p := ⟨g2, o2 + j * 14 + 5, none⟩) hg2).trans (cb j hlt2 5 (by decide))
   have b6 := (HB.out.cell (p := ⟨g2, o2 + j * 14 + 6, none⟩) hg2).trans (cb j hlt2 6 (by decide))
   have b7 := (HB.out.cell (p := ⟨g2, o2 + j * 14 + 7, none⟩) hg2).trans (cb j hlt2 7 (by decide))
   have b8 := (HB.out.cell (p := ⟨g2, o2 + j * 14 + 8, none⟩) hg2).trans (cb j hlt2 8 (by decide))
   have b9 := (HB.out.cell (p := ⟨g2, o2 + j * 14 + 9, none⟩) hg2).trans (cb j hlt2 9 (by decide))
   have b10 := (HB.out.cell (p := ⟨g2, o2 + j * 14 + 10, none⟩) hg2).trans (cb j hlt2 10 (by decide))
   have b11 := (HB.out.cell (p := ⟨g2, o2 + j * 14 + 11, none⟩) hg2).trans (cb j hlt2 11 (by decide))
   have b12 := (HB.out.cell (p := ⟨g2, o2 + j * 14 + 12, none⟩) hg2).trans (cb j hlt2 12 (by decide))
   have b13 := (HB.out.cell (p := ⟨g2, o2 + j * 14 + 13, none⟩) hg2).trans (cb j hlt2 13 (by decide))
   have hgr : g < wr.heap.size := Nat.lt_of_lt_of_le hg HB.out.size
   have hgr2 : g2 < wr.heap.size := Nat.lt_of_lt_of_le hg2 HB.out.size
   have hxy : (es[j]).e = (fs[j]).e := by
    have h1 := congrArg (fun l => l[j]?) HEF.out
    simp only [List.getElem?_map, List.getElem?_eq_getElem hlt, List.getElem?_eq_getElem hlt2, Option.map_some] at h1
    exact Option.some.inj h1
   have HPX := Lib.hid (HR.out.2.1 es[j] (List.getElem_mem hlt))
   have HPY := Lib.hid (HS.out.2.1 fs[j] (List.getElem_mem hlt2))
   generalize es[j] = q at *
   generalize fs[j] = q2 at *
   obtain ⟨⟨kd, lay, ⟨ax, ay⟩, ⟨bx, b_y⟩, ⟨fx, fy⟩, ⟨tx, ty⟩, ⟨cx, cy⟩, cw, pts⟩, PA, ka⟩ := q
   obtain ⟨e2, PB, kb⟩ := q2
   simp only at hxy
   subst hxy
   have HSN : Hid (∀ W, Below w.heap.size w W → Calls Tryz.prog 33 #[.slice PA pts.length ka, .slice PB pts.length kb] W fun e w' => e = .returned (.bool true) ∧ Below W.heap.size W w') := Lib.hid (fun W hW => sameVecs_eq pts PA PB ka kb W (HPX.out.1.below hW) (HPY.out.1.below hW) HPX.out.2.1)
   clear HPX HPY
   simp only [entVals, List.getElem?_cons_zero, List.getElem?_cons_succ, Nat.add_zero] at a0 a1 a2 a3 a4 a5 a6 a7 a8 a9 a10 a11 a12 a13 b0 b1 b2 b3 b4 b5 b6 b7 b8 b9 b10 b11 b12 b13
   generalize pts.length = pl at *
   have hj1 : (0 : Int) ≤ (j : Int) := by omega
   have hj2 : (j : Int) < (es.length : Int) := by omega
   have HCA : Hid (wr.cell? ⟨g, o1 + j * 14, none⟩ = some (.int .i64 kd) ∧ wr.cell? ⟨g, o1 + j * 14 + 1, none⟩ = some (.string ⟨lay.toArray⟩) ∧ wr.cell? ⟨g, o1 + j * 14 + 2, none⟩ = some (.int .i64 ax) ∧ wr.cell? ⟨g, o1 + j * 14 + 3, none⟩ = some (.int .i64 ay) ∧ wr.cell? ⟨g, o1 + j * 14 + 4, none⟩ = some (.int .i64 bx) ∧ wr.cell? ⟨g, o1 + j * 14 + 5, none⟩ = some (.int .i64 b_y) ∧ wr.cell? ⟨g, o1 + j * 14 + 6, none⟩ = some (.int .i64 fx) ∧ wr.cell? ⟨g, o1 + j * 14 + 7, none⟩ = some (.int .i64 fy) ∧ wr.cell? ⟨g, o1 + j * 14 + 8, none⟩ = some (.int .i64 tx) ∧ wr.cell? ⟨g, o1 + j * 14 + 9, none⟩ = some (.int .i64 ty) ∧ wr.cell? ⟨g, o1 + j * 14 + 10, none⟩ = some (.int .i64 cx) ∧ wr.cell? ⟨g, o1 + j * 14 + 11, none⟩ = some (.int .i64 cy) ∧ wr.cell? ⟨g, o1 + j * 14 + 12, none⟩ = some (.bool cw) ∧ wr.cell? ⟨g, o1 + j * 14 + 13, none⟩ = some (.slice PA pl ka)) := Lib.hid ⟨a0, a1, a2, a3, a4, a5, a6, a7, a8, a9, a10, a11, a12, a13⟩
   have HCB : Hid (wr.cell? ⟨g2, o2 + j * 14, none⟩ = some (.int .i64 kd) ∧ wr.cell? ⟨g2, o2 + j * 14 + 1, none⟩ = some (.string ⟨lay.toArray⟩) ∧ wr.cell? ⟨g2, o2 + j * 14 + 2, none⟩ = some (.int .i64 ax) ∧ wr.cell? ⟨g2, o2 + j * 14 + 3, none⟩ = some (.int .i64 ay) ∧ wr.cell? ⟨g2, o2 + j * 14 + 4, none⟩ = some (.int .i64 bx) ∧ wr.cell? ⟨g2, o2 + j * 14 + 5, none⟩ = some (.int .i64 b_y) ∧ wr.cell? ⟨g2, o2 + j * 14 + 6, none⟩ = some (.int .i64 fx) ∧ wr.cell? ⟨g2, o2 + j * 14 + 7, none⟩ = some (.int .i64 fy) ∧ wr.cell? ⟨g2, o2 + j * 14 + 8, none⟩ = some (.int .i64 tx) ∧ wr.cell? ⟨g2, o2 + j * 14 + 9, none⟩ = some (.int .i64 ty) ∧ wr.cell? ⟨g2, o2 + j * 14 + 10, none⟩ = some (.int .i64 cx) ∧ wr.cell? ⟨g2, o2 + j * 14 + 11, none⟩ = some (.int .i64 cy) ∧ wr.cell? ⟨g2, o2 + j * 14 + 12, none⟩ = some (.bool cw) ∧ wr.cell? ⟨g2, o2 + j * 14 + 13, none⟩ = some (.slice PB pl kb)) := Lib.hid ⟨b0, b1, b2, b3, b4, b5, b6, b7, b8, b9, b10, b11, b12, b13⟩
   have CS : Hid (∀ w', Below wr.heap.size wr w' → w'.cell? ⟨g, o1 + j * 14, none⟩ = some (.int .i64 kd) ∧ w'.cell? ⟨g, o1 + j * 14 + 1, none⟩ = some (.string ⟨lay.toArray⟩) ∧ w'.cell? ⟨g, o1 + j * 14 + 2, none⟩ = some (.int .i64 ax) ∧ w'.cell? ⟨g, o1 + j * 14 + 3, none⟩ = some (.int .i64 ay) ∧ w'.cell? ⟨g, o1 + j * 14 + 4, none⟩ = some (.int .i64 bx) ∧ w'.cell? ⟨g, o1 + j * 14 + 5, none⟩ = some (.int .i64 b_y) ∧ w'.cell? ⟨g, o1 + j * 14 + 6, none⟩ = some (.int .i64 fx) ∧ w'.cell? ⟨g, o1 + j * 14 + 7, none⟩ = some (.int .i64 fy) ∧ w'.cell? ⟨g, o1 + j * 14 + 8, none⟩ = some (.int .i64 tx) ∧ w'.cell? ⟨g, o1 + j * 14 + 9, none⟩ = some (.int .i64 ty) ∧ w'.cell? ⟨g, o1 + j * 14 + 10, none⟩ = some (.int .i64 cx) ∧ w'.cell? ⟨g, o1 + j * 14 + 11, none⟩ = some (.int .i64 cy) ∧ w'.cell? ⟨g, o1 + j * 14 + 12, none⟩ = some (.bool cw) ∧ w'.cell? ⟨g, o1 + j * 14 + 13, none⟩ = some (.slice PA pl ka) ∧ w'.cell? ⟨g2, o2 + j * 14, none⟩ = some (.int .i64 kd) ∧ w'.cell? ⟨g2, o2 + j * 14 + 1, none⟩ = some (.string ⟨lay.toArray⟩) ∧ w'.cell? ⟨g2, o2 + j * 14 + 2, none⟩ = some (.int .i64 ax) ∧ w'.cell? ⟨g2, o2 + j * 14 + 3, none⟩ = some (.int .i64 ay) ∧ w'.cell? ⟨g2, o2 + j * 14 + 4, none⟩ = some (.int .i64 bx) ∧ w'.cell? ⟨g2, o2 + j * 14 + 5, none⟩ = some (.int .i64 b_y) ∧ w'.cell? ⟨g2, o2 + j * 14 + 6, none⟩ = some (.int .i64 fx) ∧ w'.cell? ⟨g2, o2 + j * 14 + 7, none⟩ = some (.int .i64 fy) ∧ w'.cell? ⟨g2, o2 + j * 14 + 8, none⟩ = some (.int .i64 tx) ∧ w'.cell? ⟨g2, o2 + j * 14 + 9, none⟩ = some (.int .i64 ty) ∧ w'.cell? ⟨g2, o2 + j * 14 + 10, none⟩ = some (.int .i64 cx) ∧ w'.cell? ⟨g2, o2 + j * 14 + 11, none⟩ = some (.int .i64 cy) ∧ w'.cell? ⟨g2, o2 + j * 14 + 12, none⟩ = some (.bool cw) ∧ w'.cell? ⟨g2, o2 + j * 14 + 13, none⟩ = some (.slice PB pl kb) ∧ Below wr.heap.size wr w') := Lib.hid (fun w' hb => ⟨(hb.cell (p := ⟨g, _, none⟩) hgr).trans a0, (hb.cell (p := ⟨g, _, none⟩) hgr).trans a1, (hb.cell (p := ⟨g, _, none⟩) hgr).trans a2, (hb.cell (p := ⟨g, _, none⟩) hgr).trans a3, (hb.cell (p := ⟨g, _, none⟩) hgr).trans a4, (hb.cell (p := ⟨g, _, none⟩) hgr).trans a5, (hb.cell (p := ⟨g, _, none⟩) hgr).trans a6, (hb.cell (p := ⟨g, _, none⟩) hgr).trans a7, (hb.cell (p := ⟨g, _, none⟩) hgr).trans a8, (hb.cell (p := ⟨g, _, none⟩) hgr).trans a9, (hb.cell (p := ⟨g, _, none⟩) hgr).trans a10, (hb.cell (p := ⟨g, _, none⟩) hgr).trans a11, (hb.cell (p := ⟨g, _, none⟩) hgr).trans a12, (hb.cell (p := ⟨g, _, none⟩) hgr).trans a13, (hb.cell (p := ⟨g2, _, none⟩) hgr2).trans b0, (hb.cell (p := ⟨g2, _, none⟩) hgr2).trans b1, (hb.cell (p := ⟨g2, _, none⟩) hgr2).trans b2, (hb.cell (p := ⟨g2, _, none⟩) hgr2).trans b3, (hb.cell (p := ⟨g2, _, none⟩) hgr2).trans b4, (hb.cell (p := ⟨g2, _, none⟩) hgr2).trans b5, (hb.cell (p := ⟨g2, _, none⟩) hgr2).trans b6, (hb.cell (p := ⟨g2, _, none⟩) hgr2).trans b7, (hb.cell (p := ⟨g2, _, none⟩) hgr2).trans b8, (hb.cell (p := ⟨g2, _, none⟩) hgr2).trans b9, (hb.cell (p := ⟨g2, _, none⟩) hgr2).trans b10, (hb.cell (p := ⟨g2, _, none⟩) hgr2).trans b11, (hb.cell (p := ⟨g2, _, none⟩) hgr2).trans b12, (hb.cell (p := ⟨g2, _, none⟩) hgr2).trans b13, hb⟩)
   clear ca cb
   have q4 := Below.refl wr.heap.size wr
   go_upto_region 6 with fail
   go_cut [6, 7] from 19 to 26 (fun p q wc => ∃ b1 b2, p = .pointer (some ⟨b1, 0, none⟩) ∧ q = .pointer (some ⟨b2, 0, none⟩) ∧ wc.heap[b1]? = some (.cells #[.int .i64 kd, .string ⟨lay.toArray⟩, .int .i64 ax, .int .i64 ay, .int .i64 bx, .int .i64 b_y, .int .i64 fx, .int .i64 fy, .int .i64 tx, .int .i64 ty, .int .i64 cx, .int .i64 cy, .bool cw, .slice PA pl ka] 72 (0, 0)) ∧ wc.heap[b2]? = some (.cells #[.int .i64 kd, .string ⟨lay.toArray⟩, .int .i64 ax, .int .i64 ay, .int .i64 bx, .int .i64 b_y, .int .i64 fx, .int .i64 fy, .int .i64 tx, .int .i64 ty, .int .i64 cx, .int .i64 cy, .bool cw, .slice PB pl kb] 72 (0, 0)) ∧ Below wr.heap.size wr wc)
   case first =>
    go_wp2_with fail
    go_region_held3 (fun w' => w'.cell? ⟨g, o1 + j * 14, none⟩ = some (.int .i64 kd) ∧ w'.cell? ⟨g, o1 + j * 14 + 1, none⟩ = some (.string ⟨lay.toArray⟩) ∧ w'.cell? ⟨g, o1 + j * 14 + 2, none⟩ = some (.int .i64 ax) ∧ w'.cell? ⟨g, o1 + j * 14 + 3, none⟩ = some (.int .i64 ay) ∧ w'.cell? ⟨g, o1 + j * 14 + 4, none⟩ = some (.int .i64 bx) ∧ w'.cell? ⟨g, o1 + j * 14 + 5, none⟩ = some (.int .i64 b_y) ∧ w'.cell? ⟨g, o1 + j * 14 + 6, none⟩ = some (.int .i64 fx) ∧ w'.cell? ⟨g, o1 + j * 14 + 7, none⟩ = some (.int .i64 fy) ∧ w'.cell? ⟨g, o1 + j * 14 + 8, none⟩ = some (.int .i64 tx) ∧ w'.cell? ⟨g, o1 + j * 14 + 9, none⟩ = some (.int .i64 ty) ∧ w'.cell? ⟨g, o1 + j * 14 + 10, none⟩ = some (.int .i64 cx) ∧ w'.cell? ⟨g, o1 + j * 14 + 11, none⟩ = some (.int .i64 cy) ∧ w'.cell? ⟨g, o1 + j * 14 + 12, none⟩ = some (.bool cw) ∧ w'.cell? ⟨g, o1 + j * 14 + 13, none⟩ = some (.slice PA pl ka) ∧ w'.cell? ⟨g2, o2 + j * 14, none⟩ = some (.int .i64 kd) ∧ w'.cell? ⟨g2, o2 + j * 14 + 1, none⟩ = some (.string ⟨lay.toArray⟩) ∧ w'.cell? ⟨g2, o2 + j * 14 + 2, none⟩ = some (.int .i64 ax) ∧ w'.cell? ⟨g2, o2 + j * 14 + 3, none⟩ = some (.int .i64 ay) ∧ w'.cell? ⟨g2, o2 + j * 14 + 4, none⟩ = some (.int .i64 bx) ∧ w'.cell? ⟨g2, o2 + j * 14 + 5, none⟩ = some (.int .i64 b_y) ∧ w'.cell? ⟨g2, o2 + j * 14 + 6, none⟩ = some (.int .i64 fx) ∧ w'.cell? ⟨g2, o2 + j * 14 + 7, none⟩ = some (.int .i64 fy) ∧ w'.cell? ⟨g2, o2 + j * 14 + 8, none⟩ = some (.int .i64 tx) ∧ w'.cell? ⟨g2, o2 + j * 14 + 9, none⟩ = some (.int .i64 ty) ∧ w'.cell? ⟨g2, o2 + j * 14 + 10, none⟩ = some (.int .i64 cx) ∧ w'.cell? ⟨g2, o2 + j * 14 + 11, none⟩ = some (.int .i64 cy) ∧ w'.cell? ⟨g2, o2 + j * 14 + 12, none⟩ = some (.bool cw) ∧ w'.cell? ⟨g2, o2 + j * 14 + 13, none⟩ = some (.slice PB pl kb) ∧ Below wr.heap.size wr w')
     (first | assumption | exact CS.out _ (by (repeat (with_reducible first | assumption | exact Below.refl _ _ | refine GeW.below_drew ?_ | refine GeW.bel_alloc ?_ _ | (refine GeW.bel_set ?_ (by simp <;> omega) _)))))
     (first | fail | fail)
    all_goals
     go_wp2_with fail
     go_meet
    all_goals first
     | exact ⟨_, _, rfl, rfl, (GeW.two_vecs wr _ _).1, (GeW.two_vecs wr _ _).2, by (repeat (with_reducible first | assumption | exact Below.refl _ _ | refine GeW.below_drew ?_ | refine GeW.bel_alloc ?_ _ | (refine GeW.bel_set ?_ (by simp <;> omega) _)))⟩
     | exact ⟨_, _, rfl, rfl, (GeW.two_vecs wr _ _).2, (GeW.two_vecs wr _ _).1, by (repeat (with_reducible first | assumption | exact Below.refl _ _ | refine GeW.below_drew ?_ | refine GeW.bel_alloc ?_ _ | (refine GeW.bel_set ?_ (by simp <;> omega) _)))⟩
   case rest =>
    obtain ⟨g8, g9, rfl, rfl, hg8, hg9, hbc⟩ := hcut
    have HBC := Lib.hid (HB.out.trans (hbc.mono HB.out.size))
    clear a0 a1 a2 a3 a4 a5 a6 a7 a8 a9 a10 a11 a12 a13 b0 b1 b2 b3 b4 b5 b6 b7 b8 b9 b10 b11 b12 b13 CS HCA HCB q4
    obtain ⟨a0, a1, a2, a3, a4, a5, a6, a7, a8, a9, a10, a11, a12, a13⟩ := cells14v hg8
    obtain ⟨b0, b1, b2, b3, b4, b5, b6, b7, b8, b9, b10, b11, b12, b13⟩ := cells14v hg9
    have n2 : (kd != kd) = false := bne_self_eq_false ..
    have e1 : ∀ W, (binOp .neq 47 (.agg #[.int .i64 ax, .int .i64 ay]) (.agg #[.int .i64 ax, .int .i64 ay])).run Tryz.prog W = .ok (.bool false) W := fun W => by rw [GeW.neq_vec, decide_eq_true rfl]; rfl
    have e2 : ∀ W, (binOp .neq 47 (.agg #[.int .i64 bx, .int .i64 b_y]) (.agg #[.int .i64 bx, .int .i64 b_y])).run Tryz.prog W = .ok (.bool false) W := fun W => by rw [GeW.neq_vec, decide_eq_true rfl]; rfl
    have e3 : ∀ W, (binOp .neq 49 (.agg #[.int .i64 fx, .int .i64 fy, .int .i64 tx, .int .i64 ty, .int .i64 cx, .int .i64 cy, .bool cw]) (.agg #[.int .i64 fx, .int .i64 fy, .int .i64 tx, .int .i64 ty, .int .i64 cx, .int .i64 cy, .bool cw])).run Tryz.prog W = .ok (.bool false) W := fun W => by rw [GeW.neq_arc]; simp
    generalize (ByteArray.mk lay.toArray) = L at *
    have e4 : (L != L) = false := by rw [bne, ba_self L]; rfl
    have HSN2 := Lib.hid (HSN.out _ HBC.out)
    clear HSN
    go_wp2_with fail
    refine HSN2.out.mono ?_
    rintro e w9 ⟨rfl, hb9⟩
    have HB9 := Lib.hid (HBC.out.trans (hb9.mono HBC.out.size))
    clear a0 a1 a2 a3 a4 a5 a6 a7 a8 a9 a10 a11 a12 a13 b0 b1 b2 b3 b4 b5 b6 b7 b8 b9 b10 b11 b12 b13 hb9 e1 e2 e3 e4
    go_wp2
    go_roundw
    case rel => exact ⟨j + 1, by go_num, by omega, HB9⟩
    case measure => simp [intOf]; omega
  ·obtain rfl : j = es.length := by omega
   go_wp2
   go_ret
   exact ⟨rfl, HB.out⟩
end Go.Proofs.YtnmmhcchpcbeeaaGreatDoor.GtW
