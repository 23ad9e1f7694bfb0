/- Walk: the reference's Encode. Conditions: the drawing lies in memory, of at most a thousand entities with names of at most a million bytes. -/
import Derived.Test.YtnmmhcchpcbeeaaGreatDoorGtFb
import Derived.Test.YtnmmhcchpcbeeaaGreatDoorGtEd

namespace Go.Proofs.YtnmmhcchpcbeeaaGreatDoor.GtW
open Go Go.RowKit Go.Proofs.YtnmmhcchpcbeeaaGreatDoor.Mem Go.Proofs.YtnmmhcchpcbeeaaGreatDoor.Gt Go.Proofs.YtnmmhcchpcbeeaaGreatDoor.Ge
open Go.Proofs.YtnmmhcchpcbeeaaGreatDoor.GeW (EntV entVals PtsIn PtAt Tagged RowT RowW Ents own_keep own_tag ptCells)
attribute [local go_sem ↓] Go.wp_at_zero Go.wp_at_succ

open Go.Proofs.YtnmmhcchpcbeeaaGreatDoor.LexW (ritoa_any)
set_option maxRecDepth 100000 in
set_option maxHeartbeats 8000000 in
theorem rencode_any (xs : List EntV) (A : Option Addr) (c : Nat) (w : World) (hx : Ents w A xs) (hn : xs.length ≤ 1000) :
  Calls Tryz.prog 15 #[.slice A xs.length c] w fun e w' => e = .returned (.tuple #[.string ⟨(if drawOk (xs.map EntV.e) = true then enc (xs.map EntV.e) else []).toArray⟩, .int .i64 (if drawOk (xs.map EntV.e) = true then 0 else 1)]) ∧ Below w.heap.size w w' := by
 have HXS := Lib.hid hx
 have HV := Lib.hid (rdrawOk_any xs A c w hx)
 have HAL : Hid (drawOk (xs.map EntV.e) = true → ∀ x ∈ xs, entOk x.e = true) := Lib.hid (fun h x hx => by
  unfold drawOk at h
  rw [Bool.and_eq_true, List.all_eq_true] at h
  exact h.2 x.e (List.mem_map_of_mem hx))
 obtain ⟨DK, HDK⟩ : ∃ DK, Hid (drawOk (xs.map EntV.e) = DK) := ⟨_, Lib.hid rfl⟩
 rw [HDK.out] at HV HAL ⊢
 clear hx
 go_enter Tryz.func15, Tryz.ntmps15
 go_wp2_with fail
 refine HV.out.mono ?_
 rintro e w1 ⟨rfl, hb1⟩
 clear HV HDK
 cases DK
 ·go_wp2
  go_ret2
  exact ⟨rfl, hb1⟩
 have HALX : Hid (∀ x ∈ xs, entOk x.e = true) := Lib.hid (HAL.out rfl)
 clear HAL
 have HB0 := Lib.hid hb1
 clear hb1
 go_wp2
 go_loopw [4, 5] (fun s v wr => ∃ j : Nat, v = .int .i64 (j : Int) ∧ j ≤ xs.length ∧ Hid ((textOf ((xs.take j).flatMap fun x => entL x.e)).length ≤ 1010000 * j) ∧ s = .string ⟨(textOf ((xs.take j).flatMap fun x => entL x.e)).toArray⟩ ∧ Hid (Below w.heap.size w wr)) (fun _ v _ => xs.length - (intOf v).toNat)
 case atStart => exact ⟨0, rfl, Nat.zero_le _, Lib.hid (by simp [textOf]), by simp [textOf], HB0⟩
 case round =>
  obtain ⟨j, rfl, hj, HLEN, rfl, HBW⟩ := hrel
  by_cases hlt : j < xs.length
  ·have HTJ : Hid (xs.take (j + 1) = xs.take j ++ [xs[j]]) := Lib.hid (List.take_succ_eq_append_getElem hlt)
   have HOKX := Lib.hid (HALX.out xs[j] (List.getElem_mem hlt))
   have HPX := Lib.hid (HXS.out.2.1 xs[j] (List.getElem_mem hlt))
   obtain ⟨g, off, rfl, hg, ca⟩ := row_get GeW.ent_len (by decide) HXS.out.1 (by omega)
   have a0 := (HBW.out.cell (p := ⟨g, off + j * 14 + 0, none⟩) hg).trans (ca j hlt 0 (by decide))
   have a1 := (HBW.out.cell (p := ⟨g, off + j * 14 + 1, none⟩) hg).trans (ca j hlt 1 (by decide))
   have a2 := (HBW.out.cell (p := ⟨g, off + j * 14 + 2, none⟩) hg).trans (ca j hlt 2 (by decide))
   have a3 := (HBW.out.cell (p := ⟨g, off + j * 14 + 3, none⟩) hg).trans (ca j hlt 3 (by decide))
   have a4 := (HBW.out.cell (p := ⟨g, off + j * 14 + 4, none⟩) hg).trans (ca j hlt 4 (by decide))
   have a5 := (HBW.out.cell (p := ⟨g, off + j * 14 + 5, none⟩) hg).trans (ca j hlt 5 (by decide))
   have a6 := (HBW.out.cell (p := ⟨g, off + j * 14 + 6, none⟩) hg).trans (ca j hlt 6 (by decide))
   have a7 := (HBW.out.cell (p := ⟨g, off + j * 14 + 7, none⟩) hg).trans (ca j hlt 7 (by decide))
   have a8 := (HBW.out.cell (p := ⟨g, off + j * 14 + 8, none⟩) hg).trans (ca j hlt 8 (by decide))
   have a9 := (HBW.out.cell (p := ⟨g, off + j * 14 + 9, none⟩) hg).trans (ca j hlt 9 (by decide))
   have a10 := (HBW.out.cell (p := ⟨g, off + j * 14 + 10, none⟩) hg).trans (ca j hlt 10 (by decide))
   have a11 := (HBW.out.cell (p := ⟨g, off + j * 14 + 11, none⟩) hg).trans (ca j hlt 11 (by decide))
   have a12 := (HBW.out.cell (p := ⟨g, off + j * 14 + 12, none⟩) hg).trans (ca j hlt 12 (by decide))
   have a13 := (HBW.out.cell (p := ⟨g, off + j * 14 + 13, none⟩) hg).trans (ca j hlt 13 (by decide))
   clear ca
   generalize xs[j] = q at *
   obtain ⟨⟨kd, lay, ⟨ax, ay⟩, ⟨bx, b_y⟩, ⟨fx, fy⟩, ⟨tx, ty⟩, ⟨cx, cy⟩, cw, pts⟩, PA, ka⟩ := q
   have HEL := Lib.hid (entL_len HOKX.out HPX.out.2.2.2)
   have HLY1 := HPX.out.2.2.2
   have HPR := Lib.hid HPX.out.1
   have HEK := Lib.hid (ent_kind HOKX.out)
   simp only at HTJ HEL HLY1 HPR HEK
   simp only [entVals, List.getElem?_cons_zero, List.getElem?_cons_succ, Nat.add_zero] at a0 a1 a2 a3 a4 a5 a6 a7 a8 a9 a10 a11 a12 a13
   obtain ⟨pl, HPL⟩ : ∃ pl, Hid (pts.length = pl) := ⟨_, Lib.hid rfl⟩
   rw [HPL.out] at a13
   have hj1 : (0 : Int) ≤ (j : Int) := by omega
   have hj2 : (j : Int) < (xs.length : Int) := by omega
   clear HOKX HPX
   rcases HEK.out with ⟨hk, h1, h2⟩ | ⟨hk, h1, h2, h3⟩ | ⟨hk, h1, h2⟩
   ·subst hk
    clear HEK
    have HENT : Hid (entL ⟨1, lay, (ax, ay), (bx, b_y), (fx, fy), (tx, ty), (cx, cy), cw, pts⟩ = gr 0 kLine ++ (gr 8 lay ++ (ptL 10 (ax, ay) ++ ptL 11 (bx, b_y)))) := Lib.hid (rfl)
    have HL2 : Hid ((textOf ((xs.take (j + 1)).flatMap fun x => entL x.e)).length ≤ 1010000 * (j + 1)) := Lib.hid (by
     rw [HTJ.out, List.flatMap_append, textOf_append, List.length_append]
     simp only [List.flatMap_cons, List.flatMap_nil, List.append_nil]
     have h1 := HLEN.out
     have h2 := HEL.out
     omega)
    have zS : (ByteArray.mk (textOf ((xs.take j).flatMap fun x => entL x.e)).toArray).size ≤ 1010000000 := by rw [str_size]; have := HLEN.out; omega
    have HG0 : Hid (∀ W, Calls Tryz.prog 43 #[.int .i64 0, .string ⟨#[76, 73, 78, 69]⟩] W fun e w' => e = .returned (.string ⟨(textOf (gr 0 (kLine))).toArray⟩) ∧ Below W.heap.size W w') := Lib.hid (fun W => rgtext_any (kLine) 0 W (by decide) (by omega))
    have zG0 : (ByteArray.mk (textOf (gr 0 (kLine))).toArray).size ≤ 60 := by rw [str_size]; have := gr_len 0 (kLine) (by omega); have h0 : (kLine).length ≤ 4 := (by decide); omega
    have HG1 : Hid (∀ W, Calls Tryz.prog 43 #[.int .i64 8, .string ⟨(lay).toArray⟩] W fun e w' => e = .returned (.string ⟨(textOf (gr 8 (lay))).toArray⟩) ∧ Below W.heap.size W w') := Lib.hid (fun W => rgtext_any (lay) 8 W (by have h0 := HLY1; omega) (by omega))
    have zG1 : (ByteArray.mk (textOf (gr 8 (lay))).toArray).size ≤ 1000100 := by rw [str_size]; have := gr_len 8 (lay) (by omega); have h0 : (lay).length ≤ 1000000 := (HLY1); omega
    have HP0 : Hid (∀ W, Calls Tryz.prog 44 #[.int .i64 10, .agg #[.int .i64 ax, .int .i64 ay]] W fun e w' => e = .returned (.string ⟨(textOf (ptL 10 (ax, ay))).toArray⟩) ∧ Below W.heap.size W w') := Lib.hid (fun W => rptext_any (ax, ay) 10 W h1 (by omega))
    have zP0 : (ByteArray.mk (textOf (ptL 10 (ax, ay))).toArray).size ≤ 88 := by rw [str_size]; exact ptL_len 10 (ax, ay) (by omega) h1
    have HP1 : Hid (∀ W, Calls Tryz.prog 44 #[.int .i64 11, .agg #[.int .i64 bx, .int .i64 b_y]] W fun e w' => e = .returned (.string ⟨(textOf (ptL 11 (bx, b_y))).toArray⟩) ∧ Below W.heap.size W w') := Lib.hid (fun W => rptext_any (bx, b_y) 11 W h2 (by omega))
    have zP1 : (ByteArray.mk (textOf (ptL 11 (bx, b_y))).toArray).size ≤ 88 := by rw [str_size]; exact ptL_len 11 (bx, b_y) (by omega) h2
    have HOUT : Hid ((ByteArray.mk (textOf ((xs.take j).flatMap fun x => entL x.e)).toArray) ++ (ByteArray.mk (textOf (gr 0 kLine)).toArray) ++ (ByteArray.mk (textOf (gr 8 lay)).toArray) ++ (ByteArray.mk (textOf (ptL 10 (ax, ay))).toArray) ++ (ByteArray.mk (textOf (ptL 11 (bx, b_y))).toArray) = ByteArray.mk (textOf ((xs.take (j + 1)).flatMap fun x => entL x.e)).toArray) := Lib.hid (by
     simp only [str_app]
     rw [HTJ.out, List.flatMap_append, textOf_append]
     simp only [List.flatMap_cons, List.flatMap_nil, List.append_nil]
     rw [HENT.out]
     simp only [textOf_append, List.append_assoc])
    clear h1 h2
    have HX := Lib.hid (GeW.heap_alloc_new wr (.cells #[.int .i64 1, .string ⟨lay.toArray⟩, .int .i64 ax, .int .i64 ay, .int .i64 bx, .int .i64 b_y, .int .i64 fx, .int .i64 fy, .int .i64 tx, .int .i64 ty, .int .i64 cx, .int .i64 cy, .bool cw, .slice PA pl ka] 72))
    have HB1 : Hid (Below w.heap.size w (wr.alloc (.cells #[.int .i64 1, .string ⟨lay.toArray⟩, .int .i64 ax, .int .i64 ay, .int .i64 bx, .int .i64 b_y, .int .i64 fx, .int .i64 fy, .int .i64 tx, .int .i64 ty, .int .i64 cx, .int .i64 cy, .bool cw, .slice PA pl ka] 72))) := Lib.hid (HBW.out.trans ((bel1 wr _).mono HBW.out.size))
    have hz1 : wr.heap.size < (wr.alloc (.cells #[.int .i64 1, .string ⟨lay.toArray⟩, .int .i64 ax, .int .i64 ay, .int .i64 bx, .int .i64 b_y, .int .i64 fx, .int .i64 fy, .int .i64 tx, .int .i64 ty, .int .i64 cx, .int .i64 cy, .bool cw, .slice PA pl ka] 72)).heap.size := blk_lt HX.out
    generalize (ByteArray.mk (textOf (gr 0 kLine)).toArray) = G0 at *
    generalize (ByteArray.mk (textOf (gr 8 lay)).toArray) = G1 at *
    generalize (ByteArray.mk (textOf (ptL 10 (ax, ay))).toArray) = P0 at *
    generalize (ByteArray.mk (textOf (ptL 11 (bx, b_y))).toArray) = P1 at *
    generalize (ByteArray.mk (textOf ((xs.take j).flatMap fun x => entL x.e)).toArray) = SB at *
    generalize (ByteArray.mk (lay).toArray) = LB at *
    have hc0 : (9223372036854775807 < (SB).size + G0.size) = False := eq_false (by first | omega | (simp only [ByteArray.size_append]; omega))
    have hc1 : (9223372036854775807 < (SB ++ G0).size + G1.size) = False := eq_false (by first | omega | (simp only [ByteArray.size_append]; omega))
    have hd1 : (9223372036854775807 < SB.size + G0.size + G1.size) = False := eq_false (by omega)
    have hc2 : (9223372036854775807 < (SB ++ G0 ++ G1).size + P0.size) = False := eq_false (by first | omega | (simp only [ByteArray.size_append]; omega))
    have hd2 : (9223372036854775807 < SB.size + G0.size + G1.size + P0.size) = False := eq_false (by omega)
    have hc3 : (9223372036854775807 < (SB ++ G0 ++ G1 ++ P0).size + P1.size) = False := eq_false (by first | omega | (simp only [ByteArray.size_append]; omega))
    have hd3 : (9223372036854775807 < SB.size + G0.size + G1.size + P0.size + P1.size) = False := eq_false (by omega)
    go_upto_region 15 with fail
    generalize wr.alloc (.cells #[.int .i64 1, .string LB, .int .i64 ax, .int .i64 ay, .int .i64 bx, .int .i64 b_y, .int .i64 fx, .int .i64 fy, .int .i64 tx, .int .i64 ty, .int .i64 cx, .int .i64 cy, .bool cw, .slice PA pl ka] 72) = W1 at *
    generalize wr.heap.size = xb at *
    clear a0 a1 a2 a3 a4 a5 a6 a7 a8 a9 a10 a11 a12 a13
    have x1 := cell_of HX.out 1 _ rfl
    have x2 := cell_of HX.out 2 _ rfl
    have x3 := cell_of HX.out 3 _ rfl
    have x4 := cell_of HX.out 4 _ rfl
    have x5 := cell_of HX.out 5 _ rfl
    refine wp_region_det (fun w' => Below W1.heap.size W1 w') (by kernel_rfl) (GeW.below_drew (Below.refl _ _)) ?_
    refine wpAnyD_take (i := 0) (oi := { dst := some 54, op := Op.move (Operand.tmp 4), type := 9, pos := "ref.go:92", after := #[], guard := none }) (v := ?_) rfl (by kernel_rfl) (by kernel_rfl) (by kernel_rfl) (Or.inl (Or.inl ⟨by rfl, ?_⟩)) ?_
    rotate_left
    ·intro w' hSw
     (try dsimp only at hSw)
     have s1 := (hSw.cell (p := ⟨xb, 1, none⟩) hz1).trans x1; have s2 := (hSw.cell (p := ⟨xb, 2, none⟩) hz1).trans x2; have s3 := (hSw.cell (p := ⟨xb, 3, none⟩) hz1).trans x3; have s4 := (hSw.cell (p := ⟨xb, 4, none⟩) hz1).trans x4; have s5 := (hSw.cell (p := ⟨xb, 5, none⟩) hz1).trans x5
     first | (go_simp; done) | (go_simp; with_reducible rfl)
    try simp only [Act.put, List.setIfInBounds_toArray, List.set_cons_zero, List.set_cons_succ]
    refine wpAnyD_take (i := 3) (oi := { dst := some 57, op := Op.fieldAddr 72 (Operand.tmp 6) 1, type := 0, pos := "ref.go:92", after := #[], guard := none }) (v := ?_) rfl (by kernel_rfl) (by kernel_rfl) (by kernel_rfl) (Or.inl (Or.inl ⟨by rfl, ?_⟩)) ?_
    rotate_left
    ·intro w' hSw
     (try dsimp only at hSw)
     have s1 := (hSw.cell (p := ⟨xb, 1, none⟩) hz1).trans x1; have s2 := (hSw.cell (p := ⟨xb, 2, none⟩) hz1).trans x2; have s3 := (hSw.cell (p := ⟨xb, 3, none⟩) hz1).trans x3; have s4 := (hSw.cell (p := ⟨xb, 4, none⟩) hz1).trans x4; have s5 := (hSw.cell (p := ⟨xb, 5, none⟩) hz1).trans x5
     first | (go_simp; done) | (go_simp; with_reducible rfl)
    try simp only [Act.put, List.setIfInBounds_toArray, List.set_cons_zero, List.set_cons_succ]
    refine wpAnyD_take (i := 4) (oi := { dst := some 58, op := Op.load 9 (Operand.tmp 57), type := 9, pos := "ref.go:92", after := #[{ on := 3, ground := Ground.data }], guard := none }) (v := ?_) rfl (by kernel_rfl) (by kernel_rfl) (by kernel_rfl) (Or.inl (Or.inl ⟨by rfl, ?_⟩)) ?_
    rotate_left
    ·intro w' hSw
     (try dsimp only at hSw)
     have s1 := (hSw.cell (p := ⟨xb, 1, none⟩) hz1).trans x1; have s2 := (hSw.cell (p := ⟨xb, 2, none⟩) hz1).trans x2; have s3 := (hSw.cell (p := ⟨xb, 3, none⟩) hz1).trans x3; have s4 := (hSw.cell (p := ⟨xb, 4, none⟩) hz1).trans x4; have s5 := (hSw.cell (p := ⟨xb, 5, none⟩) hz1).trans x5
     first | (go_simp; done) | (go_simp; with_reducible rfl)
    try simp only [Act.put, List.setIfInBounds_toArray, List.set_cons_zero, List.set_cons_succ]
    refine wpAnyD_take (i := 7) (oi := { dst := some 61, op := Op.fieldAddr 72 (Operand.tmp 6) 2, type := 0, pos := "ref.go:92", after := #[], guard := none }) (v := ?_) rfl (by kernel_rfl) (by kernel_rfl) (by kernel_rfl) (Or.inl (Or.inl ⟨by rfl, ?_⟩)) ?_
    rotate_left
    ·intro w' hSw
     (try dsimp only at hSw)
     have s1 := (hSw.cell (p := ⟨xb, 1, none⟩) hz1).trans x1; have s2 := (hSw.cell (p := ⟨xb, 2, none⟩) hz1).trans x2; have s3 := (hSw.cell (p := ⟨xb, 3, none⟩) hz1).trans x3; have s4 := (hSw.cell (p := ⟨xb, 4, none⟩) hz1).trans x4; have s5 := (hSw.cell (p := ⟨xb, 5, none⟩) hz1).trans x5
     first | (go_simp; done) | (go_simp; with_reducible rfl)
    try simp only [Act.put, List.setIfInBounds_toArray, List.set_cons_zero, List.set_cons_succ]
    refine wpAnyD_take (i := 8) (oi := { dst := some 62, op := Op.load 47 (Operand.tmp 61), type := 47, pos := "ref.go:92", after := #[{ on := 7, ground := Ground.data }], guard := none }) (v := ?_) rfl (by kernel_rfl) (by kernel_rfl) (by kernel_rfl) (Or.inl (Or.inl ⟨by rfl, ?_⟩)) ?_
    rotate_left
    ·intro w' hSw
     (try dsimp only at hSw)
     have s1 := (hSw.cell (p := ⟨xb, 1, none⟩) hz1).trans x1; have s2 := (hSw.cell (p := ⟨xb, 2, none⟩) hz1).trans x2; have s3 := (hSw.cell (p := ⟨xb, 3, none⟩) hz1).trans x3; have s4 := (hSw.cell (p := ⟨xb, 4, none⟩) hz1).trans x4; have s5 := (hSw.cell (p := ⟨xb, 5, none⟩) hz1).trans x5
     first | (go_simp; done) | (go_simp; with_reducible rfl)
    try simp only [Act.put, List.setIfInBounds_toArray, List.set_cons_zero, List.set_cons_succ]
    refine wpAnyD_take (i := 11) (oi := { dst := some 65, op := Op.fieldAddr 72 (Operand.tmp 6) 3, type := 0, pos := "ref.go:92", after := #[], guard := none }) (v := ?_) rfl (by kernel_rfl) (by kernel_rfl) (by kernel_rfl) (Or.inl (Or.inl ⟨by rfl, ?_⟩)) ?_
    rotate_left
    ·intro w' hSw
     (try dsimp only at hSw)
     have s1 := (hSw.cell (p := ⟨xb, 1, none⟩) hz1).trans x1; have s2 := (hSw.cell (p := ⟨xb, 2, none⟩) hz1).trans x2; have s3 := (hSw.cell (p := ⟨xb, 3, none⟩) hz1).trans x3; have s4 := (hSw.cell (p := ⟨xb, 4, none⟩) hz1).trans x4; have s5 := (hSw.cell (p := ⟨xb, 5, none⟩) hz1).trans x5
     first | (go_simp; done) | (go_simp; with_reducible rfl)
    try simp only [Act.put, List.setIfInBounds_toArray, List.set_cons_zero, List.set_cons_succ]
    refine wpAnyD_take (i := 12) (oi := { dst := some 66, op := Op.load 47 (Operand.tmp 65), type := 47, pos := "ref.go:92", after := #[{ on := 11, ground := Ground.data }], guard := none }) (v := ?_) rfl (by kernel_rfl) (by kernel_rfl) (by kernel_rfl) (Or.inl (Or.inl ⟨by rfl, ?_⟩)) ?_
    rotate_left
    ·intro w' hSw
     (try dsimp only at hSw)
     have s1 := (hSw.cell (p := ⟨xb, 1, none⟩) hz1).trans x1; have s2 := (hSw.cell (p := ⟨xb, 2, none⟩) hz1).trans x2; have s3 := (hSw.cell (p := ⟨xb, 3, none⟩) hz1).trans x3; have s4 := (hSw.cell (p := ⟨xb, 4, none⟩) hz1).trans x4; have s5 := (hSw.cell (p := ⟨xb, 5, none⟩) hz1).trans x5
     first | (go_simp; done) | (go_simp; with_reducible rfl)
    try simp only [Act.put, List.setIfInBounds_toArray, List.set_cons_zero, List.set_cons_succ]
    refine wpAnyD_take (i := 1) (oi := { dst := some 55, op := Op.call { callee := Callee.value (Operand.func 43), args := #[Operand.const (Value.int IntKind.i64 0), Operand.const (Value.string { data := #[76, 73, 78, 69] })], argTypes := #[3, 9] }, type := 9, pos := "ref.go:92", after := #[], guard := none }) (v := (.string G0)) rfl (by kernel_rfl) (by kernel_rfl) (by kernel_rfl) (Or.inr ⟨by rfl, 43, #[.int .i64 0, .string ⟨#[76, 73, 78, 69]⟩], ?_, ?_⟩) ?_
    ·intro w' hSw
     (try dsimp only at hSw)
     first | rfl | (go_simp; done) | (go_simp; with_reducible rfl)
    ·intro w' hSw
     exact (HG0.out w').mono fun e u ⟨he, hb⟩ => ⟨he, hSw.trans (hb.mono hSw.size)⟩
    try simp only [Act.put, List.setIfInBounds_toArray, List.set_cons_zero, List.set_cons_succ]
    refine wpAnyD_take (i := 2) (oi := { dst := some 56, op := Op.binOp BinOp.add 9 (Operand.tmp 54) (Operand.tmp 55) 9, type := 9, pos := "ref.go:92", after := #[{ on := 0, ground := Ground.data }, { on := 1, ground := Ground.data }], guard := none }) (v := ?_) rfl (by kernel_rfl) (by kernel_rfl) (by kernel_rfl) (Or.inl (Or.inl ⟨by rfl, ?_⟩)) ?_
    rotate_left
    ·intro w' hSw
     (try dsimp only at hSw)
     have s1 := (hSw.cell (p := ⟨xb, 1, none⟩) hz1).trans x1; have s2 := (hSw.cell (p := ⟨xb, 2, none⟩) hz1).trans x2; have s3 := (hSw.cell (p := ⟨xb, 3, none⟩) hz1).trans x3; have s4 := (hSw.cell (p := ⟨xb, 4, none⟩) hz1).trans x4; have s5 := (hSw.cell (p := ⟨xb, 5, none⟩) hz1).trans x5
     first | (go_simp; done) | (go_simp; with_reducible rfl)
    try simp only [Act.put, List.setIfInBounds_toArray, List.set_cons_zero, List.set_cons_succ]
    refine wpAnyD_take (i := 5) (oi := { dst := some 59, op := Op.call { callee := Callee.value (Operand.func 43), args := #[Operand.const (Value.int IntKind.i64 8), Operand.tmp 58], argTypes := #[3, 9] }, type := 9, pos := "ref.go:92", after := #[{ on := 4, ground := Ground.data }, { on := 1, ground := Ground.chain }], guard := none }) (v := (.string G1)) rfl (by kernel_rfl) (by kernel_rfl) (by kernel_rfl) (Or.inr ⟨by rfl, 43, #[.int .i64 8, .string LB], ?_, ?_⟩) ?_
    ·intro w' hSw
     (try dsimp only at hSw)
     first | rfl | (go_simp; done) | (go_simp; with_reducible rfl)
    ·intro w' hSw
     exact (HG1.out w').mono fun e u ⟨he, hb⟩ => ⟨he, hSw.trans (hb.mono hSw.size)⟩
    try simp only [Act.put, List.setIfInBounds_toArray, List.set_cons_zero, List.set_cons_succ]
    refine wpAnyD_take (i := 6) (oi := { dst := some 60, op := Op.binOp BinOp.add 9 (Operand.tmp 56) (Operand.tmp 59) 9, type := 9, pos := "ref.go:92", after := #[{ on := 2, ground := Ground.data }, { on := 5, ground := Ground.data }], guard := none }) (v := ?_) rfl (by kernel_rfl) (by kernel_rfl) (by kernel_rfl) (Or.inl (Or.inl ⟨by rfl, ?_⟩)) ?_
    rotate_left
    ·intro w' hSw
     (try dsimp only at hSw)
     have s1 := (hSw.cell (p := ⟨xb, 1, none⟩) hz1).trans x1; have s2 := (hSw.cell (p := ⟨xb, 2, none⟩) hz1).trans x2; have s3 := (hSw.cell (p := ⟨xb, 3, none⟩) hz1).trans x3; have s4 := (hSw.cell (p := ⟨xb, 4, none⟩) hz1).trans x4; have s5 := (hSw.cell (p := ⟨xb, 5, none⟩) hz1).trans x5
     first | (go_simp; done) | (go_simp; with_reducible rfl)
    try simp only [Act.put, List.setIfInBounds_toArray, List.set_cons_zero, List.set_cons_succ]
    refine wpAnyD_take (i := 9) (oi := { dst := some 63, op := Op.call { callee := Callee.value (Operand.func 44), args := #[Operand.const (Value.int IntKind.i64 10), Operand.tmp 62], argTypes := #[3, 47] }, type := 9, pos := "ref.go:92", after := #[{ on := 8, ground := Ground.data }, { on := 5, ground := Ground.chain }], guard := none }) (v := (.string P0)) rfl (by kernel_rfl) (by kernel_rfl) (by kernel_rfl) (Or.inr ⟨by rfl, 44, #[.int .i64 10, .agg #[.int .i64 ax, .int .i64 ay]], ?_, ?_⟩) ?_
    ·intro w' hSw
     (try dsimp only at hSw)
     first | rfl | (go_simp; done) | (go_simp; with_reducible rfl)
    ·intro w' hSw
     exact (HP0.out w').mono fun e u ⟨he, hb⟩ => ⟨he, hSw.trans (hb.mono hSw.size)⟩
    try simp only [Act.put, List.setIfInBounds_toArray, List.set_cons_zero, List.set_cons_succ]
    refine wpAnyD_take (i := 10) (oi := { dst := some 64, op := Op.binOp BinOp.add 9 (Operand.tmp 60) (Operand.tmp 63) 9, type := 9, pos := "ref.go:92", after := #[{ on := 6, ground := Ground.data }, { on := 9, ground := Ground.data }], guard := none }) (v := ?_) rfl (by kernel_rfl) (by kernel_rfl) (by kernel_rfl) (Or.inl (Or.inl ⟨by rfl, ?_⟩)) ?_
    rotate_left
    ·intro w' hSw
     (try dsimp only at hSw)
     have s1 := (hSw.cell (p := ⟨xb, 1, none⟩) hz1).trans x1; have s2 := (hSw.cell (p := ⟨xb, 2, none⟩) hz1).trans x2; have s3 := (hSw.cell (p := ⟨xb, 3, none⟩) hz1).trans x3; have s4 := (hSw.cell (p := ⟨xb, 4, none⟩) hz1).trans x4; have s5 := (hSw.cell (p := ⟨xb, 5, none⟩) hz1).trans x5
     first | (go_simp; done) | (go_simp; with_reducible rfl)
    try simp only [Act.put, List.setIfInBounds_toArray, List.set_cons_zero, List.set_cons_succ]
    refine wpAnyD_take (i := 13) (oi := { dst := some 67, op := Op.call { callee := Callee.value (Operand.func 44), args := #[Operand.const (Value.int IntKind.i64 11), Operand.tmp 66], argTypes := #[3, 47] }, type := 9, pos := "ref.go:92", after := #[{ on := 12, ground := Ground.data }, { on := 9, ground := Ground.chain }], guard := none }) (v := (.string P1)) rfl (by kernel_rfl) (by kernel_rfl) (by kernel_rfl) (Or.inr ⟨by rfl, 44, #[.int .i64 11, .agg #[.int .i64 bx, .int .i64 b_y]], ?_, ?_⟩) ?_
    ·intro w' hSw
     (try dsimp only at hSw)
     first | rfl | (go_simp; done) | (go_simp; with_reducible rfl)
    ·intro w' hSw
     exact (HP1.out w').mono fun e u ⟨he, hb⟩ => ⟨he, hSw.trans (hb.mono hSw.size)⟩
    try simp only [Act.put, List.setIfInBounds_toArray, List.set_cons_zero, List.set_cons_succ]
    refine wpAnyD_take (i := 14) (oi := { dst := some 68, op := Op.binOp BinOp.add 9 (Operand.tmp 64) (Operand.tmp 67) 9, type := 9, pos := "ref.go:92", after := #[{ on := 10, ground := Ground.data }, { on := 13, ground := Ground.data }], guard := none }) (v := ?_) rfl (by kernel_rfl) (by kernel_rfl) (by kernel_rfl) (Or.inl (Or.inl ⟨by rfl, ?_⟩)) ?_
    rotate_left
    ·intro w' hSw
     (try dsimp only at hSw)
     have s1 := (hSw.cell (p := ⟨xb, 1, none⟩) hz1).trans x1; have s2 := (hSw.cell (p := ⟨xb, 2, none⟩) hz1).trans x2; have s3 := (hSw.cell (p := ⟨xb, 3, none⟩) hz1).trans x3; have s4 := (hSw.cell (p := ⟨xb, 4, none⟩) hz1).trans x4; have s5 := (hSw.cell (p := ⟨xb, 5, none⟩) hz1).trans x5
     first | (go_simp; done) | (go_simp; with_reducible rfl)
    try simp only [Act.put, List.setIfInBounds_toArray, List.set_cons_zero, List.set_cons_succ]
    refine wpAnyD_take (i := 15) (oi := { dst := some 4, op := Op.assign (Operand.tmp 68), type := 9, pos := "ref.go:92", after := #[{ on := 14, ground := Ground.data }, { on := 13, ground := Ground.chain }, { on := 0, ground := Ground.phase }, { on := 1, ground := Ground.phase }, { on := 2, ground := Ground.phase }, { on := 3, ground := Ground.phase }, { on := 4, ground := Ground.phase }, { on := 5, ground := Ground.phase }, { on := 6, ground := Ground.phase }, { on := 7, ground := Ground.phase }, { on := 8, ground := Ground.phase }, { on := 9, ground := Ground.phase }, { on := 10, ground := Ground.phase }, { on := 11, ground := Ground.phase }, { on := 12, ground := Ground.phase }, { on := 13, ground := Ground.phase }, { on := 14, ground := Ground.phase }], guard := none }) (v := ?_) rfl (by kernel_rfl) (by kernel_rfl) (by kernel_rfl) (Or.inl (Or.inl ⟨by rfl, ?_⟩)) ?_
    rotate_left
    ·intro w' hSw
     (try dsimp only at hSw)
     have s1 := (hSw.cell (p := ⟨xb, 1, none⟩) hz1).trans x1; have s2 := (hSw.cell (p := ⟨xb, 2, none⟩) hz1).trans x2; have s3 := (hSw.cell (p := ⟨xb, 3, none⟩) hz1).trans x3; have s4 := (hSw.cell (p := ⟨xb, 4, none⟩) hz1).trans x4; have s5 := (hSw.cell (p := ⟨xb, 5, none⟩) hz1).trans x5
     first | (go_simp; done) | (go_simp; with_reducible rfl)
    try simp only [Act.put, List.setIfInBounds_toArray, List.set_cons_zero, List.set_cons_succ]
    refine wpAnyD_done (by kernel_rfl) (fun w' hSw => ?_) _
    go_wp2
    go_roundw
    case rel => exact ⟨j + 1, by go_num, by omega, HL2, by rw [← HOUT.out], Lib.hid (HB1.out.trans (hSw.mono HB1.out.size))⟩
    case measure => simp [intOf]; omega
   ·subst hk
    clear HEK
    have HENT : Hid (entL ⟨2, lay, (ax, ay), (bx, b_y), (fx, fy), (tx, ty), (cx, cy), cw, pts⟩ = gr 0 kArc ++ (gr 8 lay ++ (ptL 10 (fx, fy) ++ (ptL 11 (tx, ty) ++ (ptL 12 (cx, cy) ++ gr 70 (if cw = true then [49] else [48])))))) := Lib.hid (rfl)
    have HL2 : Hid ((textOf ((xs.take (j + 1)).flatMap fun x => entL x.e)).length ≤ 1010000 * (j + 1)) := Lib.hid (by
     rw [HTJ.out, List.flatMap_append, textOf_append, List.length_append]
     simp only [List.flatMap_cons, List.flatMap_nil, List.append_nil]
     have h1 := HLEN.out
     have h2 := HEL.out
     omega)
    have zS : (ByteArray.mk (textOf ((xs.take j).flatMap fun x => entL x.e)).toArray).size ≤ 1010000000 := by rw [str_size]; have := HLEN.out; omega
    have HG0 : Hid (∀ W, Calls Tryz.prog 43 #[.int .i64 0, .string ⟨#[65, 82, 67]⟩] W fun e w' => e = .returned (.string ⟨(textOf (gr 0 (kArc))).toArray⟩) ∧ Below W.heap.size W w') := Lib.hid (fun W => rgtext_any (kArc) 0 W (by decide) (by omega))
    have zG0 : (ByteArray.mk (textOf (gr 0 (kArc))).toArray).size ≤ 60 := by rw [str_size]; have := gr_len 0 (kArc) (by omega); have h0 : (kArc).length ≤ 4 := (by decide); omega
    have HG1 : Hid (∀ W, Calls Tryz.prog 43 #[.int .i64 8, .string ⟨(lay).toArray⟩] W fun e w' => e = .returned (.string ⟨(textOf (gr 8 (lay))).toArray⟩) ∧ Below W.heap.size W w') := Lib.hid (fun W => rgtext_any (lay) 8 W (by have h0 := HLY1; omega) (by omega))
    have zG1 : (ByteArray.mk (textOf (gr 8 (lay))).toArray).size ≤ 1000100 := by rw [str_size]; have := gr_len 8 (lay) (by omega); have h0 : (lay).length ≤ 1000000 := (HLY1); omega
    have HP0 : Hid (∀ W, Calls Tryz.prog 44 #[.int .i64 10, .agg #[.int .i64 fx, .int .i64 fy]] W fun e w' => e = .returned (.string ⟨(textOf (ptL 10 (fx, fy))).toArray⟩) ∧ Below W.heap.size W w') := Lib.hid (fun W => rptext_any (fx, fy) 10 W h1 (by omega))
    have zP0 : (ByteArray.mk (textOf (ptL 10 (fx, fy))).toArray).size ≤ 88 := by rw [str_size]; exact ptL_len 10 (fx, fy) (by omega) h1
    have HP1 : Hid (∀ W, Calls Tryz.prog 44 #[.int .i64 11, .agg #[.int .i64 tx, .int .i64 ty]] W fun e w' => e = .returned (.string ⟨(textOf (ptL 11 (tx, ty))).toArray⟩) ∧ Below W.heap.size W w') := Lib.hid (fun W => rptext_any (tx, ty) 11 W h2 (by omega))
    have zP1 : (ByteArray.mk (textOf (ptL 11 (tx, ty))).toArray).size ≤ 88 := by rw [str_size]; exact ptL_len 11 (tx, ty) (by omega) h2
    have HP2 : Hid (∀ W, Calls Tryz.prog 44 #[.int .i64 12, .agg #[.int .i64 cx, .int .i64 cy]] W fun e w' => e = .returned (.string ⟨(textOf (ptL 12 (cx, cy))).toArray⟩) ∧ Below W.heap.size W w') := Lib.hid (fun W => rptext_any (cx, cy) 12 W h3 (by omega))
    have zP2 : (ByteArray.mk (textOf (ptL 12 (cx, cy))).toArray).size ≤ 88 := by rw [str_size]; exact ptL_len 12 (cx, cy) (by omega) h3
    cases cw
    ·have HG2 : Hid (∀ W, Calls Tryz.prog 43 #[.int .i64 70, .string ⟨#[48]⟩] W fun e w' => e = .returned (.string ⟨(textOf (gr 70 ([48]))).toArray⟩) ∧ Below W.heap.size W w') := Lib.hid (fun W => rgtext_any ([48]) 70 W (by decide) (by omega))
     have zG2 : (ByteArray.mk (textOf (gr 70 ([48]))).toArray).size ≤ 60 := by rw [str_size]; have := gr_len 70 ([48]) (by omega); have h0 : ([48]).length ≤ 4 := (by decide); omega
     have HOUT : Hid ((ByteArray.mk (textOf ((xs.take j).flatMap fun x => entL x.e)).toArray) ++ (ByteArray.mk (textOf (gr 0 kArc)).toArray) ++ (ByteArray.mk (textOf (gr 8 lay)).toArray) ++ (ByteArray.mk (textOf (ptL 10 (fx, fy))).toArray) ++ (ByteArray.mk (textOf (ptL 11 (tx, ty))).toArray) ++ (ByteArray.mk (textOf (ptL 12 (cx, cy))).toArray) ++ (ByteArray.mk (textOf (gr 70 [48])).toArray) = ByteArray.mk (textOf ((xs.take (j + 1)).flatMap fun x => entL x.e)).toArray) := Lib.hid (by
      simp only [str_app]
      rw [HTJ.out, List.flatMap_append, textOf_append]
      simp only [List.flatMap_cons, List.flatMap_nil, List.append_nil]
      rw [HENT.out, if_neg (show ¬ (false = true) by decide)]
      simp only [textOf_append, List.append_assoc])
     clear h1 h2 h3
     have HX := Lib.hid (GeW.heap_alloc_new wr (.cells #[.int .i64 2, .string ⟨lay.toArray⟩, .int .i64 ax, .int .i64 ay, .int .i64 bx, .int .i64 b_y, .int .i64 fx, .int .i64 fy, .int .i64 tx, .int .i64 ty, .int .i64 cx, .int .i64 cy, .bool false, .slice PA pl ka] 72))
     have HB1 : Hid (Below w.heap.size w (wr.alloc (.cells #[.int .i64 2, .string ⟨lay.toArray⟩, .int .i64 ax, .int .i64 ay, .int .i64 bx, .int .i64 b_y, .int .i64 fx, .int .i64 fy, .int .i64 tx, .int .i64 ty, .int .i64 cx, .int .i64 cy, .bool false, .slice PA pl ka] 72))) := Lib.hid (HBW.out.trans ((bel1 wr _).mono HBW.out.size))
     have hz1 : wr.heap.size < (wr.alloc (.cells #[.int .i64 2, .string ⟨lay.toArray⟩, .int .i64 ax, .int .i64 ay, .int .i64 bx, .int .i64 b_y, .int .i64 fx, .int .i64 fy, .int .i64 tx, .int .i64 ty, .int .i64 cx, .int .i64 cy, .bool false, .slice PA pl ka] 72)).heap.size := blk_lt HX.out
     generalize (ByteArray.mk (textOf (gr 0 kArc)).toArray) = G0 at *
     generalize (ByteArray.mk (textOf (gr 8 lay)).toArray) = G1 at *
     generalize (ByteArray.mk (textOf (ptL 10 (fx, fy))).toArray) = P0 at *
     generalize (ByteArray.mk (textOf (ptL 11 (tx, ty))).toArray) = P1 at *
     generalize (ByteArray.mk (textOf (ptL 12 (cx, cy))).toArray) = P2 at *
     generalize (ByteArray.mk (textOf (gr 70 [48])).toArray) = G2 at *
     generalize (ByteArray.mk (textOf ((xs.take j).flatMap fun x => entL x.e)).toArray) = SB at *
     generalize (ByteArray.mk (lay).toArray) = LB at *
     have hc0 : (9223372036854775807 < (SB).size + G0.size) = False := eq_false (by first | omega | (simp only [ByteArray.size_append]; omega))
     have hc1 : (9223372036854775807 < (SB ++ G0).size + G1.size) = False := eq_false (by first | omega | (simp only [ByteArray.size_append]; omega))
     have hd1 : (9223372036854775807 < SB.size + G0.size + G1.size) = False := eq_false (by omega)
     have hc2 : (9223372036854775807 < (SB ++ G0 ++ G1).size + P0.size) = False := eq_false (by first | omega | (simp only [ByteArray.size_append]; omega))
     have hd2 : (9223372036854775807 < SB.size + G0.size + G1.size + P0.size) = False := eq_false (by omega)
     have hc3 : (9223372036854775807 < (SB ++ G0 ++ G1 ++ P0).size + P1.size) = False := eq_false (by first | omega | (simp only [ByteArray.size_append]; omega))
     have hd3 : (9223372036854775807 < SB.size + G0.size + G1.size + P0.size + P1.size) = False := eq_false (by omega)
     have hc4 : (9223372036854775807 < (SB ++ G0 ++ G1 ++ P0 ++ P1).size + P2.size) = False := eq_false (by first | omega | (simp only [ByteArray.size_append]; omega))
     have hd4 : (9223372036854775807 < SB.size + G0.size + G1.size + P0.size + P1.size + P2.size) = False := eq_false (by omega)
     have hc5 : (9223372036854775807 < (SB ++ G0 ++ G1 ++ P0 ++ P1 ++ P2).size + G2.size) = False := eq_false (by first | omega | (simp only [ByteArray.size_append]; omega))
     have hd5 : (9223372036854775807 < SB.size + G0.size + G1.size + P0.size + P1.size + P2.size + G2.size) = False := eq_false (by omega)
     go_upto_region 17 with fail
     generalize wr.alloc (.cells #[.int .i64 2, .string LB, .int .i64 ax, .int .i64 ay, .int .i64 bx, .int .i64 b_y, .int .i64 fx, .int .i64 fy, .int .i64 tx, .int .i64 ty, .int .i64 cx, .int .i64 cy, .bool false, .slice PA pl ka] 72) = W1 at *
     generalize wr.heap.size = xb at *
     clear a0 a1 a2 a3 a4 a5 a6 a7 a8 a9 a10 a11 a12 a13
     have x1 := cell_of HX.out 1 _ rfl
     have x6 := cell_of HX.out 6 _ rfl
     have x7 := cell_of HX.out 7 _ rfl
     have x8 := cell_of HX.out 8 _ rfl
     have x9 := cell_of HX.out 9 _ rfl
     have x10 := cell_of HX.out 10 _ rfl
     have x11 := cell_of HX.out 11 _ rfl
     have x12 := cell_of HX.out 12 _ rfl
     go_upto_region 20 with fail
     refine wp_region_det (fun w' => Below W1.heap.size W1 w') (by kernel_rfl) (GeW.below_drew (Below.refl _ _)) ?_
     refine wpAnyD_take (i := 0) (oi := { dst := some 74, op := Op.move (Operand.tmp 4), type := 9, pos := "ref.go:98", after := #[], guard := none }) (v := ?_) rfl (by kernel_rfl) (by kernel_rfl) (by kernel_rfl) (Or.inl (Or.inl ⟨by rfl, ?_⟩)) ?_
     rotate_left
     ·intro w' hSw
      (try dsimp only at hSw)
      have s1 := (hSw.cell (p := ⟨xb, 1, none⟩) hz1).trans x1; have s6 := (hSw.cell (p := ⟨xb, 6, none⟩) hz1).trans x6; have s7 := (hSw.cell (p := ⟨xb, 7, none⟩) hz1).trans x7; have s8 := (hSw.cell (p := ⟨xb, 8, none⟩) hz1).trans x8; have s9 := (hSw.cell (p := ⟨xb, 9, none⟩) hz1).trans x9; have s10 := (hSw.cell (p := ⟨xb, 10, none⟩) hz1).trans x10; have s11 := (hSw.cell (p := ⟨xb, 11, none⟩) hz1).trans x11
      first | (go_simp; done) | (go_simp; with_reducible rfl)
     try simp only [Act.put, List.setIfInBounds_toArray, List.set_cons_zero, List.set_cons_succ]
     refine wpAnyD_take (i := 3) (oi := { dst := some 77, op := Op.fieldAddr 72 (Operand.tmp 6) 1, type := 0, pos := "ref.go:98", after := #[], guard := none }) (v := ?_) rfl (by kernel_rfl) (by kernel_rfl) (by kernel_rfl) (Or.inl (Or.inl ⟨by rfl, ?_⟩)) ?_
     rotate_left
     ·intro w' hSw
      (try dsimp only at hSw)
      have s1 := (hSw.cell (p := ⟨xb, 1, none⟩) hz1).trans x1; have s6 := (hSw.cell (p := ⟨xb, 6, none⟩) hz1).trans x6; have s7 := (hSw.cell (p := ⟨xb, 7, none⟩) hz1).trans x7; have s8 := (hSw.cell (p := ⟨xb, 8, none⟩) hz1).trans x8; have s9 := (hSw.cell (p := ⟨xb, 9, none⟩) hz1).trans x9; have s10 := (hSw.cell (p := ⟨xb, 10, none⟩) hz1).trans x10; have s11 := (hSw.cell (p := ⟨xb, 11, none⟩) hz1).trans x11
      first | (go_simp; done) | (go_simp; with_reducible rfl)
     try simp only [Act.put, List.setIfInBounds_toArray, List.set_cons_zero, List.set_cons_succ]
     refine wpAnyD_take (i := 4) (oi := { dst := some 78, op := Op.load 9 (Operand.tmp 77), type := 9, pos := "ref.go:98", after := #[{ on := 3, ground := Ground.data }], guard := none }) (v := ?_) rfl (by kernel_rfl) (by kernel_rfl) (by kernel_rfl) (Or.inl (Or.inl ⟨by rfl, ?_⟩)) ?_
     rotate_left
     ·intro w' hSw
      (try dsimp only at hSw)
      have s1 := (hSw.cell (p := ⟨xb, 1, none⟩) hz1).trans x1; have s6 := (hSw.cell (p := ⟨xb, 6, none⟩) hz1).trans x6; have s7 := (hSw.cell (p := ⟨xb, 7, none⟩) hz1).trans x7; have s8 := (hSw.cell (p := ⟨xb, 8, none⟩) hz1).trans x8; have s9 := (hSw.cell (p := ⟨xb, 9, none⟩) hz1).trans x9; have s10 := (hSw.cell (p := ⟨xb, 10, none⟩) hz1).trans x10; have s11 := (hSw.cell (p := ⟨xb, 11, none⟩) hz1).trans x11
      first | (go_simp; done) | (go_simp; with_reducible rfl)
     try simp only [Act.put, List.setIfInBounds_toArray, List.set_cons_zero, List.set_cons_succ]
     refine wpAnyD_take (i := 7) (oi := { dst := some 81, op := Op.fieldAddr 72 (Operand.tmp 6) 4, type := 0, pos := "ref.go:98", after := #[], guard := none }) (v := ?_) rfl (by kernel_rfl) (by kernel_rfl) (by kernel_rfl) (Or.inl (Or.inl ⟨by rfl, ?_⟩)) ?_
     rotate_left
     ·intro w' hSw
      (try dsimp only at hSw)
      have s1 := (hSw.cell (p := ⟨xb, 1, none⟩) hz1).trans x1; have s6 := (hSw.cell (p := ⟨xb, 6, none⟩) hz1).trans x6; have s7 := (hSw.cell (p := ⟨xb, 7, none⟩) hz1).trans x7; have s8 := (hSw.cell (p := ⟨xb, 8, none⟩) hz1).trans x8; have s9 := (hSw.cell (p := ⟨xb, 9, none⟩) hz1).trans x9; have s10 := (hSw.cell (p := ⟨xb, 10, none⟩) hz1).trans x10; have s11 := (hSw.cell (p := ⟨xb, 11, none⟩) hz1).trans x11
      first | (go_simp; done) | (go_simp; with_reducible rfl)
     try simp only [Act.put, List.setIfInBounds_toArray, List.set_cons_zero, List.set_cons_succ]
     refine wpAnyD_take (i := 8) (oi := { dst := some 82, op := Op.fieldAddr 49 (Operand.tmp 81) 0, type := 0, pos := "ref.go:98", after := #[{ on := 7, ground := Ground.data }], guard := none }) (v := ?_) rfl (by kernel_rfl) (by kernel_rfl) (by kernel_rfl) (Or.inl (Or.inl ⟨by rfl, ?_⟩)) ?_
     rotate_left
     ·intro w' hSw
      (try dsimp only at hSw)
      have s1 := (hSw.cell (p := ⟨xb, 1, none⟩) hz1).trans x1; have s6 := (hSw.cell (p := ⟨xb, 6, none⟩) hz1).trans x6; have s7 := (hSw.cell (p := ⟨xb, 7, none⟩) hz1).trans x7; have s8 := (hSw.cell (p := ⟨xb, 8, none⟩) hz1).trans x8; have s9 := (hSw.cell (p := ⟨xb, 9, none⟩) hz1).trans x9; have s10 := (hSw.cell (p := ⟨xb, 10, none⟩) hz1).trans x10; have s11 := (hSw.cell (p := ⟨xb, 11, none⟩) hz1).trans x11
      first | (go_simp; done) | (go_simp; with_reducible rfl)
     try simp only [Act.put, List.setIfInBounds_toArray, List.set_cons_zero, List.set_cons_succ]
     refine wpAnyD_take (i := 9) (oi := { dst := some 83, op := Op.load 47 (Operand.tmp 82), type := 47, pos := "ref.go:98", after := #[{ on := 8, ground := Ground.data }], guard := none }) (v := ?_) rfl (by kernel_rfl) (by kernel_rfl) (by kernel_rfl) (Or.inl (Or.inl ⟨by rfl, ?_⟩)) ?_
     rotate_left
     ·intro w' hSw
      (try dsimp only at hSw)
      have s1 := (hSw.cell (p := ⟨xb, 1, none⟩) hz1).trans x1; have s6 := (hSw.cell (p := ⟨xb, 6, none⟩) hz1).trans x6; have s7 := (hSw.cell (p := ⟨xb, 7, none⟩) hz1).trans x7; have s8 := (hSw.cell (p := ⟨xb, 8, none⟩) hz1).trans x8; have s9 := (hSw.cell (p := ⟨xb, 9, none⟩) hz1).trans x9; have s10 := (hSw.cell (p := ⟨xb, 10, none⟩) hz1).trans x10; have s11 := (hSw.cell (p := ⟨xb, 11, none⟩) hz1).trans x11
      first | (go_simp; done) | (go_simp; with_reducible rfl)
     try simp only [Act.put, List.setIfInBounds_toArray, List.set_cons_zero, List.set_cons_succ]
     refine wpAnyD_take (i := 12) (oi := { dst := some 86, op := Op.fieldAddr 72 (Operand.tmp 6) 4, type := 0, pos := "ref.go:98", after := #[], guard := none }) (v := ?_) rfl (by kernel_rfl) (by kernel_rfl) (by kernel_rfl) (Or.inl (Or.inl ⟨by rfl, ?_⟩)) ?_
     rotate_left
     ·intro w' hSw
      (try dsimp only at hSw)
      have s1 := (hSw.cell (p := ⟨xb, 1, none⟩) hz1).trans x1; have s6 := (hSw.cell (p := ⟨xb, 6, none⟩) hz1).trans x6; have s7 := (hSw.cell (p := ⟨xb, 7, none⟩) hz1).trans x7; have s8 := (hSw.cell (p := ⟨xb, 8, none⟩) hz1).trans x8; have s9 := (hSw.cell (p := ⟨xb, 9, none⟩) hz1).trans x9; have s10 := (hSw.cell (p := ⟨xb, 10, none⟩) hz1).trans x10; have s11 := (hSw.cell (p := ⟨xb, 11, none⟩) hz1).trans x11
      first | (go_simp; done) | (go_simp; with_reducible rfl)
     try simp only [Act.put, List.setIfInBounds_toArray, List.set_cons_zero, List.set_cons_succ]
     refine wpAnyD_take (i := 13) (oi := { dst := some 87, op := Op.fieldAddr 49 (Operand.tmp 86) 1, type := 0, pos := "ref.go:98", after := #[{ on := 12, ground := Ground.data }], guard := none }) (v := ?_) rfl (by kernel_rfl) (by kernel_rfl) (by kernel_rfl) (Or.inl (Or.inl ⟨by rfl, ?_⟩)) ?_
     rotate_left
     ·intro w' hSw
      (try dsimp only at hSw)
      have s1 := (hSw.cell (p := ⟨xb, 1, none⟩) hz1).trans x1; have s6 := (hSw.cell (p := ⟨xb, 6, none⟩) hz1).trans x6; have s7 := (hSw.cell (p := ⟨xb, 7, none⟩) hz1).trans x7; have s8 := (hSw.cell (p := ⟨xb, 8, none⟩) hz1).trans x8; have s9 := (hSw.cell (p := ⟨xb, 9, none⟩) hz1).trans x9; have s10 := (hSw.cell (p := ⟨xb, 10, none⟩) hz1).trans x10; have s11 := (hSw.cell (p := ⟨xb, 11, none⟩) hz1).trans x11
      first | (go_simp; done) | (go_simp; with_reducible rfl)
     try simp only [Act.put, List.setIfInBounds_toArray, List.set_cons_zero, List.set_cons_succ]
     refine wpAnyD_take (i := 14) (oi := { dst := some 88, op := Op.load 47 (Operand.tmp 87), type := 47, pos := "ref.go:98", after := #[{ on := 13, ground := Ground.data }], guard := none }) (v := ?_) rfl (by kernel_rfl) (by kernel_rfl) (by kernel_rfl) (Or.inl (Or.inl ⟨by rfl, ?_⟩)) ?_
     rotate_left
     ·intro w' hSw
      (try dsimp only at hSw)
      have s1 := (hSw.cell (p := ⟨xb, 1, none⟩) hz1).trans x1; have s6 := (hSw.cell (p := ⟨xb, 6, none⟩) hz1).trans x6; have s7 := (hSw.cell (p := ⟨xb, 7, none⟩) hz1).trans x7; have s8 := (hSw.cell (p := ⟨xb, 8, none⟩) hz1).trans x8; have s9 := (hSw.cell (p := ⟨xb, 9, none⟩) hz1).trans x9; have s10 := (hSw.cell (p := ⟨xb, 10, none⟩) hz1).trans x10; have s11 := (hSw.cell (p := ⟨xb, 11, none⟩) hz1).trans x11
      first | (go_simp; done) | (go_simp; with_reducible rfl)
     try simp only [Act.put, List.setIfInBounds_toArray, List.set_cons_zero, List.set_cons_succ]
     refine wpAnyD_take (i := 17) (oi := { dst := some 91, op := Op.fieldAddr 72 (Operand.tmp 6) 4, type := 0, pos := "ref.go:98", after := #[], guard := none }) (v := ?_) rfl (by kernel_rfl) (by kernel_rfl) (by kernel_rfl) (Or.inl (Or.inl ⟨by rfl, ?_⟩)) ?_
     rotate_left
     ·intro w' hSw
      (try dsimp only at hSw)
      have s1 := (hSw.cell (p := ⟨xb, 1, none⟩) hz1).trans x1; have s6 := (hSw.cell (p := ⟨xb, 6, none⟩) hz1).trans x6; have s7 := (hSw.cell (p := ⟨xb, 7, none⟩) hz1).trans x7; have s8 := (hSw.cell (p := ⟨xb, 8, none⟩) hz1).trans x8; have s9 := (hSw.cell (p := ⟨xb, 9, none⟩) hz1).trans x9; have s10 := (hSw.cell (p := ⟨xb, 10, none⟩) hz1).trans x10; have s11 := (hSw.cell (p := ⟨xb, 11, none⟩) hz1).trans x11
      first | (go_simp; done) | (go_simp; with_reducible rfl)
     try simp only [Act.put, List.setIfInBounds_toArray, List.set_cons_zero, List.set_cons_succ]
     refine wpAnyD_take (i := 18) (oi := { dst := some 92, op := Op.fieldAddr 49 (Operand.tmp 91) 2, type := 0, pos := "ref.go:98", after := #[{ on := 17, ground := Ground.data }], guard := none }) (v := ?_) rfl (by kernel_rfl) (by kernel_rfl) (by kernel_rfl) (Or.inl (Or.inl ⟨by rfl, ?_⟩)) ?_
     rotate_left
     ·intro w' hSw
      (try dsimp only at hSw)
      have s1 := (hSw.cell (p := ⟨xb, 1, none⟩) hz1).trans x1; have s6 := (hSw.cell (p := ⟨xb, 6, none⟩) hz1).trans x6; have s7 := (hSw.cell (p := ⟨xb, 7, none⟩) hz1).trans x7; have s8 := (hSw.cell (p := ⟨xb, 8, none⟩) hz1).trans x8; have s9 := (hSw.cell (p := ⟨xb, 9, none⟩) hz1).trans x9; have s10 := (hSw.cell (p := ⟨xb, 10, none⟩) hz1).trans x10; have s11 := (hSw.cell (p := ⟨xb, 11, none⟩) hz1).trans x11
      first | (go_simp; done) | (go_simp; with_reducible rfl)
     try simp only [Act.put, List.setIfInBounds_toArray, List.set_cons_zero, List.set_cons_succ]
     refine wpAnyD_take (i := 19) (oi := { dst := some 93, op := Op.load 47 (Operand.tmp 92), type := 47, pos := "ref.go:98", after := #[{ on := 18, ground := Ground.data }], guard := none }) (v := ?_) rfl (by kernel_rfl) (by kernel_rfl) (by kernel_rfl) (Or.inl (Or.inl ⟨by rfl, ?_⟩)) ?_
     rotate_left
     ·intro w' hSw
      (try dsimp only at hSw)
      have s1 := (hSw.cell (p := ⟨xb, 1, none⟩) hz1).trans x1; have s6 := (hSw.cell (p := ⟨xb, 6, none⟩) hz1).trans x6; have s7 := (hSw.cell (p := ⟨xb, 7, none⟩) hz1).trans x7; have s8 := (hSw.cell (p := ⟨xb, 8, none⟩) hz1).trans x8; have s9 := (hSw.cell (p := ⟨xb, 9, none⟩) hz1).trans x9; have s10 := (hSw.cell (p := ⟨xb, 10, none⟩) hz1).trans x10; have s11 := (hSw.cell (p := ⟨xb, 11, none⟩) hz1).trans x11
      first | (go_simp; done) | (go_simp; with_reducible rfl)
     try simp only [Act.put, List.setIfInBounds_toArray, List.set_cons_zero, List.set_cons_succ]
     refine wpAnyD_take (i := 22) (oi := { dst := some 96, op := Op.move (Operand.tmp 7), type := 9, pos := "ref.go:98", after := #[], guard := none }) (v := ?_) rfl (by kernel_rfl) (by kernel_rfl) (by kernel_rfl) (Or.inl (Or.inl ⟨by rfl, ?_⟩)) ?_
     rotate_left
     ·intro w' hSw
      (try dsimp only at hSw)
      have s1 := (hSw.cell (p := ⟨xb, 1, none⟩) hz1).trans x1; have s6 := (hSw.cell (p := ⟨xb, 6, none⟩) hz1).trans x6; have s7 := (hSw.cell (p := ⟨xb, 7, none⟩) hz1).trans x7; have s8 := (hSw.cell (p := ⟨xb, 8, none⟩) hz1).trans x8; have s9 := (hSw.cell (p := ⟨xb, 9, none⟩) hz1).trans x9; have s10 := (hSw.cell (p := ⟨xb, 10, none⟩) hz1).trans x10; have s11 := (hSw.cell (p := ⟨xb, 11, none⟩) hz1).trans x11
      first | (go_simp; done) | (go_simp; with_reducible rfl)
     try simp only [Act.put, List.setIfInBounds_toArray, List.set_cons_zero, List.set_cons_succ]
     refine wpAnyD_take (i := 1) (oi := { dst := some 75, op := Op.call { callee := Callee.value (Operand.func 43), args := #[Operand.const (Value.int IntKind.i64 0), Operand.const (Value.string { data := #[65, 82, 67] })], argTypes := #[3, 9] }, type := 9, pos := "ref.go:98", after := #[], guard := none }) (v := (.string G0)) rfl (by kernel_rfl) (by kernel_rfl) (by kernel_rfl) (Or.inr ⟨by rfl, 43, #[.int .i64 0, .string ⟨#[65, 82, 67]⟩], ?_, ?_⟩) ?_
     ·intro w' hSw
      (try dsimp only at hSw)
      first | rfl | (go_simp; done) | (go_simp; with_reducible rfl)
     ·intro w' hSw
      exact (HG0.out w').mono fun e u ⟨he, hb⟩ => ⟨he, hSw.trans (hb.mono hSw.size)⟩
     try simp only [Act.put, List.setIfInBounds_toArray, List.set_cons_zero, List.set_cons_succ]
     refine wpAnyD_take (i := 2) (oi := { dst := some 76, op := Op.binOp BinOp.add 9 (Operand.tmp 74) (Operand.tmp 75) 9, type := 9, pos := "ref.go:98", after := #[{ on := 0, ground := Ground.data }, { on := 1, ground := Ground.data }], guard := none }) (v := ?_) rfl (by kernel_rfl) (by kernel_rfl) (by kernel_rfl) (Or.inl (Or.inl ⟨by rfl, ?_⟩)) ?_
     rotate_left
     ·intro w' hSw
      (try dsimp only at hSw)
      have s1 := (hSw.cell (p := ⟨xb, 1, none⟩) hz1).trans x1; have s6 := (hSw.cell (p := ⟨xb, 6, none⟩) hz1).trans x6; have s7 := (hSw.cell (p := ⟨xb, 7, none⟩) hz1).trans x7; have s8 := (hSw.cell (p := ⟨xb, 8, none⟩) hz1).trans x8; have s9 := (hSw.cell (p := ⟨xb, 9, none⟩) hz1).trans x9; have s10 := (hSw.cell (p := ⟨xb, 10, none⟩) hz1).trans x10; have s11 := (hSw.cell (p := ⟨xb, 11, none⟩) hz1).trans x11
      first | (go_simp; done) | (go_simp; with_reducible rfl)
     try simp only [Act.put, List.setIfInBounds_toArray, List.set_cons_zero, List.set_cons_succ]
     refine wpAnyD_take (i := 5) (oi := { dst := some 79, op := Op.call { callee := Callee.value (Operand.func 43), args := #[Operand.const (Value.int IntKind.i64 8), Operand.tmp 78], argTypes := #[3, 9] }, type := 9, pos := "ref.go:98", after := #[{ on := 4, ground := Ground.data }, { on := 1, ground := Ground.chain }], guard := none }) (v := (.string G1)) rfl (by kernel_rfl) (by kernel_rfl) (by kernel_rfl) (Or.inr ⟨by rfl, 43, #[.int .i64 8, .string LB], ?_, ?_⟩) ?_
     ·intro w' hSw
      (try dsimp only at hSw)
      first | rfl | (go_simp; done) | (go_simp; with_reducible rfl)
     ·intro w' hSw
      exact (HG1.out w').mono fun e u ⟨he, hb⟩ => ⟨he, hSw.trans (hb.mono hSw.size)⟩
     try simp only [Act.put, List.setIfInBounds_toArray, List.set_cons_zero, List.set_cons_succ]
     refine wpAnyD_take (i := 6) (oi := { dst := some 80, op := Op.binOp BinOp.add 9 (Operand.tmp 76) (Operand.tmp 79) 9, type := 9, pos := "ref.go:98", after := #[{ on := 2, ground := Ground.data }, { on := 5, ground := Ground.data }], guard := none }) (v := ?_) rfl (by kernel_rfl) (by kernel_rfl) (by kernel_rfl) (Or.inl (Or.inl ⟨by rfl, ?_⟩)) ?_
     rotate_left
     ·intro w' hSw
      (try dsimp only at hSw)
      have s1 := (hSw.cell (p := ⟨xb, 1, none⟩) hz1).trans x1; have s6 := (hSw.cell (p := ⟨xb, 6, none⟩) hz1).trans x6; have s7 := (hSw.cell (p := ⟨xb, 7, none⟩) hz1).trans x7; have s8 := (hSw.cell (p := ⟨xb, 8, none⟩) hz1).trans x8; have s9 := (hSw.cell (p := ⟨xb, 9, none⟩) hz1).trans x9; have s10 := (hSw.cell (p := ⟨xb, 10, none⟩) hz1).trans x10; have s11 := (hSw.cell (p := ⟨xb, 11, none⟩) hz1).trans x11
      first | (go_simp; done) | (go_simp; with_reducible rfl)
     try simp only [Act.put, List.setIfInBounds_toArray, List.set_cons_zero, List.set_cons_succ]
     refine wpAnyD_take (i := 10) (oi := { dst := some 84, op := Op.call { callee := Callee.value (Operand.func 44), args := #[Operand.const (Value.int IntKind.i64 10), Operand.tmp 83], argTypes := #[3, 47] }, type := 9, pos := "ref.go:98", after := #[{ on := 9, ground := Ground.data }, { on := 5, ground := Ground.chain }], guard := none }) (v := (.string P0)) rfl (by kernel_rfl) (by kernel_rfl) (by kernel_rfl) (Or.inr ⟨by rfl, 44, #[.int .i64 10, .agg #[.int .i64 fx, .int .i64 fy]], ?_, ?_⟩) ?_
     ·intro w' hSw
      (try dsimp only at hSw)
      first | rfl | (go_simp; done) | (go_simp; with_reducible rfl)
     ·intro w' hSw
      exact (HP0.out w').mono fun e u ⟨he, hb⟩ => ⟨he, hSw.trans (hb.mono hSw.size)⟩
     try simp only [Act.put, List.setIfInBounds_toArray, List.set_cons_zero, List.set_cons_succ]
     refine wpAnyD_take (i := 11) (oi := { dst := some 85, op := Op.binOp BinOp.add 9 (Operand.tmp 80) (Operand.tmp 84) 9, type := 9, pos := "ref.go:98", after := #[{ on := 6, ground := Ground.data }, { on := 10, ground := Ground.data }], guard := none }) (v := ?_) rfl (by kernel_rfl) (by kernel_rfl) (by kernel_rfl) (Or.inl (Or.inl ⟨by rfl, ?_⟩)) ?_
     rotate_left
     ·intro w' hSw
      (try dsimp only at hSw)
      have s1 := (hSw.cell (p := ⟨xb, 1, none⟩) hz1).trans x1; have s6 := (hSw.cell (p := ⟨xb, 6, none⟩) hz1).trans x6; have s7 := (hSw.cell (p := ⟨xb, 7, none⟩) hz1).trans x7; have s8 := (hSw.cell (p := ⟨xb, 8, none⟩) hz1).trans x8; have s9 := (hSw.cell (p := ⟨xb, 9, none⟩) hz1).trans x9; have s10 := (hSw.cell (p := ⟨xb, 10, none⟩) hz1).trans x10; have s11 := (hSw.cell (p := ⟨xb, 11, none⟩) hz1).trans x11
      first | (go_simp; done) | (go_simp; with_reducible rfl)
     try simp only [Act.put, List.setIfInBounds_toArray, List.set_cons_zero, List.set_cons_succ]
     refine wpAnyD_take (i := 15) (oi := { dst := some 89, op := Op.call { callee := Callee.value (Operand.func 44), args := #[Operand.const (Value.int IntKind.i64 11), Operand.tmp 88], argTypes := #[3, 47] }, type := 9, pos := "ref.go:98", after := #[{ on := 14, ground := Ground.data }, { on := 10, ground := Ground.chain }], guard := none }) (v := (.string P1)) rfl (by kernel_rfl) (by kernel_rfl) (by kernel_rfl) (Or.inr ⟨by rfl, 44, #[.int .i64 11, .agg #[.int .i64 tx, .int .i64 ty]], ?_, ?_⟩) ?_
     ·intro w' hSw
      (try dsimp only at hSw)
      first | rfl | (go_simp; done) | (go_simp; with_reducible rfl)
     ·intro w' hSw
      exact (HP1.out w').mono fun e u ⟨he, hb⟩ => ⟨he, hSw.trans (hb.mono hSw.size)⟩
     try simp only [Act.put, List.setIfInBounds_toArray, List.set_cons_zero, List.set_cons_succ]
     refine wpAnyD_take (i := 16) (oi := { dst := some 90, op := Op.binOp BinOp.add 9 (Operand.tmp 85) (Operand.tmp 89) 9, type := 9, pos := "ref.go:98", after := #[{ on := 11, ground := Ground.data }, { on := 15, ground := Ground.data }], guard := none }) (v := ?_) rfl (by kernel_rfl) (by kernel_rfl) (by kernel_rfl) (Or.inl (Or.inl ⟨by rfl, ?_⟩)) ?_
     rotate_left
     ·intro w' hSw
      (try dsimp only at hSw)
      have s1 := (hSw.cell (p := ⟨xb, 1, none⟩) hz1).trans x1; have s6 := (hSw.cell (p := ⟨xb, 6, none⟩) hz1).trans x6; have s7 := (hSw.cell (p := ⟨xb, 7, none⟩) hz1).trans x7; have s8 := (hSw.cell (p := ⟨xb, 8, none⟩) hz1).trans x8; have s9 := (hSw.cell (p := ⟨xb, 9, none⟩) hz1).trans x9; have s10 := (hSw.cell (p := ⟨xb, 10, none⟩) hz1).trans x10; have s11 := (hSw.cell (p := ⟨xb, 11, none⟩) hz1).trans x11
      first | (go_simp; done) | (go_simp; with_reducible rfl)
     try simp only [Act.put, List.setIfInBounds_toArray, List.set_cons_zero, List.set_cons_succ]
     refine wpAnyD_take (i := 20) (oi := { dst := some 94, op := Op.call { callee := Callee.value (Operand.func 44), args := #[Operand.const (Value.int IntKind.i64 12), Operand.tmp 93], argTypes := #[3, 47] }, type := 9, pos := "ref.go:98", after := #[{ on := 19, ground := Ground.data }, { on := 15, ground := Ground.chain }], guard := none }) (v := (.string P2)) rfl (by kernel_rfl) (by kernel_rfl) (by kernel_rfl) (Or.inr ⟨by rfl, 44, #[.int .i64 12, .agg #[.int .i64 cx, .int .i64 cy]], ?_, ?_⟩) ?_
     ·intro w' hSw
      (try dsimp only at hSw)
      first | rfl | (go_simp; done) | (go_simp; with_reducible rfl)
     ·intro w' hSw
      exact (HP2.out w').mono fun e u ⟨he, hb⟩ => ⟨he, hSw.trans (hb.mono hSw.size)⟩
     try simp only [Act.put, List.setIfInBounds_toArray, List.set_cons_zero, List.set_cons_succ]
     refine wpAnyD_take (i := 21) (oi := { dst := some 95, op := Op.binOp BinOp.add 9 (Operand.tmp 90) (Operand.tmp 94) 9, type := 9, pos := "ref.go:98", after := #[{ on := 16, ground := Ground.data }, { on := 20, ground := Ground.data }], guard := none }) (v := ?_) rfl (by kernel_rfl) (by kernel_rfl) (by kernel_rfl) (Or.inl (Or.inl ⟨by rfl, ?_⟩)) ?_
     rotate_left
     ·intro w' hSw
      (try dsimp only at hSw)
      have s1 := (hSw.cell (p := ⟨xb, 1, none⟩) hz1).trans x1; have s6 := (hSw.cell (p := ⟨xb, 6, none⟩) hz1).trans x6; have s7 := (hSw.cell (p := ⟨xb, 7, none⟩) hz1).trans x7; have s8 := (hSw.cell (p := ⟨xb, 8, none⟩) hz1).trans x8; have s9 := (hSw.cell (p := ⟨xb, 9, none⟩) hz1).trans x9; have s10 := (hSw.cell (p := ⟨xb, 10, none⟩) hz1).trans x10; have s11 := (hSw.cell (p := ⟨xb, 11, none⟩) hz1).trans x11
      first | (go_simp; done) | (go_simp; with_reducible rfl)
     try simp only [Act.put, List.setIfInBounds_toArray, List.set_cons_zero, List.set_cons_succ]
     refine wpAnyD_take (i := 23) (oi := { dst := some 97, op := Op.call { callee := Callee.value (Operand.func 43), args := #[Operand.const (Value.int IntKind.i64 70), Operand.tmp 96], argTypes := #[3, 9] }, type := 9, pos := "ref.go:98", after := #[{ on := 22, ground := Ground.data }, { on := 20, ground := Ground.chain }], guard := none }) (v := (.string G2)) rfl (by kernel_rfl) (by kernel_rfl) (by kernel_rfl) (Or.inr ⟨by rfl, 43, #[.int .i64 70, .string ⟨#[48]⟩], ?_, ?_⟩) ?_
     ·intro w' hSw
      (try dsimp only at hSw)
      first | rfl | (go_simp; done) | (go_simp; with_reducible rfl)
     ·intro w' hSw
      exact (HG2.out w').mono fun e u ⟨he, hb⟩ => ⟨he, hSw.trans (hb.mono hSw.size)⟩
     try simp only [Act.put, List.setIfInBounds_toArray, List.set_cons_zero, List.set_cons_succ]
     refine wpAnyD_take (i := 24) (oi := { dst := some 98, op := Op.binOp BinOp.add 9 (Operand.tmp 95) (Operand.tmp 97) 9, type := 9, pos := "ref.go:98", after := #[{ on := 21, ground := Ground.data }, { on := 23, ground := Ground.data }], guard := none }) (v := ?_) rfl (by kernel_rfl) (by kernel_rfl) (by kernel_rfl) (Or.inl (Or.inl ⟨by rfl, ?_⟩)) ?_
     rotate_left
     ·intro w' hSw
      (try dsimp only at hSw)
      have s1 := (hSw.cell (p := ⟨xb, 1, none⟩) hz1).trans x1; have s6 := (hSw.cell (p := ⟨xb, 6, none⟩) hz1).trans x6; have s7 := (hSw.cell (p := ⟨xb, 7, none⟩) hz1).trans x7; have s8 := (hSw.cell (p := ⟨xb, 8, none⟩) hz1).trans x8; have s9 := (hSw.cell (p := ⟨xb, 9, none⟩) hz1).trans x9; have s10 := (hSw.cell (p := ⟨xb, 10, none⟩) hz1).trans x10; have s11 := (hSw.cell (p := ⟨xb, 11, none⟩) hz1).trans x11
      first | (go_simp; done) | (go_simp; with_reducible rfl)
     try simp only [Act.put, List.setIfInBounds_toArray, List.set_cons_zero, List.set_cons_succ]
     refine wpAnyD_take (i := 25) (oi := { dst := some 4, op := Op.assign (Operand.tmp 98), type := 9, pos := "ref.go:98", after := #[{ on := 24, ground := Ground.data }, { on := 23, ground := Ground.chain }, { on := 0, ground := Ground.phase }, { on := 1, ground := Ground.phase }, { on := 2, ground := Ground.phase }, { on := 3, ground := Ground.phase }, { on := 4, ground := Ground.phase }, { on := 5, ground := Ground.phase }, { on := 6, ground := Ground.phase }, { on := 7, ground := Ground.phase }, { on := 8, ground := Ground.phase }, { on := 9, ground := Ground.phase }, { on := 10, ground := Ground.phase }, { on := 11, ground := Ground.phase }, { on := 12, ground := Ground.phase }, { on := 13, ground := Ground.phase }, { on := 14, ground := Ground.phase }, { on := 15, ground := Ground.phase }, { on := 16, ground := Ground.phase }, { on := 17, ground := Ground.phase }, { on := 18, ground := Ground.phase }, { on := 19, ground := Ground.phase }, { on := 20, ground := Ground.phase }, { on := 21, ground := Ground.phase }, { on := 22, ground := Ground.phase }, { on := 23, ground := Ground.phase }, { on := 24, ground := Ground.phase }], guard := none }) (v := ?_) rfl (by kernel_rfl) (by kernel_rfl) (by kernel_rfl) (Or.inl (Or.inl ⟨by rfl, ?_⟩)) ?_
     rotate_left
     ·intro w' hSw
      (try dsimp only at hSw)
      have s1 := (hSw.cell (p := ⟨xb, 1, none⟩) hz1).trans x1; have s6 := (hSw.cell (p := ⟨xb, 6, none⟩) hz1).trans x6; have s7 := (hSw.cell (p := ⟨xb, 7, none⟩) hz1).trans x7; have s8 := (hSw.cell (p := ⟨xb, 8, none⟩) hz1).trans x8; have s9 := (hSw.cell (p := ⟨xb, 9, none⟩) hz1).trans x9; have s10 := (hSw.cell (p := ⟨xb, 10, none⟩) hz1).trans x10; have s11 := (hSw.cell (p := ⟨xb, 11, none⟩) hz1).trans x11
      first | (go_simp; done) | (go_simp; with_reducible rfl)
     try simp only [Act.put, List.setIfInBounds_toArray, List.set_cons_zero, List.set_cons_succ]
     refine wpAnyD_done (by kernel_rfl) (fun w' hSw => ?_) _
     go_wp2
     go_roundw
     case rel => exact ⟨j + 1, by go_num, by omega, HL2, by rw [← HOUT.out], Lib.hid (HB1.out.trans (hSw.mono HB1.out.size))⟩
     case measure => simp [intOf]; omega
    ·have HG2 : Hid (∀ W, Calls Tryz.prog 43 #[.int .i64 70, .string ⟨#[49]⟩] W fun e w' => e = .returned (.string ⟨(textOf (gr 70 ([49]))).toArray⟩) ∧ Below W.heap.size W w') := Lib.hid (fun W => rgtext_any ([49]) 70 W (by decide) (by omega))
     have zG2 : (ByteArray.mk (textOf (gr 70 ([49]))).toArray).size ≤ 60 := by rw [str_size]; have := gr_len 70 ([49]) (by omega); have h0 : ([49]).length ≤ 4 := (by decide); omega
     have HOUT : Hid ((ByteArray.mk (textOf ((xs.take j).flatMap fun x => entL x.e)).toArray) ++ (ByteArray.mk (textOf (gr 0 kArc)).toArray) ++ (ByteArray.mk (textOf (gr 8 lay)).toArray) ++ (ByteArray.mk (textOf (ptL 10 (fx, fy))).toArray) ++ (ByteArray.mk (textOf (ptL 11 (tx, ty))).toArray) ++ (ByteArray.mk (textOf (ptL 12 (cx, cy))).toArray) ++ (ByteArray.mk (textOf (gr 70 [49])).toArray) = ByteArray.mk (textOf ((xs.take (j + 1)).flatMap fun x => entL x.e)).toArray) := Lib.hid (by
      simp only [str_app]
      rw [HTJ.out, List.flatMap_append, textOf_append]
      simp only [List.flatMap_cons, List.flatMap_nil, List.append_nil]
      rw [HENT.out, if_pos rfl]
      simp only [textOf_append, List.append_assoc])
     clear h1 h2 h3
     have HX := Lib.hid (GeW.heap_alloc_new wr (.cells #[.int .i64 2, .string ⟨lay.toArray⟩, .int .i64 ax, .int .i64 ay, .int .i64 bx, .int .i64 b_y, .int .i64 fx, .int .i64 fy, .int .i64 tx, .int .i64 ty, .int .i64 cx, .int .i64 cy, .bool true, .slice PA pl ka] 72))
     have HB1 : Hid (Below w.heap.size w (wr.alloc (.cells #[.int .i64 2, .string ⟨lay.toArray⟩, .int .i64 ax, .int .i64 ay, .int .i64 bx, .int .i64 b_y, .int .i64 fx, .int .i64 fy, .int .i64 tx, .int .i64 ty, .int .i64 cx, .int .i64 cy, .bool true, .slice PA pl ka] 72))) := Lib.hid (HBW.out.trans ((bel1 wr _).mono HBW.out.size))
     have hz1 : wr.heap.size < (wr.alloc (.cells #[.int .i64 2, .string ⟨lay.toArray⟩, .int .i64 ax, .int .i64 ay, .int .i64 bx, .int .i64 b_y, .int .i64 fx, .int .i64 fy, .int .i64 tx, .int .i64 ty, .int .i64 cx, .int .i64 cy, .bool true, .slice PA pl ka] 72)).heap.size := blk_lt HX.out
     generalize (ByteArray.mk (textOf (gr 0 kArc)).toArray) = G0 at *
     generalize (ByteArray.mk (textOf (gr 8 lay)).toArray) = G1 at *
     generalize (ByteArray.mk (textOf (ptL 10 (fx, fy))).toArray) = P0 at *
     generalize (ByteArray.mk (textOf (ptL 11 (tx, ty))).toArray) = P1 at *
     generalize (ByteArray.mk (textOf (ptL 12 (cx, cy))).toArray) = P2 at *
     generalize (ByteArray.mk (textOf (gr 70 [49])).toArray) = G2 at *
     generalize (ByteArray.mk (textOf ((xs.take j).flatMap fun x => entL x.e)).toArray) = SB at *
     generalize (ByteArray.mk (lay).toArray) = LB at *
     have hc0 : (9223372036854775807 < (SB).size + G0.size) = False := eq_false (by first | omega | (simp only [ByteArray.size_append]; omega))
     have hc1 : (9223372036854775807 < (SB ++ G0).size + G1.size) = False := eq_false (by first | omega | (simp only [ByteArray.size_append]; omega))
     have hd1 : (9223372036854775807 < SB.size + G0.size + G1.size) = False := eq_false (by omega)
     have hc2 : (9223372036854775807 < (SB ++ G0 ++ G1).size + P0.size) = False := eq_false (by first | omega | (simp only [ByteArray.size_append]; omega))
     have hd2 : (9223372036854775807 < SB.size + G0.size + G1.size + P0.size) = False := eq_false (by omega)
     have hc3 : (9223372036854775807 < (SB ++ G0 ++ G1 ++ P0).size + P1.size) = False := eq_false (by first | omega | (simp only [ByteArray.size_append]; omega))
     have hd3 : (9223372036854775807 < SB.size + G0.size + G1.size + P0.size + P1.size) = False := eq_false (by omega)
     have hc4 : (9223372036854775807 < (SB ++ G0 ++ G1 ++ P0 ++ P1).size + P2.size) = False := eq_false (by first | omega | (simp only [ByteArray.size_append]; omega))
     have hd4 : (9223372036854775807 < SB.size + G0.size + G1.size + P0.size + P1.size + P2.size) = False := eq_false (by omega)
     have hc5 : (9223372036854775807 < (SB ++ G0 ++ G1 ++ P0 ++ P1 ++ P2).size + G2.size) = False := eq_false (by first | omega | (simp only [ByteArray.size_append]; omega))
     have hd5 : (9223372036854775807 < SB.size + G0.size + G1.size + P0.size + P1.size + P2.size + G2.size) = False := eq_false (by omega)
     go_upto_region 17 with fail
     generalize wr.alloc (.cells #[.int .i64 2, .string LB, .int .i64 ax, .int .i64 ay, .int .i64 bx, .int .i64 b_y, .int .i64 fx, .int .i64 fy, .int .i64 tx, .int .i64 ty, .int .i64 cx, .int .i64 cy, .bool true, .slice PA pl ka] 72) = W1 at *
     generalize wr.heap.size = xb at *
     clear a0 a1 a2 a3 a4 a5 a6 a7 a8 a9 a10 a11 a12 a13
     have x1 := cell_of HX.out 1 _ rfl
     have x6 := cell_of HX.out 6 _ rfl
     have x7 := cell_of HX.out 7 _ rfl
     have x8 := cell_of HX.out 8 _ rfl
     have x9 := cell_of HX.out 9 _ rfl
     have x10 := cell_of HX.out 10 _ rfl
     have x11 := cell_of HX.out 11 _ rfl
     have x12 := cell_of HX.out 12 _ rfl
     go_upto_region 20 with fail
     refine wp_region_det (fun w' => Below W1.heap.size W1 w') (by kernel_rfl) (GeW.below_drew (Below.refl _ _)) ?_
     refine wpAnyD_take (i := 0) (oi := { dst := some 74, op := Op.move (Operand.tmp 4), type := 9, pos := "ref.go:98", after := #[], guard := none }) (v := ?_) rfl (by kernel_rfl) (by kernel_rfl) (by kernel_rfl) (Or.inl (Or.inl ⟨by rfl, ?_⟩)) ?_
     rotate_left
     ·intro w' hSw
      (try dsimp only at hSw)
      have s1 := (hSw.cell (p := ⟨xb, 1, none⟩) hz1).trans x1; have s6 := (hSw.cell (p := ⟨xb, 6, none⟩) hz1).trans x6; have s7 := (hSw.cell (p := ⟨xb, 7, none⟩) hz1).trans x7; have s8 := (hSw.cell (p := ⟨xb, 8, none⟩) hz1).trans x8; have s9 := (hSw.cell (p := ⟨xb, 9, none⟩) hz1).trans x9; have s10 := (hSw.cell (p := ⟨xb, 10, none⟩) hz1).trans x10; have s11 := (hSw.cell (p := ⟨xb, 11, none⟩) hz1).trans x11
      first | (go_simp; done) | (go_simp; with_reducible rfl)
     try simp only [Act.put, List.setIfInBounds_toArray, List.set_cons_zero, List.set_cons_succ]
     refine wpAnyD_take (i := 3) (oi := { dst := some 77, op := Op.fieldAddr 72 (Operand.tmp 6) 1, type := 0, pos := "ref.go:98", after := #[], guard := none }) (v := ?_) rfl (by kernel_rfl) (by kernel_rfl) (by kernel_rfl) (Or.inl (Or.inl ⟨by rfl, ?_⟩)) ?_
     rotate_left
     ·intro w' hSw
      (try dsimp only at hSw)
      have s1 := (hSw.cell (p := ⟨xb, 1, none⟩) hz1).trans x1; have s6 := (hSw.cell (p := ⟨xb, 6, none⟩) hz1).trans x6; have s7 := (hSw.cell (p := ⟨xb, 7, none⟩) hz1).trans x7; have s8 := (hSw.cell (p := ⟨xb, 8, none⟩) hz1).trans x8; have s9 := (hSw.cell (p := ⟨xb, 9, none⟩) hz1).trans x9; have s10 := (hSw.cell (p := ⟨xb, 10, none⟩) hz1).trans x10; have s11 := (hSw.cell (p := ⟨xb, 11, none⟩) hz1).trans x11
      first | (go_simp; done) | (go_simp; with_reducible rfl)
     try simp only [Act.put, List.setIfInBounds_toArray, List.set_cons_zero, List.set_cons_succ]
     refine wpAnyD_take (i := 4) (oi := { dst := some 78, op := Op.load 9 (Operand.tmp 77), type := 9, pos := "ref.go:98", after := #[{ on := 3, ground := Ground.data }], guard := none }) (v := ?_) rfl (by kernel_rfl) (by kernel_rfl) (by kernel_rfl) (Or.inl (Or.inl ⟨by rfl, ?_⟩)) ?_
     rotate_left
     ·intro w' hSw
      (try dsimp only at hSw)
      have s1 := (hSw.cell (p := ⟨xb, 1, none⟩) hz1).trans x1; have s6 := (hSw.cell (p := ⟨xb, 6, none⟩) hz1).trans x6; have s7 := (hSw.cell (p := ⟨xb, 7, none⟩) hz1).trans x7; have s8 := (hSw.cell (p := ⟨xb, 8, none⟩) hz1).trans x8; have s9 := (hSw.cell (p := ⟨xb, 9, none⟩) hz1).trans x9; have s10 := (hSw.cell (p := ⟨xb, 10, none⟩) hz1).trans x10; have s11 := (hSw.cell (p := ⟨xb, 11, none⟩) hz1).trans x11
      first | (go_simp; done) | (go_simp; with_reducible rfl)
     try simp only [Act.put, List.setIfInBounds_toArray, List.set_cons_zero, List.set_cons_succ]
     refine wpAnyD_take (i := 7) (oi := { dst := some 81, op := Op.fieldAddr 72 (Operand.tmp 6) 4, type := 0, pos := "ref.go:98", after := #[], guard := none }) (v := ?_) rfl (by kernel_rfl) (by kernel_rfl) (by kernel_rfl) (Or.inl (Or.inl ⟨by rfl, ?_⟩)) ?_
     rotate_left
     ·intro w' hSw
      (try dsimp only at hSw)
      have s1 := (hSw.cell (p := ⟨xb, 1, none⟩) hz1).trans x1; have s6 := (hSw.cell (p := ⟨xb, 6, none⟩) hz1).trans x6; have s7 := (hSw.cell (p := ⟨xb, 7, none⟩) hz1).trans x7; have s8 := (hSw.cell (p := ⟨xb, 8, none⟩) hz1).trans x8; have s9 := (hSw.cell (p := ⟨xb, 9, none⟩) hz1).trans x9; have s10 := (hSw.cell (p := ⟨xb, 10, none⟩) hz1).trans x10; have s11 := (hSw.cell (p := ⟨xb, 11, none⟩) hz1).trans x11
      first | (go_simp; done) | (go_simp; with_reducible rfl)
     try simp only [Act.put, List.setIfInBounds_toArray, List.set_cons_zero, List.set_cons_succ]
     refine wpAnyD_take (i := 8) (oi := { dst := some 82, op := Op.fieldAddr 49 (Operand.tmp 81) 0, type := 0, pos := "ref.go:98", after := #[{ on := 7, ground := Ground.data }], guard := none }) (v := ?_) rfl (by kernel_rfl) (by kernel_rfl) (by kernel_rfl) (Or.inl (Or.inl ⟨by rfl, ?_⟩)) ?_
     rotate_left
     ·intro w' hSw
      (try dsimp only at hSw)
      have s1 := (hSw.cell (p := ⟨xb, 1, none⟩) hz1).trans x1; have s6 := (hSw.cell (p := ⟨xb, 6, none⟩) hz1).trans x6; have s7 := (hSw.cell (p := ⟨xb, 7, none⟩) hz1).trans x7; have s8 := (hSw.cell (p := ⟨xb, 8, none⟩) hz1).trans x8; have s9 := (hSw.cell (p := ⟨xb, 9, none⟩) hz1).trans x9; have s10 := (hSw.cell (p := ⟨xb, 10, none⟩) hz1).trans x10; have s11 := (hSw.cell (p := ⟨xb, 11, none⟩) hz1).trans x11
      first | (go_simp; done) | (go_simp; with_reducible rfl)
     try simp only [Act.put, List.setIfInBounds_toArray, List.set_cons_zero, List.set_cons_succ]
     refine wpAnyD_take (i := 9) (oi := { dst := some 83, op := Op.load 47 (Operand.tmp 82), type := 47, pos := "ref.go:98", after := #[{ on := 8, ground := Ground.data }], guard := none }) (v := ?_) rfl (by kernel_rfl) (by kernel_rfl) (by kernel_rfl) (Or.inl (Or.inl ⟨by rfl, ?_⟩)) ?_
     rotate_left
     ·intro w' hSw
      (try dsimp only at hSw)
      have s1 := (hSw.cell (p := ⟨xb, 1, none⟩) hz1).trans x1; have s6 := (hSw.cell (p := ⟨xb, 6, none⟩) hz1).trans x6; have s7 := (hSw.cell (p := ⟨xb, 7, none⟩) hz1).trans x7; have s8 := (hSw.cell (p := ⟨xb, 8, none⟩) hz1).trans x8; have s9 := (hSw.cell (p := ⟨xb, 9, none⟩) hz1).trans x9; have s10 := (hSw.cell (p := ⟨xb, 10, none⟩) hz1).trans x10; have s11 := (hSw.cell (p := ⟨xb, 11, none⟩) hz1).trans x11
      first | (go_simp; done) | (go_simp; with_reducible rfl)
     try simp only [Act.put, List.setIfInBounds_toArray, List.set_cons_zero, List.set_cons_succ]
     refine wpAnyD_take (i := 12) (oi := { dst := some 86, op := Op.fieldAddr 72 (Operand.tmp 6) 4, type := 0, pos := "ref.go:98", after := #[], guard := none }) (v := ?_) rfl (by kernel_rfl) (by kernel_rfl) (by kernel_rfl) (Or.inl (Or.inl ⟨by rfl, ?_⟩)) ?_
     rotate_left
     ·intro w' hSw
      (try dsimp only at hSw)
      have s1 := (hSw.cell (p := ⟨xb, 1, none⟩) hz1).trans x1; have s6 := (hSw.cell (p := ⟨xb, 6, none⟩) hz1).trans x6; have s7 := (hSw.cell (p := ⟨xb, 7, none⟩) hz1).trans x7; have s8 := (hSw.cell (p := ⟨xb, 8, none⟩) hz1).trans x8; have s9 := (hSw.cell (p := ⟨xb, 9, none⟩) hz1).trans x9; have s10 := (hSw.cell (p := ⟨xb, 10, none⟩) hz1).trans x10; have s11 := (hSw.cell (p := ⟨xb, 11, none⟩) hz1).trans x11
      first | (go_simp; done) | (go_simp; with_reducible rfl)
     try simp only [Act.put, List.setIfInBounds_toArray, List.set_cons_zero, List.set_cons_succ]
     refine wpAnyD_take (i := 13) (oi := { dst := some 87, op := Op.fieldAddr 49 (Operand.tmp 86) 1, type := 0, pos := "ref.go:98", after := #[{ on := 12, ground := Ground.data }], guard := none }) (v := ?_) rfl (by kernel_rfl) (by kernel_rfl) (by kernel_rfl) (Or.inl (Or.inl ⟨by rfl, ?_⟩)) ?_
     rotate_left
     ·intro w' hSw
      (try dsimp only at hSw)
      have s1 := (hSw.cell (p := ⟨xb, 1, none⟩) hz1).trans x1; have s6 := (hSw.cell (p := ⟨xb, 6, none⟩) hz1).trans x6; have s7 := (hSw.cell (p := ⟨xb, 7, none⟩) hz1).trans x7; have s8 := (hSw.cell (p := ⟨xb, 8, none⟩) hz1).trans x8; have s9 := (hSw.cell (p := ⟨xb, 9, none⟩) hz1).trans x9; have s10 := (hSw.cell (p := ⟨xb, 10, none⟩) hz1).trans x10; have s11 := (hSw.cell (p := ⟨xb, 11, none⟩) hz1).trans x11
      first | (go_simp; done) | (go_simp; with_reducible rfl)
     try simp only [Act.put, List.setIfInBounds_toArray, List.set_cons_zero, List.set_cons_succ]
     refine wpAnyD_take (i := 14) (oi := { dst := some 88, op := Op.load 47 (Operand.tmp 87), type := 47, pos := "ref.go:98", after := #[{ on := 13, ground := Ground.data }], guard := none }) (v := ?_) rfl (by kernel_rfl) (by kernel_rfl) (by kernel_rfl) (Or.inl (Or.inl ⟨by rfl, ?_⟩)) ?_
     rotate_left
     ·intro w' hSw
      (try dsimp only at hSw)
      have s1 := (hSw.cell (p := ⟨xb, 1, none⟩) hz1).trans x1; have s6 := (hSw.cell (p := ⟨xb, 6, none⟩) hz1).trans x6; have s7 := (hSw.cell (p := ⟨xb, 7, none⟩) hz1).trans x7; have s8 := (hSw.cell (p := ⟨xb, 8, none⟩) hz1).trans x8; have s9 := (hSw.cell (p := ⟨xb, 9, none⟩) hz1).trans x9; have s10 := (hSw.cell (p := ⟨xb, 10, none⟩) hz1).trans x10; have s11 := (hSw.cell (p := ⟨xb, 11, none⟩) hz1).trans x11
      first | (go_simp; done) | (go_simp; with_reducible rfl)
     try simp only [Act.put, List.setIfInBounds_toArray, List.set_cons_zero, List.set_cons_succ]
     refine wpAnyD_take (i := 17) (oi := { dst := some 91, op := Op.fieldAddr 72 (Operand.tmp 6) 4, type := 0, pos := "ref.go:98", after := #[], guard := none }) (v := ?_) rfl (by kernel_rfl) (by kernel_rfl) (by kernel_rfl) (Or.inl (Or.inl ⟨by rfl, ?_⟩)) ?_
     rotate_left
     ·intro w' hSw
      (try dsimp only at hSw)
      have s1 := (hSw.cell (p := ⟨xb, 1, none⟩) hz1).trans x1; have s6 := (hSw.cell (p := ⟨xb, 6, none⟩) hz1).trans x6; have s7 := (hSw.cell (p := ⟨xb, 7, none⟩) hz1).trans x7; have s8 := (hSw.cell (p := ⟨xb, 8, none⟩) hz1).trans x8; have s9 := (hSw.cell (p := ⟨xb, 9, none⟩) hz1).trans x9; have s10 := (hSw.cell (p := ⟨xb, 10, none⟩) hz1).trans x10; have s11 := (hSw.cell (p := ⟨xb, 11, none⟩) hz1).trans x11
      first | (go_simp; done) | (go_simp; with_reducible rfl)
     try simp only [Act.put, List.setIfInBounds_toArray, List.set_cons_zero, List.set_cons_succ]
     refine wpAnyD_take (i := 18) (oi := { dst := some 92, op := Op.fieldAddr 49 (Operand.tmp 91) 2, type := 0, pos := "ref.go:98", after := #[{ on := 17, ground := Ground.data }], guard := none }) (v := ?_) rfl (by kernel_rfl) (by kernel_rfl) (by kernel_rfl) (Or.inl (Or.inl ⟨by rfl, ?_⟩)) ?_
     rotate_left
     ·intro w' hSw
      (try dsimp only at hSw)
      have s1 := (hSw.cell (p := ⟨xb, 1, none⟩) hz1).trans x1; have s6 := (hSw.cell (p := ⟨xb, 6, none⟩) hz1).trans x6; have s7 := (hSw.cell (p := ⟨xb, 7, none⟩) hz1).trans x7; have s8 := (hSw.cell (p := ⟨xb, 8, none⟩) hz1).trans x8; have s9 := (hSw.cell (p := ⟨xb, 9, none⟩) hz1).trans x9; have s10 := (hSw.cell (p := ⟨xb, 10, none⟩) hz1).trans x10; have s11 := (hSw.cell (p := ⟨xb, 11, none⟩) hz1).trans x11
      first | (go_simp; done) | (go_simp; with_reducible rfl)
     try simp only [Act.put, List.setIfInBounds_toArray, List.set_cons_zero, List.set_cons_succ]
     refine wpAnyD_take (i := 19) (oi := { dst := some 93, op := Op.load 47 (Operand.tmp 92), type := 47, pos := "ref.go:98", after := #[{ on := 18, ground := Ground.data }], guard := none }) (v := ?_) rfl (by kernel_rfl) (by kernel_rfl) (by kernel_rfl) (Or.inl (Or.inl ⟨by rfl, ?_⟩)) ?_
     rotate_left
     ·intro w' hSw
      (try dsimp only at hSw)
      have s1 := (hSw.cell (p := ⟨xb, 1, none⟩) hz1).trans x1; have s6 := (hSw.cell (p := ⟨xb, 6, none⟩) hz1).trans x6; have s7 := (hSw.cell (p := ⟨xb, 7, none⟩) hz1).trans x7; have s8 := (hSw.cell (p := ⟨xb, 8, none⟩) hz1).trans x8; have s9 := (hSw.cell (p := ⟨xb, 9, none⟩) hz1).trans x9; have s10 := (hSw.cell (p := ⟨xb, 10, none⟩) hz1).trans x10; have s11 := (hSw.cell (p := ⟨xb, 11, none⟩) hz1).trans x11
      first | (go_simp; done) | (go_simp; with_reducible rfl)
     try simp only [Act.put, List.setIfInBounds_toArray, List.set_cons_zero, List.set_cons_succ]
     refine wpAnyD_take (i := 22) (oi := { dst := some 96, op := Op.move (Operand.tmp 7), type := 9, pos := "ref.go:98", after := #[], guard := none }) (v := ?_) rfl (by kernel_rfl) (by kernel_rfl) (by kernel_rfl) (Or.inl (Or.inl ⟨by rfl, ?_⟩)) ?_
     rotate_left
     ·intro w' hSw
      (try dsimp only at hSw)
      have s1 := (hSw.cell (p := ⟨xb, 1, none⟩) hz1).trans x1; have s6 := (hSw.cell (p := ⟨xb, 6, none⟩) hz1).trans x6; have s7 := (hSw.cell (p := ⟨xb, 7, none⟩) hz1).trans x7; have s8 := (hSw.cell (p := ⟨xb, 8, none⟩) hz1).trans x8; have s9 := (hSw.cell (p := ⟨xb, 9, none⟩) hz1).trans x9; have s10 := (hSw.cell (p := ⟨xb, 10, none⟩) hz1).trans x10; have s11 := (hSw.cell (p := ⟨xb, 11, none⟩) hz1).trans x11
      first | (go_simp; done) | (go_simp; with_reducible rfl)
     try simp only [Act.put, List.setIfInBounds_toArray, List.set_cons_zero, List.set_cons_succ]
     refine wpAnyD_take (i := 1) (oi := { dst := some 75, op := Op.call { callee := Callee.value (Operand.func 43), args := #[Operand.const (Value.int IntKind.i64 0), Operand.const (Value.string { data := #[65, 82, 67] })], argTypes := #[3, 9] }, type := 9, pos := "ref.go:98", after := #[], guard := none }) (v := (.string G0)) rfl (by kernel_rfl) (by kernel_rfl) (by kernel_rfl) (Or.inr ⟨by rfl, 43, #[.int .i64 0, .string ⟨#[65, 82, 67]⟩], ?_, ?_⟩) ?_
     ·intro w' hSw
      (try dsimp only at hSw)
      first | rfl | (go_simp; done) | (go_simp; with_reducible rfl)
     ·intro w' hSw
      exact (HG0.out w').mono fun e u ⟨he, hb⟩ => ⟨he, hSw.trans (hb.mono hSw.size)⟩
     try simp only [Act.put, List.setIfInBounds_toArray, List.set_cons_zero, List.set_cons_succ]
     refine wpAnyD_take (i := 2) (oi := { dst := some 76, op := Op.binOp BinOp.add 9 (Operand.tmp 74) (Operand.tmp 75) 9, type := 9, pos := "ref.go:98", after := #[{ on := 0, ground := Ground.data }, { on := 1, ground := Ground.data }], guard := none }) (v := ?_) rfl (by kernel_rfl) (by kernel_rfl) (by kernel_rfl) (Or.inl (Or.inl ⟨by rfl, ?_⟩)) ?_
     rotate_left
     ·intro w' hSw
      (try dsimp only at hSw)
      have s1 := (hSw.cell (p := ⟨xb, 1, none⟩) hz1).trans x1; have s6 := (hSw.cell (p := ⟨xb, 6, none⟩) hz1).trans x6; have s7 := (hSw.cell (p := ⟨xb, 7, none⟩) hz1).trans x7; have s8 := (hSw.cell (p := ⟨xb, 8, none⟩) hz1).trans x8; have s9 := (hSw.cell (p := ⟨xb, 9, none⟩) hz1).trans x9; have s10 := (hSw.cell (p := ⟨xb, 10, none⟩) hz1).trans x10; have s11 := (hSw.cell (p := ⟨xb, 11, none⟩) hz1).trans x11
      first | (go_simp; done) | (go_simp; with_reducible rfl)
     try simp only [Act.put, List.setIfInBounds_toArray, List.set_cons_zero, List.set_cons_succ]
     refine wpAnyD_take (i := 5) (oi := { dst := some 79, op := Op.call { callee := Callee.value (Operand.func 43), args := #[Operand.const (Value.int IntKind.i64 8), Operand.tmp 78], argTypes := #[3, 9] }, type := 9, pos := "ref.go:98", after := #[{ on := 4, ground := Ground.data }, { on := 1, ground := Ground.chain }], guard := none }) (v := (.string G1)) rfl (by kernel_rfl) (by kernel_rfl) (by kernel_rfl) (Or.inr ⟨by rfl, 43, #[.int .i64 8, .string LB], ?_, ?_⟩) ?_
     ·intro w' hSw
      (try dsimp only at hSw)
      first | rfl | (go_simp; done) | (go_simp; with_reducible rfl)
     ·intro w' hSw
      exact (HG1.out w').mono fun e u ⟨he, hb⟩ => ⟨he, hSw.trans (hb.mono hSw.size)⟩
     try simp only [Act.put, List.setIfInBounds_toArray, List.set_cons_zero, List.set_cons_succ]
     refine wpAnyD_take (i := 6) (oi := { dst := some 80, op := Op.binOp BinOp.add 9 (Operand.tmp 76) (Operand.tmp 79) 9, type := 9, pos := "ref.go:98", after := #[{ on := 2, ground := Ground.data }, { on := 5, ground := Ground.data }], guard := none }) (v := ?_) rfl (by kernel_rfl) (by kernel_rfl) (by kernel_rfl) (Or.inl (Or.inl ⟨by rfl, ?_⟩)) ?_
     rotate_left
     ·intro w' hSw
      (try dsimp only at hSw)
      have s1 := (hSw.cell (p := ⟨xb, 1, none⟩) hz1).trans x1; have s6 := (hSw.cell (p := ⟨xb, 6, none⟩) hz1).trans x6; have s7 := (hSw.cell (p := ⟨xb, 7, none⟩) hz1).trans x7; have s8 := (hSw.cell (p := ⟨xb, 8, none⟩) hz1).trans x8; have s9 := (hSw.cell (p := ⟨xb, 9, none⟩) hz1).trans x9; have s10 := (hSw.cell (p := ⟨xb, 10, none⟩) hz1).trans x10; have s11 := (hSw.cell (p := ⟨xb, 11, none⟩) hz1).trans x11
      first | (go_simp; done) | (go_simp; with_reducible rfl)
     try simp only [Act.put, List.setIfInBounds_toArray, List.set_cons_zero, List.set_cons_succ]
     refine wpAnyD_take (i := 10) (oi := { dst := some 84, op := Op.call { callee := Callee.value (Operand.func 44), args := #[Operand.const (Value.int IntKind.i64 10), Operand.tmp 83], argTypes := #[3, 47] }, type := 9, pos := "ref.go:98", after := #[{ on := 9, ground := Ground.data }, { on := 5, ground := Ground.chain }], guard := none }) (v := (.string P0)) rfl (by kernel_rfl) (by kernel_rfl) (by kernel_rfl) (Or.inr ⟨by rfl, 44, #[.int .i64 10, .agg #[.int .i64 fx, .int .i64 fy]], ?_, ?_⟩) ?_
     ·intro w' hSw
      (try dsimp only at hSw)
      first | rfl | (go_simp; done) | (go_simp; with_reducible rfl)
     ·intro w' hSw
      exact (HP0.out w').mono fun e u ⟨he, hb⟩ => ⟨he, hSw.trans (hb.mono hSw.size)⟩
     try simp only [Act.put, List.setIfInBounds_toArray, List.set_cons_zero, List.set_cons_succ]
     refine wpAnyD_take (i := 11) (oi := { dst := some 85, op := Op.binOp BinOp.add 9 (Operand.tmp 80) (Operand.tmp 84) 9, type := 9, pos := "ref.go:98", after := #[{ on := 6, ground := Ground.data }, { on := 10, ground := Ground.data }], guard := none }) (v := ?_) rfl (by kernel_rfl) (by kernel_rfl) (by kernel_rfl) (Or.inl (Or.inl ⟨by rfl, ?_⟩)) ?_
     rotate_left
     ·intro w' hSw
      (try dsimp only at hSw)
      have s1 := (hSw.cell (p := ⟨xb, 1, none⟩) hz1).trans x1; have s6 := (hSw.cell (p := ⟨xb, 6, none⟩) hz1).trans x6; have s7 := (hSw.cell (p := ⟨xb, 7, none⟩) hz1).trans x7; have s8 := (hSw.cell (p := ⟨xb, 8, none⟩) hz1).trans x8; have s9 := (hSw.cell (p := ⟨xb, 9, none⟩) hz1).trans x9; have s10 := (hSw.cell (p := ⟨xb, 10, none⟩) hz1).trans x10; have s11 := (hSw.cell (p := ⟨xb, 11, none⟩) hz1).trans x11
      first | (go_simp; done) | (go_simp; with_reducible rfl)
     try simp only [Act.put, List.setIfInBounds_toArray, List.set_cons_zero, List.set_cons_succ]
     refine wpAnyD_take (i := 15) (oi := { dst := some 89, op := Op.call { callee := Callee.value (Operand.func 44), args := #[Operand.const (Value.int IntKind.i64 11), Operand.tmp 88], argTypes := #[3, 47] }, type := 9, pos := "ref.go:98", after := #[{ on := 14, ground := Ground.data }, { on := 10, ground := Ground.chain }], guard := none }) (v := (.string P1)) rfl (by kernel_rfl) (by kernel_rfl) (by kernel_rfl) (Or.inr ⟨by rfl, 44, #[.int .i64 11, .agg #[.int .i64 tx, .int .i64 ty]], ?_, ?_⟩) ?_
     ·intro w' hSw
      (try dsimp only at hSw)
      first | rfl | (go_simp; done) | (go_simp; with_reducible rfl)
     ·intro w' hSw
      exact (HP1.out w').mono fun e u ⟨he, hb⟩ => ⟨he, hSw.trans (hb.mono hSw.size)⟩
     try simp only [Act.put, List.setIfInBounds_toArray, List.set_cons_zero, List.set_cons_succ]
     refine wpAnyD_take (i := 16) (oi := { dst := some 90, op := Op.binOp BinOp.add 9 (Operand.tmp 85) (Operand.tmp 89) 9, type := 9, pos := "ref.go:98", after := #[{ on := 11, ground := Ground.data }, { on := 15, ground := Ground.data }], guard := none }) (v := ?_) rfl (by kernel_rfl) (by kernel_rfl) (by kernel_rfl) (Or.inl (Or.inl ⟨by rfl, ?_⟩)) ?_
     rotate_left
     ·intro w' hSw
      (try dsimp only at hSw)
      have s1 := (hSw.cell (p := ⟨xb, 1, none⟩) hz1).trans x1; have s6 := (hSw.cell (p := ⟨xb, 6, none⟩) hz1).trans x6; have s7 := (hSw.cell (p := ⟨xb, 7, none⟩) hz1).trans x7; have s8 := (hSw.cell (p := ⟨xb, 8, none⟩) hz1).trans x8; have s9 := (hSw.cell (p := ⟨xb, 9, none⟩) hz1).trans x9; have s10 := (hSw.cell (p := ⟨xb, 10, none⟩) hz1).trans x10; have s11 := (hSw.cell (p := ⟨xb, 11, none⟩) hz1).trans x11
      first | (go_simp; done) | (go_simp; with_reducible rfl)
     try simp only [Act.put, List.setIfInBounds_toArray, List.set_cons_zero, List.set_cons_succ]
     refine wpAnyD_take (i := 20) (oi := { dst := some 94, op := Op.call { callee := Callee.value (Operand.func 44), args := #[Operand.const (Value.int IntKind.i64 12), Operand.tmp 93], argTypes := #[3, 47] }, type := 9, pos := "ref.go:98", after := #[{ on := 19, ground := Ground.data }, { on := 15, ground := Ground.chain }], guard := none }) (v := (.string P2)) rfl (by kernel_rfl) (by kernel_rfl) (by kernel_rfl) (Or.inr ⟨by rfl, 44, #[.int .i64 12, .agg #[.int .i64 cx, .int .i64 cy]], ?_, ?_⟩) ?_
     ·intro w' hSw
      (try dsimp only at hSw)
      first | rfl | (go_simp; done) | (go_simp; with_reducible rfl)
     ·intro w' hSw
      exact (HP2.out w').mono fun e u ⟨he, hb⟩ => ⟨he, hSw.trans (hb.mono hSw.size)⟩
     try simp only [Act.put, List.setIfInBounds_toArray, List.set_cons_zero, List.set_cons_succ]
     refine wpAnyD_take (i := 21) (oi := { dst := some 95, op := Op.binOp BinOp.add 9 (Operand.tmp 90) (Operand.tmp 94) 9, type := 9, pos := "ref.go:98", after := #[{ on := 16, ground := Ground.data }, { on := 20, ground := Ground.data }], guard := none }) (v := ?_) rfl (by kernel_rfl) (by kernel_rfl) (by kernel_rfl) (Or.inl (Or.inl ⟨by rfl, ?_⟩)) ?_
     rotate_left
     ·intro w' hSw
      (try dsimp only at hSw)
      have s1 := (hSw.cell (p := ⟨xb, 1, none⟩) hz1).trans x1; have s6 := (hSw.cell (p := ⟨xb, 6, none⟩) hz1).trans x6; have s7 := (hSw.cell (p := ⟨xb, 7, none⟩) hz1).trans x7; have s8 := (hSw.cell (p := ⟨xb, 8, none⟩) hz1).trans x8; have s9 := (hSw.cell (p := ⟨xb, 9, none⟩) hz1).trans x9; have s10 := (hSw.cell (p := ⟨xb, 10, none⟩) hz1).trans x10; have s11 := (hSw.cell (p := ⟨xb, 11, none⟩) hz1).trans x11
      first | (go_simp; done) | (go_simp; with_reducible rfl)
     try simp only [Act.put, List.setIfInBounds_toArray, List.set_cons_zero, List.set_cons_succ]
     refine wpAnyD_take (i := 23) (oi := { dst := some 97, op := Op.call { callee := Callee.value (Operand.func 43), args := #[Operand.const (Value.int IntKind.i64 70), Operand.tmp 96], argTypes := #[3, 9] }, type := 9, pos := "ref.go:98", after := #[{ on := 22, ground := Ground.data }, { on := 20, ground := Ground.chain }], guard := none }) (v := (.string G2)) rfl (by kernel_rfl) (by kernel_rfl) (by kernel_rfl) (Or.inr ⟨by rfl, 43, #[.int .i64 70, .string ⟨#[49]⟩], ?_, ?_⟩) ?_
     ·intro w' hSw
      (try dsimp only at hSw)
      first | rfl | (go_simp; done) | (go_simp; with_reducible rfl)
     ·intro w' hSw
      exact (HG2.out w').mono fun e u ⟨he, hb⟩ => ⟨he, hSw.trans (hb.mono hSw.size)⟩
     try simp only [Act.put, List.setIfInBounds_toArray, List.set_cons_zero, List.set_cons_succ]
     refine wpAnyD_take (i := 24) (oi := { dst := some 98, op := Op.binOp BinOp.add 9 (Operand.tmp 95) (Operand.tmp 97) 9, type := 9, pos := "ref.go:98", after := #[{ on := 21, ground := Ground.data }, { on := 23, ground := Ground.data }], guard := none }) (v := ?_) rfl (by kernel_rfl) (by kernel_rfl) (by kernel_rfl) (Or.inl (Or.inl ⟨by rfl, ?_⟩)) ?_
     rotate_left
     ·intro w' hSw
      (try dsimp only at hSw)
      have s1 := (hSw.cell (p := ⟨xb, 1, none⟩) hz1).trans x1; have s6 := (hSw.cell (p := ⟨xb, 6, none⟩) hz1).trans x6; have s7 := (hSw.cell (p := ⟨xb, 7, none⟩) hz1).trans x7; have s8 := (hSw.cell (p := ⟨xb, 8, none⟩) hz1).trans x8; have s9 := (hSw.cell (p := ⟨xb, 9, none⟩) hz1).trans x9; have s10 := (hSw.cell (p := ⟨xb, 10, none⟩) hz1).trans x10; have s11 := (hSw.cell (p := ⟨xb, 11, none⟩) hz1).trans x11
      first | (go_simp; done) | (go_simp; with_reducible rfl)
     try simp only [Act.put, List.setIfInBounds_toArray, List.set_cons_zero, List.set_cons_succ]
     refine wpAnyD_take (i := 25) (oi := { dst := some 4, op := Op.assign (Operand.tmp 98), type := 9, pos := "ref.go:98", after := #[{ on := 24, ground := Ground.data }, { on := 23, ground := Ground.chain }, { on := 0, ground := Ground.phase }, { on := 1, ground := Ground.phase }, { on := 2, ground := Ground.phase }, { on := 3, ground := Ground.phase }, { on := 4, ground := Ground.phase }, { on := 5, ground := Ground.phase }, { on := 6, ground := Ground.phase }, { on := 7, ground := Ground.phase }, { on := 8, ground := Ground.phase }, { on := 9, ground := Ground.phase }, { on := 10, ground := Ground.phase }, { on := 11, ground := Ground.phase }, { on := 12, ground := Ground.phase }, { on := 13, ground := Ground.phase }, { on := 14, ground := Ground.phase }, { on := 15, ground := Ground.phase }, { on := 16, ground := Ground.phase }, { on := 17, ground := Ground.phase }, { on := 18, ground := Ground.phase }, { on := 19, ground := Ground.phase }, { on := 20, ground := Ground.phase }, { on := 21, ground := Ground.phase }, { on := 22, ground := Ground.phase }, { on := 23, ground := Ground.phase }, { on := 24, ground := Ground.phase }], guard := none }) (v := ?_) rfl (by kernel_rfl) (by kernel_rfl) (by kernel_rfl) (Or.inl (Or.inl ⟨by rfl, ?_⟩)) ?_
     rotate_left
     ·intro w' hSw
      (try dsimp only at hSw)
      have s1 := (hSw.cell (p := ⟨xb, 1, none⟩) hz1).trans x1; have s6 := (hSw.cell (p := ⟨xb, 6, none⟩) hz1).trans x6; have s7 := (hSw.cell (p := ⟨xb, 7, none⟩) hz1).trans x7; have s8 := (hSw.cell (p := ⟨xb, 8, none⟩) hz1).trans x8; have s9 := (hSw.cell (p := ⟨xb, 9, none⟩) hz1).trans x9; have s10 := (hSw.cell (p := ⟨xb, 10, none⟩) hz1).trans x10; have s11 := (hSw.cell (p := ⟨xb, 11, none⟩) hz1).trans x11
      first | (go_simp; done) | (go_simp; with_reducible rfl)
     try simp only [Act.put, List.setIfInBounds_toArray, List.set_cons_zero, List.set_cons_succ]
     refine wpAnyD_done (by kernel_rfl) (fun w' hSw => ?_) _
     go_wp2
     go_roundw
     case rel => exact ⟨j + 1, by go_num, by omega, HL2, by rw [← HOUT.out], Lib.hid (HB1.out.trans (hSw.mono HB1.out.size))⟩
     case measure => simp [intOf]; omega
   ·subst hk
    clear HEK
    have HENT : Hid (entL ⟨3, lay, (ax, ay), (bx, b_y), (fx, fy), (tx, ty), (cx, cy), cw, pts⟩ = gr 0 kPoly ++ (gr 8 lay ++ (gr 90 (Lib.itoa (pl : Int)) ++ pts.flatMap (ptL 10)))) := Lib.hid (by rw [← HPL.out]; rfl)
    have HL2 : Hid ((textOf ((xs.take (j + 1)).flatMap fun x => entL x.e)).length ≤ 1010000 * (j + 1)) := Lib.hid (by
     rw [HTJ.out, List.flatMap_append, textOf_append, List.length_append]
     simp only [List.flatMap_cons, List.flatMap_nil, List.append_nil]
     have h1 := HLEN.out
     have h2 := HEL.out
     omega)
    have zS : (ByteArray.mk (textOf ((xs.take j).flatMap fun x => entL x.e)).toArray).size ≤ 1010000000 := by rw [str_size]; have := HLEN.out; omega
    have HG0 : Hid (∀ W, Calls Tryz.prog 43 #[.int .i64 0, .string ⟨#[80, 79, 76, 89]⟩] W fun e w' => e = .returned (.string ⟨(textOf (gr 0 (kPoly))).toArray⟩) ∧ Below W.heap.size W w') := Lib.hid (fun W => rgtext_any (kPoly) 0 W (by decide) (by omega))
    have zG0 : (ByteArray.mk (textOf (gr 0 (kPoly))).toArray).size ≤ 60 := by rw [str_size]; have := gr_len 0 (kPoly) (by omega); have h0 : (kPoly).length ≤ 4 := (by decide); omega
    have HG1 : Hid (∀ W, Calls Tryz.prog 43 #[.int .i64 8, .string ⟨(lay).toArray⟩] W fun e w' => e = .returned (.string ⟨(textOf (gr 8 (lay))).toArray⟩) ∧ Below W.heap.size W w') := Lib.hid (fun W => rgtext_any (lay) 8 W (by have h0 := HLY1; omega) (by omega))
    have zG1 : (ByteArray.mk (textOf (gr 8 (lay))).toArray).size ≤ 1000100 := by rw [str_size]; have := gr_len 8 (lay) (by omega); have h0 : (lay).length ≤ 1000000 := (HLY1); omega
    have hpl : pl ≤ 40 := by have := HPL.out; omega
    have hpl2 : (pl : Int) ≤ 40 := by omega
    have HNB : Hid (∀ W, Calls Tryz.prog 45 #[.int .i64 (pl : Int)] W fun e w' => e = .returned (.string ⟨(Lib.itoa (pl : Int)).toArray⟩) ∧ Below W.heap.size W w') := Lib.hid (fun W => ritoa_any (pl : Int) W (by omega) (by omega))
    have hil := Lib.itoa_length_le (pl : Int) (by omega) (by omega)
    have HG2 : Hid (∀ W, Calls Tryz.prog 43 #[.int .i64 90, .string ⟨(Lib.itoa (pl : Int)).toArray⟩] W fun e w' => e = .returned (.string ⟨(textOf (gr 90 (Lib.itoa (pl : Int)))).toArray⟩) ∧ Below W.heap.size W w') := Lib.hid (fun W => rgtext_any (Lib.itoa (pl : Int)) 90 W (by omega) (by omega))
    have zG2 : (ByteArray.mk (textOf (gr 90 (Lib.itoa (pl : Int)))).toArray).size ≤ 100 := by rw [str_size]; have := gr_len 90 (Lib.itoa (pl : Int)) (by omega); have h0 : (Lib.itoa (pl : Int)).length ≤ 21 := (by omega); omega
    have HPO : Hid (∀ q ∈ pts, ∀ W, Calls Tryz.prog 44 #[.int .i64 10, .agg #[.int .i64 q.1, .int .i64 q.2]] W fun e w' => e = .returned (.string ⟨(textOf (ptL 10 q)).toArray⟩) ∧ Below W.heap.size W w') := Lib.hid (fun q hq W => rptext_any q 10 W (h2 q hq) (by omega))
    have HZP : Hid (∀ q ∈ pts, (textOf (ptL 10 q)).length ≤ 88) := Lib.hid (fun q hq => ptL_len 10 q (by omega) (h2 q hq))
    have HZT : Hid (∀ i : Nat, (textOf ((pts.take i).flatMap (ptL 10))).length ≤ 88 * i) := Lib.hid (fun i => by
     have := pts_len (pts.take i) fun v hv => h2 v (List.mem_of_mem_take hv)
     have : (pts.take i).length ≤ i := by rw [List.length_take]; omega
     omega)
    have HHD : Hid ((ByteArray.mk (textOf ((xs.take j).flatMap fun x => entL x.e)).toArray) ++ (ByteArray.mk (textOf (gr 0 kPoly)).toArray) ++ (ByteArray.mk (textOf (gr 8 lay)).toArray) ++ (ByteArray.mk (textOf (gr 90 (Lib.itoa (pl : Int)))).toArray) = ByteArray.mk (textOf ((xs.take j).flatMap fun x => entL x.e) ++ textOf (gr 0 kPoly) ++ textOf (gr 8 lay) ++ textOf (gr 90 (Lib.itoa (pl : Int)))).toArray) := Lib.hid (by
     simp only [str_app])
    have HOUT : Hid (ByteArray.mk (textOf ((xs.take j).flatMap fun x => entL x.e) ++ textOf (gr 0 kPoly) ++ textOf (gr 8 lay) ++ textOf (gr 90 (Lib.itoa (pl : Int))) ++ textOf ((pts.take pl).flatMap (ptL 10))).toArray = ByteArray.mk (textOf ((xs.take (j + 1)).flatMap fun x => entL x.e)).toArray) := Lib.hid (by
     rw [show pts.take pl = pts from by rw [← HPL.out]; exact List.take_length]
     rw [HTJ.out, List.flatMap_append, textOf_append]
     simp only [List.flatMap_cons, List.flatMap_nil, List.append_nil]
     rw [HENT.out]
     simp only [textOf_append, List.append_assoc])
    have HDL : Hid ((textOf ((xs.take j).flatMap fun x => entL x.e) ++ textOf (gr 0 kPoly) ++ textOf (gr 8 lay) ++ textOf (gr 90 (Lib.itoa (pl : Int)))).length ≤ 1012000000) := Lib.hid (by
     have e1 := zS; have e2 := zG0; have e3 := zG1; have e4 := zG2
     rw [str_size] at e1 e2 e3 e4
     simp only [List.length_append]
     omega)
    clear h1 h2
    have HX := Lib.hid (GeW.heap_alloc_new wr (.cells #[.int .i64 3, .string ⟨lay.toArray⟩, .int .i64 ax, .int .i64 ay, .int .i64 bx, .int .i64 b_y, .int .i64 fx, .int .i64 fy, .int .i64 tx, .int .i64 ty, .int .i64 cx, .int .i64 cy, .bool cw, .slice PA pl ka] 72))
    have HB1 : Hid (Below w.heap.size w (wr.alloc (.cells #[.int .i64 3, .string ⟨lay.toArray⟩, .int .i64 ax, .int .i64 ay, .int .i64 bx, .int .i64 b_y, .int .i64 fx, .int .i64 fy, .int .i64 tx, .int .i64 ty, .int .i64 cx, .int .i64 cy, .bool cw, .slice PA pl ka] 72))) := Lib.hid (HBW.out.trans ((bel1 wr _).mono HBW.out.size))
    have hz1 : wr.heap.size < (wr.alloc (.cells #[.int .i64 3, .string ⟨lay.toArray⟩, .int .i64 ax, .int .i64 ay, .int .i64 bx, .int .i64 b_y, .int .i64 fx, .int .i64 fy, .int .i64 tx, .int .i64 ty, .int .i64 cx, .int .i64 cy, .bool cw, .slice PA pl ka] 72)).heap.size := blk_lt HX.out
    obtain ⟨HDR, HHR⟩ : ∃ l, Hid (textOf ((xs.take j).flatMap fun x => entL x.e) ++ textOf (gr 0 kPoly) ++ textOf (gr 8 lay) ++ textOf (gr 90 (Lib.itoa (pl : Int))) = l) := ⟨_, Lib.hid rfl⟩
    rw [HHR.out] at HHD HOUT HDL
    clear HHR
    generalize (ByteArray.mk (textOf (gr 0 kPoly)).toArray) = G0 at *
    generalize (ByteArray.mk (textOf (gr 8 lay)).toArray) = G1 at *
    generalize (ByteArray.mk (textOf (gr 90 (Lib.itoa (pl : Int)))).toArray) = G2 at *
    generalize (ByteArray.mk (Lib.itoa (pl : Int)).toArray) = NB at *
    generalize (ByteArray.mk (textOf ((xs.take j).flatMap fun x => entL x.e)).toArray) = SB at *
    generalize (ByteArray.mk (lay).toArray) = LB at *
    have hc0 : (9223372036854775807 < (SB).size + G0.size) = False := eq_false (by first | omega | (simp only [ByteArray.size_append]; omega))
    have hc1 : (9223372036854775807 < (SB ++ G0).size + G1.size) = False := eq_false (by first | omega | (simp only [ByteArray.size_append]; omega))
    have hd1 : (9223372036854775807 < SB.size + G0.size + G1.size) = False := eq_false (by omega)
    have hc2 : (9223372036854775807 < (SB ++ G0 ++ G1).size + G2.size) = False := eq_false (by first | omega | (simp only [ByteArray.size_append]; omega))
    have hd2 : (9223372036854775807 < SB.size + G0.size + G1.size + G2.size) = False := eq_false (by omega)
    go_upto_region 9 with fail
    generalize wr.alloc (.cells #[.int .i64 3, .string LB, .int .i64 ax, .int .i64 ay, .int .i64 bx, .int .i64 b_y, .int .i64 fx, .int .i64 fy, .int .i64 tx, .int .i64 ty, .int .i64 cx, .int .i64 cy, .bool cw, .slice PA pl ka] 72) = W1 at *
    generalize wr.heap.size = xb at *
    clear a0 a1 a2 a3 a4 a5 a6 a7 a8 a9 a10 a11 a12 a13
    have x1 := cell_of HX.out 1 _ rfl
    have x13 := cell_of HX.out 13 _ rfl
    refine wp_region_det (fun w' => Below W1.heap.size W1 w') (by kernel_rfl) (GeW.below_drew (Below.refl _ _)) ?_
    refine wpAnyD_take (i := 0) (oi := { dst := some 24, op := Op.move (Operand.tmp 4), type := 9, pos := "ref.go:100", after := #[], guard := none }) (v := ?_) rfl (by kernel_rfl) (by kernel_rfl) (by kernel_rfl) (Or.inl (Or.inl ⟨by rfl, ?_⟩)) ?_
    rotate_left
    ·intro w' hSw
     (try dsimp only at hSw)
     have s1 := (hSw.cell (p := ⟨xb, 1, none⟩) hz1).trans x1; have s13 := (hSw.cell (p := ⟨xb, 13, none⟩) hz1).trans x13
     first | (go_simp; done) | (go_simp; with_reducible rfl)
    try simp only [Act.put, List.setIfInBounds_toArray, List.set_cons_zero, List.set_cons_succ]
    refine wpAnyD_take (i := 3) (oi := { dst := some 27, op := Op.fieldAddr 72 (Operand.tmp 6) 1, type := 0, pos := "ref.go:100", after := #[], guard := none }) (v := ?_) rfl (by kernel_rfl) (by kernel_rfl) (by kernel_rfl) (Or.inl (Or.inl ⟨by rfl, ?_⟩)) ?_
    rotate_left
    ·intro w' hSw
     (try dsimp only at hSw)
     have s1 := (hSw.cell (p := ⟨xb, 1, none⟩) hz1).trans x1; have s13 := (hSw.cell (p := ⟨xb, 13, none⟩) hz1).trans x13
     first | (go_simp; done) | (go_simp; with_reducible rfl)
    try simp only [Act.put, List.setIfInBounds_toArray, List.set_cons_zero, List.set_cons_succ]
    refine wpAnyD_take (i := 4) (oi := { dst := some 28, op := Op.load 9 (Operand.tmp 27), type := 9, pos := "ref.go:100", after := #[{ on := 3, ground := Ground.data }], guard := none }) (v := ?_) rfl (by kernel_rfl) (by kernel_rfl) (by kernel_rfl) (Or.inl (Or.inl ⟨by rfl, ?_⟩)) ?_
    rotate_left
    ·intro w' hSw
     (try dsimp only at hSw)
     have s1 := (hSw.cell (p := ⟨xb, 1, none⟩) hz1).trans x1; have s13 := (hSw.cell (p := ⟨xb, 13, none⟩) hz1).trans x13
     first | (go_simp; done) | (go_simp; with_reducible rfl)
    try simp only [Act.put, List.setIfInBounds_toArray, List.set_cons_zero, List.set_cons_succ]
    refine wpAnyD_take (i := 7) (oi := { dst := some 31, op := Op.fieldAddr 72 (Operand.tmp 6) 5, type := 0, pos := "ref.go:100", after := #[], guard := none }) (v := ?_) rfl (by kernel_rfl) (by kernel_rfl) (by kernel_rfl) (Or.inl (Or.inl ⟨by rfl, ?_⟩)) ?_
    rotate_left
    ·intro w' hSw
     (try dsimp only at hSw)
     have s1 := (hSw.cell (p := ⟨xb, 1, none⟩) hz1).trans x1; have s13 := (hSw.cell (p := ⟨xb, 13, none⟩) hz1).trans x13
     first | (go_simp; done) | (go_simp; with_reducible rfl)
    try simp only [Act.put, List.setIfInBounds_toArray, List.set_cons_zero, List.set_cons_succ]
    refine wpAnyD_take (i := 8) (oi := { dst := some 32, op := Op.load 50 (Operand.tmp 31), type := 50, pos := "ref.go:100", after := #[{ on := 7, ground := Ground.data }], guard := none }) (v := ?_) rfl (by kernel_rfl) (by kernel_rfl) (by kernel_rfl) (Or.inl (Or.inl ⟨by rfl, ?_⟩)) ?_
    rotate_left
    ·intro w' hSw
     (try dsimp only at hSw)
     have s1 := (hSw.cell (p := ⟨xb, 1, none⟩) hz1).trans x1; have s13 := (hSw.cell (p := ⟨xb, 13, none⟩) hz1).trans x13
     first | (go_simp; done) | (go_simp; with_reducible rfl)
    try simp only [Act.put, List.setIfInBounds_toArray, List.set_cons_zero, List.set_cons_succ]
    refine wpAnyD_take (i := 9) (oi := { dst := some 33, op := Op.call { callee := Callee.builtin Builtin.len, args := #[Operand.tmp 32], argTypes := #[50] }, type := 3, pos := "ref.go:100", after := #[{ on := 8, ground := Ground.data }], guard := none }) (v := ?_) rfl (by kernel_rfl) (by kernel_rfl) (by kernel_rfl) (Or.inl (Or.inl ⟨by rfl, ?_⟩)) ?_
    rotate_left
    ·intro w' hSw
     (try dsimp only at hSw)
     have s1 := (hSw.cell (p := ⟨xb, 1, none⟩) hz1).trans x1; have s13 := (hSw.cell (p := ⟨xb, 13, none⟩) hz1).trans x13
     first | (go_simp; done) | (go_simp; with_reducible rfl)
    try simp only [Act.put, List.setIfInBounds_toArray, List.set_cons_zero, List.set_cons_succ]
    refine wpAnyD_take (i := 1) (oi := { dst := some 25, op := Op.call { callee := Callee.value (Operand.func 43), args := #[Operand.const (Value.int IntKind.i64 0), Operand.const (Value.string { data := #[80, 79, 76, 89] })], argTypes := #[3, 9] }, type := 9, pos := "ref.go:100", after := #[], guard := none }) (v := (.string G0)) rfl (by kernel_rfl) (by kernel_rfl) (by kernel_rfl) (Or.inr ⟨by rfl, 43, #[.int .i64 0, .string ⟨#[80, 79, 76, 89]⟩], ?_, ?_⟩) ?_
    ·intro w' hSw
     (try dsimp only at hSw)
     first | rfl | (go_simp; done) | (go_simp; with_reducible rfl)
    ·intro w' hSw
     exact (HG0.out w').mono fun e u ⟨he, hb⟩ => ⟨he, hSw.trans (hb.mono hSw.size)⟩
    try simp only [Act.put, List.setIfInBounds_toArray, List.set_cons_zero, List.set_cons_succ]
    refine wpAnyD_take (i := 2) (oi := { dst := some 26, op := Op.binOp BinOp.add 9 (Operand.tmp 24) (Operand.tmp 25) 9, type := 9, pos := "ref.go:100", after := #[{ on := 0, ground := Ground.data }, { on := 1, ground := Ground.data }], guard := none }) (v := ?_) rfl (by kernel_rfl) (by kernel_rfl) (by kernel_rfl) (Or.inl (Or.inl ⟨by rfl, ?_⟩)) ?_
    rotate_left
    ·intro w' hSw
     (try dsimp only at hSw)
     have s1 := (hSw.cell (p := ⟨xb, 1, none⟩) hz1).trans x1; have s13 := (hSw.cell (p := ⟨xb, 13, none⟩) hz1).trans x13
     first | (go_simp; done) | (go_simp; with_reducible rfl)
    try simp only [Act.put, List.setIfInBounds_toArray, List.set_cons_zero, List.set_cons_succ]
    refine wpAnyD_take (i := 5) (oi := { dst := some 29, op := Op.call { callee := Callee.value (Operand.func 43), args := #[Operand.const (Value.int IntKind.i64 8), Operand.tmp 28], argTypes := #[3, 9] }, type := 9, pos := "ref.go:100", after := #[{ on := 4, ground := Ground.data }, { on := 1, ground := Ground.chain }], guard := none }) (v := (.string G1)) rfl (by kernel_rfl) (by kernel_rfl) (by kernel_rfl) (Or.inr ⟨by rfl, 43, #[.int .i64 8, .string LB], ?_, ?_⟩) ?_
    ·intro w' hSw
     (try dsimp only at hSw)
     first | rfl | (go_simp; done) | (go_simp; with_reducible rfl)
    ·intro w' hSw
     exact (HG1.out w').mono fun e u ⟨he, hb⟩ => ⟨he, hSw.trans (hb.mono hSw.size)⟩
    try simp only [Act.put, List.setIfInBounds_toArray, List.set_cons_zero, List.set_cons_succ]
    refine wpAnyD_take (i := 6) (oi := { dst := some 30, op := Op.binOp BinOp.add 9 (Operand.tmp 26) (Operand.tmp 29) 9, type := 9, pos := "ref.go:100", after := #[{ on := 2, ground := Ground.data }, { on := 5, ground := Ground.data }], guard := none }) (v := ?_) rfl (by kernel_rfl) (by kernel_rfl) (by kernel_rfl) (Or.inl (Or.inl ⟨by rfl, ?_⟩)) ?_
    rotate_left
    ·intro w' hSw
     (try dsimp only at hSw)
     have s1 := (hSw.cell (p := ⟨xb, 1, none⟩) hz1).trans x1; have s13 := (hSw.cell (p := ⟨xb, 13, none⟩) hz1).trans x13
     first | (go_simp; done) | (go_simp; with_reducible rfl)
    try simp only [Act.put, List.setIfInBounds_toArray, List.set_cons_zero, List.set_cons_succ]
    refine wpAnyD_take (i := 10) (oi := { dst := some 34, op := Op.call { callee := Callee.value (Operand.func 45), args := #[Operand.tmp 33], argTypes := #[3] }, type := 9, pos := "ref.go:100", after := #[{ on := 9, ground := Ground.data }, { on := 5, ground := Ground.chain }], guard := none }) (v := (.string NB)) rfl (by kernel_rfl) (by kernel_rfl) (by kernel_rfl) (Or.inr ⟨by rfl, 45, #[.int .i64 (pl : Int)], ?_, ?_⟩) ?_
    ·intro w' hSw
     (try dsimp only at hSw)
     first | rfl | (go_simp; done) | (go_simp; with_reducible rfl)
    ·intro w' hSw
     exact (HNB.out w').mono fun e u ⟨he, hb⟩ => ⟨he, hSw.trans (hb.mono hSw.size)⟩
    try simp only [Act.put, List.setIfInBounds_toArray, List.set_cons_zero, List.set_cons_succ]
    refine wpAnyD_take (i := 11) (oi := { dst := some 35, op := Op.call { callee := Callee.value (Operand.func 43), args := #[Operand.const (Value.int IntKind.i64 90), Operand.tmp 34], argTypes := #[3, 9] }, type := 9, pos := "ref.go:100", after := #[{ on := 10, ground := Ground.data }, { on := 10, ground := Ground.chain }], guard := none }) (v := (.string G2)) rfl (by kernel_rfl) (by kernel_rfl) (by kernel_rfl) (Or.inr ⟨by rfl, 43, #[.int .i64 90, .string NB], ?_, ?_⟩) ?_
    ·intro w' hSw
     (try dsimp only at hSw)
     first | rfl | (go_simp; done) | (go_simp; with_reducible rfl)
    ·intro w' hSw
     exact (HG2.out w').mono fun e u ⟨he, hb⟩ => ⟨he, hSw.trans (hb.mono hSw.size)⟩
    try simp only [Act.put, List.setIfInBounds_toArray, List.set_cons_zero, List.set_cons_succ]
    refine wpAnyD_take (i := 12) (oi := { dst := some 36, op := Op.binOp BinOp.add 9 (Operand.tmp 30) (Operand.tmp 35) 9, type := 9, pos := "ref.go:100", after := #[{ on := 6, ground := Ground.data }, { on := 11, ground := Ground.data }], guard := none }) (v := ?_) rfl (by kernel_rfl) (by kernel_rfl) (by kernel_rfl) (Or.inl (Or.inl ⟨by rfl, ?_⟩)) ?_
    rotate_left
    ·intro w' hSw
     (try dsimp only at hSw)
     have s1 := (hSw.cell (p := ⟨xb, 1, none⟩) hz1).trans x1; have s13 := (hSw.cell (p := ⟨xb, 13, none⟩) hz1).trans x13
     first | (go_simp; done) | (go_simp; with_reducible rfl)
    try simp only [Act.put, List.setIfInBounds_toArray, List.set_cons_zero, List.set_cons_succ]
    refine wpAnyD_take (i := 13) (oi := { dst := some 4, op := Op.assign (Operand.tmp 36), type := 9, pos := "ref.go:100", after := #[{ on := 12, ground := Ground.data }, { on := 11, ground := Ground.chain }, { on := 0, ground := Ground.phase }, { on := 1, ground := Ground.phase }, { on := 2, ground := Ground.phase }, { on := 3, ground := Ground.phase }, { on := 4, ground := Ground.phase }, { on := 5, ground := Ground.phase }, { on := 6, ground := Ground.phase }, { on := 7, ground := Ground.phase }, { on := 8, ground := Ground.phase }, { on := 9, ground := Ground.phase }, { on := 10, ground := Ground.phase }, { on := 11, ground := Ground.phase }, { on := 12, ground := Ground.phase }], guard := none }) (v := ?_) rfl (by kernel_rfl) (by kernel_rfl) (by kernel_rfl) (Or.inl (Or.inl ⟨by rfl, ?_⟩)) ?_
    rotate_left
    ·intro w' hSw
     (try dsimp only at hSw)
     have s1 := (hSw.cell (p := ⟨xb, 1, none⟩) hz1).trans x1; have s13 := (hSw.cell (p := ⟨xb, 13, none⟩) hz1).trans x13
     first | (go_simp; done) | (go_simp; with_reducible rfl)
    try simp only [Act.put, List.setIfInBounds_toArray, List.set_cons_zero, List.set_cons_succ]
    refine wpAnyD_done (by kernel_rfl) (fun w' hSw => ?_) _
    have HBS : Hid (Below W1.heap.size W1 w') := Lib.hid hSw
    have HX2 := Lib.hid (p_below HX.out hSw)
    have HB2 : Hid (Below w.heap.size w w') := Lib.hid (HB1.out.trans (hSw.mono HB1.out.size))
    rw [HHD.out]
    have HPR2 := Lib.hid (HPR.out.below HB2.out)
    clear x1 x13 hSw HB1 HBS HX hc0 hc1 hc2 hd1 hd2 HHD
    go_wp2
    go_loopw [4, 8] (fun s v wq => ∃ i : Nat, v = .int .i64 (i : Int) ∧ i ≤ pl ∧ s = .string ⟨(HDR ++ textOf ((pts.take i).flatMap (ptL 10))).toArray⟩ ∧ Hid (Below w'.heap.size w' wq)) (fun _ v _ => pl - (intOf v).toNat)
    case atStart => exact ⟨0, rfl, Nat.zero_le _, by simp [textOf], Lib.hid (Below.refl _ _)⟩
    case round =>
     obtain ⟨i, rfl, hi, rfl, HBQ⟩ := hrel
     have HXQ := Lib.hid (p_below HX2.out HBQ.out)
     have x13 := cell_of HXQ.out 13 _ rfl
     by_cases hlti : i < pl
     ·have hlt2 : i < pts.length := by have := HPL.out; omega
      have HTI : Hid (pts.take (i + 1) = pts.take i ++ [pts[i]]) := Lib.hid (List.take_succ_eq_append_getElem hlt2)
      have HPI := Lib.hid (HPO.out pts[i] (List.getElem_mem hlt2))
      have hzp := HZP.out pts[i] (List.getElem_mem hlt2)
      obtain ⟨g, off, rfl, hg, ca⟩ := row_get pt_len2 (by decide) HPR2.out (by omega)
      have p0 := (HBQ.out.cell (p := ⟨g, off + i * 2 + 0, none⟩) hg).trans (ca i hlt2 0 (by decide))
      have p1 := (HBQ.out.cell (p := ⟨g, off + i * 2 + 1, none⟩) hg).trans (ca i hlt2 1 (by decide))
      have HNX : Hid (ByteArray.mk (HDR ++ textOf ((pts.take i).flatMap (ptL 10))).toArray ++ ByteArray.mk (textOf (ptL 10 pts[i])).toArray = ByteArray.mk (HDR ++ textOf ((pts.take (i + 1)).flatMap (ptL 10))).toArray) := Lib.hid (by
       rw [str_app, HTI.out, List.flatMap_append, textOf_append]
       simp only [List.flatMap_cons, List.flatMap_nil, List.append_nil, List.append_assoc])
      have zq : (ByteArray.mk (HDR ++ textOf ((pts.take i).flatMap (ptL 10))).toArray).size ≤ 1013000000 := by
       rw [str_size, List.length_append]; have := HDL.out; have := HZT.out i; omega
      have zp : (ByteArray.mk (textOf (ptL 10 pts[i])).toArray).size ≤ 88 := by rw [str_size]; exact hzp
      generalize (ByteArray.mk (textOf (ptL 10 pts[i])).toArray) = PB at *
      generalize hSQ : (ByteArray.mk (HDR ++ textOf ((pts.take i).flatMap (ptL 10))).toArray) = SQ at *
      generalize pts[i] = q at *
      obtain ⟨px, py⟩ := q
      simp only [ptCells, List.getElem?_cons_zero, List.getElem?_cons_succ, Nat.add_zero] at p0 p1
      have hi1 : (0 : Int) ≤ (i : Int) := by omega
      have hi2 : (i : Int) < (pl : Int) := by omega
      have hcc : (9223372036854775807 < SQ.size + PB.size) = False := eq_false (by omega)
      clear ca
      go_wp2_with fail
      refine (HPI.out _).mono ?_
      rintro e wn ⟨rfl, hbn⟩
      have HBN := Lib.hid (HBQ.out.trans (hbn.mono HBQ.out.size))
      clear hbn p0 p1 x13
      go_wp2
      go_roundw
      case rel => exact ⟨i + 1, by go_num, by omega, by rw [← HNX.out], HBN⟩
      case measure => simp [intOf]; omega
     ·obtain rfl : i = pl := by omega
      rw [HOUT.out]
      go_wp2
      go_roundw
      case rel => exact ⟨j + 1, by go_num, by omega, HL2, rfl, Lib.hid (HB2.out.trans (HBQ.out.mono HB2.out.size))⟩
      case measure => simp [intOf]; omega
  ·obtain rfl : j = xs.length := by omega
   have HEOF : Hid (∀ W, Calls Tryz.prog 43 #[.int .i64 0, .string ⟨#[69, 79, 70]⟩] W fun e w' => e = .returned (.string ⟨(textOf (gr 0 kEof)).toArray⟩) ∧ Below W.heap.size W w') := Lib.hid (fun W => rgtext_any kEof 0 W (by decide) (by omega))
   have zE : (ByteArray.mk (textOf (gr 0 kEof)).toArray).size ≤ 60 := by rw [str_size]; have := gr_len 0 kEof (by omega); have h0 : kEof.length = 3 := rfl; omega
   have zS : (ByteArray.mk (textOf ((xs.take xs.length).flatMap fun x => entL x.e)).toArray).size ≤ 1010000000 := by rw [str_size]; have := HLEN.out; omega
   have HFN : Hid ((ByteArray.mk (textOf ((xs.take xs.length).flatMap fun x => entL x.e)).toArray) ++ (ByteArray.mk (textOf (gr 0 kEof)).toArray) = ByteArray.mk (enc (xs.map EntV.e)).toArray) := Lib.hid (by
    rw [str_app, List.take_length]
    unfold enc drawL
    rw [textOf_append, List.flatMap_map])
   generalize (ByteArray.mk (textOf ((xs.take xs.length).flatMap fun x => entL x.e)).toArray) = SB at *
   generalize (ByteArray.mk (textOf (gr 0 kEof)).toArray) = GE at *
   have hcc : (9223372036854775807 < SB.size + GE.size) = False := eq_false (by omega)
   go_wp2_with fail
   refine (HEOF.out _).mono ?_
   rintro e wn ⟨rfl, hbn⟩
   go_wp2
   go_ret2
   exact ⟨by rw [HFN.out]; rfl, HBW.out.trans (hbn.mono HBW.out.size)⟩
end Go.Proofs.YtnmmhcchpcbeeaaGreatDoor.GtW
