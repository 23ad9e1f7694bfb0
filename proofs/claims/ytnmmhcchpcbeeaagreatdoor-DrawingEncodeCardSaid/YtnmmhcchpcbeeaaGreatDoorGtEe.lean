/- Plain laws: the text of a drawing with short names is short. No program in sight. Conditions: none. -/
import Derived.Test.YtnmmhcchpcbeeaaGreatDoorPqB
import Derived.Test.YtnmmhcchpcbeeaaGreatDoorGtRf
import Derived.Lib.ItoaLen

namespace Go.Proofs.YtnmmhcchpcbeeaaGreatDoor.GtW
open Go Go.RowKit Go.Proofs.YtnmmhcchpcbeeaaGreatDoor.Mem Go.Proofs.YtnmmhcchpcbeeaaGreatDoor.Gt Go.Proofs.YtnmmhcchpcbeeaaGreatDoor.Ge
open Go.Proofs.YtnmmhcchpcbeeaaGreatDoor.GeW (EntV entVals PtsIn PtAt Tagged RowT RowW Ents own_keep own_tag ptCells)
attribute [local go_sem ↓] Go.wp_at_zero Go.wp_at_succ

open Go.Proofs.YtnmmhcchpcbeeaaGreatDoor.PqW (writeString_k strCells_mk byteCells_app isBuilder_below b_new)
/-- The builder in block b holds a text; what else lies in memory is as in an earlier world. -/
structure Bd (B b : Nat) (out : List UInt8) (w0 w : World) : Prop where
 bld : Lib.IsBuilder 77 5 B b (Lib.byteCells out) w
 bel : Below B w0 w
 kept : Lib.OthersKept 5 (some b) w0 w
theorem kept_below {w w' : World} {b : Nat} (hb : Below w.heap.size w w') : Lib.OthersKept 5 (some b) w w' := fun k _o h _ _ => (hb.block k (blk_lt h)).trans h
theorem Bd.below {B b : Nat} {out : List UInt8} {w0 w w' : World} (h : Bd B b out w0 w) (hb : Below w.heap.size w w') (hB : B ≤ w.heap.size) : Bd B b out w0 w' :=
 ⟨isBuilder_below h.bld hb, h.bel.trans (hb.mono hB), h.kept.trans (kept_below hb)⟩
theorem Bd.wr {B b : Nat} {out out' : List UInt8} {w0 w w' : World} (h : Bd B b out w0 w) (h' : Bd B b out' w w') : Bd B b out' w0 w' :=
 ⟨h'.bld, h.bel.trans h'.bel, h.kept.trans h'.kept⟩
theorem str_app (a b : List UInt8) : (ByteArray.mk a.toArray) ++ (ByteArray.mk b.toArray) = ⟨(a ++ b).toArray⟩ := by
 apply ByteArray.ext
 simp
theorem gr_text (c : Int) (v : List UInt8) : textOf (gr c v) = Lib.itoa c ++ [10] ++ v ++ [10] := by simp [textOf, gr]
set_option maxRecDepth 100000 in
set_option maxHeartbeats 1000000 in
theorem wgroup_any (B b : Nat) (out v : List UInt8) (c : Int) (w : World) (hB : Lib.IsBuilder 77 5 B b (Lib.byteCells out) w) (hBw : B ≤ w.heap.size) (hG : Glob w) (hl : out.length + v.length + 30 ≤ 140737488355328) (hc : -9223372036854775808 ≤ c ∧ c ≤ 9223372036854775807) :
  Calls Tryz.prog 34 #[.int .i64 c, .string ⟨v.toArray⟩, .pointer (some ⟨b, 0, none⟩)] w fun e w' => e = .returned (.tuple #[]) ∧ Bd B b (out ++ textOf (gr c v)) w w' := by
 have HI := Lib.hid (itoa_any c w hG hc.1 hc.2)
 have hil := Lib.itoa_length_le c hc.1 hc.2
 have HT : Hid (((ByteArray.mk (Lib.itoa c).toArray) ++ (ByteArray.mk #[10]) ++ (ByteArray.mk v.toArray) ++ (ByteArray.mk #[10])) = ByteArray.mk (textOf (gr c v)).toArray) := Lib.hid (by
  rw [gr_text]
  rw [show (ByteArray.mk #[10]) = ByteArray.mk ([10] : List UInt8).toArray from rfl, str_app, str_app, str_app])
 have hlt : (textOf (gr c v)).length ≤ v.length + 23 := by rw [gr_text]; simp only [List.length_append, List.length_cons, List.length_nil]; omega
 have HW := Lib.hid (fun W (hW : Lib.IsBuilder 77 5 B b (Lib.byteCells out) W) h2 => writeString_k B b (Lib.byteCells out) (ByteArray.mk (textOf (gr c v)).toArray) W hW (by simp only [Lib.byteCells, List.length_map]; rw [show (ByteArray.mk (textOf (gr c v)).toArray).size = (textOf (gr c v)).length from by simp [ByteArray.size]]; omega) h2)
 have HF : Hid (Lib.byteCells out ++ Lib.strCells (ByteArray.mk (textOf (gr c v)).toArray) = Lib.byteCells (out ++ textOf (gr c v))) := Lib.hid (by rw [strCells_mk, byteCells_app])
 rw [← HT.out] at HW HF
 have HBD := Lib.hid hB
 have hIB : (ByteArray.mk (Lib.itoa c).toArray).size ≤ 21 := by rw [str_size]; exact hil
 have hVB : (ByteArray.mk v.toArray).size ≤ 140737488355328 := by rw [str_size]; omega
 clear HT hB hil hlt
 generalize (ByteArray.mk (Lib.itoa c).toArray) = IB at *
 generalize (ByteArray.mk v.toArray) = VB at *
 go_enter Tryz.func34, Tryz.ntmps34
 go_wp2_with fail
 refine HI.out.mono ?_
 rintro e w1 ⟨rfl, hb1⟩
 clear HI
 go_wp2_with fail
 refine (HW.out _ (isBuilder_below HBD.out hb1) (Nat.le_trans hBw hb1.size)).mono ?_
 rintro e w2 ⟨rfl, hbl, hbe, hk⟩
 go_wp2
 go_end0
 exact ⟨rfl, by rw [← HF.out]; exact .inr hbl, (hb1.mono hBw).trans hbe, (kept_below hb1).trans hk⟩
end Go.Proofs.YtnmmhcchpcbeeaaGreatDoor.GtW

namespace Go.Proofs.YtnmmhcchpcbeeaaGreatDoor.GtW
open Go Go.RowKit Go.Proofs.YtnmmhcchpcbeeaaGreatDoor.Mem Go.Proofs.YtnmmhcchpcbeeaaGreatDoor.Gt Go.Proofs.YtnmmhcchpcbeeaaGreatDoor.Ge
open Go.Proofs.YtnmmhcchpcbeeaaGreatDoor.GeW (EntV entVals PtsIn PtAt Tagged RowT RowW Ents own_keep own_tag ptCells)
attribute [local go_sem ↓] Go.wp_at_zero Go.wp_at_succ

open Go.Proofs.YtnmmhcchpcbeeaaGreatDoor.PqW (writeString_k strCells_mk byteCells_app isBuilder_below b_new)
theorem kept_fn {w w' : World} {b k : Nat} {cs : Array Value} {T : TypeId} {fr : Nat × Nat} (h : Lib.OthersKept 5 (some b) w w') (hk : w.heap[k]? = some (.cells cs T fr)) (hne : k ≠ b) (hT : T ≠ 5) : w'.heap[k]? = some (.cells cs T fr) :=
 h k _ hk (fun e => hne (by injection e)) (fun c fz e => hT (by injection e))
set_option maxRecDepth 100000 in
set_option maxHeartbeats 1000000 in
theorem wnumber_any (B b gb : Nat) (out : List UInt8) (c n : Int) (w : World) (hB : Lib.IsBuilder 77 5 B b (Lib.byteCells out) w) (hgb : w.heap[gb]? = some (.cells #[.func (.func 34) #[] #[.pointer (some ⟨b, 0, none⟩)]] 83 (0, 0))) (hne : gb ≠ b) (hBw : B ≤ w.heap.size) (hG : Glob w) (hl : out.length + 60 ≤ 140737488355328) (hc : -9223372036854775808 ≤ c ∧ c ≤ 9223372036854775807) (hn : -9223372036854775808 ≤ n ∧ n ≤ 9223372036854775807) :
  Calls Tryz.prog 37 #[.int .i64 c, .int .i64 n, .pointer (some ⟨gb, 0, none⟩)] w fun e w' => e = .returned (.tuple #[]) ∧ Bd B b (out ++ textOf (gr c (Lib.itoa n))) w w' := by
 have hd : Below w.heap.size w w.drew := GeW.below_drew (Below.refl _ _)
 have HI := Lib.hid (fun W hW => itoa_any n W hW hn.1 hn.2)
 have hil := Lib.itoa_length_le n hn.1 hn.2
 have hl2 : out.length + (Lib.itoa n).length + 30 ≤ 140737488355328 := by omega
 have HBD := Lib.hid hB
 have HGB := Lib.hid hgb
 have HG := Lib.hid hG
 have hg := cell_of hgb 0 _ rfl
 clear hB hgb hG hil
 go_enter Tryz.func37, Tryz.ntmps37
 refine wp_region_held_drew (S := fun w' => w'.cell? ⟨gb, 0, none⟩ = some (.func (.func 34) #[] #[.pointer (some ⟨b, 0, none⟩)])) (by kernel_rfl) ?_ (fun hHeld => ?_)
 ·exact hg
 refine wpAnyH_take (i := 0) (oi := { dst := some 5, op := Op.load 83 (Operand.tmp 2), type := 83, pos := "drawing.go:71", after := #[], guard := none }) (v := ?_) rfl (by kernel_rfl) (by kernel_rfl) (by kernel_rfl) (fun _ _ _ h => h) (Or.inl ⟨by rfl, ?_⟩) (by assumption) ?_
 rotate_left
 ·intro w' hSw
  (try dsimp only at hSw)
  first | (go_simp; done) | (go_simp; with_reducible rfl)
 try simp only [Act.put, List.setIfInBounds_toArray, List.set_cons_zero, List.set_cons_succ]
 refine wpAnyH_take (i := 1) (oi := { dst := some 6, op := Op.move (Operand.tmp 0), type := 3, pos := "drawing.go:71", after := #[], guard := none }) (v := ?_) rfl (by kernel_rfl) (by kernel_rfl) (by kernel_rfl) (fun _ _ _ h => h) (Or.inl ⟨by rfl, ?_⟩) (by assumption) ?_
 rotate_left
 ·intro w' hSw
  (try dsimp only at hSw)
  first | (go_simp; done) | (go_simp; with_reducible rfl)
 try simp only [Act.put, List.setIfInBounds_toArray, List.set_cons_zero, List.set_cons_succ]
 refine wpAnyH_take (i := 2) (oi := { dst := some 7, op := Op.move (Operand.tmp 1), type := 3, pos := "drawing.go:71", after := #[], guard := none }) (v := ?_) rfl (by kernel_rfl) (by kernel_rfl) (by kernel_rfl) (fun _ _ _ h => h) (Or.inl ⟨by rfl, ?_⟩) (by assumption) ?_
 rotate_left
 ·intro w' hSw
  (try dsimp only at hSw)
  first | (go_simp; done) | (go_simp; with_reducible rfl)
 try simp only [Act.put, List.setIfInBounds_toArray, List.set_cons_zero, List.set_cons_succ]
 refine wpAnyH_ready (rs := [3]) (by kernel_rfl) (by simp) ?_
 refine AllReadyH.cons (o := { dst := some 8, op := Op.call { callee := Callee.value (Operand.func 36), args := #[Operand.tmp 7], argTypes := #[3] }, type := 9, pos := "drawing.go:71", after := #[{ on := 2, ground := Ground.data }], guard := none }) rfl (fun K hK => ?_) AllReadyH.nil
 go_simp
 go_at_call 36
 refine (HI.out w.drew (HG.out.below hd)).mono ?_
 rintro e w1 ⟨rfl, hb1⟩
 replace hb1 : Below w.heap.size w w1 := hd.trans hb1
 have HG1 := Lib.hid (p_below HGB.out hb1)
 have hg1 := cell_of HG1.out 0 _ rfl
 refine hK.out _ _ ?_ (fun hHeld => ?_)
 ·exact hg1
 clear hK K
 try simp only [Act.put, List.setIfInBounds_toArray, List.set_cons_zero, List.set_cons_succ]
 refine wpAnyH_ready (rs := [4]) (by kernel_rfl) (by simp) ?_
 refine AllReadyH.cons (o := { dst := some 9, op := Op.call { callee := Callee.value (Operand.tmp 5), args := #[Operand.tmp 6, Operand.tmp 8], argTypes := #[3, 9] }, type := 0, pos := "drawing.go:71", after := #[{ on := 0, ground := Ground.data }, { on := 1, ground := Ground.data }, { on := 3, ground := Ground.data }, { on := 3, ground := Ground.chain }], guard := none }) rfl (fun K hK => ?_) AllReadyH.nil
 go_simp
 go_at_call 34
 refine (wgroup_any B b out (Lib.itoa n) c w1 (isBuilder_below HBD.out hb1) (Nat.le_trans hBw hb1.size) (HG.out.below hb1) hl2 hc).mono ?_
 rintro e w2 ⟨rfl, h2⟩
 have HW2 := Lib.hid h2
 have HG2 := Lib.hid (kept_fn h2.kept HG1.out hne (by decide))
 have hg2 := cell_of HG2.out 0 _ rfl
 clear h2
 refine hK.out _ _ ?_ (fun hHeld => ?_)
 ·exact hg2
 clear hK K
 try simp only [Act.put, List.setIfInBounds_toArray, List.set_cons_zero, List.set_cons_succ]
 refine wpAnyH_done (by kernel_rfl) ?_ _
 go_wp2
 go_end0
 exact ⟨rfl, HW2.out.bld, (hb1.mono hBw).trans HW2.out.bel, (kept_below hb1).trans HW2.out.kept⟩
set_option maxRecDepth 100000 in
set_option maxHeartbeats 1000000 in
theorem wpoint_any (B b gb nb : Nat) (out : List UInt8) (c x y : Int) (w : World) (hB : Lib.IsBuilder 77 5 B b (Lib.byteCells out) w) (hgb : w.heap[gb]? = some (.cells #[.func (.func 34) #[] #[.pointer (some ⟨b, 0, none⟩)]] 83 (0, 0))) (hnb : w.heap[nb]? = some (.cells #[.func (.func 37) #[] #[.pointer (some ⟨gb, 0, none⟩)]] 84 (0, 0))) (hne : gb ≠ b) (hnn : nb ≠ b) (hBw : B ≤ w.heap.size) (h7 : 7 ≤ B) (hG : Glob w) (hl : out.length + 120 ≤ 140737488355328) (hc : 0 ≤ c ∧ c ≤ 1000) (hx : -9223372036854775808 ≤ x ∧ x ≤ 9223372036854775807) (hy : -9223372036854775808 ≤ y ∧ y ≤ 9223372036854775807) :
  Calls Tryz.prog 38 #[.int .i64 c, .agg #[.int .i64 x, .int .i64 y], .pointer (some ⟨nb, 0, none⟩)] w fun e w' => e = .returned (.tuple #[]) ∧ Bd B b (out ++ textOf (ptL c (x, y))) w w' := by
 have hbw : b < w.heap.size := by
  rcases hB with h | h
  ·exact h.lt
  ·exact h.lt
 have HO := Lib.hid (GeW.one_vec w (.cells #[.int .i64 x, .int .i64 y] 47))
 have hb0 := bel1 w (.cells #[.int .i64 x, .int .i64 y] 47)
 have HB0 : Hid (Bd B b out w (w.alloc (.cells #[.int .i64 x, .int .i64 y] 47))) := Lib.hid ⟨isBuilder_below hB hb0, (Below.refl _ _).trans (hb0.mono hBw), kept_below hb0⟩
 have HG0 := Lib.hid (hG.below hb0)
 have HGB := Lib.hid (p_below hgb hb0)
 have HNB := Lib.hid (p_below hnb hb0)
 have HV0 := Lib.hid (GeW.heap_alloc_new w (.cells #[.int .i64 x, .int .i64 y] 47))
 have hz0 : B ≤ (w.alloc (.cells #[.int .i64 x, .int .i64 y] 47)).heap.size := Nat.le_trans hBw hb0.size
 have hl1 := Lib.itoa_length_le x hx.1 hx.2
 have hi1 := Lib.itoa_length_le c (by omega) (by omega)
 have HT1 : Hid ((out ++ textOf (gr c (Lib.itoa x))).length + 60 ≤ 140737488355328) := Lib.hid (by rw [gr_text]; simp only [List.length_append, List.length_cons, List.length_nil]; omega)
 have HFT : Hid (out ++ textOf (gr c (Lib.itoa x)) ++ textOf (gr (c + 10) (Lib.itoa y)) = out ++ textOf (ptL c (x, y))) := Lib.hid (by unfold ptL; rw [textOf_append, List.append_assoc])
 have hwr : IntKind.i64.wrap (c + 10) = c + 10 := by rw [wrapEq]; unfold wrap64; omega
 have hW0 := Lib.hid hb0
 clear hB hgb hnb hG hl1 hi1 hb0
 go_enter Tryz.func38, Tryz.ntmps38
 have v0 := cell_of HV0.out 0 _ rfl
 have v1 := cell_of HV0.out 1 _ rfl
 have n0 := cell_of HNB.out 0 _ rfl
 go_wp2_with fail
 generalize w.alloc (.cells #[.int .i64 x, .int .i64 y] 47) = W0 at *
 refine (wnumber_any B b gb out c x W0 HB0.out.bld HGB.out hne hz0 HG0.out (by omega) (by omega) hx).mono ?_
 rintro e w1 ⟨rfl, h1⟩
 have HB1 := Lib.hid (Bd.wr HB0.out h1)
 have HV1 := Lib.hid (kept_fn h1.kept HV0.out (by omega) (by decide))
 have HGB1 := Lib.hid (kept_fn h1.kept HGB.out hne (by decide))
 have HNB1 := Lib.hid (kept_fn h1.kept HNB.out hnn (by decide))
 have HG1 := Lib.hid (HG0.out.below7 (h1.bel.mono h7))
 have hz1 : B ≤ w1.heap.size := Nat.le_trans hz0 h1.bel.size
 clear h1 v0 v1 n0 HV0 HGB HNB
 have v1 := cell_of HV1.out 1 _ rfl
 have n0 := cell_of HNB1.out 0 _ rfl
 go_wp2_with fail
 refine (wnumber_any B b gb (out ++ textOf (gr c (Lib.itoa x))) (c + 10) y w1 HB1.out.bld HGB1.out hne hz1 HG1.out HT1.out (by omega) hy).mono ?_
 rintro e w2 ⟨rfl, h2⟩
 have HB2 := Lib.hid (Bd.wr HB1.out h2)
 clear h2
 go_wp2
 go_end0
 have := HB2.out
 rw [HFT.out] at this
 exact ⟨rfl, this⟩
end Go.Proofs.YtnmmhcchpcbeeaaGreatDoor.GtW

namespace Go.Proofs.YtnmmhcchpcbeeaaGreatDoor.GtW
open Go Go.RowKit Go.Proofs.YtnmmhcchpcbeeaaGreatDoor.Mem Go.Proofs.YtnmmhcchpcbeeaaGreatDoor.Gt Go.Proofs.YtnmmhcchpcbeeaaGreatDoor.Ge
open Go.Proofs.YtnmmhcchpcbeeaaGreatDoor.GeW (EntV entVals PtsIn PtAt Tagged RowT RowW Ents own_keep own_tag ptCells)
/-- Both coordinates are small. -/
def Sm (v : V) : Prop := (-2000 ≤ v.1 ∧ v.1 ≤ 2000) ∧ (-2000 ≤ v.2 ∧ v.2 ≤ 2000)
theorem Sm.of {v : V} (h : within v 2000 = true) : Sm v := by
 unfold within at h
 simp only [Bool.and_eq_true, decide_eq_true_eq] at h
 exact ⟨⟨h.1, h.2.1⟩, h.2.2.1, h.2.2.2⟩
theorem ent_kind {x : Ent} (h : entOk x = true) : (x.kind = 1 ∧ Sm x.a ∧ Sm x.b) ∨ (x.kind = 2 ∧ Sm x.f ∧ Sm x.t ∧ Sm x.c) ∨ (x.kind = 3 ∧ x.pts.length ≤ 40 ∧ ∀ v ∈ x.pts, Sm v) := by
 unfold entOk at h
 rw [Bool.and_eq_true] at h
 have h2 := h.2
 by_cases k1 : x.kind = 1
 ·rw [if_pos k1] at h2
  unfold lineOk at h2
  simp only [Bool.and_eq_true] at h2
  exact .inl ⟨k1, .of h2.2.1, .of h2.2.2.1⟩
 ·rw [if_neg k1] at h2
  by_cases k2 : x.kind = 2
  ·rw [if_pos k2] at h2
   unfold turnOk arcOk at h2
   simp only [Bool.and_eq_true] at h2
   exact .inr (.inl ⟨k2, .of h2.2.1.1, .of h2.2.1.2.1, .of h2.2.1.2.2.1⟩)
  ·rw [if_neg k2] at h2
   by_cases k3 : x.kind = 3
   ·rw [if_pos k3] at h2
    unfold polyOk near at h2
    simp only [Bool.and_eq_true, decide_eq_true_eq, List.all_eq_true] at h2
    exact .inr (.inr ⟨k3, h2.2.2.2.1, fun v hv => .of (h2.2.2.2.2 v hv)⟩)
   ·rw [if_neg k3] at h2
    cases h2
theorem gr_len (c : Int) (v : List UInt8) (hc : 0 ≤ c ∧ c ≤ 1000) : (textOf (gr c v)).length ≤ v.length + 23 := by
 have := Lib.itoa_length_le c (by omega) (by omega)
 rw [gr_text]
 simp only [List.length_append, List.length_cons, List.length_nil]
 omega
theorem ptL_len (c : Int) (v : V) (hc : 0 ≤ c ∧ c ≤ 900) (hv : Sm v) : (textOf (ptL c v)).length ≤ 88 := by
 obtain ⟨⟨h1, h2⟩, h3, h4⟩ := hv
 have := Lib.itoa_length_le v.1 (by omega) (by omega)
 have := Lib.itoa_length_le v.2 (by omega) (by omega)
 have := gr_len c (Lib.itoa v.1) (by omega)
 have := gr_len (c + 10) (Lib.itoa v.2) (by omega)
 unfold ptL
 rw [textOf_append, List.length_append]
 omega
theorem pts_len (l : List V) (h : ∀ v ∈ l, Sm v) : (textOf (l.flatMap (ptL 10))).length ≤ 88 * l.length := by
 induction l with
 | nil => simp [textOf]
 | cons a l ih =>
  rw [List.flatMap_cons, textOf_append, List.length_append, List.length_cons]
  have := ih fun v hv => h v (by simp [hv])
  have := ptL_len 10 a (by omega) (h a (by simp))
  omega
theorem entL_len {x : Ent} (h : entOk x = true) (hl : x.layer.length ≤ 1000000) : (textOf (entL x)).length ≤ 1010000 := by
 have h0 : (textOf (gr 8 x.layer)).length ≤ 1000000 + 23 := Nat.le_trans (gr_len 8 x.layer (by omega)) (by omega)
 have g1 := gr_len 0 kLine (by omega)
 have g2 := gr_len 0 kArc (by omega)
 have g3 := gr_len 0 kPoly (by omega)
 have e1 : kLine.length = 4 := rfl
 have e2 : kArc.length = 3 := rfl
 have e3 : kPoly.length = 4 := rfl
 unfold entL
 rcases ent_kind h with ⟨k, ha, hb⟩ | ⟨k, hf, ht, hc⟩ | ⟨k, hp, hv⟩
 ·rw [if_pos k]
  simp only [textOf_append, List.length_append]
  have := ptL_len 10 x.a (by omega) ha
  have := ptL_len 11 x.b (by omega) hb
  omega
 ·rw [if_neg (by omega), if_pos k]
  simp only [textOf_append, List.length_append]
  have := ptL_len 10 x.f (by omega) hf
  have := ptL_len 11 x.t (by omega) ht
  have := ptL_len 12 x.c (by omega) hc
  have := gr_len 70 (if x.cw = true then [49] else [48]) (by omega)
  have : (if x.cw = true then ([49] : List UInt8) else [48]).length = 1 := by split <;> rfl
  omega
 ·rw [if_neg (by omega), if_neg (by omega)]
  simp only [textOf_append, List.length_append]
  have := pts_len x.pts hv
  have := gr_len 90 (Lib.itoa x.pts.length) (by omega)
  have := Lib.itoa_length_le (x.pts.length : Int) (by omega) (by omega)
  omega
end Go.Proofs.YtnmmhcchpcbeeaaGreatDoor.GtW

namespace Go.Proofs.YtnmmhcchpcbeeaaGreatDoor.GtW
open Go Go.RowKit Go.Proofs.YtnmmhcchpcbeeaaGreatDoor.Mem Go.Proofs.YtnmmhcchpcbeeaaGreatDoor.Gt Go.Proofs.YtnmmhcchpcbeeaaGreatDoor.Ge
theorem entL_small {x : Ent} (h : entOk x = true) (hl : x.layer.length ≤ 40) : (textOf (entL x)).length ≤ 4000 := by
 have h0 : (textOf (gr 8 x.layer)).length ≤ 40 + 23 := Nat.le_trans (gr_len 8 x.layer (by omega)) (by omega)
 have g1 := gr_len 0 kLine (by omega)
 have g2 := gr_len 0 kArc (by omega)
 have g3 := gr_len 0 kPoly (by omega)
 have e1 : kLine.length = 4 := rfl
 have e2 : kArc.length = 3 := rfl
 have e3 : kPoly.length = 4 := rfl
 unfold entL
 rcases ent_kind h with ⟨k, ha, hb⟩ | ⟨k, hf, ht, hc⟩ | ⟨k, hp, hv⟩
 ·rw [if_pos k]
  simp only [textOf_append, List.length_append]
  have := ptL_len 10 x.a (by omega) ha
  have := ptL_len 11 x.b (by omega) hb
  omega
 ·rw [if_neg (by omega), if_pos k]
  simp only [textOf_append, List.length_append]
  have := ptL_len 10 x.f (by omega) hf
  have := ptL_len 11 x.t (by omega) ht
  have := ptL_len 12 x.c (by omega) hc
  have := gr_len 70 (if x.cw = true then [49] else [48]) (by omega)
  have : (if x.cw = true then ([49] : List UInt8) else [48]).length = 1 := by split <;> rfl
  omega
 ·rw [if_neg (by omega), if_neg (by omega)]
  simp only [textOf_append, List.length_append]
  have := pts_len x.pts hv
  have := gr_len 90 (Lib.itoa x.pts.length) (by omega)
  have := Lib.itoa_length_le (x.pts.length : Int) (by omega) (by omega)
  omega
theorem ents_small : ∀ {d : List Ent}, (∀ x ∈ d, entOk x = true) → (∀ x ∈ d, x.layer.length ≤ 40) → (textOf (d.flatMap entL)).length ≤ 4000 * d.length
 | [], _, _ => by simp [textOf]
 | x :: d, h, hl => by
  rw [List.flatMap_cons, textOf_append, List.length_append, List.length_cons]
  have := ents_small (d := d) (fun y hy => h y (by simp [hy])) (fun y hy => hl y (by simp [hy]))
  have := entL_small (h x (by simp)) (hl x (by simp))
  omega
theorem enc_small {d : List Ent} (h : drawOk d = true) (hl : ∀ x ∈ d, x.layer.length ≤ 40) : (enc d).length ≤ 4000 * d.length + 30 ∧ 0 < (enc d).length := by
 have h2 : ∀ x ∈ d, entOk x = true := by
  unfold drawOk at h
  rw [Bool.and_eq_true, List.all_eq_true] at h
  exact h.2
 have := ents_small h2 hl
 have g1 := gr_len 0 kEof (by omega)
 have e1 : kEof.length = 3 := rfl
 have e2 : 0 < (textOf (gr 0 kEof)).length := by rw [gr_text]; simp only [List.length_append, List.length_cons]; omega
 unfold enc drawL
 rw [textOf_append, List.length_append]
 omega
end Go.Proofs.YtnmmhcchpcbeeaaGreatDoor.GtW
