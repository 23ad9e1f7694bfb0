/- Walks: the reference's text of a group and of a point. Conditions: the text has at most 2^40 bytes; small numbers. -/
import Derived.Test.YtnmmhcchpcbeeaaGreatDoorGtNb
import Derived.Test.YtnmmhcchpcbeeaaGreatDoorGtRe
import Derived.Test.YtnmmhcchpcbeeaaGreatDoorProg
import Derived.Deep.RegionHeld3
import Derived.Test.YtnmmhcchpcbeeaaGreatDoorGtEe
import Derived.Laws.Concat

namespace Go.Proofs.YtnmmhcchpcbeeaaGreatDoor.GtW
open Go Go.RowKit Go.Proofs.YtnmmhcchpcbeeaaGreatDoor.Mem Go.Proofs.YtnmmhcchpcbeeaaGreatDoor.Gt Go.Proofs.YtnmmhcchpcbeeaaGreatDoor.Ge
open Go.Proofs.YtnmmhcchpcbeeaaGreatDoor.GeW (EntV entVals PtsIn PtAt Tagged RowT RowW Ents own_keep own_tag ptCells)
attribute [local go_sem ↓] Go.wp_at_zero Go.wp_at_succ

set_option maxRecDepth 100000 in
set_option maxHeartbeats 2000000 in
theorem rdrawOk_any (es : List EntV) (A : Option Addr) (c : Nat) (w : World) (hr : Ents w A es) :
  Calls Tryz.prog 13 #[.slice A es.length c] w fun e w' => e = .returned (.bool (drawOk (es.map EntV.e))) ∧ Below w.heap.size w w' := by
 have HR := Lib.hid hr
 have hl := hr.2.2
 obtain ⟨DK, HDK⟩ : ∃ DK, Hid (drawOk (es.map EntV.e) = DK) := ⟨_, Lib.hid rfl⟩
 rw [HDK.out]
 clear hr
 go_enter Tryz.func13, Tryz.ntmps13
 go_wp2
 go_loopw [3] (fun i wr => ∃ j : Nat, i = .int .i64 (j : Int) ∧ j ≤ es.length ∧ Hid (DK = (decide (es.length ≤ 200) && ((es.drop j).map EntV.e).all entOk)) ∧ Hid (Below w.heap.size w wr)) (fun i _ => es.length - (intOf i).toNat)
 case atStart => exact ⟨0, rfl, Nat.zero_le _, Lib.hid (by rw [← HDK.out]; unfold drawOk; simp), Lib.hid (Below.refl _ _)⟩
 case round =>
  obtain ⟨j, rfl, hj, HD, HB⟩ := hrel
  by_cases hlt : j < es.length
  ·obtain ⟨g, off, rfl, hg, ca⟩ := row_get GeW.ent_len (by decide) HR.out.1 (by omega)
   have a0 := (HB.out.cell (p := ⟨g, off + j * 14 + 0, none⟩) hg).trans (ca j hlt 0 (by decide))
   have a1 := (HB.out.cell (p := ⟨g, off + j * 14 + 1, none⟩) hg).trans (ca j hlt 1 (by decide))
   have a2 := (HB.out.cell (p := ⟨g, off + j * 14 + 2, none⟩) hg).trans (ca j hlt 2 (by decide))
   have a3 := (HB.out.cell (p := ⟨g, off + j * 14 + 3, none⟩) hg).trans (ca j hlt 3 (by decide))
   have a4 := (HB.out.cell (p := ⟨g, off + j * 14 + 4, none⟩) hg).trans (ca j hlt 4 (by decide))
   have a5 := (HB.out.cell (p := ⟨g, off + j * 14 + 5, none⟩) hg).trans (ca j hlt 5 (by decide))
   have a6 := (HB.out.cell (p := ⟨g, off + j * 14 + 6, none⟩) hg).trans (ca j hlt 6 (by decide))
   have a7 := (HB.out.cell (p := ⟨g, off + j * 14 + 7, none⟩) hg).trans (ca j hlt 7 (by decide))
   have a8 := (HB.out.cell (p := ⟨g, off + j * 14 + 8, none⟩) hg).trans (ca j hlt 8 (by decide))
   have a9 := (HB.out.cell (p := ⟨g, off + j * 14 + 9, none⟩) hg).trans (ca j hlt 9 (by decide))
   have a10 := (HB.out.cell (p := ⟨g, off + j * 14 + 10, none⟩) hg).trans (ca j hlt 10 (by decide))
   have a11 := (HB.out.cell (p := ⟨g, off + j * 14 + 11, none⟩) hg).trans (ca j hlt 11 (by decide))
   have a12 := (HB.out.cell (p := ⟨g, off + j * 14 + 12, none⟩) hg).trans (ca j hlt 12 (by decide))
   have a13 := (HB.out.cell (p := ⟨g, off + j * 14 + 13, none⟩) hg).trans (ca j hlt 13 (by decide))
   have HV := Lib.hid (rentOk_any es[j] wr ((HR.out.2.1 es[j] (List.getElem_mem hlt)).below HB.out))
   have HDX : Hid (DK = (decide (es.length ≤ 200) && (entOk es[j].e && ((es.drop (j + 1)).map EntV.e).all entOk))) := Lib.hid (by
    rw [HD.out, List.drop_eq_getElem_cons hlt, List.map_cons, List.all_cons])
   clear HD ca
   obtain ⟨g9, HG9⟩ : ∃ g9, Hid (entOk es[j].e = g9) := ⟨_, Lib.hid rfl⟩
   rw [HG9.out] at HV HDX
   clear HG9
   generalize es[j] = q at *
   obtain ⟨⟨kd, lay, ⟨ax, ay⟩, ⟨bx, b_y⟩, ⟨fx, fy⟩, ⟨tx, ty⟩, ⟨cx, cy⟩, cw, pts⟩, qA, qk⟩ := q
   simp only [entVals, List.getElem?_cons_zero, List.getElem?_cons_succ, Nat.add_zero] at a0 a1 a2 a3 a4 a5 a6 a7 a8 a9 a10 a11 a12 a13 HV
   have hj1 : (0 : Int) ≤ (j : Int) := by omega
   have hj2 : (j : Int) < (es.length : Int) := by omega
   cases g9
   ·go_wp2_with fail
    refine HV.out.mono ?_
    rintro e w1 ⟨rfl, hb1⟩
    go_wp2
    go_ret
    exact ⟨by rw [HDX.out]; simp, HB.out.trans (hb1.mono HB.out.size)⟩
   ·go_wp2_with fail
    refine HV.out.mono ?_
    rintro e w1 ⟨rfl, hb1⟩
    have HB1 := Lib.hid (HB.out.trans (hb1.mono HB.out.size))
    clear a0 a1 a2 a3 a4 a5 a6 a7 a8 a9 a10 a11 a12 a13 hb1
    go_wp2
    go_roundw
    case rel => exact ⟨j + 1, by go_num, by omega, Lib.hid (by rw [HDX.out]; simp), HB1⟩
    case measure => simp [intOf]; omega
  ·obtain rfl : j = es.length := by omega
   have HDE : Hid (DK = decide (es.length ≤ 200)) := Lib.hid (by rw [HD.out, List.drop_length]; simp)
   have hd : decide ((es.length : Int) ≤ 200) = DK := by rw [HDE.out]; simp only [decide_eq_decide]; omega
   go_wp2
   go_ret
   exact ⟨rfl, HB.out⟩
end Go.Proofs.YtnmmhcchpcbeeaaGreatDoor.GtW

namespace Go.Proofs.YtnmmhcchpcbeeaaGreatDoor.Mem
open Go
section
variable {P : Program} {ops : Array Oper} {Q : Exit → Act → World → Prop} {md : Region.Mode} {S : World → Prop}
/-- An operation that calls a function which answers v in whatever world meets S, and keeps S. -/
def CallIf (P : Program) (ops : Array Oper) (S : World → Prop) (o : Oper) (v : Value) (a : Act) : Prop :=
 Region.wanted o (yielded ops a.tmps) = true ∧ ∃ f args, (∀ w, S w → (execOp a.eval o).run P w = .ok (.enter f args) w) ∧ ∀ w, S w → Calls P f args w fun e w' => e = .returned v ∧ S w'
def Det (P : Program) (ops : Array Oper) (S : World → Prop) (o : Oper) (v : Value) (a : Act) : Prop := YieldsIf P ops S o v a ∨ CallIf P ops S o v a
theorem Det.of_same {o : Oper} {v : Value} {a a' : Act} (hy : Det P ops S o v a) (he : execOp a'.eval o = execOp a.eval o)
  (hw : Region.wanted o (yielded ops a'.tmps) = Region.wanted o (yielded ops a.tmps)) : Det P ops S o v a' := by
 rcases hy with h | h
 ·exact .inl (h.of_same he hw)
 ·refine .inr ?_
  unfold CallIf at *
  rw [he, hw]
  exact h
theorem Det.wpOp {i : Nat} {o : Oper} {v : Value} {a : Act} (hi : ops[i]? = some o) (hy : Det P ops S o v a) {K : Act → World → Prop} {w : World} (hS : S w) (h : ∀ w', S w' → K (a.put o.dst v) w') : wpOp P ops Q i K a w := by
 rcases hy with hy | ⟨hw, f, args, hr, hc⟩
 ·exact hy.wpOp hi hS (h w hS)
 ·unfold Go.wpOp
  simp only [hi, hw, if_true, Oper.wp, hr w hS, Oper.upon]
  refine .inl (Calls.mono (hc w hS) ?_)
  rintro e w' ⟨rfl, hS'⟩
  exact h w' hS'
def wpAnyD (P : Program) (md : Region.Mode) (ops : Array Oper) (Q : Exit → Act → World → Prop) (S : World → Prop) : Nat → Array Bool → Act → Prop
 | 0, l, a => Region.ready md ops l = [] ∧ ∀ w, S w → Q .normal a w
 | n + 1, l, a => (Region.ready md ops l = [] → ∀ w, S w → Q .normal a w) ∧ ∀ i ∈ Region.ready md ops l, ∃ o v, ops[i]? = some o ∧ Det P ops S o v a ∧ wpAnyD P md ops Q S n (l.setIfInBounds i true) (a.put o.dst v)
theorem wpAny_of_D : ∀ (n : Nat) (l : Array Bool) (a : Act) (w : World), S w → wpAnyD P md ops Q S n l a → wpAny P md ops Q n l a w
 | 0, _, _, w, hS, h => ⟨h.1, h.2 w hS⟩
 | n + 1, _, _, w, hS, h => ⟨fun h0 => h.1 h0 w hS, fun i hi => by
   obtain ⟨o, v, ho, hd, hr⟩ := h.2 i hi
   exact hd.wpOp ho hS fun w' hS' => wpAny_of_D n _ _ w' hS' hr⟩
theorem wpAnyD_first {i : Nat} {oi : Oper} {v : Value} (hi : ops[i]? = some oi) (hsel : ∀ (j : Nat) (o : Oper) cs b, ops[j]? = some o → o.op ≠ .select cs b) : ∀ (n : Nat) (l : Array Bool) (a : Act),
   (∀ j oj, ops[j]? = some oj → j ≠ i → l.getD j true = false → (∀ e ∈ oj.after, Region.binds md e = true → e.on ≠ i) → oi.apart ops oj = true) →
   i ∈ Region.ready md ops l → Det P ops S oi v a → wpAnyD P md ops Q S n (l.setIfInBounds i true) (a.put oi.dst v) → wpAnyD P md ops Q S (n + 1) l a := by
 intro n
 induction n with
 | zero =>
  intro l a _ hr hy H
  refine ⟨fun h => (by rw [h] at hr; cases hr), fun j hj => ?_⟩
  by_cases e : j = i
  ·subst e
   exact ⟨oi, v, hi, hy, H⟩
  ·have h3 := ready_mono hj e
   rw [H.1] at h3
   cases h3
 | succ n ih =>
  intro l a hfree hr hy H
  refine ⟨fun h => (by rw [h] at hr; cases hr), fun j hj => ?_⟩
  by_cases hji : j = i
  ·subst hji
   exact ⟨oi, v, hi, hy, H⟩
  ·obtain ⟨o', u, ho', hd, hr'⟩ := H.2 j (ready_mono hj hji)
   obtain ⟨hjun, oj, hoj, hall⟩ := mem_ready.1 hj
   obtain rfl : oj = o' := Option.some.inj (hoj.symm.trans ho')
   have hnot : ∀ e ∈ oj.after, Region.binds md e = true → e.on ≠ i := fun e he hb heq => by
    have h1 := hall e he hb
    have h0 := (mem_ready.1 hr).1
    rw [heq] at h1
    rcases Nat.lt_or_ge i l.size with h' | h'
    ·simp [h'] at h0 h1; rw [h0] at h1; cases h1
    ·simp [Array.getElem?_eq_none h'] at h1
   have hap := hfree j oj hoj hji hjun hnot
   obtain ⟨h1, h2, h3⟩ := Oper.apart_spec hap
   have hsi : ∀ cs b, oi.op ≠ .select cs b := fun cs b => hsel i oi cs b hi
   have hsj : ∀ cs b, oj.op ≠ .select cs b := fun cs b => hsel j oj cs b hoj
   have hdj : Det P ops S oj u a := hd.of_same (execOp_put oj hsj a oi.dst v h1).symm (wanted_put oj a oi.dst v h1).symm
   have hdi : Det P ops S oi v (a.put oj.dst u) := hy.of_same (execOp_put oi hsi a oj.dst u h3) (wanted_put oi a oj.dst u h3)
   refine ⟨oj, u, hoj, hdj, ih (l.setIfInBounds j true) (a.put oj.dst u) (fun k ok hk hki hun hno => ?_) (ready_mono hr (Ne.symm hji)) hdi ?_⟩
   ·refine hfree k ok hk hki ?_ hno
    by_cases hjk : j = k
    ·subst hjk; exact hjun
    ·rw [getD_set_ne true hjk] at hun; exact hun
   ·rw [Array.setIfInBounds_comm _ _ hji, ← Act.put_comm a v u h2]
    exact hr'
/-- Take number i first: it yields v, whatever the world. -/
theorem wpAnyD_take {i : Nat} {oi : Oper} {v : Value} {n : Nat} {l : Array Bool} {a : Act} (hi : ops[i]? = some oi)
  (hs : Region.noSelect ops = true) (hf : Region.free md ops l i = true) (hr : (Region.ready md ops l).contains i = true) (hy : Det P ops S oi v a)
  (h : wpAnyD P md ops Q S n (l.setIfInBounds i true) (a.put oi.dst v)) : wpAnyD P md ops Q S (n + 1) l a :=
 wpAnyD_first hi (Region.noSelect_spec hs) n l a (Region.free_spec hi hf) (by simpa using hr) hy h
theorem wpAnyD_done {l : Array Bool} {a : Act} (hr : Region.ready md ops l = []) (h : ∀ w, S w → Q .normal a w) : ∀ n, wpAnyD P md ops Q S n l a
 | 0 => ⟨hr, h⟩
 | _ + 1 => ⟨fun _ => h, by rw [hr]; simp⟩
theorem wp_region_det {id : Nat} {a : Act} {w : World} (S : World → Prop) (hm : P.follows .mixedOrders = true) (hS : S w.drew)
  (h : wpAnyD P .any ops Q S ops.size (Array.replicate ops.size false) a) : (Code.region id ops true).wp P Q a w :=
 wp_region_any hm (wpAny_of_D _ _ _ _ hS h)
end
end Go.Proofs.YtnmmhcchpcbeeaaGreatDoor.Mem

namespace Go.Proofs.YtnmmhcchpcbeeaaGreatDoor.GtW
open Go Go.RowKit Go.Proofs.YtnmmhcchpcbeeaaGreatDoor.Mem Go.Proofs.YtnmmhcchpcbeeaaGreatDoor.Gt Go.Proofs.YtnmmhcchpcbeeaaGreatDoor.Ge
open Go.Proofs.YtnmmhcchpcbeeaaGreatDoor.GeW (EntV entVals PtsIn PtAt Tagged RowT RowW Ents own_keep own_tag ptCells)
attribute [local go_sem ↓] Go.wp_at_zero Go.wp_at_succ

open Go.Proofs.YtnmmhcchpcbeeaaGreatDoor.LexW (ritoa_any)
set_option maxRecDepth 100000 in
set_option maxHeartbeats 1000000 in
theorem rgtext_any (v : List UInt8) (c : Int) (w : World) (hl : v.length ≤ 1099511627776) (hc : -9223372036854775808 ≤ c ∧ c ≤ 9223372036854775807) :
  Calls Tryz.prog 43 #[.int .i64 c, .string ⟨v.toArray⟩] w fun e w' => e = .returned (.string ⟨(textOf (gr c v)).toArray⟩) ∧ Below w.heap.size w w' := by
 have HI := Lib.hid (ritoa_any c w hc.1 hc.2)
 have hil := Lib.itoa_length_le c hc.1 hc.2
 have HT : Hid (((ByteArray.mk (Lib.itoa c).toArray) ++ (ByteArray.mk #[10]) ++ (ByteArray.mk v.toArray) ++ (ByteArray.mk #[10])) = ByteArray.mk (textOf (gr c v)).toArray) := Lib.hid (by
  rw [gr_text]
  rw [show (ByteArray.mk #[10]) = ByteArray.mk ([10] : List UInt8).toArray from rfl, str_app, str_app, str_app])
 have hIB : (ByteArray.mk (Lib.itoa c).toArray).size ≤ 21 := by rw [str_size]; exact hil
 have hVB : (ByteArray.mk v.toArray).size ≤ 1099511627776 := by rw [str_size]; omega
 rw [← HT.out]
 clear HT hil
 generalize (ByteArray.mk (Lib.itoa c).toArray) = IB at *
 generalize (ByteArray.mk v.toArray) = VB at *
 go_enter Tryz.func43, Tryz.ntmps43
 go_wp2_with fail
 refine HI.out.mono ?_
 rintro e w1 ⟨rfl, hb1⟩
 go_wp2
 go_ret
 exact ⟨rfl, hb1⟩
set_option maxRecDepth 100000 in
set_option maxHeartbeats 1000000 in
theorem rptext_any (v : V) (c : Int) (w : World) (hv : Sm v) (hc : 0 ≤ c ∧ c ≤ 900) :
  Calls Tryz.prog 44 #[.int .i64 c, .agg #[.int .i64 v.1, .int .i64 v.2]] w fun e w' => e = .returned (.string ⟨(textOf (ptL c v)).toArray⟩) ∧ Below w.heap.size w w' := by
 obtain ⟨x, y⟩ := v
 obtain ⟨⟨hx1, hx2⟩, hy1, hy2⟩ := hv
 simp only at hx1 hx2 hy1 hy2 ⊢
 have HI1 := Lib.hid (fun W => ritoa_any x W (by omega) (by omega))
 have HI2 := Lib.hid (fun W => ritoa_any y W (by omega) (by omega))
 have l1 := Lib.itoa_length_le x (by omega) (by omega)
 have l2 := Lib.itoa_length_le y (by omega) (by omega)
 have HG1 := Lib.hid (fun W => rgtext_any (Lib.itoa x) c W (by omega) (by omega))
 have HG2 := Lib.hid (fun W => rgtext_any (Lib.itoa y) (c + 10) W (by omega) (by omega))
 have s1 : (ByteArray.mk (textOf (gr c (Lib.itoa x))).toArray).size ≤ 100 := by rw [str_size]; have := gr_len c (Lib.itoa x) (by omega); omega
 have s2 : (ByteArray.mk (textOf (gr (c + 10) (Lib.itoa y))).toArray).size ≤ 100 := by rw [str_size]; have := gr_len (c + 10) (Lib.itoa y) (by omega); omega
 have HT : Hid (ByteArray.mk (textOf (gr c (Lib.itoa x))).toArray ++ ByteArray.mk (textOf (gr (c + 10) (Lib.itoa y))).toArray = ByteArray.mk (textOf (ptL c (x, y))).toArray) := Lib.hid (by
  rw [str_app, ← textOf_append]; rfl)
 rw [← HT.out]
 clear HT l1 l2
 generalize (ByteArray.mk (Lib.itoa x).toArray) = IX at *
 generalize (ByteArray.mk (Lib.itoa y).toArray) = IY at *
 generalize (ByteArray.mk (textOf (gr c (Lib.itoa x))).toArray) = GX at *
 generalize (ByteArray.mk (textOf (gr (c + 10) (Lib.itoa y))).toArray) = GY at *
 have HV0 := Lib.hid (GeW.one_vec w (.cells #[.int .i64 x, .int .i64 y] 47))
 have hwr : IntKind.i64.wrap (c + 10) = c + 10 := by rw [IntKind.wrap_i64]; omega
 have hb0 : Below w.heap.size w (w.alloc (.cells #[.int .i64 x, .int .i64 y] 47)) := HV0.out.1
 have hz : w.heap.size < (w.alloc (.cells #[.int .i64 x, .int .i64 y] 47)).heap.size := blk_lt HV0.out.2
 have v0 : (w.alloc (.cells #[.int .i64 x, .int .i64 y] 47)).cell? ⟨w.heap.size, 0, none⟩ = some (.int .i64 x) := by rw [Lib.cell_of_heap HV0.out.2]; rfl
 have v1 : (w.alloc (.cells #[.int .i64 x, .int .i64 y] 47)).cell? ⟨w.heap.size, 1, none⟩ = some (.int .i64 y) := by rw [Lib.cell_of_heap HV0.out.2]; rfl
 have hcat : (9223372036854775807 < GX.size + GY.size) = False := eq_false (by omega)
 clear HV0
 go_enter Tryz.func44, Tryz.ntmps44
 go_upto_region 1 with fail
 generalize w.alloc (.cells #[.int .i64 x, .int .i64 y] 47) = W0 at *
 refine wp_region_det (fun w' => Below W0.heap.size W0 w') (by kernel_rfl) (GeW.below_drew (Below.refl _ _)) ?_
 refine wpAnyD_take (i := 0) (oi := { dst := some 5, op := Op.move (Operand.tmp 0), type := 3, pos := "ref.go:79", after := #[], guard := none }) (v := ?_) rfl (by kernel_rfl) (by kernel_rfl) (by kernel_rfl) (Or.inl (Or.inl ⟨by rfl, ?_⟩)) ?_
 rotate_left
 ·intro w' hSw
  (try dsimp only at hSw)
  have hs0 := (hSw.cell (p := ⟨w.heap.size, 0, none⟩) hz).trans v0; have hs1 := (hSw.cell (p := ⟨w.heap.size, 1, none⟩) hz).trans v1
  first | (go_simp; done) | (go_simp; with_reducible rfl)
 try simp only [Act.put, List.setIfInBounds_toArray, List.set_cons_zero, List.set_cons_succ]
 refine wpAnyD_take (i := 1) (oi := { dst := some 6, op := Op.fieldAddr 47 (Operand.tmp 3) 0, type := 0, pos := "ref.go:79", after := #[], guard := none }) (v := ?_) rfl (by kernel_rfl) (by kernel_rfl) (by kernel_rfl) (Or.inl (Or.inl ⟨by rfl, ?_⟩)) ?_
 rotate_left
 ·intro w' hSw
  (try dsimp only at hSw)
  have hs0 := (hSw.cell (p := ⟨w.heap.size, 0, none⟩) hz).trans v0; have hs1 := (hSw.cell (p := ⟨w.heap.size, 1, none⟩) hz).trans v1
  first | (go_simp; done) | (go_simp; with_reducible rfl)
 try simp only [Act.put, List.setIfInBounds_toArray, List.set_cons_zero, List.set_cons_succ]
 refine wpAnyD_take (i := 2) (oi := { dst := some 7, op := Op.load 3 (Operand.tmp 6), type := 3, pos := "ref.go:79", after := #[{ on := 1, ground := Ground.data }], guard := none }) (v := ?_) rfl (by kernel_rfl) (by kernel_rfl) (by kernel_rfl) (Or.inl (Or.inl ⟨by rfl, ?_⟩)) ?_
 rotate_left
 ·intro w' hSw
  (try dsimp only at hSw)
  have hs0 := (hSw.cell (p := ⟨w.heap.size, 0, none⟩) hz).trans v0; have hs1 := (hSw.cell (p := ⟨w.heap.size, 1, none⟩) hz).trans v1
  first | (go_simp; done) | (go_simp; with_reducible rfl)
 try simp only [Act.put, List.setIfInBounds_toArray, List.set_cons_zero, List.set_cons_succ]
 refine wpAnyD_take (i := 5) (oi := { dst := some 10, op := Op.move (Operand.tmp 0), type := 3, pos := "ref.go:79", after := #[], guard := none }) (v := ?_) rfl (by kernel_rfl) (by kernel_rfl) (by kernel_rfl) (Or.inl (Or.inl ⟨by rfl, ?_⟩)) ?_
 rotate_left
 ·intro w' hSw
  (try dsimp only at hSw)
  have hs0 := (hSw.cell (p := ⟨w.heap.size, 0, none⟩) hz).trans v0; have hs1 := (hSw.cell (p := ⟨w.heap.size, 1, none⟩) hz).trans v1
  first | (go_simp; done) | (go_simp; with_reducible rfl)
 try simp only [Act.put, List.setIfInBounds_toArray, List.set_cons_zero, List.set_cons_succ]
 refine wpAnyD_take (i := 6) (oi := { dst := some 11, op := Op.binOp BinOp.add 3 (Operand.tmp 10) (Operand.const (Value.int IntKind.i64 10)) 3, type := 3, pos := "ref.go:79", after := #[{ on := 5, ground := Ground.data }], guard := none }) (v := ?_) rfl (by kernel_rfl) (by kernel_rfl) (by kernel_rfl) (Or.inl (Or.inl ⟨by rfl, ?_⟩)) ?_
 rotate_left
 ·intro w' hSw
  (try dsimp only at hSw)
  have hs0 := (hSw.cell (p := ⟨w.heap.size, 0, none⟩) hz).trans v0; have hs1 := (hSw.cell (p := ⟨w.heap.size, 1, none⟩) hz).trans v1
  first | (go_simp; done) | (go_simp; with_reducible rfl)
 try simp only [Act.put, List.setIfInBounds_toArray, List.set_cons_zero, List.set_cons_succ]
 refine wpAnyD_take (i := 7) (oi := { dst := some 12, op := Op.fieldAddr 47 (Operand.tmp 3) 1, type := 0, pos := "ref.go:79", after := #[], guard := none }) (v := ?_) rfl (by kernel_rfl) (by kernel_rfl) (by kernel_rfl) (Or.inl (Or.inl ⟨by rfl, ?_⟩)) ?_
 rotate_left
 ·intro w' hSw
  (try dsimp only at hSw)
  have hs0 := (hSw.cell (p := ⟨w.heap.size, 0, none⟩) hz).trans v0; have hs1 := (hSw.cell (p := ⟨w.heap.size, 1, none⟩) hz).trans v1
  first | (go_simp; done) | (go_simp; with_reducible rfl)
 try simp only [Act.put, List.setIfInBounds_toArray, List.set_cons_zero, List.set_cons_succ]
 refine wpAnyD_take (i := 8) (oi := { dst := some 13, op := Op.load 3 (Operand.tmp 12), type := 3, pos := "ref.go:79", after := #[{ on := 7, ground := Ground.data }], guard := none }) (v := ?_) rfl (by kernel_rfl) (by kernel_rfl) (by kernel_rfl) (Or.inl (Or.inl ⟨by rfl, ?_⟩)) ?_
 rotate_left
 ·intro w' hSw
  (try dsimp only at hSw)
  have hs0 := (hSw.cell (p := ⟨w.heap.size, 0, none⟩) hz).trans v0; have hs1 := (hSw.cell (p := ⟨w.heap.size, 1, none⟩) hz).trans v1
  first | (go_simp; done) | (go_simp; with_reducible rfl)
 try simp only [Act.put, List.setIfInBounds_toArray, List.set_cons_zero, List.set_cons_succ]
 refine wpAnyD_take (i := 3) (oi := { dst := some 8, op := Op.call { callee := Callee.value (Operand.func 45), args := #[Operand.tmp 7], argTypes := #[3] }, type := 9, pos := "ref.go:79", after := #[{ on := 2, ground := Ground.data }], guard := none }) (v := (.string IX)) rfl (by kernel_rfl) (by kernel_rfl) (by kernel_rfl) (Or.inr ⟨by rfl, 45, #[.int .i64 x], ?_, ?_⟩) ?_
 ·intro w' hSw
  (try dsimp only at hSw)
  first | rfl | (go_simp; done) | (go_simp; with_reducible rfl)
 ·intro w' hSw
  exact (HI1.out w').mono fun e u ⟨he, hb⟩ => ⟨he, hSw.trans (hb.mono hSw.size)⟩
 try simp only [Act.put, List.setIfInBounds_toArray, List.set_cons_zero, List.set_cons_succ]
 refine wpAnyD_take (i := 4) (oi := { dst := some 9, op := Op.call { callee := Callee.value (Operand.func 43), args := #[Operand.tmp 5, Operand.tmp 8], argTypes := #[3, 9] }, type := 9, pos := "ref.go:79", after := #[{ on := 0, ground := Ground.data }, { on := 3, ground := Ground.data }, { on := 3, ground := Ground.chain }], guard := none }) (v := (.string GX)) rfl (by kernel_rfl) (by kernel_rfl) (by kernel_rfl) (Or.inr ⟨by rfl, 43, #[.int .i64 c, .string IX], ?_, ?_⟩) ?_
 ·intro w' hSw
  (try dsimp only at hSw)
  first | rfl | (go_simp; done) | (go_simp; with_reducible rfl)
 ·intro w' hSw
  exact (HG1.out w').mono fun e u ⟨he, hb⟩ => ⟨he, hSw.trans (hb.mono hSw.size)⟩
 try simp only [Act.put, List.setIfInBounds_toArray, List.set_cons_zero, List.set_cons_succ]
 refine wpAnyD_take (i := 9) (oi := { dst := some 14, op := Op.call { callee := Callee.value (Operand.func 45), args := #[Operand.tmp 13], argTypes := #[3] }, type := 9, pos := "ref.go:79", after := #[{ on := 8, ground := Ground.data }, { on := 4, ground := Ground.chain }], guard := none }) (v := (.string IY)) rfl (by kernel_rfl) (by kernel_rfl) (by kernel_rfl) (Or.inr ⟨by rfl, 45, #[.int .i64 y], ?_, ?_⟩) ?_
 ·intro w' hSw
  (try dsimp only at hSw)
  first | rfl | (go_simp; done) | (go_simp; with_reducible rfl)
 ·intro w' hSw
  exact (HI2.out w').mono fun e u ⟨he, hb⟩ => ⟨he, hSw.trans (hb.mono hSw.size)⟩
 try simp only [Act.put, List.setIfInBounds_toArray, List.set_cons_zero, List.set_cons_succ]
 refine wpAnyD_take (i := 10) (oi := { dst := some 15, op := Op.call { callee := Callee.value (Operand.func 43), args := #[Operand.tmp 11, Operand.tmp 14], argTypes := #[3, 9] }, type := 9, pos := "ref.go:79", after := #[{ on := 6, ground := Ground.data }, { on := 9, ground := Ground.data }, { on := 9, ground := Ground.chain }], guard := none }) (v := (.string GY)) rfl (by kernel_rfl) (by kernel_rfl) (by kernel_rfl) (Or.inr ⟨by rfl, 43, #[.int .i64 (c + 10), .string IY], ?_, ?_⟩) ?_
 ·intro w' hSw
  (try dsimp only at hSw)
  first | rfl | (go_simp; done) | (go_simp; with_reducible rfl)
 ·intro w' hSw
  exact (HG2.out w').mono fun e u ⟨he, hb⟩ => ⟨he, hSw.trans (hb.mono hSw.size)⟩
 try simp only [Act.put, List.setIfInBounds_toArray, List.set_cons_zero, List.set_cons_succ]
 refine wpAnyD_take (i := 11) (oi := { dst := some 16, op := Op.binOp BinOp.add 9 (Operand.tmp 9) (Operand.tmp 15) 9, type := 9, pos := "ref.go:79", after := #[{ on := 4, ground := Ground.data }, { on := 10, ground := Ground.data }], guard := none }) (v := ?_) rfl (by kernel_rfl) (by kernel_rfl) (by kernel_rfl) (Or.inl (Or.inl ⟨by rfl, ?_⟩)) ?_
 rotate_left
 ·intro w' hSw
  (try dsimp only at hSw)
  have hs0 := (hSw.cell (p := ⟨w.heap.size, 0, none⟩) hz).trans v0; have hs1 := (hSw.cell (p := ⟨w.heap.size, 1, none⟩) hz).trans v1
  first | (go_simp; done) | (go_simp; with_reducible rfl)
 try simp only [Act.put, List.setIfInBounds_toArray, List.set_cons_zero, List.set_cons_succ]
 refine wpAnyD_take (i := 12) (oi := { dst := some 4, op := Op.assign (Operand.tmp 16), type := 9, pos := "ref.go:79", after := #[{ on := 11, ground := Ground.data }, { on := 10, ground := Ground.chain }, { on := 0, ground := Ground.phase }, { on := 1, ground := Ground.phase }, { on := 2, ground := Ground.phase }, { on := 3, ground := Ground.phase }, { on := 4, ground := Ground.phase }, { on := 5, ground := Ground.phase }, { on := 6, ground := Ground.phase }, { on := 7, ground := Ground.phase }, { on := 8, ground := Ground.phase }, { on := 9, ground := Ground.phase }, { on := 10, ground := Ground.phase }, { on := 11, ground := Ground.phase }], guard := none }) (v := ?_) rfl (by kernel_rfl) (by kernel_rfl) (by kernel_rfl) (Or.inl (Or.inl ⟨by rfl, ?_⟩)) ?_
 rotate_left
 ·intro w' hSw
  (try dsimp only at hSw)
  have hs0 := (hSw.cell (p := ⟨w.heap.size, 0, none⟩) hz).trans v0; have hs1 := (hSw.cell (p := ⟨w.heap.size, 1, none⟩) hz).trans v1
  first | (go_simp; done) | (go_simp; with_reducible rfl)
 try simp only [Act.put, List.setIfInBounds_toArray, List.set_cons_zero, List.set_cons_succ]
 refine wpAnyD_done (by kernel_rfl) (fun w' hSw => ?_) _
 go_wp2
 go_ret
 exact ⟨rfl, hb0.trans (hSw.mono hb0.size)⟩
end Go.Proofs.YtnmmhcchpcbeeaaGreatDoor.GtW
