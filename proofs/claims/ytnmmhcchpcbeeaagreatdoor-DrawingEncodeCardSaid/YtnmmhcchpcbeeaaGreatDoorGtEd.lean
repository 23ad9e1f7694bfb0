/- Walk: the program's Encode. Conditions: the drawing lies in memory, of at most a thousand entities with names of at most a million bytes; the library's variables hold what a start lays. -/
import Derived.Test.YtnmmhcchpcbeeaaGreatDoorGtEe
import Derived.Test.YtnmmhcchpcbeeaaGreatDoorShelf
import Derived.Laws.EntriesVeiled

namespace Go.Proofs.YtnmmhcchpcbeeaaGreatDoor.GtW
open Go Go.RowKit Go.Proofs.YtnmmhcchpcbeeaaGreatDoor.Mem Go.Proofs.YtnmmhcchpcbeeaaGreatDoor.Gt Go.Proofs.YtnmmhcchpcbeeaaGreatDoor.Ge
open Go.Proofs.YtnmmhcchpcbeeaaGreatDoor.GeW (EntV entVals PtsIn PtAt Tagged RowT RowW Ents own_keep own_tag ptCells)
attribute [local go_sem ↓] Go.wp_at_zero Go.wp_at_succ

open Go.Proofs.YtnmmhcchpcbeeaaGreatDoor.PqW (writeString_k strCells_mk byteCells_app isBuilder_below b_new)
theorem pt_len2 (v : V) : (ptCells v).length = 2 := rfl
theorem itoa_0 : Lib.itoa 0 = [48] := by decide +kernel
theorem itoa_1 : Lib.itoa 1 = [49] := by decide +kernel
theorem Sm.i64 {x y : Int} (h : Sm (x, y)) : (-9223372036854775808 ≤ x ∧ x ≤ 9223372036854775807) ∧ (-9223372036854775808 ≤ y ∧ y ≤ 9223372036854775807) := by
 obtain ⟨⟨h1, h2⟩, h3, h4⟩ := h
 simp only at h1 h2 h3 h4
 omega
/-- What holds while an entity is written: the builder, the closures, the entity's variable. -/
structure Es (B b gb nb xb : Nat) (vs : Array Value) (k : Nat) (out : List UInt8) (W0 w0 w : World) : Prop where
 bd : Bd B b out W0 w
 g : w.heap[gb]? = some (.cells #[.func (.func 34) #[] #[.pointer (some ⟨b, 0, none⟩)]] 83 (0, 0))
 n : w.heap[nb]? = some (.cells #[.func (.func 37) #[] #[.pointer (some ⟨gb, 0, none⟩)]] 84 (0, 0))
 x : w.heap[xb]? = some (.cells vs 52 (0, 0))
 ne : gb ≠ b ∧ nb ≠ b ∧ xb ≠ b ∧ 7 ≤ B
 size : B ≤ w.heap.size
 glob : Glob w
 bel : Below B w0 w
 len : out.length ≤ 1200000000 + k
section
variable {B b gb nb xb : Nat} {vs : Array Value} {k : Nat} {out out' : List UInt8} {W0 w0 w w' : World}
theorem Es.wr {k' : Nat} (h : Es B b gb nb xb vs k out W0 w0 w) (h' : Bd B b out' w w') (hk : out'.length ≤ 1200000000 + k') : Es B b gb nb xb vs k' out' W0 w0 w' :=
 ⟨h.bd.wr h', kept_fn h'.kept h.g h.ne.1 (by decide), kept_fn h'.kept h.n h.ne.2.1 (by decide), kept_fn h'.kept h.x h.ne.2.2.1 (by decide), h.ne, Nat.le_trans h.size h'.bel.size, h.glob.below7 (h'.bel.mono h.ne.2.2.2), h.bel.trans h'.bel, hk⟩
theorem Es.gr {c : Int} {v : List UInt8} {m : Nat} (h : Es B b gb nb xb vs k out W0 w0 w) (h' : Bd B b (out ++ textOf (Gt.gr c v)) w w') (hc : 0 ≤ c ∧ c ≤ 1000) (hv : v.length ≤ m) : Es B b gb nb xb vs (k + m + 23) (out ++ textOf (Gt.gr c v)) W0 w0 w' :=
 h.wr h' (by have := gr_len c v hc; have := h.len; rw [List.length_append]; omega)
theorem Es.pt {c : Int} {v : V} (h : Es B b gb nb xb vs k out W0 w0 w) (h' : Bd B b (out ++ textOf (ptL c v)) w w') (hc : 0 ≤ c ∧ c ≤ 900) (hv : Sm v) : Es B b gb nb xb vs (k + 88) (out ++ textOf (ptL c v)) W0 w0 w' :=
 h.wr h' (by have := ptL_len c v hc hv; have := h.len; rw [List.length_append]; omega)
theorem Es.more {k' : Nat} (h : Es B b gb nb xb vs k out W0 w0 w) (hk : k ≤ k') : Es B b gb nb xb vs k' out W0 w0 w := { h with len := Nat.le_trans h.len (by omega) }
theorem Es.below (h : Es B b gb nb xb vs k out W0 w0 w) (hb : Below w.heap.size w w') : Es B b gb nb xb vs k out W0 w0 w' :=
 ⟨h.bd.below hb h.size, p_below h.g hb, p_below h.n hb, p_below h.x hb, h.ne, Nat.le_trans h.size hb.size, h.glob.below hb, h.bel.trans (hb.mono h.size), h.len⟩
theorem Es.mk0 (hb : Bd B b out W0 w) (hg : w.heap[gb]? = some (.cells #[.func (.func 34) #[] #[.pointer (some ⟨b, 0, none⟩)]] 83 (0, 0))) (hn : w.heap[nb]? = some (.cells #[.func (.func 37) #[] #[.pointer (some ⟨gb, 0, none⟩)]] 84 (0, 0))) (hne : gb ≠ b ∧ nb ≠ b ∧ 7 ≤ B) (hz : B ≤ w.heap.size) (hG : Glob w) (hbel : Below B w0 w) (hl : out.length ≤ 1200000000) (vs : Array Value) (hxb : b < w.heap.size) :
  Es B b gb nb w.heap.size vs 0 out W0 w0 (w.alloc (.cells vs 52)) :=
 ⟨hb.below (bel1 w _) hz, p_below hg (bel1 w _), p_below hn (bel1 w _), GeW.heap_alloc_new w _, ⟨hne.1, hne.2.1, by omega, hne.2.2⟩, Nat.le_trans hz (bel1 w _).size, hG.below (bel1 w _), hbel.trans ((bel1 w _).mono hz), hl⟩
end
set_option maxRecDepth 100000 in
set_option maxHeartbeats 8000000 in
theorem encode_any (xs : List EntV) (A : Option Addr) (c : Nat) (w : World) (hG : Glob w) (hx : Ents w A xs) (hn : xs.length ≤ 1000) :
  Calls Tryz.prog 11 #[.slice A xs.length c] w fun e w' => e = .returned (.tuple #[.string ⟨(if drawOk (xs.map EntV.e) = true then enc (xs.map EntV.e) else []).toArray⟩, .int .i64 (if drawOk (xs.map EntV.e) = true then 0 else 1)]) ∧ Below w.heap.size w w' := by
 have HXS := Lib.hid hx
 have HGL0 := Lib.hid hG
 have h7 := hG.lt
 have HV := Lib.hid (GeW.drawOk_any xs A c w hx)
 rw [show GeW.ents xs = xs.map EntV.e from rfl] at HV
 have HAL : Hid (drawOk (xs.map EntV.e) = true → ∀ x ∈ xs, entOk x.e = true) := Lib.hid (fun h x hx => by
  unfold drawOk at h
  rw [Bool.and_eq_true, List.all_eq_true] at h
  exact h.2 x.e (List.mem_map_of_mem hx))
 obtain ⟨DK, HDK⟩ : ∃ DK, Hid (drawOk (xs.map EntV.e) = DK) := ⟨_, Lib.hid rfl⟩
 rw [HDK.out] at HV HAL ⊢
 clear hx hG
 go_enter Tryz.func11, Tryz.ntmps11
 go_wp2_with fail
 refine HV.out.mono ?_
 rintro e w1 ⟨rfl, hb1⟩
 clear HV HDK
 cases DK
 ·go_wp2
  go_ret2
  exact ⟨rfl, hb1⟩
 have HALX : Hid (∀ x ∈ xs, entOk x.e = true) := Lib.hid (HAL.out rfl)
 clear HAL
 have HB0 : Hid (Bd w.heap.size w1.heap.size [] w1 (w1.alloc (.cells #[.pointer none, .slice none 0 0] 77))) := Lib.hid ⟨b_new w1 _ hb1.size, (bel1 w1 _).mono hb1.size, kept_below (bel1 w1 _)⟩
 have HW0 : Hid (Below w.heap.size w (((w1.alloc (.cells #[.pointer none, .slice none 0 0] 77)).alloc (.cells #[.func (.func 34) #[] #[.pointer (some ⟨w1.heap.size, 0, none⟩)]] 83)).alloc (.cells #[.func (.func 37) #[] #[.pointer (some ⟨w1.heap.size + 1, 0, none⟩)]] 84)) ∧ Lib.IsBuilder 77 5 w.heap.size w1.heap.size (Lib.byteCells []) (((w1.alloc (.cells #[.pointer none, .slice none 0 0] 77)).alloc (.cells #[.func (.func 34) #[] #[.pointer (some ⟨w1.heap.size, 0, none⟩)]] 83)).alloc (.cells #[.func (.func 37) #[] #[.pointer (some ⟨w1.heap.size + 1, 0, none⟩)]] 84)) ∧ (((w1.alloc (.cells #[.pointer none, .slice none 0 0] 77)).alloc (.cells #[.func (.func 34) #[] #[.pointer (some ⟨w1.heap.size, 0, none⟩)]] 83)).alloc (.cells #[.func (.func 37) #[] #[.pointer (some ⟨w1.heap.size + 1, 0, none⟩)]] 84)).heap[w1.heap.size + 1]? = some (.cells #[.func (.func 34) #[] #[.pointer (some ⟨w1.heap.size, 0, none⟩)]] 83 (0, 0)) ∧ (((w1.alloc (.cells #[.pointer none, .slice none 0 0] 77)).alloc (.cells #[.func (.func 34) #[] #[.pointer (some ⟨w1.heap.size, 0, none⟩)]] 83)).alloc (.cells #[.func (.func 37) #[] #[.pointer (some ⟨w1.heap.size + 1, 0, none⟩)]] 84)).heap[w1.heap.size + 1 + 1]? = some (.cells #[.func (.func 37) #[] #[.pointer (some ⟨w1.heap.size + 1, 0, none⟩)]] 84 (0, 0)) ∧ (((w1.alloc (.cells #[.pointer none, .slice none 0 0] 77)).alloc (.cells #[.func (.func 34) #[] #[.pointer (some ⟨w1.heap.size, 0, none⟩)]] 83)).alloc (.cells #[.func (.func 37) #[] #[.pointer (some ⟨w1.heap.size + 1, 0, none⟩)]] 84)).heap.size = w1.heap.size + 3) := Lib.hid (by
  have h2 := bel1 (w1.alloc (.cells #[.pointer none, .slice none 0 0] 77)) (.cells #[.func (.func 34) #[] #[.pointer (some ⟨w1.heap.size, 0, none⟩)]] 83)
  have h3 := bel1 ((w1.alloc (.cells #[.pointer none, .slice none 0 0] 77)).alloc (.cells #[.func (.func 34) #[] #[.pointer (some ⟨w1.heap.size, 0, none⟩)]] 83)) (.cells #[.func (.func 37) #[] #[.pointer (some ⟨w1.heap.size + 1, 0, none⟩)]] 84)
  have hs := hb1.size
  refine ⟨?_, isBuilder_below (isBuilder_below HB0.out.bld h2) h3, ?_, ?_, by simp⟩
  ·exact (hb1.trans ((bel1 w1 _).mono hs)).trans ((h2.mono (by simp; omega)).trans (h3.mono (by simp; omega)))
  ·refine p_below ?_ h3
   have := GeW.heap_alloc_new (w1.alloc (.cells #[.pointer none, .slice none 0 0] 77)) (.cells #[.func (.func 34) #[] #[.pointer (some ⟨w1.heap.size, 0, none⟩)]] 83)
   rw [show (w1.alloc (.cells #[.pointer none, .slice none 0 0] 77)).heap.size = w1.heap.size + 1 by simp] at this
   exact this
  ·have := GeW.heap_alloc_new ((w1.alloc (.cells #[.pointer none, .slice none 0 0] 77)).alloc (.cells #[.func (.func 34) #[] #[.pointer (some ⟨w1.heap.size, 0, none⟩)]] 83)) (.cells #[.func (.func 37) #[] #[.pointer (some ⟨w1.heap.size + 1, 0, none⟩)]] 84)
   rw [show ((w1.alloc (.cells #[.pointer none, .slice none 0 0] 77)).alloc (.cells #[.func (.func 34) #[] #[.pointer (some ⟨w1.heap.size, 0, none⟩)]] 83)).heap.size = w1.heap.size + 2 by simp] at this
   exact this)
 have hbw := hb1.size
 go_wp2
 generalize ((w1.alloc (.cells #[.pointer none, .slice none 0 0] 77)).alloc (.cells #[.func (.func 34) #[] #[.pointer (some ⟨w1.heap.size, 0, none⟩)]] 83)).alloc (.cells #[.func (.func 37) #[] #[.pointer (some ⟨w1.heap.size + 1, 0, none⟩)]] 84) = W0 at *
 clear HB0
 have HBS := Lib.hid (rfl : w1.heap.size = w1.heap.size)
 generalize hbb : w1.heap.size = b at *
 generalize hgb : b + 1 = gb at *
 generalize hnb : gb + 1 = nb at *
 have HNE : Hid (gb ≠ b ∧ nb ≠ b ∧ 7 ≤ w.heap.size) := Lib.hid ⟨by omega, by omega, h7⟩
 have hz0 : W0.heap.size = b + 3 := by have := HW0.out.2.2.2.2; omega
 clear hbb hgb hnb HBS hb1
 go_loopw [21] (fun v wr => ∃ j : Nat, v = .int .i64 (j : Int) ∧ j ≤ xs.length ∧ Hid ((textOf ((xs.take j).flatMap fun x => entL x.e)).length ≤ 1010000 * j) ∧ Hid (Bd w.heap.size b (textOf ((xs.take j).flatMap fun x => entL x.e)) W0 wr)) (fun v _ => xs.length - (intOf v).toNat)
 case atStart => exact ⟨0, rfl, Nat.zero_le _, Lib.hid (by simp [textOf]), Lib.hid ⟨by simpa [textOf] using HW0.out.2.1, Below.refl _ _, Lib.OthersKept.refl _ _ _⟩⟩
 case round =>
  obtain ⟨j, rfl, hj, HLEN, HBD⟩ := hrel
  have HGW := Lib.hid (kept_fn HBD.out.kept HW0.out.2.2.1 HNE.out.1 (by decide))
  have HNW := Lib.hid (kept_fn HBD.out.kept HW0.out.2.2.2.1 HNE.out.2.1 (by decide))
  have HBW : Hid (Below w.heap.size w wr) := Lib.hid (HW0.out.1.trans HBD.out.bel)
  have HGL := Lib.hid (HGL0.out.below HBW.out)
  have hz : w.heap.size ≤ wr.heap.size := HBW.out.size
  have hzb : b < wr.heap.size := by have := HBD.out.bel.size; omega
  by_cases hlt : j < xs.length
  ·have HTJ : Hid (xs.take (j + 1) = xs.take j ++ [xs[j]]) := Lib.hid (List.take_succ_eq_append_getElem hlt)
   have HOKX := Lib.hid (HALX.out xs[j] (List.getElem_mem hlt))
   have HPX := Lib.hid (HXS.out.2.1 xs[j] (List.getElem_mem hlt))
   obtain ⟨g, off, rfl, hg, ca⟩ := row_get GeW.ent_len (by decide) HXS.out.1 (by omega)
   have a0 := (HBW.out.cell (p := ⟨g, off + j * 14 + 0, none⟩) hg).trans (ca j hlt 0 (by decide))
   have a1 := (HBW.out.cell (p := ⟨g, off + j * 14 + 1, none⟩) hg).trans (ca j hlt 1 (by decide))
   have a2 := (HBW.out.cell (p := ⟨g, off + j * 14 + 2, none⟩) hg).trans (ca j hlt 2 (by decide))
   have a3 := (HBW.out.cell (p := ⟨g, off + j * 14 + 3, none⟩) hg).trans (ca j hlt 3 (by decide))
   have a4 := (HBW.out.cell (p := ⟨g, off + j * 14 + 4, none⟩) hg).trans (ca j hlt 4 (by decide))
   have a5 := (HBW.out.cell (p := ⟨g, off + j * 14 + 5, none⟩) hg).trans (ca j hlt 5 (by decide))
   have a6 := (HBW.out.cell (p := ⟨g, off + j * 14 + 6, none⟩) hg).trans (ca j hlt 6 (by decide))
   have a7 := (HBW.out.cell (p := ⟨g, off + j * 14 + 7, none⟩) hg).trans (ca j hlt 7 (by decide))
   have a8 := (HBW.out.cell (p := ⟨g, off + j * 14 + 8, none⟩) hg).trans (ca j hlt 8 (by decide))
   have a9 := (HBW.out.cell (p := ⟨g, off + j * 14 + 9, none⟩) hg).trans (ca j hlt 9 (by decide))
   have a10 := (HBW.out.cell (p := ⟨g, off + j * 14 + 10, none⟩) hg).trans (ca j hlt 10 (by decide))
   have a11 := (HBW.out.cell (p := ⟨g, off + j * 14 + 11, none⟩) hg).trans (ca j hlt 11 (by decide))
   have a12 := (HBW.out.cell (p := ⟨g, off + j * 14 + 12, none⟩) hg).trans (ca j hlt 12 (by decide))
   have a13 := (HBW.out.cell (p := ⟨g, off + j * 14 + 13, none⟩) hg).trans (ca j hlt 13 (by decide))
   clear ca
   generalize xs[j] = q at *
   obtain ⟨⟨kd, lay, ⟨ax, ay⟩, ⟨bx, b_y⟩, ⟨fx, fy⟩, ⟨tx, ty⟩, ⟨cx, cy⟩, cw, pts⟩, PA, ka⟩ := q
   have HEL := Lib.hid (entL_len HOKX.out HPX.out.2.2.2)
   have HLY := Lib.hid HPX.out.2.2.2
   have HPR := Lib.hid HPX.out.1
   have HEK := Lib.hid (ent_kind HOKX.out)
   simp only at HTJ HEL HLY HPR HEK
   simp only [entVals, List.getElem?_cons_zero, List.getElem?_cons_succ, Nat.add_zero] at a0 a1 a2 a3 a4 a5 a6 a7 a8 a9 a10 a11 a12 a13
   obtain ⟨pl, HPL⟩ : ∃ pl, Hid (pts.length = pl) := ⟨_, Lib.hid rfl⟩
   rw [HPL.out] at a13
   have hj1 : (0 : Int) ≤ (j : Int) := by omega
   have hj2 : (j : Int) < (xs.length : Int) := by omega
   clear HOKX HPX
   rcases HEK.out with ⟨hk, h1, h2⟩ | ⟨hk, h1, h2, h3⟩ | ⟨hk, h1, h2⟩
   ·subst hk
    clear HEK
    have HENT : Hid (entL ⟨1, lay, (ax, ay), (bx, b_y), (fx, fy), (tx, ty), (cx, cy), cw, pts⟩ = gr 0 kLine ++ (gr 8 lay ++ (ptL 10 (ax, ay) ++ ptL 11 (bx, b_y)))) := Lib.hid (rfl)
    have HA := Lib.hid h1
    have HB_ := Lib.hid h2
    clear h1 h2
    have HX := Lib.hid (GeW.heap_alloc_new wr (.cells #[.int .i64 1, .string ⟨lay.toArray⟩, .int .i64 ax, .int .i64 ay, .int .i64 bx, .int .i64 b_y, .int .i64 fx, .int .i64 fy, .int .i64 tx, .int .i64 ty, .int .i64 cx, .int .i64 cy, .bool cw, .slice PA pl ka] 52))
    have hbx := bel1 wr (.cells #[.int .i64 1, .string ⟨lay.toArray⟩, .int .i64 ax, .int .i64 ay, .int .i64 bx, .int .i64 b_y, .int .i64 fx, .int .i64 fy, .int .i64 tx, .int .i64 ty, .int .i64 cx, .int .i64 cy, .bool cw, .slice PA pl ka] 52)
    have HE0 : Hid (Es w.heap.size b gb nb wr.heap.size #[.int .i64 1, .string ⟨lay.toArray⟩, .int .i64 ax, .int .i64 ay, .int .i64 bx, .int .i64 b_y, .int .i64 fx, .int .i64 fy, .int .i64 tx, .int .i64 ty, .int .i64 cx, .int .i64 cy, .bool cw, .slice PA pl ka] 0 (textOf ((xs.take j).flatMap fun x => entL x.e)) W0 w (wr.alloc (.cells #[.int .i64 1, .string ⟨lay.toArray⟩, .int .i64 ax, .int .i64 ay, .int .i64 bx, .int .i64 b_y, .int .i64 fx, .int .i64 fy, .int .i64 tx, .int .i64 ty, .int .i64 cx, .int .i64 cy, .bool cw, .slice PA pl ka] 52))) := Lib.hid (Es.mk0 HBD.out HGW.out HNW.out HNE.out hz HGL.out HBW.out (by have := HLEN.out; omega) _ (by have := hzb; omega))
    clear hbx
    go_upto_region 10 with fail
    generalize wr.alloc (.cells #[.int .i64 1, .string ⟨lay.toArray⟩, .int .i64 ax, .int .i64 ay, .int .i64 bx, .int .i64 b_y, .int .i64 fx, .int .i64 fy, .int .i64 tx, .int .i64 ty, .int .i64 cx, .int .i64 cy, .bool cw, .slice PA pl ka] 52) = W1 at *
    generalize wr.heap.size = xb at *
    clear a0 a1 a2 a3 a4 a5 a6 a7 a8 a9 a10 a11 a12 a13
    have x0 := cell_of HE0.out.x 0 _ rfl
    have g0 := cell_of HE0.out.g 0 _ rfl
    have hix : ∀ W, (Instr.index 86 (.agg #[.string ⟨#[]⟩, .string ⟨#[76, 73, 78, 69]⟩, .string ⟨#[65, 82, 67]⟩, .string ⟨#[80, 79, 76, 89]⟩]) (.int .i64 1)).run Tryz.prog W = .ok (.string ⟨#[76, 73, 78, 69]⟩) W := fun W => by kernel_rfl
    refine wp_region_held_drew (S := fun w' => (w'.cell? ⟨gb, 0, none⟩ = some (.func (.func 34) #[] #[.pointer (some ⟨b, 0, none⟩)]) ∧ w'.cell? ⟨xb, 0, none⟩ = some (.int .i64 1))) (by kernel_rfl) ?_ (fun hHeld => ?_)
    ·exact ⟨g0, x0⟩
    refine wpAnyH_take (i := 0) (oi := { dst := some 25, op := Op.load 83 (Operand.tmp 5), type := 83, pos := "drawing.go:77", after := #[], guard := none }) (v := ?_) rfl (by kernel_rfl) (by kernel_rfl) (by kernel_rfl) (fun _ _ _ h => h) (Or.inl ⟨by rfl, ?_⟩) (by assumption) ?_
    rotate_left
    ·intro w' hSw
     (try dsimp only at hSw)
     obtain ⟨hs1, hs2⟩ := hSw
     first | (go_simp; done) | (go_simp; with_reducible rfl)
    try simp only [Act.put, List.setIfInBounds_toArray, List.set_cons_zero, List.set_cons_succ]
    refine wpAnyH_take (i := 1) (oi := { dst := some 26, op := Op.build 86 #[(0, Operand.const (Value.string { data := #[] })), (1, Operand.const (Value.string { data := #[76, 73, 78, 69] })), (2, Operand.const (Value.string { data := #[65, 82, 67] })), (3, Operand.const (Value.string { data := #[80, 79, 76, 89] }))], type := 86, pos := "drawing.go:77", after := #[], guard := none }) (v := ?_) rfl (by kernel_rfl) (by kernel_rfl) (by kernel_rfl) (fun _ _ _ h => h) (Or.inl ⟨by rfl, ?_⟩) (by assumption) ?_
    rotate_left
    ·intro w' hSw
     (try dsimp only at hSw)
     obtain ⟨hs1, hs2⟩ := hSw
     first | (go_simp; done) | (go_simp; with_reducible rfl)
    try simp only [Act.put, List.setIfInBounds_toArray, List.set_cons_zero, List.set_cons_succ]
    refine wpAnyH_take (i := 2) (oi := { dst := some 27, op := Op.fieldAddr 52 (Operand.tmp 9) 0, type := 0, pos := "drawing.go:77", after := #[], guard := none }) (v := ?_) rfl (by kernel_rfl) (by kernel_rfl) (by kernel_rfl) (fun _ _ _ h => h) (Or.inl ⟨by rfl, ?_⟩) (by assumption) ?_
    rotate_left
    ·intro w' hSw
     (try dsimp only at hSw)
     obtain ⟨hs1, hs2⟩ := hSw
     first | (go_simp; done) | (go_simp; with_reducible rfl)
    try simp only [Act.put, List.setIfInBounds_toArray, List.set_cons_zero, List.set_cons_succ]
    refine wpAnyH_take (i := 3) (oi := { dst := some 28, op := Op.load 3 (Operand.tmp 27), type := 3, pos := "drawing.go:77", after := #[{ on := 2, ground := Ground.data }], guard := none }) (v := ?_) rfl (by kernel_rfl) (by kernel_rfl) (by kernel_rfl) (fun _ _ _ h => h) (Or.inl ⟨by rfl, ?_⟩) (by assumption) ?_
    rotate_left
    ·intro w' hSw
     (try dsimp only at hSw)
     obtain ⟨hs1, hs2⟩ := hSw
     first | (go_simp; done) | (go_simp; with_reducible rfl)
    try simp only [Act.put, List.setIfInBounds_toArray, List.set_cons_zero, List.set_cons_succ]
    refine wpAnyH_take (i := 4) (oi := { dst := some 29, op := Op.index 86 (Operand.tmp 26) (Operand.tmp 28), type := 9, pos := "drawing.go:77", after := #[{ on := 1, ground := Ground.data }, { on := 3, ground := Ground.data }], guard := none }) (v := ?_) rfl (by kernel_rfl) (by kernel_rfl) (by kernel_rfl) (fun _ _ _ h => h) (Or.inl ⟨by rfl, ?_⟩) (by assumption) ?_
    rotate_left
    ·intro w' hSw
     (try dsimp only at hSw)
     obtain ⟨hs1, hs2⟩ := hSw
     first | (go_simp; done) | (go_simp; with_reducible rfl)
    try simp only [Act.put, List.setIfInBounds_toArray, List.set_cons_zero, List.set_cons_succ]
    refine wpAnyH_ready (rs := [5]) (by kernel_rfl) (by simp) ?_
    refine AllReadyH.cons (o := { dst := some 30, op := Op.call { callee := Callee.value (Operand.tmp 25), args := #[Operand.const (Value.int IntKind.i64 0), Operand.tmp 29], argTypes := #[3, 9] }, type := 0, pos := "drawing.go:77", after := #[{ on := 0, ground := Ground.data }, { on := 4, ground := Ground.data }], guard := none }) rfl (fun K hK => ?_) AllReadyH.nil
    go_simp
    go_at_call 34
    have hd := GeW.below_drew (Below.refl W1.heap.size W1)
    have HD := Lib.hid (HE0.out.below hd)
    refine (wgroup_any w.heap.size b _ kLine 0 _ HD.out.bd.bld HD.out.size HD.out.glob (by have := HD.out.len; have := (show kLine.length ≤ 4 from by decide); omega) (by omega)).mono ?_
    rintro e w1 ⟨rfl, h1⟩
    have HE1 := Lib.hid (HD.out.gr h1 (by omega) (show kLine.length ≤ 4 from by decide))
    clear h1
    have gg := cell_of HE1.out.g 0 _ rfl
    have xx := cell_of HE1.out.x 0 _ rfl
    refine hK.out _ _ ?_ (fun hHeld => ?_)
    ·exact ⟨gg, xx⟩
    clear hK K
    try simp only [Act.put, List.setIfInBounds_toArray, List.set_cons_zero, List.set_cons_succ]
    refine wpAnyH_done (by kernel_rfl) ?_ _
    clear x0 g0
    have x1 := cell_of HE1.out.x 1 _ rfl
    have g0 := cell_of HE1.out.g 0 _ rfl
    go_wp2_with fail
    refine (wgroup_any w.heap.size b _ lay 8 _ HE1.out.bd.bld HE1.out.size HE1.out.glob (by have := HE1.out.len; have := HLY.out; omega) (by omega)).mono ?_
    rintro e w2 ⟨rfl, h1⟩
    have HE2 := Lib.hid (HE1.out.gr h1 (by omega) HLY.out)
    clear h1
    clear x1 g0
    have x0 := cell_of HE2.out.x 0 _ rfl
    have x2 := cell_of HE2.out.x 2 _ rfl
    have x3 := cell_of HE2.out.x 3 _ rfl
    go_wp2_with fail
    refine (wpoint_any w.heap.size b gb nb _ 10 ax ay _ HE2.out.bd.bld HE2.out.g HE2.out.n HE2.out.ne.1 HE2.out.ne.2.1 HE2.out.size HE2.out.ne.2.2.2 HE2.out.glob (by have := HE2.out.len; omega) (by omega) (Sm.i64 HA.out).1 (Sm.i64 HA.out).2).mono ?_
    rintro e w3 ⟨rfl, h1⟩
    have HE3 := Lib.hid (HE2.out.pt h1 (by omega) HA.out)
    clear h1
    clear x2 x3
    clear x0
    have x4 := cell_of HE3.out.x 4 _ rfl
    have x5 := cell_of HE3.out.x 5 _ rfl
    go_wp2_with fail
    refine (wpoint_any w.heap.size b gb nb _ 11 bx b_y _ HE3.out.bd.bld HE3.out.g HE3.out.n HE3.out.ne.1 HE3.out.ne.2.1 HE3.out.size HE3.out.ne.2.2.2 HE3.out.glob (by have := HE3.out.len; omega) (by omega) (Sm.i64 HB_.out).1 (Sm.i64 HB_.out).2).mono ?_
    rintro e w4 ⟨rfl, h1⟩
    have HE4 := Lib.hid (HE3.out.pt h1 (by omega) HB_.out)
    clear h1
    clear x4 x5
    have HOUT : Hid (textOf ((xs.take j).flatMap fun x => entL x.e) ++ textOf (gr 0 kLine) ++ textOf (gr 8 lay) ++ textOf (ptL 10 (ax, ay)) ++ textOf (ptL 11 (bx, b_y)) = textOf ((xs.take (j + 1)).flatMap fun x => entL x.e)) := Lib.hid (by
     rw [HTJ.out, List.flatMap_append, textOf_append]
     simp only [List.flatMap_cons, List.flatMap_nil, List.append_nil]
     rw [HENT.out]
     simp only [textOf_append, List.append_assoc])
    have HL2 : Hid ((textOf ((xs.take (j + 1)).flatMap fun x => entL x.e)).length ≤ 1010000 * (j + 1)) := Lib.hid (by
     rw [HTJ.out, List.flatMap_append, textOf_append, List.length_append]
     simp only [List.flatMap_cons, List.flatMap_nil, List.append_nil]
     have h1 := HLEN.out
     have h2 := HEL.out
     omega)
    go_wp2
    go_roundw
    case rel => exact ⟨j + 1, by go_num, by omega, HL2, by rw [← HOUT.out]; exact Lib.hid HE4.out.bd⟩
    case measure => simp [intOf]; omega
   ·subst hk
    clear HEK
    have HENT : Hid (entL ⟨2, lay, (ax, ay), (bx, b_y), (fx, fy), (tx, ty), (cx, cy), cw, pts⟩ = gr 0 kArc ++ (gr 8 lay ++ (ptL 10 (fx, fy) ++ (ptL 11 (tx, ty) ++ (ptL 12 (cx, cy) ++ gr 70 (if cw = true then [49] else [48])))))) := Lib.hid (rfl)
    have HF := Lib.hid h1
    have HT_ := Lib.hid h2
    have HC := Lib.hid h3
    clear h1 h2 h3
    have HX := Lib.hid (GeW.heap_alloc_new wr (.cells #[.int .i64 2, .string ⟨lay.toArray⟩, .int .i64 ax, .int .i64 ay, .int .i64 bx, .int .i64 b_y, .int .i64 fx, .int .i64 fy, .int .i64 tx, .int .i64 ty, .int .i64 cx, .int .i64 cy, .bool cw, .slice PA pl ka] 52))
    have hbx := bel1 wr (.cells #[.int .i64 2, .string ⟨lay.toArray⟩, .int .i64 ax, .int .i64 ay, .int .i64 bx, .int .i64 b_y, .int .i64 fx, .int .i64 fy, .int .i64 tx, .int .i64 ty, .int .i64 cx, .int .i64 cy, .bool cw, .slice PA pl ka] 52)
    have HE0 : Hid (Es w.heap.size b gb nb wr.heap.size #[.int .i64 2, .string ⟨lay.toArray⟩, .int .i64 ax, .int .i64 ay, .int .i64 bx, .int .i64 b_y, .int .i64 fx, .int .i64 fy, .int .i64 tx, .int .i64 ty, .int .i64 cx, .int .i64 cy, .bool cw, .slice PA pl ka] 0 (textOf ((xs.take j).flatMap fun x => entL x.e)) W0 w (wr.alloc (.cells #[.int .i64 2, .string ⟨lay.toArray⟩, .int .i64 ax, .int .i64 ay, .int .i64 bx, .int .i64 b_y, .int .i64 fx, .int .i64 fy, .int .i64 tx, .int .i64 ty, .int .i64 cx, .int .i64 cy, .bool cw, .slice PA pl ka] 52))) := Lib.hid (Es.mk0 HBD.out HGW.out HNW.out HNE.out hz HGL.out HBW.out (by have := HLEN.out; omega) _ (by have := hzb; omega))
    clear hbx
    go_upto_region 10 with fail
    generalize wr.alloc (.cells #[.int .i64 2, .string ⟨lay.toArray⟩, .int .i64 ax, .int .i64 ay, .int .i64 bx, .int .i64 b_y, .int .i64 fx, .int .i64 fy, .int .i64 tx, .int .i64 ty, .int .i64 cx, .int .i64 cy, .bool cw, .slice PA pl ka] 52) = W1 at *
    generalize wr.heap.size = xb at *
    clear a0 a1 a2 a3 a4 a5 a6 a7 a8 a9 a10 a11 a12 a13
    have x0 := cell_of HE0.out.x 0 _ rfl
    have g0 := cell_of HE0.out.g 0 _ rfl
    have hix : ∀ W, (Instr.index 86 (.agg #[.string ⟨#[]⟩, .string ⟨#[76, 73, 78, 69]⟩, .string ⟨#[65, 82, 67]⟩, .string ⟨#[80, 79, 76, 89]⟩]) (.int .i64 2)).run Tryz.prog W = .ok (.string ⟨#[65, 82, 67]⟩) W := fun W => by kernel_rfl
    refine wp_region_held_drew (S := fun w' => (w'.cell? ⟨gb, 0, none⟩ = some (.func (.func 34) #[] #[.pointer (some ⟨b, 0, none⟩)]) ∧ w'.cell? ⟨xb, 0, none⟩ = some (.int .i64 2))) (by kernel_rfl) ?_ (fun hHeld => ?_)
    ·exact ⟨g0, x0⟩
    refine wpAnyH_take (i := 0) (oi := { dst := some 25, op := Op.load 83 (Operand.tmp 5), type := 83, pos := "drawing.go:77", after := #[], guard := none }) (v := ?_) rfl (by kernel_rfl) (by kernel_rfl) (by kernel_rfl) (fun _ _ _ h => h) (Or.inl ⟨by rfl, ?_⟩) (by assumption) ?_
    rotate_left
    ·intro w' hSw
     (try dsimp only at hSw)
     obtain ⟨hs1, hs2⟩ := hSw
     first | (go_simp; done) | (go_simp; with_reducible rfl)
    try simp only [Act.put, List.setIfInBounds_toArray, List.set_cons_zero, List.set_cons_succ]
    refine wpAnyH_take (i := 1) (oi := { dst := some 26, op := Op.build 86 #[(0, Operand.const (Value.string { data := #[] })), (1, Operand.const (Value.string { data := #[76, 73, 78, 69] })), (2, Operand.const (Value.string { data := #[65, 82, 67] })), (3, Operand.const (Value.string { data := #[80, 79, 76, 89] }))], type := 86, pos := "drawing.go:77", after := #[], guard := none }) (v := ?_) rfl (by kernel_rfl) (by kernel_rfl) (by kernel_rfl) (fun _ _ _ h => h) (Or.inl ⟨by rfl, ?_⟩) (by assumption) ?_
    rotate_left
    ·intro w' hSw
     (try dsimp only at hSw)
     obtain ⟨hs1, hs2⟩ := hSw
     first | (go_simp; done) | (go_simp; with_reducible rfl)
    try simp only [Act.put, List.setIfInBounds_toArray, List.set_cons_zero, List.set_cons_succ]
    refine wpAnyH_take (i := 2) (oi := { dst := some 27, op := Op.fieldAddr 52 (Operand.tmp 9) 0, type := 0, pos := "drawing.go:77", after := #[], guard := none }) (v := ?_) rfl (by kernel_rfl) (by kernel_rfl) (by kernel_rfl) (fun _ _ _ h => h) (Or.inl ⟨by rfl, ?_⟩) (by assumption) ?_
    rotate_left
    ·intro w' hSw
     (try dsimp only at hSw)
     obtain ⟨hs1, hs2⟩ := hSw
     first | (go_simp; done) | (go_simp; with_reducible rfl)
    try simp only [Act.put, List.setIfInBounds_toArray, List.set_cons_zero, List.set_cons_succ]
    refine wpAnyH_take (i := 3) (oi := { dst := some 28, op := Op.load 3 (Operand.tmp 27), type := 3, pos := "drawing.go:77", after := #[{ on := 2, ground := Ground.data }], guard := none }) (v := ?_) rfl (by kernel_rfl) (by kernel_rfl) (by kernel_rfl) (fun _ _ _ h => h) (Or.inl ⟨by rfl, ?_⟩) (by assumption) ?_
    rotate_left
    ·intro w' hSw
     (try dsimp only at hSw)
     obtain ⟨hs1, hs2⟩ := hSw
     first | (go_simp; done) | (go_simp; with_reducible rfl)
    try simp only [Act.put, List.setIfInBounds_toArray, List.set_cons_zero, List.set_cons_succ]
    refine wpAnyH_take (i := 4) (oi := { dst := some 29, op := Op.index 86 (Operand.tmp 26) (Operand.tmp 28), type := 9, pos := "drawing.go:77", after := #[{ on := 1, ground := Ground.data }, { on := 3, ground := Ground.data }], guard := none }) (v := ?_) rfl (by kernel_rfl) (by kernel_rfl) (by kernel_rfl) (fun _ _ _ h => h) (Or.inl ⟨by rfl, ?_⟩) (by assumption) ?_
    rotate_left
    ·intro w' hSw
     (try dsimp only at hSw)
     obtain ⟨hs1, hs2⟩ := hSw
     first | (go_simp; done) | (go_simp; with_reducible rfl)
    try simp only [Act.put, List.setIfInBounds_toArray, List.set_cons_zero, List.set_cons_succ]
    refine wpAnyH_ready (rs := [5]) (by kernel_rfl) (by simp) ?_
    refine AllReadyH.cons (o := { dst := some 30, op := Op.call { callee := Callee.value (Operand.tmp 25), args := #[Operand.const (Value.int IntKind.i64 0), Operand.tmp 29], argTypes := #[3, 9] }, type := 0, pos := "drawing.go:77", after := #[{ on := 0, ground := Ground.data }, { on := 4, ground := Ground.data }], guard := none }) rfl (fun K hK => ?_) AllReadyH.nil
    go_simp
    go_at_call 34
    have hd := GeW.below_drew (Below.refl W1.heap.size W1)
    have HD := Lib.hid (HE0.out.below hd)
    refine (wgroup_any w.heap.size b _ kArc 0 _ HD.out.bd.bld HD.out.size HD.out.glob (by have := HD.out.len; have := (show kArc.length ≤ 3 from by decide); omega) (by omega)).mono ?_
    rintro e w1 ⟨rfl, h1⟩
    have HE1 := Lib.hid (HD.out.gr h1 (by omega) (show kArc.length ≤ 3 from by decide))
    clear h1
    have gg := cell_of HE1.out.g 0 _ rfl
    have xx := cell_of HE1.out.x 0 _ rfl
    refine hK.out _ _ ?_ (fun hHeld => ?_)
    ·exact ⟨gg, xx⟩
    clear hK K
    try simp only [Act.put, List.setIfInBounds_toArray, List.set_cons_zero, List.set_cons_succ]
    refine wpAnyH_done (by kernel_rfl) ?_ _
    clear x0 g0
    have x1 := cell_of HE1.out.x 1 _ rfl
    have g0 := cell_of HE1.out.g 0 _ rfl
    go_wp2_with fail
    refine (wgroup_any w.heap.size b _ lay 8 _ HE1.out.bd.bld HE1.out.size HE1.out.glob (by have := HE1.out.len; have := HLY.out; omega) (by omega)).mono ?_
    rintro e w2 ⟨rfl, h1⟩
    have HE2 := Lib.hid (HE1.out.gr h1 (by omega) HLY.out)
    clear h1
    clear x1 g0
    have x0 := cell_of HE2.out.x 0 _ rfl
    have x6 := cell_of HE2.out.x 6 _ rfl
    have x7 := cell_of HE2.out.x 7 _ rfl
    go_wp2_with fail
    refine (wpoint_any w.heap.size b gb nb _ 10 fx fy _ HE2.out.bd.bld HE2.out.g HE2.out.n HE2.out.ne.1 HE2.out.ne.2.1 HE2.out.size HE2.out.ne.2.2.2 HE2.out.glob (by have := HE2.out.len; omega) (by omega) (Sm.i64 HF.out).1 (Sm.i64 HF.out).2).mono ?_
    rintro e w3 ⟨rfl, h1⟩
    have HE3 := Lib.hid (HE2.out.pt h1 (by omega) HF.out)
    clear h1
    clear x6 x7
    clear x0
    have x8 := cell_of HE3.out.x 8 _ rfl
    have x9 := cell_of HE3.out.x 9 _ rfl
    go_wp2_with fail
    refine (wpoint_any w.heap.size b gb nb _ 11 tx ty _ HE3.out.bd.bld HE3.out.g HE3.out.n HE3.out.ne.1 HE3.out.ne.2.1 HE3.out.size HE3.out.ne.2.2.2 HE3.out.glob (by have := HE3.out.len; omega) (by omega) (Sm.i64 HT_.out).1 (Sm.i64 HT_.out).2).mono ?_
    rintro e w4 ⟨rfl, h1⟩
    have HE4 := Lib.hid (HE3.out.pt h1 (by omega) HT_.out)
    clear h1
    clear x8 x9
    have x10 := cell_of HE4.out.x 10 _ rfl
    have x11 := cell_of HE4.out.x 11 _ rfl
    go_wp2_with fail
    refine (wpoint_any w.heap.size b gb nb _ 12 cx cy _ HE4.out.bd.bld HE4.out.g HE4.out.n HE4.out.ne.1 HE4.out.ne.2.1 HE4.out.size HE4.out.ne.2.2.2 HE4.out.glob (by have := HE4.out.len; omega) (by omega) (Sm.i64 HC.out).1 (Sm.i64 HC.out).2).mono ?_
    rintro e w5 ⟨rfl, h1⟩
    have HE5 := Lib.hid (HE4.out.pt h1 (by omega) HC.out)
    clear h1
    clear x10 x11
    cases cw
    ·have HENT : Hid (entL ⟨2, lay, (ax, ay), (bx, b_y), (fx, fy), (tx, ty), (cx, cy), false, pts⟩ = gr 0 kArc ++ (gr 8 lay ++ (ptL 10 (fx, fy) ++ (ptL 11 (tx, ty) ++ (ptL 12 (cx, cy) ++ gr 70 [48]))))) := Lib.hid HENT.out
     have x12 := cell_of HE5.out.x 12 _ rfl
     have n0 := cell_of HE5.out.n 0 _ rfl
     go_wp2_with fail
     refine (wnumber_any w.heap.size b gb _ 70 0 _ HE5.out.bd.bld HE5.out.g HE5.out.ne.1 HE5.out.size HE5.out.glob (by have := HE5.out.len; omega) (by omega) (by omega)).mono ?_
     rintro e w6 ⟨rfl, h1⟩
     have HE6 := Lib.hid (HE5.out.gr h1 (by omega) (Lib.itoa_length_le 0 (by omega) (by omega)))
     clear h1
     clear x12 n0
     have HIT : Hid (Lib.itoa 0 = [48]) := Lib.hid itoa_0
     have HOUT : Hid (textOf ((xs.take j).flatMap fun x => entL x.e) ++ textOf (gr 0 kArc) ++ textOf (gr 8 lay) ++ textOf (ptL 10 (fx, fy)) ++ textOf (ptL 11 (tx, ty)) ++ textOf (ptL 12 (cx, cy)) ++ textOf (gr 70 (Lib.itoa 0)) = textOf ((xs.take (j + 1)).flatMap fun x => entL x.e)) := Lib.hid (by
      rw [HTJ.out, List.flatMap_append, textOf_append]
      simp only [List.flatMap_cons, List.flatMap_nil, List.append_nil]
      rw [HENT.out, ← HIT.out]
      simp only [textOf_append, List.append_assoc])
     have HL2 : Hid ((textOf ((xs.take (j + 1)).flatMap fun x => entL x.e)).length ≤ 1010000 * (j + 1)) := Lib.hid (by
      rw [HTJ.out, List.flatMap_append, textOf_append, List.length_append]
      simp only [List.flatMap_cons, List.flatMap_nil, List.append_nil]
      have h1 := HLEN.out
      have h2 := HEL.out
      omega)
     go_wp2
     go_roundw
     case rel => exact ⟨j + 1, by go_num, by omega, HL2, by rw [← HOUT.out]; exact Lib.hid HE6.out.bd⟩
     case measure => simp [intOf]; omega
    ·have HENT : Hid (entL ⟨2, lay, (ax, ay), (bx, b_y), (fx, fy), (tx, ty), (cx, cy), true, pts⟩ = gr 0 kArc ++ (gr 8 lay ++ (ptL 10 (fx, fy) ++ (ptL 11 (tx, ty) ++ (ptL 12 (cx, cy) ++ gr 70 [49]))))) := Lib.hid HENT.out
     have x12 := cell_of HE5.out.x 12 _ rfl
     have n0 := cell_of HE5.out.n 0 _ rfl
     go_wp2_with fail
     refine (wnumber_any w.heap.size b gb _ 70 1 _ HE5.out.bd.bld HE5.out.g HE5.out.ne.1 HE5.out.size HE5.out.glob (by have := HE5.out.len; omega) (by omega) (by omega)).mono ?_
     rintro e w6 ⟨rfl, h1⟩
     have HE6 := Lib.hid (HE5.out.gr h1 (by omega) (Lib.itoa_length_le 1 (by omega) (by omega)))
     clear h1
     clear x12 n0
     have HIT : Hid (Lib.itoa 1 = [49]) := Lib.hid itoa_1
     have HOUT : Hid (textOf ((xs.take j).flatMap fun x => entL x.e) ++ textOf (gr 0 kArc) ++ textOf (gr 8 lay) ++ textOf (ptL 10 (fx, fy)) ++ textOf (ptL 11 (tx, ty)) ++ textOf (ptL 12 (cx, cy)) ++ textOf (gr 70 (Lib.itoa 1)) = textOf ((xs.take (j + 1)).flatMap fun x => entL x.e)) := Lib.hid (by
      rw [HTJ.out, List.flatMap_append, textOf_append]
      simp only [List.flatMap_cons, List.flatMap_nil, List.append_nil]
      rw [HENT.out, ← HIT.out]
      simp only [textOf_append, List.append_assoc, if_true])
     have HL2 : Hid ((textOf ((xs.take (j + 1)).flatMap fun x => entL x.e)).length ≤ 1010000 * (j + 1)) := Lib.hid (by
      rw [HTJ.out, List.flatMap_append, textOf_append, List.length_append]
      simp only [List.flatMap_cons, List.flatMap_nil, List.append_nil]
      have h1 := HLEN.out
      have h2 := HEL.out
      omega)
     go_wp2
     go_roundw
     case rel => exact ⟨j + 1, by go_num, by omega, HL2, by rw [← HOUT.out]; exact Lib.hid HE6.out.bd⟩
     case measure => simp [intOf]; omega
   ·subst hk
    clear HEK
    have HENT : Hid (entL ⟨3, lay, (ax, ay), (bx, b_y), (fx, fy), (tx, ty), (cx, cy), cw, pts⟩ = gr 0 kPoly ++ (gr 8 lay ++ (gr 90 (Lib.itoa (pl : Int)) ++ pts.flatMap (ptL 10)))) := Lib.hid (by rw [← HPL.out]; rfl)
    have HSP := Lib.hid h2
    have hpl : pl ≤ 40 := by rw [← HPL.out]; exact h1
    clear h1 h2
    have HX := Lib.hid (GeW.heap_alloc_new wr (.cells #[.int .i64 3, .string ⟨lay.toArray⟩, .int .i64 ax, .int .i64 ay, .int .i64 bx, .int .i64 b_y, .int .i64 fx, .int .i64 fy, .int .i64 tx, .int .i64 ty, .int .i64 cx, .int .i64 cy, .bool cw, .slice PA pl ka] 52))
    have hbx := bel1 wr (.cells #[.int .i64 3, .string ⟨lay.toArray⟩, .int .i64 ax, .int .i64 ay, .int .i64 bx, .int .i64 b_y, .int .i64 fx, .int .i64 fy, .int .i64 tx, .int .i64 ty, .int .i64 cx, .int .i64 cy, .bool cw, .slice PA pl ka] 52)
    have HE0 : Hid (Es w.heap.size b gb nb wr.heap.size #[.int .i64 3, .string ⟨lay.toArray⟩, .int .i64 ax, .int .i64 ay, .int .i64 bx, .int .i64 b_y, .int .i64 fx, .int .i64 fy, .int .i64 tx, .int .i64 ty, .int .i64 cx, .int .i64 cy, .bool cw, .slice PA pl ka] 0 (textOf ((xs.take j).flatMap fun x => entL x.e)) W0 w (wr.alloc (.cells #[.int .i64 3, .string ⟨lay.toArray⟩, .int .i64 ax, .int .i64 ay, .int .i64 bx, .int .i64 b_y, .int .i64 fx, .int .i64 fy, .int .i64 tx, .int .i64 ty, .int .i64 cx, .int .i64 cy, .bool cw, .slice PA pl ka] 52))) := Lib.hid (Es.mk0 HBD.out HGW.out HNW.out HNE.out hz HGL.out HBW.out (by have := HLEN.out; omega) _ (by have := hzb; omega))
    clear hbx
    go_upto_region 10 with fail
    generalize wr.alloc (.cells #[.int .i64 3, .string ⟨lay.toArray⟩, .int .i64 ax, .int .i64 ay, .int .i64 bx, .int .i64 b_y, .int .i64 fx, .int .i64 fy, .int .i64 tx, .int .i64 ty, .int .i64 cx, .int .i64 cy, .bool cw, .slice PA pl ka] 52) = W1 at *
    generalize wr.heap.size = xb at *
    clear a0 a1 a2 a3 a4 a5 a6 a7 a8 a9 a10 a11 a12 a13
    have x0 := cell_of HE0.out.x 0 _ rfl
    have g0 := cell_of HE0.out.g 0 _ rfl
    have hix : ∀ W, (Instr.index 86 (.agg #[.string ⟨#[]⟩, .string ⟨#[76, 73, 78, 69]⟩, .string ⟨#[65, 82, 67]⟩, .string ⟨#[80, 79, 76, 89]⟩]) (.int .i64 3)).run Tryz.prog W = .ok (.string ⟨#[80, 79, 76, 89]⟩) W := fun W => by kernel_rfl
    refine wp_region_held_drew (S := fun w' => (w'.cell? ⟨gb, 0, none⟩ = some (.func (.func 34) #[] #[.pointer (some ⟨b, 0, none⟩)]) ∧ w'.cell? ⟨xb, 0, none⟩ = some (.int .i64 3))) (by kernel_rfl) ?_ (fun hHeld => ?_)
    ·exact ⟨g0, x0⟩
    refine wpAnyH_take (i := 0) (oi := { dst := some 25, op := Op.load 83 (Operand.tmp 5), type := 83, pos := "drawing.go:77", after := #[], guard := none }) (v := ?_) rfl (by kernel_rfl) (by kernel_rfl) (by kernel_rfl) (fun _ _ _ h => h) (Or.inl ⟨by rfl, ?_⟩) (by assumption) ?_
    rotate_left
    ·intro w' hSw
     (try dsimp only at hSw)
     obtain ⟨hs1, hs2⟩ := hSw
     first | (go_simp; done) | (go_simp; with_reducible rfl)
    try simp only [Act.put, List.setIfInBounds_toArray, List.set_cons_zero, List.set_cons_succ]
    refine wpAnyH_take (i := 1) (oi := { dst := some 26, op := Op.build 86 #[(0, Operand.const (Value.string { data := #[] })), (1, Operand.const (Value.string { data := #[76, 73, 78, 69] })), (2, Operand.const (Value.string { data := #[65, 82, 67] })), (3, Operand.const (Value.string { data := #[80, 79, 76, 89] }))], type := 86, pos := "drawing.go:77", after := #[], guard := none }) (v := ?_) rfl (by kernel_rfl) (by kernel_rfl) (by kernel_rfl) (fun _ _ _ h => h) (Or.inl ⟨by rfl, ?_⟩) (by assumption) ?_
    rotate_left
    ·intro w' hSw
     (try dsimp only at hSw)
     obtain ⟨hs1, hs2⟩ := hSw
     first | (go_simp; done) | (go_simp; with_reducible rfl)
    try simp only [Act.put, List.setIfInBounds_toArray, List.set_cons_zero, List.set_cons_succ]
    refine wpAnyH_take (i := 2) (oi := { dst := some 27, op := Op.fieldAddr 52 (Operand.tmp 9) 0, type := 0, pos := "drawing.go:77", after := #[], guard := none }) (v := ?_) rfl (by kernel_rfl) (by kernel_rfl) (by kernel_rfl) (fun _ _ _ h => h) (Or.inl ⟨by rfl, ?_⟩) (by assumption) ?_
    rotate_left
    ·intro w' hSw
     (try dsimp only at hSw)
     obtain ⟨hs1, hs2⟩ := hSw
     first | (go_simp; done) | (go_simp; with_reducible rfl)
    try simp only [Act.put, List.setIfInBounds_toArray, List.set_cons_zero, List.set_cons_succ]
    refine wpAnyH_take (i := 3) (oi := { dst := some 28, op := Op.load 3 (Operand.tmp 27), type := 3, pos := "drawing.go:77", after := #[{ on := 2, ground := Ground.data }], guard := none }) (v := ?_) rfl (by kernel_rfl) (by kernel_rfl) (by kernel_rfl) (fun _ _ _ h => h) (Or.inl ⟨by rfl, ?_⟩) (by assumption) ?_
    rotate_left
    ·intro w' hSw
     (try dsimp only at hSw)
     obtain ⟨hs1, hs2⟩ := hSw
     first | (go_simp; done) | (go_simp; with_reducible rfl)
    try simp only [Act.put, List.setIfInBounds_toArray, List.set_cons_zero, List.set_cons_succ]
    refine wpAnyH_take (i := 4) (oi := { dst := some 29, op := Op.index 86 (Operand.tmp 26) (Operand.tmp 28), type := 9, pos := "drawing.go:77", after := #[{ on := 1, ground := Ground.data }, { on := 3, ground := Ground.data }], guard := none }) (v := ?_) rfl (by kernel_rfl) (by kernel_rfl) (by kernel_rfl) (fun _ _ _ h => h) (Or.inl ⟨by rfl, ?_⟩) (by assumption) ?_
    rotate_left
    ·intro w' hSw
     (try dsimp only at hSw)
     obtain ⟨hs1, hs2⟩ := hSw
     first | (go_simp; done) | (go_simp; with_reducible rfl)
    try simp only [Act.put, List.setIfInBounds_toArray, List.set_cons_zero, List.set_cons_succ]
    refine wpAnyH_ready (rs := [5]) (by kernel_rfl) (by simp) ?_
    refine AllReadyH.cons (o := { dst := some 30, op := Op.call { callee := Callee.value (Operand.tmp 25), args := #[Operand.const (Value.int IntKind.i64 0), Operand.tmp 29], argTypes := #[3, 9] }, type := 0, pos := "drawing.go:77", after := #[{ on := 0, ground := Ground.data }, { on := 4, ground := Ground.data }], guard := none }) rfl (fun K hK => ?_) AllReadyH.nil
    go_simp
    go_at_call 34
    have hd := GeW.below_drew (Below.refl W1.heap.size W1)
    have HD := Lib.hid (HE0.out.below hd)
    refine (wgroup_any w.heap.size b _ kPoly 0 _ HD.out.bd.bld HD.out.size HD.out.glob (by have := HD.out.len; have := (show kPoly.length ≤ 4 from by decide); omega) (by omega)).mono ?_
    rintro e w1 ⟨rfl, h1⟩
    have HE1 := Lib.hid (HD.out.gr h1 (by omega) (show kPoly.length ≤ 4 from by decide))
    clear h1
    have gg := cell_of HE1.out.g 0 _ rfl
    have xx := cell_of HE1.out.x 0 _ rfl
    refine hK.out _ _ ?_ (fun hHeld => ?_)
    ·exact ⟨gg, xx⟩
    clear hK K
    try simp only [Act.put, List.setIfInBounds_toArray, List.set_cons_zero, List.set_cons_succ]
    refine wpAnyH_done (by kernel_rfl) ?_ _
    clear x0 g0
    have x1 := cell_of HE1.out.x 1 _ rfl
    have g0 := cell_of HE1.out.g 0 _ rfl
    go_wp2_with fail
    refine (wgroup_any w.heap.size b _ lay 8 _ HE1.out.bd.bld HE1.out.size HE1.out.glob (by have := HE1.out.len; have := HLY.out; omega) (by omega)).mono ?_
    rintro e w2 ⟨rfl, h1⟩
    have HE2 := Lib.hid (HE1.out.gr h1 (by omega) HLY.out)
    clear h1
    clear x1 g0
    have x0 := cell_of HE2.out.x 0 _ rfl
    have x13 := cell_of HE2.out.x 13 _ rfl
    have n0 := cell_of HE2.out.n 0 _ rfl
    go_wp2_with fail
    refine (wnumber_any w.heap.size b gb _ 90 (pl : Int) _ HE2.out.bd.bld HE2.out.g HE2.out.ne.1 HE2.out.size HE2.out.glob (by have := HE2.out.len; omega) (by omega) (by omega)).mono ?_
    rintro e w3 ⟨rfl, h1⟩
    have HE3 := Lib.hid (HE2.out.gr h1 (by omega) (Lib.itoa_length_le (pl : Int) (by omega) (by omega)))
    clear h1
    clear x13 n0
    clear x0
    have x13 := cell_of HE3.out.x 13 _ rfl
    have HPR3 := Lib.hid (HPR.out.below HE3.out.bel)
    go_wp2_with fail
    clear x13
    go_loopw [80] (fun v wq => ∃ i : Nat, v = .int .i64 (i : Int) ∧ i ≤ pts.length ∧ Hid (Es w.heap.size b gb nb xb #[.int .i64 3, .string ⟨lay.toArray⟩, .int .i64 ax, .int .i64 ay, .int .i64 bx, .int .i64 b_y, .int .i64 fx, .int .i64 fy, .int .i64 tx, .int .i64 ty, .int .i64 cx, .int .i64 cy, .bool cw, .slice PA pl ka] (2000000 + 88 * i) (textOf ((xs.take j).flatMap fun x => entL x.e) ++ textOf (gr 0 kPoly) ++ textOf (gr 8 lay) ++ textOf (gr 90 (Lib.itoa (pl : Int))) ++ textOf ((pts.take i).flatMap (ptL 10))) W0 w wq) ∧ Hid (Below w3.heap.size w3 wq ∨ True)) (fun v _ => pts.length - (intOf v).toNat)
    case atStart => exact ⟨0, rfl, Nat.zero_le _, Lib.hid (by simpa [textOf] using HE3.out.more (by omega)), Lib.hid (.inr trivial)⟩
    case round =>
     obtain ⟨i, rfl, hi, HE10, _⟩ := hrel
     by_cases hlti : i < pts.length
     ·have HTI : Hid (pts.take (i + 1) = pts.take i ++ [pts[i]]) := Lib.hid (List.take_succ_eq_append_getElem hlti)
      have HSI := Lib.hid (HSP.out pts[i] (List.getElem_mem hlti))
      obtain ⟨g, off, rfl, hg, ca⟩ := row_get pt_len2 (by decide) HPR.out (by omega)
      have a0 := (HE10.out.bel.cell (p := ⟨g, off + i * 2 + 0, none⟩) hg).trans (ca i hlti 0 (by decide))
      have a1 := (HE10.out.bel.cell (p := ⟨g, off + i * 2 + 1, none⟩) hg).trans (ca i hlti 1 (by decide))
      generalize pts[i] = q at *
      obtain ⟨px, py⟩ := q
      simp only [ptCells, List.getElem?_cons_zero, List.getElem?_cons_succ, Nat.add_zero] at a0 a1
      have hi1 : (0 : Int) ≤ (i : Int) := by omega
      have hi2 : (i : Int) < (pl : Int) := by have := HPL.out; omega
      have HO := Lib.hid (GeW.one_vec wr (.cells #[.int .i64 px, .int .i64 py] 47))
      have HV := Lib.hid (GeW.heap_alloc_new wr (.cells #[.int .i64 px, .int .i64 py] 47))
      have v0 := cell_of HV.out 0 _ rfl
      have v1 := cell_of HV.out 1 _ rfl
      have HE11 := Lib.hid (HE10.out.below (bel1 wr (.cells #[.int .i64 px, .int .i64 py] 47)))
      clear ca
      go_wp2_with fail
      refine (wpoint_any w.heap.size b gb nb _ 10 px py _ HE11.out.bd.bld HE11.out.g HE11.out.n HE11.out.ne.1 HE11.out.ne.2.1 HE11.out.size HE11.out.ne.2.2.2 HE11.out.glob (by have := HE11.out.len; omega) (by omega) (Sm.i64 HSI.out).1 (Sm.i64 HSI.out).2).mono ?_
      rintro e w12 ⟨rfl, h1⟩
      have HE12 := Lib.hid (HE11.out.pt h1 (by omega) HSI.out)
      clear h1 v0 v1 a0 a1
      go_wp2
      go_roundw
      case rel => exact ⟨i + 1, by go_num, by omega, Lib.hid (by
       have := HE12.out.more (k' := 2000000 + 88 * (i + 1)) (by omega)
       rw [HTI.out, List.flatMap_append, textOf_append]
       simpa only [List.flatMap_cons, List.flatMap_nil, List.append_nil, List.append_assoc] using this), Lib.hid (.inr trivial)⟩
      case measure => simp [intOf]; omega
     ·obtain rfl : pl = i := by have := HPL.out; omega
      have HE13 := HE10
      rw [show pts.take pl = pts from by rw [← HPL.out]; exact List.take_length] at HE13
      clear HE10
      have HOUT : Hid (textOf ((xs.take j).flatMap fun x => entL x.e) ++ textOf (gr 0 kPoly) ++ textOf (gr 8 lay) ++ textOf (gr 90 (Lib.itoa (pl : Int))) ++ textOf (pts.flatMap (ptL 10)) = textOf ((xs.take (j + 1)).flatMap fun x => entL x.e)) := Lib.hid (by
       rw [HTJ.out, List.flatMap_append, textOf_append]
       simp only [List.flatMap_cons, List.flatMap_nil, List.append_nil]
       rw [HENT.out]
       simp only [textOf_append, List.append_assoc])
      have HL2 : Hid ((textOf ((xs.take (j + 1)).flatMap fun x => entL x.e)).length ≤ 1010000 * (j + 1)) := Lib.hid (by
       rw [HTJ.out, List.flatMap_append, textOf_append, List.length_append]
       simp only [List.flatMap_cons, List.flatMap_nil, List.append_nil]
       have h1 := HLEN.out
       have h2 := HEL.out
       omega)
      go_wp2
      go_roundw
      case rel => exact ⟨j + 1, by go_num, by omega, HL2, by rw [← HOUT.out]; exact Lib.hid HE13.out.bd⟩
      case measure => simp [intOf]; omega
  ·obtain rfl : j = xs.length := by omega
   rw [List.take_length] at HLEN HBD
   have g0 := cell_of HGW.out 0 _ rfl
   go_wp2_with fail
   refine (wgroup_any w.heap.size b _ kEof 0 wr HBD.out.bld hz HGL.out (by have := HLEN.out; have : kEof.length = 3 := rfl; omega) (by omega)).mono ?_
   rintro e w8 ⟨rfl, h8⟩
   have HE8 := Lib.hid h8
   clear h8 g0
   go_wp2_with fail
   refine (Tryz.Builder_String_any w.heap.size b _ w8 HE8.out.bld (Nat.le_trans hz HE8.out.bel.size)).mono ?_
   rintro e w9 ⟨rfl, hb9⟩
   go_wp2
   go_ret2
   refine ⟨?_, (HBW.out.trans HE8.out.bel).trans hb9⟩
   unfold enc drawL
   rw [textOf_append, List.flatMap_map]
   rfl
end Go.Proofs.YtnmmhcchpcbeeaaGreatDoor.GtW
