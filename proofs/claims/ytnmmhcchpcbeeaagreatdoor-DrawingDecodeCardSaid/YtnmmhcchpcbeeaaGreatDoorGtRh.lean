/- Walk: the reference's reader of an entity: kArc. Conditions: the decoder and its lines lie in memory, apart. -/
import Derived.Test.YtnmmhcchpcbeeaaGreatDoorGtRf

namespace Go.Proofs.YtnmmhcchpcbeeaaGreatDoor.GtW
open Go Go.RowKit Go.Proofs.YtnmmhcchpcbeeaaGreatDoor.Mem Go.Proofs.YtnmmhcchpcbeeaaGreatDoor.Gt Go.Proofs.YtnmmhcchpcbeeaaGreatDoor.Ge
open Go.Proofs.YtnmmhcchpcbeeaaGreatDoor.GeW (EntV entVals PtsIn PtAt Tagged RowT RowW Ents own_keep own_tag ptCells)
attribute [local go_sem ↓] Go.wp_at_zero Go.wp_at_succ

set_option maxRecDepth 100000 in
set_option maxHeartbeats 4000000 in
theorem rentity_arc (L : List (List UInt8)) (A : Option Addr) (c b : Nat) (s : Gt.S) (w : World) (h : Rc w b A c L s) :
  Calls Tryz.prog 31 #[.pointer (some ⟨b, 0, none⟩), .string ⟨kArc.toArray⟩] w fun e w' => Rc w' b A c L (rdEnt L kArc s).2 ∧ w.grownBy w' (some b) ∧ ∃ x : EntV, e = .returned (.agg (entVals x).toArray) ∧ PtV w' x ∧ ((rdEnt L kArc s).2.bad = false → x.e = (rdEnt L kArc s).1) := by
 have hlb := blk_lt h.obj
 obtain ⟨RS, HRS⟩ : ∃ RS, Hid ((rdEnt L kArc s).2 = RS) := ⟨_, Lib.hid rfl⟩
 obtain ⟨RE, HRE⟩ : ∃ RE, Hid ((rdEnt L kArc s).1 = RE) := ⟨_, Lib.hid rfl⟩
 rw [HRS.out, HRE.out]
 have HRC := Lib.hid h
 have HB0 : Below w.heap.size w ((w.alloc (.cells #[.int .i64 0, .string ⟨#[]⟩, .int .i64 0, .int .i64 0, .int .i64 0, .int .i64 0, .int .i64 0, .int .i64 0, .int .i64 0, .int .i64 0, .int .i64 0, .int .i64 0, .bool false, .slice none 0 0] 72)).alloc (.cells #[.int .i64 0, .string ⟨#[]⟩, .int .i64 0, .int .i64 0, .int .i64 0, .int .i64 0, .int .i64 0, .int .i64 0, .int .i64 0, .int .i64 0, .int .i64 0, .int .i64 0, .bool false, .slice none 0 0] 72)) := ((Below.refl _ _).alloc (Nat.le_refl _) _).alloc (by simp) _
 have HE0 : Hid (ESt w ((w.alloc (.cells #[.int .i64 0, .string ⟨#[]⟩, .int .i64 0, .int .i64 0, .int .i64 0, .int .i64 0, .int .i64 0, .int .i64 0, .int .i64 0, .int .i64 0, .int .i64 0, .int .i64 0, .bool false, .slice none 0 0] 72)).alloc (.cells #[.int .i64 0, .string ⟨#[]⟩, .int .i64 0, .int .i64 0, .int .i64 0, .int .i64 0, .int .i64 0, .int .i64 0, .int .i64 0, .int .i64 0, .int .i64 0, .int .i64 0, .bool false, .slice none 0 0] 72)) b A c L s ⟨0, [], (0, 0), (0, 0), (0, 0), (0, 0), (0, 0), false, []⟩ none 0) := Lib.hid
  ⟨p_below h.obj HB0, p_below (GeW.heap_alloc_new w _) ((Below.refl _ _).alloc (Nat.le_refl _) _), (by have := GeW.heap_alloc_new (w.alloc (.cells #[.int .i64 0, .string ⟨#[]⟩, .int .i64 0, .int .i64 0, .int .i64 0, .int .i64 0, .int .i64 0, .int .i64 0, .int .i64 0, .int .i64 0, .int .i64 0, .int .i64 0, .bool false, .slice none 0 0] 72)) (.cells #[.int .i64 0, .string ⟨#[]⟩, .int .i64 0, .int .i64 0, .int .i64 0, .int .i64 0, .int .i64 0, .int .i64 0, .int .i64 0, .int .i64 0, .int .i64 0, .int .i64 0, .bool false, .slice none 0 0] 72); rw [World.size_alloc] at this; exact this), World.ownsRow_nil _ _ _ _, grown_below (grown_refl w (some b)) HB0⟩
 obtain ⟨i0, ia, ib, ic, id⟩ := info_parts info_vec
 have HC := Lib.hid (fun W hW => rcode_any L A c b s 8 W hW (by omega))
 have HSH := Lib.hid (rnx_short (L := L) (s := cd L 8 s) h.short)
 have HLY : Hid (rdLay L s = if Lex.isName (rnx L (cd L 8 s)).1 = true then rnx L (cd L 8 s) else ([], ck false (rnx L (cd L 8 s)).2)) := Lib.hid (nx_rnx L Lex.isName (cd L 8 s) (by decide)).symm
 have HI := Lib.hid (rnx_i (L := L) (s := cd L 8 s))
 clear HB0 h
 generalize cd L 8 s = s1 at *
 have HN := Lib.hid (fun W hW => rnext_any L A c b s1 W hW)
 generalize rnx L s1 = ly at *
 obtain ⟨lw, s2⟩ := ly
 simp only at HSH HLY HI HN
 have HLW : Hid (lw.length ≤ 1000000) := HSH
 have HNM : Hid (∀ W, Calls Tryz.prog 66 #[.string ⟨lw.toArray⟩] W fun r w' => r = .returned (.bool (Lex.isName lw)) ∧ W = w') := Lib.hid (fun W => (LexW.risName_any ⟨lw.toArray⟩ W (by rw [str_size]; exact HSH.out)).mono fun _ _ h => ⟨h.1, h.2⟩)
 have z1 := cell_of HE0.out.obj 1 _ rfl
 have q1 := free_of HE0.out.obj 1
 go_enter Tryz.func31, Tryz.ntmps31
 go_wp2_with fail
 clear z1 q1
 generalize (w.alloc (.cells #[.int .i64 0, .string ⟨#[]⟩, .int .i64 0, .int .i64 0, .int .i64 0, .int .i64 0, .int .i64 0, .int .i64 0, .int .i64 0, .int .i64 0, .int .i64 0, .int .i64 0, .bool false, .slice none 0 0] 72)).alloc (.cells #[.int .i64 0, .string ⟨#[]⟩, .int .i64 0, .int .i64 0, .int .i64 0, .int .i64 0, .int .i64 0, .int .i64 0, .int .i64 0, .int .i64 0, .int .i64 0, .int .i64 0, .bool false, .slice none 0 0] 72) = W0 at *
 refine (HC.out _ (HE0.out.rc HRC.out)).mono ?_
 rintro e w1 ⟨rfl, h1, g1⟩
 have HE1 := Lib.hid (HE0.out.step hlb h1.obj g1)
 clear h1 g1
 go_wp2_with fail
 refine (HN.out _ (HE1.out.rc HRC.out)).mono ?_
 rintro e w2 ⟨rfl, h2, g2⟩
 have HE2 := Lib.hid (HE1.out.step hlb h2.obj g2)
 clear h2 g2
 have z1 := cell_of HE2.out.obj 1 _ rfl
 have q1 := free_of HE2.out.obj 1
 have HE3 := Lib.hid (ESt.put (x' := ⟨0, lw, (0, 0), (0, 0), (0, 0), (0, 0), (0, 0), false, []⟩) HE2.out hlb 1 (.string ⟨lw.toArray⟩) (block_set HE2.out.obj 1 (.string ⟨lw.toArray⟩)) rfl)
 obtain ⟨s4, HS4⟩ : ∃ s4, Hid ((rdLay L s).2 = s4) := ⟨_, Lib.hid rfl⟩
 have HLL : Hid (s4.bad = false → Lex.isName lw = true ∧ (rdLay L s).1 = lw) := Lib.hid (fun hb => by
  rw [← HS4.out, HLY.out] at hb
  rw [HLY.out]
  by_cases hn : Lex.isName lw = true
  ·rw [if_pos hn]; exact ⟨hn, rfl⟩
  ·rw [if_neg hn] at hb
   obtain ⟨i2, b2⟩ := s2
   unfold ck at hb
   cases b2 <;> simp at hb)
 go_upto_region 4 with fail
 generalize w2.setCell ⟨w.heap.size + 1, 1, none⟩ (.string ⟨lw.toArray⟩) = W3 at *
 have z1 := cell_of HE3.out.obj 1 _ rfl
 cases hn : Lex.isName lw
 ·have HS5 : Hid (ck false s2 = s4) := Lib.hid (by rw [← HS4.out, HLY.out, hn]; simp)
  have HW := Lib.hid (fun W hW => rwrong_any L A c b s2 W hW HI.out)
  rw [HS5.out] at HW
  rw [hn] at HNM
  clear hn
  go_wp2_with fail
  refine (HNM.out _).mono ?_
  rintro r w4 ⟨rfl, rfl⟩
  clear z1
  go_wp2_with fail
  refine (HW.out _ (HE3.out.rc HRC.out)).mono ?_
  rintro e w4 ⟨rfl, h4, g4⟩
  have HE4 := Lib.hid (HE3.out.step hlb h4.obj g4)
  clear h4 g4
  have HQK : Hid ((ByteArray.mk kArc.toArray).toList = [65, 82, 67]) := Lib.hid (by rw [Go.ByteArray.toList_eq]; rfl)
  generalize (ByteArray.mk kArc.toArray) = XB at *
  have ekLine : (XB.toList = [76, 73, 78, 69]) = False := eq_false (by rw [HQK.out]; decide)
  have bkLine : (XB.toList == [76, 73, 78, 69]) = false := by rw [HQK.out]; rfl
  have ekArc : (XB.toList = [65, 82, 67]) = True := eq_true HQK.out
  have bkArc : (XB.toList == [65, 82, 67]) = true := by rw [HQK.out]; rfl
  have ekPoly : (XB.toList = [80, 79, 76, 89]) = False := eq_false (by rw [HQK.out]; decide)
  have bkPoly : (XB.toList == [80, 79, 76, 89]) = false := by rw [HQK.out]; rfl
  rcases hr1 : pt L 10 s4 with ⟨⟨fx, fy⟩, s5⟩
  have HP1 : Hid (∀ W, Rc W b A c L s4 → Calls Tryz.prog 67 #[.pointer (some ⟨b, 0, none⟩), .int .i64 10] W (RDid W b A c L (.agg #[.int .i64 fx, .int .i64 fy]) s5)) := Lib.hid (fun W hW => by
   have := rpoint_any L A c b s4 10 W hW (by omega)
   rw [hr1] at this
   exact this)
  rcases hr2 : pt L 11 s5 with ⟨⟨tx, ty⟩, s6⟩
  have HP2 : Hid (∀ W, Rc W b A c L s5 → Calls Tryz.prog 67 #[.pointer (some ⟨b, 0, none⟩), .int .i64 11] W (RDid W b A c L (.agg #[.int .i64 tx, .int .i64 ty]) s6)) := Lib.hid (fun W hW => by
   have := rpoint_any L A c b s5 11 W hW (by omega)
   rw [hr2] at this
   exact this)
  rcases hr3 : pt L 12 s6 with ⟨⟨cx, cy⟩, s7⟩
  have HP3 : Hid (∀ W, Rc W b A c L s6 → Calls Tryz.prog 67 #[.pointer (some ⟨b, 0, none⟩), .int .i64 12] W (RDid W b A c L (.agg #[.int .i64 cx, .int .i64 cy]) s7)) := Lib.hid (fun W hW => by
   have := rpoint_any L A c b s6 12 W hW (by omega)
   rw [hr3] at this
   exact this)
  rcases hr4 : nb L 70 0 1 s7 with ⟨kv, s8⟩
  have HPN : Hid (∀ W, Rc W b A c L s7 → Calls Tryz.prog 68 #[.pointer (some ⟨b, 0, none⟩), .int .i64 70, .int .i64 0, .int .i64 1] W (RDid W b A c L (.int .i64 kv) s8)) := Lib.hid (fun W hW => by
   have := rnumber_any L A c b s7 70 0 1 W hW (by omega) (by omega) (by omega)
   rw [hr4] at this
   exact this)
  have hkb : (kv == 1) = decide (kv = 1) := by rw [Bool.eq_iff_iff]; simp
  obtain ⟨kb, HKB⟩ : ∃ kb, Hid (decide (kv = 1) = kb) := ⟨_, Lib.hid rfl⟩
  rw [HKB.out] at hkb
  obtain ⟨g, HG⟩ : ∃ g, Hid (arcOk (fx, fy) (tx, ty) (cx, cy) = g) := ⟨_, Lib.hid rfl⟩
  have HRA : Hid (rdArc L (rdLay L s).1 (rdLay L s).2 = (mkArc (rdLay L s).1 (fx, fy) (tx, ty) (cx, cy) kv, ck g s8)) := Lib.hid (by
   unfold rdArc arc4 arc3 arc2 arc1
   rw [HS4.out, hr1]
   simp only
   rw [hr2]
   simp only
   rw [hr3]
   simp only
   rw [hr4]
   simp only
   rw [HG.out])
  have HRS1 : Hid (RS = ck g s8) := Lib.hid (by
   rw [← HRS.out]
   show (rdKind L kArc (rdLay L s).1 (rdLay L s).2).2 = _
   unfold rdKind
   rw [if_neg (by decide), if_pos rfl, HRA.out])
  have HB4 : Hid (s8.bad = false → s4.bad = false) := Lib.hid (fun hb => by
   have h4 := not_bad (stay_nb 70 0 1) (L := L) (s := s7) (by rw [opNb_eq, hr4]; exact hb)
   have h3 := @pt_stay L 12 s6
   rw [hr3] at h3
   have h2 := @pt_stay L 11 s5
   rw [hr2] at h2
   have h1 := @pt_stay L 10 s4
   rw [hr1] at h1
   exact h1 (h2 (h3 h4)))
  have HRX : Hid (s8.bad = false → RE = ⟨2, lw, (0, 0), (0, 0), (fx, fy), (tx, ty), (cx, cy), kb, []⟩) := Lib.hid (fun hb => by
   rw [← HRE.out]
   show (rdKind L kArc (rdLay L s).1 (rdLay L s).2).1 = _
   unfold rdKind
   rw [if_neg (by decide), if_pos rfl, HRA.out, (HLL.out (HB4.out hb)).2]
   unfold mkArc
   simp only
   rw [HKB.out]
   rfl)
  have HOK : Hid (s8.bad = false → entOk ⟨2, lw, (0, 0), (0, 0), (fx, fy), (tx, ty), (cx, cy), kb, []⟩ = g) := Lib.hid (fun hb => by
   have h9 := @arc_ok L lw s4 kb (HLL.out (HB4.out hb)).1
   unfold arc3 arc2 arc1 at h9
   rw [hr1] at h9
   simp only at h9
   rw [hr2] at h9
   simp only at h9
   rw [hr3] at h9
   simp only at h9
   rw [← HG.out]
   exact h9)
  have HIX : Hid (s8.bad = false → 1 ≤ s8.i ∧ s8.i ≤ L.length) := Lib.hid (by
   have := @nb_i L 70 0 1 s7
   rw [hr4] at this
   exact this)
  clear hr1 hr2 hr3 hr4 HG HRA HKB
  have z0 := cell_of HE4.out.obj 0 _ rfl
  have q0 := free_of HE4.out.obj 0
  have HE100 := Lib.hid (ESt.put (x' := ⟨2, lw, (0, 0), (0, 0), (0, 0), (0, 0), (0, 0), false, []⟩) HE4.out hlb 0 (.int .i64 2) (block_set HE4.out.obj 0 (.int .i64 2)) rfl)
  go_wp2_with fail
  clear z0 q0
  generalize (w4.setCell ⟨w.heap.size + 1, 0, none⟩ (.int .i64 2)) = W100 at *
  refine (HP1.out _ (HE100.out.rc HRC.out)).mono ?_
  rintro e w101 ⟨rfl, h101, g101⟩
  have HE101 := Lib.hid (HE100.out.step hlb h101.obj g101)
  clear h101 g101
  have z6 := cell_of HE101.out.obj 6 _ rfl
  have q6 := free_of HE101.out.obj 6
  have z7 := cell_of HE101.out.obj 7 _ rfl
  have q7 := free_of HE101.out.obj 7
  have hp0 := Lib.hid (ESt.put (x' := ⟨2, lw, (0, 0), (0, 0), (fx, 0), (0, 0), (0, 0), false, []⟩) HE101.out hlb 6 (.int .i64 fx) (block_set HE101.out.obj 6 (.int .i64 fx)) rfl)
  have HE102 := Lib.hid (ESt.put (x' := ⟨2, lw, (0, 0), (0, 0), (fx, fy), (0, 0), (0, 0), false, []⟩) hp0.out hlb 7 (.int .i64 fy) (block_set hp0.out.obj 7 (.int .i64 fy)) rfl)
  clear hp0
  go_wp2_with fail
  clear z6 z7 q6 q7
  generalize ((w101.setCell ⟨w.heap.size + 1, 6, none⟩ (.int .i64 fx)).setCell ⟨w.heap.size + 1, 7, none⟩ (.int .i64 fy)) = W102 at *
  refine (HP2.out _ (HE102.out.rc HRC.out)).mono ?_
  rintro e w103 ⟨rfl, h103, g103⟩
  have HE103 := Lib.hid (HE102.out.step hlb h103.obj g103)
  clear h103 g103
  have z8 := cell_of HE103.out.obj 8 _ rfl
  have q8 := free_of HE103.out.obj 8
  have z9 := cell_of HE103.out.obj 9 _ rfl
  have q9 := free_of HE103.out.obj 9
  have hp0 := Lib.hid (ESt.put (x' := ⟨2, lw, (0, 0), (0, 0), (fx, fy), (tx, 0), (0, 0), false, []⟩) HE103.out hlb 8 (.int .i64 tx) (block_set HE103.out.obj 8 (.int .i64 tx)) rfl)
  have HE104 := Lib.hid (ESt.put (x' := ⟨2, lw, (0, 0), (0, 0), (fx, fy), (tx, ty), (0, 0), false, []⟩) hp0.out hlb 9 (.int .i64 ty) (block_set hp0.out.obj 9 (.int .i64 ty)) rfl)
  clear hp0
  go_wp2_with fail
  clear z8 z9 q8 q9
  generalize ((w103.setCell ⟨w.heap.size + 1, 8, none⟩ (.int .i64 tx)).setCell ⟨w.heap.size + 1, 9, none⟩ (.int .i64 ty)) = W104 at *
  refine (HP3.out _ (HE104.out.rc HRC.out)).mono ?_
  rintro e w105 ⟨rfl, h105, g105⟩
  have HE105 := Lib.hid (HE104.out.step hlb h105.obj g105)
  clear h105 g105
  have z10 := cell_of HE105.out.obj 10 _ rfl
  have q10 := free_of HE105.out.obj 10
  have z11 := cell_of HE105.out.obj 11 _ rfl
  have q11 := free_of HE105.out.obj 11
  have hp0 := Lib.hid (ESt.put (x' := ⟨2, lw, (0, 0), (0, 0), (fx, fy), (tx, ty), (cx, 0), false, []⟩) HE105.out hlb 10 (.int .i64 cx) (block_set HE105.out.obj 10 (.int .i64 cx)) rfl)
  have HE106 := Lib.hid (ESt.put (x' := ⟨2, lw, (0, 0), (0, 0), (fx, fy), (tx, ty), (cx, cy), false, []⟩) hp0.out hlb 11 (.int .i64 cy) (block_set hp0.out.obj 11 (.int .i64 cy)) rfl)
  clear hp0
  go_wp2_with fail
  clear z10 z11 q10 q11
  generalize ((w105.setCell ⟨w.heap.size + 1, 10, none⟩ (.int .i64 cx)).setCell ⟨w.heap.size + 1, 11, none⟩ (.int .i64 cy)) = W106 at *
  refine (HPN.out _ (HE106.out.rc HRC.out)).mono ?_
  rintro e w107 ⟨rfl, h107, g107⟩
  have HE107 := Lib.hid (HE106.out.step hlb h107.obj g107)
  clear h107 g107
  have z12 := cell_of HE107.out.obj 12 _ rfl
  have q12 := free_of HE107.out.obj 12
  have HE108 := Lib.hid (ESt.put (x' := ⟨2, lw, (0, 0), (0, 0), (fx, fy), (tx, ty), (cx, cy), kb, []⟩) HE107.out hlb 12 (.bool kb) (block_set HE107.out.obj 12 (.bool kb)) rfl)
  go_upto_region 23 with fail
  clear z12 q12 hkb
  generalize (w107.setCell ⟨w.heap.size + 1, 12, none⟩ (.bool kb)) = W108 at *
  have HPV : Hid (PtV W108 ⟨⟨2, lw, (0, 0), (0, 0), (fx, fy), (tx, ty), (cx, cy), kb, []⟩, none, 0⟩) := Lib.hid (by obtain ⟨_, _, e9, hd9⟩ := own_shape HE108.out.own; cases e9; exact ⟨PtAt.of_own HE108.out.own, (by simp), hd9, HLW.out⟩)
  obtain ⟨si, sb⟩ := s8
  obtain ⟨c0, c1, c2, _⟩ := rcell HE108.out.scn
  simp only at c1 c2
  cases sb
  ·have hok := HOK.out rfl
   have HR9 : Hid (RS.bad = false → ⟨2, lw, (0, 0), (0, 0), (fx, fy), (tx, ty), (cx, cy), kb, []⟩ = RE) := Lib.hid (fun _ => (HRX.out rfl).symm)
   have HVC : Hid (∀ W, PtV W ⟨⟨2, lw, (0, 0), (0, 0), (fx, fy), (tx, ty), (cx, cy), kb, []⟩, none, 0⟩ → Calls Tryz.prog 42 #[.agg #[.int .i64 2, .string ⟨lw.toArray⟩, .int .i64 0, .int .i64 0, .int .i64 0, .int .i64 0, .int .i64 fx, .int .i64 fy, .int .i64 tx, .int .i64 ty, .int .i64 cx, .int .i64 cy, .bool kb, .slice none 0 0]] W fun r w' => r = .returned (.bool g) ∧ Below W.heap.size W w') := Lib.hid (fun W hW => by
    have := rentOk_any ⟨⟨2, lw, (0, 0), (0, 0), (fx, fy), (tx, ty), (cx, cy), kb, []⟩, none, 0⟩ W hW.in_
    rw [hok] at this
    exact this)
   have y0 := cell_of HE108.out.obj 0 (.int .i64 2) rfl
   have y1 := cell_of HE108.out.obj 1 (.string ⟨lw.toArray⟩) rfl
   have y2 := cell_of HE108.out.obj 2 (.int .i64 0) rfl
   have y3 := cell_of HE108.out.obj 3 (.int .i64 0) rfl
   have y4 := cell_of HE108.out.obj 4 (.int .i64 0) rfl
   have y5 := cell_of HE108.out.obj 5 (.int .i64 0) rfl
   have y6 := cell_of HE108.out.obj 6 (.int .i64 fx) rfl
   have y7 := cell_of HE108.out.obj 7 (.int .i64 fy) rfl
   have y8 := cell_of HE108.out.obj 8 (.int .i64 tx) rfl
   have y9 := cell_of HE108.out.obj 9 (.int .i64 ty) rfl
   have y10 := cell_of HE108.out.obj 10 (.int .i64 cx) rfl
   have y11 := cell_of HE108.out.obj 11 (.int .i64 cy) rfl
   have y12 := cell_of HE108.out.obj 12 (.bool kb) rfl
   have y13 := cell_of HE108.out.obj 13 (.slice none 0 0) rfl
   cases g
   ·have HS9 : Hid (RS = ck false ⟨si, false⟩) := Lib.hid HRS1.out
    have HWR := Lib.hid (fun W hW => rwrong_any L A c b ⟨si, false⟩ W hW HIX.out)
    go_wp2_with fail
    refine (HVC.out _ HPV.out).mono ?_
    rintro r wv ⟨rfl, hbv⟩
    have HE201 := Lib.hid (HE108.out.below hlb hbv)
    clear c0 c1 c2 y0 y1 y2 y3 y4 y5 y6 y7 y8 y9 y10 y11 y12 y13 hbv
    go_wp2_with fail
    refine (HWR.out _ (HE201.out.rc HRC.out)).mono ?_
    rintro e w202 ⟨rfl, h202, g202⟩
    have HE202 := Lib.hid (HE201.out.step hlb h202.obj g202)
    clear h202 g202
    obtain ⟨WF, hWF, HF⟩ : ∃ WF, WF = ((((((((((((((w202.setCell ⟨w.heap.size, 0, none⟩ (.int .i64 2)).setCell ⟨w.heap.size, 1, none⟩ (.string ⟨lw.toArray⟩)).setCell ⟨w.heap.size, 2, none⟩ (.int .i64 0)).setCell ⟨w.heap.size, 3, none⟩ (.int .i64 0)).setCell ⟨w.heap.size, 4, none⟩ (.int .i64 0)).setCell ⟨w.heap.size, 5, none⟩ (.int .i64 0)).setCell ⟨w.heap.size, 6, none⟩ (.int .i64 fx)).setCell ⟨w.heap.size, 7, none⟩ (.int .i64 fy)).setCell ⟨w.heap.size, 8, none⟩ (.int .i64 tx)).setCell ⟨w.heap.size, 9, none⟩ (.int .i64 ty)).setCell ⟨w.heap.size, 10, none⟩ (.int .i64 cx)).setCell ⟨w.heap.size, 11, none⟩ (.int .i64 cy)).setCell ⟨w.heap.size, 12, none⟩ (.bool kb)).setCell ⟨w.heap.size, 13, none⟩ (.slice none 0 0)) ∧ Hid (WF.heap[w.heap.size]? = some (.cells #[.int .i64 2, .string ⟨lw.toArray⟩, .int .i64 0, .int .i64 0, .int .i64 0, .int .i64 0, .int .i64 fx, .int .i64 fy, .int .i64 tx, .int .i64 ty, .int .i64 cx, .int .i64 cy, .bool kb, .slice none 0 0] 72 (0, 0)) ∧ Rc WF b A c L (ck false ⟨si, false⟩) ∧ w.grownBy WF (some b) ∧ PtV WF ⟨⟨2, lw, (0, 0), (0, 0), (fx, fy), (tx, ty), (cx, cy), kb, []⟩, none, 0⟩) := ⟨_, rfl, Lib.hid (ent_end (x := ⟨2, lw, (0, 0), (0, 0), (fx, fy), (tx, ty), (cx, cy), kb, []⟩) HE202.out hlb HRC.out (by simp) HLW.out)⟩
    have HWF := Lib.hid hWF
    clear hWF
    have y0 := cell_of HE202.out.obj 0 (.int .i64 2) rfl
    have y1 := cell_of HE202.out.obj 1 (.string ⟨lw.toArray⟩) rfl
    have y2 := cell_of HE202.out.obj 2 (.int .i64 0) rfl
    have y3 := cell_of HE202.out.obj 3 (.int .i64 0) rfl
    have y4 := cell_of HE202.out.obj 4 (.int .i64 0) rfl
    have y5 := cell_of HE202.out.obj 5 (.int .i64 0) rfl
    have y6 := cell_of HE202.out.obj 6 (.int .i64 fx) rfl
    have y7 := cell_of HE202.out.obj 7 (.int .i64 fy) rfl
    have y8 := cell_of HE202.out.obj 8 (.int .i64 tx) rfl
    have y9 := cell_of HE202.out.obj 9 (.int .i64 ty) rfl
    have y10 := cell_of HE202.out.obj 10 (.int .i64 cx) rfl
    have y11 := cell_of HE202.out.obj 11 (.int .i64 cy) rfl
    have y12 := cell_of HE202.out.obj 12 (.bool kb) rfl
    have y13 := cell_of HE202.out.obj 13 (.slice none 0 0) rfl
    have r0 := cell_of HE202.out.res 0 _ rfl
    have f0 := free_of HE202.out.res 0
    have r1 := cell_of HE202.out.res 1 _ rfl
    have f1 := free_of HE202.out.res 1
    have r2 := cell_of HE202.out.res 2 _ rfl
    have f2 := free_of HE202.out.res 2
    have r3 := cell_of HE202.out.res 3 _ rfl
    have f3 := free_of HE202.out.res 3
    have r4 := cell_of HE202.out.res 4 _ rfl
    have f4 := free_of HE202.out.res 4
    have r5 := cell_of HE202.out.res 5 _ rfl
    have f5 := free_of HE202.out.res 5
    have r6 := cell_of HE202.out.res 6 _ rfl
    have f6 := free_of HE202.out.res 6
    have r7 := cell_of HE202.out.res 7 _ rfl
    have f7 := free_of HE202.out.res 7
    have r8 := cell_of HE202.out.res 8 _ rfl
    have f8 := free_of HE202.out.res 8
    have r9 := cell_of HE202.out.res 9 _ rfl
    have f9 := free_of HE202.out.res 9
    have r10 := cell_of HE202.out.res 10 _ rfl
    have f10 := free_of HE202.out.res 10
    have r11 := cell_of HE202.out.res 11 _ rfl
    have f11 := free_of HE202.out.res 11
    have r12 := cell_of HE202.out.res 12 _ rfl
    have f12 := free_of HE202.out.res 12
    have r13 := cell_of HE202.out.res 13 _ rfl
    have f13 := free_of HE202.out.res 13
    go_wp2
    rw [← HWF.out]
    have HF2 := HF.out
    have l0 := cell_of HF2.1 0 (.int .i64 2) rfl
    have l1 := cell_of HF2.1 1 (.string ⟨lw.toArray⟩) rfl
    have l2 := cell_of HF2.1 2 (.int .i64 0) rfl
    have l3 := cell_of HF2.1 3 (.int .i64 0) rfl
    have l4 := cell_of HF2.1 4 (.int .i64 0) rfl
    have l5 := cell_of HF2.1 5 (.int .i64 0) rfl
    have l6 := cell_of HF2.1 6 (.int .i64 fx) rfl
    have l7 := cell_of HF2.1 7 (.int .i64 fy) rfl
    have l8 := cell_of HF2.1 8 (.int .i64 tx) rfl
    have l9 := cell_of HF2.1 9 (.int .i64 ty) rfl
    have l10 := cell_of HF2.1 10 (.int .i64 cx) rfl
    have l11 := cell_of HF2.1 11 (.int .i64 cy) rfl
    have l12 := cell_of HF2.1 12 (.bool kb) rfl
    have l13 := cell_of HF2.1 13 (.slice none 0 0) rfl
    refine bodyPost_ret (v := .agg #[.int .i64 2, .string ⟨lw.toArray⟩, .int .i64 0, .int .i64 0, .int .i64 0, .int .i64 0, .int .i64 fx, .int .i64 fy, .int .i64 tx, .int .i64 ty, .int .i64 cx, .int .i64 cy, .bool kb, .slice none 0 0]) (by simp [results, Tryz.results31, go_sem, l0, l1, l2, l3, l4, l5, l6, l7, l8, l9, l10, l11, l12, l13]) rfl ?_
    exact ⟨by rw [HS9.out]; exact HF2.2.1, HF2.2.2.1, ⟨⟨2, lw, (0, 0), (0, 0), (fx, fy), (tx, ty), (cx, cy), kb, []⟩, none, 0⟩, rfl, HF2.2.2.2, HR9.out⟩
   ·have HS9 : Hid (RS = ⟨si, false⟩) := Lib.hid (HRS1.out.trans (ck_true _))
    go_wp2_with fail
    refine (HVC.out _ HPV.out).mono ?_
    rintro r wv ⟨rfl, hbv⟩
    have HE201 := Lib.hid (HE108.out.below hlb hbv)
    clear c0 c1 c2 y0 y1 y2 y3 y4 y5 y6 y7 y8 y9 y10 y11 y12 y13 hbv
    obtain ⟨WF, hWF, HF⟩ : ∃ WF, WF = ((((((((((((((wv.setCell ⟨w.heap.size, 0, none⟩ (.int .i64 2)).setCell ⟨w.heap.size, 1, none⟩ (.string ⟨lw.toArray⟩)).setCell ⟨w.heap.size, 2, none⟩ (.int .i64 0)).setCell ⟨w.heap.size, 3, none⟩ (.int .i64 0)).setCell ⟨w.heap.size, 4, none⟩ (.int .i64 0)).setCell ⟨w.heap.size, 5, none⟩ (.int .i64 0)).setCell ⟨w.heap.size, 6, none⟩ (.int .i64 fx)).setCell ⟨w.heap.size, 7, none⟩ (.int .i64 fy)).setCell ⟨w.heap.size, 8, none⟩ (.int .i64 tx)).setCell ⟨w.heap.size, 9, none⟩ (.int .i64 ty)).setCell ⟨w.heap.size, 10, none⟩ (.int .i64 cx)).setCell ⟨w.heap.size, 11, none⟩ (.int .i64 cy)).setCell ⟨w.heap.size, 12, none⟩ (.bool kb)).setCell ⟨w.heap.size, 13, none⟩ (.slice none 0 0)) ∧ Hid (WF.heap[w.heap.size]? = some (.cells #[.int .i64 2, .string ⟨lw.toArray⟩, .int .i64 0, .int .i64 0, .int .i64 0, .int .i64 0, .int .i64 fx, .int .i64 fy, .int .i64 tx, .int .i64 ty, .int .i64 cx, .int .i64 cy, .bool kb, .slice none 0 0] 72 (0, 0)) ∧ Rc WF b A c L ⟨si, false⟩ ∧ w.grownBy WF (some b) ∧ PtV WF ⟨⟨2, lw, (0, 0), (0, 0), (fx, fy), (tx, ty), (cx, cy), kb, []⟩, none, 0⟩) := ⟨_, rfl, Lib.hid (ent_end (x := ⟨2, lw, (0, 0), (0, 0), (fx, fy), (tx, ty), (cx, cy), kb, []⟩) HE201.out hlb HRC.out (by simp) HLW.out)⟩
    have HWF := Lib.hid hWF
    clear hWF
    have y0 := cell_of HE201.out.obj 0 (.int .i64 2) rfl
    have y1 := cell_of HE201.out.obj 1 (.string ⟨lw.toArray⟩) rfl
    have y2 := cell_of HE201.out.obj 2 (.int .i64 0) rfl
    have y3 := cell_of HE201.out.obj 3 (.int .i64 0) rfl
    have y4 := cell_of HE201.out.obj 4 (.int .i64 0) rfl
    have y5 := cell_of HE201.out.obj 5 (.int .i64 0) rfl
    have y6 := cell_of HE201.out.obj 6 (.int .i64 fx) rfl
    have y7 := cell_of HE201.out.obj 7 (.int .i64 fy) rfl
    have y8 := cell_of HE201.out.obj 8 (.int .i64 tx) rfl
    have y9 := cell_of HE201.out.obj 9 (.int .i64 ty) rfl
    have y10 := cell_of HE201.out.obj 10 (.int .i64 cx) rfl
    have y11 := cell_of HE201.out.obj 11 (.int .i64 cy) rfl
    have y12 := cell_of HE201.out.obj 12 (.bool kb) rfl
    have y13 := cell_of HE201.out.obj 13 (.slice none 0 0) rfl
    have r0 := cell_of HE201.out.res 0 _ rfl
    have f0 := free_of HE201.out.res 0
    have r1 := cell_of HE201.out.res 1 _ rfl
    have f1 := free_of HE201.out.res 1
    have r2 := cell_of HE201.out.res 2 _ rfl
    have f2 := free_of HE201.out.res 2
    have r3 := cell_of HE201.out.res 3 _ rfl
    have f3 := free_of HE201.out.res 3
    have r4 := cell_of HE201.out.res 4 _ rfl
    have f4 := free_of HE201.out.res 4
    have r5 := cell_of HE201.out.res 5 _ rfl
    have f5 := free_of HE201.out.res 5
    have r6 := cell_of HE201.out.res 6 _ rfl
    have f6 := free_of HE201.out.res 6
    have r7 := cell_of HE201.out.res 7 _ rfl
    have f7 := free_of HE201.out.res 7
    have r8 := cell_of HE201.out.res 8 _ rfl
    have f8 := free_of HE201.out.res 8
    have r9 := cell_of HE201.out.res 9 _ rfl
    have f9 := free_of HE201.out.res 9
    have r10 := cell_of HE201.out.res 10 _ rfl
    have f10 := free_of HE201.out.res 10
    have r11 := cell_of HE201.out.res 11 _ rfl
    have f11 := free_of HE201.out.res 11
    have r12 := cell_of HE201.out.res 12 _ rfl
    have f12 := free_of HE201.out.res 12
    have r13 := cell_of HE201.out.res 13 _ rfl
    have f13 := free_of HE201.out.res 13
    go_wp2
    rw [← HWF.out]
    have HF2 := HF.out
    have l0 := cell_of HF2.1 0 (.int .i64 2) rfl
    have l1 := cell_of HF2.1 1 (.string ⟨lw.toArray⟩) rfl
    have l2 := cell_of HF2.1 2 (.int .i64 0) rfl
    have l3 := cell_of HF2.1 3 (.int .i64 0) rfl
    have l4 := cell_of HF2.1 4 (.int .i64 0) rfl
    have l5 := cell_of HF2.1 5 (.int .i64 0) rfl
    have l6 := cell_of HF2.1 6 (.int .i64 fx) rfl
    have l7 := cell_of HF2.1 7 (.int .i64 fy) rfl
    have l8 := cell_of HF2.1 8 (.int .i64 tx) rfl
    have l9 := cell_of HF2.1 9 (.int .i64 ty) rfl
    have l10 := cell_of HF2.1 10 (.int .i64 cx) rfl
    have l11 := cell_of HF2.1 11 (.int .i64 cy) rfl
    have l12 := cell_of HF2.1 12 (.bool kb) rfl
    have l13 := cell_of HF2.1 13 (.slice none 0 0) rfl
    refine bodyPost_ret (v := .agg #[.int .i64 2, .string ⟨lw.toArray⟩, .int .i64 0, .int .i64 0, .int .i64 0, .int .i64 0, .int .i64 fx, .int .i64 fy, .int .i64 tx, .int .i64 ty, .int .i64 cx, .int .i64 cy, .bool kb, .slice none 0 0]) (by simp [results, Tryz.results31, go_sem, l0, l1, l2, l3, l4, l5, l6, l7, l8, l9, l10, l11, l12, l13]) rfl ?_
    exact ⟨by rw [HS9.out]; exact HF2.2.1, HF2.2.2.1, ⟨⟨2, lw, (0, 0), (0, 0), (fx, fy), (tx, ty), (cx, cy), kb, []⟩, none, 0⟩, rfl, HF2.2.2.2, HR9.out⟩
  ·have HS9 : Hid (RS = ⟨si, true⟩) := Lib.hid (HRS1.out.trans (ck_bad rfl))
   have HR9 : Hid (RS.bad = false → ⟨2, lw, (0, 0), (0, 0), (fx, fy), (tx, ty), (cx, cy), kb, []⟩ = RE) := Lib.hid (fun hb => by rw [HS9.out] at hb; cases hb)
   obtain ⟨WF, hWF, HF⟩ : ∃ WF, WF = ((((((((((((((W108.setCell ⟨w.heap.size, 0, none⟩ (.int .i64 2)).setCell ⟨w.heap.size, 1, none⟩ (.string ⟨lw.toArray⟩)).setCell ⟨w.heap.size, 2, none⟩ (.int .i64 0)).setCell ⟨w.heap.size, 3, none⟩ (.int .i64 0)).setCell ⟨w.heap.size, 4, none⟩ (.int .i64 0)).setCell ⟨w.heap.size, 5, none⟩ (.int .i64 0)).setCell ⟨w.heap.size, 6, none⟩ (.int .i64 fx)).setCell ⟨w.heap.size, 7, none⟩ (.int .i64 fy)).setCell ⟨w.heap.size, 8, none⟩ (.int .i64 tx)).setCell ⟨w.heap.size, 9, none⟩ (.int .i64 ty)).setCell ⟨w.heap.size, 10, none⟩ (.int .i64 cx)).setCell ⟨w.heap.size, 11, none⟩ (.int .i64 cy)).setCell ⟨w.heap.size, 12, none⟩ (.bool kb)).setCell ⟨w.heap.size, 13, none⟩ (.slice none 0 0)) ∧ Hid (WF.heap[w.heap.size]? = some (.cells #[.int .i64 2, .string ⟨lw.toArray⟩, .int .i64 0, .int .i64 0, .int .i64 0, .int .i64 0, .int .i64 fx, .int .i64 fy, .int .i64 tx, .int .i64 ty, .int .i64 cx, .int .i64 cy, .bool kb, .slice none 0 0] 72 (0, 0)) ∧ Rc WF b A c L ⟨si, true⟩ ∧ w.grownBy WF (some b) ∧ PtV WF ⟨⟨2, lw, (0, 0), (0, 0), (fx, fy), (tx, ty), (cx, cy), kb, []⟩, none, 0⟩) := ⟨_, rfl, Lib.hid (ent_end (x := ⟨2, lw, (0, 0), (0, 0), (fx, fy), (tx, ty), (cx, cy), kb, []⟩) HE108.out hlb HRC.out (by simp) HLW.out)⟩
   have HWF := Lib.hid hWF
   clear hWF
   have y0 := cell_of HE108.out.obj 0 (.int .i64 2) rfl
   have y1 := cell_of HE108.out.obj 1 (.string ⟨lw.toArray⟩) rfl
   have y2 := cell_of HE108.out.obj 2 (.int .i64 0) rfl
   have y3 := cell_of HE108.out.obj 3 (.int .i64 0) rfl
   have y4 := cell_of HE108.out.obj 4 (.int .i64 0) rfl
   have y5 := cell_of HE108.out.obj 5 (.int .i64 0) rfl
   have y6 := cell_of HE108.out.obj 6 (.int .i64 fx) rfl
   have y7 := cell_of HE108.out.obj 7 (.int .i64 fy) rfl
   have y8 := cell_of HE108.out.obj 8 (.int .i64 tx) rfl
   have y9 := cell_of HE108.out.obj 9 (.int .i64 ty) rfl
   have y10 := cell_of HE108.out.obj 10 (.int .i64 cx) rfl
   have y11 := cell_of HE108.out.obj 11 (.int .i64 cy) rfl
   have y12 := cell_of HE108.out.obj 12 (.bool kb) rfl
   have y13 := cell_of HE108.out.obj 13 (.slice none 0 0) rfl
   have r0 := cell_of HE108.out.res 0 _ rfl
   have f0 := free_of HE108.out.res 0
   have r1 := cell_of HE108.out.res 1 _ rfl
   have f1 := free_of HE108.out.res 1
   have r2 := cell_of HE108.out.res 2 _ rfl
   have f2 := free_of HE108.out.res 2
   have r3 := cell_of HE108.out.res 3 _ rfl
   have f3 := free_of HE108.out.res 3
   have r4 := cell_of HE108.out.res 4 _ rfl
   have f4 := free_of HE108.out.res 4
   have r5 := cell_of HE108.out.res 5 _ rfl
   have f5 := free_of HE108.out.res 5
   have r6 := cell_of HE108.out.res 6 _ rfl
   have f6 := free_of HE108.out.res 6
   have r7 := cell_of HE108.out.res 7 _ rfl
   have f7 := free_of HE108.out.res 7
   have r8 := cell_of HE108.out.res 8 _ rfl
   have f8 := free_of HE108.out.res 8
   have r9 := cell_of HE108.out.res 9 _ rfl
   have f9 := free_of HE108.out.res 9
   have r10 := cell_of HE108.out.res 10 _ rfl
   have f10 := free_of HE108.out.res 10
   have r11 := cell_of HE108.out.res 11 _ rfl
   have f11 := free_of HE108.out.res 11
   have r12 := cell_of HE108.out.res 12 _ rfl
   have f12 := free_of HE108.out.res 12
   have r13 := cell_of HE108.out.res 13 _ rfl
   have f13 := free_of HE108.out.res 13
   go_wp2
   rw [← HWF.out]
   have HF2 := HF.out
   have l0 := cell_of HF2.1 0 (.int .i64 2) rfl
   have l1 := cell_of HF2.1 1 (.string ⟨lw.toArray⟩) rfl
   have l2 := cell_of HF2.1 2 (.int .i64 0) rfl
   have l3 := cell_of HF2.1 3 (.int .i64 0) rfl
   have l4 := cell_of HF2.1 4 (.int .i64 0) rfl
   have l5 := cell_of HF2.1 5 (.int .i64 0) rfl
   have l6 := cell_of HF2.1 6 (.int .i64 fx) rfl
   have l7 := cell_of HF2.1 7 (.int .i64 fy) rfl
   have l8 := cell_of HF2.1 8 (.int .i64 tx) rfl
   have l9 := cell_of HF2.1 9 (.int .i64 ty) rfl
   have l10 := cell_of HF2.1 10 (.int .i64 cx) rfl
   have l11 := cell_of HF2.1 11 (.int .i64 cy) rfl
   have l12 := cell_of HF2.1 12 (.bool kb) rfl
   have l13 := cell_of HF2.1 13 (.slice none 0 0) rfl
   refine bodyPost_ret (v := .agg #[.int .i64 2, .string ⟨lw.toArray⟩, .int .i64 0, .int .i64 0, .int .i64 0, .int .i64 0, .int .i64 fx, .int .i64 fy, .int .i64 tx, .int .i64 ty, .int .i64 cx, .int .i64 cy, .bool kb, .slice none 0 0]) (by simp [results, Tryz.results31, go_sem, l0, l1, l2, l3, l4, l5, l6, l7, l8, l9, l10, l11, l12, l13]) rfl ?_
   exact ⟨by rw [HS9.out]; exact HF2.2.1, HF2.2.2.1, ⟨⟨2, lw, (0, 0), (0, 0), (fx, fy), (tx, ty), (cx, cy), kb, []⟩, none, 0⟩, rfl, HF2.2.2.2, HR9.out⟩
 ·have HS5 : Hid (s2 = s4) := Lib.hid (by rw [← HS4.out, HLY.out, hn]; simp)
  rw [hn] at HNM
  rw [HS5.out] at HE3
  clear hn
  go_wp2_with fail
  refine (HNM.out _).mono ?_
  rintro r w4 ⟨rfl, rfl⟩
  clear z1
  have HQK : Hid ((ByteArray.mk kArc.toArray).toList = [65, 82, 67]) := Lib.hid (by rw [Go.ByteArray.toList_eq]; rfl)
  generalize (ByteArray.mk kArc.toArray) = XB at *
  have ekLine : (XB.toList = [76, 73, 78, 69]) = False := eq_false (by rw [HQK.out]; decide)
  have bkLine : (XB.toList == [76, 73, 78, 69]) = false := by rw [HQK.out]; rfl
  have ekArc : (XB.toList = [65, 82, 67]) = True := eq_true HQK.out
  have bkArc : (XB.toList == [65, 82, 67]) = true := by rw [HQK.out]; rfl
  have ekPoly : (XB.toList = [80, 79, 76, 89]) = False := eq_false (by rw [HQK.out]; decide)
  have bkPoly : (XB.toList == [80, 79, 76, 89]) = false := by rw [HQK.out]; rfl
  rcases hr1 : pt L 10 s4 with ⟨⟨fx, fy⟩, s5⟩
  have HP1 : Hid (∀ W, Rc W b A c L s4 → Calls Tryz.prog 67 #[.pointer (some ⟨b, 0, none⟩), .int .i64 10] W (RDid W b A c L (.agg #[.int .i64 fx, .int .i64 fy]) s5)) := Lib.hid (fun W hW => by
   have := rpoint_any L A c b s4 10 W hW (by omega)
   rw [hr1] at this
   exact this)
  rcases hr2 : pt L 11 s5 with ⟨⟨tx, ty⟩, s6⟩
  have HP2 : Hid (∀ W, Rc W b A c L s5 → Calls Tryz.prog 67 #[.pointer (some ⟨b, 0, none⟩), .int .i64 11] W (RDid W b A c L (.agg #[.int .i64 tx, .int .i64 ty]) s6)) := Lib.hid (fun W hW => by
   have := rpoint_any L A c b s5 11 W hW (by omega)
   rw [hr2] at this
   exact this)
  rcases hr3 : pt L 12 s6 with ⟨⟨cx, cy⟩, s7⟩
  have HP3 : Hid (∀ W, Rc W b A c L s6 → Calls Tryz.prog 67 #[.pointer (some ⟨b, 0, none⟩), .int .i64 12] W (RDid W b A c L (.agg #[.int .i64 cx, .int .i64 cy]) s7)) := Lib.hid (fun W hW => by
   have := rpoint_any L A c b s6 12 W hW (by omega)
   rw [hr3] at this
   exact this)
  rcases hr4 : nb L 70 0 1 s7 with ⟨kv, s8⟩
  have HPN : Hid (∀ W, Rc W b A c L s7 → Calls Tryz.prog 68 #[.pointer (some ⟨b, 0, none⟩), .int .i64 70, .int .i64 0, .int .i64 1] W (RDid W b A c L (.int .i64 kv) s8)) := Lib.hid (fun W hW => by
   have := rnumber_any L A c b s7 70 0 1 W hW (by omega) (by omega) (by omega)
   rw [hr4] at this
   exact this)
  have hkb : (kv == 1) = decide (kv = 1) := by rw [Bool.eq_iff_iff]; simp
  obtain ⟨kb, HKB⟩ : ∃ kb, Hid (decide (kv = 1) = kb) := ⟨_, Lib.hid rfl⟩
  rw [HKB.out] at hkb
  obtain ⟨g, HG⟩ : ∃ g, Hid (arcOk (fx, fy) (tx, ty) (cx, cy) = g) := ⟨_, Lib.hid rfl⟩
  have HRA : Hid (rdArc L (rdLay L s).1 (rdLay L s).2 = (mkArc (rdLay L s).1 (fx, fy) (tx, ty) (cx, cy) kv, ck g s8)) := Lib.hid (by
   unfold rdArc arc4 arc3 arc2 arc1
   rw [HS4.out, hr1]
   simp only
   rw [hr2]
   simp only
   rw [hr3]
   simp only
   rw [hr4]
   simp only
   rw [HG.out])
  have HRS1 : Hid (RS = ck g s8) := Lib.hid (by
   rw [← HRS.out]
   show (rdKind L kArc (rdLay L s).1 (rdLay L s).2).2 = _
   unfold rdKind
   rw [if_neg (by decide), if_pos rfl, HRA.out])
  have HB4 : Hid (s8.bad = false → s4.bad = false) := Lib.hid (fun hb => by
   have h4 := not_bad (stay_nb 70 0 1) (L := L) (s := s7) (by rw [opNb_eq, hr4]; exact hb)
   have h3 := @pt_stay L 12 s6
   rw [hr3] at h3
   have h2 := @pt_stay L 11 s5
   rw [hr2] at h2
   have h1 := @pt_stay L 10 s4
   rw [hr1] at h1
   exact h1 (h2 (h3 h4)))
  have HRX : Hid (s8.bad = false → RE = ⟨2, lw, (0, 0), (0, 0), (fx, fy), (tx, ty), (cx, cy), kb, []⟩) := Lib.hid (fun hb => by
   rw [← HRE.out]
   show (rdKind L kArc (rdLay L s).1 (rdLay L s).2).1 = _
   unfold rdKind
   rw [if_neg (by decide), if_pos rfl, HRA.out, (HLL.out (HB4.out hb)).2]
   unfold mkArc
   simp only
   rw [HKB.out]
   rfl)
  have HOK : Hid (s8.bad = false → entOk ⟨2, lw, (0, 0), (0, 0), (fx, fy), (tx, ty), (cx, cy), kb, []⟩ = g) := Lib.hid (fun hb => by
   have h9 := @arc_ok L lw s4 kb (HLL.out (HB4.out hb)).1
   unfold arc3 arc2 arc1 at h9
   rw [hr1] at h9
   simp only at h9
   rw [hr2] at h9
   simp only at h9
   rw [hr3] at h9
   simp only at h9
   rw [← HG.out]
   exact h9)
  have HIX : Hid (s8.bad = false → 1 ≤ s8.i ∧ s8.i ≤ L.length) := Lib.hid (by
   have := @nb_i L 70 0 1 s7
   rw [hr4] at this
   exact this)
  clear hr1 hr2 hr3 hr4 HG HRA HKB
  have z0 := cell_of HE3.out.obj 0 _ rfl
  have q0 := free_of HE3.out.obj 0
  have HE100 := Lib.hid (ESt.put (x' := ⟨2, lw, (0, 0), (0, 0), (0, 0), (0, 0), (0, 0), false, []⟩) HE3.out hlb 0 (.int .i64 2) (block_set HE3.out.obj 0 (.int .i64 2)) rfl)
  go_wp2_with fail
  clear z0 q0
  generalize (W3.setCell ⟨w.heap.size + 1, 0, none⟩ (.int .i64 2)) = W100 at *
  refine (HP1.out _ (HE100.out.rc HRC.out)).mono ?_
  rintro e w101 ⟨rfl, h101, g101⟩
  have HE101 := Lib.hid (HE100.out.step hlb h101.obj g101)
  clear h101 g101
  have z6 := cell_of HE101.out.obj 6 _ rfl
  have q6 := free_of HE101.out.obj 6
  have z7 := cell_of HE101.out.obj 7 _ rfl
  have q7 := free_of HE101.out.obj 7
  have hp0 := Lib.hid (ESt.put (x' := ⟨2, lw, (0, 0), (0, 0), (fx, 0), (0, 0), (0, 0), false, []⟩) HE101.out hlb 6 (.int .i64 fx) (block_set HE101.out.obj 6 (.int .i64 fx)) rfl)
  have HE102 := Lib.hid (ESt.put (x' := ⟨2, lw, (0, 0), (0, 0), (fx, fy), (0, 0), (0, 0), false, []⟩) hp0.out hlb 7 (.int .i64 fy) (block_set hp0.out.obj 7 (.int .i64 fy)) rfl)
  clear hp0
  go_wp2_with fail
  clear z6 z7 q6 q7
  generalize ((w101.setCell ⟨w.heap.size + 1, 6, none⟩ (.int .i64 fx)).setCell ⟨w.heap.size + 1, 7, none⟩ (.int .i64 fy)) = W102 at *
  refine (HP2.out _ (HE102.out.rc HRC.out)).mono ?_
  rintro e w103 ⟨rfl, h103, g103⟩
  have HE103 := Lib.hid (HE102.out.step hlb h103.obj g103)
  clear h103 g103
  have z8 := cell_of HE103.out.obj 8 _ rfl
  have q8 := free_of HE103.out.obj 8
  have z9 := cell_of HE103.out.obj 9 _ rfl
  have q9 := free_of HE103.out.obj 9
  have hp0 := Lib.hid (ESt.put (x' := ⟨2, lw, (0, 0), (0, 0), (fx, fy), (tx, 0), (0, 0), false, []⟩) HE103.out hlb 8 (.int .i64 tx) (block_set HE103.out.obj 8 (.int .i64 tx)) rfl)
  have HE104 := Lib.hid (ESt.put (x' := ⟨2, lw, (0, 0), (0, 0), (fx, fy), (tx, ty), (0, 0), false, []⟩) hp0.out hlb 9 (.int .i64 ty) (block_set hp0.out.obj 9 (.int .i64 ty)) rfl)
  clear hp0
  go_wp2_with fail
  clear z8 z9 q8 q9
  generalize ((w103.setCell ⟨w.heap.size + 1, 8, none⟩ (.int .i64 tx)).setCell ⟨w.heap.size + 1, 9, none⟩ (.int .i64 ty)) = W104 at *
  refine (HP3.out _ (HE104.out.rc HRC.out)).mono ?_
  rintro e w105 ⟨rfl, h105, g105⟩
  have HE105 := Lib.hid (HE104.out.step hlb h105.obj g105)
  clear h105 g105
  have z10 := cell_of HE105.out.obj 10 _ rfl
  have q10 := free_of HE105.out.obj 10
  have z11 := cell_of HE105.out.obj 11 _ rfl
  have q11 := free_of HE105.out.obj 11
  have hp0 := Lib.hid (ESt.put (x' := ⟨2, lw, (0, 0), (0, 0), (fx, fy), (tx, ty), (cx, 0), false, []⟩) HE105.out hlb 10 (.int .i64 cx) (block_set HE105.out.obj 10 (.int .i64 cx)) rfl)
  have HE106 := Lib.hid (ESt.put (x' := ⟨2, lw, (0, 0), (0, 0), (fx, fy), (tx, ty), (cx, cy), false, []⟩) hp0.out hlb 11 (.int .i64 cy) (block_set hp0.out.obj 11 (.int .i64 cy)) rfl)
  clear hp0
  go_wp2_with fail
  clear z10 z11 q10 q11
  generalize ((w105.setCell ⟨w.heap.size + 1, 10, none⟩ (.int .i64 cx)).setCell ⟨w.heap.size + 1, 11, none⟩ (.int .i64 cy)) = W106 at *
  refine (HPN.out _ (HE106.out.rc HRC.out)).mono ?_
  rintro e w107 ⟨rfl, h107, g107⟩
  have HE107 := Lib.hid (HE106.out.step hlb h107.obj g107)
  clear h107 g107
  have z12 := cell_of HE107.out.obj 12 _ rfl
  have q12 := free_of HE107.out.obj 12
  have HE108 := Lib.hid (ESt.put (x' := ⟨2, lw, (0, 0), (0, 0), (fx, fy), (tx, ty), (cx, cy), kb, []⟩) HE107.out hlb 12 (.bool kb) (block_set HE107.out.obj 12 (.bool kb)) rfl)
  go_upto_region 23 with fail
  clear z12 q12 hkb
  generalize (w107.setCell ⟨w.heap.size + 1, 12, none⟩ (.bool kb)) = W108 at *
  have HPV : Hid (PtV W108 ⟨⟨2, lw, (0, 0), (0, 0), (fx, fy), (tx, ty), (cx, cy), kb, []⟩, none, 0⟩) := Lib.hid (by obtain ⟨_, _, e9, hd9⟩ := own_shape HE108.out.own; cases e9; exact ⟨PtAt.of_own HE108.out.own, (by simp), hd9, HLW.out⟩)
  obtain ⟨si, sb⟩ := s8
  obtain ⟨c0, c1, c2, _⟩ := rcell HE108.out.scn
  simp only at c1 c2
  cases sb
  ·have hok := HOK.out rfl
   have HR9 : Hid (RS.bad = false → ⟨2, lw, (0, 0), (0, 0), (fx, fy), (tx, ty), (cx, cy), kb, []⟩ = RE) := Lib.hid (fun _ => (HRX.out rfl).symm)
   have HVC : Hid (∀ W, PtV W ⟨⟨2, lw, (0, 0), (0, 0), (fx, fy), (tx, ty), (cx, cy), kb, []⟩, none, 0⟩ → Calls Tryz.prog 42 #[.agg #[.int .i64 2, .string ⟨lw.toArray⟩, .int .i64 0, .int .i64 0, .int .i64 0, .int .i64 0, .int .i64 fx, .int .i64 fy, .int .i64 tx, .int .i64 ty, .int .i64 cx, .int .i64 cy, .bool kb, .slice none 0 0]] W fun r w' => r = .returned (.bool g) ∧ Below W.heap.size W w') := Lib.hid (fun W hW => by
    have := rentOk_any ⟨⟨2, lw, (0, 0), (0, 0), (fx, fy), (tx, ty), (cx, cy), kb, []⟩, none, 0⟩ W hW.in_
    rw [hok] at this
    exact this)
   have y0 := cell_of HE108.out.obj 0 (.int .i64 2) rfl
   have y1 := cell_of HE108.out.obj 1 (.string ⟨lw.toArray⟩) rfl
   have y2 := cell_of HE108.out.obj 2 (.int .i64 0) rfl
   have y3 := cell_of HE108.out.obj 3 (.int .i64 0) rfl
   have y4 := cell_of HE108.out.obj 4 (.int .i64 0) rfl
   have y5 := cell_of HE108.out.obj 5 (.int .i64 0) rfl
   have y6 := cell_of HE108.out.obj 6 (.int .i64 fx) rfl
   have y7 := cell_of HE108.out.obj 7 (.int .i64 fy) rfl
   have y8 := cell_of HE108.out.obj 8 (.int .i64 tx) rfl
   have y9 := cell_of HE108.out.obj 9 (.int .i64 ty) rfl
   have y10 := cell_of HE108.out.obj 10 (.int .i64 cx) rfl
   have y11 := cell_of HE108.out.obj 11 (.int .i64 cy) rfl
   have y12 := cell_of HE108.out.obj 12 (.bool kb) rfl
   have y13 := cell_of HE108.out.obj 13 (.slice none 0 0) rfl
   cases g
   ·have HS9 : Hid (RS = ck false ⟨si, false⟩) := Lib.hid HRS1.out
    have HWR := Lib.hid (fun W hW => rwrong_any L A c b ⟨si, false⟩ W hW HIX.out)
    go_wp2_with fail
    refine (HVC.out _ HPV.out).mono ?_
    rintro r wv ⟨rfl, hbv⟩
    have HE201 := Lib.hid (HE108.out.below hlb hbv)
    clear c0 c1 c2 y0 y1 y2 y3 y4 y5 y6 y7 y8 y9 y10 y11 y12 y13 hbv
    go_wp2_with fail
    refine (HWR.out _ (HE201.out.rc HRC.out)).mono ?_
    rintro e w202 ⟨rfl, h202, g202⟩
    have HE202 := Lib.hid (HE201.out.step hlb h202.obj g202)
    clear h202 g202
    obtain ⟨WF, hWF, HF⟩ : ∃ WF, WF = ((((((((((((((w202.setCell ⟨w.heap.size, 0, none⟩ (.int .i64 2)).setCell ⟨w.heap.size, 1, none⟩ (.string ⟨lw.toArray⟩)).setCell ⟨w.heap.size, 2, none⟩ (.int .i64 0)).setCell ⟨w.heap.size, 3, none⟩ (.int .i64 0)).setCell ⟨w.heap.size, 4, none⟩ (.int .i64 0)).setCell ⟨w.heap.size, 5, none⟩ (.int .i64 0)).setCell ⟨w.heap.size, 6, none⟩ (.int .i64 fx)).setCell ⟨w.heap.size, 7, none⟩ (.int .i64 fy)).setCell ⟨w.heap.size, 8, none⟩ (.int .i64 tx)).setCell ⟨w.heap.size, 9, none⟩ (.int .i64 ty)).setCell ⟨w.heap.size, 10, none⟩ (.int .i64 cx)).setCell ⟨w.heap.size, 11, none⟩ (.int .i64 cy)).setCell ⟨w.heap.size, 12, none⟩ (.bool kb)).setCell ⟨w.heap.size, 13, none⟩ (.slice none 0 0)) ∧ Hid (WF.heap[w.heap.size]? = some (.cells #[.int .i64 2, .string ⟨lw.toArray⟩, .int .i64 0, .int .i64 0, .int .i64 0, .int .i64 0, .int .i64 fx, .int .i64 fy, .int .i64 tx, .int .i64 ty, .int .i64 cx, .int .i64 cy, .bool kb, .slice none 0 0] 72 (0, 0)) ∧ Rc WF b A c L (ck false ⟨si, false⟩) ∧ w.grownBy WF (some b) ∧ PtV WF ⟨⟨2, lw, (0, 0), (0, 0), (fx, fy), (tx, ty), (cx, cy), kb, []⟩, none, 0⟩) := ⟨_, rfl, Lib.hid (ent_end (x := ⟨2, lw, (0, 0), (0, 0), (fx, fy), (tx, ty), (cx, cy), kb, []⟩) HE202.out hlb HRC.out (by simp) HLW.out)⟩
    have HWF := Lib.hid hWF
    clear hWF
    have y0 := cell_of HE202.out.obj 0 (.int .i64 2) rfl
    have y1 := cell_of HE202.out.obj 1 (.string ⟨lw.toArray⟩) rfl
    have y2 := cell_of HE202.out.obj 2 (.int .i64 0) rfl
    have y3 := cell_of HE202.out.obj 3 (.int .i64 0) rfl
    have y4 := cell_of HE202.out.obj 4 (.int .i64 0) rfl
    have y5 := cell_of HE202.out.obj 5 (.int .i64 0) rfl
    have y6 := cell_of HE202.out.obj 6 (.int .i64 fx) rfl
    have y7 := cell_of HE202.out.obj 7 (.int .i64 fy) rfl
    have y8 := cell_of HE202.out.obj 8 (.int .i64 tx) rfl
    have y9 := cell_of HE202.out.obj 9 (.int .i64 ty) rfl
    have y10 := cell_of HE202.out.obj 10 (.int .i64 cx) rfl
    have y11 := cell_of HE202.out.obj 11 (.int .i64 cy) rfl
    have y12 := cell_of HE202.out.obj 12 (.bool kb) rfl
    have y13 := cell_of HE202.out.obj 13 (.slice none 0 0) rfl
    have r0 := cell_of HE202.out.res 0 _ rfl
    have f0 := free_of HE202.out.res 0
    have r1 := cell_of HE202.out.res 1 _ rfl
    have f1 := free_of HE202.out.res 1
    have r2 := cell_of HE202.out.res 2 _ rfl
    have f2 := free_of HE202.out.res 2
    have r3 := cell_of HE202.out.res 3 _ rfl
    have f3 := free_of HE202.out.res 3
    have r4 := cell_of HE202.out.res 4 _ rfl
    have f4 := free_of HE202.out.res 4
    have r5 := cell_of HE202.out.res 5 _ rfl
    have f5 := free_of HE202.out.res 5
    have r6 := cell_of HE202.out.res 6 _ rfl
    have f6 := free_of HE202.out.res 6
    have r7 := cell_of HE202.out.res 7 _ rfl
    have f7 := free_of HE202.out.res 7
    have r8 := cell_of HE202.out.res 8 _ rfl
    have f8 := free_of HE202.out.res 8
    have r9 := cell_of HE202.out.res 9 _ rfl
    have f9 := free_of HE202.out.res 9
    have r10 := cell_of HE202.out.res 10 _ rfl
    have f10 := free_of HE202.out.res 10
    have r11 := cell_of HE202.out.res 11 _ rfl
    have f11 := free_of HE202.out.res 11
    have r12 := cell_of HE202.out.res 12 _ rfl
    have f12 := free_of HE202.out.res 12
    have r13 := cell_of HE202.out.res 13 _ rfl
    have f13 := free_of HE202.out.res 13
    go_wp2
    rw [← HWF.out]
    have HF2 := HF.out
    have l0 := cell_of HF2.1 0 (.int .i64 2) rfl
    have l1 := cell_of HF2.1 1 (.string ⟨lw.toArray⟩) rfl
    have l2 := cell_of HF2.1 2 (.int .i64 0) rfl
    have l3 := cell_of HF2.1 3 (.int .i64 0) rfl
    have l4 := cell_of HF2.1 4 (.int .i64 0) rfl
    have l5 := cell_of HF2.1 5 (.int .i64 0) rfl
    have l6 := cell_of HF2.1 6 (.int .i64 fx) rfl
    have l7 := cell_of HF2.1 7 (.int .i64 fy) rfl
    have l8 := cell_of HF2.1 8 (.int .i64 tx) rfl
    have l9 := cell_of HF2.1 9 (.int .i64 ty) rfl
    have l10 := cell_of HF2.1 10 (.int .i64 cx) rfl
    have l11 := cell_of HF2.1 11 (.int .i64 cy) rfl
    have l12 := cell_of HF2.1 12 (.bool kb) rfl
    have l13 := cell_of HF2.1 13 (.slice none 0 0) rfl
    refine bodyPost_ret (v := .agg #[.int .i64 2, .string ⟨lw.toArray⟩, .int .i64 0, .int .i64 0, .int .i64 0, .int .i64 0, .int .i64 fx, .int .i64 fy, .int .i64 tx, .int .i64 ty, .int .i64 cx, .int .i64 cy, .bool kb, .slice none 0 0]) (by simp [results, Tryz.results31, go_sem, l0, l1, l2, l3, l4, l5, l6, l7, l8, l9, l10, l11, l12, l13]) rfl ?_
    exact ⟨by rw [HS9.out]; exact HF2.2.1, HF2.2.2.1, ⟨⟨2, lw, (0, 0), (0, 0), (fx, fy), (tx, ty), (cx, cy), kb, []⟩, none, 0⟩, rfl, HF2.2.2.2, HR9.out⟩
   ·have HS9 : Hid (RS = ⟨si, false⟩) := Lib.hid (HRS1.out.trans (ck_true _))
    go_wp2_with fail
    refine (HVC.out _ HPV.out).mono ?_
    rintro r wv ⟨rfl, hbv⟩
    have HE201 := Lib.hid (HE108.out.below hlb hbv)
    clear c0 c1 c2 y0 y1 y2 y3 y4 y5 y6 y7 y8 y9 y10 y11 y12 y13 hbv
    obtain ⟨WF, hWF, HF⟩ : ∃ WF, WF = ((((((((((((((wv.setCell ⟨w.heap.size, 0, none⟩ (.int .i64 2)).setCell ⟨w.heap.size, 1, none⟩ (.string ⟨lw.toArray⟩)).setCell ⟨w.heap.size, 2, none⟩ (.int .i64 0)).setCell ⟨w.heap.size, 3, none⟩ (.int .i64 0)).setCell ⟨w.heap.size, 4, none⟩ (.int .i64 0)).setCell ⟨w.heap.size, 5, none⟩ (.int .i64 0)).setCell ⟨w.heap.size, 6, none⟩ (.int .i64 fx)).setCell ⟨w.heap.size, 7, none⟩ (.int .i64 fy)).setCell ⟨w.heap.size, 8, none⟩ (.int .i64 tx)).setCell ⟨w.heap.size, 9, none⟩ (.int .i64 ty)).setCell ⟨w.heap.size, 10, none⟩ (.int .i64 cx)).setCell ⟨w.heap.size, 11, none⟩ (.int .i64 cy)).setCell ⟨w.heap.size, 12, none⟩ (.bool kb)).setCell ⟨w.heap.size, 13, none⟩ (.slice none 0 0)) ∧ Hid (WF.heap[w.heap.size]? = some (.cells #[.int .i64 2, .string ⟨lw.toArray⟩, .int .i64 0, .int .i64 0, .int .i64 0, .int .i64 0, .int .i64 fx, .int .i64 fy, .int .i64 tx, .int .i64 ty, .int .i64 cx, .int .i64 cy, .bool kb, .slice none 0 0] 72 (0, 0)) ∧ Rc WF b A c L ⟨si, false⟩ ∧ w.grownBy WF (some b) ∧ PtV WF ⟨⟨2, lw, (0, 0), (0, 0), (fx, fy), (tx, ty), (cx, cy), kb, []⟩, none, 0⟩) := ⟨_, rfl, Lib.hid (ent_end (x := ⟨2, lw, (0, 0), (0, 0), (fx, fy), (tx, ty), (cx, cy), kb, []⟩) HE201.out hlb HRC.out (by simp) HLW.out)⟩
    have HWF := Lib.hid hWF
    clear hWF
    have y0 := cell_of HE201.out.obj 0 (.int .i64 2) rfl
    have y1 := cell_of HE201.out.obj 1 (.string ⟨lw.toArray⟩) rfl
    have y2 := cell_of HE201.out.obj 2 (.int .i64 0) rfl
    have y3 := cell_of HE201.out.obj 3 (.int .i64 0) rfl
    have y4 := cell_of HE201.out.obj 4 (.int .i64 0) rfl
    have y5 := cell_of HE201.out.obj 5 (.int .i64 0) rfl
    have y6 := cell_of HE201.out.obj 6 (.int .i64 fx) rfl
    have y7 := cell_of HE201.out.obj 7 (.int .i64 fy) rfl
    have y8 := cell_of HE201.out.obj 8 (.int .i64 tx) rfl
    have y9 := cell_of HE201.out.obj 9 (.int .i64 ty) rfl
    have y10 := cell_of HE201.out.obj 10 (.int .i64 cx) rfl
    have y11 := cell_of HE201.out.obj 11 (.int .i64 cy) rfl
    have y12 := cell_of HE201.out.obj 12 (.bool kb) rfl
    have y13 := cell_of HE201.out.obj 13 (.slice none 0 0) rfl
    have r0 := cell_of HE201.out.res 0 _ rfl
    have f0 := free_of HE201.out.res 0
    have r1 := cell_of HE201.out.res 1 _ rfl
    have f1 := free_of HE201.out.res 1
    have r2 := cell_of HE201.out.res 2 _ rfl
    have f2 := free_of HE201.out.res 2
    have r3 := cell_of HE201.out.res 3 _ rfl
    have f3 := free_of HE201.out.res 3
    have r4 := cell_of HE201.out.res 4 _ rfl
    have f4 := free_of HE201.out.res 4
    have r5 := cell_of HE201.out.res 5 _ rfl
    have f5 := free_of HE201.out.res 5
    have r6 := cell_of HE201.out.res 6 _ rfl
    have f6 := free_of HE201.out.res 6
    have r7 := cell_of HE201.out.res 7 _ rfl
    have f7 := free_of HE201.out.res 7
    have r8 := cell_of HE201.out.res 8 _ rfl
    have f8 := free_of HE201.out.res 8
    have r9 := cell_of HE201.out.res 9 _ rfl
    have f9 := free_of HE201.out.res 9
    have r10 := cell_of HE201.out.res 10 _ rfl
    have f10 := free_of HE201.out.res 10
    have r11 := cell_of HE201.out.res 11 _ rfl
    have f11 := free_of HE201.out.res 11
    have r12 := cell_of HE201.out.res 12 _ rfl
    have f12 := free_of HE201.out.res 12
    have r13 := cell_of HE201.out.res 13 _ rfl
    have f13 := free_of HE201.out.res 13
    go_wp2
    rw [← HWF.out]
    have HF2 := HF.out
    have l0 := cell_of HF2.1 0 (.int .i64 2) rfl
    have l1 := cell_of HF2.1 1 (.string ⟨lw.toArray⟩) rfl
    have l2 := cell_of HF2.1 2 (.int .i64 0) rfl
    have l3 := cell_of HF2.1 3 (.int .i64 0) rfl
    have l4 := cell_of HF2.1 4 (.int .i64 0) rfl
    have l5 := cell_of HF2.1 5 (.int .i64 0) rfl
    have l6 := cell_of HF2.1 6 (.int .i64 fx) rfl
    have l7 := cell_of HF2.1 7 (.int .i64 fy) rfl
    have l8 := cell_of HF2.1 8 (.int .i64 tx) rfl
    have l9 := cell_of HF2.1 9 (.int .i64 ty) rfl
    have l10 := cell_of HF2.1 10 (.int .i64 cx) rfl
    have l11 := cell_of HF2.1 11 (.int .i64 cy) rfl
    have l12 := cell_of HF2.1 12 (.bool kb) rfl
    have l13 := cell_of HF2.1 13 (.slice none 0 0) rfl
    refine bodyPost_ret (v := .agg #[.int .i64 2, .string ⟨lw.toArray⟩, .int .i64 0, .int .i64 0, .int .i64 0, .int .i64 0, .int .i64 fx, .int .i64 fy, .int .i64 tx, .int .i64 ty, .int .i64 cx, .int .i64 cy, .bool kb, .slice none 0 0]) (by simp [results, Tryz.results31, go_sem, l0, l1, l2, l3, l4, l5, l6, l7, l8, l9, l10, l11, l12, l13]) rfl ?_
    exact ⟨by rw [HS9.out]; exact HF2.2.1, HF2.2.2.1, ⟨⟨2, lw, (0, 0), (0, 0), (fx, fy), (tx, ty), (cx, cy), kb, []⟩, none, 0⟩, rfl, HF2.2.2.2, HR9.out⟩
  ·have HS9 : Hid (RS = ⟨si, true⟩) := Lib.hid (HRS1.out.trans (ck_bad rfl))
   have HR9 : Hid (RS.bad = false → ⟨2, lw, (0, 0), (0, 0), (fx, fy), (tx, ty), (cx, cy), kb, []⟩ = RE) := Lib.hid (fun hb => by rw [HS9.out] at hb; cases hb)
   obtain ⟨WF, hWF, HF⟩ : ∃ WF, WF = ((((((((((((((W108.setCell ⟨w.heap.size, 0, none⟩ (.int .i64 2)).setCell ⟨w.heap.size, 1, none⟩ (.string ⟨lw.toArray⟩)).setCell ⟨w.heap.size, 2, none⟩ (.int .i64 0)).setCell ⟨w.heap.size, 3, none⟩ (.int .i64 0)).setCell ⟨w.heap.size, 4, none⟩ (.int .i64 0)).setCell ⟨w.heap.size, 5, none⟩ (.int .i64 0)).setCell ⟨w.heap.size, 6, none⟩ (.int .i64 fx)).setCell ⟨w.heap.size, 7, none⟩ (.int .i64 fy)).setCell ⟨w.heap.size, 8, none⟩ (.int .i64 tx)).setCell ⟨w.heap.size, 9, none⟩ (.int .i64 ty)).setCell ⟨w.heap.size, 10, none⟩ (.int .i64 cx)).setCell ⟨w.heap.size, 11, none⟩ (.int .i64 cy)).setCell ⟨w.heap.size, 12, none⟩ (.bool kb)).setCell ⟨w.heap.size, 13, none⟩ (.slice none 0 0)) ∧ Hid (WF.heap[w.heap.size]? = some (.cells #[.int .i64 2, .string ⟨lw.toArray⟩, .int .i64 0, .int .i64 0, .int .i64 0, .int .i64 0, .int .i64 fx, .int .i64 fy, .int .i64 tx, .int .i64 ty, .int .i64 cx, .int .i64 cy, .bool kb, .slice none 0 0] 72 (0, 0)) ∧ Rc WF b A c L ⟨si, true⟩ ∧ w.grownBy WF (some b) ∧ PtV WF ⟨⟨2, lw, (0, 0), (0, 0), (fx, fy), (tx, ty), (cx, cy), kb, []⟩, none, 0⟩) := ⟨_, rfl, Lib.hid (ent_end (x := ⟨2, lw, (0, 0), (0, 0), (fx, fy), (tx, ty), (cx, cy), kb, []⟩) HE108.out hlb HRC.out (by simp) HLW.out)⟩
   have HWF := Lib.hid hWF
   clear hWF
   have y0 := cell_of HE108.out.obj 0 (.int .i64 2) rfl
   have y1 := cell_of HE108.out.obj 1 (.string ⟨lw.toArray⟩) rfl
   have y2 := cell_of HE108.out.obj 2 (.int .i64 0) rfl
   have y3 := cell_of HE108.out.obj 3 (.int .i64 0) rfl
   have y4 := cell_of HE108.out.obj 4 (.int .i64 0) rfl
   have y5 := cell_of HE108.out.obj 5 (.int .i64 0) rfl
   have y6 := cell_of HE108.out.obj 6 (.int .i64 fx) rfl
   have y7 := cell_of HE108.out.obj 7 (.int .i64 fy) rfl
   have y8 := cell_of HE108.out.obj 8 (.int .i64 tx) rfl
   have y9 := cell_of HE108.out.obj 9 (.int .i64 ty) rfl
   have y10 := cell_of HE108.out.obj 10 (.int .i64 cx) rfl
   have y11 := cell_of HE108.out.obj 11 (.int .i64 cy) rfl
   have y12 := cell_of HE108.out.obj 12 (.bool kb) rfl
   have y13 := cell_of HE108.out.obj 13 (.slice none 0 0) rfl
   have r0 := cell_of HE108.out.res 0 _ rfl
   have f0 := free_of HE108.out.res 0
   have r1 := cell_of HE108.out.res 1 _ rfl
   have f1 := free_of HE108.out.res 1
   have r2 := cell_of HE108.out.res 2 _ rfl
   have f2 := free_of HE108.out.res 2
   have r3 := cell_of HE108.out.res 3 _ rfl
   have f3 := free_of HE108.out.res 3
   have r4 := cell_of HE108.out.res 4 _ rfl
   have f4 := free_of HE108.out.res 4
   have r5 := cell_of HE108.out.res 5 _ rfl
   have f5 := free_of HE108.out.res 5
   have r6 := cell_of HE108.out.res 6 _ rfl
   have f6 := free_of HE108.out.res 6
   have r7 := cell_of HE108.out.res 7 _ rfl
   have f7 := free_of HE108.out.res 7
   have r8 := cell_of HE108.out.res 8 _ rfl
   have f8 := free_of HE108.out.res 8
   have r9 := cell_of HE108.out.res 9 _ rfl
   have f9 := free_of HE108.out.res 9
   have r10 := cell_of HE108.out.res 10 _ rfl
   have f10 := free_of HE108.out.res 10
   have r11 := cell_of HE108.out.res 11 _ rfl
   have f11 := free_of HE108.out.res 11
   have r12 := cell_of HE108.out.res 12 _ rfl
   have f12 := free_of HE108.out.res 12
   have r13 := cell_of HE108.out.res 13 _ rfl
   have f13 := free_of HE108.out.res 13
   go_wp2
   rw [← HWF.out]
   have HF2 := HF.out
   have l0 := cell_of HF2.1 0 (.int .i64 2) rfl
   have l1 := cell_of HF2.1 1 (.string ⟨lw.toArray⟩) rfl
   have l2 := cell_of HF2.1 2 (.int .i64 0) rfl
   have l3 := cell_of HF2.1 3 (.int .i64 0) rfl
   have l4 := cell_of HF2.1 4 (.int .i64 0) rfl
   have l5 := cell_of HF2.1 5 (.int .i64 0) rfl
   have l6 := cell_of HF2.1 6 (.int .i64 fx) rfl
   have l7 := cell_of HF2.1 7 (.int .i64 fy) rfl
   have l8 := cell_of HF2.1 8 (.int .i64 tx) rfl
   have l9 := cell_of HF2.1 9 (.int .i64 ty) rfl
   have l10 := cell_of HF2.1 10 (.int .i64 cx) rfl
   have l11 := cell_of HF2.1 11 (.int .i64 cy) rfl
   have l12 := cell_of HF2.1 12 (.bool kb) rfl
   have l13 := cell_of HF2.1 13 (.slice none 0 0) rfl
   refine bodyPost_ret (v := .agg #[.int .i64 2, .string ⟨lw.toArray⟩, .int .i64 0, .int .i64 0, .int .i64 0, .int .i64 0, .int .i64 fx, .int .i64 fy, .int .i64 tx, .int .i64 ty, .int .i64 cx, .int .i64 cy, .bool kb, .slice none 0 0]) (by simp [results, Tryz.results31, go_sem, l0, l1, l2, l3, l4, l5, l6, l7, l8, l9, l10, l11, l12, l13]) rfl ?_
   exact ⟨by rw [HS9.out]; exact HF2.2.1, HF2.2.2.1, ⟨⟨2, lw, (0, 0), (0, 0), (fx, fy), (tx, ty), (cx, cy), kb, []⟩, none, 0⟩, rfl, HF2.2.2.2, HR9.out⟩
end Go.Proofs.YtnmmhcchpcbeeaaGreatDoor.GtW
