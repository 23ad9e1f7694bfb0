/- Walk: the reference's reader of an entity: kPoly. Conditions: the decoder and its lines lie in memory, apart. -/
import Derived.Test.YtnmmhcchpcbeeaaGreatDoorGtRf

namespace Go.Proofs.YtnmmhcchpcbeeaaGreatDoor.GtW
open Go Go.RowKit Go.Proofs.YtnmmhcchpcbeeaaGreatDoor.Mem Go.Proofs.YtnmmhcchpcbeeaaGreatDoor.Gt Go.Proofs.YtnmmhcchpcbeeaaGreatDoor.Ge
open Go.Proofs.YtnmmhcchpcbeeaaGreatDoor.GeW (EntV entVals PtsIn PtAt Tagged RowT RowW Ents own_keep own_tag ptCells)
attribute [local go_sem ↓] Go.wp_at_zero Go.wp_at_succ

set_option maxRecDepth 100000 in
set_option maxHeartbeats 4000000 in
theorem rentity_polya (L : List (List UInt8)) (A : Option Addr) (c b : Nat) (s : Gt.S) (w : World) (h : Rc w b A c L s) (HN0 : Hid (Lex.isName (rnx L (cd L 8 s)).1 = true)) :
  Calls Tryz.prog 31 #[.pointer (some ⟨b, 0, none⟩), .string ⟨kPoly.toArray⟩] w fun e w' => Rc w' b A c L (rdEnt L kPoly s).2 ∧ w.grownBy w' (some b) ∧ ∃ x : EntV, e = .returned (.agg (entVals x).toArray) ∧ PtV w' x ∧ ((rdEnt L kPoly s).2.bad = false → x.e = (rdEnt L kPoly s).1) := by
 have hlb := blk_lt h.obj
 obtain ⟨RS, HRS⟩ : ∃ RS, Hid ((rdEnt L kPoly s).2 = RS) := ⟨_, Lib.hid rfl⟩
 obtain ⟨RE, HRE⟩ : ∃ RE, Hid ((rdEnt L kPoly s).1 = RE) := ⟨_, Lib.hid rfl⟩
 rw [HRS.out, HRE.out]
 have HRC := Lib.hid h
 have HB0 : Below w.heap.size w ((w.alloc (.cells #[.int .i64 0, .string ⟨#[]⟩, .int .i64 0, .int .i64 0, .int .i64 0, .int .i64 0, .int .i64 0, .int .i64 0, .int .i64 0, .int .i64 0, .int .i64 0, .int .i64 0, .bool false, .slice none 0 0] 72)).alloc (.cells #[.int .i64 0, .string ⟨#[]⟩, .int .i64 0, .int .i64 0, .int .i64 0, .int .i64 0, .int .i64 0, .int .i64 0, .int .i64 0, .int .i64 0, .int .i64 0, .int .i64 0, .bool false, .slice none 0 0] 72)) := ((Below.refl _ _).alloc (Nat.le_refl _) _).alloc (by simp) _
 have HE0 : Hid (ESt w ((w.alloc (.cells #[.int .i64 0, .string ⟨#[]⟩, .int .i64 0, .int .i64 0, .int .i64 0, .int .i64 0, .int .i64 0, .int .i64 0, .int .i64 0, .int .i64 0, .int .i64 0, .int .i64 0, .bool false, .slice none 0 0] 72)).alloc (.cells #[.int .i64 0, .string ⟨#[]⟩, .int .i64 0, .int .i64 0, .int .i64 0, .int .i64 0, .int .i64 0, .int .i64 0, .int .i64 0, .int .i64 0, .int .i64 0, .int .i64 0, .bool false, .slice none 0 0] 72)) b A c L s ⟨0, [], (0, 0), (0, 0), (0, 0), (0, 0), (0, 0), false, []⟩ none 0) := Lib.hid
  ⟨p_below h.obj HB0, p_below (GeW.heap_alloc_new w _) ((Below.refl _ _).alloc (Nat.le_refl _) _), (by have := GeW.heap_alloc_new (w.alloc (.cells #[.int .i64 0, .string ⟨#[]⟩, .int .i64 0, .int .i64 0, .int .i64 0, .int .i64 0, .int .i64 0, .int .i64 0, .int .i64 0, .int .i64 0, .int .i64 0, .int .i64 0, .bool false, .slice none 0 0] 72)) (.cells #[.int .i64 0, .string ⟨#[]⟩, .int .i64 0, .int .i64 0, .int .i64 0, .int .i64 0, .int .i64 0, .int .i64 0, .int .i64 0, .int .i64 0, .int .i64 0, .int .i64 0, .bool false, .slice none 0 0] 72); rw [World.size_alloc] at this; exact this), World.ownsRow_nil _ _ _ _, grown_below (grown_refl w (some b)) HB0⟩
 obtain ⟨i0, ia, ib, ic, id⟩ := info_parts info_vec
 have HC := Lib.hid (fun W hW => rcode_any L A c b s 8 W hW (by omega))
 have HSH := Lib.hid (rnx_short (L := L) (s := cd L 8 s) h.short)
 have HLY : Hid (rdLay L s = if Lex.isName (rnx L (cd L 8 s)).1 = true then rnx L (cd L 8 s) else ([], ck false (rnx L (cd L 8 s)).2)) := Lib.hid (nx_rnx L Lex.isName (cd L 8 s) (by decide)).symm
 have HI := Lib.hid (rnx_i (L := L) (s := cd L 8 s))
 clear HB0 h
 generalize cd L 8 s = s1 at *
 have HN := Lib.hid (fun W hW => rnext_any L A c b s1 W hW)
 generalize rnx L s1 = ly at *
 obtain ⟨lw, s2⟩ := ly
 simp only at HSH HLY HI HN HN0
 have HLW : Hid (lw.length ≤ 1000000) := HSH
 have HNM : Hid (∀ W, Calls Tryz.prog 66 #[.string ⟨lw.toArray⟩] W fun r w' => r = .returned (.bool (Lex.isName lw)) ∧ W = w') := Lib.hid (fun W => (LexW.risName_any ⟨lw.toArray⟩ W (by rw [str_size]; exact HSH.out)).mono fun _ _ h => ⟨h.1, h.2⟩)
 have z1 := cell_of HE0.out.obj 1 _ rfl
 have q1 := free_of HE0.out.obj 1
 go_enter Tryz.func31, Tryz.ntmps31
 go_wp2_with fail
 clear z1 q1
 generalize (w.alloc (.cells #[.int .i64 0, .string ⟨#[]⟩, .int .i64 0, .int .i64 0, .int .i64 0, .int .i64 0, .int .i64 0, .int .i64 0, .int .i64 0, .int .i64 0, .int .i64 0, .int .i64 0, .bool false, .slice none 0 0] 72)).alloc (.cells #[.int .i64 0, .string ⟨#[]⟩, .int .i64 0, .int .i64 0, .int .i64 0, .int .i64 0, .int .i64 0, .int .i64 0, .int .i64 0, .int .i64 0, .int .i64 0, .int .i64 0, .bool false, .slice none 0 0] 72) = W0 at *
 refine (HC.out _ (HE0.out.rc HRC.out)).mono ?_
 rintro e w1 ⟨rfl, h1, g1⟩
 have HE1 := Lib.hid (HE0.out.step hlb h1.obj g1)
 clear h1 g1
 go_wp2_with fail
 refine (HN.out _ (HE1.out.rc HRC.out)).mono ?_
 rintro e w2 ⟨rfl, h2, g2⟩
 have HE2 := Lib.hid (HE1.out.step hlb h2.obj g2)
 clear h2 g2
 have z1 := cell_of HE2.out.obj 1 _ rfl
 have q1 := free_of HE2.out.obj 1
 have HE3 := Lib.hid (ESt.put (x' := ⟨0, lw, (0, 0), (0, 0), (0, 0), (0, 0), (0, 0), false, []⟩) HE2.out hlb 1 (.string ⟨lw.toArray⟩) (block_set HE2.out.obj 1 (.string ⟨lw.toArray⟩)) rfl)
 obtain ⟨s4, HS4⟩ : ∃ s4, Hid ((rdLay L s).2 = s4) := ⟨_, Lib.hid rfl⟩
 have HLL : Hid (s4.bad = false → Lex.isName lw = true ∧ (rdLay L s).1 = lw) := Lib.hid (fun hb => by
  rw [← HS4.out, HLY.out] at hb
  rw [HLY.out]
  by_cases hn : Lex.isName lw = true
  ·rw [if_pos hn]; exact ⟨hn, rfl⟩
  ·rw [if_neg hn] at hb
   obtain ⟨i2, b2⟩ := s2
   unfold ck at hb
   cases b2 <;> simp at hb)
 go_upto_region 4 with fail
 generalize w2.setCell ⟨w.heap.size + 1, 1, none⟩ (.string ⟨lw.toArray⟩) = W3 at *
 have z1 := cell_of HE3.out.obj 1 _ rfl
 cases hn : Lex.isName lw
 ·exact absurd (HN0.out.symm.trans hn) (by decide)
 ·have HS5 : Hid (s2 = s4) := Lib.hid (by rw [← HS4.out, HLY.out, hn]; simp)
  rw [hn] at HNM
  rw [HS5.out] at HE3
  clear hn
  go_wp2_with fail
  refine (HNM.out _).mono ?_
  rintro r w4 ⟨rfl, rfl⟩
  clear z1
  have HQK : Hid ((ByteArray.mk kPoly.toArray).toList = [80, 79, 76, 89]) := Lib.hid (by rw [Go.ByteArray.toList_eq]; rfl)
  generalize (ByteArray.mk kPoly.toArray) = XB at *
  have ekLine : (XB.toList = [76, 73, 78, 69]) = False := eq_false (by rw [HQK.out]; decide)
  have bkLine : (XB.toList == [76, 73, 78, 69]) = false := by rw [HQK.out]; rfl
  have ekArc : (XB.toList = [65, 82, 67]) = False := eq_false (by rw [HQK.out]; decide)
  have bkArc : (XB.toList == [65, 82, 67]) = false := by rw [HQK.out]; rfl
  have ekPoly : (XB.toList = [80, 79, 76, 89]) = True := eq_true HQK.out
  have bkPoly : (XB.toList == [80, 79, 76, 89]) = true := by rw [HQK.out]; rfl
  have HBD := nb_pts (L := L) (s := s4)
  obtain ⟨FIN, HFIN⟩ : ∃ FIN, Hid (rdPts L (nb L 90 3 40 s4).1.toNat [] (nb L 90 3 40 s4).2 = FIN) := ⟨_, Lib.hid rfl⟩
  have HRP : Hid (rdPoly L (rdLay L s).1 (rdLay L s).2 = (⟨3, (rdLay L s).1, (0, 0), (0, 0), (0, 0), (0, 0), (0, 0), false, FIN.1⟩, FIN.2)) := Lib.hid (by
   unfold rdPoly
   rw [HS4.out, HFIN.out]
   rfl)
  obtain ⟨g, HG⟩ : ∃ g, Hid (true = g) := ⟨_, Lib.hid rfl⟩
  have HRS1 : Hid (RS = ck g FIN.2) := Lib.hid (by
   rw [← HRS.out, ← HG.out, ck_true]
   show (rdKind L kPoly (rdLay L s).1 (rdLay L s).2).2 = _
   unfold rdKind
   rw [if_neg (by decide), if_neg (by decide), HRP.out])
  have HB4 : Hid (FIN.2.bad = false → s4.bad = false) := Lib.hid (fun hb => by
   rw [← HS4.out]
   refine not_bad (stay_poly (rdLay L s).1) (L := L) (s := (rdLay L s).2) ?_
   rw [← (rdPoly_eq L (rdLay L s).1 (rdLay L s).2).1, HRP.out]
   exact hb)
  have HRX : Hid (FIN.2.bad = false → RE = ⟨3, lw, (0, 0), (0, 0), (0, 0), (0, 0), (0, 0), false, FIN.1⟩) := Lib.hid (fun hb => by
   rw [← HRE.out]
   show (rdKind L kPoly (rdLay L s).1 (rdLay L s).2).1 = _
   unfold rdKind
   rw [if_neg (by decide), if_neg (by decide), HRP.out, (HLL.out (HB4.out hb)).2])
  have HOK : Hid (FIN.2.bad = false → entOk ⟨3, lw, (0, 0), (0, 0), (0, 0), (0, 0), (0, 0), false, FIN.1⟩ = g) := Lib.hid (fun hb => by
   have h9 := (HLL.out (HB4.out hb))
   have := @poly_ok L lw s4 h9.1 (by unfold rdPoly; rw [HFIN.out]; exact hb)
   unfold rdPoly at this
   rw [HFIN.out] at this
   rw [← HG.out]
   exact this)
  have HIX : Hid (FIN.2.bad = false → 1 ≤ FIN.2.i ∧ FIN.2.i ≤ L.length) := Lib.hid (by
   rw [← HFIN.out]
   exact pts_i L _ _ _ nb_i)
  have HFL : Hid (FIN.1.length ≤ 40) := Lib.hid (by
   have h1 := rdPts_len L (nb L 90 3 40 s4).1.toNat [] (nb L 90 3 40 s4).2
   rw [HFIN.out] at h1
   simp only [List.length_nil] at h1
   omega)
  have HPN := Lib.hid (fun W hW => rnumber_any L A c b s4 90 3 40 W hW (by omega) (by omega) (by omega))
  rcases hr : nb L 90 3 40 s4 with ⟨nv, s5⟩
  rw [hr] at HPN HBD HFIN
  simp only at HBD
  obtain ⟨m0, rfl⟩ : ∃ m0 : Nat, nv = (m0 : Int) := ⟨nv.toNat, by omega⟩
  have HF0 : Hid (rdPts L m0 [] s5 = FIN) := Lib.hid (by have := HFIN.out; simpa using this)
  have hm40 : m0 ≤ 40 := by omega
  clear hr HBD HFIN HRP HG
  have z0 := cell_of HE3.out.obj 0 _ rfl
  have q0 := free_of HE3.out.obj 0
  have HE100 := Lib.hid (ESt.put (x' := ⟨3, lw, (0, 0), (0, 0), (0, 0), (0, 0), (0, 0), false, []⟩) HE3.out hlb 0 (.int .i64 3) (block_set HE3.out.obj 0 (.int .i64 3)) rfl)
  go_wp2_with fail
  clear z0 q0
  generalize (W3.setCell ⟨w.heap.size + 1, 0, none⟩ (.int .i64 3)) = W100 at *
  refine (HPN.out _ (HE100.out.rc HRC.out)).mono ?_
  rintro e w101 ⟨rfl, h101, g101⟩
  have HE101 := Lib.hid (HE100.out.step hlb h101.obj g101)
  clear h101 g101
  go_wp2_with fail
  go_loopw [7] (fun v wr => ∃ (i : Nat) (acc : List V) (st : Gt.S) (B : Option Addr) (d : Nat), i ≤ m0 ∧ acc.length ≤ i ∧ v = .int .i64 (i : Nat) ∧ Hid (rdPts L (m0 - i) acc st = FIN) ∧ Hid (ESt w wr b A c L st ⟨3, lw, (0, 0), (0, 0), (0, 0), (0, 0), (0, 0), false, acc⟩ B d)) (fun v _ => m0 - (intOf v).toNat)
  case atStart => exact ⟨0, [], s5, none, 0, by omega, by simp, rfl, HF0, HE101⟩
  case round =>
   obtain ⟨i, acc, st, B, d, hi, hac, rfl, HFI, HD⟩ := hrel
   obtain ⟨c0, c1, c2, _⟩ := rcell HD.out.scn
   by_cases hlt : i < m0
   ·have dl : decide ((i : Int) < (m0 : Int)) = true := decide_eq_true (by omega)
    have dl2 : decide (i < m0) = true := decide_eq_true hlt
    obtain ⟨si, sb⟩ := st
    simp only at c1 c2
    cases sb
    ·have HFI2 : Hid (rdPts L (m0 - (i + 1)) (acc ++ [(pt L 10 ⟨si, false⟩).1]) (pt L 10 ⟨si, false⟩).2 = FIN) := Lib.hid (by
      have := HFI.out
      rw [show m0 - i = (m0 - (i + 1)) + 1 by omega, rdPts, if_neg (by simp)] at this
      exact this)
     have HPT := Lib.hid (fun W hW => rpoint_any L A c b ⟨si, false⟩ 10 W hW (by omega))
     rcases hp : pt L 10 ⟨si, false⟩ with ⟨⟨px, py⟩, s9⟩
     rw [hp] at HFI2 HPT
     simp only at HFI2 HPT
     clear hp HFI
     have CH : Hid (acc.length + 1 ≤ maxLen ∧ (acc.length + 1) * 16 ≤ 140737488355328) := Lib.hid (by unfold maxLen; omega)
     have z13 := cell_of HD.out.obj 13 _ rfl
     have HD := Lib.hid (HD.out.below hlb (below_drewN (Below.refl _ _) 1))
     go_wp2_with fail
     refine wp_region_tillK (k := 7) (S1 := fun w' => True) (S2 := fun w' => w'.cell? ⟨w.heap.size + 1, 13, none⟩ = some (.slice B acc.length d)) (by kernel_rfl) ?_ (fun hHeld => ?_)
     ·exact ⟨trivial, z13⟩
     refine wpAnyK_take (i := 0) (oi := { dst := some 35, op := Op.fieldAddr 72 (Operand.tmp 5) 5, type := 0, pos := "ref.go:195", after := #[], guard := none }) (v := ?_) rfl (by kernel_rfl) (by kernel_rfl) (by kernel_rfl) (by kernel_rfl) (fun _ _ _ h => h) (Or.inl ⟨by rfl, ?_⟩) (by assumption) ?_
     rotate_left
     ·intro w' hSw
      (try dsimp only at hSw)
      first | (go_simp; done) | (go_simp; with_reducible rfl)
     try simp only [Act.put, List.setIfInBounds_toArray, List.set_cons_zero, List.set_cons_succ]
     refine wpAnyK_take (i := 1) (oi := { dst := some 36, op := Op.load 50 (Operand.tmp 35), type := 50, pos := "ref.go:195", after := #[{ on := 0, ground := Ground.data }], guard := none }) (v := ?_) rfl (by kernel_rfl) (by kernel_rfl) (by kernel_rfl) (by kernel_rfl) (fun _ _ _ h => h) (Or.inl ⟨by rfl, ?_⟩) (by assumption) ?_
     rotate_left
     ·intro w' hSw
      (try dsimp only at hSw)
      first | (go_simp; done) | (go_simp; with_reducible rfl)
     try simp only [Act.put, List.setIfInBounds_toArray, List.set_cons_zero, List.set_cons_succ]
     refine wpAnyK_take (i := 2) (oi := { dst := some 37, op := Op.move (Operand.tmp 0), type := 68, pos := "ref.go:195", after := #[], guard := none }) (v := ?_) rfl (by kernel_rfl) (by kernel_rfl) (by kernel_rfl) (by kernel_rfl) (fun _ _ _ h => h) (Or.inl ⟨by rfl, ?_⟩) (by assumption) ?_
     rotate_left
     ·intro w' hSw
      (try dsimp only at hSw)
      first | (go_simp; done) | (go_simp; with_reducible rfl)
     try simp only [Act.put, List.setIfInBounds_toArray, List.set_cons_zero, List.set_cons_succ]
     refine wpAnyK_one (i := 3) (o := { dst := some 38, op := Op.call { callee := Callee.value (Operand.func 67), args := #[Operand.tmp 37, Operand.const (Value.int IntKind.i64 10)], argTypes := #[68, 3] }, type := 47, pos := "ref.go:195", after := #[{ on := 2, ground := Ground.data }], guard := none }) (by kernel_rfl) rfl (fun K hK => ?_)
     go_simp
     go_at_call 67
     refine (HPT.out _ (HD.out.rc HRC.out)).mono ?_
     rintro e w1 ⟨rfl, h1, g1⟩
     have HE1 := Lib.hid (HD.out.step hlb h1.obj g1)
     clear h1 g1
     have y13 := cell_of HE1.out.obj 13 _ rfl
     refine hK.out _ _ ?_ (fun _ => ?_) (fun hHeld => ?_)
     ·exact trivial
     ·exact y13
     replace hHeld := And.intro hHeld.1 (hHeld.2 (by decide))
     clear hK K
     try simp only [Act.put, List.setIfInBounds_toArray, List.set_cons_zero, List.set_cons_succ]
     refine wpAnyK_one (i := 4) (o := { dst := some 39, op := Op.buildSlice 50 1 #[(0, Operand.tmp 38)], type := 50, pos := "ref.go:195", after := #[{ on := 3, ground := Ground.data }], guard := none }) (by kernel_rfl) rfl (fun K hK => ?_)
     go_simp
     have HN2 := Lib.hid (GeW.newN_row w1 [.int .i64 px, .int .i64 py] 47)
     have HE2 := Lib.hid (HE1.out.below hlb (bel1 w1 (.cells #[.int .i64 px, .int .i64 py] 47)))
     have x13 := cell_of HE2.out.obj 13 _ rfl
     refine hK.out _ _ ?_ (fun _ => ?_) (fun hHeld => ?_)
     ·exact trivial
     ·exact x13
     replace hHeld := And.intro hHeld.1 (hHeld.2 (by decide))
     clear hK K
     try simp only [Act.put, List.setIfInBounds_toArray, List.set_cons_zero, List.set_cons_succ]
     refine wpAnyK_one (i := 5) (o := { dst := some 40, op := Op.call { callee := Callee.builtin Builtin.append, args := #[Operand.tmp 36, Operand.tmp 39], argTypes := #[50, 50] }, type := 50, pos := "ref.go:195", after := #[{ on := 1, ground := Ground.data }, { on := 4, ground := Ground.data }, { on := 3, ground := Ground.chain }], guard := none }) (by kernel_rfl) rfl (fun K hK => ?_)
     refine GeW.step_append_row (by rfl) _ _ _ (by rfl) (w.heap.size + 2) 47 i0 _ 2 16 Tryz.underlying50 ia ib ic id rfl (by omega) (.slice B acc.length d) acc.length (acc.flatMap GeW.ptCells) (by rfl) HE2.out.own (some ⟨w1.heap.size, 0, none⟩) 1 1 [.int .i64 px, .int .i64 py] (by rfl) HN2.out rfl (by intro u hu; simp at hu; rcases hu with rfl | rfl <;> rfl) CH.out.1 CH.out.2 (by have := blk_lt HE2.out.obj; omega) ?_
     intro v3 w3 hown3 hgrow3
     obtain ⟨B3, d3, rfl, _⟩ := own_shape hown3
     have HR3 := Lib.hid (fun k hk => (HE2.out.own.lt k hk).1)
     have HE3 := Lib.hid (HE2.out.push hlb hgrow3 hown3)
     clear hown3 hgrow3 x13
     have z13 := cell_of HE3.out.1 13 _ rfl
     have q13 := free_of HE3.out.1 13
     refine hK.out _ _ ?_ (fun _ => ?_) (fun hHeld => ?_)
     ·exact trivial
     ·exact z13
     replace hHeld := And.intro hHeld.1 (hHeld.2 (by decide))
     clear hK K
     try simp only [Act.put, List.setIfInBounds_toArray, List.set_cons_zero, List.set_cons_succ]
     refine wpAnyK_one (i := 6) (o := { dst := some 41, op := Op.fieldAddr 72 (Operand.tmp 5) 5, type := 0, pos := "ref.go:195", after := #[{ on := 0, ground := Ground.phase }, { on := 1, ground := Ground.phase }, { on := 2, ground := Ground.phase }, { on := 3, ground := Ground.phase }, { on := 4, ground := Ground.phase }, { on := 5, ground := Ground.phase }], guard := none }) (by kernel_rfl) rfl (fun K hK => ?_)
     go_simp
     refine hK.out _ _ ?_ (fun _ => ?_) (fun hHeld => ?_)
     ·exact trivial
     ·exact z13
     replace hHeld := And.intro hHeld.1 (hHeld.2 (by decide))
     clear hK K
     try simp only [Act.put, List.setIfInBounds_toArray, List.set_cons_zero, List.set_cons_succ]
     refine wpAnyK_one (i := 7) (o := { dst := none, op := Op.store 50 (Operand.tmp 41) (Operand.tmp 40), type := 0, pos := "ref.go:195", after := #[{ on := 6, ground := Ground.data }, { on := 5, ground := Ground.data }, { on := 5, ground := Ground.chain }, { on := 0, ground := Ground.phase }, { on := 1, ground := Ground.phase }, { on := 2, ground := Ground.phase }, { on := 3, ground := Ground.phase }, { on := 4, ground := Ground.phase }, { on := 5, ground := Ground.phase }], guard := none }) (by kernel_rfl) rfl (fun K hK => ?_)
     go_simp
     refine hK.out _ _ ?_ (fun hne => ?_) (fun hHeld => ?_)
     ·exact trivial
     ·exact absurd rfl hne
     clear hK K
     try simp only [Act.put, List.setIfInBounds_toArray, List.set_cons_zero, List.set_cons_succ]
     refine wpAnyK_done (by kernel_rfl) ?_ _
     go_wp2
     go_roundw
     case rel =>
      refine ⟨i + 1, acc ++ [(px, py)], s9, B3, d3, hlt, by rw [List.length_append]; simp; omega, by go_num, HFI2, Lib.hid ?_⟩
      exact HE3.out.2
     case measure => simp [intOf]; omega
    ·have HFE : Hid ((acc, ⟨si, true⟩) = FIN) := Lib.hid (by
      have := HFI.out
      rw [show m0 - i = (m0 - (i + 1)) + 1 by omega, rdPts, if_pos rfl] at this
      exact this)
     have hfe := HFE.out
     subst hfe
     simp only at HRS1 HRX HOK HIX HFL
     clear HFI HFE HF0
     rename_i hsb
     go_upto_region 23 with fail
     have stx : Gt.S := ⟨si, true⟩
     have HS9 : Hid (RS = ⟨si, true⟩) := Lib.hid (HRS1.out.trans (ck_bad rfl))
     have HR9 : Hid (RS.bad = false → ⟨3, lw, (0, 0), (0, 0), (0, 0), (0, 0), (0, 0), false, acc⟩ = RE) := Lib.hid (fun hb => by rw [HS9.out] at hb; cases hb)
     have HE300 := HD
     clear HD
     obtain ⟨WF, hWF, HF⟩ : ∃ WF, WF = ((((((((((((((wr.setCell ⟨w.heap.size, 0, none⟩ (.int .i64 3)).setCell ⟨w.heap.size, 1, none⟩ (.string ⟨lw.toArray⟩)).setCell ⟨w.heap.size, 2, none⟩ (.int .i64 0)).setCell ⟨w.heap.size, 3, none⟩ (.int .i64 0)).setCell ⟨w.heap.size, 4, none⟩ (.int .i64 0)).setCell ⟨w.heap.size, 5, none⟩ (.int .i64 0)).setCell ⟨w.heap.size, 6, none⟩ (.int .i64 0)).setCell ⟨w.heap.size, 7, none⟩ (.int .i64 0)).setCell ⟨w.heap.size, 8, none⟩ (.int .i64 0)).setCell ⟨w.heap.size, 9, none⟩ (.int .i64 0)).setCell ⟨w.heap.size, 10, none⟩ (.int .i64 0)).setCell ⟨w.heap.size, 11, none⟩ (.int .i64 0)).setCell ⟨w.heap.size, 12, none⟩ (.bool false)).setCell ⟨w.heap.size, 13, none⟩ (.slice B acc.length d)) ∧ Hid (WF.heap[w.heap.size]? = some (.cells #[.int .i64 3, .string ⟨lw.toArray⟩, .int .i64 0, .int .i64 0, .int .i64 0, .int .i64 0, .int .i64 0, .int .i64 0, .int .i64 0, .int .i64 0, .int .i64 0, .int .i64 0, .bool false, .slice B acc.length d] 72 (0, 0)) ∧ Rc WF b A c L ⟨si, true⟩ ∧ w.grownBy WF (some b) ∧ PtV WF ⟨⟨3, lw, (0, 0), (0, 0), (0, 0), (0, 0), (0, 0), false, acc⟩, B, d⟩) := ⟨_, rfl, Lib.hid (ent_end (x := ⟨3, lw, (0, 0), (0, 0), (0, 0), (0, 0), (0, 0), false, acc⟩) HE300.out hlb HRC.out (Nat.le_trans HFL.out (by decide)) HLW.out)⟩
     have HWF := Lib.hid hWF
     clear hWF
     have y0 := cell_of HE300.out.obj 0 (.int .i64 3) rfl
     have y1 := cell_of HE300.out.obj 1 (.string ⟨lw.toArray⟩) rfl
     have y2 := cell_of HE300.out.obj 2 (.int .i64 0) rfl
     have y3 := cell_of HE300.out.obj 3 (.int .i64 0) rfl
     have y4 := cell_of HE300.out.obj 4 (.int .i64 0) rfl
     have y5 := cell_of HE300.out.obj 5 (.int .i64 0) rfl
     have y6 := cell_of HE300.out.obj 6 (.int .i64 0) rfl
     have y7 := cell_of HE300.out.obj 7 (.int .i64 0) rfl
     have y8 := cell_of HE300.out.obj 8 (.int .i64 0) rfl
     have y9 := cell_of HE300.out.obj 9 (.int .i64 0) rfl
     have y10 := cell_of HE300.out.obj 10 (.int .i64 0) rfl
     have y11 := cell_of HE300.out.obj 11 (.int .i64 0) rfl
     have y12 := cell_of HE300.out.obj 12 (.bool false) rfl
     have y13 := cell_of HE300.out.obj 13 (.slice B acc.length d) rfl
     have r0 := cell_of HE300.out.res 0 _ rfl
     have f0 := free_of HE300.out.res 0
     have r1 := cell_of HE300.out.res 1 _ rfl
     have f1 := free_of HE300.out.res 1
     have r2 := cell_of HE300.out.res 2 _ rfl
     have f2 := free_of HE300.out.res 2
     have r3 := cell_of HE300.out.res 3 _ rfl
     have f3 := free_of HE300.out.res 3
     have r4 := cell_of HE300.out.res 4 _ rfl
     have f4 := free_of HE300.out.res 4
     have r5 := cell_of HE300.out.res 5 _ rfl
     have f5 := free_of HE300.out.res 5
     have r6 := cell_of HE300.out.res 6 _ rfl
     have f6 := free_of HE300.out.res 6
     have r7 := cell_of HE300.out.res 7 _ rfl
     have f7 := free_of HE300.out.res 7
     have r8 := cell_of HE300.out.res 8 _ rfl
     have f8 := free_of HE300.out.res 8
     have r9 := cell_of HE300.out.res 9 _ rfl
     have f9 := free_of HE300.out.res 9
     have r10 := cell_of HE300.out.res 10 _ rfl
     have f10 := free_of HE300.out.res 10
     have r11 := cell_of HE300.out.res 11 _ rfl
     have f11 := free_of HE300.out.res 11
     have r12 := cell_of HE300.out.res 12 _ rfl
     have f12 := free_of HE300.out.res 12
     have r13 := cell_of HE300.out.res 13 _ rfl
     have f13 := free_of HE300.out.res 13
     go_wp2
     rw [← HWF.out]
     have HF2 := HF.out
     have l0 := cell_of HF2.1 0 (.int .i64 3) rfl
     have l1 := cell_of HF2.1 1 (.string ⟨lw.toArray⟩) rfl
     have l2 := cell_of HF2.1 2 (.int .i64 0) rfl
     have l3 := cell_of HF2.1 3 (.int .i64 0) rfl
     have l4 := cell_of HF2.1 4 (.int .i64 0) rfl
     have l5 := cell_of HF2.1 5 (.int .i64 0) rfl
     have l6 := cell_of HF2.1 6 (.int .i64 0) rfl
     have l7 := cell_of HF2.1 7 (.int .i64 0) rfl
     have l8 := cell_of HF2.1 8 (.int .i64 0) rfl
     have l9 := cell_of HF2.1 9 (.int .i64 0) rfl
     have l10 := cell_of HF2.1 10 (.int .i64 0) rfl
     have l11 := cell_of HF2.1 11 (.int .i64 0) rfl
     have l12 := cell_of HF2.1 12 (.bool false) rfl
     have l13 := cell_of HF2.1 13 (.slice B acc.length d) rfl
     refine bodyPost_ret (v := .agg #[.int .i64 3, .string ⟨lw.toArray⟩, .int .i64 0, .int .i64 0, .int .i64 0, .int .i64 0, .int .i64 0, .int .i64 0, .int .i64 0, .int .i64 0, .int .i64 0, .int .i64 0, .bool false, .slice B acc.length d]) (by simp [results, Tryz.results31, go_sem, l0, l1, l2, l3, l4, l5, l6, l7, l8, l9, l10, l11, l12, l13]) rfl ?_
     exact ⟨by rw [HS9.out]; exact HF2.2.1, HF2.2.2.1, ⟨⟨3, lw, (0, 0), (0, 0), (0, 0), (0, 0), (0, 0), false, acc⟩, B, d⟩, rfl, HF2.2.2.2, HR9.out⟩
   ·have dl : decide ((i : Int) < (m0 : Int)) = false := decide_eq_false (by omega)
    have dl2 : decide (i < m0) = false := decide_eq_false hlt
    have HFE : Hid ((acc, st) = FIN) := Lib.hid (by
     have := HFI.out
     rw [show m0 - i = 0 by omega, rdPts] at this
     exact this)
    have hfe := HFE.out
    subst hfe
    simp only at HRS1 HRX HOK HIX HFL
    clear HFI HFE HF0
    go_upto_region 23 with fail
    have HE300 := HD
    clear HD c0 c1 c2
    have HPV : Hid (PtV wr ⟨⟨3, lw, (0, 0), (0, 0), (0, 0), (0, 0), (0, 0), false, acc⟩, B, d⟩) := Lib.hid (by obtain ⟨_, _, e9, hd9⟩ := own_shape HE300.out.own; cases e9; exact ⟨PtAt.of_own HE300.out.own, (Nat.le_trans HFL.out (by decide)), hd9, HLW.out⟩)
    obtain ⟨si, sb⟩ := st
    obtain ⟨c0, c1, c2, _⟩ := rcell HE300.out.scn
    simp only at c1 c2
    cases sb
    ·have hok := HOK.out rfl
     have HR9 : Hid (RS.bad = false → ⟨3, lw, (0, 0), (0, 0), (0, 0), (0, 0), (0, 0), false, acc⟩ = RE) := Lib.hid (fun _ => (HRX.out rfl).symm)
     have HVC : Hid (∀ W, PtV W ⟨⟨3, lw, (0, 0), (0, 0), (0, 0), (0, 0), (0, 0), false, acc⟩, B, d⟩ → Calls Tryz.prog 42 #[.agg #[.int .i64 3, .string ⟨lw.toArray⟩, .int .i64 0, .int .i64 0, .int .i64 0, .int .i64 0, .int .i64 0, .int .i64 0, .int .i64 0, .int .i64 0, .int .i64 0, .int .i64 0, .bool false, .slice B acc.length d]] W fun r w' => r = .returned (.bool g) ∧ Below W.heap.size W w') := Lib.hid (fun W hW => by
      have := rentOk_any ⟨⟨3, lw, (0, 0), (0, 0), (0, 0), (0, 0), (0, 0), false, acc⟩, B, d⟩ W hW.in_
      rw [hok] at this
      exact this)
     have y0 := cell_of HE300.out.obj 0 (.int .i64 3) rfl
     have y1 := cell_of HE300.out.obj 1 (.string ⟨lw.toArray⟩) rfl
     have y2 := cell_of HE300.out.obj 2 (.int .i64 0) rfl
     have y3 := cell_of HE300.out.obj 3 (.int .i64 0) rfl
     have y4 := cell_of HE300.out.obj 4 (.int .i64 0) rfl
     have y5 := cell_of HE300.out.obj 5 (.int .i64 0) rfl
     have y6 := cell_of HE300.out.obj 6 (.int .i64 0) rfl
     have y7 := cell_of HE300.out.obj 7 (.int .i64 0) rfl
     have y8 := cell_of HE300.out.obj 8 (.int .i64 0) rfl
     have y9 := cell_of HE300.out.obj 9 (.int .i64 0) rfl
     have y10 := cell_of HE300.out.obj 10 (.int .i64 0) rfl
     have y11 := cell_of HE300.out.obj 11 (.int .i64 0) rfl
     have y12 := cell_of HE300.out.obj 12 (.bool false) rfl
     have y13 := cell_of HE300.out.obj 13 (.slice B acc.length d) rfl
     cases g
     ·have HS9 : Hid (RS = ck false ⟨si, false⟩) := Lib.hid HRS1.out
      have HWR := Lib.hid (fun W hW => rwrong_any L A c b ⟨si, false⟩ W hW HIX.out)
      go_wp2_with fail
      refine (HVC.out _ HPV.out).mono ?_
      rintro r wv ⟨rfl, hbv⟩
      have HE201 := Lib.hid (HE300.out.below hlb hbv)
      clear c0 c1 c2 y0 y1 y2 y3 y4 y5 y6 y7 y8 y9 y10 y11 y12 y13 hbv
      go_wp2_with fail
      refine (HWR.out _ (HE201.out.rc HRC.out)).mono ?_
      rintro e w202 ⟨rfl, h202, g202⟩
      have HE202 := Lib.hid (HE201.out.step hlb h202.obj g202)
      clear h202 g202
      obtain ⟨WF, hWF, HF⟩ : ∃ WF, WF = ((((((((((((((w202.setCell ⟨w.heap.size, 0, none⟩ (.int .i64 3)).setCell ⟨w.heap.size, 1, none⟩ (.string ⟨lw.toArray⟩)).setCell ⟨w.heap.size, 2, none⟩ (.int .i64 0)).setCell ⟨w.heap.size, 3, none⟩ (.int .i64 0)).setCell ⟨w.heap.size, 4, none⟩ (.int .i64 0)).setCell ⟨w.heap.size, 5, none⟩ (.int .i64 0)).setCell ⟨w.heap.size, 6, none⟩ (.int .i64 0)).setCell ⟨w.heap.size, 7, none⟩ (.int .i64 0)).setCell ⟨w.heap.size, 8, none⟩ (.int .i64 0)).setCell ⟨w.heap.size, 9, none⟩ (.int .i64 0)).setCell ⟨w.heap.size, 10, none⟩ (.int .i64 0)).setCell ⟨w.heap.size, 11, none⟩ (.int .i64 0)).setCell ⟨w.heap.size, 12, none⟩ (.bool false)).setCell ⟨w.heap.size, 13, none⟩ (.slice B acc.length d)) ∧ Hid (WF.heap[w.heap.size]? = some (.cells #[.int .i64 3, .string ⟨lw.toArray⟩, .int .i64 0, .int .i64 0, .int .i64 0, .int .i64 0, .int .i64 0, .int .i64 0, .int .i64 0, .int .i64 0, .int .i64 0, .int .i64 0, .bool false, .slice B acc.length d] 72 (0, 0)) ∧ Rc WF b A c L (ck false ⟨si, false⟩) ∧ w.grownBy WF (some b) ∧ PtV WF ⟨⟨3, lw, (0, 0), (0, 0), (0, 0), (0, 0), (0, 0), false, acc⟩, B, d⟩) := ⟨_, rfl, Lib.hid (ent_end (x := ⟨3, lw, (0, 0), (0, 0), (0, 0), (0, 0), (0, 0), false, acc⟩) HE202.out hlb HRC.out (Nat.le_trans HFL.out (by decide)) HLW.out)⟩
      have HWF := Lib.hid hWF
      clear hWF
      have y0 := cell_of HE202.out.obj 0 (.int .i64 3) rfl
      have y1 := cell_of HE202.out.obj 1 (.string ⟨lw.toArray⟩) rfl
      have y2 := cell_of HE202.out.obj 2 (.int .i64 0) rfl
      have y3 := cell_of HE202.out.obj 3 (.int .i64 0) rfl
      have y4 := cell_of HE202.out.obj 4 (.int .i64 0) rfl
      have y5 := cell_of HE202.out.obj 5 (.int .i64 0) rfl
      have y6 := cell_of HE202.out.obj 6 (.int .i64 0) rfl
      have y7 := cell_of HE202.out.obj 7 (.int .i64 0) rfl
      have y8 := cell_of HE202.out.obj 8 (.int .i64 0) rfl
      have y9 := cell_of HE202.out.obj 9 (.int .i64 0) rfl
      have y10 := cell_of HE202.out.obj 10 (.int .i64 0) rfl
      have y11 := cell_of HE202.out.obj 11 (.int .i64 0) rfl
      have y12 := cell_of HE202.out.obj 12 (.bool false) rfl
      have y13 := cell_of HE202.out.obj 13 (.slice B acc.length d) rfl
      have r0 := cell_of HE202.out.res 0 _ rfl
      have f0 := free_of HE202.out.res 0
      have r1 := cell_of HE202.out.res 1 _ rfl
      have f1 := free_of HE202.out.res 1
      have r2 := cell_of HE202.out.res 2 _ rfl
      have f2 := free_of HE202.out.res 2
      have r3 := cell_of HE202.out.res 3 _ rfl
      have f3 := free_of HE202.out.res 3
      have r4 := cell_of HE202.out.res 4 _ rfl
      have f4 := free_of HE202.out.res 4
      have r5 := cell_of HE202.out.res 5 _ rfl
      have f5 := free_of HE202.out.res 5
      have r6 := cell_of HE202.out.res 6 _ rfl
      have f6 := free_of HE202.out.res 6
      have r7 := cell_of HE202.out.res 7 _ rfl
      have f7 := free_of HE202.out.res 7
      have r8 := cell_of HE202.out.res 8 _ rfl
      have f8 := free_of HE202.out.res 8
      have r9 := cell_of HE202.out.res 9 _ rfl
      have f9 := free_of HE202.out.res 9
      have r10 := cell_of HE202.out.res 10 _ rfl
      have f10 := free_of HE202.out.res 10
      have r11 := cell_of HE202.out.res 11 _ rfl
      have f11 := free_of HE202.out.res 11
      have r12 := cell_of HE202.out.res 12 _ rfl
      have f12 := free_of HE202.out.res 12
      have r13 := cell_of HE202.out.res 13 _ rfl
      have f13 := free_of HE202.out.res 13
      go_wp2
      rw [← HWF.out]
      have HF2 := HF.out
      have l0 := cell_of HF2.1 0 (.int .i64 3) rfl
      have l1 := cell_of HF2.1 1 (.string ⟨lw.toArray⟩) rfl
      have l2 := cell_of HF2.1 2 (.int .i64 0) rfl
      have l3 := cell_of HF2.1 3 (.int .i64 0) rfl
      have l4 := cell_of HF2.1 4 (.int .i64 0) rfl
      have l5 := cell_of HF2.1 5 (.int .i64 0) rfl
      have l6 := cell_of HF2.1 6 (.int .i64 0) rfl
      have l7 := cell_of HF2.1 7 (.int .i64 0) rfl
      have l8 := cell_of HF2.1 8 (.int .i64 0) rfl
      have l9 := cell_of HF2.1 9 (.int .i64 0) rfl
      have l10 := cell_of HF2.1 10 (.int .i64 0) rfl
      have l11 := cell_of HF2.1 11 (.int .i64 0) rfl
      have l12 := cell_of HF2.1 12 (.bool false) rfl
      have l13 := cell_of HF2.1 13 (.slice B acc.length d) rfl
      refine bodyPost_ret (v := .agg #[.int .i64 3, .string ⟨lw.toArray⟩, .int .i64 0, .int .i64 0, .int .i64 0, .int .i64 0, .int .i64 0, .int .i64 0, .int .i64 0, .int .i64 0, .int .i64 0, .int .i64 0, .bool false, .slice B acc.length d]) (by simp [results, Tryz.results31, go_sem, l0, l1, l2, l3, l4, l5, l6, l7, l8, l9, l10, l11, l12, l13]) rfl ?_
      exact ⟨by rw [HS9.out]; exact HF2.2.1, HF2.2.2.1, ⟨⟨3, lw, (0, 0), (0, 0), (0, 0), (0, 0), (0, 0), false, acc⟩, B, d⟩, rfl, HF2.2.2.2, HR9.out⟩
     ·have HS9 : Hid (RS = ⟨si, false⟩) := Lib.hid (HRS1.out.trans (ck_true _))
      go_wp2_with fail
      refine (HVC.out _ HPV.out).mono ?_
      rintro r wv ⟨rfl, hbv⟩
      have HE201 := Lib.hid (HE300.out.below hlb hbv)
      clear c0 c1 c2 y0 y1 y2 y3 y4 y5 y6 y7 y8 y9 y10 y11 y12 y13 hbv
      obtain ⟨WF, hWF, HF⟩ : ∃ WF, WF = ((((((((((((((wv.setCell ⟨w.heap.size, 0, none⟩ (.int .i64 3)).setCell ⟨w.heap.size, 1, none⟩ (.string ⟨lw.toArray⟩)).setCell ⟨w.heap.size, 2, none⟩ (.int .i64 0)).setCell ⟨w.heap.size, 3, none⟩ (.int .i64 0)).setCell ⟨w.heap.size, 4, none⟩ (.int .i64 0)).setCell ⟨w.heap.size, 5, none⟩ (.int .i64 0)).setCell ⟨w.heap.size, 6, none⟩ (.int .i64 0)).setCell ⟨w.heap.size, 7, none⟩ (.int .i64 0)).setCell ⟨w.heap.size, 8, none⟩ (.int .i64 0)).setCell ⟨w.heap.size, 9, none⟩ (.int .i64 0)).setCell ⟨w.heap.size, 10, none⟩ (.int .i64 0)).setCell ⟨w.heap.size, 11, none⟩ (.int .i64 0)).setCell ⟨w.heap.size, 12, none⟩ (.bool false)).setCell ⟨w.heap.size, 13, none⟩ (.slice B acc.length d)) ∧ Hid (WF.heap[w.heap.size]? = some (.cells #[.int .i64 3, .string ⟨lw.toArray⟩, .int .i64 0, .int .i64 0, .int .i64 0, .int .i64 0, .int .i64 0, .int .i64 0, .int .i64 0, .int .i64 0, .int .i64 0, .int .i64 0, .bool false, .slice B acc.length d] 72 (0, 0)) ∧ Rc WF b A c L ⟨si, false⟩ ∧ w.grownBy WF (some b) ∧ PtV WF ⟨⟨3, lw, (0, 0), (0, 0), (0, 0), (0, 0), (0, 0), false, acc⟩, B, d⟩) := ⟨_, rfl, Lib.hid (ent_end (x := ⟨3, lw, (0, 0), (0, 0), (0, 0), (0, 0), (0, 0), false, acc⟩) HE201.out hlb HRC.out (Nat.le_trans HFL.out (by decide)) HLW.out)⟩
      have HWF := Lib.hid hWF
      clear hWF
      have y0 := cell_of HE201.out.obj 0 (.int .i64 3) rfl
      have y1 := cell_of HE201.out.obj 1 (.string ⟨lw.toArray⟩) rfl
      have y2 := cell_of HE201.out.obj 2 (.int .i64 0) rfl
      have y3 := cell_of HE201.out.obj 3 (.int .i64 0) rfl
      have y4 := cell_of HE201.out.obj 4 (.int .i64 0) rfl
      have y5 := cell_of HE201.out.obj 5 (.int .i64 0) rfl
      have y6 := cell_of HE201.out.obj 6 (.int .i64 0) rfl
      have y7 := cell_of HE201.out.obj 7 (.int .i64 0) rfl
      have y8 := cell_of HE201.out.obj 8 (.int .i64 0) rfl
      have y9 := cell_of HE201.out.obj 9 (.int .i64 0) rfl
      have y10 := cell_of HE201.out.obj 10 (.int .i64 0) rfl
      have y11 := cell_of HE201.out.obj 11 (.int .i64 0) rfl
      have y12 := cell_of HE201.out.obj 12 (.bool false) rfl
      have y13 := cell_of HE201.out.obj 13 (.slice B acc.length d) rfl
      have r0 := cell_of HE201.out.res 0 _ rfl
      have f0 := free_of HE201.out.res 0
      have r1 := cell_of HE201.out.res 1 _ rfl
      have f1 := free_of HE201.out.res 1
      have r2 := cell_of HE201.out.res 2 _ rfl
      have f2 := free_of HE201.out.res 2
      have r3 := cell_of HE201.out.res 3 _ rfl
      have f3 := free_of HE201.out.res 3
      have r4 := cell_of HE201.out.res 4 _ rfl
      have f4 := free_of HE201.out.res 4
      have r5 := cell_of HE201.out.res 5 _ rfl
      have f5 := free_of HE201.out.res 5
      have r6 := cell_of HE201.out.res 6 _ rfl
      have f6 := free_of HE201.out.res 6
      have r7 := cell_of HE201.out.res 7 _ rfl
      have f7 := free_of HE201.out.res 7
      have r8 := cell_of HE201.out.res 8 _ rfl
      have f8 := free_of HE201.out.res 8
      have r9 := cell_of HE201.out.res 9 _ rfl
      have f9 := free_of HE201.out.res 9
      have r10 := cell_of HE201.out.res 10 _ rfl
      have f10 := free_of HE201.out.res 10
      have r11 := cell_of HE201.out.res 11 _ rfl
      have f11 := free_of HE201.out.res 11
      have r12 := cell_of HE201.out.res 12 _ rfl
      have f12 := free_of HE201.out.res 12
      have r13 := cell_of HE201.out.res 13 _ rfl
      have f13 := free_of HE201.out.res 13
      go_wp2
      rw [← HWF.out]
      have HF2 := HF.out
      have l0 := cell_of HF2.1 0 (.int .i64 3) rfl
      have l1 := cell_of HF2.1 1 (.string ⟨lw.toArray⟩) rfl
      have l2 := cell_of HF2.1 2 (.int .i64 0) rfl
      have l3 := cell_of HF2.1 3 (.int .i64 0) rfl
      have l4 := cell_of HF2.1 4 (.int .i64 0) rfl
      have l5 := cell_of HF2.1 5 (.int .i64 0) rfl
      have l6 := cell_of HF2.1 6 (.int .i64 0) rfl
      have l7 := cell_of HF2.1 7 (.int .i64 0) rfl
      have l8 := cell_of HF2.1 8 (.int .i64 0) rfl
      have l9 := cell_of HF2.1 9 (.int .i64 0) rfl
      have l10 := cell_of HF2.1 10 (.int .i64 0) rfl
      have l11 := cell_of HF2.1 11 (.int .i64 0) rfl
      have l12 := cell_of HF2.1 12 (.bool false) rfl
      have l13 := cell_of HF2.1 13 (.slice B acc.length d) rfl
      refine bodyPost_ret (v := .agg #[.int .i64 3, .string ⟨lw.toArray⟩, .int .i64 0, .int .i64 0, .int .i64 0, .int .i64 0, .int .i64 0, .int .i64 0, .int .i64 0, .int .i64 0, .int .i64 0, .int .i64 0, .bool false, .slice B acc.length d]) (by simp [results, Tryz.results31, go_sem, l0, l1, l2, l3, l4, l5, l6, l7, l8, l9, l10, l11, l12, l13]) rfl ?_
      exact ⟨by rw [HS9.out]; exact HF2.2.1, HF2.2.2.1, ⟨⟨3, lw, (0, 0), (0, 0), (0, 0), (0, 0), (0, 0), false, acc⟩, B, d⟩, rfl, HF2.2.2.2, HR9.out⟩
    ·have HS9 : Hid (RS = ⟨si, true⟩) := Lib.hid (HRS1.out.trans (ck_bad rfl))
     have HR9 : Hid (RS.bad = false → ⟨3, lw, (0, 0), (0, 0), (0, 0), (0, 0), (0, 0), false, acc⟩ = RE) := Lib.hid (fun hb => by rw [HS9.out] at hb; cases hb)
     obtain ⟨WF, hWF, HF⟩ : ∃ WF, WF = ((((((((((((((wr.setCell ⟨w.heap.size, 0, none⟩ (.int .i64 3)).setCell ⟨w.heap.size, 1, none⟩ (.string ⟨lw.toArray⟩)).setCell ⟨w.heap.size, 2, none⟩ (.int .i64 0)).setCell ⟨w.heap.size, 3, none⟩ (.int .i64 0)).setCell ⟨w.heap.size, 4, none⟩ (.int .i64 0)).setCell ⟨w.heap.size, 5, none⟩ (.int .i64 0)).setCell ⟨w.heap.size, 6, none⟩ (.int .i64 0)).setCell ⟨w.heap.size, 7, none⟩ (.int .i64 0)).setCell ⟨w.heap.size, 8, none⟩ (.int .i64 0)).setCell ⟨w.heap.size, 9, none⟩ (.int .i64 0)).setCell ⟨w.heap.size, 10, none⟩ (.int .i64 0)).setCell ⟨w.heap.size, 11, none⟩ (.int .i64 0)).setCell ⟨w.heap.size, 12, none⟩ (.bool false)).setCell ⟨w.heap.size, 13, none⟩ (.slice B acc.length d)) ∧ Hid (WF.heap[w.heap.size]? = some (.cells #[.int .i64 3, .string ⟨lw.toArray⟩, .int .i64 0, .int .i64 0, .int .i64 0, .int .i64 0, .int .i64 0, .int .i64 0, .int .i64 0, .int .i64 0, .int .i64 0, .int .i64 0, .bool false, .slice B acc.length d] 72 (0, 0)) ∧ Rc WF b A c L ⟨si, true⟩ ∧ w.grownBy WF (some b) ∧ PtV WF ⟨⟨3, lw, (0, 0), (0, 0), (0, 0), (0, 0), (0, 0), false, acc⟩, B, d⟩) := ⟨_, rfl, Lib.hid (ent_end (x := ⟨3, lw, (0, 0), (0, 0), (0, 0), (0, 0), (0, 0), false, acc⟩) HE300.out hlb HRC.out (Nat.le_trans HFL.out (by decide)) HLW.out)⟩
     have HWF := Lib.hid hWF
     clear hWF
     have y0 := cell_of HE300.out.obj 0 (.int .i64 3) rfl
     have y1 := cell_of HE300.out.obj 1 (.string ⟨lw.toArray⟩) rfl
     have y2 := cell_of HE300.out.obj 2 (.int .i64 0) rfl
     have y3 := cell_of HE300.out.obj 3 (.int .i64 0) rfl
     have y4 := cell_of HE300.out.obj 4 (.int .i64 0) rfl
     have y5 := cell_of HE300.out.obj 5 (.int .i64 0) rfl
     have y6 := cell_of HE300.out.obj 6 (.int .i64 0) rfl
     have y7 := cell_of HE300.out.obj 7 (.int .i64 0) rfl
     have y8 := cell_of HE300.out.obj 8 (.int .i64 0) rfl
     have y9 := cell_of HE300.out.obj 9 (.int .i64 0) rfl
     have y10 := cell_of HE300.out.obj 10 (.int .i64 0) rfl
     have y11 := cell_of HE300.out.obj 11 (.int .i64 0) rfl
     have y12 := cell_of HE300.out.obj 12 (.bool false) rfl
     have y13 := cell_of HE300.out.obj 13 (.slice B acc.length d) rfl
     have r0 := cell_of HE300.out.res 0 _ rfl
     have f0 := free_of HE300.out.res 0
     have r1 := cell_of HE300.out.res 1 _ rfl
     have f1 := free_of HE300.out.res 1
     have r2 := cell_of HE300.out.res 2 _ rfl
     have f2 := free_of HE300.out.res 2
     have r3 := cell_of HE300.out.res 3 _ rfl
     have f3 := free_of HE300.out.res 3
     have r4 := cell_of HE300.out.res 4 _ rfl
     have f4 := free_of HE300.out.res 4
     have r5 := cell_of HE300.out.res 5 _ rfl
     have f5 := free_of HE300.out.res 5
     have r6 := cell_of HE300.out.res 6 _ rfl
     have f6 := free_of HE300.out.res 6
     have r7 := cell_of HE300.out.res 7 _ rfl
     have f7 := free_of HE300.out.res 7
     have r8 := cell_of HE300.out.res 8 _ rfl
     have f8 := free_of HE300.out.res 8
     have r9 := cell_of HE300.out.res 9 _ rfl
     have f9 := free_of HE300.out.res 9
     have r10 := cell_of HE300.out.res 10 _ rfl
     have f10 := free_of HE300.out.res 10
     have r11 := cell_of HE300.out.res 11 _ rfl
     have f11 := free_of HE300.out.res 11
     have r12 := cell_of HE300.out.res 12 _ rfl
     have f12 := free_of HE300.out.res 12
     have r13 := cell_of HE300.out.res 13 _ rfl
     have f13 := free_of HE300.out.res 13
     go_wp2
     rw [← HWF.out]
     have HF2 := HF.out
     have l0 := cell_of HF2.1 0 (.int .i64 3) rfl
     have l1 := cell_of HF2.1 1 (.string ⟨lw.toArray⟩) rfl
     have l2 := cell_of HF2.1 2 (.int .i64 0) rfl
     have l3 := cell_of HF2.1 3 (.int .i64 0) rfl
     have l4 := cell_of HF2.1 4 (.int .i64 0) rfl
     have l5 := cell_of HF2.1 5 (.int .i64 0) rfl
     have l6 := cell_of HF2.1 6 (.int .i64 0) rfl
     have l7 := cell_of HF2.1 7 (.int .i64 0) rfl
     have l8 := cell_of HF2.1 8 (.int .i64 0) rfl
     have l9 := cell_of HF2.1 9 (.int .i64 0) rfl
     have l10 := cell_of HF2.1 10 (.int .i64 0) rfl
     have l11 := cell_of HF2.1 11 (.int .i64 0) rfl
     have l12 := cell_of HF2.1 12 (.bool false) rfl
     have l13 := cell_of HF2.1 13 (.slice B acc.length d) rfl
     refine bodyPost_ret (v := .agg #[.int .i64 3, .string ⟨lw.toArray⟩, .int .i64 0, .int .i64 0, .int .i64 0, .int .i64 0, .int .i64 0, .int .i64 0, .int .i64 0, .int .i64 0, .int .i64 0, .int .i64 0, .bool false, .slice B acc.length d]) (by simp [results, Tryz.results31, go_sem, l0, l1, l2, l3, l4, l5, l6, l7, l8, l9, l10, l11, l12, l13]) rfl ?_
     exact ⟨by rw [HS9.out]; exact HF2.2.1, HF2.2.2.1, ⟨⟨3, lw, (0, 0), (0, 0), (0, 0), (0, 0), (0, 0), false, acc⟩, B, d⟩, rfl, HF2.2.2.2, HR9.out⟩
set_option maxRecDepth 100000 in
set_option maxHeartbeats 4000000 in
theorem rentity_polyb (L : List (List UInt8)) (A : Option Addr) (c b : Nat) (s : Gt.S) (w : World) (h : Rc w b A c L s) (HN0 : Hid (Lex.isName (rnx L (cd L 8 s)).1 = false)) :
  Calls Tryz.prog 31 #[.pointer (some ⟨b, 0, none⟩), .string ⟨kPoly.toArray⟩] w fun e w' => Rc w' b A c L (rdEnt L kPoly s).2 ∧ w.grownBy w' (some b) ∧ ∃ x : EntV, e = .returned (.agg (entVals x).toArray) ∧ PtV w' x ∧ ((rdEnt L kPoly s).2.bad = false → x.e = (rdEnt L kPoly s).1) := by
 have hlb := blk_lt h.obj
 obtain ⟨RS, HRS⟩ : ∃ RS, Hid ((rdEnt L kPoly s).2 = RS) := ⟨_, Lib.hid rfl⟩
 obtain ⟨RE, HRE⟩ : ∃ RE, Hid ((rdEnt L kPoly s).1 = RE) := ⟨_, Lib.hid rfl⟩
 rw [HRS.out, HRE.out]
 have HRC := Lib.hid h
 have HB0 : Below w.heap.size w ((w.alloc (.cells #[.int .i64 0, .string ⟨#[]⟩, .int .i64 0, .int .i64 0, .int .i64 0, .int .i64 0, .int .i64 0, .int .i64 0, .int .i64 0, .int .i64 0, .int .i64 0, .int .i64 0, .bool false, .slice none 0 0] 72)).alloc (.cells #[.int .i64 0, .string ⟨#[]⟩, .int .i64 0, .int .i64 0, .int .i64 0, .int .i64 0, .int .i64 0, .int .i64 0, .int .i64 0, .int .i64 0, .int .i64 0, .int .i64 0, .bool false, .slice none 0 0] 72)) := ((Below.refl _ _).alloc (Nat.le_refl _) _).alloc (by simp) _
 have HE0 : Hid (ESt w ((w.alloc (.cells #[.int .i64 0, .string ⟨#[]⟩, .int .i64 0, .int .i64 0, .int .i64 0, .int .i64 0, .int .i64 0, .int .i64 0, .int .i64 0, .int .i64 0, .int .i64 0, .int .i64 0, .bool false, .slice none 0 0] 72)).alloc (.cells #[.int .i64 0, .string ⟨#[]⟩, .int .i64 0, .int .i64 0, .int .i64 0, .int .i64 0, .int .i64 0, .int .i64 0, .int .i64 0, .int .i64 0, .int .i64 0, .int .i64 0, .bool false, .slice none 0 0] 72)) b A c L s ⟨0, [], (0, 0), (0, 0), (0, 0), (0, 0), (0, 0), false, []⟩ none 0) := Lib.hid
  ⟨p_below h.obj HB0, p_below (GeW.heap_alloc_new w _) ((Below.refl _ _).alloc (Nat.le_refl _) _), (by have := GeW.heap_alloc_new (w.alloc (.cells #[.int .i64 0, .string ⟨#[]⟩, .int .i64 0, .int .i64 0, .int .i64 0, .int .i64 0, .int .i64 0, .int .i64 0, .int .i64 0, .int .i64 0, .int .i64 0, .int .i64 0, .bool false, .slice none 0 0] 72)) (.cells #[.int .i64 0, .string ⟨#[]⟩, .int .i64 0, .int .i64 0, .int .i64 0, .int .i64 0, .int .i64 0, .int .i64 0, .int .i64 0, .int .i64 0, .int .i64 0, .int .i64 0, .bool false, .slice none 0 0] 72); rw [World.size_alloc] at this; exact this), World.ownsRow_nil _ _ _ _, grown_below (grown_refl w (some b)) HB0⟩
 obtain ⟨i0, ia, ib, ic, id⟩ := info_parts info_vec
 have HC := Lib.hid (fun W hW => rcode_any L A c b s 8 W hW (by omega))
 have HSH := Lib.hid (rnx_short (L := L) (s := cd L 8 s) h.short)
 have HLY : Hid (rdLay L s = if Lex.isName (rnx L (cd L 8 s)).1 = true then rnx L (cd L 8 s) else ([], ck false (rnx L (cd L 8 s)).2)) := Lib.hid (nx_rnx L Lex.isName (cd L 8 s) (by decide)).symm
 have HI := Lib.hid (rnx_i (L := L) (s := cd L 8 s))
 clear HB0 h
 generalize cd L 8 s = s1 at *
 have HN := Lib.hid (fun W hW => rnext_any L A c b s1 W hW)
 generalize rnx L s1 = ly at *
 obtain ⟨lw, s2⟩ := ly
 simp only at HSH HLY HI HN HN0
 have HLW : Hid (lw.length ≤ 1000000) := HSH
 have HNM : Hid (∀ W, Calls Tryz.prog 66 #[.string ⟨lw.toArray⟩] W fun r w' => r = .returned (.bool (Lex.isName lw)) ∧ W = w') := Lib.hid (fun W => (LexW.risName_any ⟨lw.toArray⟩ W (by rw [str_size]; exact HSH.out)).mono fun _ _ h => ⟨h.1, h.2⟩)
 have z1 := cell_of HE0.out.obj 1 _ rfl
 have q1 := free_of HE0.out.obj 1
 go_enter Tryz.func31, Tryz.ntmps31
 go_wp2_with fail
 clear z1 q1
 generalize (w.alloc (.cells #[.int .i64 0, .string ⟨#[]⟩, .int .i64 0, .int .i64 0, .int .i64 0, .int .i64 0, .int .i64 0, .int .i64 0, .int .i64 0, .int .i64 0, .int .i64 0, .int .i64 0, .bool false, .slice none 0 0] 72)).alloc (.cells #[.int .i64 0, .string ⟨#[]⟩, .int .i64 0, .int .i64 0, .int .i64 0, .int .i64 0, .int .i64 0, .int .i64 0, .int .i64 0, .int .i64 0, .int .i64 0, .int .i64 0, .bool false, .slice none 0 0] 72) = W0 at *
 refine (HC.out _ (HE0.out.rc HRC.out)).mono ?_
 rintro e w1 ⟨rfl, h1, g1⟩
 have HE1 := Lib.hid (HE0.out.step hlb h1.obj g1)
 clear h1 g1
 go_wp2_with fail
 refine (HN.out _ (HE1.out.rc HRC.out)).mono ?_
 rintro e w2 ⟨rfl, h2, g2⟩
 have HE2 := Lib.hid (HE1.out.step hlb h2.obj g2)
 clear h2 g2
 have z1 := cell_of HE2.out.obj 1 _ rfl
 have q1 := free_of HE2.out.obj 1
 have HE3 := Lib.hid (ESt.put (x' := ⟨0, lw, (0, 0), (0, 0), (0, 0), (0, 0), (0, 0), false, []⟩) HE2.out hlb 1 (.string ⟨lw.toArray⟩) (block_set HE2.out.obj 1 (.string ⟨lw.toArray⟩)) rfl)
 obtain ⟨s4, HS4⟩ : ∃ s4, Hid ((rdLay L s).2 = s4) := ⟨_, Lib.hid rfl⟩
 have HLL : Hid (s4.bad = false → Lex.isName lw = true ∧ (rdLay L s).1 = lw) := Lib.hid (fun hb => by
  rw [← HS4.out, HLY.out] at hb
  rw [HLY.out]
  by_cases hn : Lex.isName lw = true
  ·rw [if_pos hn]; exact ⟨hn, rfl⟩
  ·rw [if_neg hn] at hb
   obtain ⟨i2, b2⟩ := s2
   unfold ck at hb
   cases b2 <;> simp at hb)
 go_upto_region 4 with fail
 generalize w2.setCell ⟨w.heap.size + 1, 1, none⟩ (.string ⟨lw.toArray⟩) = W3 at *
 have z1 := cell_of HE3.out.obj 1 _ rfl
 cases hn : Lex.isName lw
 ·have HS5 : Hid (ck false s2 = s4) := Lib.hid (by rw [← HS4.out, HLY.out, hn]; simp)
  have HW := Lib.hid (fun W hW => rwrong_any L A c b s2 W hW HI.out)
  rw [HS5.out] at HW
  rw [hn] at HNM
  clear hn
  go_wp2_with fail
  refine (HNM.out _).mono ?_
  rintro r w4 ⟨rfl, rfl⟩
  clear z1
  go_wp2_with fail
  refine (HW.out _ (HE3.out.rc HRC.out)).mono ?_
  rintro e w4 ⟨rfl, h4, g4⟩
  have HE4 := Lib.hid (HE3.out.step hlb h4.obj g4)
  clear h4 g4
  have HQK : Hid ((ByteArray.mk kPoly.toArray).toList = [80, 79, 76, 89]) := Lib.hid (by rw [Go.ByteArray.toList_eq]; rfl)
  generalize (ByteArray.mk kPoly.toArray) = XB at *
  have ekLine : (XB.toList = [76, 73, 78, 69]) = False := eq_false (by rw [HQK.out]; decide)
  have bkLine : (XB.toList == [76, 73, 78, 69]) = false := by rw [HQK.out]; rfl
  have ekArc : (XB.toList = [65, 82, 67]) = False := eq_false (by rw [HQK.out]; decide)
  have bkArc : (XB.toList == [65, 82, 67]) = false := by rw [HQK.out]; rfl
  have ekPoly : (XB.toList = [80, 79, 76, 89]) = True := eq_true HQK.out
  have bkPoly : (XB.toList == [80, 79, 76, 89]) = true := by rw [HQK.out]; rfl
  have HBD := nb_pts (L := L) (s := s4)
  obtain ⟨FIN, HFIN⟩ : ∃ FIN, Hid (rdPts L (nb L 90 3 40 s4).1.toNat [] (nb L 90 3 40 s4).2 = FIN) := ⟨_, Lib.hid rfl⟩
  have HRP : Hid (rdPoly L (rdLay L s).1 (rdLay L s).2 = (⟨3, (rdLay L s).1, (0, 0), (0, 0), (0, 0), (0, 0), (0, 0), false, FIN.1⟩, FIN.2)) := Lib.hid (by
   unfold rdPoly
   rw [HS4.out, HFIN.out]
   rfl)
  obtain ⟨g, HG⟩ : ∃ g, Hid (true = g) := ⟨_, Lib.hid rfl⟩
  have HRS1 : Hid (RS = ck g FIN.2) := Lib.hid (by
   rw [← HRS.out, ← HG.out, ck_true]
   show (rdKind L kPoly (rdLay L s).1 (rdLay L s).2).2 = _
   unfold rdKind
   rw [if_neg (by decide), if_neg (by decide), HRP.out])
  have HB4 : Hid (FIN.2.bad = false → s4.bad = false) := Lib.hid (fun hb => by
   rw [← HS4.out]
   refine not_bad (stay_poly (rdLay L s).1) (L := L) (s := (rdLay L s).2) ?_
   rw [← (rdPoly_eq L (rdLay L s).1 (rdLay L s).2).1, HRP.out]
   exact hb)
  have HRX : Hid (FIN.2.bad = false → RE = ⟨3, lw, (0, 0), (0, 0), (0, 0), (0, 0), (0, 0), false, FIN.1⟩) := Lib.hid (fun hb => by
   rw [← HRE.out]
   show (rdKind L kPoly (rdLay L s).1 (rdLay L s).2).1 = _
   unfold rdKind
   rw [if_neg (by decide), if_neg (by decide), HRP.out, (HLL.out (HB4.out hb)).2])
  have HOK : Hid (FIN.2.bad = false → entOk ⟨3, lw, (0, 0), (0, 0), (0, 0), (0, 0), (0, 0), false, FIN.1⟩ = g) := Lib.hid (fun hb => by
   have h9 := (HLL.out (HB4.out hb))
   have := @poly_ok L lw s4 h9.1 (by unfold rdPoly; rw [HFIN.out]; exact hb)
   unfold rdPoly at this
   rw [HFIN.out] at this
   rw [← HG.out]
   exact this)
  have HIX : Hid (FIN.2.bad = false → 1 ≤ FIN.2.i ∧ FIN.2.i ≤ L.length) := Lib.hid (by
   rw [← HFIN.out]
   exact pts_i L _ _ _ nb_i)
  have HFL : Hid (FIN.1.length ≤ 40) := Lib.hid (by
   have h1 := rdPts_len L (nb L 90 3 40 s4).1.toNat [] (nb L 90 3 40 s4).2
   rw [HFIN.out] at h1
   simp only [List.length_nil] at h1
   omega)
  have HPN := Lib.hid (fun W hW => rnumber_any L A c b s4 90 3 40 W hW (by omega) (by omega) (by omega))
  rcases hr : nb L 90 3 40 s4 with ⟨nv, s5⟩
  rw [hr] at HPN HBD HFIN
  simp only at HBD
  obtain ⟨m0, rfl⟩ : ∃ m0 : Nat, nv = (m0 : Int) := ⟨nv.toNat, by omega⟩
  have HF0 : Hid (rdPts L m0 [] s5 = FIN) := Lib.hid (by have := HFIN.out; simpa using this)
  have hm40 : m0 ≤ 40 := by omega
  clear hr HBD HFIN HRP HG
  have z0 := cell_of HE4.out.obj 0 _ rfl
  have q0 := free_of HE4.out.obj 0
  have HE100 := Lib.hid (ESt.put (x' := ⟨3, lw, (0, 0), (0, 0), (0, 0), (0, 0), (0, 0), false, []⟩) HE4.out hlb 0 (.int .i64 3) (block_set HE4.out.obj 0 (.int .i64 3)) rfl)
  go_wp2_with fail
  clear z0 q0
  generalize (w4.setCell ⟨w.heap.size + 1, 0, none⟩ (.int .i64 3)) = W100 at *
  refine (HPN.out _ (HE100.out.rc HRC.out)).mono ?_
  rintro e w101 ⟨rfl, h101, g101⟩
  have HE101 := Lib.hid (HE100.out.step hlb h101.obj g101)
  clear h101 g101
  go_wp2_with fail
  go_loopw [7] (fun v wr => ∃ (i : Nat) (acc : List V) (st : Gt.S) (B : Option Addr) (d : Nat), i ≤ m0 ∧ acc.length ≤ i ∧ v = .int .i64 (i : Nat) ∧ Hid (rdPts L (m0 - i) acc st = FIN) ∧ Hid (ESt w wr b A c L st ⟨3, lw, (0, 0), (0, 0), (0, 0), (0, 0), (0, 0), false, acc⟩ B d)) (fun v _ => m0 - (intOf v).toNat)
  case atStart => exact ⟨0, [], s5, none, 0, by omega, by simp, rfl, HF0, HE101⟩
  case round =>
   obtain ⟨i, acc, st, B, d, hi, hac, rfl, HFI, HD⟩ := hrel
   obtain ⟨c0, c1, c2, _⟩ := rcell HD.out.scn
   by_cases hlt : i < m0
   ·have dl : decide ((i : Int) < (m0 : Int)) = true := decide_eq_true (by omega)
    have dl2 : decide (i < m0) = true := decide_eq_true hlt
    obtain ⟨si, sb⟩ := st
    simp only at c1 c2
    cases sb
    ·have HFI2 : Hid (rdPts L (m0 - (i + 1)) (acc ++ [(pt L 10 ⟨si, false⟩).1]) (pt L 10 ⟨si, false⟩).2 = FIN) := Lib.hid (by
      have := HFI.out
      rw [show m0 - i = (m0 - (i + 1)) + 1 by omega, rdPts, if_neg (by simp)] at this
      exact this)
     have HPT := Lib.hid (fun W hW => rpoint_any L A c b ⟨si, false⟩ 10 W hW (by omega))
     rcases hp : pt L 10 ⟨si, false⟩ with ⟨⟨px, py⟩, s9⟩
     rw [hp] at HFI2 HPT
     simp only at HFI2 HPT
     clear hp HFI
     have CH : Hid (acc.length + 1 ≤ maxLen ∧ (acc.length + 1) * 16 ≤ 140737488355328) := Lib.hid (by unfold maxLen; omega)
     have z13 := cell_of HD.out.obj 13 _ rfl
     have HD := Lib.hid (HD.out.below hlb (below_drewN (Below.refl _ _) 1))
     go_wp2_with fail
     refine wp_region_tillK (k := 7) (S1 := fun w' => True) (S2 := fun w' => w'.cell? ⟨w.heap.size + 1, 13, none⟩ = some (.slice B acc.length d)) (by kernel_rfl) ?_ (fun hHeld => ?_)
     ·exact ⟨trivial, z13⟩
     refine wpAnyK_take (i := 0) (oi := { dst := some 35, op := Op.fieldAddr 72 (Operand.tmp 5) 5, type := 0, pos := "ref.go:195", after := #[], guard := none }) (v := ?_) rfl (by kernel_rfl) (by kernel_rfl) (by kernel_rfl) (by kernel_rfl) (fun _ _ _ h => h) (Or.inl ⟨by rfl, ?_⟩) (by assumption) ?_
     rotate_left
     ·intro w' hSw
      (try dsimp only at hSw)
      first | (go_simp; done) | (go_simp; with_reducible rfl)
     try simp only [Act.put, List.setIfInBounds_toArray, List.set_cons_zero, List.set_cons_succ]
     refine wpAnyK_take (i := 1) (oi := { dst := some 36, op := Op.load 50 (Operand.tmp 35), type := 50, pos := "ref.go:195", after := #[{ on := 0, ground := Ground.data }], guard := none }) (v := ?_) rfl (by kernel_rfl) (by kernel_rfl) (by kernel_rfl) (by kernel_rfl) (fun _ _ _ h => h) (Or.inl ⟨by rfl, ?_⟩) (by assumption) ?_
     rotate_left
     ·intro w' hSw
      (try dsimp only at hSw)
      first | (go_simp; done) | (go_simp; with_reducible rfl)
     try simp only [Act.put, List.setIfInBounds_toArray, List.set_cons_zero, List.set_cons_succ]
     refine wpAnyK_take (i := 2) (oi := { dst := some 37, op := Op.move (Operand.tmp 0), type := 68, pos := "ref.go:195", after := #[], guard := none }) (v := ?_) rfl (by kernel_rfl) (by kernel_rfl) (by kernel_rfl) (by kernel_rfl) (fun _ _ _ h => h) (Or.inl ⟨by rfl, ?_⟩) (by assumption) ?_
     rotate_left
     ·intro w' hSw
      (try dsimp only at hSw)
      first | (go_simp; done) | (go_simp; with_reducible rfl)
     try simp only [Act.put, List.setIfInBounds_toArray, List.set_cons_zero, List.set_cons_succ]
     refine wpAnyK_one (i := 3) (o := { dst := some 38, op := Op.call { callee := Callee.value (Operand.func 67), args := #[Operand.tmp 37, Operand.const (Value.int IntKind.i64 10)], argTypes := #[68, 3] }, type := 47, pos := "ref.go:195", after := #[{ on := 2, ground := Ground.data }], guard := none }) (by kernel_rfl) rfl (fun K hK => ?_)
     go_simp
     go_at_call 67
     refine (HPT.out _ (HD.out.rc HRC.out)).mono ?_
     rintro e w1 ⟨rfl, h1, g1⟩
     have HE1 := Lib.hid (HD.out.step hlb h1.obj g1)
     clear h1 g1
     have y13 := cell_of HE1.out.obj 13 _ rfl
     refine hK.out _ _ ?_ (fun _ => ?_) (fun hHeld => ?_)
     ·exact trivial
     ·exact y13
     replace hHeld := And.intro hHeld.1 (hHeld.2 (by decide))
     clear hK K
     try simp only [Act.put, List.setIfInBounds_toArray, List.set_cons_zero, List.set_cons_succ]
     refine wpAnyK_one (i := 4) (o := { dst := some 39, op := Op.buildSlice 50 1 #[(0, Operand.tmp 38)], type := 50, pos := "ref.go:195", after := #[{ on := 3, ground := Ground.data }], guard := none }) (by kernel_rfl) rfl (fun K hK => ?_)
     go_simp
     have HN2 := Lib.hid (GeW.newN_row w1 [.int .i64 px, .int .i64 py] 47)
     have HE2 := Lib.hid (HE1.out.below hlb (bel1 w1 (.cells #[.int .i64 px, .int .i64 py] 47)))
     have x13 := cell_of HE2.out.obj 13 _ rfl
     refine hK.out _ _ ?_ (fun _ => ?_) (fun hHeld => ?_)
     ·exact trivial
     ·exact x13
     replace hHeld := And.intro hHeld.1 (hHeld.2 (by decide))
     clear hK K
     try simp only [Act.put, List.setIfInBounds_toArray, List.set_cons_zero, List.set_cons_succ]
     refine wpAnyK_one (i := 5) (o := { dst := some 40, op := Op.call { callee := Callee.builtin Builtin.append, args := #[Operand.tmp 36, Operand.tmp 39], argTypes := #[50, 50] }, type := 50, pos := "ref.go:195", after := #[{ on := 1, ground := Ground.data }, { on := 4, ground := Ground.data }, { on := 3, ground := Ground.chain }], guard := none }) (by kernel_rfl) rfl (fun K hK => ?_)
     refine GeW.step_append_row (by rfl) _ _ _ (by rfl) (w.heap.size + 2) 47 i0 _ 2 16 Tryz.underlying50 ia ib ic id rfl (by omega) (.slice B acc.length d) acc.length (acc.flatMap GeW.ptCells) (by rfl) HE2.out.own (some ⟨w1.heap.size, 0, none⟩) 1 1 [.int .i64 px, .int .i64 py] (by rfl) HN2.out rfl (by intro u hu; simp at hu; rcases hu with rfl | rfl <;> rfl) CH.out.1 CH.out.2 (by have := blk_lt HE2.out.obj; omega) ?_
     intro v3 w3 hown3 hgrow3
     obtain ⟨B3, d3, rfl, _⟩ := own_shape hown3
     have HR3 := Lib.hid (fun k hk => (HE2.out.own.lt k hk).1)
     have HE3 := Lib.hid (HE2.out.push hlb hgrow3 hown3)
     clear hown3 hgrow3 x13
     have z13 := cell_of HE3.out.1 13 _ rfl
     have q13 := free_of HE3.out.1 13
     refine hK.out _ _ ?_ (fun _ => ?_) (fun hHeld => ?_)
     ·exact trivial
     ·exact z13
     replace hHeld := And.intro hHeld.1 (hHeld.2 (by decide))
     clear hK K
     try simp only [Act.put, List.setIfInBounds_toArray, List.set_cons_zero, List.set_cons_succ]
     refine wpAnyK_one (i := 6) (o := { dst := some 41, op := Op.fieldAddr 72 (Operand.tmp 5) 5, type := 0, pos := "ref.go:195", after := #[{ on := 0, ground := Ground.phase }, { on := 1, ground := Ground.phase }, { on := 2, ground := Ground.phase }, { on := 3, ground := Ground.phase }, { on := 4, ground := Ground.phase }, { on := 5, ground := Ground.phase }], guard := none }) (by kernel_rfl) rfl (fun K hK => ?_)
     go_simp
     refine hK.out _ _ ?_ (fun _ => ?_) (fun hHeld => ?_)
     ·exact trivial
     ·exact z13
     replace hHeld := And.intro hHeld.1 (hHeld.2 (by decide))
     clear hK K
     try simp only [Act.put, List.setIfInBounds_toArray, List.set_cons_zero, List.set_cons_succ]
     refine wpAnyK_one (i := 7) (o := { dst := none, op := Op.store 50 (Operand.tmp 41) (Operand.tmp 40), type := 0, pos := "ref.go:195", after := #[{ on := 6, ground := Ground.data }, { on := 5, ground := Ground.data }, { on := 5, ground := Ground.chain }, { on := 0, ground := Ground.phase }, { on := 1, ground := Ground.phase }, { on := 2, ground := Ground.phase }, { on := 3, ground := Ground.phase }, { on := 4, ground := Ground.phase }, { on := 5, ground := Ground.phase }], guard := none }) (by kernel_rfl) rfl (fun K hK => ?_)
     go_simp
     refine hK.out _ _ ?_ (fun hne => ?_) (fun hHeld => ?_)
     ·exact trivial
     ·exact absurd rfl hne
     clear hK K
     try simp only [Act.put, List.setIfInBounds_toArray, List.set_cons_zero, List.set_cons_succ]
     refine wpAnyK_done (by kernel_rfl) ?_ _
     go_wp2
     go_roundw
     case rel =>
      refine ⟨i + 1, acc ++ [(px, py)], s9, B3, d3, hlt, by rw [List.length_append]; simp; omega, by go_num, HFI2, Lib.hid ?_⟩
      exact HE3.out.2
     case measure => simp [intOf]; omega
    ·have HFE : Hid ((acc, ⟨si, true⟩) = FIN) := Lib.hid (by
      have := HFI.out
      rw [show m0 - i = (m0 - (i + 1)) + 1 by omega, rdPts, if_pos rfl] at this
      exact this)
     have hfe := HFE.out
     subst hfe
     simp only at HRS1 HRX HOK HIX HFL
     clear HFI HFE HF0
     rename_i hsb
     go_upto_region 23 with fail
     have stx : Gt.S := ⟨si, true⟩
     have HS9 : Hid (RS = ⟨si, true⟩) := Lib.hid (HRS1.out.trans (ck_bad rfl))
     have HR9 : Hid (RS.bad = false → ⟨3, lw, (0, 0), (0, 0), (0, 0), (0, 0), (0, 0), false, acc⟩ = RE) := Lib.hid (fun hb => by rw [HS9.out] at hb; cases hb)
     have HE300 := HD
     clear HD
     obtain ⟨WF, hWF, HF⟩ : ∃ WF, WF = ((((((((((((((wr.setCell ⟨w.heap.size, 0, none⟩ (.int .i64 3)).setCell ⟨w.heap.size, 1, none⟩ (.string ⟨lw.toArray⟩)).setCell ⟨w.heap.size, 2, none⟩ (.int .i64 0)).setCell ⟨w.heap.size, 3, none⟩ (.int .i64 0)).setCell ⟨w.heap.size, 4, none⟩ (.int .i64 0)).setCell ⟨w.heap.size, 5, none⟩ (.int .i64 0)).setCell ⟨w.heap.size, 6, none⟩ (.int .i64 0)).setCell ⟨w.heap.size, 7, none⟩ (.int .i64 0)).setCell ⟨w.heap.size, 8, none⟩ (.int .i64 0)).setCell ⟨w.heap.size, 9, none⟩ (.int .i64 0)).setCell ⟨w.heap.size, 10, none⟩ (.int .i64 0)).setCell ⟨w.heap.size, 11, none⟩ (.int .i64 0)).setCell ⟨w.heap.size, 12, none⟩ (.bool false)).setCell ⟨w.heap.size, 13, none⟩ (.slice B acc.length d)) ∧ Hid (WF.heap[w.heap.size]? = some (.cells #[.int .i64 3, .string ⟨lw.toArray⟩, .int .i64 0, .int .i64 0, .int .i64 0, .int .i64 0, .int .i64 0, .int .i64 0, .int .i64 0, .int .i64 0, .int .i64 0, .int .i64 0, .bool false, .slice B acc.length d] 72 (0, 0)) ∧ Rc WF b A c L ⟨si, true⟩ ∧ w.grownBy WF (some b) ∧ PtV WF ⟨⟨3, lw, (0, 0), (0, 0), (0, 0), (0, 0), (0, 0), false, acc⟩, B, d⟩) := ⟨_, rfl, Lib.hid (ent_end (x := ⟨3, lw, (0, 0), (0, 0), (0, 0), (0, 0), (0, 0), false, acc⟩) HE300.out hlb HRC.out (Nat.le_trans HFL.out (by decide)) HLW.out)⟩
     have HWF := Lib.hid hWF
     clear hWF
     have y0 := cell_of HE300.out.obj 0 (.int .i64 3) rfl
     have y1 := cell_of HE300.out.obj 1 (.string ⟨lw.toArray⟩) rfl
     have y2 := cell_of HE300.out.obj 2 (.int .i64 0) rfl
     have y3 := cell_of HE300.out.obj 3 (.int .i64 0) rfl
     have y4 := cell_of HE300.out.obj 4 (.int .i64 0) rfl
     have y5 := cell_of HE300.out.obj 5 (.int .i64 0) rfl
     have y6 := cell_of HE300.out.obj 6 (.int .i64 0) rfl
     have y7 := cell_of HE300.out.obj 7 (.int .i64 0) rfl
     have y8 := cell_of HE300.out.obj 8 (.int .i64 0) rfl
     have y9 := cell_of HE300.out.obj 9 (.int .i64 0) rfl
     have y10 := cell_of HE300.out.obj 10 (.int .i64 0) rfl
     have y11 := cell_of HE300.out.obj 11 (.int .i64 0) rfl
     have y12 := cell_of HE300.out.obj 12 (.bool false) rfl
     have y13 := cell_of HE300.out.obj 13 (.slice B acc.length d) rfl
     have r0 := cell_of HE300.out.res 0 _ rfl
     have f0 := free_of HE300.out.res 0
     have r1 := cell_of HE300.out.res 1 _ rfl
     have f1 := free_of HE300.out.res 1
     have r2 := cell_of HE300.out.res 2 _ rfl
     have f2 := free_of HE300.out.res 2
     have r3 := cell_of HE300.out.res 3 _ rfl
     have f3 := free_of HE300.out.res 3
     have r4 := cell_of HE300.out.res 4 _ rfl
     have f4 := free_of HE300.out.res 4
     have r5 := cell_of HE300.out.res 5 _ rfl
     have f5 := free_of HE300.out.res 5
     have r6 := cell_of HE300.out.res 6 _ rfl
     have f6 := free_of HE300.out.res 6
     have r7 := cell_of HE300.out.res 7 _ rfl
     have f7 := free_of HE300.out.res 7
     have r8 := cell_of HE300.out.res 8 _ rfl
     have f8 := free_of HE300.out.res 8
     have r9 := cell_of HE300.out.res 9 _ rfl
     have f9 := free_of HE300.out.res 9
     have r10 := cell_of HE300.out.res 10 _ rfl
     have f10 := free_of HE300.out.res 10
     have r11 := cell_of HE300.out.res 11 _ rfl
     have f11 := free_of HE300.out.res 11
     have r12 := cell_of HE300.out.res 12 _ rfl
     have f12 := free_of HE300.out.res 12
     have r13 := cell_of HE300.out.res 13 _ rfl
     have f13 := free_of HE300.out.res 13
     go_wp2
     rw [← HWF.out]
     have HF2 := HF.out
     have l0 := cell_of HF2.1 0 (.int .i64 3) rfl
     have l1 := cell_of HF2.1 1 (.string ⟨lw.toArray⟩) rfl
     have l2 := cell_of HF2.1 2 (.int .i64 0) rfl
     have l3 := cell_of HF2.1 3 (.int .i64 0) rfl
     have l4 := cell_of HF2.1 4 (.int .i64 0) rfl
     have l5 := cell_of HF2.1 5 (.int .i64 0) rfl
     have l6 := cell_of HF2.1 6 (.int .i64 0) rfl
     have l7 := cell_of HF2.1 7 (.int .i64 0) rfl
     have l8 := cell_of HF2.1 8 (.int .i64 0) rfl
     have l9 := cell_of HF2.1 9 (.int .i64 0) rfl
     have l10 := cell_of HF2.1 10 (.int .i64 0) rfl
     have l11 := cell_of HF2.1 11 (.int .i64 0) rfl
     have l12 := cell_of HF2.1 12 (.bool false) rfl
     have l13 := cell_of HF2.1 13 (.slice B acc.length d) rfl
     refine bodyPost_ret (v := .agg #[.int .i64 3, .string ⟨lw.toArray⟩, .int .i64 0, .int .i64 0, .int .i64 0, .int .i64 0, .int .i64 0, .int .i64 0, .int .i64 0, .int .i64 0, .int .i64 0, .int .i64 0, .bool false, .slice B acc.length d]) (by simp [results, Tryz.results31, go_sem, l0, l1, l2, l3, l4, l5, l6, l7, l8, l9, l10, l11, l12, l13]) rfl ?_
     exact ⟨by rw [HS9.out]; exact HF2.2.1, HF2.2.2.1, ⟨⟨3, lw, (0, 0), (0, 0), (0, 0), (0, 0), (0, 0), false, acc⟩, B, d⟩, rfl, HF2.2.2.2, HR9.out⟩
   ·have dl : decide ((i : Int) < (m0 : Int)) = false := decide_eq_false (by omega)
    have dl2 : decide (i < m0) = false := decide_eq_false hlt
    have HFE : Hid ((acc, st) = FIN) := Lib.hid (by
     have := HFI.out
     rw [show m0 - i = 0 by omega, rdPts] at this
     exact this)
    have hfe := HFE.out
    subst hfe
    simp only at HRS1 HRX HOK HIX HFL
    clear HFI HFE HF0
    go_upto_region 23 with fail
    have HE300 := HD
    clear HD c0 c1 c2
    have HPV : Hid (PtV wr ⟨⟨3, lw, (0, 0), (0, 0), (0, 0), (0, 0), (0, 0), false, acc⟩, B, d⟩) := Lib.hid (by obtain ⟨_, _, e9, hd9⟩ := own_shape HE300.out.own; cases e9; exact ⟨PtAt.of_own HE300.out.own, (Nat.le_trans HFL.out (by decide)), hd9, HLW.out⟩)
    obtain ⟨si, sb⟩ := st
    obtain ⟨c0, c1, c2, _⟩ := rcell HE300.out.scn
    simp only at c1 c2
    cases sb
    ·have hok := HOK.out rfl
     have HR9 : Hid (RS.bad = false → ⟨3, lw, (0, 0), (0, 0), (0, 0), (0, 0), (0, 0), false, acc⟩ = RE) := Lib.hid (fun _ => (HRX.out rfl).symm)
     have HVC : Hid (∀ W, PtV W ⟨⟨3, lw, (0, 0), (0, 0), (0, 0), (0, 0), (0, 0), false, acc⟩, B, d⟩ → Calls Tryz.prog 42 #[.agg #[.int .i64 3, .string ⟨lw.toArray⟩, .int .i64 0, .int .i64 0, .int .i64 0, .int .i64 0, .int .i64 0, .int .i64 0, .int .i64 0, .int .i64 0, .int .i64 0, .int .i64 0, .bool false, .slice B acc.length d]] W fun r w' => r = .returned (.bool g) ∧ Below W.heap.size W w') := Lib.hid (fun W hW => by
      have := rentOk_any ⟨⟨3, lw, (0, 0), (0, 0), (0, 0), (0, 0), (0, 0), false, acc⟩, B, d⟩ W hW.in_
      rw [hok] at this
      exact this)
     have y0 := cell_of HE300.out.obj 0 (.int .i64 3) rfl
     have y1 := cell_of HE300.out.obj 1 (.string ⟨lw.toArray⟩) rfl
     have y2 := cell_of HE300.out.obj 2 (.int .i64 0) rfl
     have y3 := cell_of HE300.out.obj 3 (.int .i64 0) rfl
     have y4 := cell_of HE300.out.obj 4 (.int .i64 0) rfl
     have y5 := cell_of HE300.out.obj 5 (.int .i64 0) rfl
     have y6 := cell_of HE300.out.obj 6 (.int .i64 0) rfl
     have y7 := cell_of HE300.out.obj 7 (.int .i64 0) rfl
     have y8 := cell_of HE300.out.obj 8 (.int .i64 0) rfl
     have y9 := cell_of HE300.out.obj 9 (.int .i64 0) rfl
     have y10 := cell_of HE300.out.obj 10 (.int .i64 0) rfl
     have y11 := cell_of HE300.out.obj 11 (.int .i64 0) rfl
     have y12 := cell_of HE300.out.obj 12 (.bool false) rfl
     have y13 := cell_of HE300.out.obj 13 (.slice B acc.length d) rfl
     cases g
     ·have HS9 : Hid (RS = ck false ⟨si, false⟩) := Lib.hid HRS1.out
      have HWR := Lib.hid (fun W hW => rwrong_any L A c b ⟨si, false⟩ W hW HIX.out)
      go_wp2_with fail
      refine (HVC.out _ HPV.out).mono ?_
      rintro r wv ⟨rfl, hbv⟩
      have HE201 := Lib.hid (HE300.out.below hlb hbv)
      clear c0 c1 c2 y0 y1 y2 y3 y4 y5 y6 y7 y8 y9 y10 y11 y12 y13 hbv
      go_wp2_with fail
      refine (HWR.out _ (HE201.out.rc HRC.out)).mono ?_
      rintro e w202 ⟨rfl, h202, g202⟩
      have HE202 := Lib.hid (HE201.out.step hlb h202.obj g202)
      clear h202 g202
      obtain ⟨WF, hWF, HF⟩ : ∃ WF, WF = ((((((((((((((w202.setCell ⟨w.heap.size, 0, none⟩ (.int .i64 3)).setCell ⟨w.heap.size, 1, none⟩ (.string ⟨lw.toArray⟩)).setCell ⟨w.heap.size, 2, none⟩ (.int .i64 0)).setCell ⟨w.heap.size, 3, none⟩ (.int .i64 0)).setCell ⟨w.heap.size, 4, none⟩ (.int .i64 0)).setCell ⟨w.heap.size, 5, none⟩ (.int .i64 0)).setCell ⟨w.heap.size, 6, none⟩ (.int .i64 0)).setCell ⟨w.heap.size, 7, none⟩ (.int .i64 0)).setCell ⟨w.heap.size, 8, none⟩ (.int .i64 0)).setCell ⟨w.heap.size, 9, none⟩ (.int .i64 0)).setCell ⟨w.heap.size, 10, none⟩ (.int .i64 0)).setCell ⟨w.heap.size, 11, none⟩ (.int .i64 0)).setCell ⟨w.heap.size, 12, none⟩ (.bool false)).setCell ⟨w.heap.size, 13, none⟩ (.slice B acc.length d)) ∧ Hid (WF.heap[w.heap.size]? = some (.cells #[.int .i64 3, .string ⟨lw.toArray⟩, .int .i64 0, .int .i64 0, .int .i64 0, .int .i64 0, .int .i64 0, .int .i64 0, .int .i64 0, .int .i64 0, .int .i64 0, .int .i64 0, .bool false, .slice B acc.length d] 72 (0, 0)) ∧ Rc WF b A c L (ck false ⟨si, false⟩) ∧ w.grownBy WF (some b) ∧ PtV WF ⟨⟨3, lw, (0, 0), (0, 0), (0, 0), (0, 0), (0, 0), false, acc⟩, B, d⟩) := ⟨_, rfl, Lib.hid (ent_end (x := ⟨3, lw, (0, 0), (0, 0), (0, 0), (0, 0), (0, 0), false, acc⟩) HE202.out hlb HRC.out (Nat.le_trans HFL.out (by decide)) HLW.out)⟩
      have HWF := Lib.hid hWF
      clear hWF
      have y0 := cell_of HE202.out.obj 0 (.int .i64 3) rfl
      have y1 := cell_of HE202.out.obj 1 (.string ⟨lw.toArray⟩) rfl
      have y2 := cell_of HE202.out.obj 2 (.int .i64 0) rfl
      have y3 := cell_of HE202.out.obj 3 (.int .i64 0) rfl
      have y4 := cell_of HE202.out.obj 4 (.int .i64 0) rfl
      have y5 := cell_of HE202.out.obj 5 (.int .i64 0) rfl
      have y6 := cell_of HE202.out.obj 6 (.int .i64 0) rfl
      have y7 := cell_of HE202.out.obj 7 (.int .i64 0) rfl
      have y8 := cell_of HE202.out.obj 8 (.int .i64 0) rfl
      have y9 := cell_of HE202.out.obj 9 (.int .i64 0) rfl
      have y10 := cell_of HE202.out.obj 10 (.int .i64 0) rfl
      have y11 := cell_of HE202.out.obj 11 (.int .i64 0) rfl
      have y12 := cell_of HE202.out.obj 12 (.bool false) rfl
      have y13 := cell_of HE202.out.obj 13 (.slice B acc.length d) rfl
      have r0 := cell_of HE202.out.res 0 _ rfl
      have f0 := free_of HE202.out.res 0
      have r1 := cell_of HE202.out.res 1 _ rfl
      have f1 := free_of HE202.out.res 1
      have r2 := cell_of HE202.out.res 2 _ rfl
      have f2 := free_of HE202.out.res 2
      have r3 := cell_of HE202.out.res 3 _ rfl
      have f3 := free_of HE202.out.res 3
      have r4 := cell_of HE202.out.res 4 _ rfl
      have f4 := free_of HE202.out.res 4
      have r5 := cell_of HE202.out.res 5 _ rfl
      have f5 := free_of HE202.out.res 5
      have r6 := cell_of HE202.out.res 6 _ rfl
      have f6 := free_of HE202.out.res 6
      have r7 := cell_of HE202.out.res 7 _ rfl
      have f7 := free_of HE202.out.res 7
      have r8 := cell_of HE202.out.res 8 _ rfl
      have f8 := free_of HE202.out.res 8
      have r9 := cell_of HE202.out.res 9 _ rfl
      have f9 := free_of HE202.out.res 9
      have r10 := cell_of HE202.out.res 10 _ rfl
      have f10 := free_of HE202.out.res 10
      have r11 := cell_of HE202.out.res 11 _ rfl
      have f11 := free_of HE202.out.res 11
      have r12 := cell_of HE202.out.res 12 _ rfl
      have f12 := free_of HE202.out.res 12
      have r13 := cell_of HE202.out.res 13 _ rfl
      have f13 := free_of HE202.out.res 13
      go_wp2
      rw [← HWF.out]
      have HF2 := HF.out
      have l0 := cell_of HF2.1 0 (.int .i64 3) rfl
      have l1 := cell_of HF2.1 1 (.string ⟨lw.toArray⟩) rfl
      have l2 := cell_of HF2.1 2 (.int .i64 0) rfl
      have l3 := cell_of HF2.1 3 (.int .i64 0) rfl
      have l4 := cell_of HF2.1 4 (.int .i64 0) rfl
      have l5 := cell_of HF2.1 5 (.int .i64 0) rfl
      have l6 := cell_of HF2.1 6 (.int .i64 0) rfl
      have l7 := cell_of HF2.1 7 (.int .i64 0) rfl
      have l8 := cell_of HF2.1 8 (.int .i64 0) rfl
      have l9 := cell_of HF2.1 9 (.int .i64 0) rfl
      have l10 := cell_of HF2.1 10 (.int .i64 0) rfl
      have l11 := cell_of HF2.1 11 (.int .i64 0) rfl
      have l12 := cell_of HF2.1 12 (.bool false) rfl
      have l13 := cell_of HF2.1 13 (.slice B acc.length d) rfl
      refine bodyPost_ret (v := .agg #[.int .i64 3, .string ⟨lw.toArray⟩, .int .i64 0, .int .i64 0, .int .i64 0, .int .i64 0, .int .i64 0, .int .i64 0, .int .i64 0, .int .i64 0, .int .i64 0, .int .i64 0, .bool false, .slice B acc.length d]) (by simp [results, Tryz.results31, go_sem, l0, l1, l2, l3, l4, l5, l6, l7, l8, l9, l10, l11, l12, l13]) rfl ?_
      exact ⟨by rw [HS9.out]; exact HF2.2.1, HF2.2.2.1, ⟨⟨3, lw, (0, 0), (0, 0), (0, 0), (0, 0), (0, 0), false, acc⟩, B, d⟩, rfl, HF2.2.2.2, HR9.out⟩
     ·have HS9 : Hid (RS = ⟨si, false⟩) := Lib.hid (HRS1.out.trans (ck_true _))
      go_wp2_with fail
      refine (HVC.out _ HPV.out).mono ?_
      rintro r wv ⟨rfl, hbv⟩
      have HE201 := Lib.hid (HE300.out.below hlb hbv)
      clear c0 c1 c2 y0 y1 y2 y3 y4 y5 y6 y7 y8 y9 y10 y11 y12 y13 hbv
      obtain ⟨WF, hWF, HF⟩ : ∃ WF, WF = ((((((((((((((wv.setCell ⟨w.heap.size, 0, none⟩ (.int .i64 3)).setCell ⟨w.heap.size, 1, none⟩ (.string ⟨lw.toArray⟩)).setCell ⟨w.heap.size, 2, none⟩ (.int .i64 0)).setCell ⟨w.heap.size, 3, none⟩ (.int .i64 0)).setCell ⟨w.heap.size, 4, none⟩ (.int .i64 0)).setCell ⟨w.heap.size, 5, none⟩ (.int .i64 0)).setCell ⟨w.heap.size, 6, none⟩ (.int .i64 0)).setCell ⟨w.heap.size, 7, none⟩ (.int .i64 0)).setCell ⟨w.heap.size, 8, none⟩ (.int .i64 0)).setCell ⟨w.heap.size, 9, none⟩ (.int .i64 0)).setCell ⟨w.heap.size, 10, none⟩ (.int .i64 0)).setCell ⟨w.heap.size, 11, none⟩ (.int .i64 0)).setCell ⟨w.heap.size, 12, none⟩ (.bool false)).setCell ⟨w.heap.size, 13, none⟩ (.slice B acc.length d)) ∧ Hid (WF.heap[w.heap.size]? = some (.cells #[.int .i64 3, .string ⟨lw.toArray⟩, .int .i64 0, .int .i64 0, .int .i64 0, .int .i64 0, .int .i64 0, .int .i64 0, .int .i64 0, .int .i64 0, .int .i64 0, .int .i64 0, .bool false, .slice B acc.length d] 72 (0, 0)) ∧ Rc WF b A c L ⟨si, false⟩ ∧ w.grownBy WF (some b) ∧ PtV WF ⟨⟨3, lw, (0, 0), (0, 0), (0, 0), (0, 0), (0, 0), false, acc⟩, B, d⟩) := ⟨_, rfl, Lib.hid (ent_end (x := ⟨3, lw, (0, 0), (0, 0), (0, 0), (0, 0), (0, 0), false, acc⟩) HE201.out hlb HRC.out (Nat.le_trans HFL.out (by decide)) HLW.out)⟩
      have HWF := Lib.hid hWF
      clear hWF
      have y0 := cell_of HE201.out.obj 0 (.int .i64 3) rfl
      have y1 := cell_of HE201.out.obj 1 (.string ⟨lw.toArray⟩) rfl
      have y2 := cell_of HE201.out.obj 2 (.int .i64 0) rfl
      have y3 := cell_of HE201.out.obj 3 (.int .i64 0) rfl
      have y4 := cell_of HE201.out.obj 4 (.int .i64 0) rfl
      have y5 := cell_of HE201.out.obj 5 (.int .i64 0) rfl
      have y6 := cell_of HE201.out.obj 6 (.int .i64 0) rfl
      have y7 := cell_of HE201.out.obj 7 (.int .i64 0) rfl
      have y8 := cell_of HE201.out.obj 8 (.int .i64 0) rfl
      have y9 := cell_of HE201.out.obj 9 (.int .i64 0) rfl
      have y10 := cell_of HE201.out.obj 10 (.int .i64 0) rfl
      have y11 := cell_of HE201.out.obj 11 (.int .i64 0) rfl
      have y12 := cell_of HE201.out.obj 12 (.bool false) rfl
      have y13 := cell_of HE201.out.obj 13 (.slice B acc.length d) rfl
      have r0 := cell_of HE201.out.res 0 _ rfl
      have f0 := free_of HE201.out.res 0
      have r1 := cell_of HE201.out.res 1 _ rfl
      have f1 := free_of HE201.out.res 1
      have r2 := cell_of HE201.out.res 2 _ rfl
      have f2 := free_of HE201.out.res 2
      have r3 := cell_of HE201.out.res 3 _ rfl
      have f3 := free_of HE201.out.res 3
      have r4 := cell_of HE201.out.res 4 _ rfl
      have f4 := free_of HE201.out.res 4
      have r5 := cell_of HE201.out.res 5 _ rfl
      have f5 := free_of HE201.out.res 5
      have r6 := cell_of HE201.out.res 6 _ rfl
      have f6 := free_of HE201.out.res 6
      have r7 := cell_of HE201.out.res 7 _ rfl
      have f7 := free_of HE201.out.res 7
      have r8 := cell_of HE201.out.res 8 _ rfl
      have f8 := free_of HE201.out.res 8
      have r9 := cell_of HE201.out.res 9 _ rfl
      have f9 := free_of HE201.out.res 9
      have r10 := cell_of HE201.out.res 10 _ rfl
      have f10 := free_of HE201.out.res 10
      have r11 := cell_of HE201.out.res 11 _ rfl
      have f11 := free_of HE201.out.res 11
      have r12 := cell_of HE201.out.res 12 _ rfl
      have f12 := free_of HE201.out.res 12
      have r13 := cell_of HE201.out.res 13 _ rfl
      have f13 := free_of HE201.out.res 13
      go_wp2
      rw [← HWF.out]
      have HF2 := HF.out
      have l0 := cell_of HF2.1 0 (.int .i64 3) rfl
      have l1 := cell_of HF2.1 1 (.string ⟨lw.toArray⟩) rfl
      have l2 := cell_of HF2.1 2 (.int .i64 0) rfl
      have l3 := cell_of HF2.1 3 (.int .i64 0) rfl
      have l4 := cell_of HF2.1 4 (.int .i64 0) rfl
      have l5 := cell_of HF2.1 5 (.int .i64 0) rfl
      have l6 := cell_of HF2.1 6 (.int .i64 0) rfl
      have l7 := cell_of HF2.1 7 (.int .i64 0) rfl
      have l8 := cell_of HF2.1 8 (.int .i64 0) rfl
      have l9 := cell_of HF2.1 9 (.int .i64 0) rfl
      have l10 := cell_of HF2.1 10 (.int .i64 0) rfl
      have l11 := cell_of HF2.1 11 (.int .i64 0) rfl
      have l12 := cell_of HF2.1 12 (.bool false) rfl
      have l13 := cell_of HF2.1 13 (.slice B acc.length d) rfl
      refine bodyPost_ret (v := .agg #[.int .i64 3, .string ⟨lw.toArray⟩, .int .i64 0, .int .i64 0, .int .i64 0, .int .i64 0, .int .i64 0, .int .i64 0, .int .i64 0, .int .i64 0, .int .i64 0, .int .i64 0, .bool false, .slice B acc.length d]) (by simp [results, Tryz.results31, go_sem, l0, l1, l2, l3, l4, l5, l6, l7, l8, l9, l10, l11, l12, l13]) rfl ?_
      exact ⟨by rw [HS9.out]; exact HF2.2.1, HF2.2.2.1, ⟨⟨3, lw, (0, 0), (0, 0), (0, 0), (0, 0), (0, 0), false, acc⟩, B, d⟩, rfl, HF2.2.2.2, HR9.out⟩
    ·have HS9 : Hid (RS = ⟨si, true⟩) := Lib.hid (HRS1.out.trans (ck_bad rfl))
     have HR9 : Hid (RS.bad = false → ⟨3, lw, (0, 0), (0, 0), (0, 0), (0, 0), (0, 0), false, acc⟩ = RE) := Lib.hid (fun hb => by rw [HS9.out] at hb; cases hb)
     obtain ⟨WF, hWF, HF⟩ : ∃ WF, WF = ((((((((((((((wr.setCell ⟨w.heap.size, 0, none⟩ (.int .i64 3)).setCell ⟨w.heap.size, 1, none⟩ (.string ⟨lw.toArray⟩)).setCell ⟨w.heap.size, 2, none⟩ (.int .i64 0)).setCell ⟨w.heap.size, 3, none⟩ (.int .i64 0)).setCell ⟨w.heap.size, 4, none⟩ (.int .i64 0)).setCell ⟨w.heap.size, 5, none⟩ (.int .i64 0)).setCell ⟨w.heap.size, 6, none⟩ (.int .i64 0)).setCell ⟨w.heap.size, 7, none⟩ (.int .i64 0)).setCell ⟨w.heap.size, 8, none⟩ (.int .i64 0)).setCell ⟨w.heap.size, 9, none⟩ (.int .i64 0)).setCell ⟨w.heap.size, 10, none⟩ (.int .i64 0)).setCell ⟨w.heap.size, 11, none⟩ (.int .i64 0)).setCell ⟨w.heap.size, 12, none⟩ (.bool false)).setCell ⟨w.heap.size, 13, none⟩ (.slice B acc.length d)) ∧ Hid (WF.heap[w.heap.size]? = some (.cells #[.int .i64 3, .string ⟨lw.toArray⟩, .int .i64 0, .int .i64 0, .int .i64 0, .int .i64 0, .int .i64 0, .int .i64 0, .int .i64 0, .int .i64 0, .int .i64 0, .int .i64 0, .bool false, .slice B acc.length d] 72 (0, 0)) ∧ Rc WF b A c L ⟨si, true⟩ ∧ w.grownBy WF (some b) ∧ PtV WF ⟨⟨3, lw, (0, 0), (0, 0), (0, 0), (0, 0), (0, 0), false, acc⟩, B, d⟩) := ⟨_, rfl, Lib.hid (ent_end (x := ⟨3, lw, (0, 0), (0, 0), (0, 0), (0, 0), (0, 0), false, acc⟩) HE300.out hlb HRC.out (Nat.le_trans HFL.out (by decide)) HLW.out)⟩
     have HWF := Lib.hid hWF
     clear hWF
     have y0 := cell_of HE300.out.obj 0 (.int .i64 3) rfl
     have y1 := cell_of HE300.out.obj 1 (.string ⟨lw.toArray⟩) rfl
     have y2 := cell_of HE300.out.obj 2 (.int .i64 0) rfl
     have y3 := cell_of HE300.out.obj 3 (.int .i64 0) rfl
     have y4 := cell_of HE300.out.obj 4 (.int .i64 0) rfl
     have y5 := cell_of HE300.out.obj 5 (.int .i64 0) rfl
     have y6 := cell_of HE300.out.obj 6 (.int .i64 0) rfl
     have y7 := cell_of HE300.out.obj 7 (.int .i64 0) rfl
     have y8 := cell_of HE300.out.obj 8 (.int .i64 0) rfl
     have y9 := cell_of HE300.out.obj 9 (.int .i64 0) rfl
     have y10 := cell_of HE300.out.obj 10 (.int .i64 0) rfl
     have y11 := cell_of HE300.out.obj 11 (.int .i64 0) rfl
     have y12 := cell_of HE300.out.obj 12 (.bool false) rfl
     have y13 := cell_of HE300.out.obj 13 (.slice B acc.length d) rfl
     have r0 := cell_of HE300.out.res 0 _ rfl
     have f0 := free_of HE300.out.res 0
     have r1 := cell_of HE300.out.res 1 _ rfl
     have f1 := free_of HE300.out.res 1
     have r2 := cell_of HE300.out.res 2 _ rfl
     have f2 := free_of HE300.out.res 2
     have r3 := cell_of HE300.out.res 3 _ rfl
     have f3 := free_of HE300.out.res 3
     have r4 := cell_of HE300.out.res 4 _ rfl
     have f4 := free_of HE300.out.res 4
     have r5 := cell_of HE300.out.res 5 _ rfl
     have f5 := free_of HE300.out.res 5
     have r6 := cell_of HE300.out.res 6 _ rfl
     have f6 := free_of HE300.out.res 6
     have r7 := cell_of HE300.out.res 7 _ rfl
     have f7 := free_of HE300.out.res 7
     have r8 := cell_of HE300.out.res 8 _ rfl
     have f8 := free_of HE300.out.res 8
     have r9 := cell_of HE300.out.res 9 _ rfl
     have f9 := free_of HE300.out.res 9
     have r10 := cell_of HE300.out.res 10 _ rfl
     have f10 := free_of HE300.out.res 10
     have r11 := cell_of HE300.out.res 11 _ rfl
     have f11 := free_of HE300.out.res 11
     have r12 := cell_of HE300.out.res 12 _ rfl
     have f12 := free_of HE300.out.res 12
     have r13 := cell_of HE300.out.res 13 _ rfl
     have f13 := free_of HE300.out.res 13
     go_wp2
     rw [← HWF.out]
     have HF2 := HF.out
     have l0 := cell_of HF2.1 0 (.int .i64 3) rfl
     have l1 := cell_of HF2.1 1 (.string ⟨lw.toArray⟩) rfl
     have l2 := cell_of HF2.1 2 (.int .i64 0) rfl
     have l3 := cell_of HF2.1 3 (.int .i64 0) rfl
     have l4 := cell_of HF2.1 4 (.int .i64 0) rfl
     have l5 := cell_of HF2.1 5 (.int .i64 0) rfl
     have l6 := cell_of HF2.1 6 (.int .i64 0) rfl
     have l7 := cell_of HF2.1 7 (.int .i64 0) rfl
     have l8 := cell_of HF2.1 8 (.int .i64 0) rfl
     have l9 := cell_of HF2.1 9 (.int .i64 0) rfl
     have l10 := cell_of HF2.1 10 (.int .i64 0) rfl
     have l11 := cell_of HF2.1 11 (.int .i64 0) rfl
     have l12 := cell_of HF2.1 12 (.bool false) rfl
     have l13 := cell_of HF2.1 13 (.slice B acc.length d) rfl
     refine bodyPost_ret (v := .agg #[.int .i64 3, .string ⟨lw.toArray⟩, .int .i64 0, .int .i64 0, .int .i64 0, .int .i64 0, .int .i64 0, .int .i64 0, .int .i64 0, .int .i64 0, .int .i64 0, .int .i64 0, .bool false, .slice B acc.length d]) (by simp [results, Tryz.results31, go_sem, l0, l1, l2, l3, l4, l5, l6, l7, l8, l9, l10, l11, l12, l13]) rfl ?_
     exact ⟨by rw [HS9.out]; exact HF2.2.1, HF2.2.2.1, ⟨⟨3, lw, (0, 0), (0, 0), (0, 0), (0, 0), (0, 0), false, acc⟩, B, d⟩, rfl, HF2.2.2.2, HR9.out⟩
 ·exact absurd (HN0.out.symm.trans hn) (by decide)
theorem rentity_poly (L : List (List UInt8)) (A : Option Addr) (c b : Nat) (s : Gt.S) (w : World) (h : Rc w b A c L s) :
  Calls Tryz.prog 31 #[.pointer (some ⟨b, 0, none⟩), .string ⟨kPoly.toArray⟩] w fun e w' => Rc w' b A c L (rdEnt L kPoly s).2 ∧ w.grownBy w' (some b) ∧ ∃ x : EntV, e = .returned (.agg (entVals x).toArray) ∧ PtV w' x ∧ ((rdEnt L kPoly s).2.bad = false → x.e = (rdEnt L kPoly s).1) := by
 cases hn : Lex.isName (rnx L (cd L 8 s)).1
 ·exact rentity_polyb L A c b s w h (Lib.hid hn)
 ·exact rentity_polya L A c b s w h (Lib.hid hn)
end Go.Proofs.YtnmmhcchpcbeeaaGreatDoor.GtW
