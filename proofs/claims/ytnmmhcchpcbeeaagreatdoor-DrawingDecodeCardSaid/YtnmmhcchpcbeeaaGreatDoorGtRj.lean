/- Walk: the reference's Decode. Conditions: the text has at most a million bytes. -/
import Derived.Test.YtnmmhcchpcbeeaaGreatDoorGtRg
import Derived.Test.YtnmmhcchpcbeeaaGreatDoorGtRh
import Derived.Test.YtnmmhcchpcbeeaaGreatDoorGtRi
import Derived.Test.YtnmmhcchpcbeeaaGreatDoorGtRc
import Derived.Test.YtnmmhcchpcbeeaaGreatDoorGtD
import Derived.Deep.LoopGhost

namespace Go.Proofs.YtnmmhcchpcbeeaaGreatDoor.GtW
open Go Go.RowKit Go.Proofs.YtnmmhcchpcbeeaaGreatDoor.Mem Go.Proofs.YtnmmhcchpcbeeaaGreatDoor.Gt Go.Proofs.YtnmmhcchpcbeeaaGreatDoor.Ge
open Go.Proofs.YtnmmhcchpcbeeaaGreatDoor.GeW (EntV entVals PtsIn PtAt Tagged RowT RowW Ents own_keep own_tag ptCells)
attribute [local go_sem ↓] Go.wp_at_zero Go.wp_at_succ

theorem rentity_any (L : List (List UInt8)) (A : Option Addr) (c b : Nat) (s : Gt.S) (k : List UInt8) (hk : k = kLine ∨ k = kArc ∨ k = kPoly) (w : World) (h : Rc w b A c L s) :
  Calls Tryz.prog 31 #[.pointer (some ⟨b, 0, none⟩), .string ⟨k.toArray⟩] w fun e w' => Rc w' b A c L (rdEnt L k s).2 ∧ w.grownBy w' (some b) ∧ ∃ x : EntV, e = .returned (.agg #[.int .i64 x.e.kind, .string ⟨x.e.layer.toArray⟩, .int .i64 x.e.a.1, .int .i64 x.e.a.2, .int .i64 x.e.b.1, .int .i64 x.e.b.2, .int .i64 x.e.f.1, .int .i64 x.e.f.2, .int .i64 x.e.t.1, .int .i64 x.e.t.2, .int .i64 x.e.c.1, .int .i64 x.e.c.2, .bool x.e.cw, .slice x.A x.e.pts.length x.k]) ∧ PtV w' x ∧ ((rdEnt L k s).2.bad = false → x.e = (rdEnt L k s).1) := by
 rcases hk with rfl | rfl | rfl
 ·exact rentity_line L A c b s w h
 ·exact rentity_arc L A c b s w h
 ·exact rentity_poly L A c b s w h
theorem ck_wrong (s : Gt.S) : (ck false s).bad = true := by
 obtain ⟨i, b⟩ := s
 cases b <;> rfl
structure RSt (w0 wr : World) (b : Nat) (A : Option Addr) (c : Nat) (L : List (List UInt8)) (st : Gt.S) (xs : List EntV) (B : Option Addr) (d : Nat) : Prop where
 scn : wr.heap[b]? = some (robj A L.length c st)
 own : wr.ownsRow w0.heap.size 72 14 (.slice B xs.length d) xs.length (xs.flatMap entVals)
 pts : ∀ x ∈ xs, PtV wr x
 fr : w0.grownBy wr (some b)
section
variable {w0 wr w1 : World} {b : Nat} {A : Option Addr} {c : Nat} {L : List (List UInt8)} {st st' : Gt.S} {xs : List EntV} {B : Option Addr} {d : Nat}
theorem RSt.rc {s : Gt.S} (h : RSt w0 wr b A c L st xs B d) (h0 : Rc w0 b A c L s) : Rc wr b A c L st := h0.grown h.scn h.fr
theorem RSt.rowS (h : RSt w0 wr b A c L st xs B d) : RowW wr 0 70 (some b) := RowT.weak (fun g e => by
 cases e
 exact ⟨⟨_, _, h.scn⟩, Nat.zero_le _⟩)
theorem RSt.step (h : RSt w0 wr b A c L st xs B d) (hb : b < w0.heap.size) (ho : w1.heap[b]? = some (robj A L.length c st')) (hg : wr.grownBy w1 (some b)) : RSt w0 w1 b A c L st' xs B d :=
 ⟨ho, own_grown h.own hg hb, fun x hx => (h.pts x hx).keep hg h.rowS (by decide), h.fr.trans hg⟩
theorem RSt.below (h : RSt w0 wr b A c L st xs B d) (hb : b < w0.heap.size) (hl : Below wr.heap.size wr w1) : RSt w0 w1 b A c L st xs B d :=
 h.step hb (p_below h.scn hl) (grown_below (grown_refl wr (some b)) hl)
theorem RSt.push {w6 w7 : World} {x : EntV} {B' : Option Addr} {d' : Nat} (h : RSt w0 w6 b A c L st xs B d) (hx : PtV w6 x) (hb : b < w0.heap.size)
  (hown : w7.ownsRow w0.heap.size 72 14 (.slice B' (xs.length + 1) d') (xs.length + 1) (xs.flatMap entVals ++ entVals x)) (hg : w6.grownBy w7 (Value.slice B xs.length d).ownBlock) :
  RSt w0 w7 b A c L st (xs ++ [x]) B' d' := by
 have hr : RowW w6 w0.heap.size 72 (Value.slice B xs.length d).ownBlock := RowT.weak (RowT.own h.own)
 have hr0 : RowW w6 0 72 (Value.slice B xs.length d).ownBlock := fun g e => ⟨(hr g e).1, Nat.zero_le _⟩
 have hro : ∀ k, (Value.slice B xs.length d).ownBlock = some k → w0.heap.size ≤ k := fun k e => (hr k e).2
 have hl : (xs ++ [x]).length = xs.length + 1 := by simp
 have hf : (xs ++ [x]).flatMap entVals = xs.flatMap entVals ++ entVals x := by simp
 refine ⟨old_block hg hro hb h.scn, ?_, ?_, hg.os.trans h.fr.os, hg.tape.trans h.fr.tape, hg.output.trans h.fr.output, Nat.le_trans h.fr.size hg.size, fun i hi hne => (hg.block i (Nat.lt_of_lt_of_le hi h.fr.size) (fun e => by have := hro i e.symm; omega)).trans (h.fr.block i hi hne)⟩
 ·rw [hl, hf]
  exact hown
 ·intro y hy
  rcases List.mem_append.1 hy with h1 | h1
  ·exact (h.pts y h1).keep hg hr0 (by decide)
  ·rw [List.mem_singleton.1 h1]
   exact hx.keep hg hr0 (by decide)
end
theorem info_rent : (Tryz.prog.info? 72).map (fun i => (i.zero, i.size, i.bytes)) = some (some (.agg #[.int .i64 0, .string ⟨#[]⟩, .int .i64 0, .int .i64 0, .int .i64 0, .int .i64 0, .int .i64 0, .int .i64 0, .int .i64 0, .int .i64 0, .int .i64 0, .int .i64 0, .bool false, .slice none 0 0]), 14, 136) := by kernel_rfl
set_option maxRecDepth 100000 in
set_option maxHeartbeats 8000000 in
theorem rdecode_any (s : List UInt8) (hs : s.length ≤ 1000000) (w : World) :
  Calls Tryz.prog 8 #[.string ⟨s.toArray⟩] w fun e w' => ∃ (A : Option Addr) (d : Nat) (xs : List EntV), e = .returned (.tuple #[.slice A xs.length d, .int .i64 ((dec s).2.1 : Nat), .int .i64 (dec s).2.2]) ∧ xs.map EntV.e = (dec s).1 ∧ Ents w' A xs ∧ Below w.heap.size w w' := by
 obtain ⟨i0, ia, ib, ic, id⟩ := info_parts info_rent
 have hfew := lines_few s
 have HSH := Lib.hid (lines_short s hs)
 obtain ⟨LS, HLS⟩ : ∃ LS, Hid (linesOf s = LS) := ⟨_, Lib.hid rfl⟩
 obtain ⟨LP, HLP⟩ : ∃ LP, Hid (decide (lastP s ≠ []) = LP) := ⟨_, Lib.hid rfl⟩
 obtain ⟨FIN, HFIN⟩ : ∃ FIN, Hid (ents LS 202 ⟨0, false⟩ [] = FIN) := ⟨_, Lib.hid rfl⟩
 obtain ⟨DEC, HDEC⟩ : ∃ DEC, Hid (dec s = DEC) := ⟨_, Lib.hid rfl⟩
 have HDE : Hid (DEC = if FIN.1.bad = true ∨ FIN.1.i < LS.length ∨ LP = true then ([], FIN.1.i, 4) else (FIN.2, 0, 0)) := Lib.hid (by
  rw [← HDEC.out, ← HFIN.out, ← HLS.out, ← HLP.out]
  unfold dec fin
  simp only [decide_eq_true_eq])
 rw [HDEC.out]
 have HSP := Lib.hid (rlines_any s hs w)
 rw [HLS.out, HLP.out] at HSP
 rw [HLS.out] at hfew HSH
 have HFIN2 := HFIN
 clear HLS HLP HFIN HDEC
 go_enter Tryz.func8, Tryz.ntmps8
 go_wp2_with fail
 refine HSP.out.mono ?_
 rintro e w2 ⟨A, c, rfl, hrow, hA, hbl⟩
 clear HSP
 go_wp2_with fail
 have HB3 : Hid (Below w.heap.size w (w2.alloc (.cells #[.slice A LS.length c, .int .i64 0, .bool false] 70))) := Lib.hid (hbl.trans ((bel1 w2 _).mono hbl.size))
 have HRC : Hid (Rc (w2.alloc (.cells #[.slice A LS.length c, .int .i64 0, .bool false] 70)) w2.heap.size A c LS ⟨0, false⟩) := Lib.hid ⟨GeW.heap_alloc_new w2 _, hrow.below (bel1 w2 _), (fun g off e => by have := hA g off e; omega), by omega, HSH.out⟩
 have hlb : w2.heap.size < (w2.alloc (.cells #[.slice A LS.length c, .int .i64 0, .bool false] 70)).heap.size := by simp
 have HBN : Hid (w.heap.size ≤ w2.heap.size) := Lib.hid hbl.size
 clear hrow hA hbl
 generalize w2.alloc (.cells #[.slice A LS.length c, .int .i64 0, .bool false] 70) = W3 at *
 generalize w2.heap.size = b at *
 have HD0 : Hid (RSt W3 W3 b A c LS ⟨0, false⟩ [] none 0) := Lib.hid ⟨HRC.out.obj, World.ownsRow_nil _ _ _ _, (fun x hx => by cases hx), grown_refl _ _⟩
 have ENDB : Hid (∀ wr st xs B d, RSt W3 wr b A c LS st xs B d → Below w.heap.size w wr) := Lib.hid (fun wr st xs B d h => by
  have h1 := HBN.out
  exact ⟨h.fr.os.trans HB3.out.os, h.fr.tape.trans HB3.out.tape, h.fr.output.trans HB3.out.output, Nat.le_trans HB3.out.size h.fr.size, fun i hi => (h.fr.block i (Nat.lt_of_lt_of_le hi HB3.out.size) (fun e => by injection e with e; omega)).trans (HB3.out.block i hi)⟩)
 go_loopg [8, 9] 202 (fun f v8 v9 wr => ∃ (en : Bool) (st : Gt.S) (xs : List EntV) (B : Option Addr) (d : Nat) (acc : List Ent), v8 = .slice B xs.length d ∧ v9 = .bool en ∧ acc.length = xs.length ∧ Hid (en = false → ents LS f st acc = FIN) ∧ Hid (en = true → (st, acc) = FIN ∧ st.bad = false) ∧ Hid (st.bad = false → xs.map EntV.e = acc) ∧ (en = false → 202 ≤ f + xs.length + (if st.bad = true then 1 else 0)) ∧ xs.length ≤ 200 ∧ Hid (RSt W3 wr b A c LS st xs B d))
 case atStart => exact ⟨false, ⟨0, false⟩, [], none, 0, [], rfl, rfl, rfl, Lib.hid (fun _ => HFIN2.out), Lib.hid (fun h => by cases h), Lib.hid (fun _ => rfl), by simp, by simp, HD0⟩
 case round =>
  obtain ⟨en, st, xs, B, d, acc, rfl, rfl, hacc, HFI, HFJ, HXE, hfx, hx2, HD⟩ := hrel
  obtain ⟨c0, c1, c2, cf⟩ := rcell HD.out.scn
  clear cf
  cases en
  ·have hfx := hfx rfl
   have HFI := Lib.hid (HFI.out rfl)
   clear HFJ
   rcases gk with _ | f
   ·split at hfx <;> omega
   obtain ⟨si, se⟩ := st
   simp only at c1 c2
   cases se
   ·simp only [Bool.false_eq_true, if_false] at hfx
    have HC1 := Lib.hid (fun W hW => rcode_any LS A c b ⟨si, false⟩ 0 W hW (by omega))
    have HN1 := Lib.hid (fun W hW => rnext_any LS A c b (cd LS 0 ⟨si, false⟩) W hW)
    have HNM : Hid (rdName LS xs.length ⟨si, false⟩ = if Gt.kindOk xs.length (rnx LS (cd LS 0 ⟨si, false⟩)).1 = true then rnx LS (cd LS 0 ⟨si, false⟩) else ([], ck false (rnx LS (cd LS 0 ⟨si, false⟩)).2)) := Lib.hid (nx_rnx LS (Gt.kindOk xs.length) (cd LS 0 ⟨si, false⟩) (by unfold Gt.kindOk; simp [kEof, kLine, kArc, kPoly])).symm
    have HIX := Lib.hid (rnx_i (L := LS) (s := cd LS 0 ⟨si, false⟩))
    have HB2 : Hid ((rnx LS (cd LS 0 ⟨si, false⟩)).1 ≠ [] → (rnx LS (cd LS 0 ⟨si, false⟩)).2.bad = false) := Lib.hid (fun h => by
     rcases rnx_ways LS (cd LS 0 ⟨si, false⟩) with ⟨_, e⟩ | ⟨_, _, e⟩ | ⟨_, _, e⟩
     ·rw [e] at h; exact absurd rfl h
     ·rw [e] at h; exact absurd rfl h
     ·rw [e])
    have HSTX : Hid ((rdName LS xs.length ⟨si, false⟩).1 = kEof ∨ (rdName LS xs.length ⟨si, false⟩).2.bad = true → ((rdName LS xs.length ⟨si, false⟩).2, acc) = FIN) := Lib.hid (fun h => by
     have := HFI.out
     rw [ents_stop f LS ⟨si, false⟩ _ rfl (by rw [hacc]; exact h), hacc] at this
     exact this)
    have HGOX : Hid ((rdName LS xs.length ⟨si, false⟩).1 ≠ kEof → (rdName LS xs.length ⟨si, false⟩).2.bad = false → ents LS f (rdEnt LS (rdName LS xs.length ⟨si, false⟩).1 (rdName LS xs.length ⟨si, false⟩).2).2 (acc ++ [(rdEnt LS (rdName LS xs.length ⟨si, false⟩).1 (rdName LS xs.length ⟨si, false⟩).2).1]) = FIN) := Lib.hid (fun h h2 => by
     have := HFI.out
     rw [ents_go f LS ⟨si, false⟩ _ rfl (by rw [hacc]; exact h) (by rw [hacc]; exact h2), hacc] at this
     exact this)
    clear HFI
    generalize rdName LS xs.length ⟨si, false⟩ = nm at *
    generalize cd LS 0 ⟨si, false⟩ = s1 at *
    generalize rnx LS s1 = rn at *
    obtain ⟨kk, s2⟩ := rn
    simp only at HN1 HNM HIX HB2
    have HQK : Hid ((ByteArray.mk kk.toArray).toList = kk) := Lib.hid (by rw [Go.ByteArray.toList_eq])
    obtain ⟨XB, HXB⟩ : ∃ XB, Hid (ByteArray.mk kk.toArray = XB) := ⟨_, Lib.hid rfl⟩
    rw [HXB.out] at HN1 HQK
    go_wp2_with fail
    refine (HC1.out _ (HD.out.rc HRC.out)).mono ?_
    rintro e w1 ⟨rfl, h1, g1⟩
    have HD1 := Lib.hid (HD.out.step hlb h1.obj g1)
    clear h1 g1 c0 c1 c2 HC1
    go_wp2_with fail
    refine (HN1.out _ (HD1.out.rc HRC.out)).mono ?_
    rintro e w2 ⟨rfl, h2, g2⟩
    have HD2 := Lib.hid (HD1.out.step hlb h2.obj g2)
    clear h2 g2 HN1
    obtain ⟨c0, c1, c2, cf⟩ := rcell HD2.out.scn
    clear cf
    by_cases hk : kk = kEof
    ·have hk2 : (XB.toList = [69, 79, 70]) = True := eq_true (by rw [HQK.out, hk]; rfl)
     have hk3 : (XB.toList == [69, 79, 70]) = true := by rw [HQK.out, hk]; rfl
     have HRN : Hid (nm = (kk, s2)) := Lib.hid (by rw [HNM.out, if_pos (by rw [hk]; unfold Gt.kindOk; simp)])
     have HST := Lib.hid (HSTX.out (.inl (by rw [HRN.out]; exact hk)))
     rw [HRN.out] at HST
     have HBB := Lib.hid (HB2.out (by rw [hk]; decide))
     go_wp2_with fail
     go_roundg f
     case measure => omega
     case rel => exact ⟨true, s2, xs, B, d, acc, rfl, rfl, hacc, Lib.hid (fun h => by cases h), Lib.hid (fun _ => ⟨HST.out, HBB.out⟩), Lib.hid (fun _ => HXE.out (by simp)), (fun h => by cases h), hx2, HD2⟩
    ·have hk2 : (XB.toList = [69, 79, 70]) = False := eq_false (by rw [HQK.out]; exact hk)
     have hk3 : (XB.toList == [69, 79, 70]) = false := by rw [HQK.out]; exact beq_eq_false_iff_ne.2 hk
     by_cases hn2 : xs.length < 200
     ·have n1 : decide ((xs.length : Int) < 200) = true := decide_eq_true (by omega)
      have n2 : decide (xs.length < 200) = true := decide_eq_true hn2
      have HNMK : Hid (xs.length < 200 → (kk = kLine ∨ kk = kArc ∨ kk = kPoly) → nm = (kk, s2)) := Lib.hid (fun h1 h2 => by rw [HNM.out, if_pos (by unfold Gt.kindOk; simp [h1, h2])])
      by_cases hkk : kk = kLine
      ·have ekLine : (XB.toList = [76, 73, 78, 69]) = True := eq_true (by rw [HQK.out, hkk]; rfl)
       have bkLine : (XB.toList == [76, 73, 78, 69]) = true := by rw [HQK.out, hkk]; rfl
       have ekArc : (XB.toList = [65, 82, 67]) = False := eq_false (by rw [HQK.out, hkk]; decide)
       have bkArc : (XB.toList == [65, 82, 67]) = false := by rw [HQK.out, hkk]; rfl
       have ekPoly : (XB.toList = [80, 79, 76, 89]) = False := eq_false (by rw [HQK.out, hkk]; decide)
       have bkPoly : (XB.toList == [80, 79, 76, 89]) = false := by rw [HQK.out, hkk]; rfl
       have HRN := Lib.hid (HNMK.out hn2 (.inl hkk))
       have HGO := Lib.hid (HGOX.out (by rw [HRN.out]; exact hk) (by rw [HRN.out]; exact HB2.out (by rw [hkk]; decide)))
       rw [HRN.out] at HGO
       have hb2 := HB2.out (by rw [hkk]; decide)
       clear HNMK HGOX HRN HB2
       have HEN := Lib.hid (fun W hW => (rentity_any LS A c b s2 kk (.inl hkk) W hW))
       rw [HXB.out] at HEN
       generalize rdEnt LS kk s2 = rk at *
       obtain ⟨RE, s6⟩ := rk
       simp only at HEN HGO
       go_wp2_with fail
       refine (HEN.out _ (HD2.out.rc HRC.out)).mono ?_
       rintro e w6 ⟨h6, g6, ⟨E, B9, d9⟩, rfl, hpv, hxe⟩
       have HD6 := Lib.hid (HD2.out.step hlb h6.obj g6)
       have HPV := Lib.hid hpv
       have HXE6 := Lib.hid hxe
       clear h6 g6 hpv hxe HEN c0 c1 c2
       simp only at HXE6
       have CN := Lib.hid (World.news_of_block (cs := #[.int .i64 E.kind, .string ⟨E.layer.toArray⟩, .int .i64 E.a.1, .int .i64 E.a.2, .int .i64 E.b.1, .int .i64 E.b.2, .int .i64 E.f.1, .int .i64 E.f.2, .int .i64 E.t.1, .int .i64 E.t.2, .int .i64 E.c.1, .int .i64 E.c.2, .bool E.cw, .slice B9 E.pts.length d9]) (t := 72) (fr := (0, 0)) (GeW.heap_alloc_new w6 _))
       have C2 : Hid (∀ u ∈ ([.int .i64 E.kind, .string ⟨E.layer.toArray⟩, .int .i64 E.a.1, .int .i64 E.a.2, .int .i64 E.b.1, .int .i64 E.b.2, .int .i64 E.f.1, .int .i64 E.f.2, .int .i64 E.t.1, .int .i64 E.t.2, .int .i64 E.c.1, .int .i64 E.c.2, .bool E.cw, .slice B9 E.pts.length d9] : List Value), u.oneCell' = true) := Lib.hid (by intro u hu; simp at hu; rcases hu with rfl | rfl | rfl | rfl | rfl | rfl | rfl | rfl | rfl | rfl | rfl | rfl | rfl | rfl <;> rfl)
       have C3 : Hid (xs.length + 1 ≤ maxLen ∧ (xs.length + 1) * 136 ≤ 140737488355328) := Lib.hid (by unfold maxLen; omega)
       have C5 : Hid (W3.heap.size ≤ (w6.alloc (.cells #[.int .i64 E.kind, .string ⟨E.layer.toArray⟩, .int .i64 E.a.1, .int .i64 E.a.2, .int .i64 E.b.1, .int .i64 E.b.2, .int .i64 E.f.1, .int .i64 E.f.2, .int .i64 E.t.1, .int .i64 E.t.2, .int .i64 E.c.1, .int .i64 E.c.2, .bool E.cw, .slice B9 E.pts.length d9] 72)).heap.size) := Lib.hid (by have := HD6.out.fr.size; simp; omega)
       have HOW := Lib.hid (HD6.out.own.alloc (.cells #[.int .i64 E.kind, .string ⟨E.layer.toArray⟩, .int .i64 E.a.1, .int .i64 E.a.2, .int .i64 E.b.1, .int .i64 E.b.2, .int .i64 E.f.1, .int .i64 E.f.2, .int .i64 E.t.1, .int .i64 E.t.2, .int .i64 E.c.1, .int .i64 E.c.2, .bool E.cw, .slice B9 E.pts.length d9] 72))
       go_wp2_with (at_builtin; refine wpList_append_own _ rfl _ _ 27 rfl W3.heap.size 72 i0 _ 14 136 Tryz.underlying27 ia ib ic id rfl (by omega) _ _ _ rfl HOW.out ⟨w6.heap.size, 0, none⟩ 1 1 [.int .i64 E.kind, .string ⟨E.layer.toArray⟩, .int .i64 E.a.1, .int .i64 E.a.2, .int .i64 E.b.1, .int .i64 E.b.2, .int .i64 E.f.1, .int .i64 E.f.2, .int .i64 E.t.1, .int .i64 E.t.2, .int .i64 E.c.1, .int .i64 E.c.2, .bool E.cw, .slice B9 E.pts.length d9] rfl rfl CN.out C2.out C3.out.1 C3.out.2 C5.out ?_)
       intro v7 w7 hown7 hg7 _
       obtain ⟨B7, d7, rfl, _⟩ := own_shape hown7
       have hb7 := bel1 w6 (.cells #[.int .i64 E.kind, .string ⟨E.layer.toArray⟩, .int .i64 E.a.1, .int .i64 E.a.2, .int .i64 E.b.1, .int .i64 E.b.2, .int .i64 E.f.1, .int .i64 E.f.2, .int .i64 E.t.1, .int .i64 E.t.2, .int .i64 E.c.1, .int .i64 E.c.2, .bool E.cw, .slice B9 E.pts.length d9] 72)
       have HD7 := Lib.hid (HD6.out.below hlb hb7)
       have HP7 := Lib.hid (RSt.push HD7.out (HPV.out.keep (grown_below (grown_refl w6 none) hb7) (RowW.none _ _ 72) (by decide)) hlb hown7 hg7)
       clear hown7 hg7 hb7
       go_wp2
       go_roundg f
       case measure => omega
       case rel => exact ⟨false, s6, xs ++ [⟨E, B9, d9⟩], B7, d7, acc ++ [RE], by rw [List.length_append]; rfl, rfl, by rw [List.length_append, List.length_append, hacc]; rfl, Lib.hid (fun _ => HGO.out), Lib.hid (fun h => by cases h), Lib.hid (fun h => by rw [List.map_append, HXE.out (by simp)]; show _ ++ [E] = _; rw [HXE6.out h]), by intro _; rw [List.length_append]; simp only [List.length_singleton]; split <;> omega, by rw [List.length_append]; simp; omega, HP7⟩
      by_cases hkk2 : kk = kArc
      ·have hkk := hkk2
       have ekLine : (XB.toList = [76, 73, 78, 69]) = False := eq_false (by rw [HQK.out, hkk]; decide)
       have bkLine : (XB.toList == [76, 73, 78, 69]) = false := by rw [HQK.out, hkk]; rfl
       have ekArc : (XB.toList = [65, 82, 67]) = True := eq_true (by rw [HQK.out, hkk]; rfl)
       have bkArc : (XB.toList == [65, 82, 67]) = true := by rw [HQK.out, hkk]; rfl
       have ekPoly : (XB.toList = [80, 79, 76, 89]) = False := eq_false (by rw [HQK.out, hkk]; decide)
       have bkPoly : (XB.toList == [80, 79, 76, 89]) = false := by rw [HQK.out, hkk]; rfl
       have HRN := Lib.hid (HNMK.out hn2 (.inr (.inl hkk)))
       have HGO := Lib.hid (HGOX.out (by rw [HRN.out]; exact hk) (by rw [HRN.out]; exact HB2.out (by rw [hkk]; decide)))
       rw [HRN.out] at HGO
       have hb2 := HB2.out (by rw [hkk]; decide)
       clear HNMK HGOX HRN HB2
       have HEN := Lib.hid (fun W hW => (rentity_any LS A c b s2 kk (.inr (.inl hkk)) W hW))
       rw [HXB.out] at HEN
       generalize rdEnt LS kk s2 = rk at *
       obtain ⟨RE, s6⟩ := rk
       simp only at HEN HGO
       go_wp2_with fail
       refine (HEN.out _ (HD2.out.rc HRC.out)).mono ?_
       rintro e w6 ⟨h6, g6, ⟨E, B9, d9⟩, rfl, hpv, hxe⟩
       have HD6 := Lib.hid (HD2.out.step hlb h6.obj g6)
       have HPV := Lib.hid hpv
       have HXE6 := Lib.hid hxe
       clear h6 g6 hpv hxe HEN c0 c1 c2
       simp only at HXE6
       have CN := Lib.hid (World.news_of_block (cs := #[.int .i64 E.kind, .string ⟨E.layer.toArray⟩, .int .i64 E.a.1, .int .i64 E.a.2, .int .i64 E.b.1, .int .i64 E.b.2, .int .i64 E.f.1, .int .i64 E.f.2, .int .i64 E.t.1, .int .i64 E.t.2, .int .i64 E.c.1, .int .i64 E.c.2, .bool E.cw, .slice B9 E.pts.length d9]) (t := 72) (fr := (0, 0)) (GeW.heap_alloc_new w6 _))
       have C2 : Hid (∀ u ∈ ([.int .i64 E.kind, .string ⟨E.layer.toArray⟩, .int .i64 E.a.1, .int .i64 E.a.2, .int .i64 E.b.1, .int .i64 E.b.2, .int .i64 E.f.1, .int .i64 E.f.2, .int .i64 E.t.1, .int .i64 E.t.2, .int .i64 E.c.1, .int .i64 E.c.2, .bool E.cw, .slice B9 E.pts.length d9] : List Value), u.oneCell' = true) := Lib.hid (by intro u hu; simp at hu; rcases hu with rfl | rfl | rfl | rfl | rfl | rfl | rfl | rfl | rfl | rfl | rfl | rfl | rfl | rfl <;> rfl)
       have C3 : Hid (xs.length + 1 ≤ maxLen ∧ (xs.length + 1) * 136 ≤ 140737488355328) := Lib.hid (by unfold maxLen; omega)
       have C5 : Hid (W3.heap.size ≤ (w6.alloc (.cells #[.int .i64 E.kind, .string ⟨E.layer.toArray⟩, .int .i64 E.a.1, .int .i64 E.a.2, .int .i64 E.b.1, .int .i64 E.b.2, .int .i64 E.f.1, .int .i64 E.f.2, .int .i64 E.t.1, .int .i64 E.t.2, .int .i64 E.c.1, .int .i64 E.c.2, .bool E.cw, .slice B9 E.pts.length d9] 72)).heap.size) := Lib.hid (by have := HD6.out.fr.size; simp; omega)
       have HOW := Lib.hid (HD6.out.own.alloc (.cells #[.int .i64 E.kind, .string ⟨E.layer.toArray⟩, .int .i64 E.a.1, .int .i64 E.a.2, .int .i64 E.b.1, .int .i64 E.b.2, .int .i64 E.f.1, .int .i64 E.f.2, .int .i64 E.t.1, .int .i64 E.t.2, .int .i64 E.c.1, .int .i64 E.c.2, .bool E.cw, .slice B9 E.pts.length d9] 72))
       go_wp2_with (at_builtin; refine wpList_append_own _ rfl _ _ 27 rfl W3.heap.size 72 i0 _ 14 136 Tryz.underlying27 ia ib ic id rfl (by omega) _ _ _ rfl HOW.out ⟨w6.heap.size, 0, none⟩ 1 1 [.int .i64 E.kind, .string ⟨E.layer.toArray⟩, .int .i64 E.a.1, .int .i64 E.a.2, .int .i64 E.b.1, .int .i64 E.b.2, .int .i64 E.f.1, .int .i64 E.f.2, .int .i64 E.t.1, .int .i64 E.t.2, .int .i64 E.c.1, .int .i64 E.c.2, .bool E.cw, .slice B9 E.pts.length d9] rfl rfl CN.out C2.out C3.out.1 C3.out.2 C5.out ?_)
       intro v7 w7 hown7 hg7 _
       obtain ⟨B7, d7, rfl, _⟩ := own_shape hown7
       have hb7 := bel1 w6 (.cells #[.int .i64 E.kind, .string ⟨E.layer.toArray⟩, .int .i64 E.a.1, .int .i64 E.a.2, .int .i64 E.b.1, .int .i64 E.b.2, .int .i64 E.f.1, .int .i64 E.f.2, .int .i64 E.t.1, .int .i64 E.t.2, .int .i64 E.c.1, .int .i64 E.c.2, .bool E.cw, .slice B9 E.pts.length d9] 72)
       have HD7 := Lib.hid (HD6.out.below hlb hb7)
       have HP7 := Lib.hid (RSt.push HD7.out (HPV.out.keep (grown_below (grown_refl w6 none) hb7) (RowW.none _ _ 72) (by decide)) hlb hown7 hg7)
       clear hown7 hg7 hb7
       go_wp2
       go_roundg f
       case measure => omega
       case rel => exact ⟨false, s6, xs ++ [⟨E, B9, d9⟩], B7, d7, acc ++ [RE], by rw [List.length_append]; rfl, rfl, by rw [List.length_append, List.length_append, hacc]; rfl, Lib.hid (fun _ => HGO.out), Lib.hid (fun h => by cases h), Lib.hid (fun h => by rw [List.map_append, HXE.out (by simp)]; show _ ++ [E] = _; rw [HXE6.out h]), by intro _; rw [List.length_append]; simp only [List.length_singleton]; split <;> omega, by rw [List.length_append]; simp; omega, HP7⟩
      by_cases hkk3 : kk = kPoly
      ·have hkk := hkk3
       have ekLine : (XB.toList = [76, 73, 78, 69]) = False := eq_false (by rw [HQK.out, hkk]; decide)
       have bkLine : (XB.toList == [76, 73, 78, 69]) = false := by rw [HQK.out, hkk]; rfl
       have ekArc : (XB.toList = [65, 82, 67]) = False := eq_false (by rw [HQK.out, hkk]; decide)
       have bkArc : (XB.toList == [65, 82, 67]) = false := by rw [HQK.out, hkk]; rfl
       have ekPoly : (XB.toList = [80, 79, 76, 89]) = True := eq_true (by rw [HQK.out, hkk]; rfl)
       have bkPoly : (XB.toList == [80, 79, 76, 89]) = true := by rw [HQK.out, hkk]; rfl
       have HRN := Lib.hid (HNMK.out hn2 (.inr (.inr hkk)))
       have HGO := Lib.hid (HGOX.out (by rw [HRN.out]; exact hk) (by rw [HRN.out]; exact HB2.out (by rw [hkk]; decide)))
       rw [HRN.out] at HGO
       have hb2 := HB2.out (by rw [hkk]; decide)
       clear HNMK HGOX HRN HB2
       have HEN := Lib.hid (fun W hW => (rentity_any LS A c b s2 kk (.inr (.inr hkk)) W hW))
       rw [HXB.out] at HEN
       generalize rdEnt LS kk s2 = rk at *
       obtain ⟨RE, s6⟩ := rk
       simp only at HEN HGO
       go_wp2_with fail
       refine (HEN.out _ (HD2.out.rc HRC.out)).mono ?_
       rintro e w6 ⟨h6, g6, ⟨E, B9, d9⟩, rfl, hpv, hxe⟩
       have HD6 := Lib.hid (HD2.out.step hlb h6.obj g6)
       have HPV := Lib.hid hpv
       have HXE6 := Lib.hid hxe
       clear h6 g6 hpv hxe HEN c0 c1 c2
       simp only at HXE6
       have CN := Lib.hid (World.news_of_block (cs := #[.int .i64 E.kind, .string ⟨E.layer.toArray⟩, .int .i64 E.a.1, .int .i64 E.a.2, .int .i64 E.b.1, .int .i64 E.b.2, .int .i64 E.f.1, .int .i64 E.f.2, .int .i64 E.t.1, .int .i64 E.t.2, .int .i64 E.c.1, .int .i64 E.c.2, .bool E.cw, .slice B9 E.pts.length d9]) (t := 72) (fr := (0, 0)) (GeW.heap_alloc_new w6 _))
       have C2 : Hid (∀ u ∈ ([.int .i64 E.kind, .string ⟨E.layer.toArray⟩, .int .i64 E.a.1, .int .i64 E.a.2, .int .i64 E.b.1, .int .i64 E.b.2, .int .i64 E.f.1, .int .i64 E.f.2, .int .i64 E.t.1, .int .i64 E.t.2, .int .i64 E.c.1, .int .i64 E.c.2, .bool E.cw, .slice B9 E.pts.length d9] : List Value), u.oneCell' = true) := Lib.hid (by intro u hu; simp at hu; rcases hu with rfl | rfl | rfl | rfl | rfl | rfl | rfl | rfl | rfl | rfl | rfl | rfl | rfl | rfl <;> rfl)
       have C3 : Hid (xs.length + 1 ≤ maxLen ∧ (xs.length + 1) * 136 ≤ 140737488355328) := Lib.hid (by unfold maxLen; omega)
       have C5 : Hid (W3.heap.size ≤ (w6.alloc (.cells #[.int .i64 E.kind, .string ⟨E.layer.toArray⟩, .int .i64 E.a.1, .int .i64 E.a.2, .int .i64 E.b.1, .int .i64 E.b.2, .int .i64 E.f.1, .int .i64 E.f.2, .int .i64 E.t.1, .int .i64 E.t.2, .int .i64 E.c.1, .int .i64 E.c.2, .bool E.cw, .slice B9 E.pts.length d9] 72)).heap.size) := Lib.hid (by have := HD6.out.fr.size; simp; omega)
       have HOW := Lib.hid (HD6.out.own.alloc (.cells #[.int .i64 E.kind, .string ⟨E.layer.toArray⟩, .int .i64 E.a.1, .int .i64 E.a.2, .int .i64 E.b.1, .int .i64 E.b.2, .int .i64 E.f.1, .int .i64 E.f.2, .int .i64 E.t.1, .int .i64 E.t.2, .int .i64 E.c.1, .int .i64 E.c.2, .bool E.cw, .slice B9 E.pts.length d9] 72))
       go_wp2_with (at_builtin; refine wpList_append_own _ rfl _ _ 27 rfl W3.heap.size 72 i0 _ 14 136 Tryz.underlying27 ia ib ic id rfl (by omega) _ _ _ rfl HOW.out ⟨w6.heap.size, 0, none⟩ 1 1 [.int .i64 E.kind, .string ⟨E.layer.toArray⟩, .int .i64 E.a.1, .int .i64 E.a.2, .int .i64 E.b.1, .int .i64 E.b.2, .int .i64 E.f.1, .int .i64 E.f.2, .int .i64 E.t.1, .int .i64 E.t.2, .int .i64 E.c.1, .int .i64 E.c.2, .bool E.cw, .slice B9 E.pts.length d9] rfl rfl CN.out C2.out C3.out.1 C3.out.2 C5.out ?_)
       intro v7 w7 hown7 hg7 _
       obtain ⟨B7, d7, rfl, _⟩ := own_shape hown7
       have hb7 := bel1 w6 (.cells #[.int .i64 E.kind, .string ⟨E.layer.toArray⟩, .int .i64 E.a.1, .int .i64 E.a.2, .int .i64 E.b.1, .int .i64 E.b.2, .int .i64 E.f.1, .int .i64 E.f.2, .int .i64 E.t.1, .int .i64 E.t.2, .int .i64 E.c.1, .int .i64 E.c.2, .bool E.cw, .slice B9 E.pts.length d9] 72)
       have HD7 := Lib.hid (HD6.out.below hlb hb7)
       have HP7 := Lib.hid (RSt.push HD7.out (HPV.out.keep (grown_below (grown_refl w6 none) hb7) (RowW.none _ _ 72) (by decide)) hlb hown7 hg7)
       clear hown7 hg7 hb7
       go_wp2
       go_roundg f
       case measure => omega
       case rel => exact ⟨false, s6, xs ++ [⟨E, B9, d9⟩], B7, d7, acc ++ [RE], by rw [List.length_append]; rfl, rfl, by rw [List.length_append, List.length_append, hacc]; rfl, Lib.hid (fun _ => HGO.out), Lib.hid (fun h => by cases h), Lib.hid (fun h => by rw [List.map_append, HXE.out (by simp)]; show _ ++ [E] = _; rw [HXE6.out h]), by intro _; rw [List.length_append]; simp only [List.length_singleton]; split <;> omega, by rw [List.length_append]; simp; omega, HP7⟩
      have nkLine := hkk
      have nkArc := hkk2
      have nkPoly := hkk3
      have ekLine : (XB.toList = [76, 73, 78, 69]) = False := eq_false (by rw [HQK.out]; exact nkLine)
      have bkLine : (XB.toList == [76, 73, 78, 69]) = false := by rw [HQK.out]; exact beq_eq_false_iff_ne.2 nkLine
      have ekArc : (XB.toList = [65, 82, 67]) = False := eq_false (by rw [HQK.out]; exact nkArc)
      have bkArc : (XB.toList == [65, 82, 67]) = false := by rw [HQK.out]; exact beq_eq_false_iff_ne.2 nkArc
      have ekPoly : (XB.toList = [80, 79, 76, 89]) = False := eq_false (by rw [HQK.out]; exact nkPoly)
      have bkPoly : (XB.toList == [80, 79, 76, 89]) = false := by rw [HQK.out]; exact beq_eq_false_iff_ne.2 nkPoly
      have HRN := Lib.hid (show nm = ([], ck false s2) by rw [HNM.out, if_neg (by unfold Gt.kindOk; simp [hk, hkk, hkk2, hkk3])])
      have HB3 : Hid ((ck false s2).bad = true) := Lib.hid (ck_wrong s2)
      have HST := Lib.hid (HSTX.out (.inr (by rw [HRN.out]; exact HB3.out)))
      rw [HRN.out] at HST
      have HWR := Lib.hid (fun W hW => rwrong_any LS A c b s2 W hW HIX.out)
      go_wp2_with fail
      refine (HWR.out _ (HD2.out.rc HRC.out)).mono ?_
      rintro e w3 ⟨rfl, h3, g3⟩
      have HD3 := Lib.hid (HD2.out.step hlb h3.obj g3)
      clear h3 g3 c0 c1 c2
      have HFG : Hid (ents LS f (ck false s2) acc = FIN) := Lib.hid (by
       obtain ⟨f2, rfl⟩ : ∃ f2, f = f2 + 1 := ⟨f - 1, by omega⟩
       rw [← HST.out, ents, if_pos (.inl HB3.out), if_pos HB3.out])
      go_wp2_with fail
      go_roundg f
      case measure => omega
      case rel => exact ⟨false, _, xs, B, d, acc, rfl, rfl, hacc, Lib.hid (fun _ => HFG.out), Lib.hid (fun h => by cases h), Lib.hid (fun h => by rw [HB3.out] at h; cases h), (by intro _; rw [HB3.out]; simp; omega), hx2, HD3⟩
     ·have n1 : decide ((xs.length : Int) < 200) = false := decide_eq_false (by omega)
      have n2 : decide (xs.length < 200) = false := decide_eq_false hn2
      have HRN := Lib.hid (show nm = ([], ck false s2) by rw [HNM.out, if_neg (by unfold Gt.kindOk; simp [hk, hn2])])
      have HB3 : Hid ((ck false s2).bad = true) := Lib.hid (ck_wrong s2)
      have HST := Lib.hid (HSTX.out (.inr (by rw [HRN.out]; exact HB3.out)))
      rw [HRN.out] at HST
      have HWR := Lib.hid (fun W hW => rwrong_any LS A c b s2 W hW HIX.out)
      go_wp2_with fail
      refine (HWR.out _ (HD2.out.rc HRC.out)).mono ?_
      rintro e w3 ⟨rfl, h3, g3⟩
      have HD3 := Lib.hid (HD2.out.step hlb h3.obj g3)
      clear h3 g3 c0 c1 c2
      have HFG : Hid (ents LS f (ck false s2) acc = FIN) := Lib.hid (by
       obtain ⟨f2, rfl⟩ : ∃ f2, f = f2 + 1 := ⟨f - 1, by omega⟩
       rw [← HST.out, ents, if_pos (.inl HB3.out), if_pos HB3.out])
      go_wp2_with fail
      go_roundg f
      case measure => omega
      case rel => exact ⟨false, _, xs, B, d, acc, rfl, rfl, hacc, Lib.hid (fun _ => HFG.out), Lib.hid (fun h => by cases h), Lib.hid (fun h => by rw [HB3.out] at h; cases h), (by intro _; rw [HB3.out]; simp; omega), hx2, HD3⟩
   ·have HFE : Hid ((⟨si, true⟩, acc) = FIN) := Lib.hid (by
     have := HFI.out
     rwa [ents, if_pos (.inl rfl), if_pos rfl] at this)
    have HX : Hid (DEC = ([], si, 4)) := Lib.hid (by rw [HDE.out, ← HFE.out, if_pos (.inl rfl)])
    go_wp2_with fail
    go_quiet (fail)
    go_wp2
    refine bodyPost_ret (v := .tuple #[.slice none 0 0, .int .i64 (si : Int), .int .i64 4]) (by simp [results, Tryz.results8, go_sem]) rfl ?_
    rw [HX.out]
    exact ⟨none, 0, [], rfl, rfl, ⟨Row.nil _ _, fun x hx => (by cases hx), Nat.zero_le _⟩, below_drewN (ENDB.out _ _ _ _ _ HD.out) _⟩
  ·obtain ⟨HFE, hb⟩ := HFJ.out rfl
   have HFE := Lib.hid HFE
   obtain ⟨si, se⟩ := st
   simp only at hb c1 c2
   subst hb
   by_cases hsi : si < LS.length
   ·have HX : Hid (DEC = ([], si, 4)) := Lib.hid (by rw [HDE.out, ← HFE.out, if_pos (.inr (.inl hsi))])
    have d1 : decide ((si : Int) < (LS.length : Int)) = true := decide_eq_true (by omega)
    have d2 : decide (si < LS.length) = true := decide_eq_true hsi
    go_wp2_with fail
    go_quiet (fail)
    go_wp2
    refine bodyPost_ret (v := .tuple #[.slice none 0 0, .int .i64 (si : Int), .int .i64 4]) (by simp [results, Tryz.results8, go_sem]) rfl ?_
    rw [HX.out]
    exact ⟨none, 0, [], rfl, rfl, ⟨Row.nil _ _, fun x hx => (by cases hx), Nat.zero_le _⟩, below_drewN (ENDB.out _ _ _ _ _ HD.out) _⟩
   ·have d1 : decide ((si : Int) < (LS.length : Int)) = false := decide_eq_false (by omega)
    have d2 : decide (si < LS.length) = false := decide_eq_false hsi
    cases LP
    ·have HX : Hid (DEC = (xs.map EntV.e, 0, 0)) := Lib.hid (by rw [HDE.out, ← HFE.out, if_neg (by simp [hsi]), HXE.out (by simp)])
     go_wp2
     refine bodyPost_ret (v := .tuple #[.slice B xs.length d, .int .i64 0, .int .i64 0]) (by simp [results, Tryz.results8, go_sem]) rfl ?_
     rw [HX.out]
     exact ⟨B, d, xs, rfl, rfl, ⟨Row.of_own HD.out.own, fun x hx => (HD.out.pts x hx).in_, by omega⟩, ENDB.out _ _ _ _ _ HD.out⟩
    ·have HX : Hid (DEC = ([], si, 4)) := Lib.hid (by rw [HDE.out, ← HFE.out, if_pos (.inr (.inr rfl))])
     go_wp2_with fail
     go_quiet (fail)
     go_wp2
     refine bodyPost_ret (v := .tuple #[.slice none 0 0, .int .i64 (si : Int), .int .i64 4]) (by simp [results, Tryz.results8, go_sem]) rfl ?_
     rw [HX.out]
     exact ⟨none, 0, [], rfl, rfl, ⟨Row.nil _ _, fun x hx => (by cases hx), Nat.zero_le _⟩, below_drewN (ENDB.out _ _ _ _ _ HD.out) _⟩
end Go.Proofs.YtnmmhcchpcbeeaaGreatDoor.GtW
