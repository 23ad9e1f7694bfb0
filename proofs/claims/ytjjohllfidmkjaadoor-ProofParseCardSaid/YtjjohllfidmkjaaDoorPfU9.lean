/- Walk: the reference's Parse. Conditions: the text has at most a million bytes. -/
import Derived.Test.YtjjohllfidmkjaaDoorPfU5
import Derived.Deep.LoopGhost
import Derived.Deep.AppendLies
import Derived.Deep.CutRange
import Derived.Deep.RegionLaw
import Derived.BigRegion
import Derived.Outline
import Derived.Test.YtjjohllfidmkjaaDoorPfT2
import Derived.Test.YtjjohllfidmkjaaDoorPfP
import Derived.Test.YtjjohllfidmkjaaDoorPfV

namespace Go.Proofs.YtjjohllfidmkjaaDoor.PfW
open Go Go.RowKit Go.Proofs.YtjjohllfidmkjaaDoor.Mem Go.Proofs.YtjjohllfidmkjaaDoor.Pf
attribute [local go_sem ↓] Go.wp_at_zero Go.wp_at_succ
set_option maxRecDepth 100000 in
set_option maxHeartbeats 8000000 in
theorem rtree_leaf_any (F d : Nat) (s : List UInt8) (br : Nat) (w : World) (hs : s.length ≤ 1000000) (hF : s.length < F + 1) (hd : d ≤ 40) (hq : hp s 40 = true) (hb : w.heap[br]? = some (inO s false)) :
    Calls Tryd.prog 54 #[.pointer (some ⟨br, 0, none⟩), .int .i64 (d : Int)] w (RPRet br (rTree (F + 1) d s) w) := by
  obtain ⟨i0, ia, ib, ic, id⟩ := info_parts info_int'
  have HBB := Lib.hid (two_boxes w (.cells #[.int .i64 0, .slice none 0 0, .slice none 0 0] 29) (.cells #[.int .i64 0, .slice none 0 0, .slice none 0 0] 29))
  have hlt := lt_of_block hb
  have HS0 : Hid (RLSt br w [] s false (.slice none 0 0) ((w.alloc (.cells #[.int .i64 0, .slice none 0 0, .slice none 0 0] 29)).alloc (.cells #[.int .i64 0, .slice none 0 0, .slice none 0 0] 29))) := Lib.hid ⟨(HBB.out.1.block _ hlt).trans hb, HBB.out.2.1, HBB.out.2.2, World.ownsRow_nil _ _ _ _, grown_of_below HBB.out.1, hlt⟩
  have HK0 := Lib.hid trivial
  have HD := Lib.hid (show ¬ 40 < d by omega)
  have d1 : decide ((40 : Int) < (d : Int)) = false := decide_eq_false (by omega)
  clear hb HBB
  obtain ⟨FIN, hFI⟩ : ∃ FIN, Hid (rLeaf F [] (tp s 40) = FIN) := ⟨_, Lib.hid rfl⟩
  have HRES : Hid (rTree (F + 1) d s = rLeafT FIN) := Lib.hid (by rw [rtree_leaf HD.out hq, hFI.out])
  have htl := tp_len hq
  have HK := Lib.hid (fun W h => rskip_yes s 40 40 rfl hq br W h)
  clear hq
  go_enter Tryd.func54, Tryd.ntmps54
  go_wp2_with fail
  generalize (w.alloc (.cells #[.int .i64 0, .slice none 0 0, .slice none 0 0] 29)).alloc (.cells #[.int .i64 0, .slice none 0 0, .slice none 0 0] 29) = W0 at *
  refine (HK.out _ HS0.out.rd).mono ?_
  rintro e w2 ⟨rfl, hr2, hg2⟩
  have HS1 := Lib.hid (HS0.out.step hr2 hg2)
  clear hr2 hg2
  go_wp2
  go_loopg [18] F (fun gf _ wr => ∃ (lf : List Int) (t : List UInt8) (b : Bool) (v : Value), Hid (b = false → rLeaf gf lf t = FIN ∧ t.length < gf) ∧ Hid (b = true → FIN = none) ∧ Hid (lf.length ≤ 1000001 ∧ (b = false → lf.length + t.length ≤ 1000000)) ∧ Hid (RLSt br w lf t b v wr))
  case atStart => exact ⟨[], tp s 40, false, .slice none 0 0, Lib.hid (fun _ => ⟨hFI.out, by omega⟩), Lib.hid (fun h => by cases h), Lib.hid ⟨by simp, fun _ => by simp; omega⟩, HS1⟩
  case round =>
    obtain ⟨lf, t, b, v, HGD, HBD, HLN, HS⟩ := hrel
    clear hFI HS1 HS0 HK0 HK
    obtain ⟨vA, vc, rfl, hvc⟩ := own_shape HS.out.own
    cases b
    case true =>
      have HFE : Hid (rTree (F + 1) d s = none) := Lib.hid (by rw [HRES.out, HBD.out rfl]; rfl)
      have hrd := HS.out.rd
      unfold inO at hrd
      obtain ⟨c0, c1⟩ := cell2 hrd
      have f1 := free2 hrd 1
      have bz := lt_of_block hrd
      clear hrd
      have HSF := HS
      go_upto_region 19 with fail
      obtain ⟨r0, r1, r2⟩ := cell3 HSF.out.res
      have q0 := free3 HSF.out.res 0
      have q1 := free3 HSF.out.res 1
      have q2 := free3 HSF.out.res 2
      have qz := lt_of_block HSF.out.res
      obtain ⟨b0, b1, b2⟩ := cell3 HSF.out.box
      go_wp2
      refine bodyPost_ret (v := .agg #[.int .i64 0, .slice none 0 0, .slice vA lf.length vc]) (by simp [results, Tryd.results54, go_sem, r0, r1, r2]) rfl ?_
      rw [HFE.out]
      exact ⟨three_new_set HSF.out.grow (Nat.le_refl _) _ _ _, 0, none, 0, 0, vA, lf.length, vc, rfl, _, (three_far _ _ _ _ _ _ (by have := HSF.out.lt; omega)).trans HSF.out.rd⟩
    case false =>
    rcases gk with _ | f
    · exact absurd (HGD.out rfl).2 (Nat.not_lt_zero _)
    have HFI : Hid (rLeaf (f + 1) lf t = FIN) := Lib.hid (HGD.out rfl).1
    have hlf : t.length < f + 1 := (HGD.out rfl).2
    have hll := HLN.out.2 rfl
    clear HGD HBD HLN
    have hrd := HS.out.rd
    unfold inO at hrd
    obtain ⟨c0, c1⟩ := cell2 hrd
    have f1 := free2 hrd 1
    have bz := lt_of_block hrd
    clear hrd
    cases hq1 : hp t 41
    case true =>
      have HFE : Hid (rTree (F + 1) d s = some (.mk 0 [] lf, tp t 41)) := Lib.hid (by rw [HRES.out, ← HFI.out, rleaf_end hq1]; rfl)
      have HK := Lib.hid (rskip_yes t 41 41 rfl hq1 br wr HS.out.rd)
      clear hq1
      go_wp2_with fail
      refine HK.out.mono ?_
      rintro e w3 ⟨rfl, hr3, hg3⟩
      have HSF := Lib.hid (HS.out.step hr3 hg3)
      clear hr3 hg3 c0 c1 f1 bz
      go_upto_region 19 with fail
      obtain ⟨r0, r1, r2⟩ := cell3 HSF.out.res
      have q0 := free3 HSF.out.res 0
      have q1 := free3 HSF.out.res 1
      have q2 := free3 HSF.out.res 2
      have qz := lt_of_block HSF.out.res
      obtain ⟨b0, b1, b2⟩ := cell3 HSF.out.box
      go_wp2
      refine bodyPost_ret (v := .agg #[.int .i64 0, .slice none 0 0, .slice vA lf.length vc]) (by simp [results, Tryd.results54, go_sem, r0, r1, r2]) rfl ?_
      rw [HFE.out]
      exact ⟨three_new_set HSF.out.grow (Nat.le_refl _) _ _ _, 0, none, 0, 0, vA, lf.length, vc, rfl, (three_far _ _ _ _ _ _ (by have := HSF.out.lt; omega)).trans HSF.out.rd, TreeIn.stays (fun g hg _ => three_far _ _ _ _ _ _ (by omega)) (fun g hg _ => Nat.le_of_lt hg) _ _ (HSF.out.tree hvc)⟩
    case false =>
      have HK := Lib.hid (rskip_no t 41 41 rfl hq1 br wr HS.out.rd)
      have HQ1 := Lib.hid hq1
      clear hq1
      go_wp2_with fail
      refine HK.out.mono ?_
      rintro e w1 ⟨rfl, hw1⟩
      have HS1 : Hid (RLSt br w lf t false (.slice vA lf.length vc) w1) := Lib.hid (by rw [hw1]; exact HS.out)
      clear hw1 c0 c1 f1 bz HS
      by_cases ha : lf.length = 0
      · obtain rfl : lf = [] := List.eq_nil_of_length_eq_zero ha
        obtain ⟨u, hu⟩ : ∃ u, u = t := ⟨_, rfl⟩
        have HGO := Lib.hid (rleaf_go (f := f) (acc := []) HQ1.out (.inl ⟨rfl, hu⟩))
        subst hu
        have HS2 : Hid (RLSt br w [] u false (.slice vA 0 vc) w1) := HS1
        clear HS1 ha
        have hll0 : u.length ≤ 1000000 := by simpa using hll
        clear hll
        obtain ⟨b0, b1, b2⟩ := cell3 HS2.out.box
        go_upto_region 10 with fail
        clear b0 b1 b2
        have hu2 : u.length ≤ 1000000 := by omega
        have HNU := Lib.hid (fun W h => rnumber_any u hu2 br W h)
        cases hnum : rNum u with
        | none =>
          rw [hnum] at HGO HNU
          have HFN : Hid (FIN = none) := Lib.hid (by rw [← HFI.out, HGO.out])
          clear hnum
          have HNE := Lib.hid HS2.out.own.lt
          obtain ⟨b0, b1, b2⟩ := cell3 HS2.out.box
          have g0 := free3 HS2.out.box 0
          have g1 := free3 HS2.out.box 1
          have g2 := free3 HS2.out.box 2
          have gz := lt_of_block HS2.out.box
          go_region_law (first | (refine step_append_lies _ (by rfl) _ _ _ (by rfl) (w.heap.size + 2) 3 i0 _ 1 8 Tryd.underlying27 ia ib ic id rfl (by omega) (.slice vA 0 vc) 0 (intCells []) (by rfl) (HS4.out.own.alloc _) ⟨w4.heap.size, 0, none⟩ 1 1 [.int .i64 0] (by rfl) (by rfl) (World.news_of_block (cs := #[.int .i64 0]) (t := 3) (fr := (0, 0)) (heap_alloc_new w4 _)) (by simp [Value.oneCell']) (by omega) (by unfold maxLen; omega) (by omega) (by simp; omega) (w4.heap.size + 1) (by simp) ?_; intro gg cap w5 hown5 hgrow hat hlt5; have j5 := (hgrow.block _ (by simp; omega) (fun e => by have := HNE.out _ e.symm; omega)).trans ((heap_alloc_old w4 _ (by omega)).trans HS4.out.box); have p0 := (cell3 j5).2.2; have p1 := free3 j5 2; have p2 := lt_of_block j5; clear j5) | (go_simp; go_at_call 75; refine (HNU.out w1.drew (show w1.drew.heap[br]? = _ from HS2.out.rd)).mono ?_; rintro e w4 ⟨hg40, rfl, t4, hr4⟩; have HS4 := Lib.hid (HS2.out.step hr4 (grown_drew0 hg40)); have h1 := (cell3 HS4.out.box).2.2; have h6 := lt_of_block HS4.out.box; have h5 := (((Below.refl w4.heap.size w4).alloc (Nat.le_refl _) (.cells #[.int .i64 0] 3)).cell (p := ⟨w.heap.size + 1, 2, none⟩) h6).trans h1))
          all_goals
            have HNX := Lib.hid (HS4.out.push (w1 := w4.alloc (.cells #[.int .i64 0] 3)) ((Below.refl w4.heap.size w4).alloc (Nat.le_refl _) _) hown5 hgrow)
            clear hown5 hgrow hat p0 p1 p2 h1 h5 h6 b0 b1 b2 g0 g1 g2 gz
            generalize w5.setCell ⟨w.heap.size + 1, 2, none⟩ (.slice (some ⟨gg, 0, none⟩) (0 + 1) cap) = W6 at *
            go_wp2
            go_roundg 0
            case measure => omega
            case rel => exact ⟨[] ++ [0], _, true, _, Lib.hid (fun h => by cases h), Lib.hid (fun _ => HFN.out), Lib.hid ⟨by simp <;> omega, fun h => by cases h⟩, HNX⟩
        | some p =>
          obtain ⟨x, r2⟩ := p
          have hrl := rNum_len hnum
          rw [hnum] at HGO HNU
          have HFN : Hid (rLeaf f ([] ++ [x]) r2 = FIN) := Lib.hid (by rw [← HFI.out, HGO.out])
          clear hnum
          have HNE := Lib.hid HS2.out.own.lt
          obtain ⟨b0, b1, b2⟩ := cell3 HS2.out.box
          have g0 := free3 HS2.out.box 0
          have g1 := free3 HS2.out.box 1
          have g2 := free3 HS2.out.box 2
          have gz := lt_of_block HS2.out.box
          go_region_law (first | (refine step_append_lies _ (by rfl) _ _ _ (by rfl) (w.heap.size + 2) 3 i0 _ 1 8 Tryd.underlying27 ia ib ic id rfl (by omega) (.slice vA 0 vc) 0 (intCells []) (by rfl) (HS4.out.own.alloc _) ⟨w4.heap.size, 0, none⟩ 1 1 [.int .i64 x] (by rfl) (by rfl) (World.news_of_block (cs := #[.int .i64 x]) (t := 3) (fr := (0, 0)) (heap_alloc_new w4 _)) (by simp [Value.oneCell']) (by omega) (by unfold maxLen; omega) (by omega) (by simp; omega) (w4.heap.size + 1) (by simp) ?_; intro gg cap w5 hown5 hgrow hat hlt5; have j5 := (hgrow.block _ (by simp; omega) (fun e => by have := HNE.out _ e.symm; omega)).trans ((heap_alloc_old w4 _ (by omega)).trans HS4.out.box); have p0 := (cell3 j5).2.2; have p1 := free3 j5 2; have p2 := lt_of_block j5; clear j5) | (go_simp; go_at_call 75; refine (HNU.out w1.drew (show w1.drew.heap[br]? = _ from HS2.out.rd)).mono ?_; rintro e w4 ⟨hg40, rfl, hr4⟩; have HS4 := Lib.hid (HS2.out.step hr4 (grown_drew0 hg40)); have h1 := (cell3 HS4.out.box).2.2; have h6 := lt_of_block HS4.out.box; have h5 := (((Below.refl w4.heap.size w4).alloc (Nat.le_refl _) (.cells #[.int .i64 x] 3)).cell (p := ⟨w.heap.size + 1, 2, none⟩) h6).trans h1))
          all_goals
            have HNX := Lib.hid (HS4.out.push (w1 := w4.alloc (.cells #[.int .i64 x] 3)) ((Below.refl w4.heap.size w4).alloc (Nat.le_refl _) _) hown5 hgrow)
            clear hown5 hgrow hat p0 p1 p2 h1 h5 h6 b0 b1 b2 g0 g1 g2 gz
            generalize w5.setCell ⟨w.heap.size + 1, 2, none⟩ (.slice (some ⟨gg, 0, none⟩) (0 + 1) cap) = W6 at *
            go_wp2
            go_roundg f
            case measure => omega
            case rel => exact ⟨[] ++ [x], r2, false, _, Lib.hid (fun _ => ⟨HFN.out, by omega⟩), Lib.hid (fun h => by cases h), Lib.hid ⟨by simp <;> omega, fun _ => by simp <;> omega⟩, HNX⟩
      · have dd : decide ((0 : Int) < (lf.length : Int)) = true := decide_eq_true (by omega)
        obtain ⟨b0, b1, b2⟩ := cell3 HS1.out.box
        cases hq2 : hp t 32
        case false =>
          have HFE : Hid (rTree (F + 1) d s = none) := Lib.hid (by rw [HRES.out, ← HFI.out, rleaf_sep HQ1.out (by omega) hq2]; rfl)
          have HK := Lib.hid (fun W h => rskip_no t 32 32 rfl hq2 br W h)
          clear hq2
          go_wp2_with fail
          refine (HK.out _ HS1.out.rd).mono ?_
          rintro e w3 ⟨rfl, hw3⟩
          have HS3 : Hid (RLSt br w lf t false (.slice vA lf.length vc) w3) := Lib.hid (by rw [hw3]; exact HS1.out)
          clear hw3 b0 b1 b2
          have hrd := HS3.out.rd
          unfold inO at hrd
          obtain ⟨c0, c1⟩ := cell2 hrd
          have f1 := free2 hrd 1
          have bz := lt_of_block hrd
          clear hrd
          have HSF := Lib.hid (HS3.out.step (grown_bad HS3.out.rd (World.grownBy.refl _ _)).2 (grown_bad HS3.out.rd (World.grownBy.refl _ _)).1)
          go_upto_region 9 with fail
          generalize w3.setCell ⟨br, 1, none⟩ (.bool true) = W9 at *
          clear c0 c1 f1 bz
          obtain ⟨r0, r1, r2⟩ := cell3 HSF.out.res
          have q0 := free3 HSF.out.res 0
          have q1 := free3 HSF.out.res 1
          have q2 := free3 HSF.out.res 2
          have qz := lt_of_block HSF.out.res
          obtain ⟨b0, b1, b2⟩ := cell3 HSF.out.box
          go_wp2
          refine bodyPost_ret (v := .agg #[.int .i64 0, .slice none 0 0, .slice vA lf.length vc]) (by simp [results, Tryd.results54, go_sem, r0, r1, r2]) rfl ?_
          rw [HFE.out]
          exact ⟨three_new_set HSF.out.grow (Nat.le_refl _) _ _ _, 0, none, 0, 0, vA, lf.length, vc, rfl, _, (three_far _ _ _ _ _ _ (by have := HSF.out.lt; omega)).trans HSF.out.rd⟩
        case true =>
          have HGO := Lib.hid (rleaf_go (f := f) (acc := lf) (r := tp t 32) HQ1.out (.inr ⟨by omega, hq2, rfl⟩))
          have htl2 := tp_len hq2
          have HK := Lib.hid (fun W h => rskip_yes t 32 32 rfl hq2 br W h)
          clear hq2
          generalize tp t 32 = u at *
          go_wp2_with fail
          refine (HK.out _ HS1.out.rd).mono ?_
          rintro e w2 ⟨rfl, hr2, hg2⟩
          have HS2 := Lib.hid (HS1.out.step hr2 hg2)
          clear hr2 hg2 b0 b1 b2
          obtain ⟨b0, b1, b2⟩ := cell3 HS2.out.box
          go_upto_region 10 with fail
          clear b0 b1 b2
          have hu2 : u.length ≤ 1000000 := by omega
          have HNU := Lib.hid (fun W h => rnumber_any u hu2 br W h)
          cases hnum : rNum u with
          | none =>
            rw [hnum] at HGO HNU
            have HFN : Hid (FIN = none) := Lib.hid (by rw [← HFI.out, HGO.out])
            clear hnum
            have HNE := Lib.hid HS2.out.own.lt
            obtain ⟨b0, b1, b2⟩ := cell3 HS2.out.box
            have g0 := free3 HS2.out.box 0
            have g1 := free3 HS2.out.box 1
            have g2 := free3 HS2.out.box 2
            have gz := lt_of_block HS2.out.box
            go_region_law (first | (refine step_append_lies _ (by rfl) _ _ _ (by rfl) (w.heap.size + 2) 3 i0 _ 1 8 Tryd.underlying27 ia ib ic id rfl (by omega) (.slice vA lf.length vc) lf.length (intCells lf) (by rfl) (HS4.out.own.alloc _) ⟨w4.heap.size, 0, none⟩ 1 1 [.int .i64 0] (by rfl) (by rfl) (World.news_of_block (cs := #[.int .i64 0]) (t := 3) (fr := (0, 0)) (heap_alloc_new w4 _)) (by simp [Value.oneCell']) (by omega) (by unfold maxLen; omega) (by omega) (by simp; omega) (w4.heap.size + 1) (by simp) ?_; intro gg cap w5 hown5 hgrow hat hlt5; have j5 := (hgrow.block _ (by simp; omega) (fun e => by have := HNE.out _ e.symm; omega)).trans ((heap_alloc_old w4 _ (by omega)).trans HS4.out.box); have p0 := (cell3 j5).2.2; have p1 := free3 j5 2; have p2 := lt_of_block j5; clear j5) | (go_simp; go_at_call 75; refine (HNU.out w2.drew (show w2.drew.heap[br]? = _ from HS2.out.rd)).mono ?_; rintro e w4 ⟨hg40, rfl, t4, hr4⟩; have HS4 := Lib.hid (HS2.out.step hr4 (grown_drew0 hg40)); have h1 := (cell3 HS4.out.box).2.2; have h6 := lt_of_block HS4.out.box; have h5 := (((Below.refl w4.heap.size w4).alloc (Nat.le_refl _) (.cells #[.int .i64 0] 3)).cell (p := ⟨w.heap.size + 1, 2, none⟩) h6).trans h1))
            all_goals
              have HNX := Lib.hid (HS4.out.push (w1 := w4.alloc (.cells #[.int .i64 0] 3)) ((Below.refl w4.heap.size w4).alloc (Nat.le_refl _) _) hown5 hgrow)
              clear hown5 hgrow hat p0 p1 p2 h1 h5 h6 b0 b1 b2 g0 g1 g2 gz
              generalize w5.setCell ⟨w.heap.size + 1, 2, none⟩ (.slice (some ⟨gg, 0, none⟩) (lf.length + 1) cap) = W6 at *
              go_wp2
              go_roundg 0
              case measure => omega
              case rel => exact ⟨lf ++ [0], _, true, _, Lib.hid (fun h => by cases h), Lib.hid (fun _ => HFN.out), Lib.hid ⟨by simp <;> omega, fun h => by cases h⟩, HNX⟩
          | some p =>
            obtain ⟨x, r2⟩ := p
            have hrl := rNum_len hnum
            rw [hnum] at HGO HNU
            have HFN : Hid (rLeaf f (lf ++ [x]) r2 = FIN) := Lib.hid (by rw [← HFI.out, HGO.out])
            clear hnum
            have HNE := Lib.hid HS2.out.own.lt
            obtain ⟨b0, b1, b2⟩ := cell3 HS2.out.box
            have g0 := free3 HS2.out.box 0
            have g1 := free3 HS2.out.box 1
            have g2 := free3 HS2.out.box 2
            have gz := lt_of_block HS2.out.box
            go_region_law (first | (refine step_append_lies _ (by rfl) _ _ _ (by rfl) (w.heap.size + 2) 3 i0 _ 1 8 Tryd.underlying27 ia ib ic id rfl (by omega) (.slice vA lf.length vc) lf.length (intCells lf) (by rfl) (HS4.out.own.alloc _) ⟨w4.heap.size, 0, none⟩ 1 1 [.int .i64 x] (by rfl) (by rfl) (World.news_of_block (cs := #[.int .i64 x]) (t := 3) (fr := (0, 0)) (heap_alloc_new w4 _)) (by simp [Value.oneCell']) (by omega) (by unfold maxLen; omega) (by omega) (by simp; omega) (w4.heap.size + 1) (by simp) ?_; intro gg cap w5 hown5 hgrow hat hlt5; have j5 := (hgrow.block _ (by simp; omega) (fun e => by have := HNE.out _ e.symm; omega)).trans ((heap_alloc_old w4 _ (by omega)).trans HS4.out.box); have p0 := (cell3 j5).2.2; have p1 := free3 j5 2; have p2 := lt_of_block j5; clear j5) | (go_simp; go_at_call 75; refine (HNU.out w2.drew (show w2.drew.heap[br]? = _ from HS2.out.rd)).mono ?_; rintro e w4 ⟨hg40, rfl, hr4⟩; have HS4 := Lib.hid (HS2.out.step hr4 (grown_drew0 hg40)); have h1 := (cell3 HS4.out.box).2.2; have h6 := lt_of_block HS4.out.box; have h5 := (((Below.refl w4.heap.size w4).alloc (Nat.le_refl _) (.cells #[.int .i64 x] 3)).cell (p := ⟨w.heap.size + 1, 2, none⟩) h6).trans h1))
            all_goals
              have HNX := Lib.hid (HS4.out.push (w1 := w4.alloc (.cells #[.int .i64 x] 3)) ((Below.refl w4.heap.size w4).alloc (Nat.le_refl _) _) hown5 hgrow)
              clear hown5 hgrow hat p0 p1 p2 h1 h5 h6 b0 b1 b2 g0 g1 g2 gz
              generalize w5.setCell ⟨w.heap.size + 1, 2, none⟩ (.slice (some ⟨gg, 0, none⟩) (lf.length + 1) cap) = W6 at *
              go_wp2
              go_roundg f
              case measure => omega
              case rel => exact ⟨lf ++ [x], r2, false, _, Lib.hid (fun _ => ⟨HFN.out, by omega⟩), Lib.hid (fun h => by cases h), Lib.hid ⟨by simp <;> omega, fun _ => by simp <;> omega⟩, HNX⟩
end Go.Proofs.YtjjohllfidmkjaaDoor.PfW

namespace Go.Proofs.YtjjohllfidmkjaaDoor.PfW
open Go Go.RowKit Go.Proofs.YtjjohllfidmkjaaDoor.Mem Go.Proofs.YtjjohllfidmkjaaDoor.Pf
attribute [local go_sem ↓] Go.wp_at_zero Go.wp_at_succ
set_option maxRecDepth 100000 in
set_option maxHeartbeats 8000000 in
theorem rtree_deep_any (F d : Nat) (s : List UInt8) (br : Nat) (w : World) (_hs : s.length ≤ 1000000) (_hF : s.length < F + 1) (h2 : 40 < d) (hb : w.heap[br]? = some (inO s false)) :
    Calls Tryd.prog 54 #[.pointer (some ⟨br, 0, none⟩), .int .i64 (d : Int)] w (RPRet br (rTree (F + 1) d s) w) := by
  have d2 : decide ((40 : Int) < (d : Int)) = true := decide_eq_true (by omega)
  have HFE : Hid (rTree (F + 1) d s = none) := Lib.hid (rtree_bad h2)
  clear h2
  have HBB := Lib.hid (two_boxes w (.cells #[.int .i64 0, .slice none 0 0, .slice none 0 0] 29) (.cells #[.int .i64 0, .slice none 0 0, .slice none 0 0] 29))
  have hlt := lt_of_block hb
  have HS0 : Hid (RKSt br w 0 0 s false (.slice none 0 0) [] ((w.alloc (.cells #[.int .i64 0, .slice none 0 0, .slice none 0 0] 29)).alloc (.cells #[.int .i64 0, .slice none 0 0, .slice none 0 0] 29))) := Lib.hid ⟨(HBB.out.1.block _ hlt).trans hb, HBB.out.2.1, HBB.out.2.2, World.ownsRow_nil _ _ _ _, grown_of_below HBB.out.1, hlt⟩
  clear hb HBB
  have hrd := HS0.out.rd
  unfold inO at hrd
  obtain ⟨c0, c1⟩ := cell2 hrd
  have f1 := free2 hrd 1
  have bz := lt_of_block hrd
  clear hrd
  go_enter Tryd.func54, Tryd.ntmps54
  have HSF := Lib.hid (HS0.out.step (grown_bad HS0.out.rd (World.grownBy.refl _ _)).2 (grown_bad HS0.out.rd (World.grownBy.refl _ _)).1)
  go_upto_region 3 with fail
  generalize (w.alloc (.cells #[.int .i64 0, .slice none 0 0, .slice none 0 0] 29)).alloc (.cells #[.int .i64 0, .slice none 0 0, .slice none 0 0] 29) = W0 at *
  go_upto_region 19 with fail
  generalize W0.setCell ⟨br, 1, none⟩ (.bool true) = W9 at *
  clear c0 c1 f1 bz
  obtain ⟨r0, r1, r2⟩ := cell3 HSF.out.res
  have q0 := free3 HSF.out.res 0
  have q1 := free3 HSF.out.res 1
  have q2 := free3 HSF.out.res 2
  have qz := lt_of_block HSF.out.res
  obtain ⟨b0, b1, b2⟩ := cell3 HSF.out.box
  go_wp2
  refine bodyPost_ret (v := .agg #[.int .i64 0, .slice none 0 0, .slice none 0 0]) (by simp [results, Tryd.results54, go_sem, r0, r1, r2]) rfl ?_
  rw [HFE.out]
  exact ⟨three_new_set HSF.out.grow (Nat.le_refl _) _ _ _, 0, none, 0, 0, none, 0, 0, rfl, _, (three_far _ _ _ _ _ _ (by have := HSF.out.lt; omega)).trans HSF.out.rd⟩
set_option maxRecDepth 100000 in
set_option maxHeartbeats 8000000 in
theorem rtree_none_any (F d : Nat) (s : List UInt8) (br : Nat) (w : World) (_hs : s.length ≤ 1000000) (_hF : s.length < F + 1) (hd : d ≤ 40) (hq : hp s 40 = false) (hq2 : hp s 91 = false) (hb : w.heap[br]? = some (inO s false)) :
    Calls Tryd.prog 54 #[.pointer (some ⟨br, 0, none⟩), .int .i64 (d : Int)] w (RPRet br (rTree (F + 1) d s) w) := by
  have d2 : decide ((40 : Int) < (d : Int)) = false := decide_eq_false (by omega)
  have HD := Lib.hid (show ¬ 40 < d by omega)
  have HBB := Lib.hid (two_boxes w (.cells #[.int .i64 0, .slice none 0 0, .slice none 0 0] 29) (.cells #[.int .i64 0, .slice none 0 0, .slice none 0 0] 29))
  have hlt := lt_of_block hb
  have HS0 : Hid (RKSt br w 0 0 s false (.slice none 0 0) [] ((w.alloc (.cells #[.int .i64 0, .slice none 0 0, .slice none 0 0] 29)).alloc (.cells #[.int .i64 0, .slice none 0 0, .slice none 0 0] 29))) := Lib.hid ⟨(HBB.out.1.block _ hlt).trans hb, HBB.out.2.1, HBB.out.2.2, World.ownsRow_nil _ _ _ _, grown_of_below HBB.out.1, hlt⟩
  clear hb HBB
  have HK := Lib.hid (fun W h => rskip_no s 40 40 rfl hq br W h)
  have HFE : Hid (rTree (F + 1) d s = none) := Lib.hid (rtree_no HD.out hq hq2)
  have HK2 := Lib.hid (fun W h => rskip_no s 91 91 rfl hq2 br W h)
  clear hq hq2
  go_enter Tryd.func54, Tryd.ntmps54
  go_wp2_with fail
  generalize (w.alloc (.cells #[.int .i64 0, .slice none 0 0, .slice none 0 0] 29)).alloc (.cells #[.int .i64 0, .slice none 0 0, .slice none 0 0] 29) = W0 at *
  refine (HK.out _ HS0.out.rd).mono ?_
  rintro e w1 ⟨rfl, hw1⟩
  have HS1 : Hid (RKSt br w 0 0 s false (.slice none 0 0) [] w1) := Lib.hid (by rw [hw1]; exact HS0.out)
  clear hw1
  go_wp2_with fail
  refine (HK2.out _ HS1.out.rd).mono ?_
  rintro e w2 ⟨rfl, hw2⟩
  have HS2 : Hid (RKSt br w 0 0 s false (.slice none 0 0) [] w2) := Lib.hid (by rw [hw2]; exact HS1.out)
  clear hw2
  have hrd := HS2.out.rd
  unfold inO at hrd
  obtain ⟨c0, c1⟩ := cell2 hrd
  have f1 := free2 hrd 1
  have bz := lt_of_block hrd
  clear hrd
  have HSF := Lib.hid (HS2.out.step (grown_bad HS2.out.rd (World.grownBy.refl _ _)).2 (grown_bad HS2.out.rd (World.grownBy.refl _ _)).1)
  go_upto_region 19 with fail
  generalize w2.setCell ⟨br, 1, none⟩ (.bool true) = W9 at *
  clear c0 c1 f1 bz
  obtain ⟨r0, r1, r2⟩ := cell3 HSF.out.res
  have q0 := free3 HSF.out.res 0
  have q1 := free3 HSF.out.res 1
  have q2 := free3 HSF.out.res 2
  have qz := lt_of_block HSF.out.res
  obtain ⟨b0, b1, b2⟩ := cell3 HSF.out.box
  go_wp2
  refine bodyPost_ret (v := .agg #[.int .i64 0, .slice none 0 0, .slice none 0 0]) (by simp [results, Tryd.results54, go_sem, r0, r1, r2]) rfl ?_
  rw [HFE.out]
  exact ⟨three_new_set HSF.out.grow (Nat.le_refl _) _ _ _, 0, none, 0, 0, none, 0, 0, rfl, _, (three_far _ _ _ _ _ _ (by have := HSF.out.lt; omega)).trans HSF.out.rd⟩
set_option maxRecDepth 100000 in
set_option maxHeartbeats 8000000 in
theorem rtree_numbad_any (F d : Nat) (s : List UInt8) (br : Nat) (w : World) (hs : s.length ≤ 1000000) (_hF : s.length < F + 1) (hd : d ≤ 40) (hq : hp s 40 = false) (hq2 : hp s 91 = true) (hnum : rNum (tp s 91) = none) (hb : w.heap[br]? = some (inO s false)) :
    Calls Tryd.prog 54 #[.pointer (some ⟨br, 0, none⟩), .int .i64 (d : Int)] w (RPRet br (rTree (F + 1) d s) w) := by
  have d2 : decide ((40 : Int) < (d : Int)) = false := decide_eq_false (by omega)
  have HD := Lib.hid (show ¬ 40 < d by omega)
  have HBB := Lib.hid (two_boxes w (.cells #[.int .i64 0, .slice none 0 0, .slice none 0 0] 29) (.cells #[.int .i64 0, .slice none 0 0, .slice none 0 0] 29))
  have hlt := lt_of_block hb
  have HS0 : Hid (RKSt br w 0 0 s false (.slice none 0 0) [] ((w.alloc (.cells #[.int .i64 0, .slice none 0 0, .slice none 0 0] 29)).alloc (.cells #[.int .i64 0, .slice none 0 0, .slice none 0 0] 29))) := Lib.hid ⟨(HBB.out.1.block _ hlt).trans hb, HBB.out.2.1, HBB.out.2.2, World.ownsRow_nil _ _ _ _, grown_of_below HBB.out.1, hlt⟩
  clear hb HBB
  have HK := Lib.hid (fun W h => rskip_no s 40 40 rfl hq br W h)
  have htl := tp_len hq2
  have HTN := Lib.hid (rtree_node (f := F) HD.out hq hq2)
  have HK2 := Lib.hid (fun W h => rskip_yes s 91 91 rfl hq2 br W h)
  clear hq hq2
  have HNU := Lib.hid (fun W hr => rnumber_any (tp s 91) (by omega) br W hr)
  rw [hnum] at HTN HNU
  have HFE : Hid (rTree (F + 1) d s = none) := Lib.hid HTN.out
  clear hnum
  go_enter Tryd.func54, Tryd.ntmps54
  go_wp2_with fail
  generalize (w.alloc (.cells #[.int .i64 0, .slice none 0 0, .slice none 0 0] 29)).alloc (.cells #[.int .i64 0, .slice none 0 0, .slice none 0 0] 29) = W0 at *
  refine (HK.out _ HS0.out.rd).mono ?_
  rintro e w1 ⟨rfl, hw1⟩
  have HS1 : Hid (RKSt br w 0 0 s false (.slice none 0 0) [] w1) := Lib.hid (by rw [hw1]; exact HS0.out)
  clear hw1
  go_wp2_with fail
  refine (HK2.out _ HS1.out.rd).mono ?_
  rintro e w3 ⟨rfl, hr3, hg3⟩
  have HS3 := Lib.hid (HS1.out.step hr3 hg3)
  clear hr3 hg3
  go_wp2_with fail
  refine (HNU.out _ HS3.out.rd).mono ?_
  rintro e w4 ⟨hg4, rfl, t4, hr4⟩
  have HS4 := Lib.hid (HS3.out.step hr4 hg4)
  clear hr4 hg4
  obtain ⟨b0, b1, b2⟩ := cell3 HS4.out.box
  have g0 := free3 HS4.out.box 0
  have g1 := free3 HS4.out.box 1
  have g2 := free3 HS4.out.box 2
  have gz := lt_of_block HS4.out.box
  have HS5 := Lib.hid (HS4.out.split 0)
  clear HS4
  go_upto_region 13 with fail
  generalize w4.setCell ⟨w.heap.size + 1, 0, none⟩ (.int .i64 0) = W5 at *
  clear b0 b1 b2 g0 g1 g2 gz
  go_loopg [54] F (fun gf _ wr => Hid (RKSt br w 0 0 t4 true (.slice none 0 0) [] wr))
  case atStart => exact HS5
  case round =>
    have HS := Lib.hid hrel.out
    clear hrel HS5
    have hrd := HS.out.rd
    unfold inO at hrd
    obtain ⟨c0, c1⟩ := cell2 hrd
    have f1 := free2 hrd 1
    have bz := lt_of_block hrd
    clear hrd
    have HSF := Lib.hid (HS.out.step (grown_bad HS.out.rd (World.grownBy.refl _ _)).2 (grown_bad HS.out.rd (World.grownBy.refl _ _)).1)
    go_upto_region 19 with fail
    generalize wr.setCell ⟨br, 1, none⟩ (.bool true) = W9 at *
    clear c0 c1 f1 bz
    obtain ⟨r0, r1, r2⟩ := cell3 HSF.out.res
    have q0 := free3 HSF.out.res 0
    have q1 := free3 HSF.out.res 1
    have q2 := free3 HSF.out.res 2
    have qz := lt_of_block HSF.out.res
    obtain ⟨b0, b1, b2⟩ := cell3 HSF.out.box
    go_wp2
    refine bodyPost_ret (v := .agg #[.int .i64 0, .slice none 0 0, .slice none 0 0]) (by simp [results, Tryd.results54, go_sem, r0, r1, r2]) rfl ?_
    rw [HFE.out]
    exact ⟨three_new_set HSF.out.grow (Nat.le_refl _) _ _ _, 0, none, 0, 0, none, 0, 0, rfl, _, (three_far _ _ _ _ _ _ (by have := HSF.out.lt; omega)).trans HSF.out.rd⟩
end Go.Proofs.YtjjohllfidmkjaaDoor.PfW

namespace Go.Proofs.YtjjohllfidmkjaaDoor.PfW
open Go Go.RowKit Go.Proofs.YtjjohllfidmkjaaDoor.Mem Go.Proofs.YtjjohllfidmkjaaDoor.Pf
attribute [local go_sem ↓] Go.wp_at_zero Go.wp_at_succ
theorem grown_good {w w' : World} {br : Nat} {s : List UInt8} {b : Bool} (hr : w'.heap[br]? = some (inO s b)) (h : w.grownBy w' (some br)) : w.grownBy (w'.setCell ⟨br, 1, none⟩ (.bool false)) (some br) ∧ (w'.setCell ⟨br, 1, none⟩ (.bool false)).heap[br]? = some (inO s false) :=
  ⟨grown_set h 1 _, by unfold inO at hr ⊢; exact (stored2 (u := .bool false) hr).2⟩
set_option maxRecDepth 100000 in
set_option maxHeartbeats 8000000 in
theorem rtree_node_any (F d : Nat) (s : List UInt8) (br : Nat) (w : World) (hs : s.length ≤ 1000000) (hF : s.length < F + 1) (hd : d ≤ 40) (hq : hp s 40 = false) (hq2 : hp s 91 = true) (N : Nat) (hN : F + 1 ≤ N + 1) (IH : Hid (∀ (F : Nat), F ≤ N → ∀ (d : Nat) (s : List UInt8) (br : Nat) (w : World), s.length ≤ 1000000 → s.length < F → d ≤ 41 → w.heap[br]? = some (inO s false) → Calls Tryd.prog 54 #[.pointer (some ⟨br, 0, none⟩), .int .i64 (d : Int)] w (RPRet br (rTree F d s) w))) (x : Int) (r0 : List UInt8) (hnum : rNum (tp s 91) = some (x, r0)) (hb : w.heap[br]? = some (inO s false)) :
    Calls Tryd.prog 54 #[.pointer (some ⟨br, 0, none⟩), .int .i64 (d : Int)] w (RPRet br (rTree (F + 1) d s) w) := by
  have d2 : decide ((40 : Int) < (d : Int)) = false := decide_eq_false (by omega)
  have HD := Lib.hid (show ¬ 40 < d by omega)
  obtain ⟨j0, ja, jb, jc, jd⟩ := info_parts info_theirs
  have HBB := Lib.hid (two_boxes w (.cells #[.int .i64 0, .slice none 0 0, .slice none 0 0] 29) (.cells #[.int .i64 0, .slice none 0 0, .slice none 0 0] 29))
  have hlt := lt_of_block hb
  have HS0 : Hid (RKSt br w 0 0 s false (.slice none 0 0) [] ((w.alloc (.cells #[.int .i64 0, .slice none 0 0, .slice none 0 0] 29)).alloc (.cells #[.int .i64 0, .slice none 0 0, .slice none 0 0] 29))) := Lib.hid ⟨(HBB.out.1.block _ hlt).trans hb, HBB.out.2.1, HBB.out.2.2, World.ownsRow_nil _ _ _ _, grown_of_below HBB.out.1, hlt⟩
  clear hb HBB
  have HK := Lib.hid (fun W h => rskip_no s 40 40 rfl hq br W h)
  have htl := tp_len hq2
  have HTN := Lib.hid (rtree_node (f := F) HD.out hq hq2)
  have HK2 := Lib.hid (fun W h => rskip_yes s 91 91 rfl hq2 br W h)
  clear hq hq2
  have HNU := Lib.hid (fun W hr => rnumber_any (tp s 91) (by omega) br W hr)
  have hnl := rNum_len hnum
  rw [hnum] at HTN HNU
  obtain ⟨KF, HKF⟩ : ∃ KF, Hid (rKids F d [] r0 = KF) := ⟨_, Lib.hid rfl⟩
  have HRES : Hid (rTree (F + 1) d s = rNodeT x KF) := Lib.hid (by rw [HTN.out]; simp only; rw [HKF.out])
  clear hnum HTN
  go_enter Tryd.func54, Tryd.ntmps54
  go_wp2_with fail
  generalize (w.alloc (.cells #[.int .i64 0, .slice none 0 0, .slice none 0 0] 29)).alloc (.cells #[.int .i64 0, .slice none 0 0, .slice none 0 0] 29) = W0 at *
  refine (HK.out _ HS0.out.rd).mono ?_
  rintro e w1 ⟨rfl, hw1⟩
  have HS2 : Hid (RKSt br w 0 0 s false (.slice none 0 0) [] w1) := Lib.hid (by rw [hw1]; exact HS0.out)
  clear hw1
  go_wp2_with fail
  refine (HK2.out _ HS2.out.rd).mono ?_
  rintro e w3 ⟨rfl, hr3, hg3⟩
  have HS3 := Lib.hid (HS2.out.step hr3 hg3)
  clear hr3 hg3
  go_wp2_with fail
  refine (HNU.out _ HS3.out.rd).mono ?_
  rintro e w4 ⟨hg4, rfl, hr4⟩
  have HS4 := Lib.hid (HS3.out.step hr4 hg4)
  clear hr4 hg4
  obtain ⟨b0, b1, b2⟩ := cell3 HS4.out.box
  have g0 := free3 HS4.out.box 0
  have g1 := free3 HS4.out.box 1
  have g2 := free3 HS4.out.box 2
  have gz := lt_of_block HS4.out.box
  have HS5 := Lib.hid (HS4.out.split x)
  clear HS4
  go_upto_region 13 with fail
  generalize w4.setCell ⟨w.heap.size + 1, 0, none⟩ (.int .i64 x) = W5 at *
  clear b0 b1 b2 g0 g1 g2 gz
  go_loopg [54] F (fun gf _ wr => ∃ (acc : List T) (t : List UInt8) (b : Bool) (v : Value) (ws : List Value) (n : Nat), Hid (b = false → rKids gf d acc t = KF ∧ t.length < gf ∧ gf ≤ N) ∧ Hid (b = true → KF = none) ∧ Hid (n ≤ 1000001 ∧ (b = false → n + t.length ≤ 1000000 ∧ n = acc.length)) ∧ Hid (RKSt br w x n t b v ws wr) ∧ Hid (b = false → KidsIn (KidQ w v) wr acc ws))
  case atStart => exact ⟨[], r0, false, .slice none 0 0, [], 0, Lib.hid (fun _ => ⟨HKF.out, by omega, by omega⟩), Lib.hid (fun h => by cases h), Lib.hid ⟨by omega, fun _ => ⟨by omega, rfl⟩⟩, HS5, Lib.hid (fun _ => by unfold KidsIn; rfl)⟩
  case round =>
    obtain ⟨acc, t, b, v, ws, n, HGD, HBD, HLN, HS, HKI⟩ := hrel
    clear HKF HS5 HS3 HS2 HS0 HK HK2 HNU
    obtain ⟨vA, vc, rfl, hvc⟩ := own_shape HS.out.own
    cases b
    case true =>
      have HFE : Hid (rTree (F + 1) d s = none) := Lib.hid (by rw [HRES.out, HBD.out rfl]; rfl)
      have hrd := HS.out.rd
      unfold inO at hrd
      obtain ⟨c0, c1⟩ := cell2 hrd
      have f1 := free2 hrd 1
      have bz := lt_of_block hrd
      clear hrd
      have HSF := Lib.hid (HS.out.step (grown_bad HS.out.rd (World.grownBy.refl _ _)).2 (grown_bad HS.out.rd (World.grownBy.refl _ _)).1)
      go_upto_region 19 with fail
      generalize wr.setCell ⟨br, 1, none⟩ (.bool true) = W9 at *
      clear c0 c1 f1 bz
      obtain ⟨r0, r1, r2⟩ := cell3 HSF.out.res
      have q0 := free3 HSF.out.res 0
      have q1 := free3 HSF.out.res 1
      have q2 := free3 HSF.out.res 2
      have qz := lt_of_block HSF.out.res
      obtain ⟨b0, b1, b2⟩ := cell3 HSF.out.box
      go_wp2
      refine bodyPost_ret (v := .agg #[.int .i64 x, .slice vA n vc, .slice none 0 0]) (by simp [results, Tryd.results54, go_sem, r0, r1, r2]) rfl ?_
      rw [HFE.out]
      exact ⟨three_new_set HSF.out.grow (Nat.le_refl _) _ _ _, x, vA, n, vc, none, 0, 0, rfl, _, (three_far _ _ _ _ _ _ (by have := HSF.out.lt; omega)).trans HSF.out.rd⟩
    case false =>
    rcases gk with _ | f
    · exact absurd (HGD.out rfl).2.1 (Nat.not_lt_zero _)
    have HKD : Hid (rKids (f + 1) d acc t = KF) := Lib.hid (HGD.out rfl).1
    have hlf : t.length < f + 1 := (HGD.out rfl).2.1
    have hfN : f + 1 ≤ N := (HGD.out rfl).2.2
    have hll := (HLN.out.2 rfl).1
    have HNA := Lib.hid (HLN.out.2 rfl).2
    have HKIN := Lib.hid (HKI.out rfl)
    clear HGD HBD HLN HKI
    have hrd := HS.out.rd
    unfold inO at hrd
    obtain ⟨c0, c1⟩ := cell2 hrd
    have f1 := free2 hrd 1
    have bz := lt_of_block hrd
    clear hrd
    cases hq1 : hp t 93
    case true =>
      have HKE : Hid (KF = some (acc, tp t 93)) := Lib.hid (by rw [← HKD.out, rkids_end hq1])
      have HK := Lib.hid (rskip_yes t 93 93 rfl hq1 br wr HS.out.rd)
      clear hq1
      go_wp2_with fail
      refine HK.out.mono ?_
      rintro e w3 ⟨rfl, hr3, hg3⟩
      have HS3 := Lib.hid (HS.out.step hr3 hg3)
      have HK3 := Lib.hid (HS.out.kids_step HKIN.out hg3)
      clear hr3 hg3 c0 c1 f1 bz
      have hrd := HS3.out.rd
      unfold inO at hrd
      obtain ⟨c0, c1⟩ := cell2 hrd
      have f1 := free2 hrd 1
      have bz := lt_of_block hrd
      clear hrd
      obtain ⟨b0, b1, b2⟩ := cell3 HS3.out.box
      by_cases h0 : n = 0
      · subst h0
        have HFE : Hid (rTree (F + 1) d s = none) := Lib.hid (by rw [HRES.out, HKE.out]; show (if acc.length = 0 then none else _) = _; rw [if_pos HNA.out.symm])
        have HSF := Lib.hid (HS3.out.step (grown_bad HS3.out.rd (World.grownBy.refl _ _)).2 (grown_bad HS3.out.rd (World.grownBy.refl _ _)).1)
        go_upto_region 19 with fail
        generalize w3.setCell ⟨br, 1, none⟩ (.bool true) = W9 at *
        clear c0 c1 f1 bz b0 b1 b2
        obtain ⟨r0, r1, r2⟩ := cell3 HSF.out.res
        have q0 := free3 HSF.out.res 0
        have q1 := free3 HSF.out.res 1
        have q2 := free3 HSF.out.res 2
        have qz := lt_of_block HSF.out.res
        obtain ⟨b0, b1, b2⟩ := cell3 HSF.out.box
        go_wp2
        refine bodyPost_ret (v := .agg #[.int .i64 x, .slice vA 0 vc, .slice none 0 0]) (by simp [results, Tryd.results54, go_sem, r0, r1, r2]) rfl ?_
        rw [HFE.out]
        exact ⟨three_new_set HSF.out.grow (Nat.le_refl _) _ _ _, x, vA, 0, vc, none, 0, 0, rfl, _, (three_far _ _ _ _ _ _ (by have := HSF.out.lt; omega)).trans HSF.out.rd⟩
      · have HFE : Hid (rTree (F + 1) d s = some (.mk x acc [], tp t 93)) := Lib.hid (by rw [HRES.out, HKE.out]; show (if acc.length = 0 then none else _) = _; rw [if_neg (by rw [← HNA.out]; exact h0)])
        have e0 : ((n : Int) == 0) = false := by rw [beq_eq_false_iff_ne]; omega
        have e1 : ((n : Int) = 0) = False := eq_false (by omega)
        have HSF := Lib.hid (HS3.out.step (grown_good HS3.out.rd (World.grownBy.refl _ _)).2 (grown_good HS3.out.rd (World.grownBy.refl _ _)).1)
        have HKF9 := Lib.hid (HS3.out.kids_step HK3.out (grown_good HS3.out.rd (World.grownBy.refl _ _)).1)
        clear h0
        go_upto_region 19 with fail
        generalize w3.setCell ⟨br, 1, none⟩ (.bool false) = W9 at *
        clear c0 c1 f1 bz b0 b1 b2
        obtain ⟨r0, r1, r2⟩ := cell3 HSF.out.res
        have q0 := free3 HSF.out.res 0
        have q1 := free3 HSF.out.res 1
        have q2 := free3 HSF.out.res 2
        have qz := lt_of_block HSF.out.res
        obtain ⟨b0, b1, b2⟩ := cell3 HSF.out.box
        go_wp2
        refine bodyPost_ret (v := .agg #[.int .i64 x, .slice vA n vc, .slice none 0 0]) (by simp [results, Tryd.results54, go_sem, r0, r1, r2]) rfl ?_
        rw [HFE.out]
        exact ⟨three_new_set HSF.out.grow (Nat.le_refl _) _ _ _, x, vA, n, vc, none, 0, 0, rfl, (three_far _ _ _ _ _ _ (by have := HSF.out.lt; omega)).trans HSF.out.rd, TreeIn.stays (fun g hg _ => three_far _ _ _ _ _ _ (by omega)) (fun g hg _ => Nat.le_of_lt hg) _ _ (HSF.out.tree HNA.out HKF9.out hvc)⟩
    case false =>
      have HK := Lib.hid (rskip_no t 93 93 rfl hq1 br wr HS.out.rd)
      have HQ1 := Lib.hid hq1
      clear hq1
      go_wp2_with fail
      refine HK.out.mono ?_
      rintro e w1 ⟨rfl, hw1⟩
      have HS1 : Hid (RKSt br w x n t false (.slice vA n vc) ws w1) := Lib.hid (by rw [hw1]; exact HS.out)
      have HK1 : Hid (KidsIn (KidQ w (.slice vA n vc)) w1 acc ws) := Lib.hid (by rw [hw1]; exact HKIN.out)
      clear hw1 c0 c1 f1 bz HS HKIN
      cases hq2 : hp t 32
      case false =>
        have HFE : Hid (rTree (F + 1) d s = none) := Lib.hid (by rw [HRES.out, ← HKD.out, rkids_no HQ1.out hq2]; rfl)
        have HK := Lib.hid (fun W h => rskip_no t 32 32 rfl hq2 br W h)
        clear hq2
        go_wp2_with fail
        refine (HK.out _ HS1.out.rd).mono ?_
        rintro e w3 ⟨rfl, hw3⟩
        have HS3 : Hid (RKSt br w x n t false (.slice vA n vc) ws w3) := Lib.hid (by rw [hw3]; exact HS1.out)
        clear hw3
        have hrd := HS3.out.rd
        unfold inO at hrd
        obtain ⟨c0, c1⟩ := cell2 hrd
        have f1 := free2 hrd 1
        have bz := lt_of_block hrd
        clear hrd
        have HSF := Lib.hid (HS3.out.step (grown_bad HS3.out.rd (World.grownBy.refl _ _)).2 (grown_bad HS3.out.rd (World.grownBy.refl _ _)).1)
        go_upto_region 16 with fail
        generalize w3.setCell ⟨br, 1, none⟩ (.bool true) = W9 at *
        clear c0 c1 f1 bz
        obtain ⟨r0, r1, r2⟩ := cell3 HSF.out.res
        have q0 := free3 HSF.out.res 0
        have q1 := free3 HSF.out.res 1
        have q2 := free3 HSF.out.res 2
        have qz := lt_of_block HSF.out.res
        obtain ⟨b0, b1, b2⟩ := cell3 HSF.out.box
        go_wp2
        refine bodyPost_ret (v := .agg #[.int .i64 x, .slice vA n vc, .slice none 0 0]) (by simp [results, Tryd.results54, go_sem, r0, r1, r2]) rfl ?_
        rw [HFE.out]
        exact ⟨three_new_set HSF.out.grow (Nat.le_refl _) _ _ _, x, vA, n, vc, none, 0, 0, rfl, _, (three_far _ _ _ _ _ _ (by have := HSF.out.lt; omega)).trans HSF.out.rd⟩
      case true =>
        have htl2 := tp_len hq2
        have HK := Lib.hid (fun W h => rskip_yes t 32 32 rfl hq2 br W h)
        have HTR := Lib.hid (fun W hr => IH.out f (by omega) (d + 1) (tp t 32) br W (by omega) (by omega) (by omega) hr)
        go_wp2_with fail
        refine (HK.out _ HS1.out.rd).mono ?_
        rintro e w2 ⟨rfl, hr2, hg2⟩
        have HS2 := Lib.hid (HS1.out.step hr2 hg2)
        have HKI2 := Lib.hid (HS1.out.kids_step HK1.out hg2)
        have HB0 := Lib.hid (lt_of_block HS2.out.box)
        have HVB := Lib.hid (fun y h => (HS2.out.own.lt y h).2)
        clear hr2 hg2
        obtain ⟨b0, b1, b2⟩ := cell3 HS2.out.box
        go_upto_region 17 with fail
        clear b0 b1 b2
        cases hkid : rTree f (d + 1) (tp t 32) with
        | none =>
          rw [hkid] at HTR
          have HFN : Hid (KF = none) := Lib.hid (by rw [← HKD.out, rkids_none HQ1.out hq2 hkid])
          clear hkid hq2
          have HNE := Lib.hid HS2.out.own.lt
          obtain ⟨b0, b1, b2⟩ := cell3 HS2.out.box
          have g0 := free3 HS2.out.box 0
          have g1 := free3 HS2.out.box 1
          have g2 := free3 HS2.out.box 2
          have gz := lt_of_block HS2.out.box
          have WW : IntKind.i64.wrap ((d : Int) + 1) = (d : Int) + 1 := by rw [IntKind.wrap_i64]; omega
          go_region_law (first | (refine step_append_lies _ (by rfl) _ _ _ (by rfl) (w.heap.size + 2) 29 j0 _ 3 56 Tryd.underlying26 ja jb jc jd rfl (by omega) (.slice vA n vc) n ws (by rfl) (HS4.out.own.alloc _) ⟨w4.heap.size, 0, none⟩ 1 1 [.int .i64 s3, .slice A3 m3 c3, .slice B3 k3 d3] (by rfl) (by rfl) (World.news_of_block (cs := #[.int .i64 s3, .slice A3 m3 c3, .slice B3 k3 d3]) (t := 29) (fr := (0, 0)) (heap_alloc_new w4 _)) (by simp [Value.oneCell']) (by omega) (by unfold maxLen; omega) (by omega) (by simp; omega) (w4.heap.size + 1) (by simp) ?_; intro gg cap w5 hown5 hgrow hat hlt5; have j5 := (hgrow.block _ (by simp; omega) (fun e => by have := HNE.out _ e.symm; omega)).trans ((heap_alloc_old w4 _ (by omega)).trans HS4.out.box); have p0 := (cell3 j5).2.1; have p1 := free3 j5 1; have p2 := lt_of_block j5; clear j5) | (go_simp; go_at_call 54; refine (HTR.out w2.drew (show w2.drew.heap[br]? = _ from HS2.out.rd)).mono ?_; rintro e w4 ⟨hg40, s3, A3, m3, c3, B3, k3, d3, rfl, t4, hr4⟩; have hz24 : w2.heap.size ≤ w4.heap.size := hg40.size; have HS4 := Lib.hid (HS2.out.step hr4 (grown_drew0 hg40)); have HKN := Lib.hid (trivial); have h1 := (cell3 HS4.out.box).2.1; have h6 := lt_of_block HS4.out.box; have h5 := (((Below.refl w4.heap.size w4).alloc (Nat.le_refl _) (.cells #[.int .i64 s3, .slice A3 m3 c3, .slice B3 k3 d3] 29)).cell (p := ⟨w.heap.size + 1, 1, none⟩) h6).trans h1))
          all_goals
            clear WW
            have HNX := Lib.hid (HS4.out.push (w1 := w4.alloc (.cells #[.int .i64 s3, .slice A3 m3 c3, .slice B3 k3 d3] 29)) ((Below.refl w4.heap.size w4).alloc (Nat.le_refl _) _) hown5 hgrow)
            clear hown5 hgrow hat p0 p1 p2 h1 h5 h6 b0 b1 b2 g0 g1 g2 gz
            generalize w5.setCell ⟨w.heap.size + 1, 1, none⟩ (.slice (some ⟨gg, 0, none⟩) (n + 1) cap) = W6 at *
            go_wp2
            go_roundg 0
            case measure => omega
            case rel => exact ⟨acc, t4, true, _, _, n + 1, Lib.hid (fun h => by cases h), Lib.hid (fun _ => HFN.out), Lib.hid ⟨by omega, fun h => by cases h⟩, HNX, Lib.hid (fun h => by cases h)⟩
        | some p =>
          obtain ⟨kd, r2⟩ := p
          rw [hkid] at HTR
          have hpl := (rTree_some _ _ _ _ _ hkid).2.2
          have hnp := nodes_pos kd
          have HFN : Hid (rKids f d (acc ++ [kd]) r2 = KF) := Lib.hid (by rw [← HKD.out, rkids_go HQ1.out hq2 hkid])
          have hna : n = acc.length := HNA.out
          have HNA2 := Lib.hid (show n + 1 = (acc ++ [kd]).length by simp; omega)
          clear hkid hq2 hna
          have HNE := Lib.hid HS2.out.own.lt
          obtain ⟨b0, b1, b2⟩ := cell3 HS2.out.box
          have g0 := free3 HS2.out.box 0
          have g1 := free3 HS2.out.box 1
          have g2 := free3 HS2.out.box 2
          have gz := lt_of_block HS2.out.box
          have WW : IntKind.i64.wrap ((d : Int) + 1) = (d : Int) + 1 := by rw [IntKind.wrap_i64]; omega
          go_region_law (first | (refine step_append_lies _ (by rfl) _ _ _ (by rfl) (w.heap.size + 2) 29 j0 _ 3 56 Tryd.underlying26 ja jb jc jd rfl (by omega) (.slice vA n vc) n ws (by rfl) (HS4.out.own.alloc _) ⟨w4.heap.size, 0, none⟩ 1 1 [.int .i64 s3, .slice A3 m3 c3, .slice B3 k3 d3] (by rfl) (by rfl) (World.news_of_block (cs := #[.int .i64 s3, .slice A3 m3 c3, .slice B3 k3 d3]) (t := 29) (fr := (0, 0)) (heap_alloc_new w4 _)) (by simp [Value.oneCell']) (by omega) (by unfold maxLen; omega) (by omega) (by simp; omega) (w4.heap.size + 1) (by simp) ?_; intro gg cap w5 hown5 hgrow hat hlt5; have j5 := (hgrow.block _ (by simp; omega) (fun e => by have := HNE.out _ e.symm; omega)).trans ((heap_alloc_old w4 _ (by omega)).trans HS4.out.box); have p0 := (cell3 j5).2.1; have p1 := free3 j5 1; have p2 := lt_of_block j5; clear j5) | (go_simp; go_at_call 54; refine (HTR.out w2.drew (show w2.drew.heap[br]? = _ from HS2.out.rd)).mono ?_; rintro e w4 ⟨hg40, s3, A3, m3, c3, B3, k3, d3, rfl, hr4, hT4⟩; have hz24 : w2.heap.size ≤ w4.heap.size := hg40.size; have HS4 := Lib.hid (HS2.out.step hr4 (grown_drew0 hg40)); have HKN := Lib.hid (HS2.out.kids_step HKI2.out (grown_drew0 hg40)); have h1 := (cell3 HS4.out.box).2.1; have h6 := lt_of_block HS4.out.box; have h5 := (((Below.refl w4.heap.size w4).alloc (Nat.le_refl _) (.cells #[.int .i64 s3, .slice A3 m3 c3, .slice B3 k3 d3] 29)).cell (p := ⟨w.heap.size + 1, 1, none⟩) h6).trans h1))
          all_goals
            clear WW
            have HNX := Lib.hid (HS4.out.push (w1 := w4.alloc (.cells #[.int .i64 s3, .slice A3 m3 c3, .slice B3 k3 d3] 29)) ((Below.refl w4.heap.size w4).alloc (Nat.le_refl _) _) hown5 hgrow)
            have HKX := Lib.hid (HS4.out.kids_push (c := cap) HKN.out (w1 := w4.alloc (.cells #[.int .i64 s3, .slice A3 m3 c3, .slice B3 k3 d3] 29)) ((Below.refl w4.heap.size w4).alloc (Nat.le_refl _) _) (TreeIn.below hT4 ((Below.refl w4.heap.size w4).alloc (Nat.le_refl _) _)) (B0 := w2.heap.size) HB0.out HVB.out (hat.imp (fun h => h) (fun h => by simp; omega)) hgrow)
            clear hown5 hgrow hat p0 p1 p2 h1 h5 h6 b0 b1 b2 g0 g1 g2 gz
            generalize w5.setCell ⟨w.heap.size + 1, 1, none⟩ (.slice (some ⟨gg, 0, none⟩) (n + 1) cap) = W6 at *
            go_wp2
            go_roundg f
            case measure => omega
            case rel => exact ⟨acc ++ [kd], r2, false, _, _, n + 1, Lib.hid (fun _ => ⟨HFN.out, by omega⟩), Lib.hid (fun h => by cases h), Lib.hid ⟨by omega, fun _ => ⟨by omega, HNA2.out⟩⟩, HNX, Lib.hid (fun _ => HKX.out)⟩
theorem rtree_any : ∀ (N F : Nat), F ≤ N → ∀ (d : Nat) (s : List UInt8) (br : Nat) (w : World), s.length ≤ 1000000 → s.length < F → d ≤ 41 → w.heap[br]? = some (inO s false) →
    Calls Tryd.prog 54 #[.pointer (some ⟨br, 0, none⟩), .int .i64 (d : Int)] w (RPRet br (rTree F d s) w)
  | 0, F, h, _, _, _, _, _, h2, _, _ => by omega
  | N + 1, 0, _, _, _, _, _, _, h2, _, _ => by omega
  | N + 1, F + 1, hN, d, s, br, w, hs, hF, hd, hb => by
    have IH := Lib.hid (rtree_any N)
    by_cases h2 : 40 < d
    · exact rtree_deep_any F d s br w hs hF h2 hb
    cases hq : hp s 40
    · cases hq2 : hp s 91
      · exact rtree_none_any F d s br w hs hF (by omega) hq hq2 hb
      · cases hnum : rNum (tp s 91) with
        | none => exact rtree_numbad_any F d s br w hs hF (by omega) hq hq2 hnum hb
        | some p => exact rtree_node_any F d s br w hs hF (by omega) hq hq2 N hN IH p.1 p.2 hnum hb
    · exact rtree_leaf_any F d s br w hs hF (by omega) hq hb
end Go.Proofs.YtjjohllfidmkjaaDoor.PfW

namespace Go.Proofs.YtjjohllfidmkjaaDoor.PfW
open Go Go.RowKit Go.Proofs.YtjjohllfidmkjaaDoor.Mem Go.Proofs.YtjjohllfidmkjaaDoor.Pf
set_option maxRecDepth 100000 in
set_option maxHeartbeats 4000000 in
theorem rparse_any (s : List UInt8) (w : World) (hs : s.length ≤ 1000000) :
    Calls Tryd.prog 33 #[.string ⟨s.toArray⟩] w (ParseRet (rParse s) w) := by
  have HBB := Lib.hid (two_boxes w (.cells #[.int .i64 0, .slice none 0 0, .slice none 0 0] 29) (.cells #[.string ⟨s.toArray⟩, .bool false] 90))
  have HT := Lib.hid (rtree_any (s.length + 1) (s.length + 1) (Nat.le_refl _) 1 s (w.heap.size + 1) _ hs (by omega) (by omega) HBB.out.2.2)
  have hlt := lt_of_block HBB.out.2.2
  unfold rParse
  cases hp : rTree (s.length + 1) 1 s with
  | none =>
    rw [hp] at HT
    clear hp
    go_enter Tryd.func33, Tryd.ntmps33
    go_wp2_with fail
    refine HT.out.mono ?_
    rintro e w2 ⟨hg2, s2, A2, m2, c2, B2, k2, d2, rfl, t2, hr2⟩
    have HB2 := Lib.hid (below_of_grown (B := w.heap.size) HBB.out.1 hg2 HBB.out.1.size (by omega))
    have hres := (hg2.block w.heap.size (by omega) (by intro e; have := Option.some.inj e; omega)).trans HBB.out.2.1
    have HB3 := Lib.hid (HB2.out.alloc HB2.out.size (.cells #[.int .i64 s2, .slice A2 m2 c2, .slice B2 k2 d2] 29))
    have h9 := (Below.refl w2.heap.size w2).alloc (Nat.le_refl _) (.cells #[.int .i64 s2, .slice A2 m2 c2, .slice B2 k2 d2] 29)
    have HRES := Lib.hid ((h9.block _ (lt_of_block hres)).trans hres)
    have HRD := Lib.hid ((h9.block _ (lt_of_block hr2)).trans hr2)
    have HBX := Lib.hid (heap_alloc_new w2 (.cells #[.int .i64 s2, .slice A2 m2 c2, .slice B2 k2 d2] 29))
    have HWL := Lib.hid (HB2.out.size)
    clear hres hg2 hr2 h9
    go_upto_region 3 with fail
    generalize w2.alloc (.cells #[.int .i64 s2, .slice A2 m2 c2, .slice B2 k2 d2] 29) = W3 at *
    have hrd := HRD.out
    unfold inO at hrd
    obtain ⟨u0, u1⟩ := cell2 hrd
    clear hrd
    obtain ⟨g0, g1, g2⟩ := cell3 HBX.out
    obtain ⟨e0, e1, e2⟩ := cell3 HRES.out
    have f0 := free3 HRES.out 0
    have f1 := free3 HRES.out 1
    have f2 := free3 HRES.out 2
    have ez := lt_of_block HRES.out
    go_wp2
    refine bodyPost_ret (v := .tuple #[.agg #[.int .i64 0, .slice none 0 0, .slice none 0 0], .int .i64 3]) (by simp [results, Tryd.results33, go_sem, e0, e1, e2]) rfl ⟨?_, rfl⟩
    exact ((HB3.out.setCell (Nat.le_refl _) _).setCell (Nat.le_refl _) _).setCell (Nat.le_refl _) _
  | some p =>
    obtain ⟨t, r⟩ := p
    have hfit := (rTree_some _ _ _ _ _ hp).2.1 hs
    rw [hp] at HT
    clear hp
    simp only
    by_cases hr : r = []
    · subst hr
      cases hv : validB t
      · rw [if_neg (by simp)]
        go_enter Tryd.func33, Tryd.ntmps33
        go_wp2_with fail
        refine HT.out.mono ?_
        rintro e w2 ⟨hg2, s2, A2, m2, c2, B2, k2, d2, rfl, hr2, hT2⟩
        have HB2 := Lib.hid (below_of_grown (B := w.heap.size) HBB.out.1 hg2 HBB.out.1.size (by omega))
        have hres := (hg2.block w.heap.size (by omega) (by intro e; have := Option.some.inj e; omega)).trans HBB.out.2.1
        have HB3 := Lib.hid (HB2.out.alloc HB2.out.size (.cells #[.int .i64 s2, .slice A2 m2 c2, .slice B2 k2 d2] 29))
        have h9 := (Below.refl w2.heap.size w2).alloc (Nat.le_refl _) (.cells #[.int .i64 s2, .slice A2 m2 c2, .slice B2 k2 d2] 29)
        have HRES := Lib.hid ((h9.block _ (lt_of_block hres)).trans hres)
        have HRD := Lib.hid ((h9.block _ (lt_of_block hr2)).trans hr2)
        have HBX := Lib.hid (heap_alloc_new w2 (.cells #[.int .i64 s2, .slice A2 m2 c2, .slice B2 k2 d2] 29))
        have HWL := Lib.hid (HB2.out.size)
        have HT3 := Lib.hid (hT2.below h9)
        clear hres hg2 hr2 hT2 h9
        go_upto_region 3 with fail
        generalize w2.alloc (.cells #[.int .i64 s2, .slice A2 m2 c2, .slice B2 k2 d2] 29) = W3 at *
        have hrd := HRD.out
        unfold inO at hrd
        obtain ⟨u0, u1⟩ := cell2 hrd
        clear hrd
        obtain ⟨g0, g1, g2⟩ := cell3 HBX.out
        have HV := Lib.hid (rvalid_any t hfit _ s2 A2 B2 m2 c2 k2 d2 W3 HT3.out)
        rw [hv] at HV
        clear hv
        go_wp2_with fail
        refine HV.out.mono ?_
        rintro e w4 ⟨rfl, hb4⟩
        have HRES4 := Lib.hid ((hb4.block _ (lt_of_block HRES.out)).trans HRES.out)
        have HB34 := Lib.hid (HB3.out.trans (hb4.mono HB3.out.size))
        have HBX4 := Lib.hid ((hb4.block _ (lt_of_block HBX.out)).trans HBX.out)
        clear HRES HB3 HBX g0 g1 g2 u0 u1
        have HRES := HRES4
        have HB3 := HB34
        obtain ⟨g0, g1, g2⟩ := cell3 HBX4.out
        obtain ⟨e0, e1, e2⟩ := cell3 HRES.out
        have f0 := free3 HRES.out 0
        have f1 := free3 HRES.out 1
        have f2 := free3 HRES.out 2
        have ez := lt_of_block HRES.out
        go_wp2
        refine bodyPost_ret (v := .tuple #[.agg #[.int .i64 0, .slice none 0 0, .slice none 0 0], .int .i64 3]) (by simp [results, Tryd.results33, go_sem, e0, e1, e2]) rfl ⟨?_, rfl⟩
        exact ((HB3.out.setCell (Nat.le_refl _) _).setCell (Nat.le_refl _) _).setCell (Nat.le_refl _) _
      · rw [if_pos ⟨rfl, rfl⟩]
        go_enter Tryd.func33, Tryd.ntmps33
        go_wp2_with fail
        refine HT.out.mono ?_
        rintro e w2 ⟨hg2, s2, A2, m2, c2, B2, k2, d2, rfl, hr2, hT2⟩
        have hz2 := hg2.size
        have HB2 := Lib.hid (below_of_grown (B := w.heap.size) HBB.out.1 hg2 HBB.out.1.size (by omega))
        have hres := (hg2.block w.heap.size (by omega) (by intro e; have := Option.some.inj e; omega)).trans HBB.out.2.1
        have HB3 := Lib.hid (HB2.out.alloc HB2.out.size (.cells #[.int .i64 s2, .slice A2 m2 c2, .slice B2 k2 d2] 29))
        have h9 := (Below.refl w2.heap.size w2).alloc (Nat.le_refl _) (.cells #[.int .i64 s2, .slice A2 m2 c2, .slice B2 k2 d2] 29)
        have HRES := Lib.hid ((h9.block _ (lt_of_block hres)).trans hres)
        have HRD := Lib.hid ((h9.block _ (lt_of_block hr2)).trans hr2)
        have HBX := Lib.hid (heap_alloc_new w2 (.cells #[.int .i64 s2, .slice A2 m2 c2, .slice B2 k2 d2] 29))
        have HWL := Lib.hid (HB2.out.size)
        have HT3 := Lib.hid (hT2.below h9)
        clear hres hg2 hr2 hT2 h9
        go_upto_region 3 with fail
        generalize w2.alloc (.cells #[.int .i64 s2, .slice A2 m2 c2, .slice B2 k2 d2] 29) = W3 at *
        have hrd := HRD.out
        unfold inO at hrd
        obtain ⟨u0, u1⟩ := cell2 hrd
        clear hrd
        obtain ⟨g0, g1, g2⟩ := cell3 HBX.out
        have HV := Lib.hid (rvalid_any t hfit _ s2 A2 B2 m2 c2 k2 d2 W3 HT3.out)
        rw [hv] at HV
        clear hv
        go_wp2_with fail
        refine HV.out.mono ?_
        rintro e w4 ⟨rfl, hb4⟩
        have HRES4 := Lib.hid ((hb4.block _ (lt_of_block HRES.out)).trans HRES.out)
        have HB34 := Lib.hid (HB3.out.trans (hb4.mono HB3.out.size))
        have HBX4 := Lib.hid ((hb4.block _ (lt_of_block HBX.out)).trans HBX.out)
        have HT4 := Lib.hid (HT3.out.below hb4)
        clear HT3
        have HT3 := HT4
        clear HRES HB3 HBX g0 g1 g2 u0 u1
        have HRES := HRES4
        have HB3 := HB34
        obtain ⟨g0, g1, g2⟩ := cell3 HBX4.out
        obtain ⟨e0, e1, e2⟩ := cell3 HRES.out
        have f0 := free3 HRES.out 0
        have f1 := free3 HRES.out 1
        have f2 := free3 HRES.out 2
        have ez := lt_of_block HRES.out
        go_wp2
        refine bodyPost_ret (v := .tuple #[.agg #[.int .i64 s2, .slice A2 m2 c2, .slice B2 k2 d2], .int .i64 0]) (by simp [results, Tryd.results33, go_sem, e0, e1, e2]) rfl ⟨?_, s2, A2, m2, c2, B2, k2, d2, rfl, ?_⟩
        · exact ((HB3.out.setCell (Nat.le_refl _) _).setCell (Nat.le_refl _) _).setCell (Nat.le_refl _) _
        · have hsz := HBB.out.1.size
          exact TreeIn.stays (fun g hg _ => three_far _ _ _ _ _ _ (by omega)) (fun g hg _ => Nat.le_trans hsz hg) _ _ HT3.out
    · rw [if_neg (fun h => hr h.1)]
      have hm1 := empty_no hr
      clear hr
      go_enter Tryd.func33, Tryd.ntmps33
      go_wp2_with fail
      refine HT.out.mono ?_
      rintro e w2 ⟨hg2, s2, A2, m2, c2, B2, k2, d2, rfl, hr2, hT2⟩
      have HB2 := Lib.hid (below_of_grown (B := w.heap.size) HBB.out.1 hg2 HBB.out.1.size (by omega))
      have hres := (hg2.block w.heap.size (by omega) (by intro e; have := Option.some.inj e; omega)).trans HBB.out.2.1
      have HB3 := Lib.hid (HB2.out.alloc HB2.out.size (.cells #[.int .i64 s2, .slice A2 m2 c2, .slice B2 k2 d2] 29))
      have h9 := (Below.refl w2.heap.size w2).alloc (Nat.le_refl _) (.cells #[.int .i64 s2, .slice A2 m2 c2, .slice B2 k2 d2] 29)
      have HRES := Lib.hid ((h9.block _ (lt_of_block hres)).trans hres)
      have HRD := Lib.hid ((h9.block _ (lt_of_block hr2)).trans hr2)
      have HBX := Lib.hid (heap_alloc_new w2 (.cells #[.int .i64 s2, .slice A2 m2 c2, .slice B2 k2 d2] 29))
      have HWL := Lib.hid (HB2.out.size)
      clear hres hg2 hr2 hT2 h9
      go_upto_region 3 with fail
      generalize w2.alloc (.cells #[.int .i64 s2, .slice A2 m2 c2, .slice B2 k2 d2] 29) = W3 at *
      have hrd := HRD.out
      unfold inO at hrd
      obtain ⟨u0, u1⟩ := cell2 hrd
      clear hrd
      obtain ⟨g0, g1, g2⟩ := cell3 HBX.out
      obtain ⟨e0, e1, e2⟩ := cell3 HRES.out
      have f0 := free3 HRES.out 0
      have f1 := free3 HRES.out 1
      have f2 := free3 HRES.out 2
      have ez := lt_of_block HRES.out
      go_wp2
      refine bodyPost_ret (v := .tuple #[.agg #[.int .i64 0, .slice none 0 0, .slice none 0 0], .int .i64 3]) (by simp [results, Tryd.results33, go_sem, e0, e1, e2]) rfl ⟨?_, rfl⟩
      exact ((HB3.out.setCell (Nat.le_refl _) _).setCell (Nat.le_refl _) _).setCell (Nat.le_refl _) _
end Go.Proofs.YtjjohllfidmkjaaDoor.PfW
