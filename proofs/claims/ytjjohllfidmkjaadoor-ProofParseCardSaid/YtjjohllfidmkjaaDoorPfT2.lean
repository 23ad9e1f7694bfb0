/- Walk: the program's reader of trees. Conditions: the reader lies in memory; the library's variables hold what a start lays; the text has at most a million bytes. -/
import Derived.Test.YtjjohllfidmkjaaDoorPfT1
import Derived.Test.YtjjohllfidmkjaaDoorPfF1
import Derived.Deep.CutRange
import Derived.Deep.RegionLaw
import Derived.BigRegion
namespace Go.Proofs.YtjjohllfidmkjaaDoor.PfW
open Go Go.RowKit Go.Proofs.YtjjohllfidmkjaaDoor.Mem Go.Proofs.YtjjohllfidmkjaaDoor.Pf
attribute [local go_sem ↓] Go.wp_at_zero Go.wp_at_succ

theorem grown_drew3 {a w : World} {r : Option Nat} (h : a.grownBy w r) : a.grownBy w.drew r := ⟨h.os, h.tape, h.output, h.size, h.block⟩
theorem grown_drew0 {a w : World} {r : Option Nat} (h : a.drew.grownBy w r) : a.grownBy w r := ⟨h.os, h.tape, h.output, h.size, h.block⟩
set_option maxRecDepth 100000 in
set_option maxHeartbeats 8000000 in
theorem tree_any : ∀ (N F : Nat), F ≤ N → ∀ (d n : Nat) (s : List UInt8) (br : Nat) (w : World), Glob w → 3 ≤ br → s.length ≤ 1000000 → s.length < F → n ≤ 2000 → d ≤ 41 → w.heap[br]? = some (rdO s n) →
    Calls Tryd.prog 53 #[.pointer (some ⟨br, 0, none⟩), .int .i64 (d : Int)] w (PRet br (pTree F d n s) w)
  | 0, F, h, _, _, _, _, _, _, _, _, h2, _, _, _ => by omega
  | N + 1, 0, _, _, _, _, _, _, _, _, _, h2, _, _, _ => by omega
  | N + 1, F + 1, hN, d, n, s, br, w, hG, h3, hs, hF, hn, hd, hb => by
    have IH := Lib.hid (tree_any N)
    obtain ⟨i0, ia, ib, ic, id⟩ := info_parts info_own
    have HG := Lib.hid hG
    have hlt := lt_of_block hb
    have hrd0 := hb
    unfold rdO at hrd0
    obtain ⟨u0, u1⟩ := cell2 hrd0
    have uf := free2 hrd0 1
    have HS1 : Hid (TSt br (n + 1) w 0 [] s (.slice none 0 0) [] ((w.setCell ⟨br, 1, none⟩ (.int .i64 ((n : Int) + 1))).alloc (.cells #[.int .i64 0, .slice none 0 0, .slice none 0 0] 38))) := Lib.hid (by
      have hsz : (w.setCell ⟨br, 1, none⟩ (.int .i64 ((n : Int) + 1))).heap.size = w.heap.size := by simp [World.setCell]
      refine ⟨(heap_alloc_old _ _ (by rw [hsz]; exact hlt)).trans (stored2 (u := .int .i64 ((n : Int) + 1)) hrd0).2, ?_, World.ownsRow_nil _ _ _ _, by unfold KidsIn; rfl, grown_trans (grown_set (World.grownBy.refl _ _) 1 _) (World.grownBy_alloc _ _ _), hlt, by simp, hs⟩
      have := heap_alloc_new (w.setCell ⟨br, 1, none⟩ (.int .i64 ((n : Int) + 1))) (.cells #[.int .i64 0, .slice none 0 0, .slice none 0 0] 38)
      rw [hsz] at this
      exact this)
    clear hG hb hrd0

    by_cases h1 : 2000 < n + 1
    · have d1 : decide ((2000 : Int) < (n : Int) + 1) = true := by simp; omega
      have HFE : Hid (pTree (F + 1) d n s = none) := Lib.hid (tree_bad (.inl h1))
      clear h1
      go_enter Tryd.func53, Tryd.ntmps53
      go_upto_region 3 with fail
      generalize ((w.setCell ⟨br, 1, none⟩ (.int .i64 ((n : Int) + 1))).alloc (.cells #[.int .i64 0, .slice none 0 0, .slice none 0 0] 38)) = W1 at *
      have HSF := Lib.hid HS1.out
      obtain ⟨r0, r1, r2⟩ := cell3 HSF.out.box
      have q0 := free3 HSF.out.box 0
      have q1 := free3 HSF.out.box 1
      have q2 := free3 HSF.out.box 2
      have qz := lt_of_block HSF.out.box
      go_wp2
      refine bodyPost_ret (v := .tuple #[.agg #[.int .i64 0, .slice none 0 0, .slice none 0 0], .bool false]) (by simp [results, Tryd.results53, go_sem, r0, r1, r2]) rfl ?_
      rw [HFE.out]
      exact ⟨three_new_set HSF.out.grow (Nat.le_refl _) _ _ _, 0, none, 0, 0, none, 0, 0, rfl, _, _, (three_far _ _ _ _ _ _ (by have := HSF.out.lt; omega)).trans HSF.out.rd, HSF.out.len⟩
    have d1 : decide ((2000 : Int) < (n : Int) + 1) = false := by simp; omega
    by_cases h2 : 40 < d
    · have d2 : decide ((40 : Int) < (d : Int)) = true := by simp; omega
      have HFE : Hid (pTree (F + 1) d n s = none) := Lib.hid (tree_bad (.inr h2))
      clear h1 h2
      go_enter Tryd.func53, Tryd.ntmps53
      go_upto_region 3 with fail
      generalize ((w.setCell ⟨br, 1, none⟩ (.int .i64 ((n : Int) + 1))).alloc (.cells #[.int .i64 0, .slice none 0 0, .slice none 0 0] 38)) = W1 at *
      have HSF := Lib.hid HS1.out
      obtain ⟨r0, r1, r2⟩ := cell3 HSF.out.box
      have q0 := free3 HSF.out.box 0
      have q1 := free3 HSF.out.box 1
      have q2 := free3 HSF.out.box 2
      have qz := lt_of_block HSF.out.box
      go_wp2
      refine bodyPost_ret (v := .tuple #[.agg #[.int .i64 0, .slice none 0 0, .slice none 0 0], .bool false]) (by simp [results, Tryd.results53, go_sem, r0, r1, r2]) rfl ?_
      rw [HFE.out]
      exact ⟨three_new_set HSF.out.grow (Nat.le_refl _) _ _ _, 0, none, 0, 0, none, 0, 0, rfl, _, _, (three_far _ _ _ _ _ _ (by have := HSF.out.lt; omega)).trans HSF.out.rd, HSF.out.len⟩
    have d2 : decide ((40 : Int) < (d : Int)) = false := by simp; omega
    have HNB := Lib.hid (show ¬ (2000 < n + 1 ∨ 40 < d) by omega)
    have hd40 : d ≤ 40 := by omega
    have HK := Lib.hid (fun W h => skip_any s 40 (n + 1) br W h)
    have hn1 : n + 1 ≤ 2000 := by omega
    clear h1 h2
    cases hq : hp s 40
    case true =>
      -- a leaf
      have htl := tp_len hq
      rw [hq] at HK
      have HTL := Lib.hid (tree_leaf (f := F) HNB.out hq)
      have HL := Lib.hid (fun W hg hr => leaf_any F (tp s 40) (n + 1) br W hg h3 (by omega) (by omega) hr)
      clear hq
      generalize pLeaf F [] (tp s 40) = LR at *
      cases LR with
      | none =>
        have HFE : Hid (pTree (F + 1) d n s = none) := Lib.hid HTL.out
        go_enter Tryd.func53, Tryd.ntmps53
        go_wp2_with fail
        generalize ((w.setCell ⟨br, 1, none⟩ (.int .i64 ((n : Int) + 1))).alloc (.cells #[.int .i64 0, .slice none 0 0, .slice none 0 0] 38)) = W1 at *
        refine (HK.out _ HS1.out.rd).mono ?_
        rintro e w2 ⟨rfl, hr2, hg2⟩
        have HS2 := Lib.hid (HS1.out.step hr2 hg2 (by omega))
        clear hr2 hg2
        go_wp2_with fail
        refine (HL.out _ (HG.out.grown HS2.out.grow h3) HS2.out.rd).mono ?_
        rintro e w3 ⟨hg3, rfl, t3, hr3, hl3⟩
        have HSF := Lib.hid (HS2.out.step hr3 hg3 hl3)
        clear hr3 hg3 hl3
        obtain ⟨r0, r1, r2⟩ := cell3 HSF.out.box
        have q0 := free3 HSF.out.box 0
        have q1 := free3 HSF.out.box 1
        have q2 := free3 HSF.out.box 2
        have qz := lt_of_block HSF.out.box
        go_wp2
        refine bodyPost_ret (v := .tuple #[.agg #[.int .i64 0, .slice none 0 0, .slice none 0 0], .bool false]) (by simp [results, Tryd.results53, go_sem, r0, r1, r2]) rfl ?_
        rw [HFE.out]
        exact ⟨three_new_set HSF.out.grow (Nat.le_refl _) _ _ _, 0, none, 0, 0, none, 0, 0, rfl, _, _, (three_far _ _ _ _ _ _ (by have := HSF.out.lt; omega)).trans HSF.out.rd, HSF.out.len⟩
      | some p =>
        obtain ⟨lf, r2⟩ := p
        have HFE : Hid (pTree (F + 1) d n s = some (.mk 0 [] lf, n + 1, r2)) := Lib.hid HTL.out
        go_enter Tryd.func53, Tryd.ntmps53
        go_wp2_with fail
        generalize ((w.setCell ⟨br, 1, none⟩ (.int .i64 ((n : Int) + 1))).alloc (.cells #[.int .i64 0, .slice none 0 0, .slice none 0 0] 38)) = W1 at *
        refine (HK.out _ HS1.out.rd).mono ?_
        rintro e w2 ⟨rfl, hr2, hg2⟩
        have HS2 := Lib.hid (HS1.out.step hr2 hg2 (by omega))
        clear hr2 hg2
        go_wp2_with fail
        refine (HL.out _ (HG.out.grown HS2.out.grow h3) HS2.out.rd).mono ?_
        rintro e w3 ⟨hg3, A3, c3, rfl, hr3, hc3, hrow3⟩
        have hz2 := lt_of_block HS2.out.box
        have hbx := (hg3.block _ hz2 (by intro e; cases e; omega)).trans HS2.out.box
        have hgr := grown_trans HS2.out.grow hg3
        have hz3 := hg3.size
        obtain ⟨r0, r1, r2'⟩ := cell3 hbx
        have q0 := free3 hbx 0
        have q1 := free3 hbx 1
        have q2 := free3 hbx 2
        have qz := lt_of_block hbx
        have HBX := Lib.hid hbx
        have HGR := Lib.hid hgr
        have HR3 := Lib.hid hr3
        have HROW := Lib.hid hrow3
        clear hbx hgr hr3 hrow3 hg3
        go_wp2
        refine bodyPost_ret (v := .tuple #[.agg #[.int .i64 0, .slice none 0 0, .slice A3 lf.length c3], .bool true]) (by simp [results, Tryd.results53, go_sem, r0, r1, r2']) rfl ?_
        rw [HFE.out]
        refine ⟨three_new_set HGR.out (Nat.le_refl _) _ _ _, 0, none, 0, 0, A3, lf.length, c3, rfl, (three_far _ _ _ _ _ _ (by omega)).trans HR3.out, ?_⟩
        unfold TreeIn
        refine ⟨none, 0, A3, c3, [], rfl, Nat.le_refl _, hc3, fun hne => absurd rfl hne, by unfold KidsIn; rfl, ?_⟩
        exact HROW.out.stays (fun g hg _ => three_far _ _ _ _ _ _ (by omega)) (fun g hg _ => by show w.heap.size ≤ g; omega)
    case false =>
      rw [hq, tp_no hq] at HK
      have HK2 := Lib.hid (fun W h => skip_any s 91 (n + 1) br W h)
      cases hq2 : hp s 91
      case false =>
        have HFE : Hid (pTree (F + 1) d n s = none) := Lib.hid (tree_no HNB.out hq hq2)
        rw [hq2, tp_no hq2] at HK2
        clear hq hq2
        go_enter Tryd.func53, Tryd.ntmps53
        go_wp2_with fail
        generalize ((w.setCell ⟨br, 1, none⟩ (.int .i64 ((n : Int) + 1))).alloc (.cells #[.int .i64 0, .slice none 0 0, .slice none 0 0] 38)) = W1 at *
        refine (HK.out _ HS1.out.rd).mono ?_
        rintro e w2 ⟨rfl, hr2, hg2⟩
        have HS2 := Lib.hid (HS1.out.step hr2 hg2 hs)
        clear hr2 hg2
        go_wp2_with fail
        refine (HK2.out _ HS2.out.rd).mono ?_
        rintro e w3 ⟨rfl, hr3, hg3⟩
        have HSF := Lib.hid (HS2.out.step hr3 hg3 hs)
        clear hr3 hg3
        obtain ⟨r0, r1, r2⟩ := cell3 HSF.out.box
        have q0 := free3 HSF.out.box 0
        have q1 := free3 HSF.out.box 1
        have q2 := free3 HSF.out.box 2
        have qz := lt_of_block HSF.out.box
        go_wp2
        refine bodyPost_ret (v := .tuple #[.agg #[.int .i64 0, .slice none 0 0, .slice none 0 0], .bool false]) (by simp [results, Tryd.results53, go_sem, r0, r1, r2]) rfl ?_
        rw [HFE.out]
        exact ⟨three_new_set HSF.out.grow (Nat.le_refl _) _ _ _, 0, none, 0, 0, none, 0, 0, rfl, _, _, (three_far _ _ _ _ _ _ (by have := HSF.out.lt; omega)).trans HSF.out.rd, HSF.out.len⟩
      case true =>
        have htl := tp_len hq2
        have HTN := Lib.hid (tree_node (f := F) HNB.out hq hq2)
        rw [hq2] at HK2
        clear hq hq2
        have HNU := Lib.hid (fun W hg hr => number_any (tp s 91) (n + 1) br W hg (by omega) hr)
        cases hnum : pNum (tp s 91) with
        | none =>
          rw [hnum] at HTN HNU
          have HFE : Hid (pTree (F + 1) d n s = none) := Lib.hid HTN.out
          clear hnum
          go_enter Tryd.func53, Tryd.ntmps53
          go_wp2_with fail
          generalize ((w.setCell ⟨br, 1, none⟩ (.int .i64 ((n : Int) + 1))).alloc (.cells #[.int .i64 0, .slice none 0 0, .slice none 0 0] 38)) = W1 at *
          refine (HK.out _ HS1.out.rd).mono ?_
          rintro e w2 ⟨rfl, hr2, hg2⟩
          have HS2 := Lib.hid (HS1.out.step hr2 hg2 hs)
          clear hr2 hg2
          go_wp2_with fail
          refine (HK2.out _ HS2.out.rd).mono ?_
          rintro e w3 ⟨rfl, hr3, hg3⟩
          have HS3 := Lib.hid (HS2.out.step hr3 hg3 (by omega))
          clear hr3 hg3
          go_wp2_with fail
          refine (HNU.out _ (HG.out.grown HS3.out.grow h3) HS3.out.rd).mono ?_
          rintro e w4 ⟨hg4, ⟨x4, rfl⟩, t4, hr4, hl4⟩
          have HS4 := Lib.hid (HS3.out.step hr4 hg4 hl4)
          clear hr4 hg4 hl4
          obtain ⟨b0, b1, b2⟩ := cell3 HS4.out.box
          have bf := free3 HS4.out.box 0
          have bz := lt_of_block HS4.out.box
          have HSF := Lib.hid (HS4.out.split x4)
          clear HS4
          go_upto_region 10 with fail
          generalize w4.setCell ⟨w.heap.size, 0, none⟩ (.int .i64 x4) = W5 at *
          clear b0 b1 b2 bf bz
          obtain ⟨r0, r1, r2⟩ := cell3 HSF.out.box
          have q0 := free3 HSF.out.box 0
          have q1 := free3 HSF.out.box 1
          have q2 := free3 HSF.out.box 2
          have qz := lt_of_block HSF.out.box
          go_wp2
          refine bodyPost_ret (v := .tuple #[.agg #[.int .i64 0, .slice none 0 0, .slice none 0 0], .bool false]) (by simp [results, Tryd.results53, go_sem, r0, r1, r2]) rfl ?_
          rw [HFE.out]
          exact ⟨three_new_set HSF.out.grow (Nat.le_refl _) _ _ _, 0, none, 0, 0, none, 0, 0, rfl, _, _, (three_far _ _ _ _ _ _ (by have := HSF.out.lt; omega)).trans HSF.out.rd, HSF.out.len⟩
        | some p =>
          obtain ⟨x, r0⟩ := p
          rw [hnum] at HTN HNU
          have hnl := pNum_len hnum
          obtain ⟨KF, HKF⟩ : ∃ KF, Hid (pKids F d (n + 1) [] r0 = KF) := ⟨_, Lib.hid rfl⟩
          have HFE : Hid (pTree (F + 1) d n s = nodeOf x KF) := Lib.hid (by rw [HTN.out]; simp only; rw [HKF.out])
          clear hnum
          go_enter Tryd.func53, Tryd.ntmps53
          go_wp2_with fail
          generalize ((w.setCell ⟨br, 1, none⟩ (.int .i64 ((n : Int) + 1))).alloc (.cells #[.int .i64 0, .slice none 0 0, .slice none 0 0] 38)) = W1 at *
          refine (HK.out _ HS1.out.rd).mono ?_
          rintro e w2 ⟨rfl, hr2, hg2⟩
          have HS2 := Lib.hid (HS1.out.step hr2 hg2 hs)
          clear hr2 hg2
          go_wp2_with fail
          refine (HK2.out _ HS2.out.rd).mono ?_
          rintro e w3 ⟨rfl, hr3, hg3⟩
          have HS3 := Lib.hid (HS2.out.step hr3 hg3 (by omega))
          clear hr3 hg3
          go_wp2_with fail
          refine (HNU.out _ (HG.out.grown HS3.out.grow h3) HS3.out.rd).mono ?_
          rintro e w4 ⟨hg4, rfl, hr4⟩
          have HS4 := Lib.hid (HS3.out.step hr4 hg4 (by omega))
          clear hr4 hg4
          obtain ⟨b0, b1, b2⟩ := cell3 HS4.out.box
          have bf := free3 HS4.out.box 0
          have bz := lt_of_block HS4.out.box
          have HS5 := Lib.hid (HS4.out.split x)
          clear HS4
          go_wp2
          generalize w4.setCell ⟨w.heap.size, 0, none⟩ (.int .i64 x) = W5 at *
          clear b0 b1 b2 bf bz
          go_loopg [6, 7] F (fun gf _ _ wr => ∃ (acc : List T) (t : List UInt8) (m : Nat) (v : Value) (ws : List Value), Hid (pKids gf d m acc t = KF) ∧ Hid (t.length < gf ∧ gf ≤ N) ∧ m ≤ 2000 ∧ Hid (TSt br m w x acc t v ws wr))
          case atStart => exact ⟨[], r0, n + 1, .slice none 0 0, [], HKF, Lib.hid ⟨by omega, by omega⟩, hn1, HS5⟩
          case round =>
            obtain ⟨acc, t, m, v, ws, HKI, HLT, hm, HS⟩ := hrel
            rcases gk with _ | gf
            · exact absurd HLT.out.1 (Nat.not_lt_zero _)
            clear HKF HS5 HS3 HS2 HS1 HK HK2 HNU HTN
            have HSK := Lib.hid (skip_any t 32 m br wr HS.out.rd)
            have hlen := HS.out.len
            cases hq3 : hp t 32
            case true =>
              have htl3 := tp_len hq3
              rw [hq3] at HSK
              have HTR := Lib.hid (fun W hg hr => IH.out gf (by have := HLT.out.2; omega) (d + 1) m (tp t 32) br W hg h3 (by omega) (by have := HLT.out.1; omega) hm (by omega) hr)
              cases hkid : pTree gf (d + 1) m (tp t 32) with
              | none =>
                rw [hkid] at HTR
                have HFE' : Hid (pTree (F + 1) d n s = none) := Lib.hid (by rw [HFE.out, ← HKI.out, kids_none hq3 hkid]; rfl)
                clear HFE hkid hq3
                have HFE := HFE'
                clear HFE'
                go_wp2_with fail
                refine HSK.out.mono ?_
                rintro e w2 ⟨rfl, hr2, hg2⟩
                have HS2 := Lib.hid (HS.out.step hr2 hg2 (by omega))
                clear hr2 hg2
                go_wp2_with fail
                refine (HTR.out _ (HG.out.grown HS2.out.grow h3) HS2.out.rd).mono ?_
                rintro e w3 ⟨hg3, s3, A3, m3, c3, B3, k3, d3, rfl, t3, n3, hr3, hl3⟩
                have HS3 := Lib.hid (HS2.out.step hr3 hg3 hl3)
                clear hr3 hg3 hl3
                have HZ := Lib.hid ((Below.refl w3.heap.size w3).alloc (Nat.le_refl _) (.cells #[.int .i64 s3, .slice A3 m3 c3, .slice B3 k3 d3] 38))
                have HSF := Lib.hid (HS3.out.step ((HZ.out.block _ (lt_of_block HS3.out.rd)).trans HS3.out.rd) (grown_of_below HZ.out) HS3.out.len)
                go_upto_region 14 with fail
                generalize w3.alloc (.cells #[.int .i64 s3, .slice A3 m3 c3, .slice B3 k3 d3] 38) = W4 at *
                obtain ⟨r0, r1, r2⟩ := cell3 HSF.out.box
                have q0 := free3 HSF.out.box 0
                have q1 := free3 HSF.out.box 1
                have q2 := free3 HSF.out.box 2
                have qz := lt_of_block HSF.out.box
                go_wp2
                refine bodyPost_ret (v := .tuple #[.agg #[.int .i64 0, .slice none 0 0, .slice none 0 0], .bool false]) (by simp [results, Tryd.results53, go_sem, r0, r1, r2]) rfl ?_
                rw [HFE.out]
                exact ⟨three_new_set HSF.out.grow (Nat.le_refl _) _ _ _, 0, none, 0, 0, none, 0, 0, rfl, _, _, (three_far _ _ _ _ _ _ (by have := HSF.out.lt; omega)).trans HSF.out.rd, HSF.out.len⟩
              | some p =>
                obtain ⟨kd, n2, r2⟩ := p
                rw [hkid] at HTR
                have hpl := pTree_len _ _ _ _ _ _ _ hkid
                by_cases h100 : acc.length = 100
                · have HFE' : Hid (pTree (F + 1) d n s = none) := Lib.hid (by rw [HFE.out, ← HKI.out, kids_full hq3 hkid h100]; rfl)
                  clear HFE hkid hq3
                  have HFE := HFE'
                  clear HFE'
                  have e100 : ((acc.length : Int) == 100) = true := by simp; omega
                  go_wp2_with fail
                  refine HSK.out.mono ?_
                  rintro e w2 ⟨rfl, hr2, hg2⟩
                  have HS2 := Lib.hid (HS.out.step hr2 hg2 (by omega))
                  clear hr2 hg2
                  go_wp2_with fail
                  refine (HTR.out _ (HG.out.grown HS2.out.grow h3) HS2.out.rd).mono ?_
                  rintro e w3 ⟨hg3, s3, A3, m3, c3, B3, k3, d3, rfl, hr3, hT3⟩
                  have HS3 := Lib.hid (HS2.out.step hr3 hg3 (by omega))
                  clear hr3 hg3 hT3
                  have HZ := Lib.hid ((Below.refl w3.heap.size w3).alloc (Nat.le_refl _) (.cells #[.int .i64 s3, .slice A3 m3 c3, .slice B3 k3 d3] 38))
                  have HSF := Lib.hid (HS3.out.step ((HZ.out.block _ (lt_of_block HS3.out.rd)).trans HS3.out.rd) (grown_of_below HZ.out) HS3.out.len)
                  obtain ⟨vA, vc, rfl, hvc⟩ := own_shape HSF.out.own
                  obtain ⟨b0, b1, b2⟩ := cell3 HS3.out.box
                  have bz := lt_of_block HS3.out.box
                  go_upto_region 14 with fail
                  generalize w3.alloc (.cells #[.int .i64 s3, .slice A3 m3 c3, .slice B3 k3 d3] 38) = W4 at *
                  clear b0 b1 b2 bz
                  obtain ⟨r0, r1, r2⟩ := cell3 HSF.out.box
                  have q0 := free3 HSF.out.box 0
                  have q1 := free3 HSF.out.box 1
                  have q2 := free3 HSF.out.box 2
                  have qz := lt_of_block HSF.out.box
                  go_wp2
                  refine bodyPost_ret (v := .tuple #[.agg #[.int .i64 0, .slice none 0 0, .slice none 0 0], .bool false]) (by simp [results, Tryd.results53, go_sem, r0, r1, r2]) rfl ?_
                  rw [HFE.out]
                  exact ⟨three_new_set HSF.out.grow (Nat.le_refl _) _ _ _, 0, none, 0, 0, none, 0, 0, rfl, _, _, (three_far _ _ _ _ _ _ (by have := HSF.out.lt; omega)).trans HSF.out.rd, HSF.out.len⟩
                · have HKN : Hid (pKids gf d n2 (acc ++ [kd]) r2 = KF) := Lib.hid (by rw [← HKI.out, kids_go hq3 hkid h100])
                  have HLN : Hid (r2.length < gf ∧ gf ≤ N) := Lib.hid (by have := HLT.out; omega)
                  have hfew := HS.out.few
                  have e100 : ((acc.length : Int) == 100) = false := by rw [beq_eq_false_iff_ne]; omega
                  clear hkid hq3
                  go_wp2_with fail
                  refine HSK.out.mono ?_
                  rintro e w2 ⟨rfl, hr2, hg2⟩
                  have HS2 := Lib.hid (HS.out.step hr2 hg2 (by omega))
                  clear hr2 hg2
                  go_wp2_with fail
                  refine (HTR.out _ (HG.out.grown HS2.out.grow h3) HS2.out.rd).mono ?_
                  rintro e w3 ⟨hg3, s3, A3, m3, c3, B3, k3, d3, rfl, hr3, hT3⟩
                  have HT3 := Lib.hid hT3
                  have hz3 := hg3.size
                  have HS3 := Lib.hid (HS2.out.step hr3 hg3 (by omega))
                  clear hr3 hg3 hT3
                  have HZ := Lib.hid ((Below.refl w3.heap.size w3).alloc (Nat.le_refl _) (.cells #[.int .i64 s3, .slice A3 m3 c3, .slice B3 k3 d3] 38))
                  have HEL := Lib.hid (cell3 (heap_alloc_new w3 (.cells #[.int .i64 s3, .slice A3 m3 c3, .slice B3 k3 d3] 38)))
                  have HZS : Hid ((w3.alloc (.cells #[.int .i64 s3, .slice A3 m3 c3, .slice B3 k3 d3] 38)).heap.size = w3.heap.size + 1) := Lib.hid (by simp)
                  have HS4 := Lib.hid (HS3.out.step ((HZ.out.block _ (lt_of_block HS3.out.rd)).trans HS3.out.rd) (grown_of_below HZ.out) HS3.out.len)
                  have HT4 := Lib.hid (HT3.out.below HZ.out)
                  obtain ⟨vA, vc, rfl, hvc⟩ := own_shape HS4.out.own
                  obtain ⟨x0, x1, x2⟩ := cell3 HS3.out.box
                  have xz := lt_of_block HS3.out.box
                  go_upto_region 15 with fail
                  clear x0 x1 x2 xz
                  obtain ⟨e0, e1, e2⟩ := HEL.out
                  obtain ⟨b0, b1, b2⟩ := cell3 HS4.out.box
                  have bf := free3 HS4.out.box 1
                  have bz := lt_of_block HS4.out.box
                  have hz4 : w3.heap.size < (w3.alloc (.cells #[.int .i64 s3, .slice A3 m3 c3, .slice B3 k3 d3] 38)).heap.size := by rw [HZS.out]; omega
                  have hsz2 := lt_of_block HS2.out.box
                  have HVB := Lib.hid (fun y (h : (Value.slice vA acc.length vc).ownBlock = some y) => (HS2.out.own.lt y h).2)
                  have OWN := Lib.hid HS4.out.own
                  have hzz : w.heap.size + 1 ≤ (w3.alloc (.cells #[.int .i64 s3, .slice A3 m3 c3, .slice B3 k3 d3] 38)).heap.size := bz
                  clear HEL HZ HZS
                  generalize w3.alloc (.cells #[.int .i64 s3, .slice A3 m3 c3, .slice B3 k3 d3] 38) = W4 at *
                  go_wp2_with (at_builtin; refine wpList_append_lies _ rfl _ _ 36 rfl (w.heap.size + 1) 38 i0 _ 3 56 Tryd.underlying36 ia ib ic id rfl (by omega) (.slice vA acc.length vc) acc.length ws rfl (OWN.out.alloc _) ⟨W4.heap.size, 0, none⟩ 1 1 [.int .i64 s3, .slice A3 m3 c3, .slice B3 k3 d3] rfl rfl (World.news_of_block (cs := #[.int .i64 s3, .slice A3 m3 c3, .slice B3 k3 d3]) (t := 38) (fr := (0, 0)) (heap_alloc_new W4 _)) (by simp [Value.oneCell']) (by omega) (by unfold maxLen; omega) (by omega) (by simp; omega) (W4.heap.size + 1) (by simp) ?_)
                  intro gq cq w5 hown5 hgrow5 hat5 _
                  have HB6 := Lib.hid ((Below.refl W4.heap.size W4).alloc (Nat.le_refl _) (.cells #[.int .i64 s3, .slice A3 m3 c3, .slice B3 k3 d3] 38))
                  have HP5 := Lib.hid (HS4.out.push HB6.out (HT4.out.below HB6.out) (B0 := w2.heap.size) hsz2 HVB.out (hat5.imp (fun h => h) (fun h => by rw [h]; simp)) hown5 hgrow5 (by omega))
                  have nb : some w.heap.size ≠ (Value.slice vA acc.length vc).ownBlock := fun e => by have := (OWN.out.lt _ e.symm).1; omega
                  have k5 := (hgrow5.block _ (by simp; omega) nb).trans ((heap_alloc_old W4 _ bz).trans HS4.out.box)
                  obtain ⟨g0, g1, g2⟩ := cell3 k5
                  have gf1 := free3 k5 1
                  have gz := lt_of_block k5
                  clear k5 hgrow5 hown5 hat5 b0 b1 b2 bf bz nb e0 e1 e2
                  go_wp2
                  go_roundg gf
                  case measure => omega
                  case rel => exact ⟨acc ++ [kd], r2, n2, _, _, HKN, HLN, hpl.2, HP5⟩
            case false =>
              rw [hq3, tp_no hq3] at HSK
              have HQ3 := Lib.hid hq3
              clear hq3
              by_cases h0 : acc.length = 0
              · obtain rfl : acc = [] := List.eq_nil_of_length_eq_zero h0
                have HFE' : Hid (pTree (F + 1) d n s = none) := Lib.hid (by rw [HFE.out, ← HKI.out, kids_no HQ3.out (by simp)]; rfl)
                clear HFE h0
                go_wp2_with fail
                refine HSK.out.mono ?_
                rintro e w2 ⟨rfl, hr2, hg2⟩
                have HS2 := Lib.hid (HS.out.step hr2 hg2 hlen)
                clear hr2 hg2
                obtain ⟨vA, vc, rfl, hvc⟩ := own_shape HS2.out.own
                obtain ⟨b0, b1, b2⟩ := cell3 HS2.out.box
                have q0 := free3 HS2.out.box 0
                have q1 := free3 HS2.out.box 1
                have q2 := free3 HS2.out.box 2
                have qz := lt_of_block HS2.out.box
                simp only [List.length_nil] at b1
                go_wp2_with fail
                go_region
                as_aux_lemma =>
                  go_wp2
                  refine bodyPost_ret (v := .tuple #[.agg #[.int .i64 x, .slice vA 0 vc, .slice none 0 0], .bool false]) (by simp [results, Tryd.results53, go_sem, b0, b1, b2]) rfl ?_
                  rw [HFE'.out]
                  exact ⟨grown_drew3 (three_new_set HS2.out.grow (Nat.le_refl _) _ _ _), x, vA, 0, vc, none, 0, 0, rfl, _, _, (three_far _ _ _ _ _ _ (by have := HS2.out.lt; omega)).trans HS2.out.rd, HS2.out.len⟩
              · have HS93 := Lib.hid (fun W h => skip_any t 93 m br W h)
                have hpos : 0 < acc.length := by omega
                have dpos : decide ((0 : Int) < (acc.length : Int)) = true := by simp; omega
                cases hq4 : hp t 93
                case false =>
                  have HFE' : Hid (pTree (F + 1) d n s = none) := Lib.hid (by rw [HFE.out, ← HKI.out, kids_no HQ3.out (by rw [hq4]; simp)]; rfl)
                  rw [hq4] at HS93
                  have htp := tp_le t 93
                  clear HFE hq4
                  go_wp2_with fail
                  refine HSK.out.mono ?_
                  rintro e w2 ⟨rfl, hr2, hg2⟩
                  have HS2 := Lib.hid (HS.out.step hr2 hg2 hlen)
                  clear hr2 hg2
                  obtain ⟨vA, vc, rfl, hvc⟩ := own_shape HS2.out.own
                  obtain ⟨b0, b1, b2⟩ := cell3 HS2.out.box
                  have q0 := free3 HS2.out.box 0
                  have q1 := free3 HS2.out.box 1
                  have q2 := free3 HS2.out.box 2
                  have qz := lt_of_block HS2.out.box
                  go_wp2_with fail
                  go_region_law ((go_simp; go_at_call 71; refine (HS93.out w2.drew (show w2.drew.heap[br]? = _ from HS2.out.rd)).mono ?_; rintro e w3 ⟨rfl, hr3, hg3⟩; have HS3 : Hid (TSt br m w x acc (tp t 93) (.slice vA acc.length vc) ws w3) := Lib.hid (HS2.out.step hr3 (grown_drew0 hg3) (by omega)); obtain ⟨g0, g1, g2⟩ := cell3 HS3.out.box; have p0 := free3 HS3.out.box 0; have p1 := free3 HS3.out.box 1; have p2 := free3 HS3.out.box 2; have pz := lt_of_block HS3.out.box))
                  all_goals
                    go_wp2
                    refine bodyPost_ret (v := .tuple #[.agg #[.int .i64 x, .slice vA acc.length vc, .slice none 0 0], .bool false]) (by simp [results, Tryd.results53, go_sem, g0, g1, g2]) rfl ?_
                    rw [HFE'.out]
                    exact ⟨three_new_set HS3.out.grow (Nat.le_refl _) _ _ _, x, vA, acc.length, vc, none, 0, 0, rfl, _, _, (three_far _ _ _ _ _ _ (by have := HS3.out.lt; omega)).trans HS3.out.rd, HS3.out.len⟩
                case true =>
                  have HFE' : Hid (pTree (F + 1) d n s = some (.mk x acc [], m, tp t 93)) := Lib.hid (by rw [HFE.out, ← HKI.out, kids_end HQ3.out hpos hq4]; rfl)
                  rw [hq4] at HS93
                  have htp := tp_le t 93
                  clear HFE hq4
                  go_wp2_with fail
                  refine HSK.out.mono ?_
                  rintro e w2 ⟨rfl, hr2, hg2⟩
                  have HS2 := Lib.hid (HS.out.step hr2 hg2 hlen)
                  clear hr2 hg2
                  obtain ⟨vA, vc, rfl, hvc⟩ := own_shape HS2.out.own
                  obtain ⟨b0, b1, b2⟩ := cell3 HS2.out.box
                  have q0 := free3 HS2.out.box 0
                  have q1 := free3 HS2.out.box 1
                  have q2 := free3 HS2.out.box 2
                  have qz := lt_of_block HS2.out.box
                  go_wp2_with fail
                  go_region_law ((go_simp; go_at_call 71; refine (HS93.out w2.drew (show w2.drew.heap[br]? = _ from HS2.out.rd)).mono ?_; rintro e w3 ⟨rfl, hr3, hg3⟩; have HS3 : Hid (TSt br m w x acc (tp t 93) (.slice vA acc.length vc) ws w3) := Lib.hid (HS2.out.step hr3 (grown_drew0 hg3) (by omega)); obtain ⟨g0, g1, g2⟩ := cell3 HS3.out.box; have p0 := free3 HS3.out.box 0; have p1 := free3 HS3.out.box 1; have p2 := free3 HS3.out.box 2; have pz := lt_of_block HS3.out.box))
                  all_goals
                    go_wp2
                    refine bodyPost_ret (v := .tuple #[.agg #[.int .i64 x, .slice vA acc.length vc, .slice none 0 0], .bool true]) (by simp [results, Tryd.results53, go_sem, g0, g1, g2]) rfl ?_
                    rw [HFE'.out]
                    exact ⟨three_new_set HS3.out.grow (Nat.le_refl _) _ _ _, x, vA, acc.length, vc, none, 0, 0, rfl, (three_far _ _ _ _ _ _ (by have := HS3.out.lt; omega)).trans HS3.out.rd, TreeIn.stays (fun g hg _ => three_far _ _ _ _ _ _ (by omega)) (fun g hg _ => Nat.le_of_lt hg) _ _ (HS3.out.tree hvc)⟩
end Go.Proofs.YtjjohllfidmkjaaDoor.PfW
