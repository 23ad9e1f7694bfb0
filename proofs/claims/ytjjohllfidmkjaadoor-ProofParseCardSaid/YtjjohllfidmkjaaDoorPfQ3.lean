/- Walks: the program's Same. Conditions: the trees lie in memory; their rows fit. -/
import Derived.Test.YtjjohllfidmkjaaDoorPfQ2
namespace Go.Proofs.YtjjohllfidmkjaaDoor.PfW
open Go Go.RowKit Go.Proofs.YtjjohllfidmkjaaDoor.Mem Go.Proofs.YtjjohllfidmkjaaDoor.Pf

set_option maxRecDepth 100000 in
set_option maxHeartbeats 1000000 in
theorem pequal_any (l r : List Int) (A B : Option Addr) (c d : Nat) (w : World) (hr : Row w A (intCells l)) (hs : Row w B (intCells r)) (hl : l.length ≤ 17592186043904) :
    Calls Tryd.prog 48 #[.slice A l.length c, .slice B r.length d] w fun e w' => e = .returned (.bool (decide (l = r))) ∧ Below w.heap.size w w' := by
  have HA := Lib.hid hr
  have HB := Lib.hid hs
  clear hr hs
  by_cases hlen : l.length = r.length
  · have hst : Hid (decide (l = r) = decide (l.drop 0 = r.drop 0)) := Lib.hid rfl
    have hn : ((l.length : Int) != (l.length : Int)) = false := by simp
    have hend := Lib.hid (same_end hlen)
    have HLEN := Lib.hid hlen
    rw [← hlen]
    clear hlen
    go_enter Tryd.func48, Tryd.ntmps48
    go_wp2
    go_loopw [5, 13] (fun _ t wr => ∃ k : Nat, k ≤ l.length ∧ t = .int .i64 k ∧ Hid (decide (l = r) = decide (l.drop k = r.drop k)) ∧ Below w.heap.size w wr) (fun _ t _ => l.length - (intOf t).toNat)
    case atStart => exact ⟨0, Nat.zero_le _, rfl, hst, Below.refl _ _⟩
    case round =>
      obtain ⟨k, hk, rfl, hd, hbel⟩ := hrel
      by_cases hlt : k < l.length
      · have hlt2 : k < r.length := by have := HLEN.out; omega
        obtain ⟨g, off, rfl, hg, ca⟩ := HA.out (ints_ne hlt)
        obtain ⟨g2, off2, rfl, hg2, cb⟩ := HB.out (ints_ne hlt2)
        have a0 := (hbel.cell (p := ⟨g, off + k, none⟩) hg).trans ((ca k (by rw [ints_len]; exact hlt)).trans (ints_get hlt))
        have b0 := (hbel.cell (p := ⟨g2, off2 + k, none⟩) hg2).trans ((cb k (by rw [ints_len]; exact hlt2)).trans (ints_get hlt2))
        have hno := Lib.hid (same_no k hlt hlt2)
        have hyes := Lib.hid (same_drop k hlt hlt2)
        have hk1 : (0 : Int) ≤ (k : Int) := by omega
        have hk2 : (k : Int) < (l.length : Int) := by omega
        clear ca cb
        generalize l[k] = m at *
        generalize r[k] = n at *
        clear hlt2
        cases hq : decide (m = n)
        · have HQ := Lib.hid (hno.out hq)
          have hne : (m != n) = true := by have := of_decide_eq_false hq; simpa using this
          clear hq
          go_wp2
          go_region
          as_aux_lemma =>
            go_wp2
            go_ret
            rw [HQ.out]
            exact ⟨rfl, below_drew hbel⟩
        · have HQ := Lib.hid (hyes.out hq)
          have hne : (m != n) = false := by have := of_decide_eq_true hq; simpa using this
          clear hq
          go_wp2
          go_region
          as_aux_lemma =>
            go_wp2
            go_roundw
            case rel => exact ⟨k + 1, by omega, by go_num, Lib.hid (hd.out.trans HQ.out), below_drew hbel⟩
            case measure => simp [intOf]; omega
      · obtain rfl : k = l.length := by omega
        go_wp2
        go_ret
        rw [hd.out, hend.out]
        exact ⟨rfl, hbel⟩
  · have hn : ((l.length : Int) != (r.length : Int)) = true := by simp; omega
    have hno := Lib.hid (same_len hlen)
    clear hlen
    go_enter Tryd.func48, Tryd.ntmps48
    go_wp2
    go_ret
    rw [hno.out]
    exact ⟨rfl, Below.refl _ _⟩
set_option maxRecDepth 100000 in
set_option maxHeartbeats 1000000 in
theorem equalFunc_any (n : Nat) (IH : Hid (∀ (a b : T), nodes a ≤ n → Fit a → Fit b → ∀ (S S' : Nat → Prop) (vs us : List Value) (w : World), TreeIn S w a vs → TreeIn S' w b us →
      Calls Tryd.prog 20 #[.agg vs.toArray, .agg us.toArray] w fun e w' => e = .returned (.bool (sameB a b)) ∧ Below w.heap.size w w'))
    (ks ks2 : List T) (hn : nodesL ks ≤ n) (hf : FitL ks) (hf2 : FitL ks2) (hkl : ks.length ≤ 2513169434843) (S S' : Nat → Prop) (A A2 : Option Addr) (c c2 : Nat) (ws ws2 : List Value) (w : World) (hr : RowS S w A ws) (hk : KidsIn S w ks ws) (hr2 : RowS S' w A2 ws2) (hk2 : KidsIn S' w ks2 ws2) :
    Calls Tryd.prog 49 #[.slice A ks.length c, .slice A2 ks2.length c2, .func (.func 20) #[] #[]] w fun e w' => e = .returned (.bool (decide (ks.length = ks2.length) && sameL ks ks2)) ∧ Below w.heap.size w w' := by
  have HK := Lib.hid hk
  have HR := Lib.hid hr
  have HK2 := Lib.hid hk2
  have HR2 := Lib.hid hr2
  have HF := Lib.hid hf.get
  have HF2 := Lib.hid hf2.get
  clear hk hr hk2 hr2 hf hf2
  by_cases h2 : ks.length = ks2.length
  · rw [decide_eq_true h2, Bool.true_and]
    have q2 : ((ks.length : Int) != (ks.length : Int)) = false := by simp
    have hst : Hid (sameL ks ks2 = sameL (ks.drop 0) (ks2.drop 0)) := Lib.hid rfl
    have hend := Lib.hid (sameL_end h2)
    have HLEN := Lib.hid h2
    rw [← h2]
    clear h2
    go_enter Tryd.func49, Tryd.ntmps49
    go_wp2
    go_loopw [7, 8, 9, 17] (fun _ _ _ t wr => ∃ k : Nat, k ≤ ks.length ∧ t = .int .i64 k ∧ Hid (sameL ks ks2 = sameL (ks.drop k) (ks2.drop k)) ∧ Below w.heap.size w wr) (fun _ _ _ t _ => ks.length - (intOf t).toNat)
    case atStart => exact ⟨0, Nat.zero_le _, rfl, hst, Below.refl _ _⟩
    case round =>
      obtain ⟨k, hk, rfl, hd, hbel⟩ := hrel
      by_cases hlt : k < ks.length
      · have hlt2 : k < ks2.length := by have := HLEN.out; omega
        obtain ⟨g, off, xs, xA, xn, xc, xB, xm, xd, rfl, HT, a0, a1, a2⟩ := kid_cells HR.out HK.out hbel hlt
        obtain ⟨g2, off2, ys, yA, yn, yc, yB, ym, yd, rfl, HT2, e0, e1, e2⟩ := kid_cells HR2.out HK2.out hbel hlt2
        have hg : g < wr.heap.size := World.block_lt_of_cell? wr _ a0
        have hg2 : g2 < wr.heap.size := World.block_lt_of_cell? wr _ e0
        have hs := nodesL_take ks (k + 1)
        have hs1 := kid_nodes hlt
        have HN := Lib.hid (IH.out ks[k] ks2[k] (by omega) (HF.out k hlt) (HF2.out k hlt2) S S' [.int .i64 xs, .slice xA xn xc, .slice xB xm xd] [.int .i64 ys, .slice yA yn yc, .slice yB ym yd])
        have HBB := Lib.hid (two_boxes wr (.cells #[.int .i64 xs, .slice xA xn xc, .slice xB xm xd] 38) (.cells #[.int .i64 ys, .slice yA yn yc, .slice yB ym yd] 38))
        have HTA := Lib.hid (HT.below HBB.out.1)
        have HTB := Lib.hid (HT2.below HBB.out.1)
        have hno := Lib.hid (sameL_no hlt hlt2)
        have hyes := Lib.hid (sameL_yes hlt hlt2)
        have hk1 : (0 : Int) ≤ (k : Int) := by omega
        have hk2 : (k : Int) < (ks.length : Int) := by omega
        clear hs hs1 HT HT2
        generalize sameB ks[k] ks2[k] = b at *
        have HBE := Lib.hid hbel
        clear hbel
        cases b
        all_goals
          go_wp2_with fail
          refine (HN.out _ HTA.out HTB.out).mono ?_
          rintro e w3 ⟨rfl, hb3⟩
          have HB3 : Hid (Below wr.heap.size wr w3) := Lib.hid (HBB.out.1.trans (hb3.mono HBB.out.1.size))
          clear hb3
          go_wp2
        · go_ret
          rw [hd.out, hno.out trivial]
          exact ⟨rfl, HBE.out.trans (HB3.out.mono HBE.out.size)⟩
        · go_roundw
          case rel => exact ⟨k + 1, by omega, by go_num, Lib.hid (hd.out.trans (hyes.out trivial)), HBE.out.trans (HB3.out.mono HBE.out.size)⟩
          case measure => simp [intOf]; omega
      · obtain rfl : k = ks.length := by omega
        go_wp2
        go_ret
        rw [hd.out, hend.out]
        exact ⟨rfl, hbel⟩
  · rw [decide_eq_false h2, Bool.false_and]
    have q2 : ((ks.length : Int) != (ks2.length : Int)) = true := by simp; omega
    clear h2
    go_enter Tryd.func49, Tryd.ntmps49
    go_wp2
    go_ret
    exact ⟨rfl, Below.refl _ _⟩

set_option maxRecDepth 100000 in
set_option maxHeartbeats 2000000 in
theorem same_any : ∀ (n : Nat) (a b : T), nodes a ≤ n → Fit a → Fit b → ∀ (S S' : Nat → Prop) (vs us : List Value) (w : World), TreeIn S w a vs → TreeIn S' w b us →
    Calls Tryd.prog 20 #[.agg vs.toArray, .agg us.toArray] w fun e w' => e = .returned (.bool (sameB a b)) ∧ Below w.heap.size w w'
  | 0, .mk s ks lf, _, h, _, _, _, _, _, _, _, _, _ => by unfold nodes at h; omega
  | n + 1, .mk s ks lf, .mk s2 ks2 lf2, h, hf, hf2, S, S', vs, us, w, ht, ht2 => by
    have IH := Lib.hid (same_any n)
    unfold TreeIn at ht ht2
    obtain ⟨A, c, B, d, ws, rfl, hc, hd, hr, hk, hlf⟩ := ht
    obtain ⟨A2, c2, B2, d2, ws2, rfl, hc2, hd2, hr2, hk2, hlf2⟩ := ht2
    have hnk : nodes (.mk s ks lf) = 1 + nodesL ks := by rw [nodes]
    rw [hnk] at h
    obtain ⟨hfl, hfl2, hfk⟩ := hf.mk'
    obtain ⟨hgl, hgl2, hgk⟩ := hf2.mk'
    have HEQ := Lib.hid (fun W (hb : Below w.heap.size w W) => pequal_any lf lf2 B B2 d d2 W (hlf.row.below hb) (hlf2.row.below hb) hfl2)
    have HEF := Lib.hid (fun W (hb : Below w.heap.size w W) => equalFunc_any n IH ks ks2 (by omega) hfk hgk hfl S S' A A2 c c2 ws ws2 W (hr.stays (Stays.of_below hb) fun _ h _ => h) (hk.below hb) (hr2.stays (Stays.of_below hb) fun _ h _ => h) (hk2.below hb))
    have HBB := Lib.hid (two_boxes w (.cells #[.int .i64 s, .slice A ks.length c, .slice B lf.length d] 38) (.cells #[.int .i64 s2, .slice A2 ks2.length c2, .slice B2 lf2.length d2] 38))
    have HV : Hid (sameB (.mk s ks lf) (.mk s2 ks2 lf2) = (decide (s = s2) && decide (lf = lf2) && (decide (ks.length = ks2.length) && sameL ks ks2))) := Lib.hid (by rw [sameB, Bool.and_assoc])
    rw [HV.out]
    clear hk hr hlf hc hd hnk hf hfk HV hk2 hr2 hlf2 hc2 hd2 hf2 hgk hgl2 IH
    by_cases h1 : s = s2
    · have q1 : (s == s2) = true := by simpa using h1
      rw [decide_eq_true h1]
      clear h1
      generalize decide (lf = lf2) = b at *
      cases b
      · rw [Bool.and_false, Bool.false_and]
        go_enter Tryd.func20, Tryd.ntmps20
        go_wp2_with fail
        refine (HEQ.out _ HBB.out.1).mono ?_
        rintro e w2 ⟨rfl, hb2⟩
        go_wp2
        go_ret
        exact ⟨rfl, HBB.out.1.trans (hb2.mono HBB.out.1.size)⟩
      · rw [Bool.true_and, Bool.true_and]
        generalize (decide (ks.length = ks2.length) && sameL ks ks2) = b at *
        go_enter Tryd.func20, Tryd.ntmps20
        go_wp2_with fail
        refine (HEQ.out _ HBB.out.1).mono ?_
        rintro e w2 ⟨rfl, hb2⟩
        have HX1 := Lib.hid ((hb2.block _ (lt_of_block HBB.out.2.1)).trans HBB.out.2.1)
        have HX2 := Lib.hid ((hb2.block _ (lt_of_block HBB.out.2.2)).trans HBB.out.2.2)
        have HB2 := Lib.hid (HBB.out.1.trans (hb2.mono HBB.out.1.size))
        obtain ⟨x0, x1, x2⟩ := cell3 HX1.out
        obtain ⟨y0, y1, y2⟩ := cell3 HX2.out
        clear hb2
        go_wp2_with fail
        refine (HEF.out _ HB2.out).mono ?_
        rintro e w3 ⟨rfl, hb3⟩
        clear x0 x1 x2 y0 y1 y2
        go_wp2
        go_ret
        exact ⟨rfl, HB2.out.trans (hb3.mono HB2.out.size)⟩
    · have q1 : (s == s2) = false := by simpa using h1
      rw [decide_eq_false h1]
      rw [Bool.false_and, Bool.false_and]
      clear h1
      go_enter Tryd.func20, Tryd.ntmps20
      go_wp2
      go_ret
      exact ⟨rfl, HBB.out.1⟩
end Go.Proofs.YtjjohllfidmkjaaDoor.PfW
