/- Walk: the reference's Same. Conditions: the trees lie in memory; their rows fit. -/
import Derived.Test.YtjjohllfidmkjaaDoorPfE
import Derived.Test.YtjjohllfidmkjaaDoorPfQ1
import Derived.Test.YtjjohllfidmkjaaDoorPfO1
import Derived.StillTailTactics
namespace Go.Proofs.YtjjohllfidmkjaaDoor.PfW
open Go Go.RowKit Go.Proofs.YtjjohllfidmkjaaDoor.Mem Go.Proofs.YtjjohllfidmkjaaDoor.Pf

/-- Kid k of a tree that lies in an older world. -/
theorem kid_cells {S : Nat → Prop} {w wr : World} {A : Option Addr} {ks : List T} {ws : List Value} (HR : RowS S w A ws) (HK : KidsIn S w ks ws) (hbel : Below w.heap.size w wr) {k : Nat} (hlt : k < ks.length) :
    ∃ g off s xA xn xc xB xm xd, A = some ⟨g, off, none⟩ ∧ TreeIn S wr ks[k] [.int .i64 s, .slice xA xn xc, .slice xB xm xd] ∧
      wr.cell? ⟨g, off + k * 3, none⟩ = some (.int .i64 s) ∧ wr.cell? ⟨g, off + k * 3 + 1, none⟩ = some (.slice xA xn xc) ∧ wr.cell? ⟨g, off + k * 3 + 2, none⟩ = some (.slice xB xm xd) := by
  have hne : ws ≠ [] := by
    intro h0
    have := HK.len
    rw [h0] at this
    simp at this; omega
  obtain ⟨g, off, rfl, _, hg, hc⟩ := HR hne
  obtain ⟨x, y, z, hT, e0, e1, e2⟩ := HK.get k hlt
  have hl := HK.len
  have a0 : wr.cell? ⟨g, off + k * 3, none⟩ = some x := (hbel.cell (p := ⟨g, off + k * 3, none⟩) hg).trans (by rw [hc (k * 3) (by omega), show k * 3 = 3 * k by omega]; exact e0)
  have a1 : wr.cell? ⟨g, off + k * 3 + 1, none⟩ = some y := (hbel.cell (p := ⟨g, off + k * 3 + 1, none⟩) hg).trans (by rw [show off + k * 3 + 1 = off + (3 * k + 1) by omega, hc (3 * k + 1) (by omega)]; exact e1)
  have a2 : wr.cell? ⟨g, off + k * 3 + 2, none⟩ = some z := (hbel.cell (p := ⟨g, off + k * 3 + 2, none⟩) hg).trans (by rw [show off + k * 3 + 2 = off + (3 * k + 2) by omega, hc (3 * k + 2) (by omega)]; exact e2)
  obtain ⟨xs, xA, xn, xc, xB, xm, xd, rfl, rfl, rfl⟩ := tree_shape hT
  exact ⟨g, off, xs, xA, xn, xc, xB, xm, xd, rfl, hT.below hbel, a0, a1, a2⟩
theorem two_boxes (w : World) (o1 o2 : Obj) : Below w.heap.size w ((w.alloc o1).alloc o2) ∧ ((w.alloc o1).alloc o2).heap[w.heap.size]? = some o1 ∧ ((w.alloc o1).alloc o2).heap[w.heap.size + 1]? = some o2 := by
  have e1 : (w.alloc o1).heap.size = w.heap.size + 1 := by simp
  refine ⟨((Below.refl _ _).alloc (Nat.le_refl _) _).alloc (by simp) _, ?_, ?_⟩
  · rw [heap_alloc_old _ _ (by rw [e1]; omega)]; exact heap_alloc_new _ _
  · rw [← e1]; exact heap_alloc_new _ _

set_option maxRecDepth 100000 in
set_option maxHeartbeats 2000000 in
theorem rsame_any : ∀ (n : Nat) (a b : T), nodes a ≤ n → Fit a → Fit b → ∀ (S S' : Nat → Prop) (vs us : List Value) (w : World), TreeIn S w a vs → TreeIn S' w b us →
    Calls Tryd.prog 21 #[.agg vs.toArray, .agg us.toArray] w fun e w' => e = .returned (.bool (sameB a b)) ∧ Below w.heap.size w w'
  | 0, .mk s ks lf, _, h, _, _, _, _, _, _, _, _, _ => by unfold nodes at h; omega
  | n + 1, .mk s ks lf, .mk s2 ks2 lf2, h, hf, hf2, S, S', vs, us, w, ht, ht2 => by
    have IH := Lib.hid (rsame_any n)
    unfold TreeIn at ht ht2
    obtain ⟨A, c, B, d, ws, rfl, hc, hd, hr, hk, hlf⟩ := ht
    obtain ⟨A2, c2, B2, d2, ws2, rfl, hc2, hd2, hr2, hk2, hlf2⟩ := ht2
    have HK := Lib.hid hk
    have HR := Lib.hid hr
    have HK2 := Lib.hid hk2
    have HR2 := Lib.hid hr2
    have hnk : nodes (.mk s ks lf) = 1 + nodesL ks := by rw [nodes]
    rw [hnk] at h
    obtain ⟨hfl, hfl2, hfk⟩ := hf.mk'
    obtain ⟨hgl, hgl2, hgk⟩ := hf2.mk'
    have HF := Lib.hid hfk.get
    have HF2 := Lib.hid hgk.get
    have HEQ := Lib.hid (fun W (hb : Below w.heap.size w W) => requal_any lf lf2 B B2 d d2 W (hlf.row.below hb) (hlf2.row.below hb) hfl2)
    have HBB := Lib.hid (two_boxes w (.cells #[.int .i64 s, .slice A ks.length c, .slice B lf.length d] 29) (.cells #[.int .i64 s2, .slice A2 ks2.length c2, .slice B2 lf2.length d2] 29))
    have HV : Hid (sameB (.mk s ks lf) (.mk s2 ks2 lf2) = (decide (s = s2) && decide (lf = lf2) && decide (ks.length = ks2.length) && sameL ks ks2)) := Lib.hid (by rw [sameB])
    rw [HV.out]
    clear hk hr hlf hc hd hnk hf hfk HV hk2 hr2 hlf2 hc2 hd2 hf2 hgk hgl2
    by_cases h1 : s = s2
    · have q1 : (s != s2) = false := by simpa using h1
      rw [decide_eq_true h1]
      clear h1
      generalize decide (lf = lf2) = b at *
      cases b
      · rw [Bool.and_false, Bool.false_and, Bool.false_and]
        go_enter Tryd.func21, Tryd.ntmps21
        go_wp2_with fail
        refine (HEQ.out _ HBB.out.1).mono ?_
        rintro e w2 ⟨rfl, hb2⟩
        go_wp2
        go_ret
        exact ⟨rfl, HBB.out.1.trans (hb2.mono HBB.out.1.size)⟩
      · by_cases h2 : ks.length = ks2.length
        · have q2 : ((ks.length : Int) != (ks.length : Int)) = false := by simp
          rw [decide_eq_true h2]
          have hst : Hid (sameL ks ks2 = sameL (ks.drop 0) (ks2.drop 0)) := Lib.hid rfl
          have hend := Lib.hid (sameL_end h2)
          have HLEN := Lib.hid h2
          rw [Bool.true_and, Bool.true_and, Bool.true_and]
          rw [← h2]
          rw [← h2] at HBB
          clear h2
          go_enter Tryd.func21, Tryd.ntmps21
          go_wp2_with fail
          refine (HEQ.out _ HBB.out.1).mono ?_
          rintro e w2 ⟨rfl, hb2⟩
          have HX1 := Lib.hid ((hb2.block _ (lt_of_block HBB.out.2.1)).trans HBB.out.2.1)
          have HX2 := Lib.hid ((hb2.block _ (lt_of_block HBB.out.2.2)).trans HBB.out.2.2)
          have HB2 := Lib.hid (HBB.out.1.trans (hb2.mono HBB.out.1.size))
          obtain ⟨x0, x1, x2⟩ := cell3 HX1.out
          obtain ⟨y0, y1, y2⟩ := cell3 HX2.out
          clear hb2
          generalize (w.alloc (.cells #[.int .i64 s, .slice A ks.length c, .slice B lf.length d] 29)).alloc (.cells #[.int .i64 s2, .slice A2 ks.length c2, .slice B2 lf2.length d2] 29) = W1 at *
          go_wp2
          clear x0 x1 x2 y0 y1 y2
          go_loopw [5] (fun t wr => ∃ k : Nat, k ≤ ks.length ∧ t = .int .i64 k ∧ Hid (sameL ks ks2 = sameL (ks.drop k) (ks2.drop k)) ∧ Below w.heap.size w wr ∧ wr.heap[w.heap.size]? = some (.cells #[.int .i64 s, .slice A ks.length c, .slice B lf.length d] 29 (0, 0)) ∧ wr.heap[w.heap.size + 1]? = some (.cells #[.int .i64 s2, .slice A2 ks.length c2, .slice B2 lf2.length d2] 29 (0, 0))) (fun t _ => ks.length - (intOf t).toNat)
          case atStart => exact ⟨0, Nat.zero_le _, rfl, hst, HB2.out, HX1.out, HX2.out⟩
          case round =>
            obtain ⟨k, hk, rfl, hd, hbel, hx1, hx2⟩ := hrel
            have b1 := (cell3 hx1).2.1
            have b2 := (cell3 hx2).2.1
            by_cases hlt : k < ks.length
            · have hlt2 : k < ks2.length := by have := HLEN.out; omega
              obtain ⟨g, off, xs, xA, xn, xc, xB, xm, xd, rfl, HT, a0, a1, a2⟩ := kid_cells HR.out HK.out hbel hlt
              obtain ⟨g2, off2, ys, yA, yn, yc, yB, ym, yd, rfl, HT2, e0, e1, e2⟩ := kid_cells HR2.out HK2.out hbel hlt2
              have hs := nodesL_take ks (k + 1)
              have hs1 := kid_nodes hlt
              have HN := Lib.hid (IH.out ks[k] ks2[k] (by omega) (HF.out k hlt) (HF2.out k hlt2) S S' [.int .i64 xs, .slice xA xn xc, .slice xB xm xd] [.int .i64 ys, .slice yA yn yc, .slice yB ym yd])
              have HTA := Lib.hid (HT.below (below_drew (Below.refl wr.heap.size wr)))
              have HTB := Lib.hid (HT2.below (below_drew (Below.refl wr.heap.size wr)))
              have hno := Lib.hid (sameL_no hlt hlt2)
              have hyes := Lib.hid (sameL_yes hlt hlt2)
              have hk1 : (0 : Int) ≤ (k : Int) := by omega
              have hk2 : (k : Int) < (ks.length : Int) := by omega
              clear hs hs1 HT HT2
              generalize sameB ks[k] ks2[k] = b at *
              have HBE := Lib.hid hbel
              have HY1 := Lib.hid hx1
              have HY2 := Lib.hid hx2
              clear hbel hx1 hx2
              cases b
              all_goals
                go_wp2_with fail
                go_still_tail 10, (by kernel_rfl)
                change wpList _ _ _ _ _ (wr.drewN 1)
                go_wp2_with fail
                refine (HN.out _ HTA.out HTB.out).mono ?_
                rintro e w3 ⟨rfl, hb3⟩
                have HB3 : Hid (Below wr.heap.size wr w3) := Lib.hid ((below_drewN (Below.refl _ _) 1).trans (hb3.mono (Nat.le_of_eq rfl)))
                clear hb3
                go_wp2
              · go_ret
                rw [hd.out, hno.out trivial]
                exact ⟨rfl, HBE.out.trans (HB3.out.mono HBE.out.size)⟩
              · have HZ1 := Lib.hid ((HB3.out.block _ (lt_of_block HY1.out)).trans HY1.out)
                have HZ2 := Lib.hid ((HB3.out.block _ (lt_of_block HY2.out)).trans HY2.out)
                go_roundw
                case rel => exact ⟨k + 1, by omega, by go_num, Lib.hid (hd.out.trans (hyes.out trivial)), HBE.out.trans (HB3.out.mono HBE.out.size), HZ1.out, HZ2.out⟩
                case measure => simp [intOf]; omega
            · obtain rfl : k = ks.length := by omega
              go_wp2
              go_ret
              rw [hd.out, hend.out]
              exact ⟨rfl, hbel⟩
        · have q2 : ((ks.length : Int) != (ks2.length : Int)) = true := by simp; omega
          rw [decide_eq_false h2]
          rw [Bool.and_false, Bool.false_and]
          clear h2
          go_enter Tryd.func21, Tryd.ntmps21
          go_wp2_with fail
          refine (HEQ.out _ HBB.out.1).mono ?_
          rintro e w2 ⟨rfl, hb2⟩
          have HX1 := Lib.hid ((hb2.block _ (lt_of_block HBB.out.2.1)).trans HBB.out.2.1)
          have HX2 := Lib.hid ((hb2.block _ (lt_of_block HBB.out.2.2)).trans HBB.out.2.2)
          have HB2 := Lib.hid (HBB.out.1.trans (hb2.mono HBB.out.1.size))
          obtain ⟨x0, x1, x2⟩ := cell3 HX1.out
          obtain ⟨y0, y1, y2⟩ := cell3 HX2.out
          clear hb2
          go_wp2
          go_ret
          exact ⟨rfl, HB2.out⟩
    · have q1 : (s != s2) = true := by simpa using h1
      rw [decide_eq_false h1]
      rw [Bool.false_and, Bool.false_and, Bool.false_and]
      clear h1
      go_enter Tryd.func21, Tryd.ntmps21
      go_wp2
      go_ret
      exact ⟨rfl, HBB.out.1⟩
end Go.Proofs.YtjjohllfidmkjaaDoor.PfW
