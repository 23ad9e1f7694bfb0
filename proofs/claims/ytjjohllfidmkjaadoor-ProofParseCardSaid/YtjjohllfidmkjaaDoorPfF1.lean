/- Walk: the reference's formed. Conditions: the tree lies in memory; its rows fit. -/
import Derived.Test.YtjjohllfidmkjaaDoorPfQ3
import Derived.Test.YtjjohllfidmkjaaDoorPfS
namespace Go.Proofs.YtjjohllfidmkjaaDoor.PfW
open Go Go.RowKit Go.Proofs.YtjjohllfidmkjaaDoor.Mem Go.Proofs.YtjjohllfidmkjaaDoor.Pf

def headB (s : Int) (kn ln : Nat) : Bool := smallB s && decide (kn ≤ 100) && decide (ln ≤ 40) && !(decide (0 < kn) && decide (0 < ln)) && !(decide (kn = 0) && decide (s ≠ 0))
theorem node_head (s : Int) (kn : Nat) (lf : List Int) : nodeB s kn lf = (headB s kn lf.length && lf.all smallB) := by
  unfold nodeB headB
  by_cases h : 0 < kn
  · rw [if_pos h]
    by_cases h2 : lf = []
    · subst h2
      cases hs : smallB s <;> simp [h] <;> omega
    · have h3 : 0 < lf.length := List.length_pos_iff.2 h2
      have h4 : ¬ lf.length = 0 := by omega
      simp [h, h3, h4]
  · have h0 : kn = 0 := by omega
    subst h0
    rw [if_neg h]
    by_cases hs : s = 0
    · subst hs
      have : smallB 0 = true := by decide
      simp [this]
    · simp [hs]
theorem one_box (w : World) (o : Obj) : Below w.heap.size w (w.alloc o) ∧ (w.alloc o).heap[w.heap.size]? = some o := ⟨(Below.refl _ _).alloc (Nat.le_refl _) _, heap_alloc_new _ _⟩
set_option maxRecDepth 100000 in
set_option maxHeartbeats 2000000 in
theorem formed_any (S : Nat → Prop) : ∀ (n : Nat) (t : T), nodes t ≤ n → Fit t → ∀ (vs : List Value) (w : World), TreeIn S w t vs →
    Calls Tryd.prog 47 #[.agg vs.toArray] w fun e w' => e = .returned (.bool (allB t)) ∧ Below w.heap.size w w'
  | 0, .mk s ks lf, h, _, _, _, _ => by unfold nodes at h; omega
  | n + 1, .mk s ks lf, h, hf, vs, w, ht => by
    have IH := Lib.hid (formed_any S n)
    unfold TreeIn at ht
    obtain ⟨A, c, B, d, ws, rfl, hc, hd, hr, hk, hlf⟩ := ht
    have HK := Lib.hid hk
    have HR := Lib.hid hr
    have HL := Lib.hid hlf.row
    have hnk : nodes (.mk s ks lf) = 1 + nodesL ks := by rw [nodes]
    rw [hnk] at h
    obtain ⟨hfl, hfl2, hfk⟩ := hf.mk'
    have HF := Lib.hid hfk.get
    have HSM := Lib.hid (fun W => rsmall_any s W)
    have HBB := Lib.hid (one_box w (.cells #[.int .i64 s, .slice A ks.length c, .slice B lf.length d] 29))
    have HV : Hid (allB (.mk s ks lf) = (headB s ks.length lf.length && lf.all smallB && allL ks)) := Lib.hid (by rw [allB, node_head])
    rw [HV.out]
    clear hk hr hlf hc hd hnk hf hfk HV
    unfold headB
    cases hs : smallB s
    · rw [hs] at HSM
      clear hs
      simp only [Bool.false_and]
      go_enter Tryd.func47, Tryd.ntmps47
      go_wp2_with fail
      refine (HSM.out _).mono ?_
      rintro e w2 ⟨rfl, hb2⟩
      have HX1 := Lib.hid ((hb2.block _ (lt_of_block HBB.out.2)).trans HBB.out.2)
      obtain ⟨x0, x1, x2⟩ := cell3 HX1.out
      have HB2 := Lib.hid (HBB.out.1.trans (hb2.mono HBB.out.1.size))
      clear hb2
      go_wp2
      go_ret
      exact ⟨rfl, HB2.out⟩
    rw [hs] at HSM
    clear hs
    by_cases h1 : 100 < ks.length
    · rw [decide_eq_false (by omega : ¬ ks.length ≤ 100)]
      simp only [Bool.true_and, Bool.false_and]
      go_enter Tryd.func47, Tryd.ntmps47
      go_wp2_with fail
      refine (HSM.out _).mono ?_
      rintro e w2 ⟨rfl, hb2⟩
      have HX1 := Lib.hid ((hb2.block _ (lt_of_block HBB.out.2)).trans HBB.out.2)
      obtain ⟨x0, x1, x2⟩ := cell3 HX1.out
      have HB2 := Lib.hid (HBB.out.1.trans (hb2.mono HBB.out.1.size))
      clear hb2
      go_wp2
      go_ret
      exact ⟨rfl, HB2.out⟩
    rw [decide_eq_true (by omega : ks.length ≤ 100)]
    by_cases h2 : 40 < lf.length
    · rw [decide_eq_false (by omega : ¬ lf.length ≤ 40)]
      simp only [Bool.true_and, Bool.false_and]
      go_enter Tryd.func47, Tryd.ntmps47
      go_wp2_with fail
      refine (HSM.out _).mono ?_
      rintro e w2 ⟨rfl, hb2⟩
      have HX1 := Lib.hid ((hb2.block _ (lt_of_block HBB.out.2)).trans HBB.out.2)
      obtain ⟨x0, x1, x2⟩ := cell3 HX1.out
      have HB2 := Lib.hid (HBB.out.1.trans (hb2.mono HBB.out.1.size))
      clear hb2
      go_wp2
      go_ret
      exact ⟨rfl, HB2.out⟩
    rw [decide_eq_true (by omega : lf.length ≤ 40)]
    by_cases h3 : 0 < ks.length
    · have h30 : ((ks.length : Int) == 0) = false := by rw [beq_eq_false_iff_ne]; omega
      rw [decide_eq_true h3, decide_eq_false (by omega : ¬ ks.length = 0)]
      by_cases h4 : 0 < lf.length
      · rw [decide_eq_true h4]
        simp only [Bool.true_and, Bool.false_and, Bool.not_true]
        go_enter Tryd.func47, Tryd.ntmps47
        go_wp2_with fail
        refine (HSM.out _).mono ?_
        rintro e w2 ⟨rfl, hb2⟩
        have HX1 := Lib.hid ((hb2.block _ (lt_of_block HBB.out.2)).trans HBB.out.2)
        obtain ⟨x0, x1, x2⟩ := cell3 HX1.out
        have HB2 := Lib.hid (HBB.out.1.trans (hb2.mono HBB.out.1.size))
        clear hb2
        go_wp2
        go_ret
        exact ⟨rfl, HB2.out⟩
      obtain rfl : lf = [] := List.eq_nil_of_length_eq_zero (by omega)
      have h31 : ¬ ks.length = 0 := by omega
      clear h4 h2 hfl2
      rw [decide_eq_false (by simp : ¬ 0 < ([] : List Int).length)]
      simp only [Bool.true_and, Bool.false_and, Bool.not_false, Bool.and_false, List.all_nil]
      have hst : Hid (allL ks = allL (ks.drop 0)) := Lib.hid rfl
      have hend : Hid (allL (ks.drop ks.length) = true) := Lib.hid (by rw [List.drop_length]; rfl)
      go_enter Tryd.func47, Tryd.ntmps47
      go_wp2_with fail
      refine (HSM.out _).mono ?_
      rintro e w2 ⟨rfl, hb2⟩
      have HX1 := Lib.hid ((hb2.block _ (lt_of_block HBB.out.2)).trans HBB.out.2)
      obtain ⟨x0, x1, x2⟩ := cell3 HX1.out
      have HB2 := Lib.hid (HBB.out.1.trans (hb2.mono HBB.out.1.size))
      clear hb2
      generalize w.alloc (.cells #[.int .i64 s, .slice A ks.length c, .slice B ([] : List Int).length d] 29) = W1 at *
      have d1 : decide ((100 : Int) < (ks.length : Int)) = false := by simp; omega
      go_wp2
      go_loopw [3] (fun t wr => t = .int .i64 0 ∧ wr = w2) (fun _ _ => 0)
      case atStart => exact ⟨rfl, rfl⟩
      case round =>
        obtain ⟨rfl, rfl⟩ := hrel
        go_wp2
        clear x0 x1 x2
        go_loopw [4] (fun t wr => ∃ k : Nat, k ≤ ks.length ∧ t = .int .i64 k ∧ Hid (allL ks = allL (ks.drop k)) ∧ Below w.heap.size w wr ∧ wr.heap[w.heap.size]? = some (.cells #[.int .i64 s, .slice A ks.length c, .slice B ([] : List Int).length d] 29 (0, 0))) (fun t _ => ks.length - (intOf t).toNat)
        case atStart => exact ⟨0, Nat.zero_le _, rfl, hst, HB2.out, HX1.out⟩
        case round =>
          obtain ⟨k, hk, rfl, hd, hbel, hx1⟩ := hrel
          have b1 := (cell3 hx1).2.1
          by_cases hlt : k < ks.length
          · obtain ⟨g, off, xs, xA, xn, xc, xB, xm, xd, rfl, HT, a0, a1, a2⟩ := kid_cells HR.out HK.out hbel hlt
            have hs := nodesL_take ks (k + 1)
            have hs1 := kid_nodes hlt
            have HN := Lib.hid (IH.out ks[k] (by omega) (HF.out k hlt) [.int .i64 xs, .slice xA xn xc, .slice xB xm xd])
            have HTA := Lib.hid HT
            have hno := Lib.hid (allL_drop_no hlt)
            have hyes := Lib.hid (allL_drop_yes hlt)
            have hk1 : (0 : Int) ≤ (k : Int) := by omega
            have hk2 : (k : Int) < (ks.length : Int) := by omega
            clear hs hs1 HT
            generalize allB ks[k] = b at *
            have HBE := Lib.hid hbel
            have HY1 := Lib.hid hx1
            clear hbel hx1
            cases b
            all_goals
              go_wp2_with fail
              refine (HN.out _ HTA.out).mono ?_
              rintro e w3 ⟨rfl, hb3⟩
              have HB3 : Hid (Below wr.heap.size wr w3) := Lib.hid hb3
              clear hb3
              go_wp2
            · go_ret
              rw [hd.out, hno.out trivial]
              exact ⟨rfl, HBE.out.trans (HB3.out.mono HBE.out.size)⟩
            · have HZ1 := Lib.hid ((HB3.out.block _ (lt_of_block HY1.out)).trans HY1.out)
              go_roundw
              case rel => exact ⟨k + 1, by omega, by go_num, Lib.hid (hd.out.trans (hyes.out trivial)), HBE.out.trans (HB3.out.mono HBE.out.size), HZ1.out⟩
              case measure => simp [intOf]; omega
          · obtain rfl : k = ks.length := by omega
            go_wp2
            go_ret
            rw [hd.out, hend.out]
            exact ⟨rfl, hbel⟩
    · obtain rfl : ks = [] := List.eq_nil_of_length_eq_zero (by omega)
      clear h3 h1 hfl
      have h30 : ((([] : List T).length : Int) == 0) = true := by simp
      rw [decide_eq_false (by simp : ¬ 0 < ([] : List T).length), decide_eq_true (by rfl : ([] : List T).length = 0)]
      have hall : allL [] = true := by rw [allL]
      rw [hall]
      clear hall
      by_cases h5 : s = 0
      · subst h5
        rw [decide_eq_false (by simp : ¬ (0 : Int) ≠ 0)]
        simp only [Bool.true_and, Bool.false_and, Bool.not_false, Bool.and_false, Bool.and_true]
        have hst : Hid (lf.all smallB = (lf.drop 0).all smallB) := Lib.hid rfl
        have hend : Hid ((lf.drop lf.length).all smallB = true) := Lib.hid (by rw [List.drop_length]; rfl)
        have d1 : decide ((40 : Int) < (lf.length : Int)) = false := by simp; omega
        go_enter Tryd.func47, Tryd.ntmps47
        go_wp2_with fail
        refine (HSM.out _).mono ?_
        rintro e w2 ⟨rfl, hb2⟩
        have HX1 := Lib.hid ((hb2.block _ (lt_of_block HBB.out.2)).trans HBB.out.2)
        obtain ⟨x0, x1, x2⟩ := cell3 HX1.out
        have HB2 := Lib.hid (HBB.out.1.trans (hb2.mono HBB.out.1.size))
        clear hb2
        generalize w.alloc (.cells #[.int .i64 0, .slice A ([] : List T).length c, .slice B lf.length d] 29) = W1 at *
        go_wp2
        clear x0 x1 x2
        go_loopw [3] (fun t wr => ∃ k : Nat, k ≤ lf.length ∧ t = .int .i64 k ∧ Hid (lf.all smallB = (lf.drop k).all smallB) ∧ Below w.heap.size w wr ∧ wr.heap[w.heap.size]? = some (.cells #[.int .i64 0, .slice A ([] : List T).length c, .slice B lf.length d] 29 (0, 0))) (fun t _ => lf.length - (intOf t).toNat)
        case atStart => exact ⟨0, Nat.zero_le _, rfl, hst, HB2.out, HX1.out⟩
        case round =>
          obtain ⟨k, hk, rfl, hd, hbel, hx1⟩ := hrel
          obtain ⟨b0, b1, b2⟩ := cell3 hx1
          by_cases hlt : k < lf.length
          · obtain ⟨g, off, rfl, hg, ca⟩ := HL.out (ints_ne hlt)
            have a0 := (hbel.cell (p := ⟨g, off + k, none⟩) hg).trans ((ca k (by rw [ints_len]; exact hlt)).trans (ints_get hlt))
            have hno := Lib.hid (all_small_no hlt)
            have hyes := Lib.hid (all_small_yes hlt)
            have hk1 : (0 : Int) ≤ (k : Int) := by omega
            have hk2 : (k : Int) < (lf.length : Int) := by omega
            clear ca
            generalize lf[k] = m at *
            have HM := Lib.hid (fun W => rsmall_any m W)
            generalize smallB m = b at *
            have HBE := Lib.hid hbel
            have HY1 := Lib.hid hx1
            clear hbel hx1
            cases b
            all_goals
              go_wp2_with fail
              refine (HM.out _).mono ?_
              rintro e w3 ⟨rfl, hb3⟩
              have HB3 : Hid (Below wr.heap.size wr w3) := Lib.hid hb3
              clear hb3
              go_wp2
            · go_ret
              rw [hd.out, hno.out trivial]
              exact ⟨rfl, HBE.out.trans (HB3.out.mono HBE.out.size)⟩
            · have HZ1 := Lib.hid ((HB3.out.block _ (lt_of_block HY1.out)).trans HY1.out)
              go_roundw
              case rel => exact ⟨k + 1, by omega, by go_num, Lib.hid (hd.out.trans (hyes.out trivial)), HBE.out.trans (HB3.out.mono HBE.out.size), HZ1.out⟩
              case measure => simp [intOf]; omega
          · obtain rfl : k = lf.length := by omega
            go_wp2
            go_loopw [4] (fun t wq => t = .int .i64 0 ∧ wq = wr) (fun _ _ => 0)
            case atStart => exact ⟨rfl, rfl⟩
            case round =>
              obtain ⟨rfl, rfl⟩ := hrel
              go_wp2
              go_ret
              rw [hd.out, hend.out]
              exact ⟨rfl, hbel⟩
      · rw [decide_eq_true h5]
        simp only [Bool.true_and, Bool.false_and, Bool.not_true]
        have q5 : (s != 0) = true := by simpa using h5
        clear h5
        go_enter Tryd.func47, Tryd.ntmps47
        go_wp2_with fail
        refine (HSM.out _).mono ?_
        rintro e w2 ⟨rfl, hb2⟩
        have HX1 := Lib.hid ((hb2.block _ (lt_of_block HBB.out.2)).trans HBB.out.2)
        obtain ⟨x0, x1, x2⟩ := cell3 HX1.out
        have HB2 := Lib.hid (HBB.out.1.trans (hb2.mono HBB.out.1.size))
        clear hb2
        go_wp2
        go_ret
        exact ⟨rfl, HB2.out⟩
end Go.Proofs.YtjjohllfidmkjaaDoor.PfW
