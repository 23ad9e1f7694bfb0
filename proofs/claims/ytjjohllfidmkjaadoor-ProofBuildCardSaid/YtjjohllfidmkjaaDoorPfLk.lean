/- Law walk: ProofCheck. -/
import Derived.Test.YtjjohllfidmkjaaDoorPfLs
import Derived.Test.YtjjohllfidmkjaaDoorPfLt
import Derived.Test.YtjjohllfidmkjaaDoorPfC3
namespace Go.Proofs.YtjjohllfidmkjaaDoor.PfW
open Go Go.RowKit Go.Proofs.YtjjohllfidmkjaaDoor.Mem Go.Proofs.YtjjohllfidmkjaaDoor.Pf
theorem ints_length (p : List Nat) : (ints p).length = p.length := by simp [ints]
theorem valid_allB {t : T} (h : validB t = true) : allB t = true := by
  unfold validB at h
  simp only [Bool.and_eq_true] at h
  first | exact h.1 | exact h.2 | exact h.1.1 | exact h.1.2 | exact h.2.1 | exact h.2.2
set_option maxRecDepth 100000 in
set_option maxHeartbeats 4000000 in
theorem proofCheck_walk (y : Syst) (a : T) (A : Option Addr) (cp : Nat) (s : Int) (K : Option Addr) (m kc : Nat) (B : Option Addr) (k d : Nat) (w : World)
    (hrow : Row w A (y.rows.flatMap r4Cells)) (hlen : y.rows.length ≤ 4398046510976) (ha : TreeIn (fun _ => True) w a [.int .i64 s, .slice K m kc, .slice B k d]) (hfa : Fit a) (hG : Glob w) :
    Calls Tryd.prog 3 #[sysV y A cp, .agg #[.int .i64 s, .slice K m kc, .slice B k d]] w fun e w' => e = .returned (.bool true) ∧ Below w.heap.size w w' := by
  have HO := Lib.hid (two_boxes w (.cells #[.int .i64 y.l0, .int .i64 y.l1, .int .i64 y.l2, .int .i64 y.h0, .int .i64 y.h1, .int .i64 y.h2, .slice A y.rows.length cp] 25) (.cells #[.int .i64 s, .slice K m kc, .slice B k d] 29))
  have HA := Lib.hid (ha.below HO.out.1)
  have HR := Lib.hid (hrow.below HO.out.1)
  have HFA := Lib.hid hfa
  have HGG := Lib.hid (hG.below HO.out.1)
  have HBW := Lib.hid HO.out.1
  have HXA := Lib.hid HO.out.2.1
  have HXB := Lib.hid HO.out.2.2
  have HLT := Lib.hid (fun w => little_any y A cp w hlen)
  clear ha hrow hfa hG HO
  unfold sysV at HLT ⊢
  go_enter Tryd.func3, Tryd.ntmps3
  go_wp2_with fail
  generalize (w.alloc (.cells #[.int .i64 y.l0, .int .i64 y.l1, .int .i64 y.l2, .int .i64 y.h0, .int .i64 y.h1, .int .i64 y.h2, .slice A y.rows.length cp] 25)).alloc (.cells #[.int .i64 s, .slice K m kc, .slice B k d] 29) = W at *
  have HAW := Lib.hid (awake_any W HGG.out)
  refine HAW.out.mono ?_
  rintro e w1 ⟨rfl, hb1⟩
  have HB1 := Lib.hid hb1
  clear hb1 HAW
  have cellA : ∀ (w' : World), Below W.heap.size W w' → w'.heap[w.heap.size]? = some (.cells #[.int .i64 y.l0, .int .i64 y.l1, .int .i64 y.l2, .int .i64 y.h0, .int .i64 y.h1, .int .i64 y.h2, .slice A y.rows.length cp] 25) := fun _ hb => (hb.block _ (lt_of_block HXA.out)).trans HXA.out
  have cellB : ∀ (w' : World), Below W.heap.size W w' → w'.heap[w.heap.size + 1]? = some (.cells #[.int .i64 s, .slice K m kc, .slice B k d] 29) := fun _ hb => (hb.block _ (lt_of_block HXB.out)).trans HXB.out
  have FIN : ∀ (w' : World), Below W.heap.size W w' → Below w.heap.size w w' := fun _ hb => HBW.out.trans (hb.mono HBW.out.size)
  have CA := Lib.hid cellA
  have CB := Lib.hid cellB
  have FN := Lib.hid FIN
  clear cellA cellB FIN
  obtain ⟨x0, x1, x2⟩ := cell3 (CB.out _ HB1.out)
  have HF := Lib.hid (few_any a HFA.out _ s K B m kc k d w1 (HA.out.below HB1.out))
  go_wp2_with fail
  refine HF.out.mono ?_
  rintro e w2 ⟨rfl, hb2⟩
  have HB2 := Lib.hid (HB1.out.trans (hb2.mono HB1.out.size))
  clear hb2 HF x0 x1 x2
  cases hfe : fewB a
  · have HAW := Lib.hid (awake_any w2 (HGG.out.below HB2.out))
    go_wp2_with fail
    refine HAW.out.mono ?_
    rintro e wz ⟨rfl, hbz⟩
    have HBZ := Lib.hid (HB2.out.trans (hbz.mono HB2.out.size))
    clear hbz HAW
    go_wp2
    go_ret
    exact ⟨rfl, FN.out _ HBZ.out⟩
  obtain ⟨x0, x1, x2, x3, x4, x5, x6⟩ := cell7 (CA.out _ HB2.out)
  have HF := Lib.hid (HLT.out w2 (HR.out.below HB2.out))
  go_wp2_with fail
  refine HF.out.mono ?_
  rintro e w3 ⟨rfl, hb3⟩
  have HB3 := Lib.hid (HB2.out.trans (hb3.mono HB2.out.size))
  clear hb3 HF x0 x1 x2 x3 x4 x5 x6 hfe
  cases hlit : littleB y
  · have HAW := Lib.hid (awake_any w3 (HGG.out.below HB3.out))
    go_wp2_with fail
    refine HAW.out.mono ?_
    rintro e wz ⟨rfl, hbz⟩
    have HBZ := Lib.hid (HB3.out.trans (hbz.mono HB3.out.size))
    clear hbz HAW
    go_wp2
    go_ret
    exact ⟨rfl, FN.out _ HBZ.out⟩
  have HLI := Lib.hid (little_of hlit)
  clear hlit
  go_wp2_with fail
  have CS : Hid (∀ w', Below W.heap.size W w' → w'.cell? ⟨w.heap.size, 0, none⟩ = some (.int .i64 y.l0) ∧ w'.cell? ⟨w.heap.size, 1, none⟩ = some (.int .i64 y.l1) ∧ w'.cell? ⟨w.heap.size, 2, none⟩ = some (.int .i64 y.l2) ∧ w'.cell? ⟨w.heap.size, 3, none⟩ = some (.int .i64 y.h0) ∧ w'.cell? ⟨w.heap.size, 4, none⟩ = some (.int .i64 y.h1) ∧ w'.cell? ⟨w.heap.size, 5, none⟩ = some (.int .i64 y.h2) ∧ w'.cell? ⟨w.heap.size, 6, none⟩ = some (.slice A y.rows.length cp) ∧ w'.cell? ⟨w.heap.size + 1, 0, none⟩ = some (.int .i64 s) ∧ w'.cell? ⟨w.heap.size + 1, 1, none⟩ = some (.slice K m kc) ∧ w'.cell? ⟨w.heap.size + 1, 2, none⟩ = some (.slice B k d) ∧ Below W.heap.size W w') := Lib.hid (fun w' hb => by
    obtain ⟨a0, a1, a2, a3, a4, a5, a6⟩ := cell7 (CA.out _ hb)
    obtain ⟨b0, b1, b2⟩ := cell3 (CB.out _ hb)
    exact ⟨a0, a1, a2, a3, a4, a5, a6, b0, b1, b2, hb⟩)
  have HWA := Lib.hid (own_any _ a (Nat.le_refl _) HFA.out)
  have hb3 := HB3.out
  cases hv : validB a
  · have HCK := Lib.hid (check_any y a HLI.out HFA.out)
    rw [show checkP y a = ([], 1) by unfold checkP; rw [hv]; rfl] at HCK
    unfold sysV at HCK
    go_region_held3 (fun w' => w'.cell? ⟨w.heap.size, 0, none⟩ = some (.int .i64 y.l0) ∧ w'.cell? ⟨w.heap.size, 1, none⟩ = some (.int .i64 y.l1) ∧ w'.cell? ⟨w.heap.size, 2, none⟩ = some (.int .i64 y.l2) ∧ w'.cell? ⟨w.heap.size, 3, none⟩ = some (.int .i64 y.h0) ∧ w'.cell? ⟨w.heap.size, 4, none⟩ = some (.int .i64 y.h1) ∧ w'.cell? ⟨w.heap.size, 5, none⟩ = some (.int .i64 y.h2) ∧ w'.cell? ⟨w.heap.size, 6, none⟩ = some (.slice A y.rows.length cp) ∧ w'.cell? ⟨w.heap.size + 1, 0, none⟩ = some (.int .i64 s) ∧ w'.cell? ⟨w.heap.size + 1, 1, none⟩ = some (.slice K m kc) ∧ w'.cell? ⟨w.heap.size + 1, 2, none⟩ = some (.slice B k d) ∧ Below W.heap.size W w')
      (first | assumption | exact CS.out _ (below_drew (by assumption)) | exact CS.out _ (by assumption))
      (first
       | (go_at_call 15; obtain ⟨_, _, _, _, _, _, _, _, _, _, hbx⟩ := ‹_ ∧ _ ∧ _ ∧ _ ∧ _ ∧ _ ∧ _ ∧ _ ∧ _ ∧ _ ∧ Below _ _ _›; refine (HWA.out _ _ _ (HA.out.below hbx)).mono ?_; rintro e w4 ⟨s1, A1, n1, c1, B1, m1, d1, rfl, ht1, hb40⟩; have hb4 : Below W.heap.size W w4 := hbx.trans (hb40.mono hbx.size))
       | (go_at_call 14; refine (HCK.out _ _ _ _ _ _ _ _ _ _ _ ht1 (HR.out.below hb4)).mono ?_; rintro e w5 ⟨PB, pd, rfl, hp, hb50⟩; have hb5 : Below W.heap.size W w5 := hb4.trans (hb50.mono hb4.size)))
    have HP := Lib.hid hp
    have HB5 := Lib.hid hb5
    clear hp hb5 ht1 hb40 hb4 hbx hb50
    clear hb3
    obtain ⟨x0, x1, x2⟩ := cell3 (CB.out _ HB5.out)
    have HV := Lib.hid (rvalid_any a HFA.out _ s K B m kc k d w5 (HA.out.below HB5.out))
    rw [hv] at HV
    go_wp2_with fail
    refine HV.out.mono ?_
    rintro e w6 ⟨rfl, hb6⟩
    have HB6 := Lib.hid (HB5.out.trans (hb6.mono HB5.out.size))
    have HP6 := Lib.hid (HP.out.below hb6)
    clear hb6 HV x0 x1 x2 HP
    go_wp2
    go_ret
    exact ⟨rfl, FN.out _ HB6.out⟩
  have HWR := Lib.hid (rwrong_any _ a (Nat.le_refl _) HFA.out (valid_allB hv) y)
  unfold sysV at HWR
  cases hw : wrong a y
  · have HCK := Lib.hid (check_any y a HLI.out HFA.out)
    rw [show checkP y a = ([], 0) by unfold checkP; rw [hv, hw]; rfl] at HCK
    unfold sysV at HCK
    go_region_held3 (fun w' => w'.cell? ⟨w.heap.size, 0, none⟩ = some (.int .i64 y.l0) ∧ w'.cell? ⟨w.heap.size, 1, none⟩ = some (.int .i64 y.l1) ∧ w'.cell? ⟨w.heap.size, 2, none⟩ = some (.int .i64 y.l2) ∧ w'.cell? ⟨w.heap.size, 3, none⟩ = some (.int .i64 y.h0) ∧ w'.cell? ⟨w.heap.size, 4, none⟩ = some (.int .i64 y.h1) ∧ w'.cell? ⟨w.heap.size, 5, none⟩ = some (.int .i64 y.h2) ∧ w'.cell? ⟨w.heap.size, 6, none⟩ = some (.slice A y.rows.length cp) ∧ w'.cell? ⟨w.heap.size + 1, 0, none⟩ = some (.int .i64 s) ∧ w'.cell? ⟨w.heap.size + 1, 1, none⟩ = some (.slice K m kc) ∧ w'.cell? ⟨w.heap.size + 1, 2, none⟩ = some (.slice B k d) ∧ Below W.heap.size W w')
      (first | assumption | exact CS.out _ (below_drew (by assumption)) | exact CS.out _ (by assumption))
      (first
       | (go_at_call 15; obtain ⟨_, _, _, _, _, _, _, _, _, _, hbx⟩ := ‹_ ∧ _ ∧ _ ∧ _ ∧ _ ∧ _ ∧ _ ∧ _ ∧ _ ∧ _ ∧ Below _ _ _›; refine (HWA.out _ _ _ (HA.out.below hbx)).mono ?_; rintro e w4 ⟨s1, A1, n1, c1, B1, m1, d1, rfl, ht1, hb40⟩; have hb4 : Below W.heap.size W w4 := hbx.trans (hb40.mono hbx.size))
       | (go_at_call 14; refine (HCK.out _ _ _ _ _ _ _ _ _ _ _ ht1 (HR.out.below hb4)).mono ?_; rintro e w5 ⟨PB, pd, rfl, hp, hb50⟩; have hb5 : Below W.heap.size W w5 := hb4.trans (hb50.mono hb4.size)))
    have HP := Lib.hid hp
    have HB5 := Lib.hid hb5
    clear hp hb5 ht1 hb40 hb4 hbx hb50
    clear hb3
    obtain ⟨x0, x1, x2⟩ := cell3 (CB.out _ HB5.out)
    have HV := Lib.hid (rvalid_any a HFA.out _ s K B m kc k d w5 (HA.out.below HB5.out))
    rw [hv] at HV
    go_wp2_with fail
    refine HV.out.mono ?_
    rintro e w6 ⟨rfl, hb6⟩
    have HB6 := Lib.hid (HB5.out.trans (hb6.mono HB5.out.size))
    have HP6 := Lib.hid (HP.out.below hb6)
    clear hb6 HV x0 x1 x2 HP
    obtain ⟨x0, x1, x2⟩ := cell3 (CB.out _ HB6.out)
    obtain ⟨y0, y1, y2, y3, y4, y5, y6⟩ := cell7 (CA.out _ HB6.out)
    rw [hw] at HWR
    go_wp2_with fail
    refine (HWR.out _ _ _ _ _ HLI.out (HA.out.below HB6.out) (HR.out.below HB6.out)).mono ?_
    rintro e w7 ⟨hb7, rfl⟩
    have HB7 := Lib.hid (HB6.out.trans (hb7.mono HB6.out.size))
    clear hb7 x0 x1 x2 y0 y1 y2 y3 y4 y5 y6
    have HEQ := Lib.hid (requal_any [] [] PB none pd 0 w7 (Row.nil _ _) (Row.nil _ _) (by decide))
    rw [decide_eq_true rfl] at HEQ
    go_wp2_with fail
    refine HEQ.out.mono ?_
    rintro e w8 ⟨rfl, hb8⟩
    have HB8 := Lib.hid (HB7.out.trans (hb8.mono HB7.out.size))
    clear hb8
    go_wp2
    go_ret
    exact ⟨rfl, FN.out _ HB8.out⟩
  · rename_i p
    have HCK := Lib.hid (check_any y a HLI.out HFA.out)
    rw [show checkP y a = (p, 21) by unfold checkP; rw [hv, hw]; rfl] at HCK
    unfold sysV at HCK
    go_region_held3 (fun w' => w'.cell? ⟨w.heap.size, 0, none⟩ = some (.int .i64 y.l0) ∧ w'.cell? ⟨w.heap.size, 1, none⟩ = some (.int .i64 y.l1) ∧ w'.cell? ⟨w.heap.size, 2, none⟩ = some (.int .i64 y.l2) ∧ w'.cell? ⟨w.heap.size, 3, none⟩ = some (.int .i64 y.h0) ∧ w'.cell? ⟨w.heap.size, 4, none⟩ = some (.int .i64 y.h1) ∧ w'.cell? ⟨w.heap.size, 5, none⟩ = some (.int .i64 y.h2) ∧ w'.cell? ⟨w.heap.size, 6, none⟩ = some (.slice A y.rows.length cp) ∧ w'.cell? ⟨w.heap.size + 1, 0, none⟩ = some (.int .i64 s) ∧ w'.cell? ⟨w.heap.size + 1, 1, none⟩ = some (.slice K m kc) ∧ w'.cell? ⟨w.heap.size + 1, 2, none⟩ = some (.slice B k d) ∧ Below W.heap.size W w')
      (first | assumption | exact CS.out _ (below_drew (by assumption)) | exact CS.out _ (by assumption))
      (first
       | (go_at_call 15; obtain ⟨_, _, _, _, _, _, _, _, _, _, hbx⟩ := ‹_ ∧ _ ∧ _ ∧ _ ∧ _ ∧ _ ∧ _ ∧ _ ∧ _ ∧ _ ∧ Below _ _ _›; refine (HWA.out _ _ _ (HA.out.below hbx)).mono ?_; rintro e w4 ⟨s1, A1, n1, c1, B1, m1, d1, rfl, ht1, hb40⟩; have hb4 : Below W.heap.size W w4 := hbx.trans (hb40.mono hbx.size))
       | (go_at_call 14; refine (HCK.out _ _ _ _ _ _ _ _ _ _ _ ht1 (HR.out.below hb4)).mono ?_; rintro e w5 ⟨PB, pd, rfl, hp, hb50⟩; have hb5 : Below W.heap.size W w5 := hb4.trans (hb50.mono hb4.size)))
    have HP := Lib.hid hp
    have HB5 := Lib.hid hb5
    clear hp hb5 ht1 hb40 hb4 hbx hb50
    clear hb3
    obtain ⟨x0, x1, x2⟩ := cell3 (CB.out _ HB5.out)
    have HV := Lib.hid (rvalid_any a HFA.out _ s K B m kc k d w5 (HA.out.below HB5.out))
    rw [hv] at HV
    go_wp2_with fail
    refine HV.out.mono ?_
    rintro e w6 ⟨rfl, hb6⟩
    have HB6 := Lib.hid (HB5.out.trans (hb6.mono HB5.out.size))
    have HP6 := Lib.hid (HP.out.below hb6)
    clear hb6 HV x0 x1 x2 HP
    obtain ⟨x0, x1, x2⟩ := cell3 (CB.out _ HB6.out)
    obtain ⟨y0, y1, y2, y3, y4, y5, y6⟩ := cell7 (CA.out _ HB6.out)
    rw [hw] at HWR
    go_wp2_with fail
    refine (HWR.out _ _ _ _ _ HLI.out (HA.out.below HB6.out) (HR.out.below HB6.out)).mono ?_
    rintro e w7 ⟨hb7, WB, wd, rfl, hw7⟩
    have HB7 := Lib.hid (HB6.out.trans (hb7.mono HB6.out.size))
    have HEQ := Lib.hid (requal_any (ints p) (ints p) PB WB pd wd w7 (HP6.out.below hb7) hw7 (by rw [ints_length]; have := wrong_len _ a (Nat.le_refl _) y p HLI.out hw; have := side_le HLI.out.box; omega))
    rw [decide_eq_true rfl, ints_length] at HEQ
    clear hb7 hw7 x0 x1 x2 y0 y1 y2 y3 y4 y5 y6
    go_wp2_with fail
    refine HEQ.out.mono ?_
    rintro e w8 ⟨rfl, hb8⟩
    have HB8 := Lib.hid (HB7.out.trans (hb8.mono HB7.out.size))
    clear hb8
    go_wp2
    go_ret
    exact ⟨rfl, FN.out _ HB8.out⟩
end Go.Proofs.YtjjohllfidmkjaaDoor.PfW
