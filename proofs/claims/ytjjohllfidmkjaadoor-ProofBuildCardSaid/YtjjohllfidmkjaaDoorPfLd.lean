/- Law walk: ProofSound. -/
import Derived.Test.YtjjohllfidmkjaaDoorPfLk
import Derived.Test.YtjjohllfidmkjaaDoorPfFf
import Derived.Test.YtjjohllfidmkjaaDoorPfC3
namespace Go.Proofs.YtjjohllfidmkjaaDoor.PfW
open Go Go.RowKit Go.Proofs.YtjjohllfidmkjaaDoor.Mem Go.Proofs.YtjjohllfidmkjaaDoor.Pf
theorem anyZ_pt {s : Syst} {x y : Int} : ∀ (n : Nat) (z : Int), anyZ s x y n z = true → ∃ z', z ≤ z' ∧ z' < z + n ∧ s.rows.all (okB x y z') = true
  | 0, z, h => by unfold anyZ at h; cases h
  | n + 1, z, h => by
    unfold anyZ at h
    rcases Bool.or_eq_true_iff.1 h with h | h
    · exact ⟨z, by omega, by omega, h⟩
    · obtain ⟨z', h1, h2, h3⟩ := anyZ_pt n (z + 1) h
      exact ⟨z', by omega, by omega, h3⟩
theorem anyY_pt {s : Syst} {x : Int} : ∀ (n : Nat) (y : Int), anyY s x n y = true → ∃ y' z', (y ≤ y' ∧ y' < y + n) ∧ (s.l2 ≤ z' ∧ z' ≤ s.h2) ∧ s.rows.all (okB x y' z') = true
  | 0, z, h => by unfold anyY at h; cases h
  | n + 1, z, h => by
    unfold anyY at h
    rcases Bool.or_eq_true_iff.1 h with h | h
    · obtain ⟨z', h1, h2, h3⟩ := anyZ_pt _ _ h
      exact ⟨z, z', ⟨by omega, by omega⟩, ⟨h1, by omega⟩, h3⟩
    · obtain ⟨y', z', h1, h2, h3⟩ := anyY_pt n (z + 1) h
      exact ⟨y', z', ⟨by omega, by omega⟩, h2, h3⟩
theorem anyX_pt {s : Syst} : ∀ (n : Nat) (x : Int), anyX s n x = true → ∃ x' y' z', (x ≤ x' ∧ x' < x + n) ∧ (s.l1 ≤ y' ∧ y' ≤ s.h1) ∧ (s.l2 ≤ z' ∧ z' ≤ s.h2) ∧ s.rows.all (okB x' y' z') = true
  | 0, z, h => by unfold anyX at h; cases h
  | n + 1, z, h => by
    unfold anyX at h
    rcases Bool.or_eq_true_iff.1 h with h | h
    · obtain ⟨y', z', h1, h2, h3⟩ := anyY_pt _ _ h
      exact ⟨z, y', z', ⟨by omega, by omega⟩, ⟨h1.1, by omega⟩, h2, h3⟩
    · obtain ⟨x', y', z', h1, h2, h3⟩ := anyX_pt n (z + 1) h
      exact ⟨x', y', z', ⟨by omega, by omega⟩, h2, h3⟩
theorem fulf_no {s : Syst} {t : T} (hw : wrong t s = none) : fulfB s = false := by
  cases h : fulfB s
  · rfl
  · obtain ⟨x, y, z, h1, h2, h3, h4⟩ := anyX_pt _ _ h
    refine (sound _ t (Nat.le_refl _) s hw x y z ⟨⟨h1.1, by omega⟩, h2, h3⟩ fun r hr => ?_).elim
    have h5 := List.all_eq_true.1 h4 r hr
    unfold okB at h5
    have h6 := of_decide_eq_true h5
    exact h6
set_option maxRecDepth 100000 in
set_option maxHeartbeats 4000000 in
theorem proofSound_walk (y : Syst) (a : T) (A : Option Addr) (cp : Nat) (s : Int) (K : Option Addr) (m kc : Nat) (B : Option Addr) (k d : Nat) (w : World)
    (hrow : Row w A (y.rows.flatMap r4Cells)) (hlen : y.rows.length ≤ 4398046510976) (ha : TreeIn (fun _ => True) w a [.int .i64 s, .slice K m kc, .slice B k d]) (hfa : Fit a) (hG : Glob w) :
    Calls Tryd.prog 4 #[sysV y A cp, .agg #[.int .i64 s, .slice K m kc, .slice B k d]] w fun e w' => e = .returned (.bool true) ∧ Below w.heap.size w w' := by
  have HO := Lib.hid (two_boxes w (.cells #[.int .i64 y.l0, .int .i64 y.l1, .int .i64 y.l2, .int .i64 y.h0, .int .i64 y.h1, .int .i64 y.h2, .slice A y.rows.length cp] 25) (.cells #[.int .i64 s, .slice K m kc, .slice B k d] 29))
  have HA := Lib.hid (ha.below HO.out.1)
  have HR := Lib.hid (hrow.below HO.out.1)
  have HFA := Lib.hid hfa
  have HGG := Lib.hid (hG.below HO.out.1)
  have HBW := Lib.hid HO.out.1
  have HXA := Lib.hid HO.out.2.1
  have HXB := Lib.hid HO.out.2.2
  have HLT := Lib.hid (fun w => little_any y A cp w hlen)
  clear ha hrow hfa hG HO
  unfold sysV at HLT ⊢
  go_enter Tryd.func4, Tryd.ntmps4
  go_wp2_with fail
  generalize (w.alloc (.cells #[.int .i64 y.l0, .int .i64 y.l1, .int .i64 y.l2, .int .i64 y.h0, .int .i64 y.h1, .int .i64 y.h2, .slice A y.rows.length cp] 25)).alloc (.cells #[.int .i64 s, .slice K m kc, .slice B k d] 29) = W at *
  have HAW := Lib.hid (awake_any W HGG.out)
  refine HAW.out.mono ?_
  rintro e w1 ⟨rfl, hb1⟩
  have HB1 := Lib.hid hb1
  clear hb1 HAW
  have cellA : ∀ (w' : World), Below W.heap.size W w' → w'.heap[w.heap.size]? = some (.cells #[.int .i64 y.l0, .int .i64 y.l1, .int .i64 y.l2, .int .i64 y.h0, .int .i64 y.h1, .int .i64 y.h2, .slice A y.rows.length cp] 25) := fun _ hb => (hb.block _ (lt_of_block HXA.out)).trans HXA.out
  have cellB : ∀ (w' : World), Below W.heap.size W w' → w'.heap[w.heap.size + 1]? = some (.cells #[.int .i64 s, .slice K m kc, .slice B k d] 29) := fun _ hb => (hb.block _ (lt_of_block HXB.out)).trans HXB.out
  have FIN : ∀ (w' : World), Below W.heap.size W w' → Below w.heap.size w w' := fun _ hb => HBW.out.trans (hb.mono HBW.out.size)
  have CA := Lib.hid cellA
  have CB := Lib.hid cellB
  have FN := Lib.hid FIN
  clear cellA cellB FIN
  obtain ⟨x0, x1, x2⟩ := cell3 (CB.out _ HB1.out)
  have HF := Lib.hid (few_any a HFA.out _ s K B m kc k d w1 (HA.out.below HB1.out))
  go_wp2_with fail
  refine HF.out.mono ?_
  rintro e w2 ⟨rfl, hb2⟩
  have HB2 := Lib.hid (HB1.out.trans (hb2.mono HB1.out.size))
  clear hb2 HF x0 x1 x2
  cases hfe : fewB a
  · have HAW := Lib.hid (awake_any w2 (HGG.out.below HB2.out))
    go_wp2_with fail
    refine HAW.out.mono ?_
    rintro e wz ⟨rfl, hbz⟩
    have HBZ := Lib.hid (HB2.out.trans (hbz.mono HB2.out.size))
    clear hbz HAW
    go_wp2
    go_ret
    exact ⟨rfl, FN.out _ HBZ.out⟩
  obtain ⟨x0, x1, x2, x3, x4, x5, x6⟩ := cell7 (CA.out _ HB2.out)
  have HF := Lib.hid (HLT.out w2 (HR.out.below HB2.out))
  go_wp2_with fail
  refine HF.out.mono ?_
  rintro e w3 ⟨rfl, hb3⟩
  have HB3 := Lib.hid (HB2.out.trans (hb3.mono HB2.out.size))
  clear hb3 HF x0 x1 x2 x3 x4 x5 x6 hfe
  cases hlit : littleB y
  · have HAW := Lib.hid (awake_any w3 (HGG.out.below HB3.out))
    go_wp2_with fail
    refine HAW.out.mono ?_
    rintro e wz ⟨rfl, hbz⟩
    have HBZ := Lib.hid (HB3.out.trans (hbz.mono HB3.out.size))
    clear hbz HAW
    go_wp2
    go_ret
    exact ⟨rfl, FN.out _ HBZ.out⟩
  have HLI := Lib.hid (little_of hlit)
  clear hlit
  go_wp2_with fail
  have CS : Hid (∀ w', Below W.heap.size W w' → w'.cell? ⟨w.heap.size, 0, none⟩ = some (.int .i64 y.l0) ∧ w'.cell? ⟨w.heap.size, 1, none⟩ = some (.int .i64 y.l1) ∧ w'.cell? ⟨w.heap.size, 2, none⟩ = some (.int .i64 y.l2) ∧ w'.cell? ⟨w.heap.size, 3, none⟩ = some (.int .i64 y.h0) ∧ w'.cell? ⟨w.heap.size, 4, none⟩ = some (.int .i64 y.h1) ∧ w'.cell? ⟨w.heap.size, 5, none⟩ = some (.int .i64 y.h2) ∧ w'.cell? ⟨w.heap.size, 6, none⟩ = some (.slice A y.rows.length cp) ∧ w'.cell? ⟨w.heap.size + 1, 0, none⟩ = some (.int .i64 s) ∧ w'.cell? ⟨w.heap.size + 1, 1, none⟩ = some (.slice K m kc) ∧ w'.cell? ⟨w.heap.size + 1, 2, none⟩ = some (.slice B k d) ∧ Below W.heap.size W w') := Lib.hid (fun w' hb => by
    obtain ⟨a0, a1, a2, a3, a4, a5, a6⟩ := cell7 (CA.out _ hb)
    obtain ⟨b0, b1, b2⟩ := cell3 (CB.out _ hb)
    exact ⟨a0, a1, a2, a3, a4, a5, a6, b0, b1, b2, hb⟩)
  have HWA := Lib.hid (own_any _ a (Nat.le_refl _) HFA.out)
  have hb3 := HB3.out
  cases hv : validB a
  · have HCK := Lib.hid (check_any y a HLI.out HFA.out)
    rw [show checkP y a = ([], 1) by unfold checkP; rw [hv]; rfl] at HCK
    unfold sysV at HCK
    go_region_held3 (fun w' => w'.cell? ⟨w.heap.size, 0, none⟩ = some (.int .i64 y.l0) ∧ w'.cell? ⟨w.heap.size, 1, none⟩ = some (.int .i64 y.l1) ∧ w'.cell? ⟨w.heap.size, 2, none⟩ = some (.int .i64 y.l2) ∧ w'.cell? ⟨w.heap.size, 3, none⟩ = some (.int .i64 y.h0) ∧ w'.cell? ⟨w.heap.size, 4, none⟩ = some (.int .i64 y.h1) ∧ w'.cell? ⟨w.heap.size, 5, none⟩ = some (.int .i64 y.h2) ∧ w'.cell? ⟨w.heap.size, 6, none⟩ = some (.slice A y.rows.length cp) ∧ w'.cell? ⟨w.heap.size + 1, 0, none⟩ = some (.int .i64 s) ∧ w'.cell? ⟨w.heap.size + 1, 1, none⟩ = some (.slice K m kc) ∧ w'.cell? ⟨w.heap.size + 1, 2, none⟩ = some (.slice B k d) ∧ Below W.heap.size W w')
      (first | assumption | exact CS.out _ (below_drew (by assumption)) | exact CS.out _ (by assumption))
      (first
       | (go_at_call 15; obtain ⟨_, _, _, _, _, _, _, _, _, _, hbx⟩ := ‹_ ∧ _ ∧ _ ∧ _ ∧ _ ∧ _ ∧ _ ∧ _ ∧ _ ∧ _ ∧ Below _ _ _›; refine (HWA.out _ _ _ (HA.out.below hbx)).mono ?_; rintro e w4 ⟨s1, A1, n1, c1, B1, m1, d1, rfl, ht1, hb40⟩; have hb4 : Below W.heap.size W w4 := hbx.trans (hb40.mono hbx.size))
       | (go_at_call 14; refine (HCK.out _ _ _ _ _ _ _ _ _ _ _ ht1 (HR.out.below hb4)).mono ?_; rintro e w5 ⟨PB, pd, rfl, hp, hb50⟩; have hb5 : Below W.heap.size W w5 := hb4.trans (hb50.mono hb4.size)))
    have HP := Lib.hid hp
    have HB5 := Lib.hid hb5
    clear hp hb5 ht1 hb40 hb4 hbx hb50
    clear hb3
    go_wp2
    go_ret
    exact ⟨rfl, FN.out _ HB5.out⟩
  cases hw : wrong a y
  · have HCK := Lib.hid (check_any y a HLI.out HFA.out)
    rw [show checkP y a = ([], 0) by unfold checkP; rw [hv, hw]; rfl] at HCK
    unfold sysV at HCK
    go_region_held3 (fun w' => w'.cell? ⟨w.heap.size, 0, none⟩ = some (.int .i64 y.l0) ∧ w'.cell? ⟨w.heap.size, 1, none⟩ = some (.int .i64 y.l1) ∧ w'.cell? ⟨w.heap.size, 2, none⟩ = some (.int .i64 y.l2) ∧ w'.cell? ⟨w.heap.size, 3, none⟩ = some (.int .i64 y.h0) ∧ w'.cell? ⟨w.heap.size, 4, none⟩ = some (.int .i64 y.h1) ∧ w'.cell? ⟨w.heap.size, 5, none⟩ = some (.int .i64 y.h2) ∧ w'.cell? ⟨w.heap.size, 6, none⟩ = some (.slice A y.rows.length cp) ∧ w'.cell? ⟨w.heap.size + 1, 0, none⟩ = some (.int .i64 s) ∧ w'.cell? ⟨w.heap.size + 1, 1, none⟩ = some (.slice K m kc) ∧ w'.cell? ⟨w.heap.size + 1, 2, none⟩ = some (.slice B k d) ∧ Below W.heap.size W w')
      (first | assumption | exact CS.out _ (below_drew (by assumption)) | exact CS.out _ (by assumption))
      (first
       | (go_at_call 15; obtain ⟨_, _, _, _, _, _, _, _, _, _, hbx⟩ := ‹_ ∧ _ ∧ _ ∧ _ ∧ _ ∧ _ ∧ _ ∧ _ ∧ _ ∧ _ ∧ Below _ _ _›; refine (HWA.out _ _ _ (HA.out.below hbx)).mono ?_; rintro e w4 ⟨s1, A1, n1, c1, B1, m1, d1, rfl, ht1, hb40⟩; have hb4 : Below W.heap.size W w4 := hbx.trans (hb40.mono hbx.size))
       | (go_at_call 14; refine (HCK.out _ _ _ _ _ _ _ _ _ _ _ ht1 (HR.out.below hb4)).mono ?_; rintro e w5 ⟨PB, pd, rfl, hp, hb50⟩; have hb5 : Below W.heap.size W w5 := hb4.trans (hb50.mono hb4.size)))
    have HP := Lib.hid hp
    have HB5 := Lib.hid hb5
    clear hp hb5 ht1 hb40 hb4 hbx hb50
    clear hb3
    obtain ⟨y0, y1, y2, y3, y4, y5, y6⟩ := cell7 (CA.out _ HB5.out)
    have HFU := Lib.hid (fulfilled_any y A cp w5 HLI.out (HR.out.below HB5.out))
    unfold sysV at HFU
    rw [fulf_no hw] at HFU
    go_wp2_with fail
    refine HFU.out.mono ?_
    rintro e w6 ⟨rfl, hb6⟩
    have HB6 := Lib.hid (HB5.out.trans (hb6.mono HB5.out.size))
    clear hb6
    go_wp2
    go_ret
    exact ⟨rfl, FN.out _ HB6.out⟩
  · rename_i p
    have HCK := Lib.hid (check_any y a HLI.out HFA.out)
    rw [show checkP y a = (p, 21) by unfold checkP; rw [hv, hw]; rfl] at HCK
    unfold sysV at HCK
    go_region_held3 (fun w' => w'.cell? ⟨w.heap.size, 0, none⟩ = some (.int .i64 y.l0) ∧ w'.cell? ⟨w.heap.size, 1, none⟩ = some (.int .i64 y.l1) ∧ w'.cell? ⟨w.heap.size, 2, none⟩ = some (.int .i64 y.l2) ∧ w'.cell? ⟨w.heap.size, 3, none⟩ = some (.int .i64 y.h0) ∧ w'.cell? ⟨w.heap.size, 4, none⟩ = some (.int .i64 y.h1) ∧ w'.cell? ⟨w.heap.size, 5, none⟩ = some (.int .i64 y.h2) ∧ w'.cell? ⟨w.heap.size, 6, none⟩ = some (.slice A y.rows.length cp) ∧ w'.cell? ⟨w.heap.size + 1, 0, none⟩ = some (.int .i64 s) ∧ w'.cell? ⟨w.heap.size + 1, 1, none⟩ = some (.slice K m kc) ∧ w'.cell? ⟨w.heap.size + 1, 2, none⟩ = some (.slice B k d) ∧ Below W.heap.size W w')
      (first | assumption | exact CS.out _ (below_drew (by assumption)) | exact CS.out _ (by assumption))
      (first
       | (go_at_call 15; obtain ⟨_, _, _, _, _, _, _, _, _, _, hbx⟩ := ‹_ ∧ _ ∧ _ ∧ _ ∧ _ ∧ _ ∧ _ ∧ _ ∧ _ ∧ _ ∧ Below _ _ _›; refine (HWA.out _ _ _ (HA.out.below hbx)).mono ?_; rintro e w4 ⟨s1, A1, n1, c1, B1, m1, d1, rfl, ht1, hb40⟩; have hb4 : Below W.heap.size W w4 := hbx.trans (hb40.mono hbx.size))
       | (go_at_call 14; refine (HCK.out _ _ _ _ _ _ _ _ _ _ _ ht1 (HR.out.below hb4)).mono ?_; rintro e w5 ⟨PB, pd, rfl, hp, hb50⟩; have hb5 : Below W.heap.size W w5 := hb4.trans (hb50.mono hb4.size)))
    have HP := Lib.hid hp
    have HB5 := Lib.hid hb5
    clear hp hb5 ht1 hb40 hb4 hbx hb50
    clear hb3
    go_wp2
    go_ret
    exact ⟨rfl, FN.out _ HB5.out⟩
end Go.Proofs.YtjjohllfidmkjaaDoor.PfW
