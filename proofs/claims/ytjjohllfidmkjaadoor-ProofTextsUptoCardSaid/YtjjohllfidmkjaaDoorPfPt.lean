/- Law walk: ProofTexts, at a tree of at most 10^8 nodes. -/
import Derived.Test.YtjjohllfidmkjaaDoorPfX9
import Derived.Test.YtjjohllfidmkjaaDoorPfX2
import Derived.Test.YtjjohllfidmkjaaDoorPfAw
import Derived.Test.YtjjohllfidmkjaaDoorPfQ2
import Derived.Test.YtjjohllfidmkjaaDoorPfQ3
import Derived.Test.YtjjohllfidmkjaaDoorPfM2
import Derived.Deep.QuietTactic
namespace Go.Proofs.YtjjohllfidmkjaaDoor.PfW
open Go Go.RowKit Go.Proofs.YtjjohllfidmkjaaDoor.Mem Go.Proofs.YtjjohllfidmkjaaDoor.Pf
theorem few_nodes {t : T} (hn : nodes t ≤ 100000000) (h : fewB t = true) : nodes t ≤ 300 := by
  unfold fewB at h
  have := of_decide_eq_true h
  rw [nW_eq t (by omega)] at this
  omega
theorem text_short {t : T} (h : allB t = true) (hn : nodes t ≤ 300) : (text t).length ≤ 1000000 := by
  have := text_len t h
  omega
set_option maxRecDepth 100000 in
set_option maxHeartbeats 8000000 in
theorem proofTexts_walk (a : T) (s : Int) (A : Option Addr) (m c : Nat) (B : Option Addr) (k d : Nat) (w : World)
    (ha : TreeIn (fun _ => True) w a [.int .i64 s, .slice A m c, .slice B k d]) (hfa : Fit a) (hn : nodes a ≤ 100000000) (hG : Glob w) :
    Calls Tryd.prog 6 #[.agg #[.int .i64 s, .slice A m c, .slice B k d]] w fun e w' => e = .returned (.bool true) ∧ Below w.heap.size w w' := by
  have HO := Lib.hid (one_box w (.cells #[.int .i64 s, .slice A m c, .slice B k d] 29))
  have HA := Lib.hid (ha.below HO.out.1)
  have HFA := Lib.hid hfa
  have HNN := Lib.hid hn
  have HGG := Lib.hid (hG.below HO.out.1)
  have HBW := Lib.hid HO.out.1
  have HXA := Lib.hid HO.out.2
  clear ha hfa hG HO hn
  go_enter Tryd.func6, Tryd.ntmps6
  go_wp2_with fail
  generalize w.alloc (.cells #[.int .i64 s, .slice A m c, .slice B k d] 29) = W at *
  have HAW := Lib.hid (awake_any W HGG.out)
  refine HAW.out.mono ?_
  rintro e w1 ⟨rfl, hb1⟩
  have HB1 := Lib.hid hb1
  clear hb1 HAW
  have CA : Hid (∀ (w' : World), Below W.heap.size W w' → w'.heap[w.heap.size]? = some (.cells #[.int .i64 s, .slice A m c, .slice B k d] 29)) := Lib.hid (fun _ hb => (hb.block _ (lt_of_block HXA.out)).trans HXA.out)
  have FN : Hid (∀ (w' : World), Below W.heap.size W w' → Below w.heap.size w w') := Lib.hid (fun _ hb => HBW.out.trans (hb.mono HBW.out.size))
  obtain ⟨x0, x1, x2⟩ := cell3 (CA.out _ HB1.out)
  have HF := Lib.hid (few_any a HFA.out _ s A B m c k d w1 (HA.out.below HB1.out))
  go_wp2_with fail
  refine HF.out.mono ?_
  rintro e w2 ⟨rfl, hb2⟩
  have HB2 := Lib.hid (HB1.out.trans (hb2.mono HB1.out.size))
  clear hb2 HF x0 x1 x2
  cases hfe : fewB a
  · have HAW := Lib.hid (awake_any w2 (HGG.out.below HB2.out))
    go_wp2_with fail
    refine HAW.out.mono ?_
    rintro e w3 ⟨rfl, hb3⟩
    have HB3 := Lib.hid (HB2.out.trans (hb3.mono HB2.out.size))
    clear hb3 HAW
    go_wp2
    go_ret
    exact ⟨rfl, FN.out _ HB3.out⟩
  have HNF := Lib.hid (few_nodes HNN.out hfe)
  clear hfe
  obtain ⟨x0, x1, x2⟩ := cell3 (CA.out _ HB2.out)
  have HWA := Lib.hid (own_any _ a (Nat.le_refl _) HFA.out _ _ w2 (HA.out.below HB2.out))
  go_wp2_with fail
  refine HWA.out.mono ?_
  rintro e w3 ⟨s1, A1, n1, c1, B1, m1, d1, rfl, ht1, hb3⟩
  have HB3 := Lib.hid (HB2.out.trans (hb3.mono HB2.out.size))
  have HT1 := Lib.hid ht1
  clear ht1 hb3 HWA x0 x1 x2
  have HO3 := Lib.hid (one_box w3 (.cells #[.int .i64 s1, .slice A1 n1 c1, .slice B1 m1 d1] 38))
  have HB4 := Lib.hid (HB3.out.trans (HO3.out.1.mono HB3.out.size))
  go_upto_region 4 with fail
  generalize w3.alloc (.cells #[.int .i64 s1, .slice A1 n1 c1, .slice B1 m1 d1] 38) = W4 at *
  have HT4 := Lib.hid (HT1.out.below HO3.out.1)
  have HX4 := Lib.hid HO3.out.2
  have HS4 : Hid (w3.heap.size < W4.heap.size) := Lib.hid (lt_of_block HO3.out.2)
  clear HT1 HO3
  have CS : Hid (∀ w', Below W4.heap.size W4 w' → w'.cell? ⟨w.heap.size, 0, none⟩ = some (.int .i64 s) ∧ w'.cell? ⟨w.heap.size, 1, none⟩ = some (.slice A m c) ∧ w'.cell? ⟨w.heap.size, 2, none⟩ = some (.slice B k d) ∧ w'.cell? ⟨w3.heap.size, 0, none⟩ = some (.int .i64 s1) ∧ w'.cell? ⟨w3.heap.size, 1, none⟩ = some (.slice A1 n1 c1) ∧ w'.cell? ⟨w3.heap.size, 2, none⟩ = some (.slice B1 m1 d1) ∧ Below W4.heap.size W4 w') := Lib.hid (fun w' hb => by
    obtain ⟨a0, a1, a2⟩ := cell3 (CA.out w' (HB4.out.trans (hb.mono HB4.out.size)))
    obtain ⟨b0, b1, b2⟩ := cell3 ((hb.block _ HS4.out).trans HX4.out)
    exact ⟨a0, a1, a2, b0, b1, b2, hb⟩)
  obtain ⟨_, _, _, b0, b1, b2, _⟩ := CS.out W4 (Below.refl _ _)
  have HP := Lib.hid (pprint_any a HFA.out (by have := HNF.out; omega) _ s1 A1 B1 n1 c1 m1 d1 W4 HT4.out (HGG.out.below HB4.out))
  go_wp2_with fail
  refine HP.out.mono ?_
  rintro e w5 ⟨rfl, hb5⟩
  have HB5 := Lib.hid hb5
  clear hb5 HP b0 b1 b2
  obtain ⟨b0, b1, b2, _, _, _, _⟩ := CS.out w5 HB5.out
  have HP := Lib.hid (rprint_any a HFA.out (by have := HNF.out; omega) _ s A B m c k d w5 (HA.out.below (HB4.out.trans (HB5.out.mono HB4.out.size))))
  go_wp2_with fail
  refine HP.out.mono ?_
  rintro e w6 ⟨rfl, hb6⟩
  have HB6 := Lib.hid (HB5.out.trans (hb6.mono HB5.out.size))
  clear hb6 HP b0 b1 b2
  have HPA := Lib.hid (fun W (hb : Below W4.heap.size W4 W) (hs : (prT a).length ≤ 1000000) => parse_any (prT a) W (HGG.out.below (HB4.out.trans (hb.mono HB4.out.size))) hs)
  have HTW : ∀ w', Below W4.heap.size W4 w' → TreeIn _ w' a _ := fun w' hb => HT4.out.below hb
  have HAW : ∀ w', Below W4.heap.size W4 w' → TreeIn _ w' a _ := fun w' hb => HA.out.below (HB4.out.trans (hb.mono HB4.out.size))
  have HV := Lib.hid (fun w' (hb : Below W4.heap.size W4 w') => valid_any a HFA.out _ s1 A1 B1 n1 c1 m1 d1 w' (HTW w' hb))
  have HRV := Lib.hid (fun w' (hb : Below W4.heap.size W4 w') => rvalid_any a HFA.out _ s A B m c k d w' (HAW w' hb))
  have HN := Lib.hid (fun w' (hb : Below W4.heap.size W4 w') => nodes_any _ (nodes a) a (Nat.le_refl _) HFA.out _ w' (HTW w' hb))
  have HRN := Lib.hid (fun w' (hb : Below W4.heap.size W4 w') => rnodes_any _ (nodes a) a (Nat.le_refl _) HFA.out _ w' (HAW w' hb))
  have HL := Lib.hid (fun w' (hb : Below W4.heap.size W4 w') => pleaves_le _ (nodes a) a (Nat.le_refl _) (by have := HNF.out; omega) _ w' (HTW w' hb))
  have HRL := Lib.hid (fun w' (hb : Below W4.heap.size W4 w') => rleaves_le _ (nodes a) a (Nat.le_refl _) (by have := HNF.out; omega) _ w' (HAW w' hb))
  have HD := Lib.hid (fun w' (hb : Below W4.heap.size W4 w') => depth_any _ (nodes a) a (Nat.le_refl _) HFA.out _ w' (HTW w' hb))
  have HRD := Lib.hid (fun w' (hb : Below W4.heap.size W4 w') => rdepth_any _ (nodes a) a (Nat.le_refl _) HFA.out _ w' (HAW w' hb))
  clear HTW HAW
  have hb6 := HB6.out
  cases hv : validB a
  · have e1 : prT a = [] := by unfold prT; rw [hv]; rfl
    have e2 : prE a = 1 := by unfold prE; rw [hv]; rfl
    have HPA2 := Lib.hid (fun W hb => HPA.out W hb (by rw [e1]; decide))
    rw [e1] at HPA2
    rw [show pParse [] = none by kernel_rfl] at HPA2
    rw [e1, e2]
    rw [hv] at HV HRV
    clear e1 e2 hv HPA
    go_wp2_with fail
    go_region_held3 (fun w' => w'.cell? ⟨w.heap.size, 0, none⟩ = some (.int .i64 s) ∧ w'.cell? ⟨w.heap.size, 1, none⟩ = some (.slice A m c) ∧ w'.cell? ⟨w.heap.size, 2, none⟩ = some (.slice B k d) ∧ w'.cell? ⟨w3.heap.size, 0, none⟩ = some (.int .i64 s1) ∧ w'.cell? ⟨w3.heap.size, 1, none⟩ = some (.slice A1 n1 c1) ∧ w'.cell? ⟨w3.heap.size, 2, none⟩ = some (.slice B1 m1 d1) ∧ Below W4.heap.size W4 w')
      (first | assumption | exact CS.out _ (below_drew (by assumption)) | exact CS.out _ (by assumption))
      (first
       | (go_at_call 24; obtain ⟨_, _, _, _, _, _, hbx⟩ := ‹_ ∧ _ ∧ _ ∧ _ ∧ _ ∧ _ ∧ Below _ _ _›; refine (HV.out _ hbx).mono ?_; rintro e w10 ⟨rfl, hb100⟩; have hb10 : Below W4.heap.size W4 w10 := hbx.trans (hb100.mono (Below.size hbx)))
       | (go_at_call 16; refine (HRV.out _ hb10).mono ?_; rintro e w11 ⟨rfl, hb110⟩; have hb11 : Below W4.heap.size W4 w11 := hb10.trans (hb110.mono (Below.size hb10)))
       | (go_at_call 25; refine (HN.out _ hb11).mono ?_; rintro e w12 ⟨rfl, hb120⟩; have hb12 : Below W4.heap.size W4 w12 := hb11.trans (hb120.mono (Below.size hb11)))
       | (go_at_call 26; refine (HRN.out _ hb12).mono ?_; rintro e w13 ⟨rfl, hb130⟩; have hb13 : Below W4.heap.size W4 w13 := hb12.trans (hb130.mono (Below.size hb12)))
       | (go_at_call 27; refine (HL.out _ hb13).mono ?_; rintro e w14 ⟨rfl, hb140⟩; have hb14 : Below W4.heap.size W4 w14 := hb13.trans (hb140.mono (Below.size hb13)))
       | (go_at_call 28; refine (HRL.out _ hb14).mono ?_; rintro e w15 ⟨rfl, hb150⟩; have hb15 : Below W4.heap.size W4 w15 := hb14.trans (hb150.mono (Below.size hb14)))
       | (go_at_call 29; refine (HD.out _ hb15).mono ?_; rintro e w16 ⟨rfl, hb160⟩; have hb16 : Below W4.heap.size W4 w16 := hb15.trans (hb160.mono (Below.size hb15)))
       | (go_at_call 30; refine (HRD.out _ hb16).mono ?_; rintro e w17 ⟨rfl, hb170⟩; have hb17 : Below W4.heap.size W4 w17 := hb16.trans (hb170.mono (Below.size hb16))))
    have HB17 := Lib.hid hb17
    clear hb17 hb100 hb110 hb120 hb130 hb140 hb150 hb160 hb170 hb10 hb11 hb12 hb13 hb14 hb15 hb16 hbx hb6
    go_wp2_with fail
    refine (HPA2.out _ HB17.out).mono ?_
    rintro e w18 ⟨hb18, rfl⟩
    have HB18 := Lib.hid (HB17.out.trans (hb18.mono (Below.size HB17.out)))
    clear hb18
    have hb19 := HB18.out.alloc (Below.size HB18.out) (.cells #[.int .i64 0, .slice none 0 0, .slice none 0 0] 38)
    go_upto_region 9 with fail
    have HB19 := Lib.hid hb19
    clear hb19
    generalize w18.alloc (.cells #[.int .i64 0, .slice none 0 0, .slice none 0 0] 38) = W19 at *
    go_quiet (fail)
    go_wp2
    go_ret
    exact ⟨rfl, FN.out _ (HB4.out.trans (Below.mono (by first | exact HB19.out | exact Go.Proofs.YtjjohllfidmkjaaDoor.Mem.below_drewN HB19.out _ | exact below_drew HB19.out) HB4.out.size))⟩
  · have hall := valid_all hv
    have e1 : prT a = text a := by unfold prT; rw [hv]; rfl
    have e2 : prE a = 0 := by unfold prE; rw [hv]; rfl
    have e3 : pParse (text a) = some a := parse_text (by have := HNF.out; omega) hv
    have HPA2 := Lib.hid (fun W hb => HPA.out W hb (by rw [e1]; exact text_short hall HNF.out))
    rw [e1, e3] at HPA2
    rw [e1, e2]
    rw [hv] at HV HRV
    clear e1 e2 e3 hv HPA hall
    generalize (ByteArray.mk (text a).toArray) = TX at *
    go_wp2_with fail
    go_region_held3 (fun w' => w'.cell? ⟨w.heap.size, 0, none⟩ = some (.int .i64 s) ∧ w'.cell? ⟨w.heap.size, 1, none⟩ = some (.slice A m c) ∧ w'.cell? ⟨w.heap.size, 2, none⟩ = some (.slice B k d) ∧ w'.cell? ⟨w3.heap.size, 0, none⟩ = some (.int .i64 s1) ∧ w'.cell? ⟨w3.heap.size, 1, none⟩ = some (.slice A1 n1 c1) ∧ w'.cell? ⟨w3.heap.size, 2, none⟩ = some (.slice B1 m1 d1) ∧ Below W4.heap.size W4 w')
      (first | assumption | exact CS.out _ (below_drew (by assumption)) | exact CS.out _ (by assumption))
      (first
       | (go_at_call 24; obtain ⟨_, _, _, _, _, _, hbx⟩ := ‹_ ∧ _ ∧ _ ∧ _ ∧ _ ∧ _ ∧ Below _ _ _›; refine (HV.out _ hbx).mono ?_; rintro e w10 ⟨rfl, hb100⟩; have hb10 : Below W4.heap.size W4 w10 := hbx.trans (hb100.mono (Below.size hbx)))
       | (go_at_call 16; refine (HRV.out _ hb10).mono ?_; rintro e w11 ⟨rfl, hb110⟩; have hb11 : Below W4.heap.size W4 w11 := hb10.trans (hb110.mono (Below.size hb10)))
       | (go_at_call 25; refine (HN.out _ hb11).mono ?_; rintro e w12 ⟨rfl, hb120⟩; have hb12 : Below W4.heap.size W4 w12 := hb11.trans (hb120.mono (Below.size hb11)))
       | (go_at_call 26; refine (HRN.out _ hb12).mono ?_; rintro e w13 ⟨rfl, hb130⟩; have hb13 : Below W4.heap.size W4 w13 := hb12.trans (hb130.mono (Below.size hb12)))
       | (go_at_call 27; refine (HL.out _ hb13).mono ?_; rintro e w14 ⟨rfl, hb140⟩; have hb14 : Below W4.heap.size W4 w14 := hb13.trans (hb140.mono (Below.size hb13)))
       | (go_at_call 28; refine (HRL.out _ hb14).mono ?_; rintro e w15 ⟨rfl, hb150⟩; have hb15 : Below W4.heap.size W4 w15 := hb14.trans (hb150.mono (Below.size hb14)))
       | (go_at_call 29; refine (HD.out _ hb15).mono ?_; rintro e w16 ⟨rfl, hb160⟩; have hb16 : Below W4.heap.size W4 w16 := hb15.trans (hb160.mono (Below.size hb15)))
       | (go_at_call 30; refine (HRD.out _ hb16).mono ?_; rintro e w17 ⟨rfl, hb170⟩; have hb17 : Below W4.heap.size W4 w17 := hb16.trans (hb170.mono (Below.size hb16))))
    have HB17 := Lib.hid hb17
    clear hb17 hb100 hb110 hb120 hb130 hb140 hb150 hb160 hb170 hb10 hb11 hb12 hb13 hb14 hb15 hb16 hbx hb6
    clear HV HRV HN HRN HL HRL HD HRD
    go_wp2_with fail
    refine (HPA2.out _ HB17.out).mono ?_
    rintro e w18 ⟨hb18, s2, A2, n2, c2, B2, m2, d2, rfl, ht2⟩
    have HB18 := Lib.hid (HB17.out.trans (hb18.mono (Below.size HB17.out)))
    clear hb18
    have HO5 := Lib.hid (one_box w18 (.cells #[.int .i64 s2, .slice A2 n2 c2, .slice B2 m2 d2] 38))
    have HT5 := Lib.hid (ht2.below HO5.out.1)
    clear ht2
    have HWT := Lib.hid (theirs_any _ a (Nat.le_refl _) HFA.out)
    have HSA : Hid (∀ (S S' : Nat → Prop) (vs us : List Value) (w : World), TreeIn S w a vs → TreeIn S' w a us → Calls Tryd.prog 21 #[.agg vs.toArray, .agg us.toArray] w fun e w' => e = .returned (.bool true) ∧ Below w.heap.size w w') := Lib.hid (by rw [← sameB_self a]; exact rsame_any _ a a (Nat.le_refl _) HFA.out HFA.out)
    go_upto_region 9 with fail
    generalize w18.alloc (.cells #[.int .i64 s2, .slice A2 n2 c2, .slice B2 m2 d2] 38) = W5 at *
    have HB5' : Hid (Below W4.heap.size W4 W5) := Lib.hid (HB18.out.trans (HO5.out.1.mono (Below.size HB18.out)))
    have CS5 : Hid (∀ w', Below W5.heap.size W5 w' → w'.cell? ⟨w.heap.size, 0, none⟩ = some (.int .i64 s) ∧ w'.cell? ⟨w.heap.size, 1, none⟩ = some (.slice A m c) ∧ w'.cell? ⟨w.heap.size, 2, none⟩ = some (.slice B k d) ∧ w'.cell? ⟨w18.heap.size, 0, none⟩ = some (.int .i64 s2) ∧ w'.cell? ⟨w18.heap.size, 1, none⟩ = some (.slice A2 n2 c2) ∧ w'.cell? ⟨w18.heap.size, 2, none⟩ = some (.slice B2 m2 d2) ∧ Below W5.heap.size W5 w') := Lib.hid (fun w' hb => by
      obtain ⟨a0, a1, a2, _, _, _, _⟩ := CS.out w' (HB5'.out.trans (hb.mono (Below.size HB5'.out)))
      obtain ⟨b0, b1, b2⟩ := cell3 ((hb.block _ (lt_of_block HO5.out.2)).trans HO5.out.2)
      exact ⟨a0, a1, a2, b0, b1, b2, hb⟩)
    clear CS
    obtain ⟨q0, q1, q2, q3, q4, q5, q6⟩ := CS5.out W5 (Below.refl _ _)
    go_region_held3 (fun w' => w'.cell? ⟨w.heap.size, 0, none⟩ = some (.int .i64 s) ∧ w'.cell? ⟨w.heap.size, 1, none⟩ = some (.slice A m c) ∧ w'.cell? ⟨w.heap.size, 2, none⟩ = some (.slice B k d) ∧ w'.cell? ⟨w18.heap.size, 0, none⟩ = some (.int .i64 s2) ∧ w'.cell? ⟨w18.heap.size, 1, none⟩ = some (.slice A2 n2 c2) ∧ w'.cell? ⟨w18.heap.size, 2, none⟩ = some (.slice B2 m2 d2) ∧ Below W5.heap.size W5 w')
      (first | assumption | exact CS5.out _ (below_drew (by assumption)) | exact CS5.out _ (by assumption))
      (first
       | (go_at_call 32; obtain ⟨_, _, _, _, _, _, hbx⟩ := ‹_ ∧ _ ∧ _ ∧ _ ∧ _ ∧ _ ∧ Below _ _ _›; refine (HWT.out _ _ _ (HT5.out.below hbx)).mono ?_; rintro e w20 ⟨s3, A3, n3, c3, B3, m3, d3, rfl, ht3, hb200⟩; have hb20 : Below W5.heap.size W5 w20 := hbx.trans (hb200.mono (Below.size hbx)))
       | (go_at_call 21; refine (HSA.out _ _ _ _ _ ht3 (HA.out.below (HB4.out.trans ((HB5'.out.trans (hb20.mono (Below.size HB5'.out))).mono HB4.out.size)))).mono ?_; rintro e w21 ⟨rfl, hb210⟩; have hb21 : Below W5.heap.size W5 w21 := hb20.trans (hb210.mono (Below.size hb20))))
    go_wp2
    go_ret
    exact ⟨rfl, FN.out _ (HB4.out.trans ((HB5'.out.trans (hb21.mono (Below.size HB5'.out))).mono HB4.out.size))⟩
end Go.Proofs.YtjjohllfidmkjaaDoor.PfW
