/- Law walk: ProofSame. -/
import Derived.Test.YtjjohllfidmkjaaDoorPfAw
import Derived.Test.YtjjohllfidmkjaaDoorPfV
import Derived.Test.YtjjohllfidmkjaaDoorPfO
import Derived.Test.YtjjohllfidmkjaaDoorPfQ2
import Derived.Test.YtjjohllfidmkjaaDoorPfQ3
namespace Go.Proofs.YtjjohllfidmkjaaDoor.PfW
open Go Go.RowKit Go.Proofs.YtjjohllfidmkjaaDoor.Mem Go.Proofs.YtjjohllfidmkjaaDoor.Pf
set_option maxRecDepth 100000 in
theorem proofSame_walk (a b : T) (s : Int) (A : Option Addr) (m c : Nat) (B : Option Addr) (k d : Nat) (s' : Int) (A' : Option Addr) (m' c' : Nat) (B' : Option Addr) (k' d' : Nat) (w : World)
    (ha : TreeIn (fun _ => True) w a [.int .i64 s, .slice A m c, .slice B k d]) (hfa : Fit a) (hb : TreeIn (fun _ => True) w b [.int .i64 s', .slice A' m' c', .slice B' k' d']) (hfb : Fit b) (hG : Glob w) :
    Calls Tryd.prog 5 #[.agg #[.int .i64 s, .slice A m c, .slice B k d], .agg #[.int .i64 s', .slice A' m' c', .slice B' k' d']] w fun e w' => e = .returned (.bool true) ∧ Below w.heap.size w w' := by
  have HO := Lib.hid (two_boxes w (.cells #[.int .i64 s, .slice A m c, .slice B k d] 29) (.cells #[.int .i64 s', .slice A' m' c', .slice B' k' d'] 29))
  have HA := Lib.hid (ha.below HO.out.1)
  have HB := Lib.hid (hb.below HO.out.1)
  have HFA := Lib.hid hfa
  have HFB := Lib.hid hfb
  have HGG := Lib.hid (hG.below HO.out.1)
  have HBW := Lib.hid HO.out.1
  have HXA := Lib.hid HO.out.2.1
  have HXB := Lib.hid HO.out.2.2
  clear ha hb hfa hfb hG HO
  go_enter Tryd.func5, Tryd.ntmps5
  go_wp2_with fail
  generalize (w.alloc (.cells #[.int .i64 s, .slice A m c, .slice B k d] 29)).alloc (.cells #[.int .i64 s', .slice A' m' c', .slice B' k' d'] 29) = W at *
  have HAW := Lib.hid (awake_any W HGG.out)
  refine HAW.out.mono ?_
  rintro e w1 ⟨rfl, hb1⟩
  have HB1 := Lib.hid hb1
  clear hb1 HAW
  have cellA : ∀ (w' : World), Below W.heap.size W w' → w'.heap[w.heap.size]? = some (.cells #[.int .i64 s, .slice A m c, .slice B k d] 29) := fun _ hb => (hb.block _ (lt_of_block HXA.out)).trans HXA.out
  have cellB : ∀ (w' : World), Below W.heap.size W w' → w'.heap[w.heap.size + 1]? = some (.cells #[.int .i64 s', .slice A' m' c', .slice B' k' d'] 29) := fun _ hb => (hb.block _ (lt_of_block HXB.out)).trans HXB.out
  have FIN : ∀ (w' : World), Below W.heap.size W w' → Below w.heap.size w w' := fun _ hb => HBW.out.trans (hb.mono HBW.out.size)
  have CA := Lib.hid cellA
  have CB := Lib.hid cellB
  have FN := Lib.hid FIN
  clear cellA cellB FIN
  obtain ⟨x0, x1, x2⟩ := cell3 (CA.out _ HB1.out)
  have HF := Lib.hid (few_any a HFA.out _ s A B m c k d w1 (HA.out.below HB1.out))
  go_wp2_with fail
  refine HF.out.mono ?_
  rintro e w2 ⟨rfl, hb2⟩
  have HB2 := Lib.hid (HB1.out.trans (hb2.mono HB1.out.size))
  clear hb2 HF x0 x1 x2
  cases hfe : fewB a
  · have HAW := Lib.hid (awake_any w2 (HGG.out.below HB2.out))
    go_wp2_with fail
    refine HAW.out.mono ?_
    rintro e w3 ⟨rfl, hb3⟩
    have HB3 := Lib.hid (HB2.out.trans (hb3.mono HB2.out.size))
    clear hb3 HAW
    go_wp2
    go_ret
    exact ⟨rfl, FN.out _ HB3.out⟩
  obtain ⟨x0, x1, x2⟩ := cell3 (CB.out _ HB2.out)
  have HF := Lib.hid (few_any b HFB.out _ s' A' B' m' c' k' d' w2 (HB.out.below HB2.out))
  go_wp2_with fail
  refine HF.out.mono ?_
  rintro e w3 ⟨rfl, hb3⟩
  have HB3 := Lib.hid (HB2.out.trans (hb3.mono HB2.out.size))
  clear hb3 HF x0 x1 x2 hfe
  cases hfe : fewB b
  · have HAW := Lib.hid (awake_any w3 (HGG.out.below HB3.out))
    go_wp2_with fail
    refine HAW.out.mono ?_
    rintro e w4 ⟨rfl, hb4⟩
    have HB4 := Lib.hid (HB3.out.trans (hb4.mono HB3.out.size))
    clear hb4 HAW
    go_wp2
    go_ret
    exact ⟨rfl, FN.out _ HB4.out⟩
  clear hfe
  go_wp2_with fail
  have CS : Hid (∀ w', Below W.heap.size W w' → w'.cell? ⟨w.heap.size, 0, none⟩ = some (.int .i64 s) ∧ w'.cell? ⟨w.heap.size, 1, none⟩ = some (.slice A m c) ∧ w'.cell? ⟨w.heap.size, 2, none⟩ = some (.slice B k d) ∧ w'.cell? ⟨w.heap.size + 1, 0, none⟩ = some (.int .i64 s') ∧ w'.cell? ⟨w.heap.size + 1, 1, none⟩ = some (.slice A' m' c') ∧ w'.cell? ⟨w.heap.size + 1, 2, none⟩ = some (.slice B' k' d') ∧ Below W.heap.size W w') := Lib.hid (fun w' hb => ⟨(cell3 (CA.out _ hb)).1, (cell3 (CA.out _ hb)).2.1, (cell3 (CA.out _ hb)).2.2, (cell3 (CB.out _ hb)).1, (cell3 (CB.out _ hb)).2.1, (cell3 (CB.out _ hb)).2.2, hb⟩)
  have tok1 := Lib.hid trivial
  have tok3 := Lib.hid trivial
  have tok5 := Lib.hid trivial
  obtain ⟨q, hq⟩ : ∃ q, q = sameB a b := ⟨_, rfl⟩
  have HSM : Hid (∀ (S S' : Nat → Prop) (vs us : List Value) (w : World), TreeIn S w a vs → TreeIn S' w b us → Calls Tryd.prog 20 #[.agg vs.toArray, .agg us.toArray] w fun e w' => e = .returned (.bool q) ∧ Below w.heap.size w w') := Lib.hid (by rw [hq]; exact same_any _ a b (Nat.le_refl _) HFA.out HFB.out)
  have HRS : Hid (∀ (S S' : Nat → Prop) (vs us : List Value) (w : World), TreeIn S w a vs → TreeIn S' w b us → Calls Tryd.prog 21 #[.agg vs.toArray, .agg us.toArray] w fun e w' => e = .returned (.bool q) ∧ Below w.heap.size w w') := Lib.hid (by rw [hq]; exact rsame_any _ a b (Nat.le_refl _) HFA.out HFB.out)
  have HSS : Hid (∀ (S S' : Nat → Prop) (vs us : List Value) (w : World), TreeIn S w a vs → TreeIn S' w a us → Calls Tryd.prog 20 #[.agg vs.toArray, .agg us.toArray] w fun e w' => e = .returned (.bool true) ∧ Below w.heap.size w w') := Lib.hid (by rw [← sameB_self a]; exact same_any _ a a (Nat.le_refl _) HFA.out HFA.out)
  have HWA := Lib.hid (own_any _ a (Nat.le_refl _) HFA.out)
  have HWB := Lib.hid (own_any _ b (Nat.le_refl _) HFB.out)
  clear hq
  have hb3 := HB3.out
  cases q
  all_goals
    go_region_held3 (fun w' => w'.cell? ⟨w.heap.size, 0, none⟩ = some (.int .i64 s) ∧ w'.cell? ⟨w.heap.size, 1, none⟩ = some (.slice A m c) ∧ w'.cell? ⟨w.heap.size, 2, none⟩ = some (.slice B k d) ∧ w'.cell? ⟨w.heap.size + 1, 0, none⟩ = some (.int .i64 s') ∧ w'.cell? ⟨w.heap.size + 1, 1, none⟩ = some (.slice A' m' c') ∧ w'.cell? ⟨w.heap.size + 1, 2, none⟩ = some (.slice B' k' d') ∧ Below W.heap.size W w')
      (first | assumption | exact CS.out _ (below_drew (by assumption)) | exact CS.out _ (by assumption))
      (first
       | (go_at_call_of 15 (Value.int .i64 s); clear tok1; obtain ⟨_, _, _, _, _, _, hbx⟩ := ‹_ ∧ _ ∧ _ ∧ _ ∧ _ ∧ _ ∧ Below _ _ _›; refine (HWA.out _ _ _ (HA.out.below hbx)).mono ?_; rintro e w4 ⟨s1, A1, n1, c1, B1, m1, d1, rfl, ht1, hb40⟩; have hb4 : Below W.heap.size W w4 := hbx.trans (hb40.mono hbx.size))
       | (go_at_call_of 15 (Value.int .i64 s'); refine (HWB.out _ _ _ (HB.out.below hb4)).mono ?_; rintro e w5 ⟨s2, A2, n2, c2, B2, m2, d2, rfl, ht2, hb50⟩; have hb5 : Below W.heap.size W w5 := hb4.trans (hb50.mono hb4.size); have ht1' := TreeIn.below ht1 hb50)
       | (go_at_call 20; clear tok3; refine (HSM.out _ _ _ _ _ ht1' ht2).mono ?_; rintro e w6 ⟨rfl, hb60⟩; have hb6 : Below W.heap.size W w6 := hb5.trans (hb60.mono hb5.size))
       | (go_at_call 21; refine (HRS.out _ _ _ _ _ (HA.out.below hb6) (HB.out.below hb6)).mono ?_; rintro e w7 ⟨rfl, hb70⟩; have hb7 : Below W.heap.size W w7 := hb6.trans (hb70.mono hb6.size))
       | (go_at_call_of 15 (Value.int .i64 s); clear tok5; refine (HWA.out _ _ _ (HA.out.below hb7)).mono ?_; rintro e w8 ⟨s3, A3, n3, c3, B3, m3, d3, rfl, ht3, hb80⟩; have hb8 : Below W.heap.size W w8 := hb7.trans (hb80.mono hb7.size))
       | (go_at_call_of 15 (Value.int .i64 s); refine (HWA.out _ _ _ (HA.out.below hb8)).mono ?_; rintro e w9 ⟨s4, A4, n4, c4, B4, m4, d4, rfl, ht4, hb90⟩; have hb9 : Below W.heap.size W w9 := hb8.trans (hb90.mono hb8.size); have ht3' := TreeIn.below ht3 hb90)
       | (go_at_call 20; refine (HSS.out _ _ _ _ _ ht3' ht4).mono ?_; rintro e w10 ⟨rfl, hb100⟩; have hb10 : Below W.heap.size W w10 := hb9.trans (hb100.mono hb9.size)))
    go_wp2
    go_ret
    exact ⟨rfl, FN.out _ hb10⟩
end Go.Proofs.YtjjohllfidmkjaaDoor.PfW
