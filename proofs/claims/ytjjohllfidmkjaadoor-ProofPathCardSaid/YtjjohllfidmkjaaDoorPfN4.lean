/- Law walk: ProofPath. -/
import Derived.Test.YtjjohllfidmkjaaDoorPfAw
import Derived.Test.YtjjohllfidmkjaaDoorPfB5
import Derived.Test.YtjjohllfidmkjaaDoorPfC9
import Derived.Test.YtjjohllfidmkjaaDoorPfN3
import Derived.Test.YtjjohllfidmkjaaDoorPfV
import Derived.Test.YtjjohllfidmkjaaDoorPfLt
namespace Go.Proofs.YtjjohllfidmkjaaDoor.Pf
open Go
theorem leaf_fits (i : Nat) : Fit (.mk 0 [] [(i : Int)]) := by
  unfold Fit FitL
  simp
theorem made_fit : ∀ (f : Nat) (s : Syst) (t : T), made f s = some t → Fit t := by
  intro f
  induction f with
  | zero =>
    intro s t h
    cases hr : refuted s with
    | none => rw [made, hr] at h; cases h
    | some i => rw [made_leaf hr] at h; cases h; exact leaf_fits i
  | succ f ih =>
    intro s t h
    cases hr : refuted s with
    | some i =>
      rw [made_leaf hr] at h
      cases h
      exact leaf_fits i
    | none =>
      cases hp : parts s (widest s) with
      | none => rw [made_no hr hp] at h; cases h
      | some ab =>
        obtain ⟨a, b⟩ := ab
        rw [made_step hr hp] at h
        cases ha : made f a with
        | none => rw [ha] at h; cases h
        | some ta =>
          rw [ha] at h
          cases hb : made f b with
          | none => simp only [hb] at h; cases h
          | some tb =>
            simp only [hb] at h
            cases h
            unfold Fit FitL FitL FitL
            exact ⟨by simp, by simp, ih a ta ha, ih b tb hb, trivial⟩
theorem treeIn_true {S : Nat → Prop} {w : World} {t : T} {vs : List Value} (h : TreeIn S w t vs) : TreeIn (fun _ => True) w t vs := TreeIn.stays (fun _ _ _ => rfl) (fun _ _ _ => trivial) _ _ h
theorem valid_alls {t : T} (h : validB t = true) : allB t = true := by
  unfold validB at h
  simp only [Bool.and_eq_true] at h
  exact h.2
end Go.Proofs.YtjjohllfidmkjaaDoor.Pf
namespace Go.Proofs.YtjjohllfidmkjaaDoor.PfW
open Go Go.RowKit Go.Proofs.YtjjohllfidmkjaaDoor.Mem Go.Proofs.YtjjohllfidmkjaaDoor.Pf
attribute [local go_sem ↓] Go.wp_at_zero Go.wp_at_succ
theorem nat_get {w : World} {A : Option Addr} {l : List Nat} {j : Nat} (h : Row w A (natCells l)) (hj : j < l.length) : ∃ g off, A = some ⟨g, off, none⟩ ∧ g < w.heap.size ∧ w.cell? ⟨g, off + j, none⟩ = some (.int .i64 (l[j] : Int)) := by
  obtain ⟨g, off, e, hg, hc⟩ := h (by intro h0; have := nat_len l; rw [h0] at this; simp at this; omega)
  refine ⟨g, off, e, hg, (hc j (by rw [nat_len]; exact hj)).trans ?_⟩
  simp [natCells, intCells, ints, hj]
theorem alsz (w : World) (o : Obj) : w.heap.size < (w.alloc o).heap.size := by simp
theorem ne_of {g b n c : Nat} (h : (g < b ∧ g < c ∨ n ≤ g)) (hb : b < n) : g ≠ b := by omega
theorem ne_of2 {g b n c : Nat} (h : (g ≠ b ∧ g < c ∨ n ≤ g)) (hb : b < n) : g ≠ b := by omega
theorem bdrew (w : World) : Below w.heap.size w w.drew := below_drew (Below.refl _ _)
theorem bdal (w : World) (o : Obj) : Below w.heap.size w (w.alloc o).drew := below_drew (bel1 w o)
set_option maxRecDepth 100000 in
set_option maxHeartbeats 8000000 in
theorem proofPath_walk (y : Syst) (a : T) (A : Option Addr) (cp : Nat) (s : Int) (K : Option Addr) (m kc : Nat) (B : Option Addr) (k d : Nat) (w : World)
    (hrow : Row w A (y.rows.flatMap r4Cells)) (hlen : y.rows.length ≤ 4398046510976) (ha : TreeIn (fun _ => True) w a [.int .i64 s, .slice K m kc, .slice B k d]) (hfa : Fit a) (hG : Glob w) :
    Calls Tryd.prog 10 #[sysV y A cp, .agg #[.int .i64 s, .slice K m kc, .slice B k d]] w fun e w' => e = .returned (.bool true) ∧ Below w.heap.size w w' := by
  have HO := Lib.hid (two_boxes w (.cells #[.int .i64 y.l0, .int .i64 y.l1, .int .i64 y.l2, .int .i64 y.h0, .int .i64 y.h1, .int .i64 y.h2, .slice A y.rows.length cp] 25) (.cells #[.int .i64 s, .slice K m kc, .slice B k d] 29))
  have HA := Lib.hid (ha.below HO.out.1)
  have HR := Lib.hid (hrow.below HO.out.1)
  have HFA := Lib.hid hfa
  have HGG := Lib.hid (hG.below HO.out.1)
  have HBW := Lib.hid HO.out.1
  have HXA := Lib.hid HO.out.2.1
  have HXB := Lib.hid HO.out.2.2
  have HLT := Lib.hid (fun w => little_any y A cp w hlen)
  clear ha hrow hfa hG HO
  unfold sysV at HLT ⊢
  go_enter Tryd.func10, Tryd.ntmps10
  go_wp2_with fail
  generalize (w.alloc (.cells #[.int .i64 y.l0, .int .i64 y.l1, .int .i64 y.l2, .int .i64 y.h0, .int .i64 y.h1, .int .i64 y.h2, .slice A y.rows.length cp] 25)).alloc (.cells #[.int .i64 s, .slice K m kc, .slice B k d] 29) = W at *
  have HAW := Lib.hid (awake_any W HGG.out)
  refine HAW.out.mono ?_
  rintro e w1 ⟨rfl, hb1⟩
  have HB1 := Lib.hid hb1
  clear hb1 HAW
  have CA : Hid (∀ (w' : World), Below W.heap.size W w' → w'.heap[w.heap.size]? = some (.cells #[.int .i64 y.l0, .int .i64 y.l1, .int .i64 y.l2, .int .i64 y.h0, .int .i64 y.h1, .int .i64 y.h2, .slice A y.rows.length cp] 25)) := Lib.hid (fun _ hb => (hb.block _ (lt_of_block HXA.out)).trans HXA.out)
  have CB : Hid (∀ (w' : World), Below W.heap.size W w' → w'.heap[w.heap.size + 1]? = some (.cells #[.int .i64 s, .slice K m kc, .slice B k d] 29)) := Lib.hid (fun _ hb => (hb.block _ (lt_of_block HXB.out)).trans HXB.out)
  have FN : Hid (∀ (w' : World), Below W.heap.size W w' → Below w.heap.size w w') := Lib.hid (fun _ hb => HBW.out.trans (hb.mono HBW.out.size))
  obtain ⟨x0, x1, x2⟩ := cell3 (CB.out _ HB1.out)
  have HF := Lib.hid (few_any a HFA.out _ s K B m kc k d w1 (HA.out.below HB1.out))
  go_wp2_with fail
  refine HF.out.mono ?_
  rintro e w2 ⟨rfl, hb2⟩
  have HB2 := Lib.hid (HB1.out.trans (hb2.mono HB1.out.size))
  clear hb2 HF x0 x1 x2
  cases hfe : fewB a
  · have HAW := Lib.hid (awake_any w2 (HGG.out.below HB2.out))
    go_wp2_with fail
    refine HAW.out.mono ?_
    rintro e wz ⟨rfl, hbz⟩
    have HBZ := Lib.hid (HB2.out.trans (hbz.mono HB2.out.size))
    clear hbz HAW
    go_wp2
    go_ret
    exact ⟨rfl, FN.out _ HBZ.out⟩
  obtain ⟨x0, x1, x2, x3, x4, x5, x6⟩ := cell7 (CA.out _ HB2.out)
  have HF := Lib.hid (HLT.out w2 (HR.out.below HB2.out))
  go_wp2_with fail
  refine HF.out.mono ?_
  rintro e w3 ⟨rfl, hb3⟩
  have HB3 := Lib.hid (HB2.out.trans (hb3.mono HB2.out.size))
  clear hb3 HF x0 x1 x2 x3 x4 x5 x6 hfe
  cases hlit : littleB y
  · have HAW := Lib.hid (awake_any w3 (HGG.out.below HB3.out))
    go_wp2_with fail
    refine HAW.out.mono ?_
    rintro e wz ⟨rfl, hbz⟩
    have HBZ := Lib.hid (HB3.out.trans (hbz.mono HB3.out.size))
    clear hbz HAW
    go_wp2
    go_ret
    exact ⟨rfl, FN.out _ HBZ.out⟩
  obtain ⟨x0, x1, x2⟩ := cell3 (CB.out _ HB3.out)
  have HF := Lib.hid (rvalid_any a HFA.out _ s K B m kc k d w3 (HA.out.below HB3.out))
  go_wp2_with fail
  refine HF.out.mono ?_
  rintro e w31 ⟨rfl, hb31⟩
  have HB31 := Lib.hid (HB3.out.trans (hb31.mono HB3.out.size))
  clear hb31 HF x0 x1 x2
  cases hv : validB a
  · have HAW := Lib.hid (awake_any w31 (HGG.out.below HB31.out))
    go_wp2_with fail
    refine HAW.out.mono ?_
    rintro e wz ⟨rfl, hbz⟩
    have HBZ := Lib.hid (HB31.out.trans (hbz.mono HB31.out.size))
    clear hbz HAW
    go_wp2
    go_ret
    exact ⟨rfl, FN.out _ HBZ.out⟩
  have HLI := Lib.hid (little_of hlit)
  have HAL := Lib.hid (valid_alls hv)
  have HVA := Lib.hid hv
  clear hlit
  go_wp2_with fail
  have CS : Hid (∀ w', Below W.heap.size W w' → w'.cell? ⟨w.heap.size, 0, none⟩ = some (.int .i64 y.l0) ∧ w'.cell? ⟨w.heap.size, 1, none⟩ = some (.int .i64 y.l1) ∧ w'.cell? ⟨w.heap.size, 2, none⟩ = some (.int .i64 y.l2) ∧ w'.cell? ⟨w.heap.size, 3, none⟩ = some (.int .i64 y.h0) ∧ w'.cell? ⟨w.heap.size, 4, none⟩ = some (.int .i64 y.h1) ∧ w'.cell? ⟨w.heap.size, 5, none⟩ = some (.int .i64 y.h2) ∧ w'.cell? ⟨w.heap.size, 6, none⟩ = some (.slice A y.rows.length cp) ∧ w'.cell? ⟨w.heap.size + 1, 0, none⟩ = some (.int .i64 s) ∧ w'.cell? ⟨w.heap.size + 1, 1, none⟩ = some (.slice K m kc) ∧ w'.cell? ⟨w.heap.size + 1, 2, none⟩ = some (.slice B k d) ∧ Below W.heap.size W w') := Lib.hid (fun w' hb => by
    obtain ⟨a0, a1, a2, a3, a4, a5, a6⟩ := cell7 (CA.out _ hb)
    obtain ⟨b0, b1, b2⟩ := cell3 (CB.out _ hb)
    exact ⟨a0, a1, a2, a3, a4, a5, a6, b0, b1, b2, hb⟩)
  have HWA := Lib.hid (own_any _ a (Nat.le_refl _) HFA.out)
  have hb3 := HB31.out
  have HCK := Lib.hid (check_room y a HLI.out HFA.out)
  cases hw : wrong a y with
  | none =>
    rw [show checkP y a = ([], 0) by unfold checkP; rw [hv, hw]; rfl] at HCK
    unfold sysV at HCK
    go_region_held3 (fun w' => w'.cell? ⟨w.heap.size, 0, none⟩ = some (.int .i64 y.l0) ∧ w'.cell? ⟨w.heap.size, 1, none⟩ = some (.int .i64 y.l1) ∧ w'.cell? ⟨w.heap.size, 2, none⟩ = some (.int .i64 y.l2) ∧ w'.cell? ⟨w.heap.size, 3, none⟩ = some (.int .i64 y.h0) ∧ w'.cell? ⟨w.heap.size, 4, none⟩ = some (.int .i64 y.h1) ∧ w'.cell? ⟨w.heap.size, 5, none⟩ = some (.int .i64 y.h2) ∧ w'.cell? ⟨w.heap.size, 6, none⟩ = some (.slice A y.rows.length cp) ∧ w'.cell? ⟨w.heap.size + 1, 0, none⟩ = some (.int .i64 s) ∧ w'.cell? ⟨w.heap.size + 1, 1, none⟩ = some (.slice K m kc) ∧ w'.cell? ⟨w.heap.size + 1, 2, none⟩ = some (.slice B k d) ∧ Below W.heap.size W w')
      (first | assumption | exact CS.out _ (below_drew (by assumption)) | exact CS.out _ (by assumption))
      (first
       | (go_at_call 15; obtain ⟨_, _, _, _, _, _, _, _, _, _, hbx⟩ := ‹_ ∧ _ ∧ _ ∧ _ ∧ _ ∧ _ ∧ _ ∧ _ ∧ _ ∧ _ ∧ Below _ _ _›; refine (HWA.out _ _ _ (HA.out.below hbx)).mono ?_; rintro e w4 ⟨s1, A1, n1, c1, B1, m1, d1, rfl, ht1, hb40⟩; have hb4 : Below W.heap.size W w4 := hbx.trans (hb40.mono hbx.size))
       | (go_at_call 14; refine (HCK.out _ _ _ _ _ _ _ _ _ _ _ ht1 (HR.out.below hb4)).mono ?_; rintro e w5 ⟨PB, pd, rfl, hp, hb50, hpd⟩; have hb5 : Below W.heap.size W w5 := hb4.trans (hb50.mono hb4.size)))
    have HP := Lib.hid hp
    have HPD := Lib.hid hpd
    have HB5 := Lib.hid hb5
    clear hp hb5 ht1 hb40 hb4 hbx hb50 hb3 hpd
    go_wp2
    go_ret
    exact ⟨rfl, FN.out _ HB5.out⟩
  | some p =>
    rw [show checkP y a = (p, 21) by unfold checkP; rw [hv, hw]; rfl] at HCK
    have hpl : p.length ≤ 1000000 := by
      have := wrong_len _ a (Nat.le_refl _) y p HLI.out hw
      have := side_le HLI.out.box
      omega
    obtain ⟨y', t', hna, hly, hry⟩ := node_at p y a HLI.out hw
    have HNA := Lib.hid hna
    have HLY := Lib.hid hly
    have HRY := Lib.hid hry
    have HWR := Lib.hid hw
    clear hna hly hry hw hv
    unfold sysV at HCK
    go_region_held3 (fun w' => w'.cell? ⟨w.heap.size, 0, none⟩ = some (.int .i64 y.l0) ∧ w'.cell? ⟨w.heap.size, 1, none⟩ = some (.int .i64 y.l1) ∧ w'.cell? ⟨w.heap.size, 2, none⟩ = some (.int .i64 y.l2) ∧ w'.cell? ⟨w.heap.size, 3, none⟩ = some (.int .i64 y.h0) ∧ w'.cell? ⟨w.heap.size, 4, none⟩ = some (.int .i64 y.h1) ∧ w'.cell? ⟨w.heap.size, 5, none⟩ = some (.int .i64 y.h2) ∧ w'.cell? ⟨w.heap.size, 6, none⟩ = some (.slice A y.rows.length cp) ∧ w'.cell? ⟨w.heap.size + 1, 0, none⟩ = some (.int .i64 s) ∧ w'.cell? ⟨w.heap.size + 1, 1, none⟩ = some (.slice K m kc) ∧ w'.cell? ⟨w.heap.size + 1, 2, none⟩ = some (.slice B k d) ∧ Below W.heap.size W w')
      (first | assumption | exact CS.out _ (below_drew (by assumption)) | exact CS.out _ (by assumption))
      (first
       | (go_at_call 15; obtain ⟨_, _, _, _, _, _, _, _, _, _, hbx⟩ := ‹_ ∧ _ ∧ _ ∧ _ ∧ _ ∧ _ ∧ _ ∧ _ ∧ _ ∧ _ ∧ Below _ _ _›; refine (HWA.out _ _ _ (HA.out.below hbx)).mono ?_; rintro e w4 ⟨s1, A1, n1, c1, B1, m1, d1, rfl, ht1, hb40⟩; have hb4 : Below W.heap.size W w4 := hbx.trans (hb40.mono hbx.size))
       | (go_at_call 14; refine (HCK.out _ _ _ _ _ _ _ _ _ _ _ ht1 (HR.out.below hb4)).mono ?_; rintro e w5 ⟨PB, pd, rfl, hp, hb50, hpd⟩; have hb5 : Below W.heap.size W w5 := hb4.trans (hb50.mono hb4.size)))
    have HP := Lib.hid hp
    have HPD := Lib.hid hpd
    have HB5 := Lib.hid hb5
    clear hp hb5 ht1 hb40 hb4 hbx hb50 hb3 hpd
    cases hbd : bld 27 y' 0 with
    | error x =>
      have qx : (x != (0 : Int)) = true := by rcases bld_err _ _ _ _ hbd with rfl | rfl <;> rfl
      obtain ⟨x0, x1, x2, x3, x4, x5, x6⟩ := cell7 (CA.out _ HB5.out)
      obtain ⟨t0, t1, t2⟩ := cell3 (CB.out _ HB5.out)
      have HND := Lib.hid (node_any' y a p y' t' _ A cp s K m kc B k d PB pd w5 HLI.out HAL.out HNA.out hpl (HA.out.below HB5.out) HP.out)
      unfold sysV at HND
      go_wp2_with fail
      refine HND.out.mono ?_
      rintro e w6 ⟨hb6, s6, K6, m6, kc6, B6, k6, d6, rfl⟩
      have HB6 := Lib.hid (HB5.out.trans (hb6.mono HB5.out.size))
      have HP6 := Lib.hid (HP.out.below hb6)
      have X7 := Lib.hid (two_boxes w6 (.cells #[.int .i64 y'.l0, .int .i64 y'.l1, .int .i64 y'.l2, .int .i64 y'.h0, .int .i64 y'.h1, .int .i64 y'.h2, .slice A y.rows.length cp] 25) (.cells #[.int .i64 s6, .slice K6 m6 kc6, .slice B6 k6 d6] 29))
      have HB7 := Lib.hid (HB6.out.trans (X7.out.1.mono HB6.out.size))
      clear hb6 HND x0 x1 x2 x3 x4 x5 x6 t0 t1 t2
      go_upto_region 9 with fail
      have N7 := Lib.hid X7.out.2.1
      have HP7 := Lib.hid (HP6.out.below X7.out.1)
      clear X7 HP6
      generalize (w6.alloc (.cells #[.int .i64 y'.l0, .int .i64 y'.l1, .int .i64 y'.l2, .int .i64 y'.h0, .int .i64 y'.h1, .int .i64 y'.h2, .slice A y.rows.length cp] 25)).alloc (.cells #[.int .i64 s6, .slice K6 m6 kc6, .slice B6 k6 d6] 29) = W7 at *
      obtain ⟨x0, x1, x2, x3, x4, x5, x6⟩ := cell7 N7.out
      have HBU := Lib.hid (built_any y' A cp W7 HLY.out (by rw [HRY.out]; exact HR.out.below HB7.out))
      rw [hbd] at HBU
      unfold sysV at HBU
      rw [HRY.out] at HBU
      go_wp2_with fail
      refine HBU.out.mono ?_
      rintro e w8 ⟨hb8, rfl⟩
      have HB8 := Lib.hid (HB7.out.trans (hb8.mono HB7.out.size))
      have X9 := Lib.hid (one_box w8 (.cells #[.int .i64 0, .slice none 0 0, .slice none 0 0] 38))
      have HB9 := Lib.hid (HB8.out.trans (X9.out.1.mono HB8.out.size))
      clear hb8 HBU x0 x1 x2 x3 x4 x5 x6
      go_wp2
      go_ret
      exact ⟨rfl, FN.out _ HB9.out⟩
    | ok kp =>
      obtain ⟨kt, kn⟩ := kp
      have hmk := bld_is hbd
      have HKW := Lib.hid (made_good 27 y' kt HLY.out hmk).1
      have HKF := Lib.hid (made_fit 27 y' kt hmk)
      clear hmk
      obtain ⟨x0, x1, x2, x3, x4, x5, x6⟩ := cell7 (CA.out _ HB5.out)
      obtain ⟨t0, t1, t2⟩ := cell3 (CB.out _ HB5.out)
      have HND := Lib.hid (node_any' y a p y' t' _ A cp s K m kc B k d PB pd w5 HLI.out HAL.out HNA.out hpl (HA.out.below HB5.out) HP.out)
      unfold sysV at HND
      go_wp2_with fail
      refine HND.out.mono ?_
      rintro e w6 ⟨hb6, s6, K6, m6, kc6, B6, k6, d6, rfl⟩
      have HB6 := Lib.hid (HB5.out.trans (hb6.mono HB5.out.size))
      have HP6 := Lib.hid (HP.out.below hb6)
      have X7 := Lib.hid (two_boxes w6 (.cells #[.int .i64 y'.l0, .int .i64 y'.l1, .int .i64 y'.l2, .int .i64 y'.h0, .int .i64 y'.h1, .int .i64 y'.h2, .slice A y.rows.length cp] 25) (.cells #[.int .i64 s6, .slice K6 m6 kc6, .slice B6 k6 d6] 29))
      have HB7 := Lib.hid (HB6.out.trans (X7.out.1.mono HB6.out.size))
      clear hb6 HND x0 x1 x2 x3 x4 x5 x6 t0 t1 t2
      go_upto_region 9 with fail
      have N7 := Lib.hid X7.out.2.1
      have HP7 := Lib.hid (HP6.out.below X7.out.1)
      clear X7 HP6
      generalize (w6.alloc (.cells #[.int .i64 y'.l0, .int .i64 y'.l1, .int .i64 y'.l2, .int .i64 y'.h0, .int .i64 y'.h1, .int .i64 y'.h2, .slice A y.rows.length cp] 25)).alloc (.cells #[.int .i64 s6, .slice K6 m6 kc6, .slice B6 k6 d6] 29) = W7 at *
      obtain ⟨x0, x1, x2, x3, x4, x5, x6⟩ := cell7 N7.out
      have HBU := Lib.hid (built_any y' A cp W7 HLY.out (by rw [HRY.out]; exact HR.out.below HB7.out))
      rw [hbd] at HBU
      unfold sysV at HBU
      rw [HRY.out] at HBU
      go_wp2_with fail
      refine HBU.out.mono ?_
      rintro e w8 ⟨hb8, s8, A8, m8, c8, B8, k8, d8, rfl, hT8⟩
      have HB8 := Lib.hid (HB7.out.trans (hb8.mono HB7.out.size))
      have HP8 := Lib.hid (HP7.out.below hb8)
      have HT8 := Lib.hid hT8
      have X9 := Lib.hid (one_box w8 (.cells #[.int .i64 s8, .slice A8 m8 c8, .slice B8 k8 d8] 38))
      have HB9 := Lib.hid (HB8.out.trans (X9.out.1.mono HB8.out.size))
      clear hb8 hT8 HBU x0 x1 x2 x3 x4 x5 x6
      go_upto_region 12 with fail
      have KX := Lib.hid X9.out.2
      have HP9 := Lib.hid (HP8.out.below X9.out.1)
      have HT9 := Lib.hid (HT8.out.below X9.out.1)
      clear X9 HP8 HT8
      generalize w8.alloc (.cells #[.int .i64 s8, .slice A8 m8 c8, .slice B8 k8 d8] 38) = W9 at *
      have HRP := Lib.hid (replaced_any kt y' t' p y a HNA.out HFA.out hpl)
      have CK : Hid (∀ w', Below W9.heap.size W9 w' → w'.cell? ⟨w.heap.size + 1, 0, none⟩ = some (.int .i64 s) ∧ w'.cell? ⟨w.heap.size + 1, 1, none⟩ = some (.slice K m kc) ∧ w'.cell? ⟨w.heap.size + 1, 2, none⟩ = some (.slice B k d) ∧ w'.cell? ⟨w8.heap.size, 0, none⟩ = some (.int .i64 s8) ∧ w'.cell? ⟨w8.heap.size, 1, none⟩ = some (.slice A8 m8 c8) ∧ w'.cell? ⟨w8.heap.size, 2, none⟩ = some (.slice B8 k8 d8) ∧ Below W9.heap.size W9 w') := Lib.hid (fun w' hb => by
        obtain ⟨a0, a1, a2⟩ := cell3 (CB.out w' (HB9.out.trans (hb.mono HB9.out.size)))
        obtain ⟨b0, b1, b2⟩ := cell3 ((hb.block _ (lt_of_block KX.out)).trans KX.out)
        exact ⟨a0, a1, a2, b0, b1, b2, hb⟩)
      have HA9 : Hid (TreeIn (fun g => g < W9.heap.size) W9 a [.int .i64 s, .slice K m kc, .slice B k d]) := Lib.hid (TreeIn.stays (fun _ _ _ => rfl) (fun g _ hg => hg) _ _ (HA.out.below HB9.out))
      have hr9 := Below.refl W9.heap.size W9
      go_cut [12] from 67 to 71 (fun t wc => ∃ bo sv Av nv cv Bv mv dv, t = .pointer (some ⟨bo, 0, none⟩) ∧ wc.heap[bo]? = some (.cells #[.int .i64 sv, .slice Av nv cv, .slice Bv mv dv] 38 (0, 0)) ∧ TreeIn (fun _ => True) wc (repl kt a p) [.int .i64 sv, .slice Av nv cv, .slice Bv mv dv] ∧ Below W9.heap.size W9 wc)
      case first =>
        go_wp2_with fail
        go_region_held3 (fun w' => w'.cell? ⟨w.heap.size + 1, 0, none⟩ = some (.int .i64 s) ∧ w'.cell? ⟨w.heap.size + 1, 1, none⟩ = some (.slice K m kc) ∧ w'.cell? ⟨w.heap.size + 1, 2, none⟩ = some (.slice B k d) ∧ w'.cell? ⟨w8.heap.size, 0, none⟩ = some (.int .i64 s8) ∧ w'.cell? ⟨w8.heap.size, 1, none⟩ = some (.slice A8 m8 c8) ∧ w'.cell? ⟨w8.heap.size, 2, none⟩ = some (.slice B8 k8 d8) ∧ Below W9.heap.size W9 w')
          (first | assumption | exact CK.out _ (below_drew hr9) | exact CK.out _ hr9 | exact CK.out _ (below_drew (bel1 _ _)) | exact CK.out _ (bel1 _ _) | exact CK.out _ hbo1 | exact CK.out _ (below_drew hbo1) | exact CK.out _ (hbo1.alloc (Below.size hbo1) _) | exact CK.out _ (below_drew (hbo1.alloc (Below.size hbo1) _)) | exact CK.out _ hbv | exact CK.out _ (below_drew hbv) | exact CK.out _ (hbv.alloc (Below.size hbv) _) | exact CK.out _ (bel_set3 hbv (Nat.le_refl _) _ _ _) | exact CK.out _ (bel_set3 hbv (Below.size hbo1) _ _ _))
          (first
           | (go_at_call 15; refine (HWA.out (fun g => g < W9.heap.size) _ _ (TreeIn.below HA9.out (bdal W9 (.cells #[.int .i64 0, .slice none 0 0, .slice none 0 0] 38)))).mono ?_; rintro e wo ⟨s1, A1, n1, c1, B1, m1, d1, rfl, ht1, hbo0⟩; have hbo1 : Below W9.heap.size W9 wo := (bdal W9 (.cells #[.int .i64 0, .slice none 0 0, .slice none 0 0] 38)).trans (hbo0.mono (Below.size (bdal W9 (.cells #[.int .i64 0, .slice none 0 0, .slice none 0 0] 38)))); have zo : wo.heap[W9.heap.size]? = some (.cells #[.int .i64 0, .slice none 0 0, .slice none 0 0] 38) := (hbo0.block W9.heap.size (alsz W9 (.cells #[.int .i64 0, .slice none 0 0, .slice none 0 0] 38))).trans (heap_alloc_new W9 (.cells #[.int .i64 0, .slice none 0 0, .slice none 0 0] 38)))
           | (go_at_call 15; obtain ⟨_, _, _, _, _, _, hbx⟩ := ‹_ ∧ _ ∧ _ ∧ _ ∧ _ ∧ _ ∧ Below _ _ _›; refine (HWA.out _ _ _ (HA.out.below (HB9.out.trans (hbx.mono HB9.out.size)))).mono ?_; rintro e wo ⟨s1, A1, n1, c1, B1, m1, d1, rfl, ht1, hbo0⟩; have hbo1 : Below W9.heap.size W9 wo := hbx.trans (hbo0.mono hbx.size))
           | (go_at_call 44; have zo' := zo; refine (HRP.out (fun g => g ≠ W9.heap.size) _ _ _ _ _ _ _ _ PB pd _ (TreeIn.stays (fun g _ hg => (bdrew wo).block g hg) (fun g hg _ => ne_of hg (alsz W9 (.cells #[.int .i64 0, .slice none 0 0, .slice none 0 0] 38))) _ _ ht1) (TreeIn.stays (fun g _ hg => (hbo1.trans (Below.mono (bdrew wo) (Below.size hbo1))).block g hg) (fun g _ hg => Nat.ne_of_lt hg) _ _ HT9.out) (Row.below HP9.out (hbo1.trans (Below.mono (bdrew wo) (Below.size hbo1)))) HPD.out).mono ?_; rintro e wv ⟨sv, Av, nv, cv, Bv, mv, dv, rfl, htv, hbv0⟩; have hbv : Below W9.heap.size W9 wv := (hbo1.trans (Below.mono (bdrew wo) (Below.size hbo1))).trans (hbv0.mono (Below.size (hbo1.trans (Below.mono (bdrew wo) (Below.size hbo1))))); have zv : wv.heap[W9.heap.size]? = some (.cells #[.int .i64 0, .slice none 0 0, .slice none 0 0] 38) := (hbv0.block W9.heap.size (Nat.lt_of_lt_of_le (lt_of_block zo) (Below.size (bdrew wo)))).trans (((bdrew wo).block _ (lt_of_block zo)).trans zo); obtain ⟨z0, z1, z2⟩ := cell3 zv; have zf := free3 zv; have zf0 := zf 0; have zf1 := zf 1; have zf2 := zf 2; have zz := lt_of_block zv; have ZV := Lib.hid zv; clear zv zf)
           | (go_at_call 44; have zo' := zo; refine (HRP.out (fun g => g ≠ W9.heap.size) _ _ _ _ _ _ _ _ PB pd _ (TreeIn.stays (fun g _ hg => (Below.refl wo.heap.size wo).block g hg) (fun g hg _ => ne_of hg (alsz W9 (.cells #[.int .i64 0, .slice none 0 0, .slice none 0 0] 38))) _ _ ht1) (TreeIn.stays (fun g _ hg => (hbo1.trans (Below.mono (Below.refl wo.heap.size wo) (Below.size hbo1))).block g hg) (fun g _ hg => Nat.ne_of_lt hg) _ _ HT9.out) (Row.below HP9.out (hbo1.trans (Below.mono (Below.refl wo.heap.size wo) (Below.size hbo1)))) HPD.out).mono ?_; rintro e wv ⟨sv, Av, nv, cv, Bv, mv, dv, rfl, htv, hbv0⟩; have hbv : Below W9.heap.size W9 wv := (hbo1.trans (Below.mono (Below.refl wo.heap.size wo) (Below.size hbo1))).trans (hbv0.mono (Below.size (hbo1.trans (Below.mono (Below.refl wo.heap.size wo) (Below.size hbo1))))); have zv : wv.heap[W9.heap.size]? = some (.cells #[.int .i64 0, .slice none 0 0, .slice none 0 0] 38) := (hbv0.block W9.heap.size (Nat.lt_of_lt_of_le (lt_of_block zo) (Below.size (Below.refl wo.heap.size wo)))).trans (((Below.refl wo.heap.size wo).block _ (lt_of_block zo)).trans zo); obtain ⟨z0, z1, z2⟩ := cell3 zv; have zf := free3 zv; have zf0 := zf 0; have zf1 := zf 1; have zf2 := zf 2; have zz := lt_of_block zv; have ZV := Lib.hid zv; clear zv zf)
           | (go_at_call 44; refine (HRP.out (fun g => g < wo.heap.size) _ _ _ _ _ _ _ _ PB pd _ (TreeIn.stays (fun g _ hg => (bdal wo (.cells #[.int .i64 0, .slice none 0 0, .slice none 0 0] 38)).block g hg) (fun g _ hg => hg) _ _ ht1) (TreeIn.stays (fun g _ hg => (hbo1.trans (Below.mono (bdal wo (.cells #[.int .i64 0, .slice none 0 0, .slice none 0 0] 38)) (Below.size hbo1))).block g hg) (fun g _ hg => Nat.lt_of_lt_of_le hg (Below.size hbo1)) _ _ HT9.out) (Row.below HP9.out (hbo1.trans (Below.mono (bdal wo (.cells #[.int .i64 0, .slice none 0 0, .slice none 0 0] 38)) (Below.size hbo1)))) HPD.out).mono ?_; rintro e wv ⟨sv, Av, nv, cv, Bv, mv, dv, rfl, htv, hbv0⟩; have hbv : Below W9.heap.size W9 wv := (hbo1.trans (Below.mono (bdal wo (.cells #[.int .i64 0, .slice none 0 0, .slice none 0 0] 38)) (Below.size hbo1))).trans (hbv0.mono (Below.size (hbo1.trans (Below.mono (bdal wo (.cells #[.int .i64 0, .slice none 0 0, .slice none 0 0] 38)) (Below.size hbo1))))); have zv : wv.heap[wo.heap.size]? = some (.cells #[.int .i64 0, .slice none 0 0, .slice none 0 0] 38) := (hbv0.block wo.heap.size (alsz wo (.cells #[.int .i64 0, .slice none 0 0, .slice none 0 0] 38))).trans (heap_alloc_new wo (.cells #[.int .i64 0, .slice none 0 0, .slice none 0 0] 38)); obtain ⟨z0, z1, z2⟩ := cell3 zv; have zf := free3 zv; have zf0 := zf 0; have zf1 := zf 1; have zf2 := zf 2; have zz := lt_of_block zv; have ZV := Lib.hid zv; clear zv zf)
           | (go_at_call 44; refine (HRP.out (fun g => g < wo.heap.size) _ _ _ _ _ _ _ _ PB pd _ (TreeIn.stays (fun g _ hg => (bel1 wo (.cells #[.int .i64 0, .slice none 0 0, .slice none 0 0] 38)).block g hg) (fun g _ hg => hg) _ _ ht1) (TreeIn.stays (fun g _ hg => (hbo1.trans (Below.mono (bel1 wo (.cells #[.int .i64 0, .slice none 0 0, .slice none 0 0] 38)) (Below.size hbo1))).block g hg) (fun g _ hg => Nat.lt_of_lt_of_le hg (Below.size hbo1)) _ _ HT9.out) (Row.below HP9.out (hbo1.trans (Below.mono (bel1 wo (.cells #[.int .i64 0, .slice none 0 0, .slice none 0 0] 38)) (Below.size hbo1)))) HPD.out).mono ?_; rintro e wv ⟨sv, Av, nv, cv, Bv, mv, dv, rfl, htv, hbv0⟩; have hbv : Below W9.heap.size W9 wv := (hbo1.trans (Below.mono (bel1 wo (.cells #[.int .i64 0, .slice none 0 0, .slice none 0 0] 38)) (Below.size hbo1))).trans (hbv0.mono (Below.size (hbo1.trans (Below.mono (bel1 wo (.cells #[.int .i64 0, .slice none 0 0, .slice none 0 0] 38)) (Below.size hbo1))))); have zv : wv.heap[wo.heap.size]? = some (.cells #[.int .i64 0, .slice none 0 0, .slice none 0 0] 38) := (hbv0.block wo.heap.size (alsz wo (.cells #[.int .i64 0, .slice none 0 0, .slice none 0 0] 38))).trans (heap_alloc_new wo (.cells #[.int .i64 0, .slice none 0 0, .slice none 0 0] 38)); obtain ⟨z0, z1, z2⟩ := cell3 zv; have zf := free3 zv; have zf0 := zf 0; have zf1 := zf 1; have zf2 := zf 2; have zz := lt_of_block zv; have ZV := Lib.hid zv; clear zv zf)
           | (go_at_call 44; refine (HRP.out (fun _ => True) _ _ _ _ _ _ _ _ PB pd _ (TreeIn.stays (fun g _ hg => (bdrew wo).block g hg) (fun _ _ _ => trivial) _ _ ht1) (TreeIn.stays (fun g _ hg => (hbo1.trans (Below.mono (bdrew wo) (Below.size hbo1))).block g hg) (fun _ _ _ => trivial) _ _ HT9.out) (Row.below HP9.out (hbo1.trans (Below.mono (bdrew wo) (Below.size hbo1)))) HPD.out).mono ?_; rintro e wv ⟨sv, Av, nv, cv, Bv, mv, dv, rfl, htv, hbv0⟩; have hbv : Below W9.heap.size W9 wv := (hbo1.trans (Below.mono (bdrew wo) (Below.size hbo1))).trans (hbv0.mono (Below.size (hbo1.trans (Below.mono (bdrew wo) (Below.size hbo1))))))
           | (go_at_call 44; refine (HRP.out (fun _ => True) _ _ _ _ _ _ _ _ PB pd _ (TreeIn.stays (fun g _ hg => (Below.refl wo.heap.size wo).block g hg) (fun _ _ _ => trivial) _ _ ht1) (TreeIn.stays (fun g _ hg => (hbo1.trans (Below.mono (Below.refl wo.heap.size wo) (Below.size hbo1))).block g hg) (fun _ _ _ => trivial) _ _ HT9.out) (Row.below HP9.out (hbo1.trans (Below.mono (Below.refl wo.heap.size wo) (Below.size hbo1)))) HPD.out).mono ?_; rintro e wv ⟨sv, Av, nv, cv, Bv, mv, dv, rfl, htv, hbv0⟩; have hbv : Below W9.heap.size W9 wv := (hbo1.trans (Below.mono (Below.refl wo.heap.size wo) (Below.size hbo1))).trans (hbv0.mono (Below.size (hbo1.trans (Below.mono (Below.refl wo.heap.size wo) (Below.size hbo1)))))))
        all_goals
          go_wp2
          go_meet
          case rel =>
            first
            | exact ⟨wv.heap.size, sv, Av, nv, cv, Bv, mv, dv, rfl, heap_alloc_new _ _, treeIn_true (TreeIn.below htv (bel1 _ _)), hbv.alloc (Below.size hbv) _⟩
            | exact ⟨W9.heap.size, sv, Av, nv, cv, Bv, mv, dv, rfl, set3 ZV.out _ _ _, TreeIn.stays (fun g hg _ => three_far _ _ _ _ _ _ (ne_of2 hg (lt_of_block zo'))) (fun _ _ _ => trivial) _ _ htv, bel_set3 hbv (Nat.le_refl _) _ _ _⟩
            | exact ⟨wo.heap.size, sv, Av, nv, cv, Bv, mv, dv, rfl, set3 ZV.out _ _ _, TreeIn.stays (fun g hg _ => three_far _ _ _ _ _ _ (ne_of hg (alsz wo (.cells #[.int .i64 0, .slice none 0 0, .slice none 0 0] 38)))) (fun _ _ _ => trivial) _ _ htv, bel_set3 hbv (Below.size hbo1) _ _ _⟩
      case rest =>
        obtain ⟨bo, sv, Av, nv, cv, Bv, mv, dv, rfl, hbo, htv, hbw⟩ := hcut
        have HBC := Lib.hid (HB9.out.trans (hbw.mono HB9.out.size))
        have HBO := Lib.hid hbo
        have HTV := Lib.hid htv
        have HPC := Lib.hid (HP9.out.below hbw)
        have HFR := Lib.hid (repl_fit HKF.out p y a _ HNA.out HFA.out)
        clear hbo htv hbw hr9 HA9 HRP CK
        obtain ⟨x0, x1, x2, x3, x4, x5, x6⟩ := cell7 (CA.out _ HBC.out)
        obtain ⟨t0, t1, t2⟩ := cell3 HBO.out
        have oz := lt_of_block HBO.out
        have HCR := Lib.hid (check_room y (repl kt a p) HLI.out HFR.out _ sv Av Bv nv cv mv dv A cp wc HTV.out (HR.out.below HBC.out))
        cases hv2 : validB (repl kt a p) with
        | false =>
          rw [show checkP y (repl kt a p) = ([], 1) by unfold checkP; rw [hv2]; rfl] at HCR
          unfold sysV at HCR
          go_wp2_with fail
          refine HCR.out.mono ?_
          rintro e w13 ⟨QB, qd, rfl, hq, hb13, hqd⟩
          have HB13 := Lib.hid (HBC.out.trans (hb13.mono HBC.out.size))
          have HO13 := Lib.hid ((hb13.block _ oz).trans HBO.out)
          have HT13 := Lib.hid (HTV.out.below hb13)
          clear hb13 hq hqd x0 x1 x2 x3 x4 x5 x6 t0 t1 t2 oz
          obtain ⟨t0, t1, t2⟩ := cell3 HO13.out
          have oz := lt_of_block HO13.out
          have HVV := Lib.hid (valid_any (repl kt a p) HFR.out _ sv Av Bv nv cv mv dv w13 HT13.out)
          rw [hv2] at HVV
          go_wp2_with fail
          refine HVV.out.mono ?_
          rintro e w14 ⟨rfl, hb14⟩
          have HB14 := Lib.hid (HB13.out.trans (hb14.mono HB13.out.size))
          clear hb14
          go_wp2
          go_ret
          exact ⟨rfl, FN.out _ HB14.out⟩
        | true =>
          cases hw2 : wrong (repl kt a p) y with
          | none =>
            rw [show checkP y (repl kt a p) = ([], 0) by unfold checkP; rw [hv2, hw2]; rfl] at HCR
            unfold sysV at HCR
            go_wp2_with fail
            refine HCR.out.mono ?_
            rintro e w13 ⟨QB, qd, rfl, hq, hb13, hqd⟩
            have HB13 := Lib.hid (HBC.out.trans (hb13.mono HBC.out.size))
            clear hb13 hq hqd x0 x1 x2 x3 x4 x5 x6 t0 t1 t2 oz
            go_wp2
            go_ret
            exact ⟨rfl, FN.out _ HB13.out⟩
          | some q =>
            rw [show checkP y (repl kt a p) = (q, 21) by unfold checkP; rw [hv2, hw2]; rfl] at HCR
            unfold sysV at HCR
            have haft := Lib.hid (aft_repl p y a y' t' q HWR.out HNA.out HKW.out hw2)
            have hql : q.length ≤ 27 := by
              have := wrong_len _ (repl kt a p) (Nat.le_refl _) y q HLI.out hw2
              have := side_le HLI.out.box
              omega
            clear hv2 hw2
            go_wp2_with fail
            refine HCR.out.mono ?_
            rintro e w13 ⟨QB, qd, rfl, hq, hb13, hqd⟩
            have HB13 := Lib.hid (HBC.out.trans (hb13.mono HBC.out.size))
            have HQ := Lib.hid hq
            have HPQ := Lib.hid (HPC.out.below hb13)
            clear hb13 hq hqd x0 x1 x2 x3 x4 x5 x6 t0 t1 t2 oz
            go_wp2
            go_loopw [15, 93] (fun _ i wr => ∃ j : Nat, i = .int .i64 j ∧ j ≤ q.length ∧ Hid (aft (q.drop j) (p.drop j) = true) ∧ Below w13.heap.size w13 wr) (fun _ i _ => q.length - (intOf i).toNat)
            case atStart => exact ⟨0, rfl, Nat.zero_le _, haft, Below.refl _ _⟩
            case round =>
              obtain ⟨j, rfl, hj, hja, hbel⟩ := hrel
              by_cases hlt : j < q.length
              · by_cases hlp : j < p.length
                · have hst := aft_step hlt hlp
                  rw [hja.out] at hst
                  have e1 : (j : Int) < (q.length : Int) := by omega
                  have e2 : (j : Int) < (p.length : Int) := by omega
                  have e0 : (0 : Int) ≤ (j : Int) := by omega
                  have e3 : ((j : Int) == (p.length : Int)) = false := by rw [beq_eq_false_iff_ne]; omega
                  obtain ⟨gq, oq, rfl, hgq, cq⟩ := nat_get HQ.out hlt
                  obtain ⟨gp, op, rfl, hgp, cpp⟩ := nat_get HPQ.out hlp
                  have c1 := (hbel.cell (p := ⟨gq, oq + j, none⟩) hgq).trans cq
                  have c2 := (hbel.cell (p := ⟨gp, op + j, none⟩) hgp).trans cpp
                  clear cq cpp
                  generalize q[j] = qj at *
                  generalize p[j] = pj at *
                  by_cases hne : qj = pj
                  · rw [if_pos hne] at hst
                    have hst' := Lib.hid hst.symm
                    clear hst
                    subst hne
                    go_wp2_with fail
                    go_quiet (fail)
                    go_wp2
                    go_roundw
                    case rel => exact ⟨j + 1, by go_num, by omega, hst', hbel.trans ⟨rfl, rfl, rfl, Nat.le_refl _, fun _ _ => rfl⟩⟩
                    case measure => simp [intOf]; omega
                  · rw [if_neg hne] at hst
                    have hlt2 : pj < qj := of_decide_eq_true hst.symm
                    have e4 : ((qj : Int) != (pj : Int)) = true := by simp; omega
                    have e5 : decide ((pj : Int) < (qj : Int)) = true := decide_eq_true (by omega)
                    clear hst hne
                    go_wp2_with fail
                    go_quiet (fail)
                    go_wp2_with fail
                    go_quiet (fail)
                    go_wp2
                    go_ret
                    exact ⟨rfl, FN.out _ (HB13.out.trans (Below.mono (hbel.trans ⟨rfl, rfl, rfl, Nat.le_refl _, fun _ _ => rfl⟩) HB13.out.size))⟩
                · have := aft_short (q := q) (p := p) (k := j) (by omega)
                  rw [hja.out] at this
                  cases this
              · have := aft_end (q := q) (p := p) (k := j) (by omega)
                rw [hja.out] at this
                cases this
end Go.Proofs.YtjjohllfidmkjaaDoor.PfW
