/- Law walk: ProofBuild. -/
import Derived.Test.YtjjohllfidmkjaaDoorPfB5
import Derived.Test.YtjjohllfidmkjaaDoorPfB7
import Derived.Test.YtjjohllfidmkjaaDoorPfLd
namespace Go.Proofs.YtjjohllfidmkjaaDoor.Pf
open Go
theorem leaf_fit (i : Nat) : Fit (.mk 0 [] [(i : Int)]) := by
  unfold Fit FitL
  simp
theorem made_size : ∀ (f : Nat) (s : Syst) (t : T), made f s = some t → nodes t + 1 ≤ 2 ^ (f + 1) ∧ Fit t := by
  intro f
  induction f with
  | zero =>
    intro s t h
    cases hr : refuted s with
    | none => rw [made, hr] at h; cases h
    | some i => rw [made_leaf hr] at h; cases h; exact ⟨by simp [nodes, nodesL], leaf_fit i⟩
  | succ f ih =>
    intro s t h
    cases hr : refuted s with
    | some i =>
      rw [made_leaf hr] at h
      cases h
      refine ⟨?_, leaf_fit i⟩
      have h2 := Nat.one_le_two_pow (n := f)
      have h3 : 2 ^ (f + 1 + 1) = 2 * (2 * 2 ^ f) := by rw [Nat.pow_succ, Nat.pow_succ]; omega
      simp only [nodes, nodesL]
      omega
    | none =>
      cases hp : parts s (widest s) with
      | none => rw [made_no hr hp] at h; cases h
      | some ab =>
        obtain ⟨a, b⟩ := ab
        rw [made_step hr hp] at h
        cases ha : made f a with
        | none => rw [ha] at h; cases h
        | some ta =>
          rw [ha] at h
          cases hb : made f b with
          | none => simp only [hb] at h; cases h
          | some tb =>
            simp only [hb] at h
            cases h
            obtain ⟨a1, a2⟩ := ih a ta ha
            obtain ⟨b1, b2⟩ := ih b tb hb
            have h3 : 2 ^ (f + 1 + 1) = 2 * 2 ^ (f + 1) := by rw [Nat.pow_succ 2 (f + 1)]; omega
            refine ⟨by simp only [nodes, nodesL]; omega, ?_⟩
            unfold Fit FitL FitL FitL
            exact ⟨by simp, by simp, a2, b2, trivial⟩
/-- What is made is valid, exactly if it is not too great. -/
theorem made_valid {s : Syst} {t : T} (hl : Little s) (h : made 27 s = some t) : validB t = decide (nodes t ≤ 2000) := by
  obtain ⟨h1, h2, h3⟩ := made_good 27 s t hl h
  obtain ⟨h4, _⟩ := made_size 27 s t h
  have h5 : nodes t ≤ 1000000000000 := by
    have : (2 : Nat) ^ (27 + 1) = 268435456 := by decide
    omega
  unfold validB
  rw [nW_eq t h5, (dW_eq t h5).1, h2, decide_eq_true (p := ((depth t : Int) ≤ 40)) (by omega)]
  simp only [Bool.and_true]
  by_cases hn : nodes t ≤ 2000
  · rw [decide_eq_true hn, decide_eq_true (by omega)]
  · rw [decide_eq_false hn, decide_eq_false (by omega)]
end Go.Proofs.YtjjohllfidmkjaaDoor.Pf
namespace Go.Proofs.YtjjohllfidmkjaaDoor.PfW
open Go Go.RowKit Go.Proofs.YtjjohllfidmkjaaDoor.Mem Go.Proofs.YtjjohllfidmkjaaDoor.Pf
set_option maxRecDepth 100000 in
set_option maxHeartbeats 4000000 in
theorem proofBuild_walk (y : Syst) (A : Option Addr) (cp : Nat) (w : World)
    (hrow : Row w A (y.rows.flatMap r4Cells)) (hlen : y.rows.length ≤ 4398046510976) (hG : Glob w) :
    Calls Tryd.prog 8 #[sysV y A cp] w fun e w' => e = .returned (.bool true) ∧ Below w.heap.size w w' := by
  have HO := Lib.hid (one_box w (.cells #[.int .i64 y.l0, .int .i64 y.l1, .int .i64 y.l2, .int .i64 y.h0, .int .i64 y.h1, .int .i64 y.h2, .slice A y.rows.length cp] 25))
  have HR := Lib.hid (hrow.below HO.out.1)
  have HGG := Lib.hid (hG.below HO.out.1)
  have HBW := Lib.hid HO.out.1
  have HXA := Lib.hid HO.out.2
  have HLT := Lib.hid (fun w => little_any y A cp w hlen)
  clear hrow hG HO
  unfold sysV at HLT ⊢
  go_enter Tryd.func8, Tryd.ntmps8
  go_wp2_with fail
  generalize w.alloc (.cells #[.int .i64 y.l0, .int .i64 y.l1, .int .i64 y.l2, .int .i64 y.h0, .int .i64 y.h1, .int .i64 y.h2, .slice A y.rows.length cp] 25) = W at *
  have HAW := Lib.hid (awake_any W HGG.out)
  refine HAW.out.mono ?_
  rintro e w1 ⟨rfl, hb1⟩
  have HB2 := Lib.hid hb1
  clear hb1 HAW
  have CA : Hid (∀ (w' : World), Below W.heap.size W w' → w'.heap[w.heap.size]? = some (.cells #[.int .i64 y.l0, .int .i64 y.l1, .int .i64 y.l2, .int .i64 y.h0, .int .i64 y.h1, .int .i64 y.h2, .slice A y.rows.length cp] 25)) := Lib.hid (fun _ hb => (hb.block _ (lt_of_block HXA.out)).trans HXA.out)
  have FN : Hid (∀ (w' : World), Below W.heap.size W w' → Below w.heap.size w w') := Lib.hid (fun _ hb => HBW.out.trans (hb.mono HBW.out.size))
  obtain ⟨x0, x1, x2, x3, x4, x5, x6⟩ := cell7 (CA.out _ HB2.out)
  have HF := Lib.hid (HLT.out w1 (HR.out.below HB2.out))
  go_wp2_with fail
  refine HF.out.mono ?_
  rintro e w3 ⟨rfl, hb3⟩
  have HB3 := Lib.hid (HB2.out.trans (hb3.mono HB2.out.size))
  clear hb3 HF x0 x1 x2 x3 x4 x5 x6
  cases hlit : littleB y
  · have HAW := Lib.hid (awake_any w3 (HGG.out.below HB3.out))
    go_wp2_with fail
    refine HAW.out.mono ?_
    rintro e wz ⟨rfl, hbz⟩
    have HBZ := Lib.hid (HB3.out.trans (hbz.mono HB3.out.size))
    clear hbz HAW
    go_wp2
    go_ret
    exact ⟨rfl, FN.out _ HBZ.out⟩
  have hli := little_of hlit
  have HLI := Lib.hid hli
  have hbm := bld_made 27 y 0 (by omega)
  clear hlit
  cases hmd : made 27 y with
  | none =>
    rw [hmd] at hbm
    simp only at hbm
    obtain ⟨p1, p2, p3, h1, h2⟩ := made_none 27 y hli (side_le hli.box) hmd
    have hfu := fulf_yes h1 h2
    clear hli h1 h2
    rcases hbm with hbd | hbd
    all_goals
      obtain ⟨x0, x1, x2, x3, x4, x5, x6⟩ := cell7 (CA.out _ HB3.out)
      have HBU := Lib.hid (built_any y A cp w3 HLI.out (HR.out.below HB3.out))
      rw [hbd] at HBU
      unfold sysV at HBU
      go_wp2_with fail
      refine HBU.out.mono ?_
      rintro e w4 ⟨hb4, rfl⟩
      have HB4 := Lib.hid (HB3.out.trans (hb4.mono HB3.out.size))

      clear hb4 HBU x0 x1 x2 x3 x4 x5 x6
      have X5 := Lib.hid (one_box w4 (.cells #[.int .i64 0, .slice none 0 0, .slice none 0 0] 38))
      have HB5 := Lib.hid (HB4.out.trans (X5.out.1.mono HB4.out.size))
      obtain ⟨x0, x1, x2, x3, x4, x5, x6⟩ := cell7 (CA.out _ HB4.out)
      have xz := lt_of_block (CA.out _ HB4.out)
      go_upto_region 4 with fail
      clear x0 x1 x2 x3 x4 x5 x6 xz
      have T5 := Lib.hid X5.out.2

      clear X5 
      generalize w4.alloc (.cells #[.int .i64 0, .slice none 0 0, .slice none 0 0] 38) = W5 at *
      obtain ⟨x0, x1, x2, x3, x4, x5, x6⟩ := cell7 (CA.out _ HB5.out)
      have HMA := Lib.hid (made_any 27 y A cp W5 HLI.out (side_le HLI.out.box) (HR.out.below HB5.out))
      rw [hmd] at HMA
      unfold sysV at HMA
      go_wp2_with fail
      refine HMA.out.mono ?_
      rintro e w6 ⟨hb6, rfl⟩
      have HB6 := Lib.hid (HB5.out.trans (hb6.mono HB5.out.size))
      have T6 := Lib.hid ((hb6.block _ (lt_of_block T5.out)).trans T5.out)


      clear hb6 HMA x0 x1 x2 x3 x4 x5 x6 T5
      have X7 := Lib.hid (one_box w6 (.cells #[.int .i64 0, .slice none 0 0, .slice none 0 0] 29))
      have HB7 := Lib.hid (HB6.out.trans (X7.out.1.mono HB6.out.size))
      obtain ⟨x0, x1, x2, x3, x4, x5, x6⟩ := cell7 (CA.out _ HB6.out)
      have xz := lt_of_block (CA.out _ HB6.out)
      go_upto_region 5 with fail
      clear x0 x1 x2 x3 x4 x5 x6 xz
      have U7 := Lib.hid X7.out.2
      have T7 := Lib.hid ((X7.out.1.block _ (lt_of_block T6.out)).trans T6.out)


      clear X7 T6
      generalize w6.alloc (.cells #[.int .i64 0, .slice none 0 0, .slice none 0 0] 29) = W7 at *
      obtain ⟨x0, x1, x2, x3, x4, x5, x6⟩ := cell7 (CA.out _ HB7.out)
      have HFU := Lib.hid (fulfilled_any y A cp W7 HLI.out (HR.out.below HB7.out))
      unfold sysV at HFU
      rw [hfu] at HFU
      go_wp2_with fail
      refine HFU.out.mono ?_
      rintro e w8 ⟨rfl, hb8⟩
      have HB8 := Lib.hid (HB7.out.trans (hb8.mono HB7.out.size))
      have U8 := Lib.hid ((hb8.block _ (lt_of_block U7.out)).trans U7.out)
      have T8 := Lib.hid ((hb8.block _ (lt_of_block T7.out)).trans T7.out)


      clear hb8 HFU x0 x1 x2 x3 x4 x5 x6 U7 T7
      obtain ⟨x0, x1, x2⟩ := cell3 T8.out
      go_wp2
      go_ret
      exact ⟨rfl, FN.out _ HB8.out⟩
  | some t =>
    rw [hmd] at hbm
    simp only at hbm
    have hva := made_valid hli hmd
    obtain ⟨h1, h2, h3⟩ := made_good 27 y t hli hmd
    have hfu := fulf_no h1
    have hwr := Lib.hid h1
    have hfit := Lib.hid (made_size 27 y t hmd).2
    clear hli h1 h2 h3
    by_cases hn : nodes t ≤ 2000
    · rw [decide_eq_true hn] at hva
      rw [if_pos (by omega)] at hbm
      have hbd := hbm
      clear hbm hn
      obtain ⟨x0, x1, x2, x3, x4, x5, x6⟩ := cell7 (CA.out _ HB3.out)
      have HBU := Lib.hid (built_any y A cp w3 HLI.out (HR.out.below HB3.out))
      rw [hbd] at HBU
      unfold sysV at HBU
      go_wp2_with fail
      refine HBU.out.mono ?_
      rintro e w4 ⟨hb4, s4, A4, m4, c4, B4, k4, d4, rfl, hT4⟩
      have HB4 := Lib.hid (HB3.out.trans (hb4.mono HB3.out.size))
      have HT4 := Lib.hid hT4
      clear hb4 HBU x0 x1 x2 x3 x4 x5 x6
      have X5 := Lib.hid (one_box w4 (.cells #[.int .i64 s4, .slice A4 m4 c4, .slice B4 k4 d4] 38))
      have HB5 := Lib.hid (HB4.out.trans (X5.out.1.mono HB4.out.size))
      obtain ⟨x0, x1, x2, x3, x4, x5, x6⟩ := cell7 (CA.out _ HB4.out)
      have xz := lt_of_block (CA.out _ HB4.out)
      go_upto_region 4 with fail
      clear x0 x1 x2 x3 x4 x5 x6 xz
      have T5 := Lib.hid X5.out.2
      have HT5 := Lib.hid (HT4.out.below X5.out.1)
      clear X5 HT4
      generalize w4.alloc (.cells #[.int .i64 s4, .slice A4 m4 c4, .slice B4 k4 d4] 38) = W5 at *
      obtain ⟨x0, x1, x2, x3, x4, x5, x6⟩ := cell7 (CA.out _ HB5.out)
      have HMA := Lib.hid (made_any 27 y A cp W5 HLI.out (side_le HLI.out.box) (HR.out.below HB5.out))
      rw [hmd] at HMA
      unfold sysV at HMA
      go_wp2_with fail
      refine HMA.out.mono ?_
      rintro e w6 ⟨hb6, s6, A6, m6, c6, B6, k6, d6, rfl, hT6⟩
      have HB6 := Lib.hid (HB5.out.trans (hb6.mono HB5.out.size))
      have T6 := Lib.hid ((hb6.block _ (lt_of_block T5.out)).trans T5.out)
      have HT6 := Lib.hid (HT5.out.below hb6)
      have HW6 := Lib.hid hT6
      clear hb6 HMA x0 x1 x2 x3 x4 x5 x6 T5
      have X7 := Lib.hid (one_box w6 (.cells #[.int .i64 s6, .slice A6 m6 c6, .slice B6 k6 d6] 29))
      have HB7 := Lib.hid (HB6.out.trans (X7.out.1.mono HB6.out.size))
      obtain ⟨x0, x1, x2, x3, x4, x5, x6⟩ := cell7 (CA.out _ HB6.out)
      have xz := lt_of_block (CA.out _ HB6.out)
      go_upto_region 5 with fail
      clear x0 x1 x2 x3 x4 x5 x6 xz
      have U7 := Lib.hid X7.out.2
      have T7 := Lib.hid ((X7.out.1.block _ (lt_of_block T6.out)).trans T6.out)
      have HT7 := Lib.hid (HT6.out.below X7.out.1)
      have HW7 := Lib.hid (HW6.out.below X7.out.1)
      clear X7 T6
      generalize w6.alloc (.cells #[.int .i64 s6, .slice A6 m6 c6, .slice B6 k6 d6] 29) = W7 at *
      obtain ⟨x0, x1, x2, x3, x4, x5, x6⟩ := cell7 (CA.out _ HB7.out)
      have HFU := Lib.hid (fulfilled_any y A cp W7 HLI.out (HR.out.below HB7.out))
      unfold sysV at HFU
      rw [hfu] at HFU
      go_wp2_with fail
      refine HFU.out.mono ?_
      rintro e w8 ⟨rfl, hb8⟩
      have HB8 := Lib.hid (HB7.out.trans (hb8.mono HB7.out.size))
      have U8 := Lib.hid ((hb8.block _ (lt_of_block U7.out)).trans U7.out)
      have T8 := Lib.hid ((hb8.block _ (lt_of_block T7.out)).trans T7.out)
      have HT8 := Lib.hid (HT7.out.below hb8)
      have HW8 := Lib.hid (HW7.out.below hb8)
      clear hb8 HFU x0 x1 x2 x3 x4 x5 x6 U7 T7
      obtain ⟨x0, x1, x2⟩ := cell3 U8.out
      have HVA := Lib.hid (rvalid_any t hfit.out _ s6 A6 B6 m6 c6 k6 d6 w8 HW8.out)
      rw [hva] at HVA
      go_wp2_with fail
      refine HVA.out.mono ?_
      rintro e w9 ⟨rfl, hb9⟩
      have HB9 := Lib.hid (HB8.out.trans (hb9.mono HB8.out.size))
      have U9 := Lib.hid ((hb9.block _ (lt_of_block U8.out)).trans U8.out)
      have T9 := Lib.hid ((hb9.block _ (lt_of_block T8.out)).trans T8.out)
      have HT9 := Lib.hid (HT8.out.below hb9)
      have HW9 := Lib.hid (HW8.out.below hb9)
      clear hb9 HVA x0 x1 x2 U8 T8
      obtain ⟨x0, x1, x2, x3, x4, x5, x6⟩ := cell7 (CA.out _ HB9.out)
      obtain ⟨t0, t1, t2⟩ := cell3 T9.out
      have HCK := Lib.hid (check_any y t HLI.out hfit.out _ _ _ _ _ _ _ _ A cp w9 HT9.out (HR.out.below HB9.out))
      rw [show checkP y t = ([], 0) by unfold checkP; rw [hva, hwr.out]; rfl] at HCK
      unfold sysV at HCK
      go_wp2_with fail
      refine HCK.out.mono ?_
      rintro e wc ⟨PB, pd, rfl, hp, hbc⟩
      have HBC := Lib.hid (HB9.out.trans (hbc.mono HB9.out.size))
      have TC := Lib.hid ((hbc.block _ (lt_of_block T9.out)).trans T9.out)
      have UC := Lib.hid ((hbc.block _ (lt_of_block U9.out)).trans U9.out)
      have HTC := Lib.hid (HT9.out.below hbc)
      have HWC := Lib.hid (HW9.out.below hbc)
      clear hbc hp HCK x0 x1 x2 x3 x4 x5 x6 t0 t1 t2 T9 U9
      go_wp2_with fail
      have CS : Hid (∀ w', Below wc.heap.size wc w' → w'.cell? ⟨w4.heap.size, 0, none⟩ = some (.int .i64 s4) ∧ w'.cell? ⟨w4.heap.size, 1, none⟩ = some (.slice A4 m4 c4) ∧ w'.cell? ⟨w4.heap.size, 2, none⟩ = some (.slice B4 k4 d4) ∧ w'.cell? ⟨w6.heap.size, 0, none⟩ = some (.int .i64 s6) ∧ w'.cell? ⟨w6.heap.size, 1, none⟩ = some (.slice A6 m6 c6) ∧ w'.cell? ⟨w6.heap.size, 2, none⟩ = some (.slice B6 k6 d6) ∧ Below wc.heap.size wc w') := Lib.hid (fun w' hb => by
        obtain ⟨a0, a1, a2⟩ := cell3 ((hb.block _ (lt_of_block TC.out)).trans TC.out)
        obtain ⟨b0, b1, b2⟩ := cell3 ((hb.block _ (lt_of_block UC.out)).trans UC.out)
        exact ⟨a0, a1, a2, b0, b1, b2, hb⟩)
      have HTH := Lib.hid (theirs_any (nodes t) t (Nat.le_refl _) hfit.out)
      have HSA := Lib.hid (rsame_any (nodes t) t t (Nat.le_refl _) hfit.out hfit.out)
      rw [sameB_self] at HSA
      have hrf := Below.refl wc.heap.size wc
      go_region_held3 (fun w' => w'.cell? ⟨w4.heap.size, 0, none⟩ = some (.int .i64 s4) ∧ w'.cell? ⟨w4.heap.size, 1, none⟩ = some (.slice A4 m4 c4) ∧ w'.cell? ⟨w4.heap.size, 2, none⟩ = some (.slice B4 k4 d4) ∧ w'.cell? ⟨w6.heap.size, 0, none⟩ = some (.int .i64 s6) ∧ w'.cell? ⟨w6.heap.size, 1, none⟩ = some (.slice A6 m6 c6) ∧ w'.cell? ⟨w6.heap.size, 2, none⟩ = some (.slice B6 k6 d6) ∧ Below wc.heap.size wc w')
        (first | assumption | exact CS.out _ (below_drew (by assumption)) | exact CS.out _ (by assumption))
        (first
         | (go_at_call 32; obtain ⟨_, _, _, _, _, _, hbx⟩ := ‹_ ∧ _ ∧ _ ∧ _ ∧ _ ∧ _ ∧ Below _ _ _›; refine (HTH.out _ _ _ (HTC.out.below hbx)).mono ?_; rintro e wd ⟨sd, Ad, nd, cd, Bd, md, dd, rfl, htd, hbd0⟩; have hbd1 : Below wc.heap.size wc wd := hbx.trans (hbd0.mono hbx.size))
         | (go_at_call 21; refine (HSA.out _ _ _ _ _ (TreeIn.below htd (below_drew (Below.refl _ _))) (HWC.out.below (below_drew hbd1))).mono ?_; rintro e we ⟨rfl, hbe0⟩; have hbe : Below wc.heap.size wc we := (below_drew hbd1).trans (hbe0.mono hbd1.size))
         | (go_at_call 21; refine (HSA.out _ _ _ _ _ htd (HWC.out.below hbd1)).mono ?_; rintro e we ⟨rfl, hbe0⟩; have hbe : Below wc.heap.size wc we := hbd1.trans (hbe0.mono hbd1.size)))
      have HBE := Lib.hid hbe
      go_wp2
      go_ret
      exact ⟨rfl, FN.out _ (HBC.out.trans (HBE.out.mono HBC.out.size))⟩
    · rw [decide_eq_false hn] at hva
      rw [if_neg (by omega)] at hbm
      have hbd := hbm
      clear hbm hn
      obtain ⟨x0, x1, x2, x3, x4, x5, x6⟩ := cell7 (CA.out _ HB3.out)
      have HBU := Lib.hid (built_any y A cp w3 HLI.out (HR.out.below HB3.out))
      rw [hbd] at HBU
      unfold sysV at HBU
      go_wp2_with fail
      refine HBU.out.mono ?_
      rintro e w4 ⟨hb4, rfl⟩
      have HB4 := Lib.hid (HB3.out.trans (hb4.mono HB3.out.size))

      clear hb4 HBU x0 x1 x2 x3 x4 x5 x6
      have X5 := Lib.hid (one_box w4 (.cells #[.int .i64 0, .slice none 0 0, .slice none 0 0] 38))
      have HB5 := Lib.hid (HB4.out.trans (X5.out.1.mono HB4.out.size))
      obtain ⟨x0, x1, x2, x3, x4, x5, x6⟩ := cell7 (CA.out _ HB4.out)
      have xz := lt_of_block (CA.out _ HB4.out)
      go_upto_region 4 with fail
      clear x0 x1 x2 x3 x4 x5 x6 xz
      have T5 := Lib.hid X5.out.2

      clear X5 
      generalize w4.alloc (.cells #[.int .i64 0, .slice none 0 0, .slice none 0 0] 38) = W5 at *
      obtain ⟨x0, x1, x2, x3, x4, x5, x6⟩ := cell7 (CA.out _ HB5.out)
      have HMA := Lib.hid (made_any 27 y A cp W5 HLI.out (side_le HLI.out.box) (HR.out.below HB5.out))
      rw [hmd] at HMA
      unfold sysV at HMA
      go_wp2_with fail
      refine HMA.out.mono ?_
      rintro e w6 ⟨hb6, s6, A6, m6, c6, B6, k6, d6, rfl, hT6⟩
      have HB6 := Lib.hid (HB5.out.trans (hb6.mono HB5.out.size))
      have T6 := Lib.hid ((hb6.block _ (lt_of_block T5.out)).trans T5.out)

      have HW6 := Lib.hid hT6
      clear hb6 HMA x0 x1 x2 x3 x4 x5 x6 T5
      have X7 := Lib.hid (one_box w6 (.cells #[.int .i64 s6, .slice A6 m6 c6, .slice B6 k6 d6] 29))
      have HB7 := Lib.hid (HB6.out.trans (X7.out.1.mono HB6.out.size))
      obtain ⟨x0, x1, x2, x3, x4, x5, x6⟩ := cell7 (CA.out _ HB6.out)
      have xz := lt_of_block (CA.out _ HB6.out)
      go_upto_region 5 with fail
      clear x0 x1 x2 x3 x4 x5 x6 xz
      have U7 := Lib.hid X7.out.2
      have T7 := Lib.hid ((X7.out.1.block _ (lt_of_block T6.out)).trans T6.out)

      have HW7 := Lib.hid (HW6.out.below X7.out.1)
      clear X7 T6
      generalize w6.alloc (.cells #[.int .i64 s6, .slice A6 m6 c6, .slice B6 k6 d6] 29) = W7 at *
      obtain ⟨x0, x1, x2, x3, x4, x5, x6⟩ := cell7 (CA.out _ HB7.out)
      have HFU := Lib.hid (fulfilled_any y A cp W7 HLI.out (HR.out.below HB7.out))
      unfold sysV at HFU
      rw [hfu] at HFU
      go_wp2_with fail
      refine HFU.out.mono ?_
      rintro e w8 ⟨rfl, hb8⟩
      have HB8 := Lib.hid (HB7.out.trans (hb8.mono HB7.out.size))
      have U8 := Lib.hid ((hb8.block _ (lt_of_block U7.out)).trans U7.out)
      have T8 := Lib.hid ((hb8.block _ (lt_of_block T7.out)).trans T7.out)

      have HW8 := Lib.hid (HW7.out.below hb8)
      clear hb8 HFU x0 x1 x2 x3 x4 x5 x6 U7 T7
      obtain ⟨x0, x1, x2⟩ := cell3 U8.out
      have HVA := Lib.hid (rvalid_any t hfit.out _ s6 A6 B6 m6 c6 k6 d6 w8 HW8.out)
      rw [hva] at HVA
      go_wp2_with fail
      refine HVA.out.mono ?_
      rintro e w9 ⟨rfl, hb9⟩
      have HB9 := Lib.hid (HB8.out.trans (hb9.mono HB8.out.size))
      clear hb9 x0 x1 x2
      go_wp2
      go_ret
      exact ⟨rfl, FN.out _ HB9.out⟩
end Go.Proofs.YtjjohllfidmkjaaDoor.PfW
