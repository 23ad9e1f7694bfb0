/- Walk: how two segments meet. Conditions: none. -/
import Derived.Test.YtnmmhcchpcbeeaaGreatGeL
import Derived.Test.YtnmmhcchpcbeeaaGreatGeH

namespace Go.Proofs.YtnmmhcchpcbeeaaGreat.Ge
theorem seg_in {ax ay bx b_y : Int} (h : segOk ((ax, ay), (bx, b_y)) = true) : ((-4000 ≤ ax ∧ ax ≤ 4000) ∧ (-4000 ≤ ay ∧ ay ≤ 4000)) ∧ ((-4000 ≤ bx ∧ bx ≤ 4000) ∧ (-4000 ≤ b_y ∧ b_y ≤ 4000)) := by
  unfold segOk at h
  simp only [Bool.and_eq_true] at h
  obtain ⟨⟨a1, a2⟩, a3, a4⟩ := within_in h.1
  obtain ⟨⟨b1, b2⟩, b3, b4⟩ := within_in h.2
  exact ⟨⟨⟨a1, a2⟩, a3, a4⟩, ⟨b1, b2⟩, b3, b4⟩
end Go.Proofs.YtnmmhcchpcbeeaaGreat.Ge
namespace Go.Proofs.YtnmmhcchpcbeeaaGreat.GeW
open Go Go.Proofs.YtnmmhcchpcbeeaaGreat.Ge
def ends4 (k : Nat) (a b c d : V) (t : TypeId) : Obj := .cells #[.int .i64 (if 1 ≤ k then lo a b else a).1, .int .i64 (if 1 ≤ k then lo a b else a).2, .int .i64 (if 1 ≤ k then hi a b else b).1, .int .i64 (if 1 ≤ k then hi a b else b).2, .int .i64 (if 2 ≤ k then lo c d else c).1, .int .i64 (if 2 ≤ k then lo c d else c).2, .int .i64 (if 2 ≤ k then hi c d else d).1, .int .i64 (if 2 ≤ k then hi c d else d).2] t (0, 0)
open Go Go.RowKit Go.Proofs.YtnmmhcchpcbeeaaGreat.Mem Go.Proofs.YtnmmhcchpcbeeaaGreat.Ge
attribute [local go_sem ↓] Go.wp_at_zero Go.wp_at_succ
set_option maxRecDepth 100000 in
set_option maxHeartbeats 8000000 in
theorem meet_any (ax ay bx b_y cx cy dx dy : Int) (w : World) :
    Calls Tryz.prog 158 #[.agg #[.int .i64 ax, .int .i64 ay, .int .i64 bx, .int .i64 b_y], .agg #[.int .i64 cx, .int .i64 cy, .int .i64 dx, .int .i64 dy]] w fun e w' => (∃ v, e = .returned v ∧ Common (meetK ((ax, ay), (bx, b_y)) ((cx, cy), (dx, dy))) v) ∧ Below w.heap.size w w' := by
  have HX := Lib.hid (three_vecs w (.cells #[.int .i64 ax, .int .i64 ay, .int .i64 bx, .int .i64 b_y] 74) (.cells #[.int .i64 cx, .int .i64 cy, .int .i64 dx, .int .i64 dy] 74) (.cells #[.int .i64 0, .int .i64 0, .int .i64 0, .int .i64 0, .int .i64 0, .int .i64 0, .int .i64 0, .int .i64 0] 160))
  have HV1 := Lib.hid (fun W => segok_any ax ay bx b_y W)
  have HV2 := Lib.hid (fun W => segok_any cx cy dx dy W)
  go_enter Tryz.func158, Tryz.ntmps158
  go_upto_region 1 with fail
  generalize ((w.alloc (.cells #[.int .i64 ax, .int .i64 ay, .int .i64 bx, .int .i64 b_y] 74)).alloc (.cells #[.int .i64 cx, .int .i64 cy, .int .i64 dx, .int .i64 dy] 74)).alloc (.cells #[.int .i64 0, .int .i64 0, .int .i64 0, .int .i64 0, .int .i64 0, .int .i64 0, .int .i64 0, .int .i64 0] 160) = W at *
  have CS : Hid (∀ w', Below W.heap.size W w' → w'.cell? ⟨w.heap.size, 0, none⟩ = some (.int .i64 ax) ∧ w'.cell? ⟨w.heap.size, 1, none⟩ = some (.int .i64 ay) ∧ w'.cell? ⟨w.heap.size, 2, none⟩ = some (.int .i64 bx) ∧ w'.cell? ⟨w.heap.size, 3, none⟩ = some (.int .i64 b_y) ∧ w'.cell? ⟨w.heap.size + 1, 0, none⟩ = some (.int .i64 cx) ∧ w'.cell? ⟨w.heap.size + 1, 1, none⟩ = some (.int .i64 cy) ∧ w'.cell? ⟨w.heap.size + 1, 2, none⟩ = some (.int .i64 dx) ∧ w'.cell? ⟨w.heap.size + 1, 3, none⟩ = some (.int .i64 dy) ∧ Below W.heap.size W w') := Lib.hid (fun w' hb => by
    obtain ⟨s0, s1, s2, s3⟩ := quad_at HX.out.1 hb
    obtain ⟨t0, t1, t2, t3⟩ := quad_at HX.out.2.1 hb
    exact ⟨s0, s1, s2, s3, t0, t1, t2, t3, hb⟩)
  have HBW := Lib.hid (Below.refl W.heap.size W)
  cases hs : segOk ((ax, ay), (bx, b_y))
  · have HK : Hid (meetK ((ax, ay), (bx, b_y)) ((cx, cy), (dx, dy)) = 0) := Lib.hid (by unfold meetK; rw [hs]; rfl)
    rw [hs] at HV1
    clear hs
    obtain ⟨q0, q1, q2, q3, q4, q5, q6, q7, q8⟩ := CS.out _ HBW.out
    go_wp2_with fail
    refine (HV1.out _).mono ?_
    rintro en1 w1 ⟨rfl, hb1⟩
    have HBW := Lib.hid (HBW.out.trans (hb1.mono (Below.size HBW.out)))
    clear hb1
    clear q0 q1 q2 q3 q4 q5 q6 q7 q8
    obtain ⟨⟨c0, c1, c2, c3, c4, c5, c6, c7⟩, hf, hz⟩ := oct_at HX.out.2.2.1 HBW.out
    have f0 := hf 0
    have f1 := hf 1
    have f2 := hf 2
    have f3 := hf 3
    have f4 := hf 4
    have f5 := hf 5
    have f6 := hf 6
    have f7 := hf 7
    clear hf
    have HBT := Lib.hid (HX.out.2.2.2.trans (HBW.out.mono (Below.size HX.out.2.2.2)))
    go_wp2
    refine bodyPost_ret (v := .agg #[.int .i64 0, .int .i64 0, .int .i64 0, .int .i64 0, .int .i64 0, .int .i64 0, .int .i64 0, .int .i64 0]) (by simp [results, Tryz.results158, go_sem, c0, c1, c2, c3, c4, c5, c6, c7]) rfl ⟨⟨_, rfl, ?_⟩, ?_⟩
    · rw [HK.out]
      exact ⟨_, _, _, _, _, _, _, rfl⟩
    · exact ((((((((HBT.out.setCell (show w.heap.size ≤ w.heap.size + 1 + 1 by omega) _).setCell (show w.heap.size ≤ w.heap.size + 1 + 1 by omega) _).setCell (show w.heap.size ≤ w.heap.size + 1 + 1 by omega) _).setCell (show w.heap.size ≤ w.heap.size + 1 + 1 by omega) _).setCell (show w.heap.size ≤ w.heap.size + 1 + 1 by omega) _).setCell (show w.heap.size ≤ w.heap.size + 1 + 1 by omega) _).setCell (show w.heap.size ≤ w.heap.size + 1 + 1 by omega) _).setCell (show w.heap.size ≤ w.heap.size + 1 + 1 by omega) _)
  · cases ht : segOk ((cx, cy), (dx, dy))
    · have HK : Hid (meetK ((ax, ay), (bx, b_y)) ((cx, cy), (dx, dy)) = 0) := Lib.hid (by unfold meetK; rw [hs, ht]; rfl)
      rw [hs] at HV1
      rw [ht] at HV2
      clear hs ht
      obtain ⟨q0, q1, q2, q3, q4, q5, q6, q7, q8⟩ := CS.out _ HBW.out
      go_wp2_with fail
      refine (HV1.out _).mono ?_
      rintro en1 w1 ⟨rfl, hb1⟩
      have HBW := Lib.hid (HBW.out.trans (hb1.mono (Below.size HBW.out)))
      clear hb1
      clear q0 q1 q2 q3 q4 q5 q6 q7 q8
      obtain ⟨q0, q1, q2, q3, q4, q5, q6, q7, q8⟩ := CS.out _ HBW.out
      go_wp2_with fail
      refine (HV2.out _).mono ?_
      rintro en2 w2 ⟨rfl, hb2⟩
      have HBW := Lib.hid (HBW.out.trans (hb2.mono (Below.size HBW.out)))
      clear hb2
      clear q0 q1 q2 q3 q4 q5 q6 q7 q8
      obtain ⟨⟨c0, c1, c2, c3, c4, c5, c6, c7⟩, hf, hz⟩ := oct_at HX.out.2.2.1 HBW.out
      have f0 := hf 0
      have f1 := hf 1
      have f2 := hf 2
      have f3 := hf 3
      have f4 := hf 4
      have f5 := hf 5
      have f6 := hf 6
      have f7 := hf 7
      clear hf
      have HBT := Lib.hid (HX.out.2.2.2.trans (HBW.out.mono (Below.size HX.out.2.2.2)))
      go_wp2
      refine bodyPost_ret (v := .agg #[.int .i64 0, .int .i64 0, .int .i64 0, .int .i64 0, .int .i64 0, .int .i64 0, .int .i64 0, .int .i64 0]) (by simp [results, Tryz.results158, go_sem, c0, c1, c2, c3, c4, c5, c6, c7]) rfl ⟨⟨_, rfl, ?_⟩, ?_⟩
      · rw [HK.out]
        exact ⟨_, _, _, _, _, _, _, rfl⟩
      · exact ((((((((HBT.out.setCell (show w.heap.size ≤ w.heap.size + 1 + 1 by omega) _).setCell (show w.heap.size ≤ w.heap.size + 1 + 1 by omega) _).setCell (show w.heap.size ≤ w.heap.size + 1 + 1 by omega) _).setCell (show w.heap.size ≤ w.heap.size + 1 + 1 by omega) _).setCell (show w.heap.size ≤ w.heap.size + 1 + 1 by omega) _).setCell (show w.heap.size ≤ w.heap.size + 1 + 1 by omega) _).setCell (show w.heap.size ≤ w.heap.size + 1 + 1 by omega) _).setCell (show w.heap.size ≤ w.heap.size + 1 + 1 by omega) _)
    · obtain ⟨⟨h1, h2⟩, ⟨h3, h4⟩⟩ := seg_in hs
      obtain ⟨⟨h5, h6⟩, ⟨h7, h8⟩⟩ := seg_in ht
      have HM : Hid (meetK ((ax, ay), (bx, b_y)) ((cx, cy), (dx, dy)) = if cross (bx - ax, b_y - ay) (dx - cx, dy - cy) ≠ 0 then linesK ((ax, ay), (bx, b_y)) ((cx, cy), (dx, dy)) (cross (bx - ax, b_y - ay) (dx - cx, dy - cy)) else if (ax, ay) = (bx, b_y) ∧ on ((cx, cy), (dx, dy)) (ax, ay) = true then 1 else if (cx, cy) = (dx, dy) ∧ on ((ax, ay), (bx, b_y)) (cx, cy) = true then 1 else if (ax, ay) = (bx, b_y) ∨ (cx, cy) = (dx, dy) ∨ turn (ax, ay) (bx, b_y) (cx, cy) ≠ 0 then 0 else alongK ((ax, ay), (bx, b_y)) ((cx, cy), (dx, dy))) := Lib.hid (by unfold meetK; rw [hs, ht]; rfl)
      rw [hs] at HV1
      rw [ht] at HV2
      clear hs ht
      obtain ⟨d, HD⟩ : ∃ d, Hid (d = cross (bx - ax, b_y - ay) (dx - cx, dy - cy)) := ⟨_, Lib.hid rfl⟩
      have HDb : Hid (-128000000 ≤ d ∧ d ≤ 128000000) := Lib.hid (by rw [HD.out]; exact cross_le (by omega) (by omega) (by omega) (by omega))
      have HCA := Lib.hid (fun W => cross_any8 (bx - ax) (b_y - ay) (dx - cx) (dy - cy) W (by omega) (by omega) (by omega) (by omega))
      have HU := Lib.hid (fun W => sub_any bx b_y ax ay W (by omega) (by omega) (by omega) (by omega))
      have HV := Lib.hid (fun W => sub_any dx dy cx cy W (by omega) (by omega) (by omega) (by omega))
      rw [← HD.out] at HCA HM
      clear HD
      obtain ⟨q0, q1, q2, q3, q4, q5, q6, q7, q8⟩ := CS.out _ HBW.out
      go_wp2_with fail
      refine (HV1.out _).mono ?_
      rintro en1 w1 ⟨rfl, hb1⟩
      have HBW := Lib.hid (HBW.out.trans (hb1.mono (Below.size HBW.out)))
      clear hb1
      clear q0 q1 q2 q3 q4 q5 q6 q7 q8
      obtain ⟨q0, q1, q2, q3, q4, q5, q6, q7, q8⟩ := CS.out _ HBW.out
      go_wp2_with fail
      refine (HV2.out _).mono ?_
      rintro en2 w2 ⟨rfl, hb2⟩
      have HBW := Lib.hid (HBW.out.trans (hb2.mono (Below.size HBW.out)))
      clear hb2
      clear q0 q1 q2 q3 q4 q5 q6 q7 q8
      obtain ⟨q0, q1, q2, q3, q4, q5, q6, q7, q8⟩ := CS.out _ HBW.out
      go_upto_region 3 with fail
      have tok1 := Lib.hid trivial
      go_region_held3 (fun w' => w'.cell? ⟨w.heap.size, 0, none⟩ = some (.int .i64 ax) ∧ w'.cell? ⟨w.heap.size, 1, none⟩ = some (.int .i64 ay) ∧ w'.cell? ⟨w.heap.size, 2, none⟩ = some (.int .i64 bx) ∧ w'.cell? ⟨w.heap.size, 3, none⟩ = some (.int .i64 b_y) ∧ w'.cell? ⟨w.heap.size + 1, 0, none⟩ = some (.int .i64 cx) ∧ w'.cell? ⟨w.heap.size + 1, 1, none⟩ = some (.int .i64 cy) ∧ w'.cell? ⟨w.heap.size + 1, 2, none⟩ = some (.int .i64 dx) ∧ w'.cell? ⟨w.heap.size + 1, 3, none⟩ = some (.int .i64 dy) ∧ Below W.heap.size W w')
        (first | assumption | exact CS.out _ (by (repeat (with_reducible first | assumption | exact Below.refl _ _ | refine below_drew ?_ | refine bel_alloc ?_ _ | (refine bel_set ?_ (by simp <;> omega) _)))))
        (first
         | (go_at_call 94; clear tok1; obtain ⟨_, _, _, _, _, _, _, _, hbx⟩ := ‹_ ∧ _ ∧ _ ∧ _ ∧ _ ∧ _ ∧ _ ∧ _ ∧ Below _ _ _›; refine (HU.out _).mono ?_; rintro en3 w3 ⟨rfl, hb30⟩; have hb3 : Below W.heap.size W w3 := hbx.trans (hb30.mono (Below.size hbx)))
         | (go_at_call 94; refine (HV.out _).mono ?_; rintro en4 w4 ⟨rfl, hb40⟩; have hb4 : Below W.heap.size W w4 := hb3.trans (hb40.mono (Below.size hb3)))
         | (go_at_call 149; refine (HCA.out _).mono ?_; rintro en5 w5 ⟨rfl, hb50⟩; have hb5 : Below W.heap.size W w5 := hb4.trans (hb50.mono (Below.size hb4))))
      have HBW := Lib.hid hb5
      clear hb3 hb4 hb5 HCA HU HV
      generalize bx - ax = gx1
      generalize b_y - ay = gy1
      generalize dx - cx = gx2
      generalize dy - cy = gy2
      by_cases hd : d = 0
      · subst hd
        obtain ⟨es, HES⟩ : ∃ es : Bool, Hid (es = decide ((ax, ay) = (bx, b_y))) := ⟨_, Lib.hid rfl⟩
        obtain ⟨et, HET⟩ : ∃ et : Bool, Hid (et = decide ((cx, cy) = (dx, dy))) := ⟨_, Lib.hid rfl⟩
        obtain ⟨o1, HO1⟩ : ∃ o1 : Bool, Hid (o1 = on ((cx, cy), (dx, dy)) (ax, ay)) := ⟨_, Lib.hid rfl⟩
        obtain ⟨o2, HO2⟩ : ∃ o2 : Bool, Hid (o2 = on ((ax, ay), (bx, b_y)) (cx, cy)) := ⟨_, Lib.hid rfl⟩
        obtain ⟨tn, HTN⟩ : ∃ tn : Int, Hid (tn = turn (ax, ay) (bx, b_y) (cx, cy)) := ⟨_, Lib.hid rfl⟩
        have HM2 : Hid (meetK ((ax, ay), (bx, b_y)) ((cx, cy), (dx, dy)) = if es && o1 then 1 else if et && o2 then 1 else if es || (et || decide (tn ≠ 0)) then 0 else alongK ((ax, ay), (bx, b_y)) ((cx, cy), (dx, dy))) := Lib.hid (by rw [HM.out, HES.out, HET.out, HO1.out, HO2.out, HTN.out]; simp)
        have HON1 := Lib.hid (fun W => on_any cx cy dx dy ax ay W)
        have HON2 := Lib.hid (fun W => on_any ax ay bx b_y cx cy W)
        have HTU := Lib.hid (fun W => turn_any ax ay bx b_y cx cy W (by omega) (by omega) (by omega) (by omega) (by omega) (by omega))
        rw [← HO1.out] at HON1
        rw [← HO2.out] at HON2
        rw [← HTN.out] at HTU
        clear HM HO1 HO2 HTN
        obtain ⟨r1, HQ1⟩ : ∃ r1 : Bool, Hid (r1 = (es && o1)) := ⟨_, Lib.hid rfl⟩
        obtain ⟨r2, HQ2⟩ : ∃ r2 : Bool, Hid (r2 = (et && o2)) := ⟨_, Lib.hid rfl⟩
        obtain ⟨r3, HQ3⟩ : ∃ r3 : Bool, Hid (r3 = (es || (et || decide (tn ≠ 0)))) := ⟨_, Lib.hid rfl⟩
        rw [← HQ1.out, ← HQ2.out, ← HQ3.out] at HM2
        obtain ⟨q0, q1, q2, q3, q4, q5, q6, q7, q8⟩ := CS.out _ HBW.out
        go_upto_region 6 with fail
        go_cut [36] from 37 to 47 (fun p wx => p = .bool r1 ∧ Below W.heap.size W wx)
        case first =>
          by_cases zex : ax = bx
          · by_cases zey : ay = b_y
            · subst zex
              subst zey
              obtain ⟨q0, q1, q2, q3, q4, q5, q6, q7, q8⟩ := CS.out _ HBW.out
              go_wp2_with fail
              refine (HON1.out _).mono ?_
              rintro en7 w7 ⟨rfl, hb7⟩
              have HBY := Lib.hid (HBW.out.trans (hb7.mono (Below.size HBW.out)))
              clear hb7
              go_wp2_with fail
              go_meet
              exact ⟨by rw [HQ1.out]; rw [HES.out]; simp, HBY.out⟩
            · subst zex
              have e2 : (ay == b_y) = false := beq_eq_false_iff_ne.2 zey
              have e3 : (ay = b_y) = False := eq_false zey
              have HNE : Hid (decide ((ax, ay) = (ax, b_y)) = false) := Lib.hid (by simp [zey])
              clear zey
              obtain ⟨q0, q1, q2, q3, q4, q5, q6, q7, q8⟩ := CS.out _ HBW.out
              go_wp2_with fail
              go_meet
              exact ⟨by rw [HQ1.out, HES.out, HNE.out]; simp, HBW.out⟩
          · have e2 : (ax == bx) = false := beq_eq_false_iff_ne.2 zex
            have e3 : (ax = bx) = False := eq_false zex
            have HNE : Hid (decide ((ax, ay) = (bx, b_y)) = false) := Lib.hid (by simp [zex])
            clear zex
            obtain ⟨q0, q1, q2, q3, q4, q5, q6, q7, q8⟩ := CS.out _ HBW.out
            go_wp2_with fail
            go_meet
            exact ⟨by rw [HQ1.out, HES.out, HNE.out]; simp, HBW.out⟩
        case rest =>
          obtain ⟨rfl, hbc⟩ := hcut
          have HBW := Lib.hid hbc
          clear hbc q0 q1 q2 q3 q4 q5 q6 q7 q8 HON1 HQ1
          cases r1
          case true =>
            have HK : Hid (meetK ((ax, ay), (bx, b_y)) ((cx, cy), (dx, dy)) = 1) := Lib.hid HM2.out
            have HSI := Lib.hid (fun W => single_any ax ay W)
            obtain ⟨q0, q1, q2, q3, q4, q5, q6, q7, q8⟩ := CS.out _ HBW.out
            go_wp2_with fail
            refine (HSI.out _).mono ?_
            rintro en6 w6 ⟨⟨_, rfl, k1, k2, k3, k4, k5, k6, k7, rfl⟩, hb6⟩
            have HBW := Lib.hid (HBW.out.trans (hb6.mono (Below.size HBW.out)))
            clear hb6
            clear q0 q1 q2 q3 q4 q5 q6 q7 q8
            obtain ⟨⟨c0, c1, c2, c3, c4, c5, c6, c7⟩, hf, hz⟩ := oct_at HX.out.2.2.1 HBW.out
            have f0 := hf 0
            have f1 := hf 1
            have f2 := hf 2
            have f3 := hf 3
            have f4 := hf 4
            have f5 := hf 5
            have f6 := hf 6
            have f7 := hf 7
            clear hf
            have HBT := Lib.hid (HX.out.2.2.2.trans (HBW.out.mono (Below.size HX.out.2.2.2)))
            go_wp2
            refine bodyPost_ret (v := .agg #[.int .i64 1, .int .i64 k1, .int .i64 k2, .int .i64 k3, .int .i64 k4, .int .i64 k5, .int .i64 k6, .int .i64 k7]) (by simp [results, Tryz.results158, go_sem, c0, c1, c2, c3, c4, c5, c6, c7]) rfl ⟨⟨_, rfl, ?_⟩, ?_⟩
            · rw [HK.out]
              exact ⟨_, _, _, _, _, _, _, rfl⟩
            · exact ((((((((HBT.out.setCell (show w.heap.size ≤ w.heap.size + 1 + 1 by omega) _).setCell (show w.heap.size ≤ w.heap.size + 1 + 1 by omega) _).setCell (show w.heap.size ≤ w.heap.size + 1 + 1 by omega) _).setCell (show w.heap.size ≤ w.heap.size + 1 + 1 by omega) _).setCell (show w.heap.size ≤ w.heap.size + 1 + 1 by omega) _).setCell (show w.heap.size ≤ w.heap.size + 1 + 1 by omega) _).setCell (show w.heap.size ≤ w.heap.size + 1 + 1 by omega) _).setCell (show w.heap.size ≤ w.heap.size + 1 + 1 by omega) _)
          case false =>
            have HM2 : Hid (meetK ((ax, ay), (bx, b_y)) ((cx, cy), (dx, dy)) = if r2 then 1 else if r3 then 0 else alongK ((ax, ay), (bx, b_y)) ((cx, cy), (dx, dy))) := Lib.hid HM2.out
            obtain ⟨q0, q1, q2, q3, q4, q5, q6, q7, q8⟩ := CS.out _ HBW.out
            go_upto_region 8 with fail
            go_cut [51] from 52 to 62 (fun p wx => p = .bool r2 ∧ Below W.heap.size W wx)
            case first =>
              by_cases zex : cx = dx
              · by_cases zey : cy = dy
                · subst zex
                  subst zey
                  obtain ⟨q0, q1, q2, q3, q4, q5, q6, q7, q8⟩ := CS.out _ HBW.out
                  go_wp2_with fail
                  refine (HON2.out _).mono ?_
                  rintro en7 w7 ⟨rfl, hb7⟩
                  have HBY := Lib.hid (HBW.out.trans (hb7.mono (Below.size HBW.out)))
                  clear hb7
                  go_wp2_with fail
                  go_meet
                  exact ⟨by rw [HQ2.out]; rw [HET.out]; simp, HBY.out⟩
                · subst zex
                  have e2 : (cy == dy) = false := beq_eq_false_iff_ne.2 zey
                  have e3 : (cy = dy) = False := eq_false zey
                  have HNE : Hid (decide ((cx, cy) = (cx, dy)) = false) := Lib.hid (by simp [zey])
                  clear zey
                  obtain ⟨q0, q1, q2, q3, q4, q5, q6, q7, q8⟩ := CS.out _ HBW.out
                  go_wp2_with fail
                  go_meet
                  exact ⟨by rw [HQ2.out, HET.out, HNE.out]; simp, HBW.out⟩
              · have e2 : (cx == dx) = false := beq_eq_false_iff_ne.2 zex
                have e3 : (cx = dx) = False := eq_false zex
                have HNE : Hid (decide ((cx, cy) = (dx, dy)) = false) := Lib.hid (by simp [zex])
                clear zex
                obtain ⟨q0, q1, q2, q3, q4, q5, q6, q7, q8⟩ := CS.out _ HBW.out
                go_wp2_with fail
                go_meet
                exact ⟨by rw [HQ2.out, HET.out, HNE.out]; simp, HBW.out⟩
            case rest =>
              obtain ⟨rfl, hbc⟩ := hcut
              have HBW := Lib.hid hbc
              clear hbc q0 q1 q2 q3 q4 q5 q6 q7 q8 HON2 HQ2
              cases r2
              case true =>
                have HK : Hid (meetK ((ax, ay), (bx, b_y)) ((cx, cy), (dx, dy)) = 1) := Lib.hid HM2.out
                have HSI := Lib.hid (fun W => single_any cx cy W)
                obtain ⟨q0, q1, q2, q3, q4, q5, q6, q7, q8⟩ := CS.out _ HBW.out
                go_wp2_with fail
                refine (HSI.out _).mono ?_
                rintro en6 w6 ⟨⟨_, rfl, k1, k2, k3, k4, k5, k6, k7, rfl⟩, hb6⟩
                have HBW := Lib.hid (HBW.out.trans (hb6.mono (Below.size HBW.out)))
                clear hb6
                clear q0 q1 q2 q3 q4 q5 q6 q7 q8
                obtain ⟨⟨c0, c1, c2, c3, c4, c5, c6, c7⟩, hf, hz⟩ := oct_at HX.out.2.2.1 HBW.out
                have f0 := hf 0
                have f1 := hf 1
                have f2 := hf 2
                have f3 := hf 3
                have f4 := hf 4
                have f5 := hf 5
                have f6 := hf 6
                have f7 := hf 7
                clear hf
                have HBT := Lib.hid (HX.out.2.2.2.trans (HBW.out.mono (Below.size HX.out.2.2.2)))
                go_wp2
                refine bodyPost_ret (v := .agg #[.int .i64 1, .int .i64 k1, .int .i64 k2, .int .i64 k3, .int .i64 k4, .int .i64 k5, .int .i64 k6, .int .i64 k7]) (by simp [results, Tryz.results158, go_sem, c0, c1, c2, c3, c4, c5, c6, c7]) rfl ⟨⟨_, rfl, ?_⟩, ?_⟩
                · rw [HK.out]
                  exact ⟨_, _, _, _, _, _, _, rfl⟩
                · exact ((((((((HBT.out.setCell (show w.heap.size ≤ w.heap.size + 1 + 1 by omega) _).setCell (show w.heap.size ≤ w.heap.size + 1 + 1 by omega) _).setCell (show w.heap.size ≤ w.heap.size + 1 + 1 by omega) _).setCell (show w.heap.size ≤ w.heap.size + 1 + 1 by omega) _).setCell (show w.heap.size ≤ w.heap.size + 1 + 1 by omega) _).setCell (show w.heap.size ≤ w.heap.size + 1 + 1 by omega) _).setCell (show w.heap.size ≤ w.heap.size + 1 + 1 by omega) _).setCell (show w.heap.size ≤ w.heap.size + 1 + 1 by omega) _)
              case false =>
                have HM2 : Hid (meetK ((ax, ay), (bx, b_y)) ((cx, cy), (dx, dy)) = if r3 then 0 else alongK ((ax, ay), (bx, b_y)) ((cx, cy), (dx, dy))) := Lib.hid HM2.out
                obtain ⟨q0, q1, q2, q3, q4, q5, q6, q7, q8⟩ := CS.out _ HBW.out
                go_upto_region 10 with fail
                go_cut [66] from 67 to 88 (fun p wx => p = .bool r3 ∧ Below W.heap.size W wx)
                case first =>
                  by_cases zex : ax = bx
                  · by_cases zey : ay = b_y
                    · subst zex
                      subst zey
                      obtain ⟨q0, q1, q2, q3, q4, q5, q6, q7, q8⟩ := CS.out _ HBW.out
                      go_wp2_with fail
                      go_meet
                      exact ⟨by rw [HQ3.out, HES.out]; simp, HBW.out⟩
                    · subst zex
                      have e2 : (ay == b_y) = false := beq_eq_false_iff_ne.2 zey
                      have e3 : (ay = b_y) = False := eq_false zey
                      have HNE : Hid (decide ((ax, ay) = (ax, b_y)) = false) := Lib.hid (by simp [zey])
                      clear zey
                      by_cases zfx : cx = dx
                      · by_cases zfy : cy = dy
                        · subst zfx
                          subst zfy
                          obtain ⟨q0, q1, q2, q3, q4, q5, q6, q7, q8⟩ := CS.out _ HBW.out
                          go_wp2_with fail
                          go_meet
                          exact ⟨by rw [HQ3.out, HET.out]; simp, HBW.out⟩
                        · subst zfx
                          have f2 : (cy == dy) = false := beq_eq_false_iff_ne.2 zfy
                          have f3 : (cy = dy) = False := eq_false zfy
                          have HNF : Hid (decide ((cx, cy) = (cx, dy)) = false) := Lib.hid (by simp [zfy])
                          clear zfy
                          have HQT : Hid (r3 = decide (tn ≠ 0)) := Lib.hid (by rw [HQ3.out, HES.out, HET.out, HNE.out, HNF.out, Bool.false_or, Bool.false_or])
                          obtain ⟨q0, q1, q2, q3, q4, q5, q6, q7, q8⟩ := CS.out _ HBW.out
                          go_wp2_with fail
                          refine (HTU.out _).mono ?_
                          rintro en7 w7 ⟨rfl, hb7⟩
                          have HBY := Lib.hid (HBW.out.trans (hb7.mono (Below.size HBW.out)))
                          clear hb7
                          by_cases tz : tn = 0
                          · have t1 : (tn != 0) = false := by rw [tz]; rfl
                            have t2 : (tn = 0) = True := eq_true tz
                            have HQU : Hid (r3 = false) := Lib.hid (by rw [HQT.out, tz]; rfl)
                            clear tz
                            go_wp2_with fail
                            go_meet
                            exact ⟨by rw [HQU.out], HBY.out⟩
                          · have t1 : (tn != 0) = true := bne_iff_ne.2 tz
                            have t2 : (tn = 0) = False := eq_false tz
                            have HQU : Hid (r3 = true) := Lib.hid (by rw [HQT.out]; simp [tz])
                            clear tz
                            go_wp2_with fail
                            go_meet
                            exact ⟨by rw [HQU.out], HBY.out⟩
                      · have f2 : (cx == dx) = false := beq_eq_false_iff_ne.2 zfx
                        have f3 : (cx = dx) = False := eq_false zfx
                        have HNF : Hid (decide ((cx, cy) = (dx, dy)) = false) := Lib.hid (by simp [zfx])
                        clear zfx
                        have HQT : Hid (r3 = decide (tn ≠ 0)) := Lib.hid (by rw [HQ3.out, HES.out, HET.out, HNE.out, HNF.out, Bool.false_or, Bool.false_or])
                        obtain ⟨q0, q1, q2, q3, q4, q5, q6, q7, q8⟩ := CS.out _ HBW.out
                        go_wp2_with fail
                        refine (HTU.out _).mono ?_
                        rintro en7 w7 ⟨rfl, hb7⟩
                        have HBY := Lib.hid (HBW.out.trans (hb7.mono (Below.size HBW.out)))
                        clear hb7
                        by_cases tz : tn = 0
                        · have t1 : (tn != 0) = false := by rw [tz]; rfl
                          have t2 : (tn = 0) = True := eq_true tz
                          have HQU : Hid (r3 = false) := Lib.hid (by rw [HQT.out, tz]; rfl)
                          clear tz
                          go_wp2_with fail
                          go_meet
                          exact ⟨by rw [HQU.out], HBY.out⟩
                        · have t1 : (tn != 0) = true := bne_iff_ne.2 tz
                          have t2 : (tn = 0) = False := eq_false tz
                          have HQU : Hid (r3 = true) := Lib.hid (by rw [HQT.out]; simp [tz])
                          clear tz
                          go_wp2_with fail
                          go_meet
                          exact ⟨by rw [HQU.out], HBY.out⟩
                  · have e2 : (ax == bx) = false := beq_eq_false_iff_ne.2 zex
                    have e3 : (ax = bx) = False := eq_false zex
                    have HNE : Hid (decide ((ax, ay) = (bx, b_y)) = false) := Lib.hid (by simp [zex])
                    clear zex
                    by_cases zfx : cx = dx
                    · by_cases zfy : cy = dy
                      · subst zfx
                        subst zfy
                        obtain ⟨q0, q1, q2, q3, q4, q5, q6, q7, q8⟩ := CS.out _ HBW.out
                        go_wp2_with fail
                        go_meet
                        exact ⟨by rw [HQ3.out, HET.out]; simp, HBW.out⟩
                      · subst zfx
                        have f2 : (cy == dy) = false := beq_eq_false_iff_ne.2 zfy
                        have f3 : (cy = dy) = False := eq_false zfy
                        have HNF : Hid (decide ((cx, cy) = (cx, dy)) = false) := Lib.hid (by simp [zfy])
                        clear zfy
                        have HQT : Hid (r3 = decide (tn ≠ 0)) := Lib.hid (by rw [HQ3.out, HES.out, HET.out, HNE.out, HNF.out, Bool.false_or, Bool.false_or])
                        obtain ⟨q0, q1, q2, q3, q4, q5, q6, q7, q8⟩ := CS.out _ HBW.out
                        go_wp2_with fail
                        refine (HTU.out _).mono ?_
                        rintro en7 w7 ⟨rfl, hb7⟩
                        have HBY := Lib.hid (HBW.out.trans (hb7.mono (Below.size HBW.out)))
                        clear hb7
                        by_cases tz : tn = 0
                        · have t1 : (tn != 0) = false := by rw [tz]; rfl
                          have t2 : (tn = 0) = True := eq_true tz
                          have HQU : Hid (r3 = false) := Lib.hid (by rw [HQT.out, tz]; rfl)
                          clear tz
                          go_wp2_with fail
                          go_meet
                          exact ⟨by rw [HQU.out], HBY.out⟩
                        · have t1 : (tn != 0) = true := bne_iff_ne.2 tz
                          have t2 : (tn = 0) = False := eq_false tz
                          have HQU : Hid (r3 = true) := Lib.hid (by rw [HQT.out]; simp [tz])
                          clear tz
                          go_wp2_with fail
                          go_meet
                          exact ⟨by rw [HQU.out], HBY.out⟩
                    · have f2 : (cx == dx) = false := beq_eq_false_iff_ne.2 zfx
                      have f3 : (cx = dx) = False := eq_false zfx
                      have HNF : Hid (decide ((cx, cy) = (dx, dy)) = false) := Lib.hid (by simp [zfx])
                      clear zfx
                      have HQT : Hid (r3 = decide (tn ≠ 0)) := Lib.hid (by rw [HQ3.out, HES.out, HET.out, HNE.out, HNF.out, Bool.false_or, Bool.false_or])
                      obtain ⟨q0, q1, q2, q3, q4, q5, q6, q7, q8⟩ := CS.out _ HBW.out
                      go_wp2_with fail
                      refine (HTU.out _).mono ?_
                      rintro en7 w7 ⟨rfl, hb7⟩
                      have HBY := Lib.hid (HBW.out.trans (hb7.mono (Below.size HBW.out)))
                      clear hb7
                      by_cases tz : tn = 0
                      · have t1 : (tn != 0) = false := by rw [tz]; rfl
                        have t2 : (tn = 0) = True := eq_true tz
                        have HQU : Hid (r3 = false) := Lib.hid (by rw [HQT.out, tz]; rfl)
                        clear tz
                        go_wp2_with fail
                        go_meet
                        exact ⟨by rw [HQU.out], HBY.out⟩
                      · have t1 : (tn != 0) = true := bne_iff_ne.2 tz
                        have t2 : (tn = 0) = False := eq_false tz
                        have HQU : Hid (r3 = true) := Lib.hid (by rw [HQT.out]; simp [tz])
                        clear tz
                        go_wp2_with fail
                        go_meet
                        exact ⟨by rw [HQU.out], HBY.out⟩
                case rest =>
                  obtain ⟨rfl, hbc⟩ := hcut
                  have HBW := Lib.hid hbc
                  clear hbc q0 q1 q2 q3 q4 q5 q6 q7 q8 HTU HQ3
                  cases r3
                  case true =>
                    have HK : Hid (meetK ((ax, ay), (bx, b_y)) ((cx, cy), (dx, dy)) = 0) := Lib.hid HM2.out
                    obtain ⟨⟨c0, c1, c2, c3, c4, c5, c6, c7⟩, hf, hz⟩ := oct_at HX.out.2.2.1 HBW.out
                    have f0 := hf 0
                    have f1 := hf 1
                    have f2 := hf 2
                    have f3 := hf 3
                    have f4 := hf 4
                    have f5 := hf 5
                    have f6 := hf 6
                    have f7 := hf 7
                    clear hf
                    have HBT := Lib.hid (HX.out.2.2.2.trans (HBW.out.mono (Below.size HX.out.2.2.2)))
                    go_wp2
                    refine bodyPost_ret (v := .agg #[.int .i64 0, .int .i64 0, .int .i64 0, .int .i64 0, .int .i64 0, .int .i64 0, .int .i64 0, .int .i64 0]) (by simp [results, Tryz.results158, go_sem, c0, c1, c2, c3, c4, c5, c6, c7]) rfl ⟨⟨_, rfl, ?_⟩, ?_⟩
                    · rw [HK.out]
                      exact ⟨_, _, _, _, _, _, _, rfl⟩
                    · exact ((((((((HBT.out.setCell (show w.heap.size ≤ w.heap.size + 1 + 1 by omega) _).setCell (show w.heap.size ≤ w.heap.size + 1 + 1 by omega) _).setCell (show w.heap.size ≤ w.heap.size + 1 + 1 by omega) _).setCell (show w.heap.size ≤ w.heap.size + 1 + 1 by omega) _).setCell (show w.heap.size ≤ w.heap.size + 1 + 1 by omega) _).setCell (show w.heap.size ≤ w.heap.size + 1 + 1 by omega) _).setCell (show w.heap.size ≤ w.heap.size + 1 + 1 by omega) _).setCell (show w.heap.size ≤ w.heap.size + 1 + 1 by omega) _)
                  case false =>
                    have HK : Hid (meetK ((ax, ay), (bx, b_y)) ((cx, cy), (dx, dy)) = alongK ((ax, ay), (bx, b_y)) ((cx, cy), (dx, dy))) := Lib.hid HM2.out
                    have HB12 := Lib.hid HBW.out
                    obtain ⟨q0, q1, q2, q3, q4, q5, q6, q7, q8⟩ := CS.out _ HBW.out
                    go_upto_region 13 with fail
                    clear q0 q1 q2 q3 q4 q5 q6 q7 q8
                    have HA0 := Lib.hid (heap_alloc_new wc (.cells #[.int .i64 ax, .int .i64 ay, .int .i64 bx, .int .i64 b_y, .int .i64 cx, .int .i64 cy, .int .i64 dx, .int .i64 dy] 193))
                    have HB0 := Lib.hid (HB12.out.alloc (Below.size HB12.out) (.cells #[.int .i64 ax, .int .i64 ay, .int .i64 bx, .int .i64 b_y, .int .i64 cx, .int .i64 cy, .int .i64 dx, .int .i64 dy] 193))
                    generalize wc.alloc (.cells #[.int .i64 ax, .int .i64 ay, .int .i64 bx, .int .i64 b_y, .int .i64 cx, .int .i64 cy, .int .i64 dx, .int .i64 dy] 193) = W0 at *
                    have HWC := Lib.hid (Below.size HB12.out)
                    clear HB12 HBW
                    generalize wc.heap.size = ga at *
                    go_wp2
                    go_loopw [7] (fun i wr => ∃ k : Nat, ((k = 0 ∧ i = .int .i64 0) ∨ (k = 1 ∧ i = .int .i64 2) ∨ (k = 2 ∧ i = .int .i64 4)) ∧ Hid (wr.heap[ga]? = some (ends4 k (ax, ay) (bx, b_y) (cx, cy) (dx, dy) 193)) ∧ Hid (Below W.heap.size W wr)) (fun i _ => 4 - (intOf i).toNat)
                    case atStart => exact ⟨0, Or.inl ⟨rfl, rfl⟩, HA0, HB0⟩
                    case round =>
                      obtain ⟨k, hk, HA, HBR⟩ := hrel
                      rcases hk with ⟨rfl, rfl⟩ | ⟨rfl, rfl⟩ | ⟨rfl, rfl⟩
                      · have HA : Hid (wr.heap[ga]? = some (.cells #[.int .i64 ax, .int .i64 ay, .int .i64 bx, .int .i64 b_y, .int .i64 cx, .int .i64 cy, .int .i64 dx, .int .i64 dy] 193 (0, 0))) := Lib.hid HA.out
                        have HLE := Lib.hid (fun W => less_any bx b_y ax ay W)
                        have HLO : Hid (lo (ax, ay) (bx, b_y) = if less (bx, b_y) (ax, ay) then (bx, b_y) else (ax, ay)) := Lib.hid rfl
                        have HHI : Hid (hi (ax, ay) (bx, b_y) = if less (bx, b_y) (ax, ay) then (ax, ay) else (bx, b_y)) := Lib.hid rfl
                        have CA : Hid (∀ w', Below wr.heap.size wr w' → w'.cell? ⟨ga, 0, none⟩ = some (.int .i64 ax) ∧ w'.cell? ⟨ga, 1, none⟩ = some (.int .i64 ay) ∧ w'.cell? ⟨ga, 2, none⟩ = some (.int .i64 bx) ∧ w'.cell? ⟨ga, 3, none⟩ = some (.int .i64 b_y) ∧ w'.cell? ⟨ga, 4, none⟩ = some (.int .i64 cx) ∧ w'.cell? ⟨ga, 5, none⟩ = some (.int .i64 cy) ∧ w'.cell? ⟨ga, 6, none⟩ = some (.int .i64 dx) ∧ w'.cell? ⟨ga, 7, none⟩ = some (.int .i64 dy) ∧ Below wr.heap.size wr w') := Lib.hid (fun w' hb => by
                          obtain ⟨⟨e0, e1, e2, e3, e4, e5, e6, e7⟩, _, _⟩ := oct_at HA.out hb
                          exact ⟨e0, e1, e2, e3, e4, e5, e6, e7, hb⟩)
                        obtain ⟨q0, q1, q2, q3, q4, q5, q6, q7, q8⟩ := CA.out wr (Below.refl _ _)
                        generalize less (bx, b_y) (ax, ay) = ls at *
                        have w1 : IntKind.i64.wrap (0 + 1) = 1 := rfl
                        have w2 : IntKind.i64.wrap 1 = 1 := rfl
                        have w3 : (0 : Int) ≤ 1 := by decide
                        have w4 : (1 : Int) < 4 := by decide
                        go_upto_region 16 with fail
                        go_region_held3 (fun w' => w'.cell? ⟨ga, 0, none⟩ = some (.int .i64 ax) ∧ w'.cell? ⟨ga, 1, none⟩ = some (.int .i64 ay) ∧ w'.cell? ⟨ga, 2, none⟩ = some (.int .i64 bx) ∧ w'.cell? ⟨ga, 3, none⟩ = some (.int .i64 b_y) ∧ w'.cell? ⟨ga, 4, none⟩ = some (.int .i64 cx) ∧ w'.cell? ⟨ga, 5, none⟩ = some (.int .i64 cy) ∧ w'.cell? ⟨ga, 6, none⟩ = some (.int .i64 dx) ∧ w'.cell? ⟨ga, 7, none⟩ = some (.int .i64 dy) ∧ Below wr.heap.size wr w')
                          (first | assumption | exact CA.out _ (by (repeat (with_reducible first | assumption | exact Below.refl _ _ | refine below_drew ?_ | refine bel_alloc ?_ _ | (refine bel_set ?_ (by simp <;> omega) _)))))
                          ((go_at_call 197; obtain ⟨_, _, _, _, _, _, _, _, hbx⟩ := ‹_ ∧ _ ∧ _ ∧ _ ∧ _ ∧ _ ∧ _ ∧ _ ∧ Below _ _ _›; refine (HLE.out _).mono ?_; rintro en8 w8 ⟨rfl, hb80⟩; have hb8 : Below wr.heap.size wr w8 := hbx.trans (hb80.mono (Below.size hbx))))
                        have HA8 := Lib.hid ((hb8.block _ (lt_of_block HA.out)).trans HA.out)
                        have HB8 := Lib.hid (HBR.out.trans (hb8.mono (Below.size HBR.out)))
                        clear q0 q1 q2 q3 q4 q5 q6 q7 q8 hb8
                        cases ls
                        case false =>
                          clear w1 w2 w3 w4
                          go_wp2
                          refine ⟨⟨1, Or.inr (Or.inl ⟨rfl, rfl⟩), Lib.hid ?_, HB8⟩, by simp [intOf]⟩
                          have e1 := HLO.out
                          have e2 := HHI.out
                          simp only [Bool.false_eq_true, if_false] at e1 e2
                          rw [HA8.out]
                          simp [ends4, e1, e2]
                        case true =>
                          obtain ⟨⟨c0, c1, c2, c3, c4, c5, c6, c7⟩, hf, hz⟩ := oct_at HA8.out (Below.refl _ _)
                          have f0 := hf 0
                          have f1 := hf 1
                          have f2 := hf 2
                          have f3 := hf 3
                          have HA9 := Lib.hid (block_set (block_set (block_set (block_set HA8.out 0 (.int .i64 bx)) 1 (.int .i64 b_y)) 2 (.int .i64 ax)) 3 (.int .i64 ay))
                          have HB9 := Lib.hid ((((HB8.out.setCell (p := ⟨ga, 0, none⟩) HWC.out (.int .i64 bx)).setCell (p := ⟨ga, 1, none⟩) HWC.out (.int .i64 b_y)).setCell (p := ⟨ga, 2, none⟩) HWC.out (.int .i64 ax)).setCell (p := ⟨ga, 3, none⟩) HWC.out (.int .i64 ay))
                          clear hf
                          go_upto_region 17 with fail
                          go_region
                          clear w1 w2 w3 w4
                          go_wp2
                          refine ⟨⟨1, Or.inr (Or.inl ⟨rfl, rfl⟩), Lib.hid ?_, Lib.hid (below_drew HB9.out)⟩, by simp [intOf]⟩
                          have e1 := HLO.out
                          have e2 := HHI.out
                          simp only [if_true] at e1 e2
                          refine Eq.trans HA9.out ?_
                          simp [ends4, e1, e2]
                      · obtain ⟨⟨p0, p1⟩, HL0⟩ : ∃ L : V, Hid (L = lo (ax, ay) (bx, b_y)) := ⟨_, Lib.hid rfl⟩
                        obtain ⟨⟨p2, p3⟩, HH0⟩ : ∃ L : V, Hid (L = hi (ax, ay) (bx, b_y)) := ⟨_, Lib.hid rfl⟩
                        have HA : Hid (wr.heap[ga]? = some (.cells #[.int .i64 p0, .int .i64 p1, .int .i64 p2, .int .i64 p3, .int .i64 cx, .int .i64 cy, .int .i64 dx, .int .i64 dy] 193 (0, 0))) := Lib.hid (by rw [HA.out]; unfold ends4; rw [← HL0.out, ← HH0.out]; rfl)
                        have HLE := Lib.hid (fun W => less_any dx dy cx cy W)
                        have HLO : Hid (lo (cx, cy) (dx, dy) = if less (dx, dy) (cx, cy) then (dx, dy) else (cx, cy)) := Lib.hid rfl
                        have HHI : Hid (hi (cx, cy) (dx, dy) = if less (dx, dy) (cx, cy) then (cx, cy) else (dx, dy)) := Lib.hid rfl
                        have CA : Hid (∀ w', Below wr.heap.size wr w' → w'.cell? ⟨ga, 0, none⟩ = some (.int .i64 p0) ∧ w'.cell? ⟨ga, 1, none⟩ = some (.int .i64 p1) ∧ w'.cell? ⟨ga, 2, none⟩ = some (.int .i64 p2) ∧ w'.cell? ⟨ga, 3, none⟩ = some (.int .i64 p3) ∧ w'.cell? ⟨ga, 4, none⟩ = some (.int .i64 cx) ∧ w'.cell? ⟨ga, 5, none⟩ = some (.int .i64 cy) ∧ w'.cell? ⟨ga, 6, none⟩ = some (.int .i64 dx) ∧ w'.cell? ⟨ga, 7, none⟩ = some (.int .i64 dy) ∧ Below wr.heap.size wr w') := Lib.hid (fun w' hb => by
                          obtain ⟨⟨e0, e1, e2, e3, e4, e5, e6, e7⟩, _, _⟩ := oct_at HA.out hb
                          exact ⟨e0, e1, e2, e3, e4, e5, e6, e7, hb⟩)
                        obtain ⟨q0, q1, q2, q3, q4, q5, q6, q7, q8⟩ := CA.out wr (Below.refl _ _)
                        generalize less (dx, dy) (cx, cy) = ls at *
                        have w1 : IntKind.i64.wrap (2 + 1) = 3 := rfl
                        have w2 : IntKind.i64.wrap 3 = 3 := rfl
                        have w3 : (0 : Int) ≤ 3 := by decide
                        have w4 : (3 : Int) < 4 := by decide
                        go_upto_region 16 with fail
                        go_region_held3 (fun w' => w'.cell? ⟨ga, 0, none⟩ = some (.int .i64 p0) ∧ w'.cell? ⟨ga, 1, none⟩ = some (.int .i64 p1) ∧ w'.cell? ⟨ga, 2, none⟩ = some (.int .i64 p2) ∧ w'.cell? ⟨ga, 3, none⟩ = some (.int .i64 p3) ∧ w'.cell? ⟨ga, 4, none⟩ = some (.int .i64 cx) ∧ w'.cell? ⟨ga, 5, none⟩ = some (.int .i64 cy) ∧ w'.cell? ⟨ga, 6, none⟩ = some (.int .i64 dx) ∧ w'.cell? ⟨ga, 7, none⟩ = some (.int .i64 dy) ∧ Below wr.heap.size wr w')
                          (first | assumption | exact CA.out _ (by (repeat (with_reducible first | assumption | exact Below.refl _ _ | refine below_drew ?_ | refine bel_alloc ?_ _ | (refine bel_set ?_ (by simp <;> omega) _)))))
                          ((go_at_call 197; obtain ⟨_, _, _, _, _, _, _, _, hbx⟩ := ‹_ ∧ _ ∧ _ ∧ _ ∧ _ ∧ _ ∧ _ ∧ _ ∧ Below _ _ _›; refine (HLE.out _).mono ?_; rintro en8 w8 ⟨rfl, hb80⟩; have hb8 : Below wr.heap.size wr w8 := hbx.trans (hb80.mono (Below.size hbx))))
                        have HA8 := Lib.hid ((hb8.block _ (lt_of_block HA.out)).trans HA.out)
                        have HB8 := Lib.hid (HBR.out.trans (hb8.mono (Below.size HBR.out)))
                        clear q0 q1 q2 q3 q4 q5 q6 q7 q8 hb8
                        cases ls
                        case false =>
                          clear w1 w2 w3 w4
                          go_wp2
                          refine ⟨⟨2, Or.inr (Or.inr ⟨rfl, rfl⟩), Lib.hid ?_, HB8⟩, by simp [intOf]⟩
                          have e1 := HLO.out
                          have e2 := HHI.out
                          simp only [Bool.false_eq_true, if_false] at e1 e2
                          rw [HA8.out]
                          simp [ends4, e1, e2, ← HL0.out, ← HH0.out]
                        case true =>
                          obtain ⟨⟨c0, c1, c2, c3, c4, c5, c6, c7⟩, hf, hz⟩ := oct_at HA8.out (Below.refl _ _)
                          have f0 := hf 4
                          have f1 := hf 5
                          have f2 := hf 6
                          have f3 := hf 7
                          have HA9 := Lib.hid (block_set (block_set (block_set (block_set HA8.out 4 (.int .i64 dx)) 5 (.int .i64 dy)) 6 (.int .i64 cx)) 7 (.int .i64 cy))
                          have HB9 := Lib.hid ((((HB8.out.setCell (p := ⟨ga, 4, none⟩) HWC.out (.int .i64 dx)).setCell (p := ⟨ga, 5, none⟩) HWC.out (.int .i64 dy)).setCell (p := ⟨ga, 6, none⟩) HWC.out (.int .i64 cx)).setCell (p := ⟨ga, 7, none⟩) HWC.out (.int .i64 cy))
                          clear hf
                          go_upto_region 17 with fail
                          go_region
                          clear w1 w2 w3 w4
                          go_wp2
                          refine ⟨⟨2, Or.inr (Or.inr ⟨rfl, rfl⟩), Lib.hid ?_, Lib.hid (below_drew HB9.out)⟩, by simp [intOf]⟩
                          have e1 := HLO.out
                          have e2 := HHI.out
                          simp only [if_true] at e1 e2
                          refine Eq.trans HA9.out ?_
                          simp [ends4, e1, e2, ← HL0.out, ← HH0.out]
                      · obtain ⟨⟨p0, p1⟩, HL0⟩ : ∃ L : V, Hid (L = lo (ax, ay) (bx, b_y)) := ⟨_, Lib.hid rfl⟩
                        obtain ⟨⟨p2, p3⟩, HH0⟩ : ∃ L : V, Hid (L = hi (ax, ay) (bx, b_y)) := ⟨_, Lib.hid rfl⟩
                        obtain ⟨⟨p4, p5⟩, HL1⟩ : ∃ L : V, Hid (L = lo (cx, cy) (dx, dy)) := ⟨_, Lib.hid rfl⟩
                        obtain ⟨⟨p6, p7⟩, HH1⟩ : ∃ L : V, Hid (L = hi (cx, cy) (dx, dy)) := ⟨_, Lib.hid rfl⟩
                        have HA : Hid (wr.heap[ga]? = some (.cells #[.int .i64 p0, .int .i64 p1, .int .i64 p2, .int .i64 p3, .int .i64 p4, .int .i64 p5, .int .i64 p6, .int .i64 p7] 193 (0, 0))) := Lib.hid (by rw [HA.out]; unfold ends4; rw [← HL0.out, ← HH0.out, ← HL1.out, ← HH1.out]; rfl)
                        have HAL : Hid (alongK ((ax, ay), (bx, b_y)) ((cx, cy), (dx, dy)) = if vcmp (if less (p0, p1) (p4, p5) then (p4, p5) else (p0, p1)) (if less (p6, p7) (p2, p3) then (p6, p7) else (p2, p3)) = 0 then 1 else if vcmp (if less (p0, p1) (p4, p5) then (p4, p5) else (p0, p1)) (if less (p6, p7) (p2, p3) then (p6, p7) else (p2, p3)) = -1 then 3 else 0) := Lib.hid (by unfold alongK; rw [HL0.out, HH0.out, HL1.out, HH1.out])
                        clear HL0 HH0 HL1 HH1
                        have CA : Hid (∀ w', Below wr.heap.size wr w' → w'.cell? ⟨ga, 0, none⟩ = some (.int .i64 p0) ∧ w'.cell? ⟨ga, 1, none⟩ = some (.int .i64 p1) ∧ w'.cell? ⟨ga, 2, none⟩ = some (.int .i64 p2) ∧ w'.cell? ⟨ga, 3, none⟩ = some (.int .i64 p3) ∧ w'.cell? ⟨ga, 4, none⟩ = some (.int .i64 p4) ∧ w'.cell? ⟨ga, 5, none⟩ = some (.int .i64 p5) ∧ w'.cell? ⟨ga, 6, none⟩ = some (.int .i64 p6) ∧ w'.cell? ⟨ga, 7, none⟩ = some (.int .i64 p7) ∧ Below wr.heap.size wr w') := Lib.hid (fun w' hb => by
                          obtain ⟨⟨e0, e1, e2, e3, e4, e5, e6, e7⟩, _, _⟩ := oct_at HA.out hb
                          exact ⟨e0, e1, e2, e3, e4, e5, e6, e7, hb⟩)
                        obtain ⟨q0, q1, q2, q3, q4, q5, q6, q7, q8⟩ := CA.out wr (Below.refl _ _)
                        go_upto_region 18 with fail
                        go_cut [8, 9] from 123 to 126 (fun u v wx => ∃ g8 g9, u = .pointer (some ⟨g8, 0, none⟩) ∧ v = .pointer (some ⟨g9, 0, none⟩) ∧ wx.heap[g8]? = some (.cells #[.int .i64 p0, .int .i64 p1] 53 (0, 0)) ∧ wx.heap[g9]? = some (.cells #[.int .i64 p2, .int .i64 p3] 53 (0, 0)) ∧ (g8 ≠ g9 ∧ wr.heap.size ≤ g8 ∧ wr.heap.size ≤ g9) ∧ Below wr.heap.size wr wx)
                        case first =>
                          go_wp2_with fail
                          go_region_held3 (fun w' => w'.cell? ⟨ga, 0, none⟩ = some (.int .i64 p0) ∧ w'.cell? ⟨ga, 1, none⟩ = some (.int .i64 p1) ∧ w'.cell? ⟨ga, 2, none⟩ = some (.int .i64 p2) ∧ w'.cell? ⟨ga, 3, none⟩ = some (.int .i64 p3) ∧ w'.cell? ⟨ga, 4, none⟩ = some (.int .i64 p4) ∧ w'.cell? ⟨ga, 5, none⟩ = some (.int .i64 p5) ∧ w'.cell? ⟨ga, 6, none⟩ = some (.int .i64 p6) ∧ w'.cell? ⟨ga, 7, none⟩ = some (.int .i64 p7) ∧ Below wr.heap.size wr w')
                            (first | assumption | exact CA.out _ (by (repeat (with_reducible first | assumption | exact Below.refl _ _ | refine below_drew ?_ | refine bel_alloc ?_ _ | (refine bel_set ?_ (by simp <;> omega) _)))))
                            (fail)
                          all_goals
                            go_wp2_with fail
                            go_meet
                          all_goals first
                            | exact ⟨_, _, rfl, rfl, (two_vecs wr _ _).1, (two_vecs wr _ _).2, by omega, by (repeat (with_reducible first | assumption | exact Below.refl _ _ | refine below_drew ?_ | refine bel_alloc ?_ _ | (refine bel_set ?_ (by simp <;> omega) _)))⟩
                            | exact ⟨_, _, rfl, rfl, (two_vecs wr _ _).2, (two_vecs wr _ _).1, by omega, by (repeat (with_reducible first | assumption | exact Below.refl _ _ | refine below_drew ?_ | refine bel_alloc ?_ _ | (refine bel_set ?_ (by simp <;> omega) _)))⟩
                        case rest =>
                          obtain ⟨g8, g9, rfl, rfl, hg8, hg9, hgs, hbc⟩ := hcut
                          have HG8 := Lib.hid hg8
                          have HG9 := Lib.hid hg9
                          have HAR := Lib.hid ((hbc.block ga (lt_of_block HA.out)).trans HA.out)
                          have HBV := Lib.hid (HBR.out.trans (hbc.mono (Below.size HBR.out)))
                          have HNE := Lib.hid (show g8 ≠ g9 ∧ g9 ≠ g8 ∧ ga ≠ g8 ∧ ga ≠ g9 ∧ W.heap.size ≤ g8 ∧ W.heap.size ≤ g9 by have := lt_of_block HA.out; have := Below.size HBR.out; omega)
                          have HLE1 := Lib.hid (fun W => less_any p0 p1 p4 p5 W)
                          have HLE2 := Lib.hid (fun W => less_any p6 p7 p2 p3 W)
                          clear hg8 hg9 hgs hbc CA q0 q1 q2 q3 q4 q5 q6 q7 q8 HA HBR
                          generalize less (p0, p1) (p4, p5) = b1 at *
                          generalize less (p6, p7) (p2, p3) = b2 at *
                          obtain ⟨a0, a1⟩ := pair_at HG8.out (Below.refl _ _)
                          obtain ⟨⟨q0, q1, q2, q3, q4, q5, q6, q7⟩, _, _⟩ := oct_at HAR.out (Below.refl _ _)
                          go_wp2_with fail
                          refine (HLE1.out _).mono ?_
                          rintro en9 w20 ⟨rfl, hb20⟩
                          have HG8 := Lib.hid ((hb20.block _ (lt_of_block HG8.out)).trans HG8.out)
                          have HG9 := Lib.hid ((hb20.block _ (lt_of_block HG9.out)).trans HG9.out)
                          have HAR := Lib.hid ((hb20.block _ (lt_of_block HAR.out)).trans HAR.out)
                          have HBV := Lib.hid (HBV.out.trans (hb20.mono (Below.size HBV.out)))
                          clear a0 a1 q0 q1 q2 q3 q4 q5 q6 q7 hb20
                          cases b1
                          case false =>
                            obtain ⟨a0, a1⟩ := pair_at HG9.out (Below.refl _ _)
                            obtain ⟨⟨q0, q1, q2, q3, q4, q5, q6, q7⟩, _, _⟩ := oct_at HAR.out (Below.refl _ _)
                            go_wp2_with fail
                            refine (HLE2.out _).mono ?_
                            rintro en10 w21 ⟨rfl, hb21⟩
                            have HG8 := Lib.hid ((hb21.block _ (lt_of_block HG8.out)).trans HG8.out)
                            have HG9 := Lib.hid ((hb21.block _ (lt_of_block HG9.out)).trans HG9.out)
                            have HAR := Lib.hid ((hb21.block _ (lt_of_block HAR.out)).trans HAR.out)
                            have HBV := Lib.hid (HBV.out.trans (hb21.mono (Below.size HBV.out)))
                            clear a0 a1 q0 q1 q2 q3 q4 q5 q6 q7 hb21
                            cases b2
                            case false =>
                              have HVC := Lib.hid (fun W => vcmp_any p0 p1 p2 p3 W)
                              have HAQ : Hid (meetK ((ax, ay), (bx, b_y)) ((cx, cy), (dx, dy)) = if vcmp (p0, p1) (p2, p3) = 0 then 1 else if vcmp (p0, p1) (p2, p3) = -1 then 3 else 0) := Lib.hid (HK.out.trans HAL.out)
                              generalize vcmp (p0, p1) (p2, p3) = c at *
                              obtain ⟨a0, a1⟩ := pair_at HG8.out (Below.refl _ _)
                              obtain ⟨b0, b1⟩ := pair_at HG9.out (Below.refl _ _)
                              go_wp2_with fail
                              refine (HVC.out _).mono ?_
                              rintro en11 w22 ⟨rfl, hb22⟩
                              have HG8 := Lib.hid ((hb22.block _ (lt_of_block HG8.out)).trans HG8.out)
                              have HG9 := Lib.hid ((hb22.block _ (lt_of_block HG9.out)).trans HG9.out)
                              have HAR := Lib.hid ((hb22.block _ (lt_of_block HAR.out)).trans HAR.out)
                              have HBV := Lib.hid (HBV.out.trans (hb22.mono (Below.size HBV.out)))
                              clear a0 a1 b0 b1 hb22
                              have HBW := HBV
                              obtain ⟨a0, a1⟩ := pair_at HG8.out (Below.refl _ _)
                              obtain ⟨b0, b1⟩ := pair_at HG9.out (Below.refl _ _)
                              by_cases z0 : c = 0
                              · have y0 : (c == 0) = true := beq_iff_eq.2 z0
                                have x0 : (c = 0) = True := eq_true z0
                                have HK : Hid (meetK ((ax, ay), (bx, b_y)) ((cx, cy), (dx, dy)) = 1) := Lib.hid (HAQ.out.trans (if_pos z0))
                                clear z0 HAQ
                                have HSI := Lib.hid (fun W => single_any p0 p1 W)
                                go_wp2_with fail
                                refine (HSI.out _).mono ?_
                                rintro en6 w6 ⟨⟨_, rfl, k1, k2, k3, k4, k5, k6, k7, rfl⟩, hb6⟩
                                have HBW := Lib.hid (HBW.out.trans (hb6.mono (Below.size HBW.out)))
                                clear hb6 a0 a1 b0 b1
                                obtain ⟨⟨c0, c1, c2, c3, c4, c5, c6, c7⟩, hf, hz⟩ := oct_at HX.out.2.2.1 HBW.out
                                have f0 := hf 0
                                have f1 := hf 1
                                have f2 := hf 2
                                have f3 := hf 3
                                have f4 := hf 4
                                have f5 := hf 5
                                have f6 := hf 6
                                have f7 := hf 7
                                clear hf
                                have HBT := Lib.hid (HX.out.2.2.2.trans (HBW.out.mono (Below.size HX.out.2.2.2)))
                                go_wp2
                                refine bodyPost_ret (v := .agg #[.int .i64 1, .int .i64 k1, .int .i64 k2, .int .i64 k3, .int .i64 k4, .int .i64 k5, .int .i64 k6, .int .i64 k7]) (by simp [results, Tryz.results158, go_sem, c0, c1, c2, c3, c4, c5, c6, c7]) rfl ⟨⟨_, rfl, ?_⟩, ?_⟩
                                · rw [HK.out]
                                  exact ⟨_, _, _, _, _, _, _, rfl⟩
                                · exact ((((((((HBT.out.setCell (show w.heap.size ≤ w.heap.size + 1 + 1 by omega) _).setCell (show w.heap.size ≤ w.heap.size + 1 + 1 by omega) _).setCell (show w.heap.size ≤ w.heap.size + 1 + 1 by omega) _).setCell (show w.heap.size ≤ w.heap.size + 1 + 1 by omega) _).setCell (show w.heap.size ≤ w.heap.size + 1 + 1 by omega) _).setCell (show w.heap.size ≤ w.heap.size + 1 + 1 by omega) _).setCell (show w.heap.size ≤ w.heap.size + 1 + 1 by omega) _).setCell (show w.heap.size ≤ w.heap.size + 1 + 1 by omega) _)
                              · have y0 : (c == 0) = false := beq_eq_false_iff_ne.2 z0
                                have x0 : (c = 0) = False := eq_false z0
                                by_cases z1 : c = -1
                                · have y1 : (c == -1) = true := beq_iff_eq.2 z1
                                  have x1 : (c = -1) = True := eq_true z1
                                  have HK : Hid (meetK ((ax, ay), (bx, b_y)) ((cx, cy), (dx, dy)) = 3) := Lib.hid (HAQ.out.trans ((if_neg z0).trans (if_pos z1)))
                                  clear z0 z1 HAQ
                                  obtain ⟨⟨c0, c1, c2, c3, c4, c5, c6, c7⟩, hf, hz⟩ := oct_at HX.out.2.2.1 HBW.out
                                  have f0 := hf 0
                                  have f1 := hf 1
                                  have f2 := hf 2
                                  have f3 := hf 3
                                  have f4 := hf 4
                                  have f5 := hf 5
                                  have f6 := hf 6
                                  have f7 := hf 7
                                  clear hf
                                  have HBT := Lib.hid (HX.out.2.2.2.trans (HBW.out.mono (Below.size HX.out.2.2.2)))
                                  go_wp2
                                  refine bodyPost_ret (v := .agg #[.int .i64 3, .int .i64 0, .int .i64 0, .int .i64 0, .int .i64 p0, .int .i64 p1, .int .i64 p2, .int .i64 p3]) (by simp [results, Tryz.results158, go_sem, c0, c1, c2, c3, c4, c5, c6, c7]) rfl ⟨⟨_, rfl, ?_⟩, ?_⟩
                                  · rw [HK.out]
                                    exact ⟨_, _, _, _, _, _, _, rfl⟩
                                  · exact ((((((((HBT.out.setCell (show w.heap.size ≤ w.heap.size + 1 + 1 by omega) _).setCell (show w.heap.size ≤ w.heap.size + 1 + 1 by omega) _).setCell (show w.heap.size ≤ w.heap.size + 1 + 1 by omega) _).setCell (show w.heap.size ≤ w.heap.size + 1 + 1 by omega) _).setCell (show w.heap.size ≤ w.heap.size + 1 + 1 by omega) _).setCell (show w.heap.size ≤ w.heap.size + 1 + 1 by omega) _).setCell (show w.heap.size ≤ w.heap.size + 1 + 1 by omega) _).setCell (show w.heap.size ≤ w.heap.size + 1 + 1 by omega) _)
                                · have y1 : (c == -1) = false := beq_eq_false_iff_ne.2 z1
                                  have x1 : (c = -1) = False := eq_false z1
                                  have HK : Hid (meetK ((ax, ay), (bx, b_y)) ((cx, cy), (dx, dy)) = 0) := Lib.hid (HAQ.out.trans ((if_neg z0).trans (if_neg z1)))
                                  clear z0 z1 HAQ
                                  obtain ⟨⟨c0, c1, c2, c3, c4, c5, c6, c7⟩, hf, hz⟩ := oct_at HX.out.2.2.1 HBW.out
                                  have f0 := hf 0
                                  have f1 := hf 1
                                  have f2 := hf 2
                                  have f3 := hf 3
                                  have f4 := hf 4
                                  have f5 := hf 5
                                  have f6 := hf 6
                                  have f7 := hf 7
                                  clear hf
                                  have HBT := Lib.hid (HX.out.2.2.2.trans (HBW.out.mono (Below.size HX.out.2.2.2)))
                                  go_wp2
                                  refine bodyPost_ret (v := .agg #[.int .i64 0, .int .i64 0, .int .i64 0, .int .i64 0, .int .i64 0, .int .i64 0, .int .i64 0, .int .i64 0]) (by simp [results, Tryz.results158, go_sem, c0, c1, c2, c3, c4, c5, c6, c7]) rfl ⟨⟨_, rfl, ?_⟩, ?_⟩
                                  · rw [HK.out]
                                    exact ⟨_, _, _, _, _, _, _, rfl⟩
                                  · exact ((((((((HBT.out.setCell (show w.heap.size ≤ w.heap.size + 1 + 1 by omega) _).setCell (show w.heap.size ≤ w.heap.size + 1 + 1 by omega) _).setCell (show w.heap.size ≤ w.heap.size + 1 + 1 by omega) _).setCell (show w.heap.size ≤ w.heap.size + 1 + 1 by omega) _).setCell (show w.heap.size ≤ w.heap.size + 1 + 1 by omega) _).setCell (show w.heap.size ≤ w.heap.size + 1 + 1 by omega) _).setCell (show w.heap.size ≤ w.heap.size + 1 + 1 by omega) _).setCell (show w.heap.size ≤ w.heap.size + 1 + 1 by omega) _)
                            case true =>
                              obtain ⟨_, _, f0, f1, _⟩ := two_facts HG9.out
                              obtain ⟨a0, a1⟩ := pair_at HG9.out (Below.refl _ _)
                              obtain ⟨⟨q0, q1, q2, q3, q4, q5, q6, q7⟩, _, _⟩ := oct_at HAR.out (Below.refl _ _)
                              go_upto_region 23 with fail
                              have HG9 := Lib.hid (block_set (block_set HG9.out 0 (.int .i64 p6)) 1 (.int .i64 p7))
                              have HG8 := Lib.hid ((block_other _ g9 1 (.int .i64 p7) HNE.out.1).trans ((block_other w21 g9 0 (.int .i64 p6) HNE.out.1).trans HG8.out))
                              have HAR := Lib.hid ((block_other _ g9 1 (.int .i64 p7) HNE.out.2.2.2.1).trans ((block_other w21 g9 0 (.int .i64 p6) HNE.out.2.2.2.1).trans HAR.out))
                              have HBV := Lib.hid ((HBV.out.setCell (p := ⟨g9, 0, none⟩) HNE.out.2.2.2.2.2 (.int .i64 p6)).setCell (p := ⟨g9, 1, none⟩) HNE.out.2.2.2.2.2 (.int .i64 p7))
                              clear f0 f1 a0 a1 q0 q1 q2 q3 q4 q5 q6 q7
                              generalize (w21.setCell ⟨g9, 0, none⟩ (.int .i64 p6)).setCell ⟨g9, 1, none⟩ (.int .i64 p7) = wsg9 at *
                              have HVC := Lib.hid (fun W => vcmp_any p0 p1 p6 p7 W)
                              have HAQ : Hid (meetK ((ax, ay), (bx, b_y)) ((cx, cy), (dx, dy)) = if vcmp (p0, p1) (p6, p7) = 0 then 1 else if vcmp (p0, p1) (p6, p7) = -1 then 3 else 0) := Lib.hid (HK.out.trans HAL.out)
                              generalize vcmp (p0, p1) (p6, p7) = c at *
                              obtain ⟨a0, a1⟩ := pair_at HG8.out (Below.refl _ _)
                              obtain ⟨b0, b1⟩ := pair_at HG9.out (Below.refl _ _)
                              go_wp2_with fail
                              refine (HVC.out _).mono ?_
                              rintro en11 w22 ⟨rfl, hb22⟩
                              have HG8 := Lib.hid ((hb22.block _ (lt_of_block HG8.out)).trans HG8.out)
                              have HG9 := Lib.hid ((hb22.block _ (lt_of_block HG9.out)).trans HG9.out)
                              have HAR := Lib.hid ((hb22.block _ (lt_of_block HAR.out)).trans HAR.out)
                              have HBV := Lib.hid (HBV.out.trans (hb22.mono (Below.size HBV.out)))
                              clear a0 a1 b0 b1 hb22
                              have HBW := HBV
                              obtain ⟨a0, a1⟩ := pair_at HG8.out (Below.refl _ _)
                              obtain ⟨b0, b1⟩ := pair_at HG9.out (Below.refl _ _)
                              by_cases z0 : c = 0
                              · have y0 : (c == 0) = true := beq_iff_eq.2 z0
                                have x0 : (c = 0) = True := eq_true z0
                                have HK : Hid (meetK ((ax, ay), (bx, b_y)) ((cx, cy), (dx, dy)) = 1) := Lib.hid (HAQ.out.trans (if_pos z0))
                                clear z0 HAQ
                                have HSI := Lib.hid (fun W => single_any p0 p1 W)
                                go_wp2_with fail
                                refine (HSI.out _).mono ?_
                                rintro en6 w6 ⟨⟨_, rfl, k1, k2, k3, k4, k5, k6, k7, rfl⟩, hb6⟩
                                have HBW := Lib.hid (HBW.out.trans (hb6.mono (Below.size HBW.out)))
                                clear hb6 a0 a1 b0 b1
                                obtain ⟨⟨c0, c1, c2, c3, c4, c5, c6, c7⟩, hf, hz⟩ := oct_at HX.out.2.2.1 HBW.out
                                have f0 := hf 0
                                have f1 := hf 1
                                have f2 := hf 2
                                have f3 := hf 3
                                have f4 := hf 4
                                have f5 := hf 5
                                have f6 := hf 6
                                have f7 := hf 7
                                clear hf
                                have HBT := Lib.hid (HX.out.2.2.2.trans (HBW.out.mono (Below.size HX.out.2.2.2)))
                                go_wp2
                                refine bodyPost_ret (v := .agg #[.int .i64 1, .int .i64 k1, .int .i64 k2, .int .i64 k3, .int .i64 k4, .int .i64 k5, .int .i64 k6, .int .i64 k7]) (by simp [results, Tryz.results158, go_sem, c0, c1, c2, c3, c4, c5, c6, c7]) rfl ⟨⟨_, rfl, ?_⟩, ?_⟩
                                · rw [HK.out]
                                  exact ⟨_, _, _, _, _, _, _, rfl⟩
                                · exact ((((((((HBT.out.setCell (show w.heap.size ≤ w.heap.size + 1 + 1 by omega) _).setCell (show w.heap.size ≤ w.heap.size + 1 + 1 by omega) _).setCell (show w.heap.size ≤ w.heap.size + 1 + 1 by omega) _).setCell (show w.heap.size ≤ w.heap.size + 1 + 1 by omega) _).setCell (show w.heap.size ≤ w.heap.size + 1 + 1 by omega) _).setCell (show w.heap.size ≤ w.heap.size + 1 + 1 by omega) _).setCell (show w.heap.size ≤ w.heap.size + 1 + 1 by omega) _).setCell (show w.heap.size ≤ w.heap.size + 1 + 1 by omega) _)
                              · have y0 : (c == 0) = false := beq_eq_false_iff_ne.2 z0
                                have x0 : (c = 0) = False := eq_false z0
                                by_cases z1 : c = -1
                                · have y1 : (c == -1) = true := beq_iff_eq.2 z1
                                  have x1 : (c = -1) = True := eq_true z1
                                  have HK : Hid (meetK ((ax, ay), (bx, b_y)) ((cx, cy), (dx, dy)) = 3) := Lib.hid (HAQ.out.trans ((if_neg z0).trans (if_pos z1)))
                                  clear z0 z1 HAQ
                                  obtain ⟨⟨c0, c1, c2, c3, c4, c5, c6, c7⟩, hf, hz⟩ := oct_at HX.out.2.2.1 HBW.out
                                  have f0 := hf 0
                                  have f1 := hf 1
                                  have f2 := hf 2
                                  have f3 := hf 3
                                  have f4 := hf 4
                                  have f5 := hf 5
                                  have f6 := hf 6
                                  have f7 := hf 7
                                  clear hf
                                  have HBT := Lib.hid (HX.out.2.2.2.trans (HBW.out.mono (Below.size HX.out.2.2.2)))
                                  go_wp2
                                  refine bodyPost_ret (v := .agg #[.int .i64 3, .int .i64 0, .int .i64 0, .int .i64 0, .int .i64 p0, .int .i64 p1, .int .i64 p6, .int .i64 p7]) (by simp [results, Tryz.results158, go_sem, c0, c1, c2, c3, c4, c5, c6, c7]) rfl ⟨⟨_, rfl, ?_⟩, ?_⟩
                                  · rw [HK.out]
                                    exact ⟨_, _, _, _, _, _, _, rfl⟩
                                  · exact ((((((((HBT.out.setCell (show w.heap.size ≤ w.heap.size + 1 + 1 by omega) _).setCell (show w.heap.size ≤ w.heap.size + 1 + 1 by omega) _).setCell (show w.heap.size ≤ w.heap.size + 1 + 1 by omega) _).setCell (show w.heap.size ≤ w.heap.size + 1 + 1 by omega) _).setCell (show w.heap.size ≤ w.heap.size + 1 + 1 by omega) _).setCell (show w.heap.size ≤ w.heap.size + 1 + 1 by omega) _).setCell (show w.heap.size ≤ w.heap.size + 1 + 1 by omega) _).setCell (show w.heap.size ≤ w.heap.size + 1 + 1 by omega) _)
                                · have y1 : (c == -1) = false := beq_eq_false_iff_ne.2 z1
                                  have x1 : (c = -1) = False := eq_false z1
                                  have HK : Hid (meetK ((ax, ay), (bx, b_y)) ((cx, cy), (dx, dy)) = 0) := Lib.hid (HAQ.out.trans ((if_neg z0).trans (if_neg z1)))
                                  clear z0 z1 HAQ
                                  obtain ⟨⟨c0, c1, c2, c3, c4, c5, c6, c7⟩, hf, hz⟩ := oct_at HX.out.2.2.1 HBW.out
                                  have f0 := hf 0
                                  have f1 := hf 1
                                  have f2 := hf 2
                                  have f3 := hf 3
                                  have f4 := hf 4
                                  have f5 := hf 5
                                  have f6 := hf 6
                                  have f7 := hf 7
                                  clear hf
                                  have HBT := Lib.hid (HX.out.2.2.2.trans (HBW.out.mono (Below.size HX.out.2.2.2)))
                                  go_wp2
                                  refine bodyPost_ret (v := .agg #[.int .i64 0, .int .i64 0, .int .i64 0, .int .i64 0, .int .i64 0, .int .i64 0, .int .i64 0, .int .i64 0]) (by simp [results, Tryz.results158, go_sem, c0, c1, c2, c3, c4, c5, c6, c7]) rfl ⟨⟨_, rfl, ?_⟩, ?_⟩
                                  · rw [HK.out]
                                    exact ⟨_, _, _, _, _, _, _, rfl⟩
                                  · exact ((((((((HBT.out.setCell (show w.heap.size ≤ w.heap.size + 1 + 1 by omega) _).setCell (show w.heap.size ≤ w.heap.size + 1 + 1 by omega) _).setCell (show w.heap.size ≤ w.heap.size + 1 + 1 by omega) _).setCell (show w.heap.size ≤ w.heap.size + 1 + 1 by omega) _).setCell (show w.heap.size ≤ w.heap.size + 1 + 1 by omega) _).setCell (show w.heap.size ≤ w.heap.size + 1 + 1 by omega) _).setCell (show w.heap.size ≤ w.heap.size + 1 + 1 by omega) _).setCell (show w.heap.size ≤ w.heap.size + 1 + 1 by omega) _)
                          case true =>
                            obtain ⟨_, _, f0, f1, _⟩ := two_facts HG8.out
                            obtain ⟨a0, a1⟩ := pair_at HG8.out (Below.refl _ _)
                            obtain ⟨⟨q0, q1, q2, q3, q4, q5, q6, q7⟩, _, _⟩ := oct_at HAR.out (Below.refl _ _)
                            go_upto_region 21 with fail
                            have HG8 := Lib.hid (block_set (block_set HG8.out 0 (.int .i64 p4)) 1 (.int .i64 p5))
                            have HG9 := Lib.hid ((block_other _ g8 1 (.int .i64 p5) HNE.out.2.1).trans ((block_other w20 g8 0 (.int .i64 p4) HNE.out.2.1).trans HG9.out))
                            have HAR := Lib.hid ((block_other _ g8 1 (.int .i64 p5) HNE.out.2.2.1).trans ((block_other w20 g8 0 (.int .i64 p4) HNE.out.2.2.1).trans HAR.out))
                            have HBV := Lib.hid ((HBV.out.setCell (p := ⟨g8, 0, none⟩) HNE.out.2.2.2.2.1 (.int .i64 p4)).setCell (p := ⟨g8, 1, none⟩) HNE.out.2.2.2.2.1 (.int .i64 p5))
                            clear f0 f1 a0 a1 q0 q1 q2 q3 q4 q5 q6 q7
                            generalize (w20.setCell ⟨g8, 0, none⟩ (.int .i64 p4)).setCell ⟨g8, 1, none⟩ (.int .i64 p5) = wsg8 at *
                            obtain ⟨a0, a1⟩ := pair_at HG9.out (Below.refl _ _)
                            obtain ⟨⟨q0, q1, q2, q3, q4, q5, q6, q7⟩, _, _⟩ := oct_at HAR.out (Below.refl _ _)
                            go_wp2_with fail
                            refine (HLE2.out _).mono ?_
                            rintro en10 w21 ⟨rfl, hb21⟩
                            have HG8 := Lib.hid ((hb21.block _ (lt_of_block HG8.out)).trans HG8.out)
                            have HG9 := Lib.hid ((hb21.block _ (lt_of_block HG9.out)).trans HG9.out)
                            have HAR := Lib.hid ((hb21.block _ (lt_of_block HAR.out)).trans HAR.out)
                            have HBV := Lib.hid (HBV.out.trans (hb21.mono (Below.size HBV.out)))
                            clear a0 a1 q0 q1 q2 q3 q4 q5 q6 q7 hb21
                            cases b2
                            case false =>
                              have HVC := Lib.hid (fun W => vcmp_any p4 p5 p2 p3 W)
                              have HAQ : Hid (meetK ((ax, ay), (bx, b_y)) ((cx, cy), (dx, dy)) = if vcmp (p4, p5) (p2, p3) = 0 then 1 else if vcmp (p4, p5) (p2, p3) = -1 then 3 else 0) := Lib.hid (HK.out.trans HAL.out)
                              generalize vcmp (p4, p5) (p2, p3) = c at *
                              obtain ⟨a0, a1⟩ := pair_at HG8.out (Below.refl _ _)
                              obtain ⟨b0, b1⟩ := pair_at HG9.out (Below.refl _ _)
                              go_wp2_with fail
                              refine (HVC.out _).mono ?_
                              rintro en11 w22 ⟨rfl, hb22⟩
                              have HG8 := Lib.hid ((hb22.block _ (lt_of_block HG8.out)).trans HG8.out)
                              have HG9 := Lib.hid ((hb22.block _ (lt_of_block HG9.out)).trans HG9.out)
                              have HAR := Lib.hid ((hb22.block _ (lt_of_block HAR.out)).trans HAR.out)
                              have HBV := Lib.hid (HBV.out.trans (hb22.mono (Below.size HBV.out)))
                              clear a0 a1 b0 b1 hb22
                              have HBW := HBV
                              obtain ⟨a0, a1⟩ := pair_at HG8.out (Below.refl _ _)
                              obtain ⟨b0, b1⟩ := pair_at HG9.out (Below.refl _ _)
                              by_cases z0 : c = 0
                              · have y0 : (c == 0) = true := beq_iff_eq.2 z0
                                have x0 : (c = 0) = True := eq_true z0
                                have HK : Hid (meetK ((ax, ay), (bx, b_y)) ((cx, cy), (dx, dy)) = 1) := Lib.hid (HAQ.out.trans (if_pos z0))
                                clear z0 HAQ
                                have HSI := Lib.hid (fun W => single_any p4 p5 W)
                                go_wp2_with fail
                                refine (HSI.out _).mono ?_
                                rintro en6 w6 ⟨⟨_, rfl, k1, k2, k3, k4, k5, k6, k7, rfl⟩, hb6⟩
                                have HBW := Lib.hid (HBW.out.trans (hb6.mono (Below.size HBW.out)))
                                clear hb6 a0 a1 b0 b1
                                obtain ⟨⟨c0, c1, c2, c3, c4, c5, c6, c7⟩, hf, hz⟩ := oct_at HX.out.2.2.1 HBW.out
                                have f0 := hf 0
                                have f1 := hf 1
                                have f2 := hf 2
                                have f3 := hf 3
                                have f4 := hf 4
                                have f5 := hf 5
                                have f6 := hf 6
                                have f7 := hf 7
                                clear hf
                                have HBT := Lib.hid (HX.out.2.2.2.trans (HBW.out.mono (Below.size HX.out.2.2.2)))
                                go_wp2
                                refine bodyPost_ret (v := .agg #[.int .i64 1, .int .i64 k1, .int .i64 k2, .int .i64 k3, .int .i64 k4, .int .i64 k5, .int .i64 k6, .int .i64 k7]) (by simp [results, Tryz.results158, go_sem, c0, c1, c2, c3, c4, c5, c6, c7]) rfl ⟨⟨_, rfl, ?_⟩, ?_⟩
                                · rw [HK.out]
                                  exact ⟨_, _, _, _, _, _, _, rfl⟩
                                · exact ((((((((HBT.out.setCell (show w.heap.size ≤ w.heap.size + 1 + 1 by omega) _).setCell (show w.heap.size ≤ w.heap.size + 1 + 1 by omega) _).setCell (show w.heap.size ≤ w.heap.size + 1 + 1 by omega) _).setCell (show w.heap.size ≤ w.heap.size + 1 + 1 by omega) _).setCell (show w.heap.size ≤ w.heap.size + 1 + 1 by omega) _).setCell (show w.heap.size ≤ w.heap.size + 1 + 1 by omega) _).setCell (show w.heap.size ≤ w.heap.size + 1 + 1 by omega) _).setCell (show w.heap.size ≤ w.heap.size + 1 + 1 by omega) _)
                              · have y0 : (c == 0) = false := beq_eq_false_iff_ne.2 z0
                                have x0 : (c = 0) = False := eq_false z0
                                by_cases z1 : c = -1
                                · have y1 : (c == -1) = true := beq_iff_eq.2 z1
                                  have x1 : (c = -1) = True := eq_true z1
                                  have HK : Hid (meetK ((ax, ay), (bx, b_y)) ((cx, cy), (dx, dy)) = 3) := Lib.hid (HAQ.out.trans ((if_neg z0).trans (if_pos z1)))
                                  clear z0 z1 HAQ
                                  obtain ⟨⟨c0, c1, c2, c3, c4, c5, c6, c7⟩, hf, hz⟩ := oct_at HX.out.2.2.1 HBW.out
                                  have f0 := hf 0
                                  have f1 := hf 1
                                  have f2 := hf 2
                                  have f3 := hf 3
                                  have f4 := hf 4
                                  have f5 := hf 5
                                  have f6 := hf 6
                                  have f7 := hf 7
                                  clear hf
                                  have HBT := Lib.hid (HX.out.2.2.2.trans (HBW.out.mono (Below.size HX.out.2.2.2)))
                                  go_wp2
                                  refine bodyPost_ret (v := .agg #[.int .i64 3, .int .i64 0, .int .i64 0, .int .i64 0, .int .i64 p4, .int .i64 p5, .int .i64 p2, .int .i64 p3]) (by simp [results, Tryz.results158, go_sem, c0, c1, c2, c3, c4, c5, c6, c7]) rfl ⟨⟨_, rfl, ?_⟩, ?_⟩
                                  · rw [HK.out]
                                    exact ⟨_, _, _, _, _, _, _, rfl⟩
                                  · exact ((((((((HBT.out.setCell (show w.heap.size ≤ w.heap.size + 1 + 1 by omega) _).setCell (show w.heap.size ≤ w.heap.size + 1 + 1 by omega) _).setCell (show w.heap.size ≤ w.heap.size + 1 + 1 by omega) _).setCell (show w.heap.size ≤ w.heap.size + 1 + 1 by omega) _).setCell (show w.heap.size ≤ w.heap.size + 1 + 1 by omega) _).setCell (show w.heap.size ≤ w.heap.size + 1 + 1 by omega) _).setCell (show w.heap.size ≤ w.heap.size + 1 + 1 by omega) _).setCell (show w.heap.size ≤ w.heap.size + 1 + 1 by omega) _)
                                · have y1 : (c == -1) = false := beq_eq_false_iff_ne.2 z1
                                  have x1 : (c = -1) = False := eq_false z1
                                  have HK : Hid (meetK ((ax, ay), (bx, b_y)) ((cx, cy), (dx, dy)) = 0) := Lib.hid (HAQ.out.trans ((if_neg z0).trans (if_neg z1)))
                                  clear z0 z1 HAQ
                                  obtain ⟨⟨c0, c1, c2, c3, c4, c5, c6, c7⟩, hf, hz⟩ := oct_at HX.out.2.2.1 HBW.out
                                  have f0 := hf 0
                                  have f1 := hf 1
                                  have f2 := hf 2
                                  have f3 := hf 3
                                  have f4 := hf 4
                                  have f5 := hf 5
                                  have f6 := hf 6
                                  have f7 := hf 7
                                  clear hf
                                  have HBT := Lib.hid (HX.out.2.2.2.trans (HBW.out.mono (Below.size HX.out.2.2.2)))
                                  go_wp2
                                  refine bodyPost_ret (v := .agg #[.int .i64 0, .int .i64 0, .int .i64 0, .int .i64 0, .int .i64 0, .int .i64 0, .int .i64 0, .int .i64 0]) (by simp [results, Tryz.results158, go_sem, c0, c1, c2, c3, c4, c5, c6, c7]) rfl ⟨⟨_, rfl, ?_⟩, ?_⟩
                                  · rw [HK.out]
                                    exact ⟨_, _, _, _, _, _, _, rfl⟩
                                  · exact ((((((((HBT.out.setCell (show w.heap.size ≤ w.heap.size + 1 + 1 by omega) _).setCell (show w.heap.size ≤ w.heap.size + 1 + 1 by omega) _).setCell (show w.heap.size ≤ w.heap.size + 1 + 1 by omega) _).setCell (show w.heap.size ≤ w.heap.size + 1 + 1 by omega) _).setCell (show w.heap.size ≤ w.heap.size + 1 + 1 by omega) _).setCell (show w.heap.size ≤ w.heap.size + 1 + 1 by omega) _).setCell (show w.heap.size ≤ w.heap.size + 1 + 1 by omega) _).setCell (show w.heap.size ≤ w.heap.size + 1 + 1 by omega) _)
                            case true =>
                              obtain ⟨_, _, f0, f1, _⟩ := two_facts HG9.out
                              obtain ⟨a0, a1⟩ := pair_at HG9.out (Below.refl _ _)
                              obtain ⟨⟨q0, q1, q2, q3, q4, q5, q6, q7⟩, _, _⟩ := oct_at HAR.out (Below.refl _ _)
                              go_upto_region 23 with fail
                              have HG9 := Lib.hid (block_set (block_set HG9.out 0 (.int .i64 p6)) 1 (.int .i64 p7))
                              have HG8 := Lib.hid ((block_other _ g9 1 (.int .i64 p7) HNE.out.1).trans ((block_other w21 g9 0 (.int .i64 p6) HNE.out.1).trans HG8.out))
                              have HAR := Lib.hid ((block_other _ g9 1 (.int .i64 p7) HNE.out.2.2.2.1).trans ((block_other w21 g9 0 (.int .i64 p6) HNE.out.2.2.2.1).trans HAR.out))
                              have HBV := Lib.hid ((HBV.out.setCell (p := ⟨g9, 0, none⟩) HNE.out.2.2.2.2.2 (.int .i64 p6)).setCell (p := ⟨g9, 1, none⟩) HNE.out.2.2.2.2.2 (.int .i64 p7))
                              clear f0 f1 a0 a1 q0 q1 q2 q3 q4 q5 q6 q7
                              generalize (w21.setCell ⟨g9, 0, none⟩ (.int .i64 p6)).setCell ⟨g9, 1, none⟩ (.int .i64 p7) = wsg9 at *
                              have HVC := Lib.hid (fun W => vcmp_any p4 p5 p6 p7 W)
                              have HAQ : Hid (meetK ((ax, ay), (bx, b_y)) ((cx, cy), (dx, dy)) = if vcmp (p4, p5) (p6, p7) = 0 then 1 else if vcmp (p4, p5) (p6, p7) = -1 then 3 else 0) := Lib.hid (HK.out.trans HAL.out)
                              generalize vcmp (p4, p5) (p6, p7) = c at *
                              obtain ⟨a0, a1⟩ := pair_at HG8.out (Below.refl _ _)
                              obtain ⟨b0, b1⟩ := pair_at HG9.out (Below.refl _ _)
                              go_wp2_with fail
                              refine (HVC.out _).mono ?_
                              rintro en11 w22 ⟨rfl, hb22⟩
                              have HG8 := Lib.hid ((hb22.block _ (lt_of_block HG8.out)).trans HG8.out)
                              have HG9 := Lib.hid ((hb22.block _ (lt_of_block HG9.out)).trans HG9.out)
                              have HAR := Lib.hid ((hb22.block _ (lt_of_block HAR.out)).trans HAR.out)
                              have HBV := Lib.hid (HBV.out.trans (hb22.mono (Below.size HBV.out)))
                              clear a0 a1 b0 b1 hb22
                              have HBW := HBV
                              obtain ⟨a0, a1⟩ := pair_at HG8.out (Below.refl _ _)
                              obtain ⟨b0, b1⟩ := pair_at HG9.out (Below.refl _ _)
                              by_cases z0 : c = 0
                              · have y0 : (c == 0) = true := beq_iff_eq.2 z0
                                have x0 : (c = 0) = True := eq_true z0
                                have HK : Hid (meetK ((ax, ay), (bx, b_y)) ((cx, cy), (dx, dy)) = 1) := Lib.hid (HAQ.out.trans (if_pos z0))
                                clear z0 HAQ
                                have HSI := Lib.hid (fun W => single_any p4 p5 W)
                                go_wp2_with fail
                                refine (HSI.out _).mono ?_
                                rintro en6 w6 ⟨⟨_, rfl, k1, k2, k3, k4, k5, k6, k7, rfl⟩, hb6⟩
                                have HBW := Lib.hid (HBW.out.trans (hb6.mono (Below.size HBW.out)))
                                clear hb6 a0 a1 b0 b1
                                obtain ⟨⟨c0, c1, c2, c3, c4, c5, c6, c7⟩, hf, hz⟩ := oct_at HX.out.2.2.1 HBW.out
                                have f0 := hf 0
                                have f1 := hf 1
                                have f2 := hf 2
                                have f3 := hf 3
                                have f4 := hf 4
                                have f5 := hf 5
                                have f6 := hf 6
                                have f7 := hf 7
                                clear hf
                                have HBT := Lib.hid (HX.out.2.2.2.trans (HBW.out.mono (Below.size HX.out.2.2.2)))
                                go_wp2
                                refine bodyPost_ret (v := .agg #[.int .i64 1, .int .i64 k1, .int .i64 k2, .int .i64 k3, .int .i64 k4, .int .i64 k5, .int .i64 k6, .int .i64 k7]) (by simp [results, Tryz.results158, go_sem, c0, c1, c2, c3, c4, c5, c6, c7]) rfl ⟨⟨_, rfl, ?_⟩, ?_⟩
                                · rw [HK.out]
                                  exact ⟨_, _, _, _, _, _, _, rfl⟩
                                · exact ((((((((HBT.out.setCell (show w.heap.size ≤ w.heap.size + 1 + 1 by omega) _).setCell (show w.heap.size ≤ w.heap.size + 1 + 1 by omega) _).setCell (show w.heap.size ≤ w.heap.size + 1 + 1 by omega) _).setCell (show w.heap.size ≤ w.heap.size + 1 + 1 by omega) _).setCell (show w.heap.size ≤ w.heap.size + 1 + 1 by omega) _).setCell (show w.heap.size ≤ w.heap.size + 1 + 1 by omega) _).setCell (show w.heap.size ≤ w.heap.size + 1 + 1 by omega) _).setCell (show w.heap.size ≤ w.heap.size + 1 + 1 by omega) _)
                              · have y0 : (c == 0) = false := beq_eq_false_iff_ne.2 z0
                                have x0 : (c = 0) = False := eq_false z0
                                by_cases z1 : c = -1
                                · have y1 : (c == -1) = true := beq_iff_eq.2 z1
                                  have x1 : (c = -1) = True := eq_true z1
                                  have HK : Hid (meetK ((ax, ay), (bx, b_y)) ((cx, cy), (dx, dy)) = 3) := Lib.hid (HAQ.out.trans ((if_neg z0).trans (if_pos z1)))
                                  clear z0 z1 HAQ
                                  obtain ⟨⟨c0, c1, c2, c3, c4, c5, c6, c7⟩, hf, hz⟩ := oct_at HX.out.2.2.1 HBW.out
                                  have f0 := hf 0
                                  have f1 := hf 1
                                  have f2 := hf 2
                                  have f3 := hf 3
                                  have f4 := hf 4
                                  have f5 := hf 5
                                  have f6 := hf 6
                                  have f7 := hf 7
                                  clear hf
                                  have HBT := Lib.hid (HX.out.2.2.2.trans (HBW.out.mono (Below.size HX.out.2.2.2)))
                                  go_wp2
                                  refine bodyPost_ret (v := .agg #[.int .i64 3, .int .i64 0, .int .i64 0, .int .i64 0, .int .i64 p4, .int .i64 p5, .int .i64 p6, .int .i64 p7]) (by simp [results, Tryz.results158, go_sem, c0, c1, c2, c3, c4, c5, c6, c7]) rfl ⟨⟨_, rfl, ?_⟩, ?_⟩
                                  · rw [HK.out]
                                    exact ⟨_, _, _, _, _, _, _, rfl⟩
                                  · exact ((((((((HBT.out.setCell (show w.heap.size ≤ w.heap.size + 1 + 1 by omega) _).setCell (show w.heap.size ≤ w.heap.size + 1 + 1 by omega) _).setCell (show w.heap.size ≤ w.heap.size + 1 + 1 by omega) _).setCell (show w.heap.size ≤ w.heap.size + 1 + 1 by omega) _).setCell (show w.heap.size ≤ w.heap.size + 1 + 1 by omega) _).setCell (show w.heap.size ≤ w.heap.size + 1 + 1 by omega) _).setCell (show w.heap.size ≤ w.heap.size + 1 + 1 by omega) _).setCell (show w.heap.size ≤ w.heap.size + 1 + 1 by omega) _)
                                · have y1 : (c == -1) = false := beq_eq_false_iff_ne.2 z1
                                  have x1 : (c = -1) = False := eq_false z1
                                  have HK : Hid (meetK ((ax, ay), (bx, b_y)) ((cx, cy), (dx, dy)) = 0) := Lib.hid (HAQ.out.trans ((if_neg z0).trans (if_neg z1)))
                                  clear z0 z1 HAQ
                                  obtain ⟨⟨c0, c1, c2, c3, c4, c5, c6, c7⟩, hf, hz⟩ := oct_at HX.out.2.2.1 HBW.out
                                  have f0 := hf 0
                                  have f1 := hf 1
                                  have f2 := hf 2
                                  have f3 := hf 3
                                  have f4 := hf 4
                                  have f5 := hf 5
                                  have f6 := hf 6
                                  have f7 := hf 7
                                  clear hf
                                  have HBT := Lib.hid (HX.out.2.2.2.trans (HBW.out.mono (Below.size HX.out.2.2.2)))
                                  go_wp2
                                  refine bodyPost_ret (v := .agg #[.int .i64 0, .int .i64 0, .int .i64 0, .int .i64 0, .int .i64 0, .int .i64 0, .int .i64 0, .int .i64 0]) (by simp [results, Tryz.results158, go_sem, c0, c1, c2, c3, c4, c5, c6, c7]) rfl ⟨⟨_, rfl, ?_⟩, ?_⟩
                                  · rw [HK.out]
                                    exact ⟨_, _, _, _, _, _, _, rfl⟩
                                  · exact ((((((((HBT.out.setCell (show w.heap.size ≤ w.heap.size + 1 + 1 by omega) _).setCell (show w.heap.size ≤ w.heap.size + 1 + 1 by omega) _).setCell (show w.heap.size ≤ w.heap.size + 1 + 1 by omega) _).setCell (show w.heap.size ≤ w.heap.size + 1 + 1 by omega) _).setCell (show w.heap.size ≤ w.heap.size + 1 + 1 by omega) _).setCell (show w.heap.size ≤ w.heap.size + 1 + 1 by omega) _).setCell (show w.heap.size ≤ w.heap.size + 1 + 1 by omega) _).setCell (show w.heap.size ≤ w.heap.size + 1 + 1 by omega) _)
      · have dn : (d != 0) = true := bne_iff_ne.2 hd
        have dm : (d = 0) = False := eq_false hd
        have HK := Lib.hid (HM.out.trans (if_pos hd))
        have HLI := Lib.hid (fun W => lines_any ax ay bx b_y cx cy dx dy d W (by omega) (by omega) (by omega) (by omega) (by omega) (by omega) (by omega) (by omega) (by have := HDb.out; omega) hd)
        clear hd HM
        obtain ⟨q0, q1, q2, q3, q4, q5, q6, q7, q8⟩ := CS.out _ HBW.out
        go_wp2_with fail
        refine (HLI.out _).mono ?_
        rintro en6 w6 ⟨⟨_, rfl, k1, k2, k3, k4, k5, k6, k7, rfl⟩, hb6⟩
        have HBW := Lib.hid (HBW.out.trans (hb6.mono (Below.size HBW.out)))
        clear hb6
        clear q0 q1 q2 q3 q4 q5 q6 q7 q8
        obtain ⟨⟨c0, c1, c2, c3, c4, c5, c6, c7⟩, hf, hz⟩ := oct_at HX.out.2.2.1 HBW.out
        have f0 := hf 0
        have f1 := hf 1
        have f2 := hf 2
        have f3 := hf 3
        have f4 := hf 4
        have f5 := hf 5
        have f6 := hf 6
        have f7 := hf 7
        clear hf
        have HBT := Lib.hid (HX.out.2.2.2.trans (HBW.out.mono (Below.size HX.out.2.2.2)))
        go_wp2
        refine bodyPost_ret (v := .agg #[.int .i64 (linesK ((ax, ay), (bx, b_y)) ((cx, cy), (dx, dy)) d), .int .i64 k1, .int .i64 k2, .int .i64 k3, .int .i64 k4, .int .i64 k5, .int .i64 k6, .int .i64 k7]) (by simp [results, Tryz.results158, go_sem, c0, c1, c2, c3, c4, c5, c6, c7]) rfl ⟨⟨_, rfl, ?_⟩, ?_⟩
        · rw [HK.out]
          exact ⟨_, _, _, _, _, _, _, rfl⟩
        · exact ((((((((HBT.out.setCell (show w.heap.size ≤ w.heap.size + 1 + 1 by omega) _).setCell (show w.heap.size ≤ w.heap.size + 1 + 1 by omega) _).setCell (show w.heap.size ≤ w.heap.size + 1 + 1 by omega) _).setCell (show w.heap.size ≤ w.heap.size + 1 + 1 by omega) _).setCell (show w.heap.size ≤ w.heap.size + 1 + 1 by omega) _).setCell (show w.heap.size ≤ w.heap.size + 1 + 1 by omega) _).setCell (show w.heap.size ≤ w.heap.size + 1 + 1 by omega) _).setCell (show w.heap.size ≤ w.heap.size + 1 + 1 by omega) _)

end Go.Proofs.YtnmmhcchpcbeeaaGreat.GeW
