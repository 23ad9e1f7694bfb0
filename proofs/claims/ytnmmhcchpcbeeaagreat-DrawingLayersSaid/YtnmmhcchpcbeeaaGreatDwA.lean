/- Walks: the scalar product; whether an arc is valid. Conditions: none. -/
import Derived.Test.YtnmmhcchpcbeeaaGreatGeCl

namespace Go.Proofs.YtnmmhcchpcbeeaaGreat.Ge
def dot (a b : V) : Int := a.1 * b.1 + a.2 * b.2
def arcOk (f t c : V) : Bool := within f 2000 && (within t 2000 && (within c 2000 && (decide (0 < dot (sub f c) (sub f c)) && (decide (dot (sub f c) (sub f c) = dot (sub t c) (sub t c)) && decide (dot (sub f c) (sub f c) ≤ 4000000)))))
end Go.Proofs.YtnmmhcchpcbeeaaGreat.Ge
namespace Go.Proofs.YtnmmhcchpcbeeaaGreat.GeW
open Go Go.RowKit Go.Proofs.YtnmmhcchpcbeeaaGreat.Mem Go.Proofs.YtnmmhcchpcbeeaaGreat.Ge
attribute [local go_sem ↓] Go.wp_at_zero Go.wp_at_succ
set_option maxRecDepth 100000 in
theorem dot_any (x y u v : Int) (w : World) (h1 : -4000000000000000000 ≤ x * u ∧ x * u ≤ 4000000000000000000) (h2 : -4000000000000000000 ≤ y * v ∧ y * v ≤ 4000000000000000000) :
    Calls Tryz.prog 146 #[.agg #[.int .i64 x, .int .i64 y], .agg #[.int .i64 u, .int .i64 v]] w fun e w' => e = .returned (.int .i64 (x * u + y * v)) ∧ Below w.heap.size w w' := by
  obtain ⟨a1, a2⟩ := h1
  obtain ⟨b1, b2⟩ := h2
  have WW1 : IntKind.i64.wrap (x * u) = x * u := by rw [IntKind.wrap_i64]; omega
  have WW2 : IntKind.i64.wrap (y * v) = y * v := by rw [IntKind.wrap_i64]; omega
  have WW3 : IntKind.i64.wrap (x * u + y * v) = x * u + y * v := by rw [IntKind.wrap_i64]; omega
  have HB := Lib.hid (((Below.refl w.heap.size w).alloc (Nat.le_refl _) (.cells #[.int .i64 x, .int .i64 y] 53)).alloc (by simp) (.cells #[.int .i64 u, .int .i64 v] 53))
  clear a1 a2 b1 b2
  go_enter Tryz.func146, Tryz.ntmps146
  go_wp2
  go_ret
  exact ⟨rfl, HB.out⟩
theorem dot_any8 (x y u v : Int) (w : World) (hx : -8000 ≤ x ∧ x ≤ 8000) (hy : -8000 ≤ y ∧ y ≤ 8000) (hu : -8000 ≤ u ∧ u ≤ 8000) (hv : -8000 ≤ v ∧ v ≤ 8000) :
    Calls Tryz.prog 146 #[.agg #[.int .i64 x, .int .i64 y], .agg #[.int .i64 u, .int .i64 v]] w fun e w' => e = .returned (.int .i64 (dot (x, y) (u, v))) ∧ Below w.heap.size w w' := by
  have h1 := mul8 hx hu
  have h2 := mul8 hy hv
  exact dot_any x y u v w (by omega) (by omega)
theorem cell6 {w : World} {g : Nat} {a b c d e f h : Value} {t : TypeId} (hx : w.heap[g]? = some (.cells #[a, b, c, d, e, f, h] t (0, 0))) : w.cell? ⟨g, 0, none⟩ = some a ∧ w.cell? ⟨g, 1, none⟩ = some b ∧ w.cell? ⟨g, 2, none⟩ = some c ∧ w.cell? ⟨g, 3, none⟩ = some d ∧ w.cell? ⟨g, 4, none⟩ = some e ∧ w.cell? ⟨g, 5, none⟩ = some f := by
  refine ⟨?_, ?_, ?_, ?_, ?_, ?_⟩ <;> simp [World.cell?, hx]
set_option maxRecDepth 100000 in
set_option maxHeartbeats 4000000 in
theorem arcOk_any (fx fy tx ty cx cy : Int) (cw : Bool) (w : World) :
    Calls Tryz.prog 93 #[.agg #[.int .i64 fx, .int .i64 fy, .int .i64 tx, .int .i64 ty, .int .i64 cx, .int .i64 cy, .bool cw]] w fun e w' => e = .returned (.bool (arcOk (fx, fy) (tx, ty) (cx, cy))) ∧ Below w.heap.size w w' := by
  have HO := Lib.hid (one_vec w (.cells #[.int .i64 fx, .int .i64 fy, .int .i64 tx, .int .i64 ty, .int .i64 cx, .int .i64 cy, .bool cw] 55))
  go_enter Tryz.func93, Tryz.ntmps93
  go_upto_region 1 with fail
  generalize w.alloc (.cells #[.int .i64 fx, .int .i64 fy, .int .i64 tx, .int .i64 ty, .int .i64 cx, .int .i64 cy, .bool cw] 55) = W0 at *
  obtain ⟨q0, q1, q2, q3, q4, q5⟩ := cell6 HO.out.2
  go_wp2
  clear q0 q1 q2 q3 q4 q5
  go_loopw [4, 15] (fun _ i wr => ∃ k : Nat, i = .int .i64 (k : Int) ∧ k ≤ 3 ∧ (1 ≤ k → within (fx, fy) 2000 = true) ∧ (2 ≤ k → within (tx, ty) 2000 = true) ∧ (3 ≤ k → within (cx, cy) 2000 = true) ∧ Hid (wr.heap[w.heap.size]? = some (.cells #[.int .i64 fx, .int .i64 fy, .int .i64 tx, .int .i64 ty, .int .i64 cx, .int .i64 cy, .bool cw] 55 (0, 0))) ∧ Hid (Below w.heap.size w wr)) (fun _ i _ => 3 - (intOf i).toNat)
  case atStart => exact ⟨0, rfl, by omega, fun h => absurd h (by omega), fun h => absurd h (by omega), fun h => absurd h (by omega), Lib.hid HO.out.2, Lib.hid HO.out.1⟩
  case round =>
    obtain ⟨k, rfl, hk, hp1, hp2, hp3, HX, HB⟩ := hrel
    rcases (show k = 0 ∨ k = 1 ∨ k = 2 ∨ k = 3 by omega) with rfl | rfl | rfl | rfl
    · have hix : ∀ W : World, (Instr.index 157 (.agg #[.int .i64 fx, .int .i64 fy, .int .i64 tx, .int .i64 ty, .int .i64 cx, .int .i64 cy]) (.int .i64 0)).run Tryz.prog W = .ok (.agg #[.int .i64 fx, .int .i64 fy]) W := fun W => by kernel_rfl
      have HWK := Lib.hid (fun W => within_any fx fy 2000 W (by omega))
      cases hw : within (fx, fy) 2000
      · have HF : Hid (arcOk (fx, fy) (tx, ty) (cx, cy) = false) := Lib.hid (by unfold arcOk; rw [hw]; simp)
        rw [hw] at HWK
        clear hw
        go_wp2_with fail
        refine (HWK.out _).mono ?_
        rintro e w4 ⟨rfl, hb4⟩
        have HB4 := Lib.hid (((HB.out.alloc HB.out.size (.cells #[.int .i64 fx, .int .i64 fy] 53))).trans (hb4.mono (by simp; have := HB.out.size; omega)))
        go_wp2
        go_ret
        rw [HF.out]
        exact ⟨rfl, HB4.out⟩
      · rw [hw] at HWK
        have HWH := Lib.hid hw
        clear hw
        go_wp2_with fail
        refine (HWK.out _).mono ?_
        rintro e w4 ⟨rfl, hb4⟩
        have HB4 := Lib.hid (((HB.out.alloc HB.out.size (.cells #[.int .i64 fx, .int .i64 fy] 53))).trans (hb4.mono (by simp; have := HB.out.size; omega)))
        have HX4 := Lib.hid (((one_vec wr (.cells #[.int .i64 fx, .int .i64 fy] 53)).1.trans (hb4.mono (Below.size (one_vec wr (.cells #[.int .i64 fx, .int .i64 fy] 53)).1))).block _ (lt_of_block HX.out) |>.trans HX.out)
        clear hb4
        go_wp2
        go_roundw
        case rel => exact ⟨1, by go_num, by omega, fun _ => (by first | exact HWH.out | trivial), fun h => absurd h (by omega), fun h => absurd h (by omega), HX4, HB4⟩
        case measure => simp [intOf]
    · have hix : ∀ W : World, (Instr.index 157 (.agg #[.int .i64 fx, .int .i64 fy, .int .i64 tx, .int .i64 ty, .int .i64 cx, .int .i64 cy]) (.int .i64 1)).run Tryz.prog W = .ok (.agg #[.int .i64 tx, .int .i64 ty]) W := fun W => by kernel_rfl
      have HWK := Lib.hid (fun W => within_any tx ty 2000 W (by omega))
      cases hw : within (tx, ty) 2000
      · have HF : Hid (arcOk (fx, fy) (tx, ty) (cx, cy) = false) := Lib.hid (by unfold arcOk; rw [hw]; simp)
        rw [hw] at HWK
        clear hw
        go_wp2_with fail
        refine (HWK.out _).mono ?_
        rintro e w4 ⟨rfl, hb4⟩
        have HB4 := Lib.hid (((HB.out.alloc HB.out.size (.cells #[.int .i64 tx, .int .i64 ty] 53))).trans (hb4.mono (by simp; have := HB.out.size; omega)))
        go_wp2
        go_ret
        rw [HF.out]
        exact ⟨rfl, HB4.out⟩
      · rw [hw] at HWK
        have HWH := Lib.hid hw
        clear hw
        go_wp2_with fail
        refine (HWK.out _).mono ?_
        rintro e w4 ⟨rfl, hb4⟩
        have HB4 := Lib.hid (((HB.out.alloc HB.out.size (.cells #[.int .i64 tx, .int .i64 ty] 53))).trans (hb4.mono (by simp; have := HB.out.size; omega)))
        have HX4 := Lib.hid (((one_vec wr (.cells #[.int .i64 tx, .int .i64 ty] 53)).1.trans (hb4.mono (Below.size (one_vec wr (.cells #[.int .i64 tx, .int .i64 ty] 53)).1))).block _ (lt_of_block HX.out) |>.trans HX.out)
        clear hb4
        go_wp2
        go_roundw
        case rel => exact ⟨2, by go_num, by omega, fun _ => hp1 (by omega), fun _ => (by first | exact HWH.out | trivial), fun h => absurd h (by omega), HX4, HB4⟩
        case measure => simp [intOf]
    · have hix : ∀ W : World, (Instr.index 157 (.agg #[.int .i64 fx, .int .i64 fy, .int .i64 tx, .int .i64 ty, .int .i64 cx, .int .i64 cy]) (.int .i64 2)).run Tryz.prog W = .ok (.agg #[.int .i64 cx, .int .i64 cy]) W := fun W => by kernel_rfl
      have HWK := Lib.hid (fun W => within_any cx cy 2000 W (by omega))
      cases hw : within (cx, cy) 2000
      · have HF : Hid (arcOk (fx, fy) (tx, ty) (cx, cy) = false) := Lib.hid (by unfold arcOk; rw [hw]; simp)
        rw [hw] at HWK
        clear hw
        go_wp2_with fail
        refine (HWK.out _).mono ?_
        rintro e w4 ⟨rfl, hb4⟩
        have HB4 := Lib.hid (((HB.out.alloc HB.out.size (.cells #[.int .i64 cx, .int .i64 cy] 53))).trans (hb4.mono (by simp; have := HB.out.size; omega)))
        go_wp2
        go_ret
        rw [HF.out]
        exact ⟨rfl, HB4.out⟩
      · rw [hw] at HWK
        have HWH := Lib.hid hw
        clear hw
        go_wp2_with fail
        refine (HWK.out _).mono ?_
        rintro e w4 ⟨rfl, hb4⟩
        have HB4 := Lib.hid (((HB.out.alloc HB.out.size (.cells #[.int .i64 cx, .int .i64 cy] 53))).trans (hb4.mono (by simp; have := HB.out.size; omega)))
        have HX4 := Lib.hid (((one_vec wr (.cells #[.int .i64 cx, .int .i64 cy] 53)).1.trans (hb4.mono (Below.size (one_vec wr (.cells #[.int .i64 cx, .int .i64 cy] 53)).1))).block _ (lt_of_block HX.out) |>.trans HX.out)
        clear hb4
        go_wp2
        go_roundw
        case rel => exact ⟨3, by go_num, by omega, fun _ => hp1 (by omega), fun _ => hp2 (by omega), fun _ => (by first | exact HWH.out | trivial), HX4, HB4⟩
        case measure => simp [intOf]
    · have h1 := hp1 (by omega)
      have h2 := hp2 (by omega)
      have h3 := hp3 (by omega)
      obtain ⟨⟨f1, f2⟩, f3, f4⟩ := within_in h1
      obtain ⟨⟨t1, t2⟩, t3, t4⟩ := within_in h2
      obtain ⟨⟨c1, c2⟩, c3, c4⟩ := within_in h3
      simp only at f1 f2 f3 f4 t1 t2 t3 t4 c1 c2 c3 c4
      have HK : Hid (arcOk (fx, fy) (tx, ty) (cx, cy) = (decide (0 < dot (fx - cx, fy - cy) (fx - cx, fy - cy)) && (decide (dot (fx - cx, fy - cy) (fx - cx, fy - cy) = dot (tx - cx, ty - cy) (tx - cx, ty - cy)) && decide (dot (fx - cx, fy - cy) (fx - cx, fy - cy) ≤ 4000000)))) := Lib.hid (by unfold arcOk; rw [h1, h2, h3]; rfl)
      have HU := Lib.hid (fun W => sub_any fx fy cx cy W (by omega) (by omega) (by omega) (by omega))
      have HV := Lib.hid (fun W => sub_any tx ty cx cy W (by omega) (by omega) (by omega) (by omega))
      have HP := Lib.hid (fun W => dot_any8 (fx - cx) (fy - cy) (fx - cx) (fy - cy) W (by omega) (by omega) (by omega) (by omega))
      have HQ := Lib.hid (fun W => dot_any8 (tx - cx) (ty - cy) (tx - cx) (ty - cy) W (by omega) (by omega) (by omega) (by omega))
      clear hp1 hp2 hp3 h1 h2 h3 f1 f2 f3 f4 t1 t2 t3 t4 c1 c2 c3 c4
      go_upto_region 7 with fail
      generalize wr = W at *
      have CS : Hid (∀ w', Below W.heap.size W w' → w'.cell? ⟨w.heap.size, 0, none⟩ = some (.int .i64 fx) ∧ w'.cell? ⟨w.heap.size, 1, none⟩ = some (.int .i64 fy) ∧ w'.cell? ⟨w.heap.size, 2, none⟩ = some (.int .i64 tx) ∧ w'.cell? ⟨w.heap.size, 3, none⟩ = some (.int .i64 ty) ∧ w'.cell? ⟨w.heap.size, 4, none⟩ = some (.int .i64 cx) ∧ w'.cell? ⟨w.heap.size, 5, none⟩ = some (.int .i64 cy) ∧ Below W.heap.size W w') := Lib.hid (fun w' hb => by
        obtain ⟨a0, a1, a2, a3, a4, a5⟩ := cell6 ((hb.block _ (lt_of_block HX.out)).trans HX.out)
        exact ⟨a0, a1, a2, a3, a4, a5, hb⟩)
      obtain ⟨q0, q1, q2, q3, q4, q5, q6⟩ := CS.out W (Below.refl _ _)
      go_cut [5, 6] from 22 to 31 (fun p q wc => ∃ b1 b2, p = .pointer (some ⟨b1, 0, none⟩) ∧ q = .pointer (some ⟨b2, 0, none⟩) ∧ (wc.cell? ⟨b1, 0, none⟩ = some (.int .i64 (fx - cx)) ∧ wc.cell? ⟨b1, 1, none⟩ = some (.int .i64 (fy - cy)) ∧ b1 < wc.heap.size) ∧ (wc.cell? ⟨b2, 0, none⟩ = some (.int .i64 (tx - cx)) ∧ wc.cell? ⟨b2, 1, none⟩ = some (.int .i64 (ty - cy)) ∧ b2 < wc.heap.size) ∧ Below W.heap.size W wc)
      case first =>
        go_wp2_with fail
        have tok1 := Lib.hid trivial
        go_region_held3 (fun w' => w'.cell? ⟨w.heap.size, 0, none⟩ = some (.int .i64 fx) ∧ w'.cell? ⟨w.heap.size, 1, none⟩ = some (.int .i64 fy) ∧ w'.cell? ⟨w.heap.size, 2, none⟩ = some (.int .i64 tx) ∧ w'.cell? ⟨w.heap.size, 3, none⟩ = some (.int .i64 ty) ∧ w'.cell? ⟨w.heap.size, 4, none⟩ = some (.int .i64 cx) ∧ w'.cell? ⟨w.heap.size, 5, none⟩ = some (.int .i64 cy) ∧ Below W.heap.size W w')
          (first | assumption | exact CS.out _ (by (repeat (with_reducible first | assumption | exact Below.refl _ _ | refine below_drew ?_ | refine bel_alloc ?_ _ | (refine bel_set ?_ (by simp <;> omega) _)))))
          (first
           | (go_at_call 94; clear tok1; obtain ⟨_, _, _, _, _, _, hbx⟩ := ‹_ ∧ _ ∧ _ ∧ _ ∧ _ ∧ _ ∧ Below _ _ _›; refine (HU.out _).mono ?_; rintro e w6 ⟨rfl, hb60⟩; have hb6 : Below W.heap.size W w6 := hbx.trans (hb60.mono (Below.size hbx)); have hz6 := Below.size hb6; (first | (have n12 := fresh2 hb60; obtain ⟨n1, n2⟩ := n12; have k1 := lt_of_block n1; have k2 := lt_of_block n2) | (have n1 := fresh1 hb60; have k1 := lt_of_block n1) | skip))
           | (go_at_call 94; obtain ⟨_, _, _, _, _, _, hbx⟩ := ‹_ ∧ _ ∧ _ ∧ _ ∧ _ ∧ _ ∧ Below _ _ _›; refine (HV.out _).mono ?_; rintro e w7 ⟨rfl, hb70⟩; have hb7 : Below W.heap.size W w7 := hbx.trans (hb70.mono (Below.size hbx)); have hz7 := Below.size hb7; (first | (have l12 := fresh2' hb70; obtain ⟨l1, l2⟩ := l12; have l1f := two_facts l1; obtain ⟨d0, d1, d2, d3, d4⟩ := l1f; have l2f := two_facts l2; obtain ⟨d0', d1', d2', d3', d4'⟩ := l2f) | (have l1 := fresh1' hb70; have l1f := two_facts l1; obtain ⟨d0, d1, d2, d3, d4⟩ := l1f) | skip); (first | (have o1 := two_facts (older n1 hb70); obtain ⟨c0, c1, c2, c3, c4⟩ := o1) | (have o1 := two_facts (older n1 (below_of_alloc hb70)); obtain ⟨c0, c1, c2, c3, c4⟩ := o1) | skip); (first | (have o2 := two_facts (older n2 hb70); obtain ⟨e0, e1, e2, e3, e4⟩ := o2) | skip)))
        all_goals
          go_wp2_with fail
          go_meet
        all_goals
          refine ⟨_, _, rfl, rfl, ⟨?_, ?_, ?_⟩, ⟨?_, ?_, ?_⟩, ?_⟩
          all_goals first | (repeat (with_reducible first | assumption | exact Below.refl _ _ | refine below_drew ?_ | refine bel_alloc ?_ _ | (refine bel_set ?_ (by simp <;> omega) _))) | skip
        all_goals try (go_simp; done)
      case rest =>
        obtain ⟨g1, g2, rfl, rfl, ua, va, HBC0⟩ := hcut
        have HBC := Lib.hid (HB.out.trans (HBC0.mono HB.out.size))
        have UV := Lib.hid (And.intro ua va)
        clear HBC0 ua va q0 q1 q2 q3 q4 q5 q6 CS
        generalize dot (fx - cx, fy - cy) (fx - cx, fy - cy) = dp at *
        generalize dot (tx - cx, ty - cy) (tx - cx, ty - cy) = dq at *
        obtain ⟨⟨k0, k1, _⟩, k2, k3, _⟩ := UV.out
        go_wp2_with fail
        refine (HP.out _).mono ?_
        rintro e w8 ⟨rfl, hb80⟩
        have HB8 := Lib.hid (HBC.out.trans (hb80.mono HBC.out.size))
        have UV8 := Lib.hid (pairs_on UV.out hb80)
        clear hb80 k0 k1 k2 k3
        obtain ⟨⟨k0, k1, _⟩, k2, k3, _⟩ := UV8.out
        by_cases h1 : 0 < dp
        · have t1 : decide (0 < dp) = true := decide_eq_true h1
          by_cases h2 : dp = dq
          · have t2 : (dp == dq) = true := beq_iff_eq.2 h2
            have HV0 : Hid (arcOk (fx, fy) (tx, ty) (cx, cy) = decide (dp ≤ 4000000)) := Lib.hid (by rw [HK.out, t1, decide_eq_true h2]; rfl)
            clear h1 h2
            go_wp2_with fail
            refine (HQ.out _).mono ?_
            rintro e w9 ⟨rfl, hb9⟩
            have HB9 := Lib.hid (HB8.out.trans (hb9.mono HB8.out.size))
            go_wp2
            go_ret
            rw [HV0.out]
            exact ⟨rfl, HB9.out⟩
          · have t2 : (dp == dq) = false := beq_eq_false_iff_ne.2 h2
            have HV0 : Hid (arcOk (fx, fy) (tx, ty) (cx, cy) = false) := Lib.hid (by rw [HK.out]; simp [h2])
            clear h1 h2
            go_wp2_with fail
            refine (HQ.out _).mono ?_
            rintro e w9 ⟨rfl, hb9⟩
            have HB9 := Lib.hid (HB8.out.trans (hb9.mono HB8.out.size))
            go_wp2
            go_ret
            rw [HV0.out]
            exact ⟨rfl, HB9.out⟩
        · have t1 : decide (0 < dp) = false := decide_eq_false h1
          have HV0 : Hid (arcOk (fx, fy) (tx, ty) (cx, cy) = false) := Lib.hid (by rw [HK.out]; simp [h1])
          clear h1
          have hb9 := Below.refl w8.heap.size w8
          have HB9 := Lib.hid (HB8.out.trans (hb9.mono HB8.out.size))
          go_wp2
          go_ret
          rw [HV0.out]
          exact ⟨rfl, HB9.out⟩
end Go.Proofs.YtnmmhcchpcbeeaaGreat.GeW
