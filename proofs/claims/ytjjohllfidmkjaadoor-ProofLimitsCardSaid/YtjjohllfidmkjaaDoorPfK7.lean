/- Law walk: ProofLimits. -/
import Derived.Test.YtjjohllfidmkjaaDoorPfAw
import Derived.Test.YtjjohllfidmkjaaDoorPfK4
import Derived.Test.YtjjohllfidmkjaaDoorPfK6
namespace Go.Proofs.YtjjohllfidmkjaaDoor.Pf
open Go
def sumN (k : Nat) : Nat → Nat
  | 0 => 1
  | j + 1 => sumN k j + k ^ (j + 1)
theorem sumN_step (k : Nat) : ∀ l : Nat, 1 + k * sumN k l = sumN k (l + 1)
  | 0 => by simp [sumN]
  | l + 1 => by
    have ih := sumN_step k l
    have e1 : sumN k (l + 1 + 1) = sumN k (l + 1) + k ^ (l + 1 + 1) := rfl
    have e2 : sumN k (l + 1) = sumN k l + k ^ (l + 1) := rfl
    have e3 : k ^ (l + 1 + 1) = k * k ^ (l + 1) := by rw [Nat.pow_succ k (l + 1), Nat.mul_comm]
    rw [e1, e3, ← ih]
    rw [show k * (1 + k * sumN k l) = k * sumN k (l + 1) by rw [ih], e2, Nat.mul_add]
    omega
theorem fullN_sum (k : Nat) : ∀ l : Nat, fullN k l = sumN k l
  | 0 => rfl
  | l + 1 => by rw [← sumN_step, ← fullN_sum k l]; rfl
theorem sumN_mono (k : Nat) : ∀ (l j : Nat), j ≤ l → sumN k j ≤ sumN k l
  | 0, j, h => by rw [show j = 0 by omega]; exact Nat.le_refl _
  | l + 1, j, h => by
    by_cases e : j = l + 1
    · rw [e]; exact Nat.le_refl _
    · have := sumN_mono k l j (by omega)
      show _ ≤ sumN k l + _
      omega
theorem pow_sum (k : Nat) : ∀ l : Nat, k ^ l ≤ sumN k l
  | 0 => by simp [sumN]
  | l + 1 => by
    show _ ≤ sumN k l + _
    omega
end Go.Proofs.YtjjohllfidmkjaaDoor.Pf
namespace Go.Proofs.YtjjohllfidmkjaaDoor.PfW
open Go Go.RowKit Go.Proofs.YtjjohllfidmkjaaDoor.Mem Go.Proofs.YtjjohllfidmkjaaDoor.Pf
attribute [local go_sem ↓] Go.wp_at_zero Go.wp_at_succ
set_option maxRecDepth 100000 in
set_option maxHeartbeats 4000000 in
theorem proofLimits_walk (a b : Nat) (w : World) (ha : a < 256) (hb : b < 256) (hG : Glob w) :
    Calls Tryd.prog 9 #[.int .u8 (a : Int), .int .u8 (b : Int)] w fun e w' => e = .returned (.bool true) ∧ Below w.heap.size w w' := by
  obtain ⟨l, hl⟩ : ∃ l, l = a % 45 := ⟨_, rfl⟩
  obtain ⟨k, hk⟩ : ∃ k, k = 1 + b % 110 := ⟨_, rfl⟩
  have HAW := Lib.hid (awake_any w hG)
  have ea1 : (a : Int) % 45 = (l : Int) := by omega
  have eb1 : (b : Int) % 110 = ((k - 1 : Nat) : Int) := by omega
  have eb2 : 1 + ((k - 1 : Nat) : Int) = (k : Int) := by omega
  have a0 : (0 : Int) ≤ (a : Int) := by omega
  have a1 : (a : Int) ≤ 4611686018427387904 := by omega
  have b0 : (0 : Int) ≤ (b : Int) := by omega
  have b1 : (b : Int) ≤ 4611686018427387904 := by omega
  have ww : IntKind.i64.wrap (1 + (b : Int) % 110) = (k : Int) := by rw [IntKind.wrap_i64]; omega
  clear eb1 eb2
  have hk0 : 0 < k := by omega
  have hk1 : k ≤ 110 := by omega
  have hl1 : l ≤ 44 := by omega
  go_enter Tryd.func9, Tryd.ntmps9
  go_wp2_with fail
  refine HAW.out.mono ?_
  rintro e w1 ⟨rfl, hb1⟩
  have HB1 := Lib.hid hb1
  clear hb1 HAW hG hl hk
  go_upto_region 6 with fail
  have X2 := Lib.hid (one_box w1 (.cells #[.int .i64 (l : Int), .int .i64 (k : Int)] 64))
  have FN : Hid (∀ w', Below (w1.alloc (.cells #[.int .i64 (l : Int), .int .i64 (k : Int)] 64)).heap.size (w1.alloc (.cells #[.int .i64 (l : Int), .int .i64 (k : Int)] 64)) w' → Below w.heap.size w w') := Lib.hid (fun w' hb => (HB1.out.trans (X2.out.1.mono HB1.out.size)).trans (hb.mono (Nat.le_trans HB1.out.size X2.out.1.size)))
  have HX := Lib.hid X2.out.2
  generalize w1.alloc (.cells #[.int .i64 (l : Int), .int .i64 (k : Int)] 64) = W at *
  clear X2 ww a0 a1 b0 b1 ea1 ha hb HB1
  go_loopw [6, 7, 8] (fun t6 t7 t8 wr => ∃ (j R N : Nat), t8 = .int .i64 (j : Int) ∧ t7 = .int .i64 (R : Int) ∧ t6 = .int .i64 (N : Int) ∧ j ≤ l ∧ Hid (R = k ^ j) ∧ Hid (N = sumN k j) ∧ N ≤ 600000 ∧ wr = W) (fun _ _ t8 _ => l - (intOf t8).toNat)
  case atStart => exact ⟨0, 1, 1, rfl, rfl, rfl, Nat.zero_le _, Lib.hid (by simp), Lib.hid rfl, by omega, rfl⟩
  case round =>
    obtain ⟨j, R, N, rfl, rfl, rfl, hj, HR, HNS, hNb, hwr⟩ := hrel
    have hwr := hwr.symm
    subst hwr
    have HBU := Lib.hid (builtC_any k l W hk0 (by omega) (by omega))
    by_cases hlt : j < l
    · have e1 : decide ((j : Int) < (l : Int)) = true := decide_eq_true (by omega)
      by_cases h5 : N ≤ 5000
      · have e2 : decide ((N : Int) ≤ 5000) = true := decide_eq_true (by omega)
        obtain ⟨x0, x1⟩ := cell2c HX.out
        obtain ⟨R2, hR2⟩ : ∃ R2, R2 = R * k := ⟨_, rfl⟩
        have hRb : R ≤ 5000 := by
          have h9 := pow_sum k j
          have h8 := HR.out
          have h7 := HNS.out
          omega
        have hR2b : R2 ≤ 550000 := by
          rw [hR2]
          exact Nat.le_trans (Nat.mul_le_mul hRb hk1) (by decide)
        have wm : IntKind.i64.wrap ((R : Int) * (k : Int)) = (R2 : Int) := by
          rw [hR2, IntKind.wrap_i64, ← Int.natCast_mul]
          rw [hR2] at hR2b
          generalize R * k = q at *
          omega
        have HR2 : Hid (R2 = k ^ (j + 1)) := Lib.hid (by rw [hR2, HR.out, Nat.pow_succ])
        have HN2 : Hid (N + R2 = sumN k (j + 1)) := Lib.hid (by rw [HNS.out, HR2.out]; rfl)
        clear hR2
        go_wp2
        go_roundw
        case rel => exact ⟨j + 1, R2, N + R2, by go_num, rfl, by go_num, by omega, HR2, HN2, by omega, by simp⟩
        case measure => simp [intOf]; omega
      · have e2 : decide ((N : Int) ≤ 5000) = false := decide_eq_false (by omega)
        have HN : Hid (N = fullN k l ∨ (2000 < N ∧ 2000 < fullN k l)) := Lib.hid (by
          have h9 := sumN_mono k l j hj
          have h8 := fullN_sum k l
          have h7 := HNS.out
          omega)
        have hbn : 2000 < N := by omega
        have hbk := bldC_no k hk0 l 1 0 (by omega) (by omega) (by have := HN.out; omega)
        rw [hbk] at HBU
        clear hbk
        have g1 : decide ((2000 : Int) < (N : Int)) = true := decide_eq_true (by omega)
        obtain ⟨x0, x1⟩ := cell2c HX.out
        go_wp2_with fail
        refine HBU.out.mono ?_
        rintro e w4 ⟨hb4, rfl⟩
        have X5 := Lib.hid (one_box w4 (.cells #[.int .i64 0, .slice none 0 0, .slice none 0 0] 38))
        have HB5 := Lib.hid ((hb4.trans (X5.out.1.mono hb4.size)))
        skip
        have hx4 := (hb4.block _ (lt_of_block HX.out)).trans HX.out
        have HC5 := Lib.hid ((X5.out.1.block _ (lt_of_block hx4)).trans hx4)
        clear x0 x1 hb4 HBU
        obtain ⟨x0, x1⟩ := cell2c hx4
        have xz := lt_of_block hx4
        clear hx4
        go_wp2
        go_ret
        exact ⟨rfl, FN.out _ HB5.out⟩
    · obtain rfl : l = j := by omega
      have e1 : decide ((l : Int) < (l : Int)) = false := decide_eq_false (by omega)
      have HN : Hid (N = fullN k l ∨ (2000 < N ∧ 2000 < fullN k l)) := Lib.hid (.inl (by rw [fullN_sum]; exact HNS.out))
      clear hj
      have hlt' : ¬ l < l := by omega
      by_cases hgood : fullN k l ≤ 2000 ∧ l + 1 ≤ 40 ∧ (l = 0 ∨ k ≤ 100)
      · obtain ⟨h1, h2, h3⟩ := hgood
        have hbk := bldC_ok k hk0 l 1 0 (by omega) h3 (by omega)
        rw [hbk, Nat.zero_add] at HBU
        have HV := Lib.hid (full_valid k l hk0 hk1 h2 h3 h1)
        have HFI := Lib.hid (full_fit k (by omega) l)
        have hno : nodes (full k l) ≤ 1000000000000 := by rw [full_nodes]; omega
        have hnn : fullN k l = N := by have := HN.out; omega
        have HNW : Hid (nW (full k l) = (N : Int)) := Lib.hid (by rw [nW_eq _ hno, full_nodes, hnn])
        have HDW : Hid (dW (full k l) = (l : Int) + 1) := Lib.hid (by rw [(dW_eq _ hno).1, full_depth k hk0]; omega)
        have g1 : decide ((2000 : Int) < (N : Int)) = false := decide_eq_false (by omega)
        have g2 : decide ((40 : Int) < (l : Int) + 1) = false := decide_eq_false (by omega)
        clear hbk hno hnn
        by_cases hl0 : ¬ 0 < l
        · have g3 : decide ((0 : Int) < (l : Int)) = false := decide_eq_false (by omega)
          clear h1 h2 h3
          obtain ⟨x0, x1⟩ := cell2c HX.out
          go_wp2_with fail
          refine HBU.out.mono ?_
          rintro e w4 ⟨hb4, s4, A4, m4, c4, B4, k4, d4, rfl, hT4⟩
          have X5 := Lib.hid (one_box w4 (.cells #[.int .i64 s4, .slice A4 m4 c4, .slice B4 k4 d4] 38))
          have HB5 := Lib.hid ((hb4.trans (X5.out.1.mono hb4.size)))
          have HT5 := Lib.hid (hT4.below X5.out.1)
          have hx4 := (hb4.block _ (lt_of_block HX.out)).trans HX.out
          have HC5 := Lib.hid ((X5.out.1.block _ (lt_of_block hx4)).trans hx4)
          clear x0 x1 hb4 HBU
          obtain ⟨x0, x1⟩ := cell2c hx4
          have xz := lt_of_block hx4
          clear hx4
          go_upto_region 11 with fail
          have T5 := Lib.hid X5.out.2
          clear X5 x0 x1 xz
          generalize w4.alloc (.cells #[.int .i64 s4, .slice A4 m4 c4, .slice B4 k4 d4] 38) = W5 at *
          obtain ⟨x0, x1⟩ := cell2c HC5.out
          obtain ⟨t0, t1, t2⟩ := cell3 T5.out
          have HCK := Lib.hid (checkC_any k l hk0 (by omega) (by omega) HV.out _ s4 A4 B4 m4 c4 k4 d4 W5 HT5.out)
          go_wp2_with fail
          refine HCK.out.mono ?_
          rintro e w6 ⟨PB, pd, rfl, _, hb6⟩
          have HB6 := Lib.hid (HB5.out.trans (hb6.mono HB5.out.size))
          have HC6 := Lib.hid ((hb6.block _ (lt_of_block HC5.out)).trans HC5.out)
          have T6 := Lib.hid ((hb6.block _ (lt_of_block T5.out)).trans T5.out)
          have HT6 := Lib.hid (HT5.out.below hb6)
          clear hb6 HCK x0 x1 t0 t1 t2 T5 HC5
          go_wp2_with fail
          have CS : Hid (∀ w', Below w6.heap.size w6 w' → w'.cell? ⟨w4.heap.size, 0, none⟩ = some (.int .i64 s4) ∧ w'.cell? ⟨w4.heap.size, 1, none⟩ = some (.slice A4 m4 c4) ∧ w'.cell? ⟨w4.heap.size, 2, none⟩ = some (.slice B4 k4 d4) ∧ w'.cell? ⟨w1.heap.size, 0, none⟩ = some (.int .i64 (l : Int)) ∧ w'.cell? ⟨w1.heap.size, 1, none⟩ = some (.int .i64 (k : Int)) ∧ Below w6.heap.size w6 w') := Lib.hid (fun w' hb => by
            obtain ⟨a0, a1, a2⟩ := cell3 ((hb.block _ (lt_of_block T6.out)).trans T6.out)
            obtain ⟨c0, c1⟩ := cell2c ((hb.block _ (lt_of_block HC6.out)).trans HC6.out)
            exact ⟨a0, a1, a2, c0, c1, hb⟩)
          have HNO := Lib.hid (nodes_any (fun g => W.heap.size ≤ g) (nodes (full k l)) (full k l) (Nat.le_refl _) HFI.out)
          have HDE := Lib.hid (depth_any (fun g => W.heap.size ≤ g) (nodes (full k l)) (full k l) (Nat.le_refl _) HFI.out)
          rw [HNW.out] at HNO
          rw [HDW.out] at HDE
          have ww1 : IntKind.i64.wrap ((l : Int) + 1) = (l : Int) + 1 := by rw [IntKind.wrap_i64]; omega
          have hrf := Below.refl w6.heap.size w6
          go_region_held3 (fun w' => w'.cell? ⟨w4.heap.size, 0, none⟩ = some (.int .i64 s4) ∧ w'.cell? ⟨w4.heap.size, 1, none⟩ = some (.slice A4 m4 c4) ∧ w'.cell? ⟨w4.heap.size, 2, none⟩ = some (.slice B4 k4 d4) ∧ w'.cell? ⟨w1.heap.size, 0, none⟩ = some (.int .i64 (l : Int)) ∧ w'.cell? ⟨w1.heap.size, 1, none⟩ = some (.int .i64 (k : Int)) ∧ Below w6.heap.size w6 w')
            (first | assumption | exact CS.out _ (below_drew hrf) | exact CS.out _ hrf | exact CS.out _ hbn | exact CS.out _ (below_drew hbn) | exact CS.out _ hbe | exact CS.out _ (below_drew hbe))
            (first
             | (go_at_call 25; obtain ⟨_, _, _, _, _, hbx⟩ := ‹_ ∧ _ ∧ _ ∧ _ ∧ _ ∧ Below _ _ _›; refine (HNO.out _ _ (HT6.out.below hbx)).mono ?_; rintro e wn ⟨rfl, hbn0⟩; have hbn : Below w6.heap.size w6 wn := hbx.trans (hbn0.mono hbx.size))
             | (go_at_call 29; obtain ⟨_, _, _, _, _, hbx⟩ := ‹_ ∧ _ ∧ _ ∧ _ ∧ _ ∧ Below _ _ _›; refine (HDE.out _ _ (HT6.out.below hbx)).mono ?_; rintro e we ⟨rfl, hbe0⟩; have hbe : Below w6.heap.size w6 we := hbx.trans (hbe0.mono hbx.size)))
          all_goals
            go_wp2
            go_ret
            exact ⟨rfl, FN.out _ (HB6.out.trans (Below.mono (by first | exact hbe | exact hbn) HB6.out.size))⟩
        · have g3 : decide ((0 : Int) < (l : Int)) = true := decide_eq_true (by omega)
          have g4 : decide ((100 : Int) < (k : Int)) = false := decide_eq_false (by omega)
          have n4 : ¬ 100 < k := by omega
          clear h1 h2 h3
          obtain ⟨x0, x1⟩ := cell2c HX.out
          go_wp2_with fail
          refine HBU.out.mono ?_
          rintro e w4 ⟨hb4, s4, A4, m4, c4, B4, k4, d4, rfl, hT4⟩
          have X5 := Lib.hid (one_box w4 (.cells #[.int .i64 s4, .slice A4 m4 c4, .slice B4 k4 d4] 38))
          have HB5 := Lib.hid ((hb4.trans (X5.out.1.mono hb4.size)))
          have HT5 := Lib.hid (hT4.below X5.out.1)
          have hx4 := (hb4.block _ (lt_of_block HX.out)).trans HX.out
          have HC5 := Lib.hid ((X5.out.1.block _ (lt_of_block hx4)).trans hx4)
          clear x0 x1 hb4 HBU
          obtain ⟨x0, x1⟩ := cell2c hx4
          have xz := lt_of_block hx4
          clear hx4
          go_upto_region 11 with fail
          have T5 := Lib.hid X5.out.2
          clear X5 x0 x1 xz
          generalize w4.alloc (.cells #[.int .i64 s4, .slice A4 m4 c4, .slice B4 k4 d4] 38) = W5 at *
          obtain ⟨x0, x1⟩ := cell2c HC5.out
          obtain ⟨t0, t1, t2⟩ := cell3 T5.out
          have HCK := Lib.hid (checkC_any k l hk0 (by omega) (by omega) HV.out _ s4 A4 B4 m4 c4 k4 d4 W5 HT5.out)
          go_wp2_with fail
          refine HCK.out.mono ?_
          rintro e w6 ⟨PB, pd, rfl, _, hb6⟩
          have HB6 := Lib.hid (HB5.out.trans (hb6.mono HB5.out.size))
          have HC6 := Lib.hid ((hb6.block _ (lt_of_block HC5.out)).trans HC5.out)
          have T6 := Lib.hid ((hb6.block _ (lt_of_block T5.out)).trans T5.out)
          have HT6 := Lib.hid (HT5.out.below hb6)
          clear hb6 HCK x0 x1 t0 t1 t2 T5 HC5
          go_wp2_with fail
          have CS : Hid (∀ w', Below w6.heap.size w6 w' → w'.cell? ⟨w4.heap.size, 0, none⟩ = some (.int .i64 s4) ∧ w'.cell? ⟨w4.heap.size, 1, none⟩ = some (.slice A4 m4 c4) ∧ w'.cell? ⟨w4.heap.size, 2, none⟩ = some (.slice B4 k4 d4) ∧ w'.cell? ⟨w1.heap.size, 0, none⟩ = some (.int .i64 (l : Int)) ∧ w'.cell? ⟨w1.heap.size, 1, none⟩ = some (.int .i64 (k : Int)) ∧ Below w6.heap.size w6 w') := Lib.hid (fun w' hb => by
            obtain ⟨a0, a1, a2⟩ := cell3 ((hb.block _ (lt_of_block T6.out)).trans T6.out)
            obtain ⟨c0, c1⟩ := cell2c ((hb.block _ (lt_of_block HC6.out)).trans HC6.out)
            exact ⟨a0, a1, a2, c0, c1, hb⟩)
          have HNO := Lib.hid (nodes_any (fun g => W.heap.size ≤ g) (nodes (full k l)) (full k l) (Nat.le_refl _) HFI.out)
          have HDE := Lib.hid (depth_any (fun g => W.heap.size ≤ g) (nodes (full k l)) (full k l) (Nat.le_refl _) HFI.out)
          rw [HNW.out] at HNO
          rw [HDW.out] at HDE
          have ww1 : IntKind.i64.wrap ((l : Int) + 1) = (l : Int) + 1 := by rw [IntKind.wrap_i64]; omega
          have hrf := Below.refl w6.heap.size w6
          go_region_held3 (fun w' => w'.cell? ⟨w4.heap.size, 0, none⟩ = some (.int .i64 s4) ∧ w'.cell? ⟨w4.heap.size, 1, none⟩ = some (.slice A4 m4 c4) ∧ w'.cell? ⟨w4.heap.size, 2, none⟩ = some (.slice B4 k4 d4) ∧ w'.cell? ⟨w1.heap.size, 0, none⟩ = some (.int .i64 (l : Int)) ∧ w'.cell? ⟨w1.heap.size, 1, none⟩ = some (.int .i64 (k : Int)) ∧ Below w6.heap.size w6 w')
            (first | assumption | exact CS.out _ (below_drew hrf) | exact CS.out _ hrf | exact CS.out _ hbn | exact CS.out _ (below_drew hbn) | exact CS.out _ hbe | exact CS.out _ (below_drew hbe))
            (first
             | (go_at_call 25; obtain ⟨_, _, _, _, _, hbx⟩ := ‹_ ∧ _ ∧ _ ∧ _ ∧ _ ∧ Below _ _ _›; refine (HNO.out _ _ (HT6.out.below hbx)).mono ?_; rintro e wn ⟨rfl, hbn0⟩; have hbn : Below w6.heap.size w6 wn := hbx.trans (hbn0.mono hbx.size))
             | (go_at_call 29; obtain ⟨_, _, _, _, _, hbx⟩ := ‹_ ∧ _ ∧ _ ∧ _ ∧ _ ∧ Below _ _ _›; refine (HDE.out _ _ (HT6.out.below hbx)).mono ?_; rintro e we ⟨rfl, hbe0⟩; have hbe : Below w6.heap.size w6 we := hbx.trans (hbe0.mono hbx.size)))
          all_goals
            go_wp2
            go_ret
            exact ⟨rfl, FN.out _ (HB6.out.trans (Below.mono (by first | exact hbe | exact hbn) HB6.out.size))⟩
      · have hbk := bldC_no k hk0 l 1 0 (by omega) (by omega) (by omega)
        rw [hbk] at HBU
        clear hbk
        by_cases h1 : 2000 < N
        · have g1 : decide ((2000 : Int) < (N : Int)) = true := decide_eq_true (by omega)
          clear hgood
          obtain ⟨x0, x1⟩ := cell2c HX.out
          go_wp2_with fail
          refine HBU.out.mono ?_
          rintro e w4 ⟨hb4, rfl⟩
          have X5 := Lib.hid (one_box w4 (.cells #[.int .i64 0, .slice none 0 0, .slice none 0 0] 38))
          have HB5 := Lib.hid ((hb4.trans (X5.out.1.mono hb4.size)))
          skip
          have hx4 := (hb4.block _ (lt_of_block HX.out)).trans HX.out
          have HC5 := Lib.hid ((X5.out.1.block _ (lt_of_block hx4)).trans hx4)
          clear x0 x1 hb4 HBU
          obtain ⟨x0, x1⟩ := cell2c hx4
          have xz := lt_of_block hx4
          clear hx4
          go_wp2
          go_ret
          exact ⟨rfl, FN.out _ HB5.out⟩
        · have g1 : decide ((2000 : Int) < (N : Int)) = false := decide_eq_false (by omega)
          by_cases h2 : 40 < l + 1
          · have g2 : decide ((40 : Int) < (l : Int) + 1) = true := decide_eq_true (by omega)
            clear hgood
            obtain ⟨x0, x1⟩ := cell2c HX.out
            go_wp2_with fail
            refine HBU.out.mono ?_
            rintro e w4 ⟨hb4, rfl⟩
            have X5 := Lib.hid (one_box w4 (.cells #[.int .i64 0, .slice none 0 0, .slice none 0 0] 38))
            have HB5 := Lib.hid ((hb4.trans (X5.out.1.mono hb4.size)))
            skip
            have hx4 := (hb4.block _ (lt_of_block HX.out)).trans HX.out
            have HC5 := Lib.hid ((X5.out.1.block _ (lt_of_block hx4)).trans hx4)
            clear x0 x1 hb4 HBU
            obtain ⟨x0, x1⟩ := cell2c hx4
            have xz := lt_of_block hx4
            clear hx4
            go_wp2
            go_ret
            exact ⟨rfl, FN.out _ HB5.out⟩
          · have g2 : decide ((40 : Int) < (l : Int) + 1) = false := decide_eq_false (by omega)
            have h9 := HN.out
            have g3 : decide ((0 : Int) < (l : Int)) = true := decide_eq_true (by omega)
            have g4 : decide ((100 : Int) < (k : Int)) = true := decide_eq_true (by omega)
            have n3 : 0 < l := by omega
            have n4 : 100 < k := by omega
            clear hgood h9
            obtain ⟨x0, x1⟩ := cell2c HX.out
            go_wp2_with fail
            refine HBU.out.mono ?_
            rintro e w4 ⟨hb4, rfl⟩
            have X5 := Lib.hid (one_box w4 (.cells #[.int .i64 0, .slice none 0 0, .slice none 0 0] 38))
            have HB5 := Lib.hid ((hb4.trans (X5.out.1.mono hb4.size)))
            skip
            have hx4 := (hb4.block _ (lt_of_block HX.out)).trans HX.out
            have HC5 := Lib.hid ((X5.out.1.block _ (lt_of_block hx4)).trans hx4)
            clear x0 x1 hb4 HBU
            obtain ⟨x0, x1⟩ := cell2c hx4
            have xz := lt_of_block hx4
            clear hx4
            go_wp2
            go_ret
            exact ⟨rfl, FN.out _ HB5.out⟩
theorem limits_card (x y : Int) (w : World) (hx : (Lit.int .u8 x).wf = true) (hy : (Lit.int .u8 y).wf = true) (hG : Glob w) :
    Calls Tryd.prog 9 #[.int .u8 x, .int .u8 y] w fun e w' => e = .returned (.bool true) ∧ Below w.heap.size w w' := by
  simp [Lit.wf, IntKind.min, IntKind.max, IntKind.signed, IntKind.bits] at hx hy
  obtain ⟨a, rfl⟩ : ∃ a : Nat, x = (a : Int) := ⟨x.toNat, by omega⟩
  obtain ⟨b, rfl⟩ : ∃ b : Nat, y = (b : Int) := ⟨y.toNat, by omega⟩
  exact proofLimits_walk a b w (by omega) (by omega) hG
end Go.Proofs.YtjjohllfidmkjaaDoor.PfW
