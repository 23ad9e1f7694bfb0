/- Walk: the chain of an arc around the origin. Conditions: the ends lie on a circle. -/
import Derived.Test.YtnmmhcchpcbeeaaGreatArK
import Derived.Test.YtnmmhcchpcbeeaaGreatDwA
import Derived.Laws.Externs
import Derived.Test.YtnmmhcchpcbeeaaGreatEqV
import Derived.Laws.EntriesVeiled

namespace Go.Proofs.YtnmmhcchpcbeeaaGreat.GeW
open Go Go.RowKit Go.Proofs.YtnmmhcchpcbeeaaGreat.Mem Go.Proofs.YtnmmhcchpcbeeaaGreat.Ge
attribute [local go_sem ↓] Go.wp_at_zero Go.wp_at_succ
theorem run_sqrt {x r : Nat} (h : FloatKind.f64.format.sqrt x = some r) (w : World) : (callFunc 209 #[.float .f64 x]).run Tryz.prog w = .ok (.value (.float .f64 r)) w := by
  rw [run_callFunc_extern (P := Tryz.prog) (fn := Tryz.f209) (e := Extern.MathSqrt.sqrt) Tryz.func209 (by kernel_rfl) (by kernel_rfl) (by kernel_rfl) (by kernel_rfl)]
  have e : Extern.MathSqrt.sqrt #[.float .f64 x] = pure (.float .f64 r) := by
    show (match FloatKind.f64.format.sqrt x with
      | some r => (pure (.float .f64 r) : Sem Value)
      | none => do pure (.float .f64 (← choose (.nanBits .f64 x x)))) = _
    rw [h]
  rw [e]
  rfl
theorem sqrt_any (x r : Nat) (h : FloatKind.f64.format.sqrt x = some r) (w : World) : Calls Tryz.prog 190 #[.float .f64 x] w fun e w' => e = .returned (.float .f64 r) ∧ w' = w := by
  have hq := run_sqrt h
  clear h
  go_enter Tryz.func190, Tryz.ntmps190
  go_wp2_with (simp only [hq])
  all_goals (go_ret; exact ⟨rfl, rfl⟩)
theorem quo_wrap {n k : Int} (h : 0 < n ∧ n ≤ 9223372036854775807) (hk : 0 < k) : wrap64 (n.tdiv k) = n.tdiv k := by
  rw [Int.tdiv_eq_ediv_of_nonneg (by omega)]
  have h1 : 0 ≤ n / k := Int.ediv_nonneg (by omega) (by omega)
  have h2 : n / k ≤ n := Int.ediv_le_self _ (by omega)
  unfold wrap64
  omega
set_option maxRecDepth 100000 in
set_option maxHeartbeats 1000000 in
theorem root_any (n : Int) (w : World) (h0 : 0 ≤ n) (h1 : n ≤ 9223372036854775807) : Calls Tryz.prog 147 #[.int .i64 n] w fun e w' => e = .returned (.int .i64 (root n)) ∧ Below w.heap.size w w' := by
  by_cases hz : n = 0
  · subst hz
    have HZ : Hid (root 0 = 0) := Lib.hid rfl
    clear h0 h1
    go_enter Tryz.func147, Tryz.ntmps147
    go_wp2
    go_ret
    rw [HZ.out]
    exact ⟨rfl, Below.refl _ _⟩
  · obtain ⟨r, k, hs, hk, hk0, hk1⟩ := sqrt_int n (by omega) h1
    have d0 : decide (n ≤ 0) = false := decide_eq_false (by omega)
    have hc : ∀ w, (convert 188 3 (.float .f64 r)).run Tryz.prog w = .ok (.int .i64 k) w := fun w => run_convert_float_int w 188 3 .f64 .i64 r k (by rw [Tryz.underlying188]; rfl) Tryz.underlying3 hk
    have HSQ := Lib.hid (sqrt_any (floatOfInt .f64 n) r hs)
    have HN : Hid (0 < n ∧ n ≤ 9223372036854775807) := Lib.hid ⟨by omega, h1⟩
    have HK : Hid (0 ≤ k ∧ k < 9007199254740992) := Lib.hid ⟨hk0, hk1⟩
    clear hs hk hz h0 h1 hk0 hk1
    go_enter Tryz.func147, Tryz.ntmps147
    go_wp2_with (go_at_call 190; refine (HSQ.out _).mono ?_; rintro e w' ⟨rfl, hw'⟩; subst w')
    go_loopw [3] (fun r wr => ∃ k : Int, r = .int .i64 k ∧ Hid (0 ≤ k ∧ k < 9007199254740992) ∧ Hid (Below w.heap.size w wr)) (fun r _ => (intOf r).toNat)
    case atStart => exact ⟨k, rfl, HK, Lib.hid (Below.refl _ _)⟩
    case round =>
      obtain ⟨k, rfl, HK, HB⟩ := hrel
      clear hc
      by_cases hk : k = 0
      · subst hk
        have HQ : Hid ((0 : Int) * 0 ≤ n) := Lib.hid (by have := HN.out; omega)
        go_wp2
        all_goals
          go_loopw [3] (fun r wr => ∃ k : Int, r = .int .i64 k ∧ Hid (0 ≤ k ∧ k * k ≤ n) ∧ Hid (Below w.heap.size w wr)) (fun r _ => (n - intOf r).toNat)
          case atStart => exact ⟨0, rfl, Lib.hid ⟨by omega, HQ.out⟩, HB⟩
          case round =>
            obtain ⟨k, rfl, HK2, HB2⟩ := hrel
            have hk0 : 0 ≤ k := HK2.out.1
            have hk1 : k < 3037000500 := by
              rcases Int.lt_or_le k 3037000500 with h | h
              · exact h
              · have := sq_le (a := 3037000500) (b := k) (by omega) h
                have := HK2.out.2
                have := HN.out
                omega
            have hne : (k + 1 = 0) = False := eq_false (by omega)
            have wq : wrap64 (n.tdiv (k + 1)) = n.tdiv (k + 1) := quo_wrap HN.out (by omega)
            by_cases hq : k + 1 ≤ n.tdiv (k + 1)
            · have dq : decide (k + 1 ≤ wrap64 (n.tdiv (k + 1))) = true := decide_eq_true (by rw [wq]; exact hq)
              clear wq
              have HM : Hid ((k + 1) * (k + 1) ≤ n) := Lib.hid (by
                rw [Int.tdiv_eq_ediv_of_nonneg (by have := HN.out; omega)] at hq
                exact (Int.le_ediv_iff_mul_le (by omega)).1 hq)
              clear hq
              go_wp2
              go_roundw
              case rel => exact ⟨k + 1, by go_num, Lib.hid ⟨by omega, HM.out⟩, HB2⟩
              case measure =>
                have h1 := HM.out
                have h2 : (k + 1) * 1 ≤ (k + 1) * (k + 1) := Int.mul_le_mul_of_nonneg_left (by omega) (by omega)
                simp [intOf]
                omega
            · have dq : decide (k + 1 ≤ wrap64 (n.tdiv (k + 1))) = false := decide_eq_false (by rw [wq]; exact hq)
              clear wq
              have HR : Hid (root n = k) := Lib.hid (by
                refine root_uniq hk0 HK2.out.2 ?_
                rw [Int.tdiv_eq_ediv_of_nonneg (by have := HN.out; omega)] at hq
                rcases Int.lt_or_le n ((k + 1) * (k + 1)) with h | h
                · exact h
                · exact absurd ((Int.le_ediv_iff_mul_le (by omega)).2 h) hq)
              clear hq
              go_wp2
              go_ret
              rw [HR.out]
              exact ⟨rfl, HB2.out⟩
      · have hk0 : 0 < k := by have := HK.out; omega
        have hk1 : k < 9007199254740992 := HK.out.2
        have dk : decide (0 < k) = true := decide_eq_true hk0
        have wq : wrap64 (n.tdiv k) = n.tdiv k := quo_wrap HN.out (by omega)
        by_cases hq : n.tdiv k < k
        · have dq : decide (wrap64 (n.tdiv k) < k) = true := decide_eq_true (by rw [wq]; exact hq)
          clear wq
          clear hk
          go_wp2
          go_roundw
          case rel => exact ⟨k - 1, by go_num, Lib.hid (by omega), HB⟩
          case measure => simp [intOf]; omega
        · have dq : decide (wrap64 (n.tdiv k) < k) = false := decide_eq_false (by rw [wq]; exact hq)
          clear wq
          have HQ : Hid (k * k ≤ n) := Lib.hid (by
            rw [Int.tdiv_eq_ediv_of_nonneg (by have := HN.out; omega)] at hq
            exact (Int.le_ediv_iff_mul_le hk0).1 (by omega))
          clear hk hq
          go_wp2
          all_goals
            go_loopw [3] (fun r wr => ∃ k : Int, r = .int .i64 k ∧ Hid (0 ≤ k ∧ k * k ≤ n) ∧ Hid (Below w.heap.size w wr)) (fun r _ => (n - intOf r).toNat)
            case atStart => exact ⟨k, rfl, Lib.hid ⟨by omega, HQ.out⟩, HB⟩
            case round =>
              obtain ⟨k, rfl, HK2, HB2⟩ := hrel
              have hk0 : 0 ≤ k := HK2.out.1
              have hk1 : k < 3037000500 := by
                rcases Int.lt_or_le k 3037000500 with h | h
                · exact h
                · have := sq_le (a := 3037000500) (b := k) (by omega) h
                  have := HK2.out.2
                  have := HN.out
                  omega
              have hne : (k + 1 = 0) = False := eq_false (by omega)
              have wq : wrap64 (n.tdiv (k + 1)) = n.tdiv (k + 1) := quo_wrap HN.out (by omega)
              by_cases hq : k + 1 ≤ n.tdiv (k + 1)
              · have dq : decide (k + 1 ≤ wrap64 (n.tdiv (k + 1))) = true := decide_eq_true (by rw [wq]; exact hq)
                clear wq
                have HM : Hid ((k + 1) * (k + 1) ≤ n) := Lib.hid (by
                  rw [Int.tdiv_eq_ediv_of_nonneg (by have := HN.out; omega)] at hq
                  exact (Int.le_ediv_iff_mul_le (by omega)).1 hq)
                clear hq
                go_wp2
                go_roundw
                case rel => exact ⟨k + 1, by go_num, Lib.hid ⟨by omega, HM.out⟩, HB2⟩
                case measure =>
                  have h1 := HM.out
                  have h2 : (k + 1) * 1 ≤ (k + 1) * (k + 1) := Int.mul_le_mul_of_nonneg_left (by omega) (by omega)
                  simp [intOf]
                  omega
              · have dq : decide (k + 1 ≤ wrap64 (n.tdiv (k + 1))) = false := decide_eq_false (by rw [wq]; exact hq)
                clear wq
                have HR : Hid (root n = k) := Lib.hid (by
                  refine root_uniq hk0 HK2.out.2 ?_
                  rw [Int.tdiv_eq_ediv_of_nonneg (by have := HN.out; omega)] at hq
                  rcases Int.lt_or_le n ((k + 1) * (k + 1)) with h | h
                  · exact h
                  · exact absurd ((Int.le_ediv_iff_mul_le (by omega)).2 h) hq)
                clear hq
                go_wp2
                go_ret
                rw [HR.out]
                exact ⟨rfl, HB2.out⟩
end Go.Proofs.YtnmmhcchpcbeeaaGreat.GeW

namespace Go.Proofs.YtnmmhcchpcbeeaaGreat.GeW
open Go Go.RowKit Go.Proofs.YtnmmhcchpcbeeaaGreat.Mem Go.Proofs.YtnmmhcchpcbeeaaGreat.Ge
attribute [local go_sem ↓] Go.wp_at_zero Go.wp_at_succ
set_option maxRecDepth 100000 in
theorem add_any (x y u v : Int) (w : World) (hx : -1000000000000 ≤ x ∧ x ≤ 1000000000000) (hy : -1000000000000 ≤ y ∧ y ≤ 1000000000000) (hu : -1000000000000 ≤ u ∧ u ≤ 1000000000000) (hv : -1000000000000 ≤ v ∧ v ≤ 1000000000000) :
    Calls Tryz.prog 96 #[.agg #[.int .i64 x, .int .i64 y], .agg #[.int .i64 u, .int .i64 v]] w fun e w' => e = .returned (.agg #[.int .i64 (x + u), .int .i64 (y + v)]) ∧ Below w.heap.size w w' := by
  obtain ⟨hx1, hx2⟩ := hx
  obtain ⟨hy1, hy2⟩ := hy
  obtain ⟨hu1, hu2⟩ := hu
  obtain ⟨hv1, hv2⟩ := hv
  go_enter Tryz.func96, Tryz.ntmps96
  go_wp2
  refine bodyPost_ret (v := .agg #[.int .i64 (x + u), .int .i64 (y + v)]) (by simp [results, Tryz.results96, go_sem]) rfl ⟨rfl, ?_⟩
  exact (((Below.refl _ _).alloc (Nat.le_refl _) _).alloc (by simp) _).alloc (by simp; omega) _
theorem asign_any (n x : Int) (w : World) (h0 : 0 ≤ n) (h1 : n ≤ 4000000000) : Calls Tryz.prog 152 #[.int .i64 n, .int .i64 x] w fun e w' => e = .returned (.int .i64 (if x < 0 then -n else n)) ∧ Below w.heap.size w w' := by
  by_cases h : x < 0
  · have d : decide (x < 0) = true := decide_eq_true h
    rw [if_pos h]
    clear h
    go_enter Tryz.func152, Tryz.ntmps152
    go_wp2
    go_ret
    exact ⟨rfl, Below.refl _ _⟩
  · have d : decide (x < 0) = false := decide_eq_false h
    rw [if_neg h]
    clear h
    go_enter Tryz.func152, Tryz.ntmps152
    go_wp2
    go_ret
    exact ⟨rfl, Below.refl _ _⟩
theorem mul_2k {a b : Int} (ha : -2000 ≤ a ∧ a ≤ 2000) (hb : -2000 ≤ b ∧ b ≤ 2000) : -4000000 ≤ a * b ∧ a * b ≤ 4000000 := by
  have h1 : (a * b).natAbs ≤ 2000 * 2000 := by
    rw [Int.natAbs_mul]
    exact Nat.mul_le_mul (by omega) (by omega)
  omega
theorem sq_small {a : Int} {n : Nat} (h : a.natAbs ≤ n) : a * a ≤ (n * n : Nat) := by
  have h1 : (a * a).natAbs ≤ n * n := by rw [Int.natAbs_mul]; exact Nat.mul_le_mul h h
  omega
set_option maxRecDepth 100000 in
set_option maxHeartbeats 4000000 in
theorem flat_any (x y u v rad : Int) (rb : Nat) (w : World) (hr : w.heap[rb]? = some (.cells #[.int .i64 rad] 3 (0, 0))) (hx : -2000 ≤ x ∧ x ≤ 2000) (hy : -2000 ≤ y ∧ y ≤ 2000) (hu : -2000 ≤ u ∧ u ≤ 2000) (hv : -2000 ≤ v ∧ v ≤ 2000) (hne : (x, y) ≠ (u, v)) :
    Calls Tryz.prog 148 #[.agg #[.int .i64 x, .int .i64 y], .agg #[.int .i64 u, .int .i64 v], .pointer (some ⟨rb, 0, none⟩)] w fun e w' => e = .returned (.bool (flatP rad (x, y) (u, v))) ∧ Below w.heap.size w w' := by
  have HX := Lib.hid (two_vecs w (.cells #[.int .i64 x, .int .i64 y] 53) (.cells #[.int .i64 u, .int .i64 v] 53))
  have HB0 := Lib.hid (((one_vec w (.cells #[.int .i64 x, .int .i64 y] 53)).1.alloc (by simp) (.cells #[.int .i64 u, .int .i64 v] 53)))
  have HU := Lib.hid (fun W => sub_any x y u v W (by omega) (by omega) (by omega) (by omega))
  have b1 := mul_2k hx hv
  have b2 := mul_2k hy hu
  have HC := Lib.hid (fun W => cross_any x y u v W (by omega) (by omega))
  have HD := Lib.hid (fun W => dot_any8 (x - u) (y - v) (x - u) (y - v) W (by omega) (by omega) (by omega) (by omega))
  obtain ⟨c, hc⟩ : ∃ c, x * v - y * u = c := ⟨_, rfl⟩
  have hcb : -8000000 ≤ c ∧ c ≤ 8000000 := by omega
  obtain ⟨D, hD⟩ : ∃ D, dot (x - u, y - v) (x - u, y - v) = D := ⟨_, rfl⟩
  have hDp : 0 < D := by
    rw [← hD]
    unfold dot
    dsimp only
    have s1 := sqn (x - u)
    have s2 := sqn (y - v)
    rcases Int.lt_or_le 0 ((x - u) * (x - u) + (y - v) * (y - v)) with h | h
    · exact h
    · exfalso
      apply hne
      have e1 : x - u = 0 := by rcases Int.mul_eq_zero.mp (show (x - u) * (x - u) = 0 by omega) with e | e <;> exact e
      have e2 : y - v = 0 := by rcases Int.mul_eq_zero.mp (show (y - v) * (y - v) = 0 by omega) with e | e <;> exact e
      rw [Prod.mk.injEq]
      omega
  have hcs : c * c ≤ 64000000000000 := by have := sq_small (n := 8000000) (a := c) (by omega); omega
  have hcn := sqn c
  have e65 : 65536 * c * c = 65536 * (c * c) := by rw [Int.mul_assoc]
  have hq0 : 0 ≤ 65536 * c * c / D := Int.ediv_nonneg (by omega) (by omega)
  have hq1 : 65536 * c * c / D ≤ 65536 * c * c := Int.ediv_le_self _ (by omega)
  obtain ⟨Q, hQ⟩ : ∃ Q, 65536 * c * c / D = Q := ⟨_, rfl⟩
  have W1 : IntKind.i64.wrap (65536 * c * c) = 65536 * c * c := by rw [IntKind.wrap_i64]; omega
  have W2 : wrap64 ((65536 * c * c).tdiv D) = Q := by
    rw [Int.tdiv_eq_ediv_of_nonneg (by omega), hQ]
    unfold wrap64
    omega
  have HR := Lib.hid (fun W => root_any Q W (by omega) (by omega))
  have HF : Hid (flatP rad (x, y) (u, v) = decide (rad ≤ root Q)) := Lib.hid (by
    unfold flatP cross Ge.sub
    dsimp only
    rw [hc, hD, hQ])
  rw [hc] at HC
  rw [hD] at HD
  rw [HF.out]
  have W3 := Lib.hid W1
  have W4 := Lib.hid W2
  have HDP := Lib.hid hDp
  clear hx hy hu hv hne b1 b2 hc hD hcs hcn e65 hq0 hq1 hQ W1 W2 HF hDp
  generalize root Q = rt at *
  go_enter Tryz.func148, Tryz.ntmps148
  go_upto_region 1 with fail
  have HRB := Lib.hid ((HB0.out.block rb (lt_of_block hr)).trans hr)
  clear hr
  generalize (w.alloc (.cells #[.int .i64 x, .int .i64 y] 53)).alloc (.cells #[.int .i64 u, .int .i64 v] 53) = W at *
  have CS : Hid (∀ w', Below W.heap.size W w' → w'.cell? ⟨w.heap.size, 0, none⟩ = some (.int .i64 x) ∧ w'.cell? ⟨w.heap.size, 1, none⟩ = some (.int .i64 y) ∧ w'.cell? ⟨w.heap.size + 1, 0, none⟩ = some (.int .i64 u) ∧ w'.cell? ⟨w.heap.size + 1, 1, none⟩ = some (.int .i64 v) ∧ Below W.heap.size W w') := Lib.hid (fun w' hb => by
    obtain ⟨a0, a1⟩ := pair_at HX.out.1 hb
    obtain ⟨a2, a3⟩ := pair_at HX.out.2 hb
    exact ⟨a0, a1, a2, a3, hb⟩)
  obtain ⟨q0, q1, q2, q3, q4⟩ := CS.out W (Below.refl _ _)
  go_cut [6, 7] from 8 to 13 (fun p q wc => ∃ b1, p = .pointer (some ⟨b1, 0, none⟩) ∧ q = .int .i64 c ∧ wc.cell? ⟨b1, 0, none⟩ = some (.int .i64 (x - u)) ∧ wc.cell? ⟨b1, 1, none⟩ = some (.int .i64 (y - v)) ∧ b1 < wc.heap.size ∧ Below W.heap.size W wc)
  case first =>
    go_wp2_with fail
    go_region_held3 (fun w' => w'.cell? ⟨w.heap.size, 0, none⟩ = some (.int .i64 x) ∧ w'.cell? ⟨w.heap.size, 1, none⟩ = some (.int .i64 y) ∧ w'.cell? ⟨w.heap.size + 1, 0, none⟩ = some (.int .i64 u) ∧ w'.cell? ⟨w.heap.size + 1, 1, none⟩ = some (.int .i64 v) ∧ Below W.heap.size W w')
      (first | assumption | exact CS.out _ (by (repeat (with_reducible first | assumption | exact Below.refl _ _ | refine below_drew ?_ | refine bel_alloc ?_ _ | (refine bel_set ?_ (by simp <;> omega) _)))))
      (first
       | (go_at_call 94; obtain ⟨_, _, _, _, hbx⟩ := ‹_ ∧ _ ∧ _ ∧ _ ∧ Below _ _ _›; refine (HU.out _).mono ?_; rintro e w6 ⟨rfl, hb60⟩; have hb6 : Below W.heap.size W w6 := hbx.trans (hb60.mono (Below.size hbx)); have hz6 := Below.size hb6; (first | (have n1 := fresh1 hb60; have k1 := two_facts n1; obtain ⟨c0, c1, c2, c3, c4⟩ := k1) | (have n1 := fresh1' hb60; have k1 := two_facts n1; obtain ⟨c0, c1, c2, c3, c4⟩ := k1) | (have n1 := older ‹_› hb60; have k1 := two_facts n1; obtain ⟨c0, c1, c2, c3, c4⟩ := k1) | skip))
       | (go_at_call 149; obtain ⟨_, _, _, _, hbx⟩ := ‹_ ∧ _ ∧ _ ∧ _ ∧ Below _ _ _›; refine (HC.out _).mono ?_; rintro e w7 ⟨rfl, hb70⟩; have hb7 : Below W.heap.size W w7 := hbx.trans (hb70.mono (Below.size hbx)); have hz7 := Below.size hb7; (first | (have n2 := fresh1 hb70; have k2 := two_facts n2; obtain ⟨d0, d1, d2, d3, d4⟩ := k2) | (have n2 := fresh1' hb70; have k2 := two_facts n2; obtain ⟨d0, d1, d2, d3, d4⟩ := k2) | (have n2 := older n1 hb70; have k2 := two_facts n2; obtain ⟨d0, d1, d2, d3, d4⟩ := k2) | skip)))
    all_goals
      go_wp2_with fail
      go_meet
    all_goals
      refine ⟨_, rfl, rfl, ?_, ?_, ?_, ?_⟩
      all_goals first | (repeat (with_reducible first | assumption | exact Below.refl _ _ | refine below_drew ?_ | refine bel_alloc ?_ _ | (refine bel_set ?_ (by simp <;> omega) _))) | skip
    all_goals try (go_simp; done)
    all_goals try omega
  case rest =>
    obtain ⟨b1, rfl, rfl, c0, c1, hlt, hbc⟩ := hcut
    have HBC := Lib.hid (HB0.out.trans (hbc.mono HB0.out.size))
    have hrb := (hbc.block rb (lt_of_block HRB.out)).trans HRB.out
    have c2 : wc.cell? ⟨rb, 0, none⟩ = some (.int .i64 rad) := by simp [World.cell?, hrb]
    have hlr := lt_of_block hrb
    have X0 : ∀ p : Later wc, p.w.cell? ⟨b1, 0, none⟩ = some (.int .i64 (x - u)) := later_cell hlt c0
    have X1 : ∀ p : Later wc, p.w.cell? ⟨b1, 1, none⟩ = some (.int .i64 (y - v)) := later_cell hlt c1
    have X2 : ∀ p : Later wc, p.w.cell? ⟨rb, 0, none⟩ = some (.int .i64 rad) := later_cell hlr c2
    have w1 := W3.out
    have w2 := W4.out
    have hdp := HDP.out
    clear q0 q1 q2 q3 q4 CS c0 c1 c2 hrb hlr hlt hbc HX HRB
    go_upto_region 2 with fail
    refine wp_region_later wc (by kernel_rfl) (by kernel_rfl) (Below.refl _ _) ?_
    repeat (go_big_quiet_step (first | (go_at_call 146; with_reducible exact Calls.later (HD.out _)) | (go_at_call 147; with_reducible exact Calls.later (HR.out _))))
    refine wpQuiet_nil ?_
    rintro w9 hex; have hb9 := later_of hex; clear hex
    clear X0 X1 X2
    go_wp2
    go_ret
    exact ⟨rfl, HBC.out.trans (hb9.mono HBC.out.size)⟩
set_option maxRecDepth 100000 in
set_option maxHeartbeats 4000000 in
theorem part_any (x ux uy sq D : Int) (sb ub : Nat) (w : World) (hs : w.heap[sb]? = some (.cells #[.int .i64 sq] 3 (0, 0))) (hu : w.heap[ub]? = some (.cells #[.int .i64 ux, .int .i64 uy] 53 (0, 0))) (hx : -4000 ≤ x ∧ x ≤ 4000) (hux : -4000 ≤ ux ∧ ux ≤ 4000) (huy : -4000 ≤ uy ∧ uy ≤ 4000) (hq : 1 ≤ sq ∧ sq ≤ 4000000) (hD : dot (ux, uy) (ux, uy) = D) (hDp : 0 < D) :
    Calls Tryz.prog 151 #[.int .i64 x, .pointer (some ⟨sb, 0, none⟩), .pointer (some ⟨ub, 0, none⟩)] w fun e w' => e = .returned (.int .i64 (rdS sq D x)) ∧ Below w.heap.size w w' := by
  have HD := Lib.hid (fun W => dot_any8 ux uy ux uy W (by omega) (by omega) (by omega) (by omega))
  rw [hD] at HD
  have hxx : x * x ≤ 16000000 := by have := sq_small (n := 4000) (a := x) (by omega); omega
  have hxn := sqn x
  have e4 : 4 * x * x = 4 * (x * x) := by rw [Int.mul_assoc]
  have hm0 : 0 ≤ 4 * x * x * sq := Int.mul_nonneg (by omega) (by omega)
  have hm1 : 4 * x * x * sq ≤ 64000000 * 4000000 := by
    refine Int.le_trans (Int.mul_le_mul_of_nonneg_left hq.2 (show 0 ≤ 4 * x * x by omega)) (Int.mul_le_mul_of_nonneg_right (by omega) (by omega))
  have hq0 : 0 ≤ 4 * x * x * sq / D := Int.ediv_nonneg hm0 (by omega)
  have hq1 : 4 * x * x * sq / D ≤ 4 * x * x * sq := Int.ediv_le_self _ hm0
  obtain ⟨Q, hQ⟩ : ∃ Q, 4 * x * x * sq / D = Q := ⟨_, rfl⟩
  have hr0 := (root_spec (n := Q) (by omega)).1
  have hr1 : root Q ≤ 20000000 := root_le (by omega) (by omega) (by omega)
  have W1 : IntKind.i64.wrap (4 * x * x) = 4 * x * x := by rw [IntKind.wrap_i64]; omega
  have W2 : IntKind.i64.wrap (4 * x * x * sq) = 4 * x * x * sq := by rw [IntKind.wrap_i64]; omega
  have W3 : wrap64 ((4 * x * x * sq).tdiv D) = Q := by
    rw [Int.tdiv_eq_ediv_of_nonneg hm0, hQ]
    unfold wrap64
    omega
  have HR := Lib.hid (fun W => root_any Q W (by omega) (by omega))
  have HF : Hid (rdS sq D x = if x < 0 then -((root Q + 1) / 2) else (root Q + 1) / 2) := Lib.hid (by
    unfold rdS rd
    rw [hQ])
  rw [HF.out]
  have c2 : w.cell? ⟨sb, 0, none⟩ = some (.int .i64 sq) := by simp [World.cell?, hs]
  obtain ⟨c0, c1, _⟩ := two_facts hu
  have X0 : ∀ p : Later w, p.w.cell? ⟨ub, 0, none⟩ = some (.int .i64 ux) := later_cell (lt_of_block hu) c0
  have X1 : ∀ p : Later w, p.w.cell? ⟨ub, 1, none⟩ = some (.int .i64 uy) := later_cell (lt_of_block hu) c1
  have X2 : ∀ p : Later w, p.w.cell? ⟨sb, 0, none⟩ = some (.int .i64 sq) := later_cell (lt_of_block hs) c2
  generalize root Q = rt at *
  have HS := Lib.hid (fun W => asign_any ((rt + 1) / 2) x W (by omega) (by omega))
  clear hs hu hux huy hq hD hxx hxn e4 hm0 hm1 hq0 hq1 hQ HF c0 c1 c2
  go_enter Tryz.func151, Tryz.ntmps151
  go_upto_region 1 with fail
  refine wp_region_later w (by kernel_rfl) (by kernel_rfl) (Below.refl _ _) ?_
  repeat (go_big_quiet_step (first | (go_at_call 146; with_reducible exact Calls.later (HD.out _)) | (go_at_call 147; with_reducible exact Calls.later (HR.out _)) | (go_at_call 152; with_reducible exact Calls.later (HS.out _))))
  refine wpQuiet_nil ?_
  rintro w9 hex; have hb9 := later_of hex; clear hex
  clear X0 X1 X2
  go_wp2
  all_goals (go_ret; exact ⟨rfl, hb9⟩)
/-- Worlds in which only one box of two cells may have turned. -/
structure MidS (rb : Nat) (W w : World) : Prop where
  g : W.grownBy w (some rb)
  r : ∃ a b, w.heap[rb]? = some (.cells #[a, b] 53 (0, 0))
theorem MidS.refl {rb : Nat} {W : World} (h : ∃ a b, W.heap[rb]? = some (.cells #[a, b] 53 (0, 0))) : MidS rb W W := ⟨World.grownBy.refl _ _, h⟩
theorem MidS.drew {rb : Nat} {W w : World} (h : MidS rb W w) : MidS rb W w.drew := ⟨⟨h.g.os, h.g.tape, h.g.output, h.g.size, h.g.block⟩, h.r⟩
theorem MidS.below {rb : Nat} {W w w' : World} (h : MidS rb W w) (hb : Below w.heap.size w w') : MidS rb W w' := by
  obtain ⟨a, b, hr⟩ := h.r
  exact ⟨⟨hb.os.trans h.g.os, hb.tape.trans h.g.tape, hb.output.trans h.g.output, Nat.le_trans h.g.size hb.size, fun k hk hne => (hb.block k (Nat.lt_of_lt_of_le hk h.g.size)).trans (h.g.block k hk hne)⟩, a, b, older hr hb⟩
theorem MidS.set {rb : Nat} {W w : World} (h : MidS rb W w) (j : Nat) (x : Value) (hc : ∀ a b : Value, ∃ a' b', #[a, b].setIfInBounds j x = #[a', b']) : MidS rb W (w.setCell ⟨rb, j, none⟩ x) := by
  obtain ⟨a, b, hr⟩ := h.r
  obtain ⟨a', b', e⟩ := hc a b
  refine ⟨⟨h.g.os, h.g.tape, h.g.output, by have := h.g.size; simpa [World.setCell] using this, fun k hk hne => ?_⟩, a', b', ?_⟩
  · rw [Below.heap_setCell _ _ _ _ (fun e => hne (by rw [e]))]; exact h.g.block k hk hne
  · rw [setCell_block hr j x, e]
theorem MidS.to_below {rb B : Nat} {W w w' : World} (h : MidS rb W w') (hB : Below B w W) (hr : B ≤ rb) (hz : B ≤ W.heap.size) : Below B w w' :=
  ⟨h.g.os.trans hB.os, h.g.tape.trans hB.tape, h.g.output.trans hB.output, Nat.le_trans hB.size h.g.size, fun k hk => (h.g.block k (by omega) (fun e => by cases e; omega)).trans (hB.block k hk)⟩
theorem MidS.set0 {rb : Nat} {W w : World} (h : MidS rb W w) (x : Value) : MidS rb W (w.setCell ⟨rb, 0, none⟩ x) := h.set 0 x (fun _ b => ⟨x, b, rfl⟩)
theorem MidS.set1 {rb : Nat} {W w : World} (h : MidS rb W w) (x : Value) : MidS rb W (w.setCell ⟨rb, 1, none⟩ x) := h.set 1 x (fun a _ => ⟨a, x, rfl⟩)
set_option maxRecDepth 100000 in
set_option maxHeartbeats 4000000 in
theorem mid_any (x y u v sq : Int) (sb : Nat) (w : World) (hs : w.heap[sb]? = some (.cells #[.int .i64 sq] 3 (0, 0))) (hx : -2000 ≤ x ∧ x ≤ 2000) (hy : -2000 ≤ y ∧ y ≤ 2000) (hu : -2000 ≤ u ∧ u ≤ 2000) (hv : -2000 ≤ v ∧ v ≤ 2000) (hq : 1 ≤ sq ∧ sq ≤ 4000000) (hD : 0 < dot (x + u, y + v) (x + u, y + v)) :
    Calls Tryz.prog 150 #[.agg #[.int .i64 x, .int .i64 y], .agg #[.int .i64 u, .int .i64 v], .pointer (some ⟨sb, 0, none⟩)] w fun e w' => e = .returned (.agg #[.int .i64 (midP sq (x, y) (u, v)).1, .int .i64 (midP sq (x, y) (u, v)).2]) ∧ Below w.heap.size w w' := by
  have HX := Lib.hid (three_vecs w (.cells #[.int .i64 x, .int .i64 y] 53) (.cells #[.int .i64 u, .int .i64 v] 53) (.cells #[.int .i64 0, .int .i64 0] 53))
  have HA := Lib.hid (fun W => add_any x y u v W (by omega) (by omega) (by omega) (by omega))
  have HPT := Lib.hid (fun z ub W h1 h2 hz => part_any z (x + u) (y + v) _ _ sb ub W h1 h2 hz (by omega) (by omega) hq rfl hD)
  have HSB := Lib.hid hs
  have HSN : Hid (sb ≠ w.heap.size + 1 + 1) := Lib.hid (by have := lt_of_block hs; omega)
  have HBD : Hid ((-4000 ≤ x + u ∧ x + u ≤ 4000) ∧ -4000 ≤ y + v ∧ y + v ≤ 4000) := Lib.hid (by omega)
  have HMD : Hid (midP sq (x, y) (u, v) = (rdS sq (dot (x + u, y + v) (x + u, y + v)) (x + u), rdS sq (dot (x + u, y + v) (x + u, y + v)) (y + v))) := Lib.hid rfl
  generalize midP sq (x, y) (u, v) = mp at *
  obtain ⟨m1, m2⟩ := mp
  have h1 := HMD.out
  rw [Prod.mk.injEq] at h1
  obtain ⟨e1, e2⟩ := h1
  rw [← e1, ← e2] at HMD
  have HP1 := Lib.hid (fun ub W h1 h2 => HPT.out (x + u) ub W h1 h2 HBD.out.1)
  have HP2 := Lib.hid (fun ub W h1 h2 => HPT.out (y + v) ub W h1 h2 HBD.out.2)
  rw [← e1] at HP1
  rw [← e2] at HP2
  clear hs hx hy hu hv hq hD HPT HBD HMD e1 e2
  generalize x + u = sx at *
  generalize y + v = sy at *
  go_enter Tryz.func150, Tryz.ntmps150
  go_upto_region 1 with fail
  have HS0 := Lib.hid (older HSB.out HX.out.2.2.2)
  have HR0 := HX.out.2.2.1
  have HB0 := Lib.hid HX.out.2.2.2
  obtain ⟨a0, a1⟩ := pair_at HX.out.1 (Below.refl _ _)
  obtain ⟨a2, a3⟩ := pair_at HX.out.2.1 (Below.refl _ _)
  clear HX HSB
  generalize ((w.alloc (.cells #[.int .i64 x, .int .i64 y] 53)).alloc (.cells #[.int .i64 u, .int .i64 v] 53)).alloc (.cells #[.int .i64 0, .int .i64 0] 53) = W at *
  have HRB := Lib.hid HR0
  clear HR0
  go_wp2_with fail
  refine (HA.out _).mono ?_
  rintro e w1 ⟨rfl, hb1⟩
  have HB1 := Lib.hid (HB0.out.trans (hb1.mono HB0.out.size))
  have HS1 := Lib.hid (older HS0.out hb1)
  have HR1 := Lib.hid (older HRB.out hb1)
  clear hb1 HB0 HS0 HRB a0 a1 a2 a3 HA
  have HB2 := Lib.hid (HB1.out.trans ((one_vec w1 (.cells #[.int .i64 sx, .int .i64 sy] 53)).1.mono HB1.out.size))
  have HS2 := Lib.hid (older HS1.out (one_vec w1 (.cells #[.int .i64 sx, .int .i64 sy] 53)).1)
  have HR2 := Lib.hid (older HR1.out (one_vec w1 (.cells #[.int .i64 sx, .int .i64 sy] 53)).1)
  have HU2 := Lib.hid (one_vec w1 (.cells #[.int .i64 sx, .int .i64 sy] 53)).2
  go_upto_region 3 with fail
  have HNE : Hid (w1.heap.size ≠ w.heap.size + 1 + 1 ∧ sb ≠ w.heap.size + 1 + 1) := Lib.hid ⟨by have := lt_of_block HR1.out; omega, HSN.out⟩
  clear HB1 HS1 HR1
  generalize w1.alloc (.cells #[.int .i64 sx, .int .i64 sy] 53) = W at *
  generalize w1.heap.size = ub at *
  have HRE : Hid (∃ a b, W.heap[w.heap.size + 1 + 1]? = some (.cells #[a, b] 53 (0, 0))) := Lib.hid ⟨_, _, HR2.out⟩
  have HUN : Hid (ub ≠ w.heap.size + 1 + 1 ∧ sb ≠ w.heap.size + 1 + 1) := Lib.hid ⟨HNE.out.1, HNE.out.2⟩
  have CS : Hid (∀ w', MidS (w.heap.size + 1 + 1) W w' → w'.cell? ⟨ub, 0, none⟩ = some (.int .i64 sx) ∧ w'.cell? ⟨ub, 1, none⟩ = some (.int .i64 sy) ∧ MidS (w.heap.size + 1 + 1) W w') := Lib.hid (fun w' hb => by
    obtain ⟨a0, a1, _⟩ := two_facts ((hb.g.block ub (lt_of_block HU2.out) (fun e => HUN.out.1 (Option.some.inj e))).trans HU2.out)
    exact ⟨a0, a1, hb⟩)
  have HQ1 : Hid (∀ W', MidS (w.heap.size + 1 + 1) W W' → _) := Lib.hid (fun W' hb => HP1.out ub W' ((hb.g.block sb (lt_of_block HS2.out) (fun e => HUN.out.2 (Option.some.inj e))).trans HS2.out) ((hb.g.block ub (lt_of_block HU2.out) (fun e => HUN.out.1 (Option.some.inj e))).trans HU2.out))
  have HQ2 : Hid (∀ W', MidS (w.heap.size + 1 + 1) W W' → _) := Lib.hid (fun W' hb => HP2.out ub W' ((hb.g.block sb (lt_of_block HS2.out) (fun e => HUN.out.2 (Option.some.inj e))).trans HS2.out) ((hb.g.block ub (lt_of_block HU2.out) (fun e => HUN.out.1 (Option.some.inj e))).trans HU2.out))
  obtain ⟨q0, q1, q2⟩ := CS.out W (MidS.refl HRE.out)
  clear HP1 HP2
  go_region_held3 (fun w' => w'.cell? ⟨ub, 0, none⟩ = some (.int .i64 sx) ∧ w'.cell? ⟨ub, 1, none⟩ = some (.int .i64 sy) ∧ MidS (w.heap.size + 1 + 1) W w')
    (first | assumption | exact CS.out _ (by (repeat (with_reducible first | assumption | exact MidS.refl HRE.out | refine MidS.drew ?_ | refine MidS.set0 ?_ _ | refine MidS.set1 ?_ _))))
    (first
     | (go_at_call 151; obtain ⟨_, _, hbx⟩ := ‹_ ∧ _ ∧ MidS _ _ _›; with_reducible refine (HQ1.out _ hbx).mono ?_; rintro e w6 ⟨rfl, hb60⟩; have hb6 := hbx.below hb60; obtain ⟨ra, rb', hr6⟩ := hb6.r; obtain ⟨r0, r1, r2, r3, r4⟩ := two_facts hr6)
     | (go_at_call 151; obtain ⟨_, _, hbx⟩ := ‹_ ∧ _ ∧ MidS _ _ _›; with_reducible refine (HQ2.out _ hbx).mono ?_; rintro e w7 ⟨rfl, hb70⟩; have hb7 := hbx.below hb70; obtain ⟨sa, sb', hr7⟩ := hb7.r; obtain ⟨s0, s1, s2, s3, s4⟩ := two_facts hr7))
  · go_wp2
    refine bodyPost_ret (v := .agg #[.int .i64 m1, .int .i64 m2]) (by simp [results, Tryz.results150, go_sem, s0, s1]) rfl ⟨rfl, ?_⟩
    exact ((hb7.set0 _).set1 _).to_below HB2.out (by omega) HB2.out.size
end Go.Proofs.YtnmmhcchpcbeeaaGreat.GeW

namespace Go.Proofs.YtnmmhcchpcbeeaaGreat.GeW
open Go Go.RowKit Go.Proofs.YtnmmhcchpcbeeaaGreat.Mem Go.Proofs.YtnmmhcchpcbeeaaGreat.Ge
attribute [local go_sem ↓] Go.wp_at_zero Go.wp_at_succ
theorem near_2k {sq : Int} {p : V} (h : NearP sq p) (hs : sq ≤ 4000000) : (-2000 ≤ p.1 ∧ p.1 ≤ 2000) ∧ -2000 ≤ p.2 ∧ p.2 ≤ 2000 := by
  have k := near_le h hs
  have a := ab_spec p.1
  have b := ab_spec p.2
  omega
def BPost (base sb rb ob fb mb bb : Nat) (sq rad : Int) (l : List V) (v : Value) (w : World) (e : Ending) (w' : World) : Prop :=
  e = .returned (.tuple #[]) ∧ ∃ v', Bx base sb rb ob fb mb bb sq rad l v' w' ∧ Gr ob v w v' w'
set_option maxRecDepth 100000 in
set_option maxHeartbeats 8000000 in
theorem between_any (base sb rb ob fb mb bb : Nat) (sq rad : Int) (hs : 1 ≤ sq ∧ sq ≤ 4000000) : ∀ (k : Nat) (p q : V) (l : List V) (v : Value) (w : World), ArcI sq p q → nuP p q ≤ k → (l.length : Int) + nuP p q ≤ 1000000 → Bx base sb rb ob fb mb bb sq rad l v w →
    Calls Tryz.prog 153 #[.agg #[.int .i64 p.1, .int .i64 p.2], .agg #[.int .i64 q.1, .int .i64 q.2], .pointer (some ⟨fb, 0, none⟩), .pointer (some ⟨mb, 0, none⟩), .pointer (some ⟨bb, 0, none⟩), .pointer (some ⟨ob, 0, none⟩)] w
      (BPost base sb rb ob fb mb bb sq rad (l ++ betwP sq rad k p q) v w)
  | 0, p, q, l, v, w, hA, hk, _, _ => absurd (nu_pos hs.2 hA).1 (by omega)
  | k + 1, p, q, l, v, w, hA, hk, hl, hX => by
    have IH := Lib.hid (between_any base sb rb ob fb mb bb sq rad hs k)
    have HAR := Lib.hid hA
    have HNK : Hid (nuP p q ≤ (k : Int) + 1 ∧ (l.length : Int) + nuP p q ≤ 1000000) := Lib.hid ⟨by omega, hl⟩
    have hp := near_2k hA.np hs.2
    have hq := near_2k hA.nq hs.2
    have hD := dot_sum hs.1 hA
    have HST := Lib.hid (arc_step hs.1 hs.2 hA)
    have HBE : Hid (betwP sq rad (k + 1) p q = if flatP rad p q = true then [] else if midP sq p q = p ∨ midP sq p q = q then [] else betwP sq rad k p (midP sq p q) ++ midP sq p q :: betwP sq rad k (midP sq p q) q) := Lib.hid rfl
    have HFL := Lib.hid (fun W hr => flat_any p.1 p.2 q.1 q.2 rad rb W hr hp.1 hp.2 hq.1 hq.2 hA.ne)
    have HMI := Lib.hid (fun W hr => mid_any p.1 p.2 q.1 q.2 sq sb W hr hp.1 hp.2 hq.1 hq.2 hs hD)
    have HSQ := Lib.hid hs
    have HIX := Lib.hid (info_parts info_vec)
    clear hp hq hD hA hk hl hs
    obtain ⟨px, py⟩ := p
    obtain ⟨qx, qy⟩ := q
    generalize betwP sq rad (k + 1) (px, py) (qx, qy) = BR at *
    generalize hm : midP sq (px, py) (qx, qy) = m at *
    generalize hf : flatP rad (px, py) (qx, qy) = fl at *
    obtain ⟨mx, my⟩ := m
    have HMN : Hid ((-2000 ≤ mx ∧ mx ≤ 2000) ∧ -2000 ≤ my ∧ my ≤ 2000) := Lib.hid (near_2k HST.out.1 HSQ.out.2)
    have HV := Lib.hid (two_vecs w (.cells #[.int .i64 px, .int .i64 py] 53) (.cells #[.int .i64 qx, .int .i64 qy] 53))
    have HB0 := Lib.hid (((one_vec w (.cells #[.int .i64 px, .int .i64 py] 53)).1.alloc (by simp) (.cells #[.int .i64 qx, .int .i64 qy] 53)))
    have HX0 := Lib.hid (hX.keep HB0.out)
    have HLO : Hid (ob < w.heap.size ∧ ∀ b, v.ownBlock = some b → b < w.heap.size) := Lib.hid ⟨lt_of_block hX.hout, fun b hb => (hX.own.lt b hb).2⟩
    clear hX hm hf
    dsimp only at HFL HMI
    go_enter Tryz.func153, Tryz.ntmps153
    go_upto_region 1 with fail
    generalize (w.alloc (.cells #[.int .i64 px, .int .i64 py] 53)).alloc (.cells #[.int .i64 qx, .int .i64 qy] 53) = W at *
    obtain ⟨a0, a1⟩ := pair_at HV.out.1 (Below.refl _ _)
    obtain ⟨a2, a3⟩ := pair_at HV.out.2 (Below.refl _ _)
    have f0 : W.cell? ⟨fb, 0, none⟩ = some (flatF rb) := by simp [World.cell?, HX0.out.hfl]
    unfold flatF at f0
    go_wp2_with fail
    refine (HFL.out W HX0.out.hrad).mono ?_
    rintro e w1 ⟨rfl, hb1⟩
    have HX1 := Lib.hid (HX0.out.keep hb1)
    have HB1 := Lib.hid (HB0.out.trans (hb1.mono HB0.out.size))
    have P1 := Lib.hid (older HV.out.1 hb1)
    have Q1 := Lib.hid (older HV.out.2 hb1)
    clear hb1 a0 a1 a2 a3 f0 HX0 HFL HB0 HV
    cases fl
    case true =>
      have HB : Hid (BR = []) := Lib.hid (HBE.out.trans (if_pos rfl))
      go_wp2
      refine bodyPost_ret (v := .tuple #[]) (by simp [results, Tryz.results153, go_sem]) rfl ?_
      refine ⟨rfl, v, ?_, Gr.of_below HB1.out⟩
      rw [HB.out, List.append_nil]
      exact HX1.out
    have HBF := Lib.hid (HBE.out.trans (if_neg Bool.false_ne_true))
    clear HBE
    obtain ⟨a0, a1⟩ := pair_at P1.out (Below.refl _ _)
    obtain ⟨a2, a3⟩ := pair_at Q1.out (Below.refl _ _)
    have f0 : w1.cell? ⟨mb, 0, none⟩ = some (midF sb) := by simp [World.cell?, HX1.out.hmd]
    unfold midF at f0
    go_wp2_with fail
    refine (HMI.out w1 HX1.out.hsq).mono ?_
    rintro e w2 ⟨rfl, hb2⟩
    have hb3 := hb2.trans ((one_vec w2 (.cells #[.int .i64 mx, .int .i64 my] 53)).1.mono hb2.size)
    have HX3 := Lib.hid (HX1.out.keep hb3)
    have HB3 := Lib.hid (HB1.out.trans (hb3.mono HB1.out.size))
    have P3 := Lib.hid (older P1.out hb3)
    have Q3 := Lib.hid (older Q1.out hb3)
    have M3 := Lib.hid (one_vec w2 (.cells #[.int .i64 mx, .int .i64 my] 53)).2
    have HZ2 : Hid (w.heap.size ≤ w2.heap.size) := Lib.hid (Nat.le_trans HB1.out.size hb2.size)
    clear hb2 hb3 a0 a1 a2 a3 f0 HX1 HMI HB1 P1 Q1
    go_upto_region 3 with fail
    generalize w2.alloc (.cells #[.int .i64 mx, .int .i64 my] 53) = W3 at *
    generalize w2.heap.size = mk at *
    obtain ⟨a0, a1⟩ := pair_at P3.out (Below.refl _ _)
    obtain ⟨a2, a3⟩ := pair_at Q3.out (Below.refl _ _)
    obtain ⟨a4, a5⟩ := pair_at M3.out (Below.refl _ _)
    obtain ⟨eb, heb⟩ : ∃ eb : Bool, decide ((mx, my) = (px, py) ∨ (mx, my) = (qx, qy)) = eb := ⟨_, rfl⟩
    have HEB := Lib.hid heb
    clear heb
    go_cut [24] from 16 to 24 (fun b wc => b = .bool eb ∧ wc = W3)
    case first =>
      have EQ : ∀ (x y u v : Int) (b : Bool), decide ((x, y) = (u, v)) = b → ∀ W, (binOp .eql 53 (.agg #[.int .i64 x, .int .i64 y]) (.agg #[.int .i64 u, .int .i64 v])).run Tryz.prog W = .ok (.bool b) W := fun x y u v b h W => by rw [eql_vec, h]
      obtain ⟨c1, hc1⟩ : ∃ c1, decide ((mx, my) = (px, py)) = c1 := ⟨_, rfl⟩
      obtain ⟨c2, hc2⟩ : ∃ c2, decide ((mx, my) = (qx, qy)) = c2 := ⟨_, rfl⟩
      have HOR : Hid ((c1 || c2) = eb) := Lib.hid (by
        rw [← hc1, ← hc2, ← HEB.out, Bool.eq_iff_iff]
        simp)
      have he1 := EQ _ _ _ _ _ hc1
      have he2 := EQ _ _ _ _ _ hc2
      clear EQ hc1 hc2 HEB HBF HST
      cases c1 <;> cases c2
      all_goals
        go_wp2_with fail
        go_meet
        case rel => exact ⟨congrArg Value.bool HOR.out, rfl⟩
    case rest =>
    obtain ⟨rfl, hwc⟩ := hcut
    subst wc
    have heb := HEB.out
    cases eb
    case true =>
      have HB : Hid (BR = []) := Lib.hid (HBF.out.trans (if_pos (of_decide_eq_true heb)))
      clear heb HEB
      go_wp2
      refine bodyPost_ret (v := .tuple #[]) (by simp [results, Tryz.results153, go_sem]) rfl ?_
      refine ⟨rfl, v, ?_, Gr.of_below HB3.out⟩
      rw [HB.out, List.append_nil]
      exact HX3.out
    have heb2 := of_decide_eq_false heb
    have e1 : (mx, my) ≠ (px, py) := fun h => heb2 (.inl h)
    have e2 : (mx, my) ≠ (qx, qy) := fun h => heb2 (.inr h)
    clear heb heb2 HEB
    have HBR := Lib.hid (HBF.out.trans (if_neg (fun h => h.elim e1 e2)))
    obtain ⟨i1, i2, i3⟩ := HST.out.2 e1 e2
    have n1 := nu_pos HSQ.out.2 i1
    have n2 := nu_pos HSQ.out.2 i2
    have hnk := HNK.out
    have l1 := betw_len HSQ.out.1 HSQ.out.2 rad k _ _ i1
    have HC1 := Lib.hid (IH.out (px, py) (mx, my) l v W3 i1 (by omega) (by omega) HX3.out)
    have HLN : Hid ((l.length : Int) + (betwP sq rad k (px, py) (mx, my)).length + 1 + nuP (mx, my) (qx, qy) ≤ 1000000) := Lib.hid (by omega)
    have HC2 := Lib.hid (fun l' v' W' (hl : (l'.length : Int) + nuP (mx, my) (qx, qy) ≤ 1000000) hX => IH.out (mx, my) (qx, qy) l' v' W' i2 (by omega) hl hX)
    have d1 : decide ((mx, my) = (px, py)) = false := decide_eq_false e1
    have d2 : decide ((mx, my) = (qx, qy)) = false := decide_eq_false e2
    have HN2 : Hid (0 ≤ nuP (mx, my) (qx, qy)) := Lib.hid (by omega)
    clear e1 e2 i1 i2 i3 n1 n2 hnk l1 IH HST HNK HBF
    dsimp only at HC1 HC2
    generalize betwP sq rad k (px, py) (mx, my) = L1 at *
    generalize betwP sq rad k (mx, my) (qx, qy) = L2 at *
    have f0 : W3.cell? ⟨bb, 0, none⟩ = some (betF fb mb bb ob) := by simp [World.cell?, HX3.out.hbt]
    unfold betF at f0
    go_wp2_with fail
    refine HC1.out.mono ?_
    rintro e w4 ⟨rfl, v1, hx4, hg4⟩
    have HX4 := Lib.hid hx4
    have HG4 := Lib.hid ((Gr.of_below HB3.out).trans hg4)
    have HNB : Hid (∀ b, w.heap.size ≤ b → b < W3.heap.size → w4.heap[b]? = W3.heap[b]?) := Lib.hid (fun b h1 h2 => hg4.block b h2 (by have := HLO.out.1; omega) (fun e => by have := HLO.out.2 b e; omega))
    have Q4 := Lib.hid ((HNB.out _ (Nat.le_succ _) (lt_of_block Q3.out)).trans Q3.out)
    have M4 := Lib.hid ((HNB.out _ HZ2.out (lt_of_block M3.out)).trans M3.out)
    have HON : Hid (∀ b, v1.ownBlock = some b → v.ownBlock = some b ∨ W3.heap.size ≤ b) := Lib.hid hg4.own
    have HZ4 := Lib.hid hg4.size
    have HZ3 : Hid (mk < W3.heap.size ∧ w.heap.size + 1 < W3.heap.size) := Lib.hid ⟨lt_of_block M3.out, lt_of_block Q3.out⟩
    clear hx4 hg4 a0 a1 a2 a3 a4 a5 f0 HX3 HC1 HB3 P3 Q3 M3 HNB
    obtain ⟨n4, hn4⟩ : ∃ n, (l ++ L1).length = n := ⟨_, rfl⟩
    have hown4 := HX4.out.own
    rw [hn4] at hown4
    obtain ⟨A1, c1, rfl, hc1⟩ := own_shape hown4
    have HN4 := Lib.hid hn4
    obtain ⟨a4, a5⟩ := pair_at M4.out (Below.refl _ _)
    have f0 : w4.cell? ⟨ob, 0, none⟩ = some (.slice A1 n4 c1) := by simp [World.cell?, HX4.out.hout]
    have hz4 := lt_of_block HX4.out.hout
    have HXA := Lib.hid (HX4.out.keep (one_vec w4 (.cells #[.int .i64 mx, .int .i64 my] 53)).1)
    have HBN := Lib.hid (World.news_of_block (one_vec w4 (.cells #[.int .i64 mx, .int .i64 my] 53)).2)
    have g0 : (w4.alloc (.cells #[.int .i64 mx, .int .i64 my] 53)).cell? ⟨ob, 0, none⟩ = some (.slice A1 n4 c1) := by simp [World.cell?, HXA.out.hout]
    have HOA := Lib.hid HXA.out.own
    rw [hn4] at HOA
    have HLL : Hid (n4 + 1 ≤ 1000000) := Lib.hid (by
      rw [← hn4]
      have h1 := HLN.out
      have h2 : 0 ≤ nuP (mx, my) (qx, qy) := HN2.out
      rw [List.length_append]; omega)
    have HLB : Hid (base ≤ (w4.alloc (.cells #[.int .i64 mx, .int .i64 my] 53)).heap.size) := Lib.hid (by have := HX4.out.hob; simp; omega)
    obtain ⟨i0, ia, ib, ic, id⟩ := HIX.out
    clear hn4 hown4
    go_wp2_with (at_builtin; refine wpList_append_lies _ rfl _ _ 25 rfl base 53 i0 _ 2 16 Tryz.underlying25 ia ib ic id rfl (by omega) _ _ _ rfl HOA.out ⟨w4.heap.size, 0, none⟩ 1 1 [.int .i64 mx, .int .i64 my] rfl rfl HBN.out (by intro u hu; simp at hu; rcases hu with rfl | rfl <;> rfl) (by omega) (by have := HLL.out; unfold maxLen; omega) (by have := HLL.out; omega) HLB.out _ rfl ?_)
    intro g cap w5 hown5 hg5 hat hlt5
    have HPU := Lib.hid (HXA.out.push (m := (mx, my)) hg5 (by rw [HN4.out]; simpa [ptCells] using hown5) (fun b e => by
      have e' : g = b := Option.some.inj e
      rcases hat with h | h
      · exact .inl (e' ▸ h)
      · exact .inr (by rw [← e', h]; simp)))
    have HG5 := Lib.hid ((HG4.out.trans (Gr.of_below (one_vec w4 (.cells #[.int .i64 mx, .int .i64 my] 53)).1)).trans HPU.out.2)
    have HX5 := Lib.hid HPU.out.1
    have c5 : w5.heap[ob]? = some (.cells #[.slice A1 n4 c1] 25 (0, 0)) := (hg5.block ob (lt_of_block HXA.out.hout) (fun e => ownTagNe HXA.out.own HXA.out.hout (by decide) e.symm)).trans HXA.out.hout
    have k0 : w5.cell? ⟨ob, 0, none⟩ = some (.slice A1 n4 c1) := by simp [World.cell?, c5]
    have k1 : w5.frozen? ⟨ob, 0, none⟩ = false := by simp [World.frozen?, c5]
    have HNB : Hid (∀ b, w.heap.size ≤ b → b < W3.heap.size → (w5.setCell ⟨ob, 0, none⟩ (.slice (some ⟨g, 0, none⟩) (n4 + 1) cap)).heap[b]? = w4.heap[b]?) := Lib.hid (fun b h1 h2 => by
      have h3 : b < w4.heap.size := Nat.lt_of_lt_of_le h2 HZ4.out
      refine (HPU.out.2.block b (by simp; omega) (by have := HLO.out.1; omega) (fun e => ?_)).trans ((one_vec w4 (.cells #[.int .i64 mx, .int .i64 my] 53)).1.block b h3)
      rcases HON.out b e with h | h
      · have := HLO.out.2 b h; omega
      · omega)
    have Q5 := Lib.hid ((HNB.out _ (Nat.le_succ _) HZ3.out.2).trans Q4.out)
    have M5 := Lib.hid ((HNB.out _ HZ2.out HZ3.out.1).trans M4.out)
    clear hown5 hg5 hat hlt5 c5 HPU HXA HOA HBN HX4 HG4 Q4 M4 HNB f0 g0 a4 a5 hz4
    go_upto_region 6 with fail
    clear k0 k1
    generalize w5.setCell ⟨ob, 0, none⟩ (.slice (some ⟨g, 0, none⟩) (n4 + 1) cap) = W5 at *
    obtain ⟨a2, a3⟩ := pair_at Q5.out (Below.refl _ _)
    obtain ⟨a4, a5⟩ := pair_at M5.out (Below.refl _ _)
    have f0 : W5.cell? ⟨bb, 0, none⟩ = some (betF fb mb bb ob) := by simp [World.cell?, HX5.out.hbt]
    unfold betF at f0
    have HC3 := Lib.hid (HC2.out _ _ W5 (by
      have h1 := HLN.out
      rw [List.length_append, List.length_append]
      simp only [List.length_cons, List.length_nil]
      omega) HX5.out)
    go_wp2_with fail
    refine HC3.out.mono ?_
    rintro e w6 ⟨rfl, v6, hx6, hg6⟩
    have HX6 := Lib.hid hx6
    have HG6 := Lib.hid (HG5.out.trans hg6)
    clear hx6 hg6 a2 a3 a4 a5 f0 HX5 HG5 HC3 HC2 Q5 M5
    go_wp2
    refine bodyPost_ret (v := .tuple #[]) (by simp [results, Tryz.results153, go_sem]) rfl ?_
    refine ⟨rfl, v6, ?_, HG6.out⟩
    rw [HBR.out]
    have h6 := HX6.out
    simpa [List.append_assoc] using h6
end Go.Proofs.YtnmmhcchpcbeeaaGreat.GeW

namespace Go.Proofs.YtnmmhcchpcbeeaaGreat.GeW
open Go Go.RowKit Go.Proofs.YtnmmhcchpcbeeaaGreat.Mem Go.Proofs.YtnmmhcchpcbeeaaGreat.Ge
attribute [local go_sem ↓] Go.wp_at_zero Go.wp_at_succ
theorem below_gr {B : Nat} {w0 wr w1 : World} {row : Option Nat} (h : Below B w0 wr) (hg : wr.grownBy w1 row) (hr : ∀ k, row = some k → B ≤ k) (hB : B ≤ wr.heap.size) : Below B w0 w1 :=
  ⟨hg.os.trans h.os, hg.tape.trans h.tape, hg.output.trans h.output, Nat.le_trans h.size hg.size, fun k hk => (hg.block k (by omega) (fun e => by have := hr k e.symm; omega)).trans (h.block k hk)⟩
theorem Bx.setp {base sb rb ob fb mb bb k : Nat} {sq rad : Int} {l : List V} {v : Value} {w : World} {cs : Array Value} (h : Bx base sb rb ob fb mb bb sq rad l v w) (hk : k < base) (hc : w.heap[k]? = some (.cells cs 53 (0, 0))) (j : Nat) (x : Value) : Bx base sb rb ob fb mb bb sq rad l v (w.setCell ⟨k, j, none⟩ x) := by
  have e : ∀ {b : Nat} {y : Array Value} {s : TypeId}, w.heap[b]? = some (.cells y s (0, 0)) → s ≠ 53 → (w.setCell ⟨k, j, none⟩ x).heap[b]? = some (.cells y s (0, 0)) := fun hb hs => by
    rw [Below.heap_setCell _ _ _ _ (tagNe hb hc hs)]; exact hb
  exact ⟨e h.hsq (by decide), e h.hrad (by decide), e h.hfl (by decide), e h.hmd (by decide), e h.hbt (by decide), e h.hout (by decide), h.own.kept (row := some k) ⟨rfl, rfl, rfl, by simp [World.setCell], fun b _ hb => Below.heap_setCell _ _ _ _ (fun e => hb (by simp [e]))⟩ (Or.inr (fun e => by have := (h.own.lt k e).1; omega)), h.hob⟩
set_option maxRecDepth 100000 in
set_option maxHeartbeats 8000000 in
theorem chainA_any (px py qx qy tol : Int) (w : World) (hp : 1 ≤ dot (px, py) (px, py) ∧ dot (px, py) (px, py) ≤ 4000000) (hq : dot (qx, qy) (qx, qy) = dot (px, py) (px, py)) (ht : 1 ≤ tol ∧ tol ≤ 50) :
    Calls Tryz.prog 95 #[.agg #[.int .i64 px, .int .i64 py], .agg #[.int .i64 qx, .int .i64 qy], .int .i64 tol] w fun e w' => (∃ v, e = .returned v ∧ w'.ownsRow w.heap.size 53 2 v (chainA (px, py) (qx, qy) tol).length ((chainA (px, py) (qx, qy) tol).flatMap ptCells)) ∧ Below w.heap.size w w' := by
  have HNP := near_2k (near_on (sq := dot (px, py) (px, py)) rfl) hp.2
  have HNQ := near_2k (near_on hq) hp.2
  dsimp only at HNP HNQ
  have HD := Lib.hid (fun W => dot_any8 px py px py W (by omega) (by omega) (by omega) (by omega))
  obtain ⟨sq, hsq⟩ : ∃ sq, dot (px, py) (px, py) = sq := ⟨_, rfl⟩
  have HSQ := Lib.hid hsq
  rw [hsq] at hp hq HD
  have HQ := Lib.hid hq
  have hr0 := (root_spec (n := 65536 * sq) (by omega)).1
  have hr1 : root (65536 * sq) ≤ 1000000 := root_le (by omega) (by omega) (by omega)
  have HR := Lib.hid (fun W => root_any (65536 * sq) W (by omega) (by omega))
  have HCA : Hid (chainA (px, py) (qx, qy) tol = (px, py) :: tailP sq (root (65536 * sq) + 1 - 256 * tol) 4 (px, py) (qx, qy)) := Lib.hid (by unfold chainA; rw [hsq])
  generalize root (65536 * sq) = rt at *
  generalize chainA (px, py) (qx, qy) tol = CL at *
  have HP := Lib.hid hp
  have HV := Lib.hid (two_vecs w (.cells #[.int .i64 px, .int .i64 py] 53) (.cells #[.int .i64 qx, .int .i64 qy] 53))
  have HB0 := Lib.hid (((one_vec w (.cells #[.int .i64 px, .int .i64 py] 53)).1.alloc (by simp) (.cells #[.int .i64 qx, .int .i64 qy] 53)))
  have HBN := Lib.hid (And.intro HNP HNQ)
  clear hsq hq HNP HNQ
  go_enter Tryz.func95, Tryz.ntmps95
  go_upto_region 1 with fail
  generalize (w.alloc (.cells #[.int .i64 px, .int .i64 py] 53)).alloc (.cells #[.int .i64 qx, .int .i64 qy] 53) = W at *
  obtain ⟨a0, a1⟩ := pair_at HV.out.1 (Below.refl _ _)
  go_wp2_with fail
  refine (HD.out W).mono ?_
  rintro e w1 ⟨rfl, hb1⟩
  have HB1 := Lib.hid (HB0.out.trans (hb1.mono HB0.out.size))
  have P1 := Lib.hid (older HV.out.1 hb1)
  have Q1 := Lib.hid (older HV.out.2 hb1)
  clear hb1 a0 a1 HV HB0 HD
  go_upto_region 2 with fail
  have HB2 := Lib.hid (HB1.out.trans ((one_vec w1 (.cells #[.int .i64 sq] 3)).1.mono HB1.out.size))
  have P2 := Lib.hid (older P1.out (one_vec w1 (.cells #[.int .i64 sq] 3)).1)
  have Q2 := Lib.hid (older Q1.out (one_vec w1 (.cells #[.int .i64 sq] 3)).1)
  have S2 := Lib.hid (one_vec w1 (.cells #[.int .i64 sq] 3)).2
  clear HB1 P1 Q1
  generalize w1.alloc (.cells #[.int .i64 sq] 3) = W2 at *
  generalize w1.heap.size = sb at *
  have c0 : W2.cell? ⟨sb, 0, none⟩ = some (.int .i64 sq) := by simp [World.cell?, S2.out]
  have t1 := ht.1
  have t2 := ht.2
  go_wp2_with fail
  refine (HR.out W2).mono ?_
  rintro e w2 ⟨rfl, hb2⟩
  have HB3 := Lib.hid (HB2.out.trans (hb2.mono HB2.out.size))
  have P3 := Lib.hid (older P2.out hb2)
  have Q3 := Lib.hid (older Q2.out hb2)
  have S3 := Lib.hid (older S2.out hb2)
  clear hb2 c0 HB2 P2 Q2 S2 HR
  go_upto_region 3 with fail
  obtain ⟨rad, hrad⟩ : ∃ rad, rt + 1 - 256 * tol = rad := ⟨_, rfl⟩
  have HCA2 := HCA.out
  rw [hrad] at HCA2 ⊢
  replace HCA := Lib.hid HCA2
  clear HCA2
  clear hrad hr0 hr1 t1 t2 ht hp
  have HB4 := Lib.hid (HB3.out.trans ((one_vec w2 (.cells #[.int .i64 rad] 3)).1.mono HB3.out.size))
  have P4 := Lib.hid (older P3.out (one_vec w2 (.cells #[.int .i64 rad] 3)).1)
  have Q4 := Lib.hid (older Q3.out (one_vec w2 (.cells #[.int .i64 rad] 3)).1)
  have S4 := Lib.hid (older S3.out (one_vec w2 (.cells #[.int .i64 rad] 3)).1)
  have R4 := Lib.hid (one_vec w2 (.cells #[.int .i64 rad] 3)).2
  clear HB3 P3 Q3 S3
  generalize w2.alloc (.cells #[.int .i64 rad] 3) = W4 at *
  generalize w2.heap.size = rb at *
  obtain ⟨a0, a1⟩ := pair_at P4.out (Below.refl _ _)
  go_upto_region 4 with fail
  obtain ⟨b0, hb0⟩ : ∃ b0, W4.heap.size = b0 := ⟨_, rfl⟩
  have hb5 : Below b0 W4 ((W4.alloc (.cells #[.int .i64 px, .int .i64 py] 53)).alloc (.cells #[.slice (some ⟨W4.heap.size, 0, none⟩) 1 1] 25)) := by
    rw [← hb0]
    exact ((one_vec W4 (.cells #[.int .i64 px, .int .i64 py] 53)).1).alloc (by simp) _
  have O5 : Hid (((W4.alloc (.cells #[.int .i64 px, .int .i64 py] 53)).alloc (.cells #[.slice (some ⟨W4.heap.size, 0, none⟩) 1 1] 25)).ownsRow b0 53 2 (.slice (some ⟨W4.heap.size, 0, none⟩) 1 1) 1 [.int .i64 px, .int .i64 py]) := Lib.hid ((World.ownsRow_lit W4 #[.int .i64 px, .int .i64 py] 1 (by omega) (by decide) rfl).alloc _)
  have N5 : Hid (((W4.alloc (.cells #[.int .i64 px, .int .i64 py] 53)).alloc (.cells #[.slice (some ⟨W4.heap.size, 0, none⟩) 1 1] 25)).heap[b0 + 1]? = some (.cells #[.slice (some ⟨W4.heap.size, 0, none⟩) 1 1] 25 (0, 0))) := Lib.hid (by rw [← hb0]; exact (two_vecs W4 _ _).2)
  have hz5 : ((W4.alloc (.cells #[.int .i64 px, .int .i64 py] 53)).alloc (.cells #[.slice (some ⟨W4.heap.size, 0, none⟩) 1 1] 25)).heap.size = b0 + 1 + 1 := by rw [← hb0]; simp
  rw [hb0] at hb5 O5 N5 hz5 ⊢
  have HB5 := Lib.hid (HB4.out.trans (hb5.mono (by rw [← hb0]; exact HB4.out.size)))
  have hbw : Below W4.heap.size W4 ((W4.alloc (.cells #[.int .i64 px, .int .i64 py] 53)).alloc (.cells #[.slice (some ⟨b0, 0, none⟩) 1 1] 25)) := by rw [hb0]; exact hb5
  have P5 := Lib.hid (older P4.out hbw)
  have Q5 := Lib.hid (older Q4.out hbw)
  have S5 := Lib.hid (older S4.out hbw)
  have R5 := Lib.hid (older R4.out hbw)
  have HLT : Hid (w.heap.size + 1 < b0) := Lib.hid (by have := lt_of_block Q4.out; omega)
  have HLW : Hid (w.heap.size ≤ b0) := Lib.hid (by have := HLT.out; omega)
  clear HB4 P4 Q4 S4 R4 a0 a1 hb5 hbw
  generalize (W4.alloc (.cells #[.int .i64 px, .int .i64 py] 53)).alloc (.cells #[.slice (some ⟨b0, 0, none⟩) 1 1] 25) = W5 at *
  clear hb0
  go_upto_region 8 with fail
  change Code.wp _ _ _ _ (((W5.alloc (.cells #[flatF rb] 64)).alloc (.cells #[midF sb] 75)).alloc (.cells #[betF (b0 + 1 + 1) (b0 + 1 + 1 + 1) (b0 + 1 + 1 + 1 + 1) (b0 + 1)] 158))
  have HX8 : Hid (Bx b0 sb rb (b0 + 1) (b0 + 1 + 1) (b0 + 1 + 1 + 1) (b0 + 1 + 1 + 1 + 1) sq rad [(px, py)] (.slice (some ⟨b0, 0, none⟩) 1 1) (((W5.alloc (.cells #[flatF rb] 64)).alloc (.cells #[midF sb] 75)).alloc (.cells #[betF (b0 + 1 + 1) (b0 + 1 + 1 + 1) (b0 + 1 + 1 + 1 + 1) (b0 + 1)] 158))) := Lib.hid (by
    have h3 := three_vecs W5 (.cells #[flatF rb] 64) (.cells #[midF sb] 75) (.cells #[betF (b0 + 1 + 1) (b0 + 1 + 1 + 1) (b0 + 1 + 1 + 1 + 1) (b0 + 1)] 158)
    rw [hz5] at h3
    obtain ⟨h1, h2, h4, hb⟩ := h3
    have hbz : Below W5.heap.size W5 (((W5.alloc (.cells #[flatF rb] 64)).alloc (.cells #[midF sb] 75)).alloc (.cells #[betF (b0 + 1 + 1) (b0 + 1 + 1 + 1) (b0 + 1 + 1 + 1 + 1) (b0 + 1)] 158)) := by rw [hz5]; exact hb
    exact ⟨older S5.out hbz, older R5.out hbz, h1, h2, h4, older N5.out hbz, own_below O5.out hbz, Nat.le_succ _⟩)
  have hbz : Below W5.heap.size W5 (((W5.alloc (.cells #[flatF rb] 64)).alloc (.cells #[midF sb] 75)).alloc (.cells #[betF (b0 + 1 + 1) (b0 + 1 + 1 + 1) (b0 + 1 + 1 + 1 + 1) (b0 + 1)] 158)) := (three_vecs W5 (.cells #[flatF rb] 64) (.cells #[midF sb] 75) (.cells #[betF (b0 + 1 + 1) (b0 + 1 + 1 + 1) (b0 + 1 + 1 + 1 + 1) (b0 + 1)] 158)).2.2.2
  have HB8 := Lib.hid (HB5.out.trans (hbz.mono HB5.out.size))
  have P8 := Lib.hid (older P5.out hbz)
  have Q8 := Lib.hid (older Q5.out hbz)
  clear hbz hz5 HB5 P5 Q5 S5 R5 O5 N5
  generalize (((W5.alloc (.cells #[flatF rb] 64)).alloc (.cells #[midF sb] 75)).alloc (.cells #[betF (b0 + 1 + 1) (b0 + 1 + 1 + 1) (b0 + 1 + 1 + 1 + 1) (b0 + 1)] 158)) = W8 at *
  have HIX := Lib.hid (info_parts info_vec)
  go_loopg [13] 4 (fun gk _ wr => ∃ (x y : Int) (l : List V) (v : Value), Hid (CL = l ++ tailP sq rad gk (x, y) (qx, qy)) ∧ Hid (dot (x, y) (x, y) = sq) ∧ Hid (leftP (cross (x, y) (qx, qy)) (dot (x, y) (qx, qy)) < gk) ∧ Hid (l.length + 8001 * gk ≤ 40000) ∧ Hid (Bx b0 sb rb (b0 + 1) (b0 + 1 + 1) (b0 + 1 + 1 + 1) (b0 + 1 + 1 + 1 + 1) sq rad l v wr) ∧ Hid (wr.heap[w.heap.size]? = some (.cells #[.int .i64 x, .int .i64 y] 53 (0, 0))) ∧ Hid (wr.heap[w.heap.size + 1]? = some (.cells #[.int .i64 qx, .int .i64 qy] 53 (0, 0))) ∧ Hid (Below w.heap.size w wr))
  case atStart => exact ⟨px, py, [(px, py)], _, Lib.hid (by rw [HCA.out]; rfl), HSQ, Lib.hid (by unfold leftP; (repeat' split) <;> omega), Lib.hid (by simp), HX8, P8, Q8, HB8⟩
  case round =>
    obtain ⟨x, y, l, v, HCL, HXY, HLP, HLN, HBX, PX, QX, HB⟩ := hrel
    rcases gk with _ | f
    · exact absurd HLP.out (Nat.not_lt_zero _)
    clear HCA HSQ HX8 P8 Q8 HB8
    have HNX := Lib.hid (near_2k (near_on HXY.out) HP.out.2)
    have HTL : Hid (tailP sq rad (f + 1) (x, y) (qx, qy) = if cross (x, y) (qx, qy) ≤ 0 ∨ dot (x, y) (qx, qy) < 0 then betwP sq rad 8001 (x, y) (-y, x) ++ (-y, x) :: tailP sq rad f (-y, x) (qx, qy) else betwP sq rad 8001 (x, y) (qx, qy) ++ [(qx, qy)]) := Lib.hid rfl
    have HCR := Lib.hid (fun W => by
      have h1 := HNX.out
      have h2 := HBN.out
      dsimp only at h1
      have b1 := mul_2k h1.1 h2.2.2
      have b2 := mul_2k h1.2 h2.2.1
      exact cross_any x y qx qy W (by omega) (by omega))
    have HDT := Lib.hid (fun W => by
      have h1 := HNX.out
      have h2 := HBN.out
      dsimp only at h1
      exact dot_any8 x y qx qy W (by omega) (by omega) (by omega) (by omega))
    obtain ⟨cr, hcr⟩ : ∃ cr, x * qy - y * qx = cr := ⟨_, rfl⟩
    obtain ⟨dt, hdt⟩ : ∃ dt, dot (x, y) (qx, qy) = dt := ⟨_, rfl⟩
    have HCD : Hid (cross (x, y) (qx, qy) = cr ∧ dot (x, y) (qx, qy) = dt) := Lib.hid ⟨hcr, hdt⟩
    rw [hcr] at HCR
    rw [hdt] at HDT
    clear hcr hdt
    obtain ⟨cb, hcb⟩ : ∃ cb : Bool, decide (cr ≤ 0 ∨ dt < 0) = cb := ⟨_, rfl⟩
    have HCB := Lib.hid hcb
    clear hcb
    have hz1 := lt_of_block PX.out
    have hz2 := lt_of_block QX.out
    go_upto_region 8 with fail
    go_cut [38] from 29 to 38 (fun b wc => b = .bool cb ∧ Below wr.heap.size wr wc)
    case first =>
      obtain ⟨a0, a1⟩ := pair_at PX.out (Below.refl _ _)
      obtain ⟨a2, a3⟩ := pair_at QX.out (Below.refl _ _)
      go_wp2_with fail
      refine (HCR.out _).mono ?_
      rintro e w3 ⟨rfl, hb3⟩
      have HB3 := Lib.hid hb3
      obtain ⟨a4, a5⟩ := pair_at PX.out hb3
      obtain ⟨a6, a7⟩ := pair_at QX.out hb3
      clear hb3 a0 a1 a2 a3
      by_cases h1 : cr ≤ 0
      · have d1 : decide (cr ≤ 0) = true := decide_eq_true h1
        have HT : Hid (true = cb) := Lib.hid (by rw [← HCB.out]; simp [h1])
        clear h1
        go_wp2_with fail
        go_meet
        case rel => exact ⟨congrArg Value.bool HT.out, HB3.out⟩
      · have d1 : decide (cr ≤ 0) = false := decide_eq_false h1
        have HT : Hid (decide (dt < 0) = cb) := Lib.hid (by rw [← HCB.out]; simp [h1])
        clear h1
        go_wp2_with fail
        refine (HDT.out _).mono ?_
        rintro e w4 ⟨rfl, hb4⟩
        have HB4 := Lib.hid (HB3.out.trans (hb4.mono HB3.out.size))
        clear hb4 a4 a5 a6 a7
        obtain ⟨db, hdb⟩ : ∃ db, decide (dt < 0) = db := ⟨_, rfl⟩
        rw [hdb] at HT
        go_wp2_with fail
        go_meet
        case rel => exact ⟨congrArg Value.bool HT.out, HB4.out⟩
    case rest =>
    obtain ⟨rfl, hbc⟩ := hcut
    have PC := Lib.hid (older PX.out hbc)
    have QC := Lib.hid (older QX.out hbc)
    have HBXC := Lib.hid (HBX.out.keep hbc)
    have HBC := Lib.hid (HB.out.trans (hbc.mono HB.out.size))
    clear hbc PX QX HBX HB HCR HDT hz1 hz2
    cases cb
    case false =>
      have HNT := Lib.hid (of_decide_eq_false HCB.out)
      have HT2 : Hid (CL = l ++ (betwP sq rad 8001 (x, y) (qx, qy) ++ [(qx, qy)])) := Lib.hid (by
        rw [HCL.out, HTL.out, if_neg]
        rw [HCD.out.1, HCD.out.2]
        exact HNT.out)
      have HAI : Hid (ArcI sq (x, y) (qx, qy)) := Lib.hid (arc_end HXY.out HQ.out (by rw [HCD.out.1, HCD.out.2]; exact HNT.out))
      have HNU := Lib.hid (nu_pos HP.out.2 HAI.out)
      have HL1 := Lib.hid (betw_len HP.out.1 HP.out.2 rad 8001 _ _ HAI.out)
      have HC1 := Lib.hid (between_any b0 sb rb (b0 + 1) (b0 + 1 + 1) (b0 + 1 + 1 + 1) (b0 + 1 + 1 + 1 + 1) sq rad HP.out 8001 (x, y) (qx, qy) l v wc HAI.out (by have := HNU.out; omega) (by have h1 := HNU.out; have h2 := HLN.out; omega) HBXC.out)
      clear HAI
      dsimp only at HC1
      generalize betwP sq rad 8001 (x, y) (qx, qy) = L1 at *
      have f0 : wc.cell? ⟨b0 + 1 + 1 + 1 + 1, 0, none⟩ = some (betF (b0 + 1 + 1) (b0 + 1 + 1 + 1) (b0 + 1 + 1 + 1 + 1) (b0 + 1)) := by simp [World.cell?, HBXC.out.hbt]
      unfold betF at f0
      clear HCL HTL HNT HCB HCD
      obtain ⟨a0, a1⟩ := pair_at PC.out (Below.refl _ _)
      obtain ⟨a2, a3⟩ := pair_at QC.out (Below.refl _ _)
      go_wp2_with fail
      refine HC1.out.mono ?_
      rintro e w4 ⟨rfl, v1, hx4, hg4⟩
      have HX4 := Lib.hid hx4
      have HB4 := Lib.hid (HBC.out.trans (hg4.to_below (by have := HLW.out; omega) (fun b hb => Nat.le_trans HLW.out (HBXC.out.own.lt b hb).1) HBC.out.size))
      have Q4 := Lib.hid ((hg4.block _ (lt_of_block QC.out) (by have := HLT.out; omega) (fun e => by have h1 := (HBXC.out.own.lt _ e).1; have := HLT.out; omega)).trans QC.out)
      clear hx4 hg4 a0 a1 a2 a3 f0 HC1 HBXC HBC PC QC
      obtain ⟨a2, a3⟩ := pair_at Q4.out (Below.refl _ _)
      have hq4 := lt_of_block Q4.out
      obtain ⟨n4, hn4⟩ : ∃ n, (l ++ L1).length = n := ⟨_, rfl⟩
      have hown4 := HX4.out.own
      rw [hn4] at hown4
      obtain ⟨A1, c1, rfl, hc1⟩ := own_shape hown4
      have HN4 := Lib.hid hn4
      have f0 : w4.cell? ⟨b0 + 1, 0, none⟩ = some (.slice A1 n4 c1) := by simp [World.cell?, HX4.out.hout]
      have hz4 := lt_of_block HX4.out.hout
      have HXA := Lib.hid (HX4.out.keep (one_vec w4 (.cells #[.int .i64 qx, .int .i64 qy] 53)).1)
      have HBN4 := Lib.hid (World.news_of_block (one_vec w4 (.cells #[.int .i64 qx, .int .i64 qy] 53)).2)
      have g0 : (w4.alloc (.cells #[.int .i64 qx, .int .i64 qy] 53)).cell? ⟨b0 + 1, 0, none⟩ = some (.slice A1 n4 c1) := by simp [World.cell?, HXA.out.hout]
      have HOA := Lib.hid HXA.out.own
      rw [hn4] at HOA
      have HLL : Hid (n4 + 1 ≤ 1000000) := Lib.hid (by
        rw [← hn4, List.length_append]
        have := HL1.out; have h2 := HLN.out; have h3 := HNU.out
        omega)
      have HLB : Hid (b0 ≤ (w4.alloc (.cells #[.int .i64 qx, .int .i64 qy] 53)).heap.size) := Lib.hid (by simp; omega)
      obtain ⟨i0, ia, ib, ic, id⟩ := HIX.out
      clear hn4 hown4
      go_wp2_with (at_builtin; refine wpList_append_lies _ rfl _ _ 25 rfl b0 53 i0 _ 2 16 Tryz.underlying25 ia ib ic id rfl (by omega) _ _ _ rfl HOA.out ⟨w4.heap.size, 0, none⟩ 1 1 [.int .i64 qx, .int .i64 qy] rfl rfl HBN4.out (by intro u hu; simp at hu; rcases hu with rfl | rfl <;> rfl) (by omega) (by have := HLL.out; unfold maxLen; omega) (by have := HLL.out; omega) HLB.out _ rfl ?_)
      intro g cap w5 hown5 hg5 hat hlt5
      have HO5 : Hid (w5.ownsRow w.heap.size 53 2 (.slice (some ⟨g, 0, none⟩) (n4 + 1) cap) CL.length (CL.flatMap ptCells)) := Lib.hid (by
        have h1 : CL = (l ++ L1) ++ [(qx, qy)] := by rw [HT2.out, List.append_assoc]
        have h2 : CL.length = n4 + 1 := by rw [h1, List.length_append, HN4.out]; rfl
        have h3 : CL.flatMap ptCells = List.flatMap ptCells l ++ (List.flatMap ptCells L1 ++ [.int .i64 qx, .int .i64 qy]) := by rw [h1]; simp [ptCells]
        rw [h2, h3]
        rcases hown5.2 with h0 | ⟨g', cp, cur, e1, e2, e3⟩
        · exact ⟨by simpa using hown5.1, .inl h0⟩
        · exact ⟨by simpa using hown5.1, .inr ⟨g', cp, cur, e1, Nat.le_trans HLW.out e2, by simpa using e3⟩⟩)
      have HB5 := Lib.hid (below_gr (HB4.out.trans ((one_vec w4 (.cells #[.int .i64 qx, .int .i64 qy] 53)).1.mono HB4.out.size)) hg5 (fun b hb => Nat.le_trans HLW.out (HOA.out.lt b hb).1) (by have := HB4.out.size; simp; omega))
      clear hown5 hg5 hat hlt5 f0 g0 a2 a3
      go_wp2
      go_ret
      exact ⟨⟨_, rfl, HO5.out⟩, HB5.out⟩
    case true =>
      have HNT := Lib.hid (of_decide_eq_true HCB.out)
      have HT2 : Hid (CL = l ++ (betwP sq rad 8001 (x, y) (-y, x) ++ (-y, x) :: tailP sq rad f (-y, x) (qx, qy))) := Lib.hid (by
        rw [HCL.out, HTL.out, if_pos]
        rw [HCD.out.1, HCD.out.2]
        exact HNT.out)
      have HLS : Hid (leftP (cross (-y, x) (qx, qy)) (dot (-y, x) (qx, qy)) < f) := Lib.hid (by
        have h1 := left_step HP.out.1 HXY.out HQ.out (by rw [HCD.out.1, HCD.out.2]; exact HNT.out)
        have h2 := HLP.out
        unfold rotP at h1
        dsimp only at h1
        omega)
      have HXR : Hid (dot (-y, x) (-y, x) = sq) := Lib.hid ((rot_sq (x, y)).trans HXY.out)
      obtain ⟨a0, a1⟩ := pair_at PC.out (Below.refl _ _)
      obtain ⟨_, y1, y2⟩ := HNX.out
      dsimp only at y1 y2
      go_upto_region 10 with fail
      have hn := (one_vec wc (.cells #[.int .i64 (-y), .int .i64 x] 53)).1
      have PD := Lib.hid (older PC.out hn)
      have QD := Lib.hid (older QC.out hn)
      have ND := Lib.hid (one_vec wc (.cells #[.int .i64 (-y), .int .i64 x] 53)).2
      have HBD := Lib.hid (HBC.out.trans (hn.mono HBC.out.size))
      have HBXD := Lib.hid (HBXC.out.keep hn)
      have HNB : Hid (b0 + 1 < wc.heap.size ∧ (∀ b, v.ownBlock = some b → b < wc.heap.size)) := Lib.hid ⟨lt_of_block HBXC.out.hout, fun b hb => (HBXC.out.own.lt b hb).2⟩
      clear hn a0 a1 y1 y2 PC QC HBC HBXC HCL HTL HNT HLP HCB HCD
      generalize wc.alloc (.cells #[.int .i64 (-y), .int .i64 x] 53) = wd at *
      generalize wc.heap.size = nb at *
      have HAI : Hid (ArcI sq (x, y) (-y, x)) := Lib.hid (arc_rot HP.out.1 HXY.out)
      have HNU := Lib.hid (nu_pos HP.out.2 HAI.out)
      have HL1 := Lib.hid (betw_len HP.out.1 HP.out.2 rad 8001 _ _ HAI.out)
      have HC1 := Lib.hid (between_any b0 sb rb (b0 + 1) (b0 + 1 + 1) (b0 + 1 + 1 + 1) (b0 + 1 + 1 + 1 + 1) sq rad HP.out 8001 (x, y) (-y, x) l v wd HAI.out (by have := HNU.out; omega) (by have h1 := HNU.out; have h2 := HLN.out; omega) HBXD.out)
      clear HAI
      dsimp only at HC1
      generalize betwP sq rad 8001 (x, y) (-y, x) = L1 at *
      have f0 : wd.cell? ⟨b0 + 1 + 1 + 1 + 1, 0, none⟩ = some (betF (b0 + 1 + 1) (b0 + 1 + 1 + 1) (b0 + 1 + 1 + 1 + 1) (b0 + 1)) := by simp [World.cell?, HBXD.out.hbt]
      unfold betF at f0
      obtain ⟨a0, a1⟩ := pair_at PD.out (Below.refl _ _)
      obtain ⟨a2, a3⟩ := pair_at ND.out (Below.refl _ _)
      go_wp2_with fail
      refine HC1.out.mono ?_
      rintro e w4 ⟨rfl, v1, hx4, hg4⟩
      have HX4 := Lib.hid hx4
      have HB4 := Lib.hid (HBD.out.trans (hg4.to_below (by have := HLW.out; omega) (fun b hb => Nat.le_trans HLW.out (HBXD.out.own.lt b hb).1) HBD.out.size))
      have P4 := Lib.hid ((hg4.block _ (lt_of_block PD.out) (by have := HLT.out; omega) (fun e => by have h1 := (HBXD.out.own.lt _ e).1; have := HLT.out; omega)).trans PD.out)
      have Q4 := Lib.hid ((hg4.block _ (lt_of_block QD.out) (by have := HLT.out; omega) (fun e => by have h1 := (HBXD.out.own.lt _ e).1; have := HLT.out; omega)).trans QD.out)
      have N4 := Lib.hid ((hg4.block _ (lt_of_block ND.out) (by have := HNB.out.1; omega) (fun e => by have := HNB.out.2 _ e; omega)).trans ND.out)
      have HON : Hid (∀ b, v1.ownBlock = some b → b0 ≤ b ∧ b ≠ nb) := Lib.hid (fun b e => ⟨(hx4.own.lt b e).1, by
        rcases hg4.own b e with h | h
        · have := HNB.out.2 b h; omega
        · have := lt_of_block ND.out; omega⟩)
      clear hx4 hg4 a0 a1 a2 a3 f0 HC1 HBXD HBD PD QD ND
      obtain ⟨a2, a3⟩ := pair_at N4.out (Below.refl _ _)
      have hq4 := lt_of_block N4.out
      obtain ⟨n4, hn4⟩ : ∃ n, (l ++ L1).length = n := ⟨_, rfl⟩
      have hown4 := HX4.out.own
      rw [hn4] at hown4
      obtain ⟨A1, c1, rfl, hc1⟩ := own_shape hown4
      have HN4 := Lib.hid hn4
      have f0 : w4.cell? ⟨b0 + 1, 0, none⟩ = some (.slice A1 n4 c1) := by simp [World.cell?, HX4.out.hout]
      have hz4 := lt_of_block HX4.out.hout
      have HXA := Lib.hid (HX4.out.keep (one_vec w4 (.cells #[.int .i64 (-y), .int .i64 x] 53)).1)
      have HBN4 := Lib.hid (World.news_of_block (one_vec w4 (.cells #[.int .i64 (-y), .int .i64 x] 53)).2)
      have g0 : (w4.alloc (.cells #[.int .i64 (-y), .int .i64 x] 53)).cell? ⟨b0 + 1, 0, none⟩ = some (.slice A1 n4 c1) := by simp [World.cell?, HXA.out.hout]
      have HOA := Lib.hid HXA.out.own
      rw [hn4] at HOA
      have HLL : Hid (n4 + 1 ≤ 1000000) := Lib.hid (by
        rw [← hn4, List.length_append]
        have := HL1.out; have h2 := HLN.out; have h3 := HNU.out
        omega)
      have HLB : Hid (b0 ≤ (w4.alloc (.cells #[.int .i64 (-y), .int .i64 x] 53)).heap.size) := Lib.hid (by simp; omega)
      obtain ⟨i0, ia, ib, ic, id⟩ := HIX.out
      clear hn4 hown4
      go_wp2_with (at_builtin; refine wpList_append_lies _ rfl _ _ 25 rfl b0 53 i0 _ 2 16 Tryz.underlying25 ia ib ic id rfl (by omega) _ _ _ rfl HOA.out ⟨w4.heap.size, 0, none⟩ 1 1 [.int .i64 (-y), .int .i64 x] rfl rfl HBN4.out (by intro u hu; simp at hu; rcases hu with rfl | rfl <;> rfl) (by omega) (by have := HLL.out; unfold maxLen; omega) (by have := HLL.out; omega) HLB.out _ rfl ?_)
      intro g cap w5 hown5 hg5 hat hlt5
      have HPU := Lib.hid (HXA.out.push (m := (-y, x)) hg5 (by rw [HN4.out]; simpa [ptCells] using hown5) (fun b e => by
        have e' : g = b := Option.some.inj e
        rcases hat with h | h
        · exact .inl (e' ▸ h)
        · exact .inr (by rw [← e', h]; simp)))
      have HX5 := Lib.hid HPU.out.1
      have c5 : w5.heap[b0 + 1]? = some (.cells #[.slice A1 n4 c1] 25 (0, 0)) := (hg5.block (b0 + 1) (lt_of_block HXA.out.hout) (fun e => ownTagNe HXA.out.own HXA.out.hout (by decide) e.symm)).trans HXA.out.hout
      have k0 : w5.cell? ⟨b0 + 1, 0, none⟩ = some (.slice A1 n4 c1) := by simp [World.cell?, c5]
      have k1 : w5.frozen? ⟨b0 + 1, 0, none⟩ = false := by simp [World.frozen?, c5]
      have HK5 : Hid (∀ b, b < w4.heap.size → b ≠ b0 + 1 → (b < b0 ∨ b = nb) → (w5.setCell ⟨b0 + 1, 0, none⟩ (.slice (some ⟨g, 0, none⟩) (n4 + 1) cap)).heap[b]? = w4.heap[b]?) := Lib.hid (fun b h1 h2 h3 => by
        refine (HPU.out.2.block b (by simp; omega) h2 (fun e => ?_)).trans ((one_vec w4 (.cells #[.int .i64 (-y), .int .i64 x] 53)).1.block b h1)
        have := HON.out b e
        omega)
      have P5 := Lib.hid ((HK5.out _ (lt_of_block P4.out) (by have := HLT.out; omega) (.inl (by have := HLT.out; omega))).trans P4.out)
      have Q5 := Lib.hid ((HK5.out _ (lt_of_block Q4.out) (by have := HLT.out; omega) (.inl (by have := HLT.out; omega))).trans Q4.out)
      have N5 := Lib.hid ((HK5.out _ (lt_of_block N4.out) (by have := HNB.out.1; omega) (.inr rfl)).trans N4.out)
      have HB5 := Lib.hid (below_gr (HB4.out.trans ((one_vec w4 (.cells #[.int .i64 (-y), .int .i64 x] 53)).1.mono HB4.out.size)) hg5 (fun b hb => Nat.le_trans HLW.out (HOA.out.lt b hb).1) (by have := HB4.out.size; simp; omega))
      have HB6 := Lib.hid (HB5.out.setCell (p := ⟨b0 + 1, 0, none⟩) (show w.heap.size ≤ b0 + 1 by have := HLW.out; omega) (.slice (some ⟨g, 0, none⟩) (n4 + 1) cap))
      clear hown5 hg5 hat hlt5 c5 HPU HXA HOA HBN4 HX4 HK5 HB5 HB4 P4 Q4 N4 f0 g0 a2 a3 hz4 hq4
      go_upto_region 12 with fail
      clear k0 k1
      generalize w5.setCell ⟨b0 + 1, 0, none⟩ (.slice (some ⟨g, 0, none⟩) (n4 + 1) cap) = W6 at *
      obtain ⟨a0, a1, a2, a3, a4⟩ := two_facts P5.out
      obtain ⟨c0, c1', c2, c3, c4⟩ := two_facts N5.out
      have HP6 := Lib.hid (setCell_block (setCell_block P5.out 0 (.int .i64 (-y))) 1 (.int .i64 x))
      have HX6 := Lib.hid ((HX5.out.setp (by have := HLT.out; omega) P5.out 0 (.int .i64 (-y))).setp (k := w.heap.size) (by have := HLT.out; omega) (setCell_block P5.out 0 (.int .i64 (-y))) 1 (.int .i64 x))
      have HQ6 : Hid (((W6.setCell ⟨w.heap.size, 0, none⟩ (.int .i64 (-y))).setCell ⟨w.heap.size, 1, none⟩ (.int .i64 x)).heap[w.heap.size + 1]? = some (.cells #[.int .i64 qx, .int .i64 qy] 53 (0, 0))) := Lib.hid (by
        rw [Below.heap_setCell _ _ _ _ (show w.heap.size + 1 ≠ w.heap.size by omega), Below.heap_setCell _ _ _ _ (show w.heap.size + 1 ≠ w.heap.size by omega)]; exact Q5.out)
      have HB7 := Lib.hid ((HB6.out.setCell (p := ⟨w.heap.size, 0, none⟩) (Nat.le_refl _) (.int .i64 (-y))).setCell (p := ⟨w.heap.size, 1, none⟩) (Nat.le_refl _) (.int .i64 x))
      go_wp2_with fail
      go_roundg f
      case measure => exact Nat.lt_succ_self f
      case rel => exact ⟨-y, x, (l ++ L1) ++ [(-y, x)], _, Lib.hid (by rw [HT2.out]; simp), HXR, HLS, Lib.hid (by
        have h1 := HLN.out
        have h2 := HL1.out
        have h3 := HNU.out
        rw [List.length_append, List.length_append]
        simp only [List.length_cons, List.length_nil]
        omega), HX6, by simpa using HP6, HQ6, HB7⟩
end Go.Proofs.YtnmmhcchpcbeeaaGreat.GeW
