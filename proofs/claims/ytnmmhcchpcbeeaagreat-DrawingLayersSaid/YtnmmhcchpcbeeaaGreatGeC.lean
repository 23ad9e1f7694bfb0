/- Walks: the program's order of points. Conditions: none. -/
import Derived.Test.YtnmmhcchpcbeeaaGreatGeV

namespace Go.Proofs.YtnmmhcchpcbeeaaGreat.GeW
open Go Go.RowKit Go.Proofs.YtnmmhcchpcbeeaaGreat.Mem Go.Proofs.YtnmmhcchpcbeeaaGreat.Ge
attribute [local go_sem ↓] Go.wp_at_zero Go.wp_at_succ
theorem two_vecs (w : World) (o1 o2 : Obj) : ((w.alloc o1).alloc o2).heap[w.heap.size]? = some o1 ∧ ((w.alloc o1).alloc o2).heap[w.heap.size + 1]? = some o2 := by
  have e1 : (w.alloc o1).heap.size = w.heap.size + 1 := by simp
  refine ⟨?_, ?_⟩
  · rw [heap_alloc_old _ _ (by rw [e1]; omega)]; exact heap_alloc_new _ _
  · rw [← e1]; exact heap_alloc_new _ _
theorem or_any (a c : Int) (b : Nat) (w : World) (h : w.heap[b]? = some (.cells #[.int .i64 a, .int .i64 c] 3 (0, 0))) :
    Calls Tryz.prog 118 #[.slice (some ⟨b, 0, none⟩) 2 2] w fun e w' => e = .returned (.int .i64 (if a = 0 then c else a)) ∧ w' = w := by
  have hlt := lt_of_block h
  obtain ⟨x0, x1⟩ := pair_at h (Below.refl _ _)
  clear h
  by_cases ha : a = 0
  · rw [if_pos ha]
    subst ha
    by_cases hc : c = 0
    · subst hc
      go_enter Tryz.func118, Tryz.ntmps118
      go_wp2
      go_loopw [5, 8] (fun _ i wr => ∃ j : Nat, i = .int .i64 (j : Int) ∧ j ≤ 2 ∧ wr = w) (fun _ i _ => 2 - (intOf i).toNat)
      case atStart => exact ⟨0, rfl, by omega, rfl⟩
      case round =>
        obtain ⟨j, rfl, hj, rfl⟩ := hrel
        rcases (show j = 0 ∨ j = 1 ∨ j = 2 by omega) with rfl | rfl | rfl
        · go_wp2
          go_roundw
          case rel => exact ⟨1, rfl, by omega, by first | rfl | trivial⟩
          case measure => simp [intOf]
        · go_wp2
          go_roundw
          case rel => exact ⟨2, rfl, by omega, by first | rfl | trivial⟩
          case measure => simp [intOf]
        · go_wp2
          go_ret
          exact ⟨rfl, rfl⟩
    · have hc1 : (c != 0) = true := bne_iff_ne.2 hc
      have hc2 : (c = 0) = False := eq_false hc
      clear hc
      go_enter Tryz.func118, Tryz.ntmps118
      go_wp2
      go_loopw [5, 8] (fun _ i wr => ∃ j : Nat, i = .int .i64 (j : Int) ∧ j ≤ 1 ∧ wr = w) (fun _ i _ => 2 - (intOf i).toNat)
      case atStart => exact ⟨0, rfl, by omega, rfl⟩
      case round =>
        obtain ⟨j, rfl, hj, rfl⟩ := hrel
        rcases (show j = 0 ∨ j = 1 by omega) with rfl | rfl
        · go_wp2
          go_roundw
          case rel => exact ⟨1, rfl, by omega, by first | rfl | trivial⟩
          case measure => simp [intOf]
        · go_wp2
          go_ret
          exact ⟨rfl, rfl⟩
  · rw [if_neg ha]
    have hc1 : (a != 0) = true := bne_iff_ne.2 ha
    have hc2 : (a = 0) = False := eq_false ha
    clear ha
    go_enter Tryz.func118, Tryz.ntmps118
    go_wp2
    go_loopw [5, 8] (fun _ i wr => i = .int .i64 0 ∧ wr = w) (fun _ i _ => 2 - (intOf i).toNat)
    case atStart => exact ⟨rfl, rfl⟩
    case round =>
      obtain ⟨rfl, rfl⟩ := hrel
      go_wp2
      go_ret
      exact ⟨rfl, rfl⟩
theorem cmp3_sub (a b : Int) : cmp3 a b = sgn (a - b) := by
  unfold cmp3 sgn
  split
  · rw [if_pos (by omega)]
  · split
    · rw [if_neg (by omega), if_neg (by omega)]
    · rw [if_neg (by omega), if_pos (by omega)]
set_option maxRecDepth 100000 in
set_option maxHeartbeats 2000000 in
theorem vcmp_any (x y u v : Int) (w : World) :
    Calls Tryz.prog 58 #[.agg #[.int .i64 x, .int .i64 y], .agg #[.int .i64 u, .int .i64 v]] w fun e w' => e = .returned (.int .i64 (vcmp (x, y) (u, v))) ∧ Below w.heap.size w w' := by
  have HT : Hid (vcmp (x, y) (u, v) = if cmp3 y v = 0 then cmp3 x u else cmp3 y v) := Lib.hid (by rw [cmp3_sub, cmp3_sub]; rfl)
  rw [HT.out]
  have HC1 := Lib.hid (fun W => ccmp_any y v W)
  have HC2 := Lib.hid (fun W => ccmp_any x u W)
  have HOR := Lib.hid (fun b W h => or_any (cmp3 y v) (cmp3 x u) b W h)
  clear HT
  generalize (if cmp3 y v = 0 then cmp3 x u else cmp3 y v) = r at *
  have HB := Lib.hid (((Below.refl w.heap.size w).alloc (Nat.le_refl _) (.cells #[.int .i64 x, .int .i64 y] 53)).alloc (by simp) (.cells #[.int .i64 u, .int .i64 v] 53))
  have HX : Hid (((w.alloc (.cells #[.int .i64 x, .int .i64 y] 53)).alloc (.cells #[.int .i64 u, .int .i64 v] 53)).heap[w.heap.size]? = some (.cells #[.int .i64 x, .int .i64 y] 53) ∧ ((w.alloc (.cells #[.int .i64 x, .int .i64 y] 53)).alloc (.cells #[.int .i64 u, .int .i64 v] 53)).heap[w.heap.size + 1]? = some (.cells #[.int .i64 u, .int .i64 v] 53)) := Lib.hid (two_vecs w _ _)
  generalize cmp3 y v = c1 at *
  generalize cmp3 x u = c2 at *
  go_enter Tryz.func58, Tryz.ntmps58
  go_upto_region 1 with fail
  generalize (w.alloc (.cells #[.int .i64 x, .int .i64 y] 53)).alloc (.cells #[.int .i64 u, .int .i64 v] 53) = W at *
  have CS : Hid (∀ w', Below W.heap.size W w' → w'.cell? ⟨w.heap.size, 0, none⟩ = some (.int .i64 x) ∧ w'.cell? ⟨w.heap.size, 1, none⟩ = some (.int .i64 y) ∧ w'.cell? ⟨w.heap.size + 1, 0, none⟩ = some (.int .i64 u) ∧ w'.cell? ⟨w.heap.size + 1, 1, none⟩ = some (.int .i64 v) ∧ Below W.heap.size W w') := Lib.hid (fun w' hb => by
    obtain ⟨a0, a1⟩ := pair_at HX.out.1 hb
    obtain ⟨b0, b1⟩ := pair_at HX.out.2 hb
    exact ⟨a0, a1, b0, b1, hb⟩)
  obtain ⟨q0, q1, q2, q3, q4⟩ := CS.out W (Below.refl _ _)
  go_region_held3 (fun w' => w'.cell? ⟨w.heap.size, 0, none⟩ = some (.int .i64 x) ∧ w'.cell? ⟨w.heap.size, 1, none⟩ = some (.int .i64 y) ∧ w'.cell? ⟨w.heap.size + 1, 0, none⟩ = some (.int .i64 u) ∧ w'.cell? ⟨w.heap.size + 1, 1, none⟩ = some (.int .i64 v) ∧ Below W.heap.size W w')
    (first | assumption | exact CS.out _ (below_drew q4) | exact CS.out _ q4 | exact CS.out _ (below_drew (q4.alloc (Nat.le_refl _) _)) | exact CS.out _ (q4.alloc (Nat.le_refl _) _))
    (first
     | (go_at_call_of 119 (Value.int .i64 y); refine (HC1.out _).mono ?_; rintro e w4 ⟨rfl, rfl⟩)
     | (go_at_call_of 119 (Value.int .i64 x); refine (HC2.out _).mono ?_; rintro e w5 ⟨rfl, rfl⟩)
     | (go_at_call 118; refine Calls.mono (HOR.out W.heap.size _ (by exact heap_alloc_new W (.cells #[.int .i64 c1, .int .i64 c2] 3))) ?_; rintro e w6 ⟨rfl, rfl⟩))
  go_wp2
  go_ret
  exact ⟨rfl, HB.out.trans ((Below.mono (by first | exact (below_drew (q4.alloc (Nat.le_refl _) _)) | exact (q4.alloc (Nat.le_refl _) _)) (Below.size HB.out)))⟩
theorem vcmp_less (a b : V) : decide (vcmp a b < 0) = less a b := by
  unfold vcmp less sgn
  have e : (a.2 - b.2 < 0) = (a.2 < b.2) := propext (by omega)
  have e0 : (a.2 - b.2 = 0) = (a.2 = b.2) := propext (by omega)
  have f : (a.1 - b.1 < 0) = (a.1 < b.1) := propext (by omega)
  simp only [e, e0, f]
  by_cases h1 : a.2 < b.2
  · have h2 : ¬ a.2 = b.2 := by omega
    simp [h1, h2]
  · by_cases h2 : a.2 = b.2
    · have h3 : ¬ b.2 < b.2 := by omega
      by_cases h4 : a.1 < b.1
      · simp [h2, h4]
      · by_cases h5 : a.1 - b.1 = 0
        · simp [h2, h4, h5]
        · simp [h2, h4, h5]
    · simp [h1, h2]
set_option maxRecDepth 100000 in
theorem less_any (x y u v : Int) (w : World) :
    Calls Tryz.prog 197 #[.agg #[.int .i64 x, .int .i64 y], .agg #[.int .i64 u, .int .i64 v]] w fun e w' => e = .returned (.bool (less (x, y) (u, v))) ∧ Below w.heap.size w w' := by
  have HC := Lib.hid (fun W => vcmp_any x y u v W)
  have HB := Lib.hid (((Below.refl w.heap.size w).alloc (Nat.le_refl _) (.cells #[.int .i64 x, .int .i64 y] 53)).alloc (by simp) (.cells #[.int .i64 u, .int .i64 v] 53))
  rw [← vcmp_less]
  generalize vcmp (x, y) (u, v) = n at *
  go_enter Tryz.func197, Tryz.ntmps197
  go_wp2_with fail
  refine (HC.out _).mono ?_
  rintro e w1 ⟨rfl, hb1⟩
  go_wp2
  go_ret
  exact ⟨rfl, HB.out.trans (hb1.mono (Below.size HB.out))⟩
end Go.Proofs.YtnmmhcchpcbeeaaGreat.GeW
