/- Walks: the program's segments. Conditions: as stated. -/
import Derived.Test.YtnmmhcchpcbeeaaGreatGeB

namespace Go.Proofs.YtnmmhcchpcbeeaaGreat.GeW
open Go Go.RowKit Go.Proofs.YtnmmhcchpcbeeaaGreat.Mem Go.Proofs.YtnmmhcchpcbeeaaGreat.Ge
attribute [local go_sem ↓] Go.wp_at_zero Go.wp_at_succ
theorem one_vec (w : World) (o : Obj) : Below w.heap.size w (w.alloc o) ∧ (w.alloc o).heap[w.heap.size]? = some o := ⟨(Below.refl _ _).alloc (Nat.le_refl _) _, heap_alloc_new w o⟩
theorem quad_at {w w' : World} {b : Nat} {x y z u : Value} {t : TypeId} (h : w.heap[b]? = some (.cells #[x, y, z, u] t (0, 0))) (hb : Below w.heap.size w w') : w'.cell? ⟨b, 0, none⟩ = some x ∧ w'.cell? ⟨b, 1, none⟩ = some y ∧ w'.cell? ⟨b, 2, none⟩ = some z ∧ w'.cell? ⟨b, 3, none⟩ = some u := by
  have h' := (hb.block b (lt_of_block h)).trans h
  refine ⟨?_, ?_, ?_, ?_⟩ <;> simp [World.cell?, h']
set_option maxRecDepth 100000 in
theorem segok_any (ax ay bx b_y : Int) (w : World) : Calls Tryz.prog 193 #[.agg #[.int .i64 ax, .int .i64 ay, .int .i64 bx, .int .i64 b_y]] w fun e w' => e = .returned (.bool (segOk ((ax, ay), (bx, b_y)))) ∧ Below w.heap.size w w' := by
  have HO := Lib.hid (one_vec w (.cells #[.int .i64 ax, .int .i64 ay, .int .i64 bx, .int .i64 b_y] 74))
  have HW1 := Lib.hid (fun W => within_any ax ay 4000 W (by omega))
  have HW2 := Lib.hid (fun W => within_any bx b_y 4000 W (by omega))
  unfold segOk
  simp only
  obtain ⟨x0, x1, x2, x3⟩ := quad_at HO.out.2 (Below.refl _ _)
  generalize within (bx, b_y) 4000 = q2 at *
  cases hq : within (ax, ay) 4000
  · rw [hq] at HW1
    rw [Bool.false_and]
    clear hq
    go_enter Tryz.func193, Tryz.ntmps193
    go_wp2_with fail
    refine (HW1.out _).mono ?_
    rintro e w1 ⟨rfl, hb1⟩
    go_wp2
    go_ret
    exact ⟨rfl, HO.out.1.trans (hb1.mono (Below.size HO.out.1))⟩
  · rw [hq] at HW1
    rw [Bool.true_and]
    clear hq
    go_enter Tryz.func193, Tryz.ntmps193
    go_wp2_with fail
    refine (HW1.out _).mono ?_
    rintro e w1 ⟨rfl, hb1⟩
    have HB1 := Lib.hid hb1
    clear x0 x1 x2 x3
    obtain ⟨x0, x1, x2, x3⟩ := quad_at HO.out.2 hb1
    clear hb1
    go_wp2_with fail
    refine (HW2.out _).mono ?_
    rintro e w2 ⟨rfl, hb2⟩
    go_wp2
    go_ret
    exact ⟨rfl, HO.out.1.trans ((HB1.out.trans (hb2.mono (Below.size HB1.out))).mono (Below.size HO.out.1))⟩
set_option maxRecDepth 100000 in
theorem rsegok_any (ax ay bx b_y : Int) (w : World) : Calls Tryz.prog 123 #[.agg #[.int .i64 ax, .int .i64 ay, .int .i64 bx, .int .i64 b_y]] w fun e w' => e = .returned (.bool (segOk ((ax, ay), (bx, b_y)))) ∧ Below w.heap.size w w' := by
  have HO := Lib.hid (one_vec w (.cells #[.int .i64 ax, .int .i64 ay, .int .i64 bx, .int .i64 b_y] 74))
  have HW1 := Lib.hid (fun W => rwithin_any ax ay 4000 W (by omega))
  have HW2 := Lib.hid (fun W => rwithin_any bx b_y 4000 W (by omega))
  unfold segOk
  simp only
  obtain ⟨x0, x1, x2, x3⟩ := quad_at HO.out.2 (Below.refl _ _)
  generalize within (bx, b_y) 4000 = q2 at *
  cases hq : within (ax, ay) 4000
  · rw [hq] at HW1
    rw [Bool.false_and]
    clear hq
    go_enter Tryz.func123, Tryz.ntmps123
    go_wp2_with fail
    refine (HW1.out _).mono ?_
    rintro e w1 ⟨rfl, hb1⟩
    go_wp2
    go_ret
    exact ⟨rfl, HO.out.1.trans (hb1.mono (Below.size HO.out.1))⟩
  · rw [hq] at HW1
    rw [Bool.true_and]
    clear hq
    go_enter Tryz.func123, Tryz.ntmps123
    go_wp2_with fail
    refine (HW1.out _).mono ?_
    rintro e w1 ⟨rfl, hb1⟩
    have HB1 := Lib.hid hb1
    clear x0 x1 x2 x3
    obtain ⟨x0, x1, x2, x3⟩ := quad_at HO.out.2 hb1
    clear hb1
    go_wp2_with fail
    refine (HW2.out _).mono ?_
    rintro e w2 ⟨rfl, hb2⟩
    go_wp2
    go_ret
    exact ⟨rfl, HO.out.1.trans ((HB1.out.trans (hb2.mono (Below.size HB1.out))).mono (Below.size HO.out.1))⟩
set_option maxRecDepth 100000 in
theorem inbox_any (lx ly hx hy x y : Int) (w : World) :
    Calls Tryz.prog 213 #[.agg #[.int .i64 lx, .int .i64 ly, .int .i64 hx, .int .i64 hy], .agg #[.int .i64 x, .int .i64 y]] w fun e w' => e = .returned (.bool (decide (lx ≤ x) && (decide (x ≤ hx) && (decide (ly ≤ y) && decide (y ≤ hy))))) ∧ Below w.heap.size w w' := by
  have HB := Lib.hid (((Below.refl w.heap.size w).alloc (Nat.le_refl _) (.cells #[.int .i64 lx, .int .i64 ly, .int .i64 hx, .int .i64 hy] 206)).alloc (by simp) (.cells #[.int .i64 x, .int .i64 y] 53))
  by_cases h0 : lx ≤ x
  case neg =>
    have d0 : decide (lx ≤ x) = false := decide_eq_false h0
    rw [d0]
    simp only [Bool.false_and]
    clear h0
    go_enter Tryz.func213, Tryz.ntmps213
    go_wp2
    go_ret
    exact ⟨rfl, HB.out⟩
  have d0 : decide (lx ≤ x) = true := decide_eq_true h0
  rw [d0]
  clear h0
  by_cases h1 : x ≤ hx
  case neg =>
    have d1 : decide (x ≤ hx) = false := decide_eq_false h1
    rw [d1]
    simp only [Bool.false_and, Bool.true_and]
    clear h1
    go_enter Tryz.func213, Tryz.ntmps213
    go_wp2
    go_ret
    exact ⟨rfl, HB.out⟩
  have d1 : decide (x ≤ hx) = true := decide_eq_true h1
  rw [d1]
  clear h1
  by_cases h2 : ly ≤ y
  case neg =>
    have d2 : decide (ly ≤ y) = false := decide_eq_false h2
    rw [d2]
    simp only [Bool.false_and, Bool.true_and]
    clear h2
    go_enter Tryz.func213, Tryz.ntmps213
    go_wp2
    go_ret
    exact ⟨rfl, HB.out⟩
  have d2 : decide (ly ≤ y) = true := decide_eq_true h2
  rw [d2]
  clear h2
  by_cases h3 : y ≤ hy
  case neg =>
    have d3 : decide (y ≤ hy) = false := decide_eq_false h3
    rw [d3]
    simp only [Bool.true_and]
    clear h3
    go_enter Tryz.func213, Tryz.ntmps213
    go_wp2
    go_ret
    exact ⟨rfl, HB.out⟩
  have d3 : decide (y ≤ hy) = true := decide_eq_true h3
  rw [d3]
  clear h3
  simp only [Bool.true_and]
  go_enter Tryz.func213, Tryz.ntmps213
  go_wp2
  go_ret
  exact ⟨rfl, HB.out⟩
end Go.Proofs.YtnmmhcchpcbeeaaGreat.GeW
