/- Walk: the program's test whether a point lies on a segment. Conditions: none. -/
import Derived.Test.YtnmmhcchpcbeeaaGreatGeS

namespace Go.Proofs.YtnmmhcchpcbeeaaGreat.Ge
theorem box_two (a b : V) : box [a, b] = ⟨min a.1 b.1, min a.2 b.2, max a.1 b.1, max a.2 b.2⟩ := by
  simp [box, bstep]
theorem within_in {a : V} {m : Int} (h : within a m = true) : (-m ≤ a.1 ∧ a.1 ≤ m) ∧ (-m ≤ a.2 ∧ a.2 ≤ m) := by
  unfold within at h
  simp only [Bool.and_eq_true, decide_eq_true_eq] at h
  exact ⟨⟨h.1, h.2.1⟩, h.2.2⟩
end Go.Proofs.YtnmmhcchpcbeeaaGreat.Ge
namespace Go.Proofs.YtnmmhcchpcbeeaaGreat.GeW
open Go Go.RowKit Go.Proofs.YtnmmhcchpcbeeaaGreat.Mem Go.Proofs.YtnmmhcchpcbeeaaGreat.Ge
attribute [local go_sem ↓] Go.wp_at_zero Go.wp_at_succ
theorem size_two (w : World) (o1 o2 : Obj) : ((w.alloc o1).alloc o2).heap.size = w.heap.size + 1 + 1 := by simp
theorem pts_row {w : World} {b : Nat} {ax ay bx b_y : Int} {t : TypeId} (h : w.heap[b]? = some (.cells #[.int .i64 ax, .int .i64 ay, .int .i64 bx, .int .i64 b_y] t (0, 0))) : Row w (some ⟨b, 0, none⟩) ([(ax, ay), (bx, b_y)].flatMap ptCells) := by
  intro _
  refine ⟨b, 0, rfl, lt_of_block h, fun j hj => ?_⟩
  have hj4 : j < 4 := hj
  obtain ⟨x0, x1, x2, x3⟩ := quad_at h (Below.refl _ _)
  rw [Nat.zero_add]
  match j, hj4 with
  | 0, _ => exact x0
  | 1, _ => exact x1
  | 2, _ => exact x2
  | 3, _ => exact x3
set_option maxRecDepth 100000 in
set_option maxHeartbeats 2000000 in
theorem on_any (ax ay bx b_y x y : Int) (w : World) :
    Calls Tryz.prog 195 #[.agg #[.int .i64 ax, .int .i64 ay, .int .i64 bx, .int .i64 b_y], .agg #[.int .i64 x, .int .i64 y]] w fun e w' => e = .returned (.bool (on ((ax, ay), (bx, b_y)) (x, y))) ∧ Below w.heap.size w w' := by
  have HX : Hid (((w.alloc (.cells #[.int .i64 ax, .int .i64 ay, .int .i64 bx, .int .i64 b_y] 74)).alloc (.cells #[.int .i64 x, .int .i64 y] 53)).heap[w.heap.size]? = some (.cells #[.int .i64 ax, .int .i64 ay, .int .i64 bx, .int .i64 b_y] 74) ∧ ((w.alloc (.cells #[.int .i64 ax, .int .i64 ay, .int .i64 bx, .int .i64 b_y] 74)).alloc (.cells #[.int .i64 x, .int .i64 y] 53)).heap[w.heap.size + 1]? = some (.cells #[.int .i64 x, .int .i64 y] 53)) := Lib.hid (two_vecs w _ _)
  have HB := Lib.hid (((Below.refl w.heap.size w).alloc (Nat.le_refl _) (.cells #[.int .i64 ax, .int .i64 ay, .int .i64 bx, .int .i64 b_y] 74)).alloc (by simp) (.cells #[.int .i64 x, .int .i64 y] 53))
  have HBO0 := Lib.hid (boxOf_any [(ax, ay), (bx, b_y)] (some ⟨w.heap.size + 1 + 1, 0, none⟩) 2 (((w.alloc (.cells #[.int .i64 ax, .int .i64 ay, .int .i64 bx, .int .i64 b_y] 74)).alloc (.cells #[.int .i64 x, .int .i64 y] 53)).alloc (.cells #[.int .i64 ax, .int .i64 ay, .int .i64 bx, .int .i64 b_y] 53)) (pts_row (t := 53) (by have h := heap_alloc_new ((w.alloc (.cells #[.int .i64 ax, .int .i64 ay, .int .i64 bx, .int .i64 b_y] 74)).alloc (.cells #[.int .i64 x, .int .i64 y] 53)) (.cells #[.int .i64 ax, .int .i64 ay, .int .i64 bx, .int .i64 b_y] 53); rw [size_two] at h; exact h)) (by simp) (by simp))
  have HSV := Lib.hid (fun W => segok_any ax ay bx b_y W)
  have HIB0 := Lib.hid (fun W => inbox_any (min ax bx) (min ay b_y) (max ax bx) (max ay b_y) x y W)
  have HON : Hid (on ((ax, ay), (bx, b_y)) (x, y) = (segOk ((ax, ay), (bx, b_y)) && ((decide (min ax bx ≤ x) && (decide (x ≤ max ax bx) && (decide (min ay b_y ≤ y) && decide (y ≤ max ay b_y)))) && decide (turn (ax, ay) (bx, b_y) (x, y) = 0)))) := Lib.hid rfl
  rw [HON.out]
  rw [box_two] at HBO0
  unfold boxV at HBO0
  have HTU0 : Hid (segOk ((ax, ay), (bx, b_y)) = true → (decide (min ax bx ≤ x) && (decide (x ≤ max ax bx) && (decide (min ay b_y ≤ y) && decide (y ≤ max ay b_y)))) = true → ∀ W, Calls Tryz.prog 130 #[.agg #[.int .i64 ax, .int .i64 ay], .agg #[.int .i64 bx, .int .i64 b_y], .agg #[.int .i64 x, .int .i64 y]] W fun e w' => e = .returned (.int .i64 (turn (ax, ay) (bx, b_y) (x, y))) ∧ Below W.heap.size W w') := Lib.hid (fun h1 h2 W => by
    unfold segOk at h1
    simp only [Bool.and_eq_true] at h1
    obtain ⟨⟨a1, a2⟩, a3, a4⟩ := within_in h1.1
    obtain ⟨⟨b1, b2⟩, b3, b4⟩ := within_in h1.2
    simp only [Bool.and_eq_true, decide_eq_true_eq] at h2
    simp only at a1 a2 a3 a4 b1 b2 b3 b4
    exact turn_any ax ay bx b_y x y W (by omega) (by omega) (by omega) (by omega) (by omega) (by omega))
  obtain ⟨s0, s1, s2, s3⟩ := quad_at HX.out.1 (Below.refl _ _)
  clear HON
  generalize turn (ax, ay) (bx, b_y) (x, y) = tn at *
  generalize segOk ((ax, ay), (bx, b_y)) = q1 at *
  generalize (decide (min ax bx ≤ x) && (decide (x ≤ max ax bx) && (decide (min ay b_y ≤ y) && decide (y ≤ max ay b_y)))) = q2 at *
  generalize min ax bx = lx at *
  generalize min ay b_y = ly at *
  generalize max ax bx = hx at *
  generalize max ay b_y = hy at *
  have HBO := Lib.hid HBO0.out
  have HIB := Lib.hid (fun W => HIB0.out W)
  clear HBO0 HIB0
  cases q1
  · rw [Bool.false_and]
    clear HTU0
    go_enter Tryz.func195, Tryz.ntmps195
    go_wp2_with fail
    generalize (w.alloc (.cells #[.int .i64 ax, .int .i64 ay, .int .i64 bx, .int .i64 b_y] 74)).alloc (.cells #[.int .i64 x, .int .i64 y] 53) = W at *
    refine HBO.out.mono ?_
    rintro e w1 ⟨rfl, hb10⟩
    have hb1 := (one_vec W (.cells #[.int .i64 ax, .int .i64 ay, .int .i64 bx, .int .i64 b_y] 53)).1.trans (hb10.mono (Below.size (one_vec W (.cells #[.int .i64 ax, .int .i64 ay, .int .i64 bx, .int .i64 b_y] 53)).1))
    have HB1 := Lib.hid hb1
    have HO1 := Lib.hid (one_vec w1 (.cells #[.int .i64 lx, .int .i64 ly, .int .i64 hx, .int .i64 hy] 206))
    clear hb10 hb1 s0 s1 s2 s3
    go_upto_region 2 with fail
    generalize w1.alloc (.cells #[.int .i64 lx, .int .i64 ly, .int .i64 hx, .int .i64 hy] 206) = W1 at *
    have HB2 := Lib.hid (HB1.out.trans (HO1.out.1.mono (Below.size HB1.out)))
    obtain ⟨s0, s1, s2, s3⟩ := quad_at HX.out.1 HB2.out
    obtain ⟨p0, p1⟩ := pair_at HX.out.2 HB2.out
    obtain ⟨y0, y1, y2, y3⟩ := quad_at HO1.out.2 (Below.refl _ _)
    go_wp2_with fail
    refine (HSV.out _).mono ?_
    rintro e w2 ⟨rfl, hb2⟩
    have HB3 := Lib.hid (HB2.out.trans (hb2.mono (Below.size HB2.out)))
    have HY := Lib.hid (quad_at HO1.out.2 hb2)
    clear hb2 s0 s1 s2 s3 p0 p1 y0 y1 y2 y3
    go_wp2
    go_ret
    exact ⟨rfl, HB.out.trans (HB3.out.mono (Below.size HB.out))⟩
  · rw [Bool.true_and]
    cases q2
    · rw [Bool.false_and]
      clear HTU0
      go_enter Tryz.func195, Tryz.ntmps195
      go_wp2_with fail
      generalize (w.alloc (.cells #[.int .i64 ax, .int .i64 ay, .int .i64 bx, .int .i64 b_y] 74)).alloc (.cells #[.int .i64 x, .int .i64 y] 53) = W at *
      refine HBO.out.mono ?_
      rintro e w1 ⟨rfl, hb10⟩
      have hb1 := (one_vec W (.cells #[.int .i64 ax, .int .i64 ay, .int .i64 bx, .int .i64 b_y] 53)).1.trans (hb10.mono (Below.size (one_vec W (.cells #[.int .i64 ax, .int .i64 ay, .int .i64 bx, .int .i64 b_y] 53)).1))
      have HB1 := Lib.hid hb1
      have HO1 := Lib.hid (one_vec w1 (.cells #[.int .i64 lx, .int .i64 ly, .int .i64 hx, .int .i64 hy] 206))
      clear hb10 hb1 s0 s1 s2 s3
      go_upto_region 2 with fail
      generalize w1.alloc (.cells #[.int .i64 lx, .int .i64 ly, .int .i64 hx, .int .i64 hy] 206) = W1 at *
      have HB2 := Lib.hid (HB1.out.trans (HO1.out.1.mono (Below.size HB1.out)))
      obtain ⟨s0, s1, s2, s3⟩ := quad_at HX.out.1 HB2.out
      obtain ⟨p0, p1⟩ := pair_at HX.out.2 HB2.out
      obtain ⟨y0, y1, y2, y3⟩ := quad_at HO1.out.2 (Below.refl _ _)
      go_wp2_with fail
      refine (HSV.out _).mono ?_
      rintro e w2 ⟨rfl, hb2⟩
      have HB3 := Lib.hid (HB2.out.trans (hb2.mono (Below.size HB2.out)))
      have HY := Lib.hid (quad_at HO1.out.2 hb2)
      clear hb2 s0 s1 s2 s3 p0 p1 y0 y1 y2 y3
      obtain ⟨y0, y1, y2, y3⟩ := HY.out
      obtain ⟨p0, p1⟩ := pair_at HX.out.2 HB3.out
      go_wp2_with fail
      refine (HIB.out _).mono ?_
      rintro e w3 ⟨rfl, hb3⟩
      have HB4 := Lib.hid (HB3.out.trans (hb3.mono (Below.size HB3.out)))
      clear hb3 y0 y1 y2 y3 p0 p1
      go_wp2
      go_ret
      exact ⟨rfl, HB.out.trans (HB4.out.mono (Below.size HB.out))⟩
    · rw [Bool.true_and]
      have HTU := Lib.hid (HTU0.out rfl rfl)
      clear HTU0
      by_cases ht : tn = 0
      · have t2 : decide (tn = 0) = true := decide_eq_true ht
        rw [t2]
        clear t2
        subst ht
        go_enter Tryz.func195, Tryz.ntmps195
        go_wp2_with fail
        generalize (w.alloc (.cells #[.int .i64 ax, .int .i64 ay, .int .i64 bx, .int .i64 b_y] 74)).alloc (.cells #[.int .i64 x, .int .i64 y] 53) = W at *
        refine HBO.out.mono ?_
        rintro e w1 ⟨rfl, hb10⟩
        have hb1 := (one_vec W (.cells #[.int .i64 ax, .int .i64 ay, .int .i64 bx, .int .i64 b_y] 53)).1.trans (hb10.mono (Below.size (one_vec W (.cells #[.int .i64 ax, .int .i64 ay, .int .i64 bx, .int .i64 b_y] 53)).1))
        have HB1 := Lib.hid hb1
        have HO1 := Lib.hid (one_vec w1 (.cells #[.int .i64 lx, .int .i64 ly, .int .i64 hx, .int .i64 hy] 206))
        clear hb10 hb1 s0 s1 s2 s3
        go_upto_region 2 with fail
        generalize w1.alloc (.cells #[.int .i64 lx, .int .i64 ly, .int .i64 hx, .int .i64 hy] 206) = W1 at *
        have HB2 := Lib.hid (HB1.out.trans (HO1.out.1.mono (Below.size HB1.out)))
        obtain ⟨s0, s1, s2, s3⟩ := quad_at HX.out.1 HB2.out
        obtain ⟨p0, p1⟩ := pair_at HX.out.2 HB2.out
        obtain ⟨y0, y1, y2, y3⟩ := quad_at HO1.out.2 (Below.refl _ _)
        go_wp2_with fail
        refine (HSV.out _).mono ?_
        rintro e w2 ⟨rfl, hb2⟩
        have HB3 := Lib.hid (HB2.out.trans (hb2.mono (Below.size HB2.out)))
        have HY := Lib.hid (quad_at HO1.out.2 hb2)
        clear hb2 s0 s1 s2 s3 p0 p1 y0 y1 y2 y3
        obtain ⟨y0, y1, y2, y3⟩ := HY.out
        obtain ⟨p0, p1⟩ := pair_at HX.out.2 HB3.out
        go_wp2_with fail
        refine (HIB.out _).mono ?_
        rintro e w3 ⟨rfl, hb3⟩
        have HB4 := Lib.hid (HB3.out.trans (hb3.mono (Below.size HB3.out)))
        clear hb3 y0 y1 y2 y3 p0 p1
        obtain ⟨s0, s1, s2, s3⟩ := quad_at HX.out.1 HB4.out
        obtain ⟨p0, p1⟩ := pair_at HX.out.2 HB4.out
        go_wp2_with fail
        refine (HTU.out _).mono ?_
        rintro e w4 ⟨rfl, hb4⟩
        have HB5 := Lib.hid (HB4.out.trans (hb4.mono (Below.size HB4.out)))
        clear hb4
        go_wp2
        go_ret
        exact ⟨rfl, HB.out.trans (HB5.out.mono (Below.size HB.out))⟩
      · have t1 : (tn == 0) = false := beq_eq_false_iff_ne.2 ht
        have t2 : decide (tn = 0) = false := decide_eq_false ht
        have t3 : (tn = 0) = False := eq_false ht
        rw [t2]
        clear ht t2
        go_enter Tryz.func195, Tryz.ntmps195
        go_wp2_with fail
        generalize (w.alloc (.cells #[.int .i64 ax, .int .i64 ay, .int .i64 bx, .int .i64 b_y] 74)).alloc (.cells #[.int .i64 x, .int .i64 y] 53) = W at *
        refine HBO.out.mono ?_
        rintro e w1 ⟨rfl, hb10⟩
        have hb1 := (one_vec W (.cells #[.int .i64 ax, .int .i64 ay, .int .i64 bx, .int .i64 b_y] 53)).1.trans (hb10.mono (Below.size (one_vec W (.cells #[.int .i64 ax, .int .i64 ay, .int .i64 bx, .int .i64 b_y] 53)).1))
        have HB1 := Lib.hid hb1
        have HO1 := Lib.hid (one_vec w1 (.cells #[.int .i64 lx, .int .i64 ly, .int .i64 hx, .int .i64 hy] 206))
        clear hb10 hb1 s0 s1 s2 s3
        go_upto_region 2 with fail
        generalize w1.alloc (.cells #[.int .i64 lx, .int .i64 ly, .int .i64 hx, .int .i64 hy] 206) = W1 at *
        have HB2 := Lib.hid (HB1.out.trans (HO1.out.1.mono (Below.size HB1.out)))
        obtain ⟨s0, s1, s2, s3⟩ := quad_at HX.out.1 HB2.out
        obtain ⟨p0, p1⟩ := pair_at HX.out.2 HB2.out
        obtain ⟨y0, y1, y2, y3⟩ := quad_at HO1.out.2 (Below.refl _ _)
        go_wp2_with fail
        refine (HSV.out _).mono ?_
        rintro e w2 ⟨rfl, hb2⟩
        have HB3 := Lib.hid (HB2.out.trans (hb2.mono (Below.size HB2.out)))
        have HY := Lib.hid (quad_at HO1.out.2 hb2)
        clear hb2 s0 s1 s2 s3 p0 p1 y0 y1 y2 y3
        obtain ⟨y0, y1, y2, y3⟩ := HY.out
        obtain ⟨p0, p1⟩ := pair_at HX.out.2 HB3.out
        go_wp2_with fail
        refine (HIB.out _).mono ?_
        rintro e w3 ⟨rfl, hb3⟩
        have HB4 := Lib.hid (HB3.out.trans (hb3.mono (Below.size HB3.out)))
        clear hb3 y0 y1 y2 y3 p0 p1
        obtain ⟨s0, s1, s2, s3⟩ := quad_at HX.out.1 HB4.out
        obtain ⟨p0, p1⟩ := pair_at HX.out.2 HB4.out
        go_wp2_with fail
        refine (HTU.out _).mono ?_
        rintro e w4 ⟨rfl, hb4⟩
        have HB5 := Lib.hid (HB4.out.trans (hb4.mono (Below.size HB4.out)))
        clear hb4
        go_wp2
        go_ret
        exact ⟨rfl, HB.out.trans (HB5.out.mono (Below.size HB.out))⟩
end Go.Proofs.YtnmmhcchpcbeeaaGreat.GeW
