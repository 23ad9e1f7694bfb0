/- Walk: Most. Conditions: the numbers are small. -/
import Derived.Test.YtjjohllfidmkjaaDoorPfP1
import Derived.BigQuiet
import Derived.WalkLawsBesides
namespace Go.Proofs.YtjjohllfidmkjaaDoor.PfW
open Go Go.RowKit Go.Proofs.YtjjohllfidmkjaaDoor.Mem Go.Proofs.YtjjohllfidmkjaaDoor.Pf

theorem cell4 {w : World} {b : Nat} {x0 x1 x2 x3 : Value} {t : TypeId} (h : w.heap[b]? = some (.cells #[x0, x1, x2, x3] t (0, 0))) : w.cell? ⟨b, 0, none⟩ = some x0 ∧ w.cell? ⟨b, 1, none⟩ = some x1 ∧ w.cell? ⟨b, 2, none⟩ = some x2 ∧ w.cell? ⟨b, 3, none⟩ = some x3 := by
  refine ⟨?_, ?_, ?_, ?_⟩ <;> simp [World.cell?, h]
theorem mul_bd {a x : Int} (h1 : -1000 ≤ a) (h2 : a ≤ 1000) (h3 : 0 ≤ x) (h4 : x ≤ 9) : -9000 ≤ a * x ∧ a * x ≤ 9000 := by
  have hx : x = 0 ∨ x = 1 ∨ x = 2 ∨ x = 3 ∨ x = 4 ∨ x = 5 ∨ x = 6 ∨ x = 7 ∨ x = 8 ∨ x = 9 := by omega
  rcases hx with rfl | rfl | rfl | rfl | rfl | rfl | rfl | rfl | rfl | rfl <;> omega
theorem ret_int {k : IntKind} {a b : Int} (h : a = b) : Ending.returned (.int k a) = .returned (.int k b) := by rw [h]
def mx (a b : Int) : Int := if a < b then b else a
theorem mx_eq (a b : Int) : mx a b = max a b := by unfold mx; split <;> omega
set_option maxRecDepth 100000 in
set_option maxHeartbeats 2000000 in
theorem most_num (l0 l1 l2 h0 h1 h2 a b c d : Int) (A : Option Addr) (n cp : Nat) (w : World)
    (p0 : -9000 ≤ a * l0 ∧ a * l0 ≤ 9000) (p1 : -9000 ≤ a * h0 ∧ a * h0 ≤ 9000) (p2 : -9000 ≤ b * l1 ∧ b * l1 ≤ 9000) (p3 : -9000 ≤ b * h1 ∧ b * h1 ≤ 9000) (p4 : -9000 ≤ c * l2 ∧ c * l2 ≤ 9000) (p5 : -9000 ≤ c * h2 ∧ c * h2 ≤ 9000) :
    Calls Tryd.prog 65 #[.agg #[.int .i64 l0, .int .i64 l1, .int .i64 l2, .int .i64 h0, .int .i64 h1, .int .i64 h2, .slice A n cp], .agg #[.int .i64 a, .int .i64 b, .int .i64 c, .int .i64 d]] w
      fun e w' => e = .returned (.int .i64 (mx (a * l0) (a * h0) + mx (b * l1) (b * h1) + mx (c * l2) (c * h2))) ∧ Below w.heap.size w w' := by
  have HBB := Lib.hid (two_boxes w (.cells #[.int .i64 l0, .int .i64 l1, .int .i64 l2, .int .i64 h0, .int .i64 h1, .int .i64 h2, .slice A n cp] 25) (.cells #[.int .i64 a, .int .i64 b, .int .i64 c, .int .i64 d] 74))
  obtain ⟨x0, x1, x2, x3, x4, x5, x6⟩ := cell7 HBB.out.2.1
  obtain ⟨y0, y1, y2, y3⟩ := cell4 HBB.out.2.2
  obtain ⟨p0, p0'⟩ := p0
  obtain ⟨p1, p1'⟩ := p1
  obtain ⟨p2, p2'⟩ := p2
  obtain ⟨p3, p3'⟩ := p3
  obtain ⟨p4, p4'⟩ := p4
  obtain ⟨p5, p5'⟩ := p5
  by_cases c0 : a * l0 < a * h0
  all_goals by_cases c1 : b * l1 < b * h1
  all_goals by_cases c2 : c * l2 < c * h2
  all_goals
    go_enter Tryd.func65, Tryd.ntmps65
    go_wp2
    generalize (w.alloc (.cells #[.int .i64 l0, .int .i64 l1, .int .i64 l2, .int .i64 h0, .int .i64 h1, .int .i64 h2, .slice A n cp] 25)).alloc (.cells #[.int .i64 a, .int .i64 b, .int .i64 c, .int .i64 d] 74) = W at *
    refine wp_loop_rounds 4 ?_
    rw [rounds_succ]
    go_wp2
    go_quiet (fail)
    obtain ⟨na, rfl⟩ : ∃ na : Nat, na = nq := ⟨_, rfl⟩
    go_wp2
    rw [rounds_succ]
    go_wp2
    go_quiet (fail)
    obtain ⟨nb, rfl⟩ : ∃ nb : Nat, nb = nq := ⟨_, rfl⟩
    go_wp2
    rw [rounds_succ]
    go_wp2
    go_quiet (fail)
    go_wp2
    rw [rounds_succ]
    go_wp2
    go_ret
    exact ⟨ret_int (by rw [mx_eq, mx_eq, mx_eq]; omega), below_drewN HBB.out.1 _⟩
theorem most_any (s : Syst) (r : R4) (A : Option Addr) (cp : Nat) (w : World) (hb : Box s) (hr : Num r) :
    Calls Tryd.prog 65 #[sysV s A cp, .agg #[.int .i64 r.a, .int .i64 r.b, .int .i64 r.c, .int .i64 r.d]] w fun e w' => e = .returned (.int .i64 (most s r)) ∧ Below w.heap.size w w' := by
  have h1 := hb.a0; have h2 := hb.b0; have h3 := hb.c0; have h4 := hb.a1; have h5 := hb.b1; have h6 := hb.c1; have h7 := hb.a2; have h8 := hb.b2; have h9 := hb.c2
  refine (most_num s.l0 s.l1 s.l2 s.h0 s.h1 s.h2 r.a r.b r.c r.d A s.rows.length cp w (mul_bd hr.a0 hr.b0 h1 (by omega)) (mul_bd hr.a0 hr.b0 (by omega) h2) (mul_bd hr.a1 hr.b1 h4 (by omega)) (mul_bd hr.a1 hr.b1 (by omega) h5) (mul_bd hr.a2 hr.b2 h7 (by omega)) (mul_bd hr.a2 hr.b2 (by omega) h8)).mono ?_
  rintro e w' ⟨rfl, hb⟩
  refine ⟨ret_int ?_, hb⟩
  unfold most
  rw [mx_eq, mx_eq, mx_eq]
theorem most_bd {s : Syst} {r : R4} (hb : Box s) (hr : Num r) : -27000 ≤ most s r ∧ most s r ≤ 27000 := by
  have h1 := hb.a0; have h2 := hb.b0; have h3 := hb.c0; have h4 := hb.a1; have h5 := hb.b1; have h6 := hb.c1; have h7 := hb.a2; have h8 := hb.b2; have h9 := hb.c2
  have q1 := mul_bd hr.a0 hr.b0 h1 (by omega)
  have q2 := mul_bd hr.a0 hr.b0 (by omega) h2
  have q3 := mul_bd hr.a1 hr.b1 h4 (by omega)
  have q4 := mul_bd hr.a1 hr.b1 (by omega) h5
  have q5 := mul_bd hr.a2 hr.b2 h7 (by omega)
  have q6 := mul_bd hr.a2 hr.b2 (by omega) h8
  unfold most
  omega
end Go.Proofs.YtjjohllfidmkjaaDoor.PfW
