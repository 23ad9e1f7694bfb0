/- Walk: how two segments on lines that are not parallel meet. Conditions: the coordinates are at most 4000. -/
import Derived.Test.YtnmmhcchpcbeeaaGreatGeX
import Derived.IntWalk
import Derived.BigQuiet

namespace Go.Proofs.YtnmmhcchpcbeeaaGreat.GeW
open Go Go.RowKit Go.Proofs.YtnmmhcchpcbeeaaGreat.Mem Go.Proofs.YtnmmhcchpcbeeaaGreat.Ge
attribute [local go_sem ↓] Go.wp_at_zero Go.wp_at_succ
theorem bel_alloc {a w : World} (h : Below a.heap.size a w) (o : Obj) : Below a.heap.size a (w.alloc o) := h.alloc h.size o
theorem fresh1 {W w : World} {o : Obj} (h : Below ((W.alloc o).drew).heap.size ((W.alloc o).drew) w) : w.heap[W.heap.size]? = some o := (h.block _ (lt_of_block (w := (W.alloc o).drew) (heap_alloc_new W o))).trans (heap_alloc_new W o)
theorem fresh1' {W w : World} {o : Obj} (h : Below (W.alloc o).heap.size (W.alloc o) w) : w.heap[W.heap.size]? = some o := (h.block _ (lt_of_block (heap_alloc_new W o))).trans (heap_alloc_new W o)
theorem fresh2 {W w : World} {o o' : Obj} (h : Below (((W.alloc o).alloc o').drew).heap.size (((W.alloc o).alloc o').drew) w) : w.heap[W.heap.size]? = some o ∧ w.heap[W.heap.size + 1]? = some o' := ⟨(h.block _ (lt_of_block (w := ((W.alloc o).alloc o').drew) (two_vecs W o o').1)).trans (two_vecs W o o').1, (h.block _ (lt_of_block (w := ((W.alloc o).alloc o').drew) (two_vecs W o o').2)).trans (two_vecs W o o').2⟩
theorem fresh2' {W w : World} {o o' : Obj} (h : Below ((W.alloc o).alloc o').heap.size ((W.alloc o).alloc o') w) : w.heap[W.heap.size]? = some o ∧ w.heap[W.heap.size + 1]? = some o' := ⟨(h.block _ (lt_of_block (two_vecs W o o').1)).trans (two_vecs W o o').1, (h.block _ (lt_of_block (two_vecs W o o').2)).trans (two_vecs W o o').2⟩
theorem older {w w' : World} {b : Nat} {o : Obj} (h : w.heap[b]? = some o) (hb : Below w.heap.size w w') : w'.heap[b]? = some o := (hb.block b (lt_of_block h)).trans h
theorem pairs_on {w w' : World} {g1 g2 : Nat} {a b c d : Value} (h : (w.cell? ⟨g1, 0, none⟩ = some a ∧ w.cell? ⟨g1, 1, none⟩ = some b ∧ g1 < w.heap.size) ∧ (w.cell? ⟨g2, 0, none⟩ = some c ∧ w.cell? ⟨g2, 1, none⟩ = some d ∧ g2 < w.heap.size)) (hb : Below w.heap.size w w') : (w'.cell? ⟨g1, 0, none⟩ = some a ∧ w'.cell? ⟨g1, 1, none⟩ = some b ∧ g1 < w'.heap.size) ∧ (w'.cell? ⟨g2, 0, none⟩ = some c ∧ w'.cell? ⟨g2, 1, none⟩ = some d ∧ g2 < w'.heap.size) := by
  obtain ⟨⟨h1, h2, h3⟩, h4, h5, h6⟩ := h
  have hz := Below.size hb
  exact ⟨⟨(hb.cell (p := ⟨g1, 0, none⟩) h3).trans h1, (hb.cell (p := ⟨g1, 1, none⟩) h3).trans h2, by omega⟩, (hb.cell (p := ⟨g2, 0, none⟩) h6).trans h4, (hb.cell (p := ⟨g2, 1, none⟩) h6).trans h5, by omega⟩
set_option maxRecDepth 100000 in
theorem divisor_all (a b : Int) (w : World) (ha : a.natAbs ≤ 1000000000000000) (hb : b.natAbs ≤ 1000000000000000) :
    Calls Tryz.prog 199 #[.int .i64 a, .int .i64 b] w fun e w' => (∃ g : Int, e = .returned (.int .i64 g) ∧ 0 ≤ g ∧ g ≤ 1000000000000000 ∧ (a ≠ 0 ∨ b ≠ 0 → 1 ≤ g)) ∧ Below w.heap.size w w' := by
  by_cases hne : a ≠ 0 ∨ b ≠ 0
  · refine (divisor_any a b w ha hb hne).mono ?_
    rintro e w' ⟨⟨g, rfl, h1, h2⟩, h3⟩
    exact ⟨⟨g, rfl, by omega, h2, fun _ => h1⟩, h3⟩
  · have a0 : a = 0 := by omega
    have b0 : b = 0 := by omega
    subst a0
    subst b0
    go_enter Tryz.func199, Tryz.ntmps199
    go_wp2
    go_loopw [0, 1] (fun u v wr => u = .int .i64 0 ∧ v = .int .i64 0 ∧ Hid (Below w.heap.size w wr)) (fun _ v _ => (intOf v).natAbs)
    case atStart => exact ⟨rfl, rfl, Lib.hid (Below.refl _ _)⟩
    case round =>
      obtain ⟨rfl, rfl, HB⟩ := hrel
      clear ha hb hne
      go_wp2
      go_ret
      exact ⟨⟨_, rfl, by omega, by omega, fun h => by omega⟩, HB.out⟩
theorem mul8 {x y : Int} (hx : -8000 ≤ x ∧ x ≤ 8000) (hy : -8000 ≤ y ∧ y ≤ 8000) : -64000000 ≤ x * y ∧ x * y ≤ 64000000 := by
  have h : (x * y).natAbs ≤ 8000 * 8000 := by
    rw [Int.natAbs_mul]
    exact Nat.mul_le_mul (by omega) (by omega)
  omega
theorem cross_le {x y u v : Int} (hx : -8000 ≤ x ∧ x ≤ 8000) (hy : -8000 ≤ y ∧ y ≤ 8000) (hu : -8000 ≤ u ∧ u ≤ 8000) (hv : -8000 ≤ v ∧ v ≤ 8000) : -128000000 ≤ cross (x, y) (u, v) ∧ cross (x, y) (u, v) ≤ 128000000 := by
  have h1 := mul8 hx hv
  have h2 := mul8 hy hu
  unfold cross
  simp only
  omega
theorem cross_any8 (x y u v : Int) (w : World) (hx : -8000 ≤ x ∧ x ≤ 8000) (hy : -8000 ≤ y ∧ y ≤ 8000) (hu : -8000 ≤ u ∧ u ≤ 8000) (hv : -8000 ≤ v ∧ v ≤ 8000) :
    Calls Tryz.prog 149 #[.agg #[.int .i64 x, .int .i64 y], .agg #[.int .i64 u, .int .i64 v]] w fun e w' => e = .returned (.int .i64 (cross (x, y) (u, v))) ∧ Below w.heap.size w w' := by
  have h1 := mul8 hx hv
  have h2 := mul8 hy hu
  exact cross_any x y u v w (by omega) (by omega)
def linesL (a b d : Int) : Int := if a < 0 ∨ d < a ∨ b < 0 ∨ d < b then 0 else if a = 0 ∨ a = d ∨ b = 0 ∨ b = d then 1 else 2
theorem mulm {x y m n : Int} (hx : -m ≤ x ∧ x ≤ m) (hy : -n ≤ y ∧ y ≤ n) : -(m * n) ≤ x * y ∧ x * y ≤ m * n := by
  have h : (x * y).natAbs ≤ m.natAbs * n.natAbs := by
    rw [Int.natAbs_mul]
    exact Nat.mul_le_mul (by omega) (by omega)
  have e : ((m.natAbs * n.natAbs : Nat) : Int) = m * n := by
    rw [Int.natCast_mul, Int.natAbs_of_nonneg (by omega), Int.natAbs_of_nonneg (by omega)]
  omega
theorem below_of_alloc {W w : World} {o : Obj} (h : Below (W.alloc o).heap.size (W.alloc o) w) : Below W.heap.size W w := ((Below.refl W.heap.size W).alloc (Nat.le_refl _) o).trans (h.mono (by rw [World.size_alloc]; omega))
theorem two_facts {w : World} {b : Nat} {x y : Value} {t : TypeId} (h : w.heap[b]? = some (.cells #[x, y] t (0, 0))) : w.cell? ⟨b, 0, none⟩ = some x ∧ w.cell? ⟨b, 1, none⟩ = some y ∧ w.frozen? ⟨b, 0, none⟩ = false ∧ w.frozen? ⟨b, 1, none⟩ = false ∧ b < w.heap.size := ⟨by simp [World.cell?, h], by simp [World.cell?, h], by simp [World.frozen?, h], by simp [World.frozen?, h], lt_of_block h⟩
theorem bel_set {a w : World} {p : Addr} (h : Below a.heap.size a w) (hp : a.heap.size ≤ p.block) (v : Value) : Below a.heap.size a (w.setCell p v) := h.setCell hp v
set_option maxRecDepth 100000 in
set_option maxHeartbeats 8000000 in
theorem lines_any (ax ay bx b_y cx cy dx dy d : Int) (w : World) (h1 : -4000 ≤ ax ∧ ax ≤ 4000) (h2 : -4000 ≤ ay ∧ ay ≤ 4000) (h3 : -4000 ≤ bx ∧ bx ≤ 4000) (h4 : -4000 ≤ b_y ∧ b_y ≤ 4000) (h5 : -4000 ≤ cx ∧ cx ≤ 4000) (h6 : -4000 ≤ cy ∧ cy ≤ 4000) (h7 : -4000 ≤ dx ∧ dx ≤ 4000) (h8 : -4000 ≤ dy ∧ dy ≤ 4000) (hd : -1000000000 ≤ d ∧ d ≤ 1000000000) (hn : d ≠ 0) :
    Calls Tryz.prog 194 #[.agg #[.int .i64 ax, .int .i64 ay, .int .i64 bx, .int .i64 b_y], .agg #[.int .i64 cx, .int .i64 cy, .int .i64 dx, .int .i64 dy], .int .i64 d] w fun e w' => (∃ v, e = .returned v ∧ Common (linesK ((ax, ay), (bx, b_y)) ((cx, cy), (dx, dy)) d) v) ∧ Below w.heap.size w w' := by
  have HU := Lib.hid (fun W => sub_any bx b_y ax ay W (by omega) (by omega) (by omega) (by omega))
  have HV := Lib.hid (fun W => sub_any dx dy cx cy W (by omega) (by omega) (by omega) (by omega))
  have HG := Lib.hid (fun W => sub_any cx cy ax ay W (by omega) (by omega) (by omega) (by omega))
  have HX := Lib.hid (three_vecs w (.cells #[.int .i64 ax, .int .i64 ay, .int .i64 bx, .int .i64 b_y] 74) (.cells #[.int .i64 cx, .int .i64 cy, .int .i64 dx, .int .i64 dy] 74) (.cells #[.int .i64 0, .int .i64 0, .int .i64 0, .int .i64 0, .int .i64 0, .int .i64 0, .int .i64 0, .int .i64 0] 160))
  obtain ⟨A, HA⟩ : ∃ A, Hid (A = cross (cx - ax, cy - ay) (dx - cx, dy - cy)) := ⟨_, Lib.hid rfl⟩
  obtain ⟨B, HB⟩ : ∃ B, Hid (B = cross (cx - ax, cy - ay) (bx - ax, b_y - ay)) := ⟨_, Lib.hid rfl⟩
  have HAb : Hid (-128000000 ≤ A ∧ A ≤ 128000000) := Lib.hid (by rw [HA.out]; exact cross_le (by omega) (by omega) (by omega) (by omega))
  have HBb : Hid (-128000000 ≤ B ∧ B ≤ 128000000) := Lib.hid (by rw [HB.out]; exact cross_le (by omega) (by omega) (by omega) (by omega))
  have HCA := Lib.hid (fun W => cross_any8 (cx - ax) (cy - ay) (dx - cx) (dy - cy) W (by omega) (by omega) (by omega) (by omega))
  have HCB := Lib.hid (fun W => cross_any8 (cx - ax) (cy - ay) (bx - ax) (b_y - ay) W (by omega) (by omega) (by omega) (by omega))
  rw [← HA.out] at HCA
  rw [← HB.out] at HCB
  have HK : Hid (linesK ((ax, ay), (bx, b_y)) ((cx, cy), (dx, dy)) d = linesL (if d < 0 then -A else A) (if d < 0 then -B else B) (if d < 0 then -d else d)) := Lib.hid (by rw [HA.out, HB.out]; rfl)
  go_enter Tryz.func194, Tryz.ntmps194
  go_upto_region 1 with fail
  generalize ((w.alloc (.cells #[.int .i64 ax, .int .i64 ay, .int .i64 bx, .int .i64 b_y] 74)).alloc (.cells #[.int .i64 cx, .int .i64 cy, .int .i64 dx, .int .i64 dy] 74)).alloc (.cells #[.int .i64 0, .int .i64 0, .int .i64 0, .int .i64 0, .int .i64 0, .int .i64 0, .int .i64 0, .int .i64 0] 160) = W at *
  have CS : Hid (∀ w', Below W.heap.size W w' → w'.cell? ⟨w.heap.size, 0, none⟩ = some (.int .i64 ax) ∧ w'.cell? ⟨w.heap.size, 1, none⟩ = some (.int .i64 ay) ∧ w'.cell? ⟨w.heap.size, 2, none⟩ = some (.int .i64 bx) ∧ w'.cell? ⟨w.heap.size, 3, none⟩ = some (.int .i64 b_y) ∧ w'.cell? ⟨w.heap.size + 1, 0, none⟩ = some (.int .i64 cx) ∧ w'.cell? ⟨w.heap.size + 1, 1, none⟩ = some (.int .i64 cy) ∧ w'.cell? ⟨w.heap.size + 1, 2, none⟩ = some (.int .i64 dx) ∧ w'.cell? ⟨w.heap.size + 1, 3, none⟩ = some (.int .i64 dy) ∧ Below W.heap.size W w') := Lib.hid (fun w' hb => by
    obtain ⟨s0, s1, s2, s3⟩ := quad_at HX.out.1 hb
    obtain ⟨t0, t1, t2, t3⟩ := quad_at HX.out.2.1 hb
    exact ⟨s0, s1, s2, s3, t0, t1, t2, t3, hb⟩)
  obtain ⟨q0, q1, q2, q3, q4, q5, q6, q7, q8⟩ := CS.out W (Below.refl _ _)
  go_cut [7, 8] from 16 to 25 (fun p q wc => ∃ b1 b2, p = .pointer (some ⟨b1, 0, none⟩) ∧ q = .pointer (some ⟨b2, 0, none⟩) ∧ (wc.cell? ⟨b1, 0, none⟩ = some (.int .i64 (bx - ax)) ∧ wc.cell? ⟨b1, 1, none⟩ = some (.int .i64 (b_y - ay)) ∧ b1 < wc.heap.size) ∧ (wc.cell? ⟨b2, 0, none⟩ = some (.int .i64 (dx - cx)) ∧ wc.cell? ⟨b2, 1, none⟩ = some (.int .i64 (dy - cy)) ∧ b2 < wc.heap.size) ∧ Below W.heap.size W wc)
  case first =>
    go_wp2_with fail
    have tok1 := Lib.hid trivial
    go_region_held3 (fun w' => w'.cell? ⟨w.heap.size, 0, none⟩ = some (.int .i64 ax) ∧ w'.cell? ⟨w.heap.size, 1, none⟩ = some (.int .i64 ay) ∧ w'.cell? ⟨w.heap.size, 2, none⟩ = some (.int .i64 bx) ∧ w'.cell? ⟨w.heap.size, 3, none⟩ = some (.int .i64 b_y) ∧ w'.cell? ⟨w.heap.size + 1, 0, none⟩ = some (.int .i64 cx) ∧ w'.cell? ⟨w.heap.size + 1, 1, none⟩ = some (.int .i64 cy) ∧ w'.cell? ⟨w.heap.size + 1, 2, none⟩ = some (.int .i64 dx) ∧ w'.cell? ⟨w.heap.size + 1, 3, none⟩ = some (.int .i64 dy) ∧ Below W.heap.size W w')
      (first | assumption | exact CS.out _ (by (repeat (with_reducible first | assumption | exact Below.refl _ _ | refine below_drew ?_ | refine bel_alloc ?_ _ | (refine bel_set ?_ (by simp <;> omega) _)))))
      (first
       | (go_at_call 94; clear tok1; obtain ⟨_, _, _, _, _, _, _, _, hbx⟩ := ‹_ ∧ _ ∧ _ ∧ _ ∧ _ ∧ _ ∧ _ ∧ _ ∧ Below _ _ _›; refine (HU.out _).mono ?_; rintro e w6 ⟨rfl, hb60⟩; have hb6 : Below W.heap.size W w6 := hbx.trans (hb60.mono (Below.size hbx)); have hz6 := Below.size hb6; (first | (have n12 := fresh2 hb60; obtain ⟨n1, n2⟩ := n12; have k1 := lt_of_block n1; have k2 := lt_of_block n2) | (have n1 := fresh1 hb60; have k1 := lt_of_block n1) | skip))
       | (go_at_call 94; obtain ⟨_, _, _, _, _, _, _, _, hbx⟩ := ‹_ ∧ _ ∧ _ ∧ _ ∧ _ ∧ _ ∧ _ ∧ _ ∧ Below _ _ _›; refine (HV.out _).mono ?_; rintro e w7 ⟨rfl, hb70⟩; have hb7 : Below W.heap.size W w7 := hbx.trans (hb70.mono (Below.size hbx)); have hz7 := Below.size hb7; (first | (have l12 := fresh2' hb70; obtain ⟨l1, l2⟩ := l12; have l1f := two_facts l1; obtain ⟨d0, d1, d2, d3, d4⟩ := l1f; have l2f := two_facts l2; obtain ⟨d0', d1', d2', d3', d4'⟩ := l2f) | (have l1 := fresh1' hb70; have l1f := two_facts l1; obtain ⟨d0, d1, d2, d3, d4⟩ := l1f) | skip); (first | (have o1 := two_facts (older n1 hb70); obtain ⟨c0, c1, c2, c3, c4⟩ := o1) | (have o1 := two_facts (older n1 (below_of_alloc hb70)); obtain ⟨c0, c1, c2, c3, c4⟩ := o1) | skip); (first | (have o2 := two_facts (older n2 hb70); obtain ⟨e0, e1, e2, e3, e4⟩ := o2) | skip)))
    all_goals
      go_wp2_with fail
      go_meet
    all_goals
      refine ⟨_, _, rfl, rfl, ⟨?_, ?_, ?_⟩, ⟨?_, ?_, ?_⟩, ?_⟩
      all_goals first | (repeat (with_reducible first | assumption | exact Below.refl _ _ | refine below_drew ?_ | refine bel_alloc ?_ _ | (refine bel_set ?_ (by simp <;> omega) _))) | skip
    all_goals try (go_simp; done)
  case rest =>
    obtain ⟨g1, g2, rfl, rfl, ua, va, HBC0⟩ := hcut
    have HBC := Lib.hid HBC0
    have UV := Lib.hid (And.intro ua va)
    obtain ⟨_, _, _, _, _, _, _, _, _⟩ := CS.out wc HBC0
    clear HBC0 ua va
    go_wp2_with fail
    refine (HG.out _).mono ?_
    rintro e w8 ⟨rfl, hb80⟩
    have HB8 := Lib.hid (HBC.out.trans (hb80.mono (Below.size HBC.out)))
    have UV8 : Hid ((w8.cell? ⟨g1, 0, none⟩ = some (.int .i64 (bx - ax)) ∧ w8.cell? ⟨g1, 1, none⟩ = some (.int .i64 (b_y - ay)) ∧ g1 < w8.heap.size) ∧ (w8.cell? ⟨g2, 0, none⟩ = some (.int .i64 (dx - cx)) ∧ w8.cell? ⟨g2, 1, none⟩ = some (.int .i64 (dy - cy)) ∧ g2 < w8.heap.size)) := Lib.hid (pairs_on UV.out hb80)
    have HO8 := Lib.hid (one_vec w8 (.cells #[.int .i64 (cx - ax), .int .i64 (cy - ay)] 53))
    clear hb80
    go_upto_region 3 with fail
    generalize w8.alloc (.cells #[.int .i64 (cx - ax), .int .i64 (cy - ay)] 53) = W9 at *
    have HB9 := Lib.hid (HB8.out.trans (HO8.out.1.mono (Below.size HB8.out)))
    have UV9 := Lib.hid (pairs_on UV8.out HO8.out.1)
    have CS9 : Hid (∀ w', Below W9.heap.size W9 w' → w'.cell? ⟨g1, 0, none⟩ = some (.int .i64 (bx - ax)) ∧ w'.cell? ⟨g1, 1, none⟩ = some (.int .i64 (b_y - ay)) ∧ w'.cell? ⟨g2, 0, none⟩ = some (.int .i64 (dx - cx)) ∧ w'.cell? ⟨g2, 1, none⟩ = some (.int .i64 (dy - cy)) ∧ w'.cell? ⟨w8.heap.size, 0, none⟩ = some (.int .i64 (cx - ax)) ∧ w'.cell? ⟨w8.heap.size, 1, none⟩ = some (.int .i64 (cy - ay)) ∧ Below W9.heap.size W9 w') := Lib.hid (fun w' hb => by
      obtain ⟨⟨e0, e1, _⟩, f0, f1, _⟩ := pairs_on UV9.out hb
      obtain ⟨g0, g1⟩ := pair_at HO8.out.2 hb
      exact ⟨e0, e1, f0, f1, g0, g1, hb⟩)
    obtain ⟨k0, k1, k2, k3, k4, k5, k6⟩ := CS9.out W9 (Below.refl _ _)
    go_cut [10, 11] from 31 to 36 (fun p q wx => p = .int .i64 A ∧ q = .int .i64 B ∧ Below W9.heap.size W9 wx)
    case first =>
      go_wp2_with fail
      have tok1 := Lib.hid trivial
      go_region_held3 (fun w' => w'.cell? ⟨g1, 0, none⟩ = some (.int .i64 (bx - ax)) ∧ w'.cell? ⟨g1, 1, none⟩ = some (.int .i64 (b_y - ay)) ∧ w'.cell? ⟨g2, 0, none⟩ = some (.int .i64 (dx - cx)) ∧ w'.cell? ⟨g2, 1, none⟩ = some (.int .i64 (dy - cy)) ∧ w'.cell? ⟨w8.heap.size, 0, none⟩ = some (.int .i64 (cx - ax)) ∧ w'.cell? ⟨w8.heap.size, 1, none⟩ = some (.int .i64 (cy - ay)) ∧ Below W9.heap.size W9 w')
        (first | assumption | exact CS9.out _ (by (repeat (with_reducible first | assumption | exact Below.refl _ _ | refine below_drew ?_ | refine bel_alloc ?_ _ | (refine bel_set ?_ (by simp <;> omega) _)))))
        (first
         | (go_at_call 149; clear tok1; obtain ⟨_, _, _, _, _, _, hbx⟩ := ‹_ ∧ _ ∧ _ ∧ _ ∧ _ ∧ _ ∧ Below _ _ _›; refine (HCA.out _).mono ?_; rintro e w10 ⟨rfl, hb100⟩; have hb10 : Below W9.heap.size W9 w10 := hbx.trans (hb100.mono (Below.size hbx)))
         | (go_at_call 149; obtain ⟨_, _, _, _, _, _, hbx⟩ := ‹_ ∧ _ ∧ _ ∧ _ ∧ _ ∧ _ ∧ Below _ _ _›; refine (HCB.out _).mono ?_; rintro e w11 ⟨rfl, hb110⟩; have hb11 : Below W9.heap.size W9 w11 := hbx.trans (hb110.mono (Below.size hbx))))
      all_goals
        go_wp2_with fail
        go_meet
      all_goals exact ⟨rfl, rfl, by assumption⟩
    case rest =>
      obtain ⟨rfl, rfl, hbc⟩ := hcut
      clear k0 k1 k2 k3 k4 k5 k6
      have HBT := Lib.hid (HB9.out.trans (hbc.mono (Below.size HB9.out)))
      have UVT := Lib.hid (pairs_on UV9.out hbc)
      clear hbc
      by_cases hneg : d < 0
      · have d1 : decide (d < 0) = true := decide_eq_true hneg
        have HK2 : Hid (linesK ((ax, ay), (bx, b_y)) ((cx, cy), (dx, dy)) d = linesL (-A) (-B) (-d)) := Lib.hid (by rw [HK.out, if_pos hneg, if_pos hneg, if_pos hneg])
        have HL : Hid ((-128000000 ≤ -A ∧ -A ≤ 128000000) ∧ (-128000000 ≤ -B ∧ -B ≤ 128000000) ∧ 1 ≤ -d ∧ -d ≤ 1000000000) := Lib.hid (by have := HAb.out; have := HBb.out; omega)
        have m1 : -128000000 ≤ A ∧ A ≤ 128000000 := HAb.out
        have m2 : -128000000 ≤ B ∧ B ≤ 128000000 := HBb.out
        clear HK
        go_upto_region 6 with fail
        clear d1 hneg hd hn m1 m2
        generalize -A = a at *
        generalize -B = b at *
        generalize -d = e at *
        obtain ⟨ha, hb, he⟩ := HL.out
        by_cases q1 : a < 0
        · have kq1 : decide (a < 0) = true := decide_eq_true q1
          have HK3 : Hid (linesL a b e = 0) := Lib.hid (by unfold linesL; rw [if_pos (by omega)])
          obtain ⟨⟨c0, c1, c2, c3, c4, c5, c6, c7⟩, hf, hz⟩ := oct_at HX.out.2.2.1 HBT.out
          have f0 := hf 0
          have f1 := hf 1
          have f2 := hf 2
          have f3 := hf 3
          have f4 := hf 4
          have f5 := hf 5
          have f6 := hf 6
          have f7 := hf 7
          clear hf
          go_wp2
          refine bodyPost_ret (v := .agg #[.int .i64 0, .int .i64 0, .int .i64 0, .int .i64 0, .int .i64 0, .int .i64 0, .int .i64 0, .int .i64 0]) (by simp [results, Tryz.results194, go_sem, c0, c1, c2, c3, c4, c5, c6, c7]) rfl ⟨⟨_, rfl, ?_⟩, ?_⟩
          · rw [HK2.out, HK3.out]
            exact ⟨_, _, _, _, _, _, _, rfl⟩
          · have HBX := Lib.hid (HX.out.2.2.2.trans (HBT.out.mono (Below.size HX.out.2.2.2)))
            exact ((((((((HBX.out.setCell (show w.heap.size ≤ w.heap.size + 1 + 1 by omega) _).setCell (show w.heap.size ≤ w.heap.size + 1 + 1 by omega) _).setCell (show w.heap.size ≤ w.heap.size + 1 + 1 by omega) _).setCell (show w.heap.size ≤ w.heap.size + 1 + 1 by omega) _).setCell (show w.heap.size ≤ w.heap.size + 1 + 1 by omega) _).setCell (show w.heap.size ≤ w.heap.size + 1 + 1 by omega) _).setCell (show w.heap.size ≤ w.heap.size + 1 + 1 by omega) _).setCell (show w.heap.size ≤ w.heap.size + 1 + 1 by omega) _)
        have kq1 : decide (a < 0) = false := decide_eq_false q1
        by_cases q2 : e < a
        · have kq2 : decide (e < a) = true := decide_eq_true q2
          have HK3 : Hid (linesL a b e = 0) := Lib.hid (by unfold linesL; rw [if_pos (by omega)])
          obtain ⟨⟨c0, c1, c2, c3, c4, c5, c6, c7⟩, hf, hz⟩ := oct_at HX.out.2.2.1 HBT.out
          have f0 := hf 0
          have f1 := hf 1
          have f2 := hf 2
          have f3 := hf 3
          have f4 := hf 4
          have f5 := hf 5
          have f6 := hf 6
          have f7 := hf 7
          clear hf
          go_wp2
          refine bodyPost_ret (v := .agg #[.int .i64 0, .int .i64 0, .int .i64 0, .int .i64 0, .int .i64 0, .int .i64 0, .int .i64 0, .int .i64 0]) (by simp [results, Tryz.results194, go_sem, c0, c1, c2, c3, c4, c5, c6, c7]) rfl ⟨⟨_, rfl, ?_⟩, ?_⟩
          · rw [HK2.out, HK3.out]
            exact ⟨_, _, _, _, _, _, _, rfl⟩
          · have HBX := Lib.hid (HX.out.2.2.2.trans (HBT.out.mono (Below.size HX.out.2.2.2)))
            exact ((((((((HBX.out.setCell (show w.heap.size ≤ w.heap.size + 1 + 1 by omega) _).setCell (show w.heap.size ≤ w.heap.size + 1 + 1 by omega) _).setCell (show w.heap.size ≤ w.heap.size + 1 + 1 by omega) _).setCell (show w.heap.size ≤ w.heap.size + 1 + 1 by omega) _).setCell (show w.heap.size ≤ w.heap.size + 1 + 1 by omega) _).setCell (show w.heap.size ≤ w.heap.size + 1 + 1 by omega) _).setCell (show w.heap.size ≤ w.heap.size + 1 + 1 by omega) _).setCell (show w.heap.size ≤ w.heap.size + 1 + 1 by omega) _)
        have kq2 : decide (e < a) = false := decide_eq_false q2
        by_cases q3 : b < 0
        · have kq3 : decide (b < 0) = true := decide_eq_true q3
          have HK3 : Hid (linesL a b e = 0) := Lib.hid (by unfold linesL; rw [if_pos (by omega)])
          obtain ⟨⟨c0, c1, c2, c3, c4, c5, c6, c7⟩, hf, hz⟩ := oct_at HX.out.2.2.1 HBT.out
          have f0 := hf 0
          have f1 := hf 1
          have f2 := hf 2
          have f3 := hf 3
          have f4 := hf 4
          have f5 := hf 5
          have f6 := hf 6
          have f7 := hf 7
          clear hf
          go_wp2
          refine bodyPost_ret (v := .agg #[.int .i64 0, .int .i64 0, .int .i64 0, .int .i64 0, .int .i64 0, .int .i64 0, .int .i64 0, .int .i64 0]) (by simp [results, Tryz.results194, go_sem, c0, c1, c2, c3, c4, c5, c6, c7]) rfl ⟨⟨_, rfl, ?_⟩, ?_⟩
          · rw [HK2.out, HK3.out]
            exact ⟨_, _, _, _, _, _, _, rfl⟩
          · have HBX := Lib.hid (HX.out.2.2.2.trans (HBT.out.mono (Below.size HX.out.2.2.2)))
            exact ((((((((HBX.out.setCell (show w.heap.size ≤ w.heap.size + 1 + 1 by omega) _).setCell (show w.heap.size ≤ w.heap.size + 1 + 1 by omega) _).setCell (show w.heap.size ≤ w.heap.size + 1 + 1 by omega) _).setCell (show w.heap.size ≤ w.heap.size + 1 + 1 by omega) _).setCell (show w.heap.size ≤ w.heap.size + 1 + 1 by omega) _).setCell (show w.heap.size ≤ w.heap.size + 1 + 1 by omega) _).setCell (show w.heap.size ≤ w.heap.size + 1 + 1 by omega) _).setCell (show w.heap.size ≤ w.heap.size + 1 + 1 by omega) _)
        have kq3 : decide (b < 0) = false := decide_eq_false q3
        by_cases q4 : e < b
        · have kq4 : decide (e < b) = true := decide_eq_true q4
          have HK3 : Hid (linesL a b e = 0) := Lib.hid (by unfold linesL; rw [if_pos (by omega)])
          obtain ⟨⟨c0, c1, c2, c3, c4, c5, c6, c7⟩, hf, hz⟩ := oct_at HX.out.2.2.1 HBT.out
          have f0 := hf 0
          have f1 := hf 1
          have f2 := hf 2
          have f3 := hf 3
          have f4 := hf 4
          have f5 := hf 5
          have f6 := hf 6
          have f7 := hf 7
          clear hf
          go_wp2
          refine bodyPost_ret (v := .agg #[.int .i64 0, .int .i64 0, .int .i64 0, .int .i64 0, .int .i64 0, .int .i64 0, .int .i64 0, .int .i64 0]) (by simp [results, Tryz.results194, go_sem, c0, c1, c2, c3, c4, c5, c6, c7]) rfl ⟨⟨_, rfl, ?_⟩, ?_⟩
          · rw [HK2.out, HK3.out]
            exact ⟨_, _, _, _, _, _, _, rfl⟩
          · have HBX := Lib.hid (HX.out.2.2.2.trans (HBT.out.mono (Below.size HX.out.2.2.2)))
            exact ((((((((HBX.out.setCell (show w.heap.size ≤ w.heap.size + 1 + 1 by omega) _).setCell (show w.heap.size ≤ w.heap.size + 1 + 1 by omega) _).setCell (show w.heap.size ≤ w.heap.size + 1 + 1 by omega) _).setCell (show w.heap.size ≤ w.heap.size + 1 + 1 by omega) _).setCell (show w.heap.size ≤ w.heap.size + 1 + 1 by omega) _).setCell (show w.heap.size ≤ w.heap.size + 1 + 1 by omega) _).setCell (show w.heap.size ≤ w.heap.size + 1 + 1 by omega) _).setCell (show w.heap.size ≤ w.heap.size + 1 + 1 by omega) _)
        have kq4 : decide (e < b) = false := decide_eq_false q4
        have ax1 := mulm (x := ax) (y := e) (m := 4000) (n := 1000000000) (by omega) (by omega)
        have ay1 := mulm (x := ay) (y := e) (m := 4000) (n := 1000000000) (by omega) (by omega)
        have ux1 := mulm (x := a) (y := bx - ax) (m := 128000000) (n := 8000) (by omega) (by omega)
        have uy1 := mulm (x := a) (y := b_y - ay) (m := 128000000) (n := 8000) (by omega) (by omega)
        obtain ⟨X, HXX⟩ : ∃ X, Hid (X = ax * e + a * (bx - ax)) := ⟨_, Lib.hid rfl⟩
        obtain ⟨Y, HYY⟩ : ∃ Y, Hid (Y = ay * e + a * (b_y - ay)) := ⟨_, Lib.hid rfl⟩
        have HXB : Hid (X.natAbs ≤ 1000000000000000 ∧ Y.natAbs ≤ 1000000000000000) := Lib.hid (by rw [HXX.out, HYY.out]; omega)
        have w1 : IntKind.i64.wrap (ax * e) = ax * e := IntWalk.i64_in _ (by omega)
        have w2 : IntKind.i64.wrap (ay * e) = ay * e := IntWalk.i64_in _ (by omega)
        have w3 : IntKind.i64.wrap (a * (bx - ax)) = a * (bx - ax) := IntWalk.i64_in _ (by omega)
        have w4 : IntKind.i64.wrap (a * (b_y - ay)) = a * (b_y - ay) := IntWalk.i64_in _ (by omega)
        have w5 : IntKind.i64.wrap (ax * e + a * (bx - ax)) = X := (IntWalk.i64_in _ (by omega)).trans HXX.out.symm
        have w6 : IntKind.i64.wrap (ay * e + a * (b_y - ay)) = Y := (IntWalk.i64_in _ (by omega)).trans HYY.out.symm
        clear ax1 ay1 ux1 uy1 HXX HYY
        obtain ⟨⟨k0, k1, _⟩, _⟩ := UVT.out
        obtain ⟨_, _, _, _, _, _, _, _, _⟩ := CS.out wc HBT.out
        go_wp2
        go_quiet (fail)
        clear w1 w2 w3 w4 w5 w6 k0 k1
        have HDV := Lib.hid (fun W => divisor_all X Y W HXB.out.1 HXB.out.2)
        have HTQ := Lib.hid (Go.Proofs.YtnmmhcchpcbeeaaGreat.Mem.below_drewN HBT.out nq)
        generalize wc.drewN nq = wd at *
        go_wp2_with fail
        refine (HDV.out _).mono ?_
        rintro en1 w12 ⟨⟨h, rfl, hh1, hh2, _⟩, hb12⟩
        have HBU := Lib.hid (HTQ.out.trans (hb12.mono (Below.size HTQ.out)))
        have HDW := Lib.hid (fun W => divisor_any h e W (by omega) (by omega) (Or.inr (by omega)))
        go_wp2_with fail
        refine (HDW.out _).mono ?_
        rintro en2 w13 ⟨⟨g, rfl, hg1, hg2⟩, hb13⟩
        have HBV := Lib.hid (HBU.out.trans (hb13.mono (Below.size HBU.out)))
        clear hb12 hb13
        have g0 : (g == 0) = false := beq_eq_false_iff_ne.2 (by omega)
        have g00 : (g = 0) = False := eq_false (by omega)
        go_upto_region 10 with fail
        go_region_held3 (fun w' => Below w13.heap.size w13 w')
          (first | assumption | (repeat (with_reducible first | assumption | exact Below.refl _ _ | refine below_drew ?_ | refine bel_alloc ?_ _ | (refine bel_set ?_ (by simp <;> omega) _))))
          (fail)
        generalize IntKind.i64.wrap (X.tdiv g) = px at *
        generalize IntKind.i64.wrap (Y.tdiv g) = py at *
        generalize IntKind.i64.wrap (e.tdiv g) = pz at *
        clear g0 g00
        obtain ⟨⟨c0, c1, c2, c3, c4, c5, c6, c7⟩, hf, hz⟩ := oct_at HX.out.2.2.1 HBV.out
        have f0 := hf 0
        have f1 := hf 1
        have f2 := hf 2
        have f3 := hf 3
        have f4 := hf 4
        have f5 := hf 5
        have f6 := hf 6
        have f7 := hf 7
        clear hf
        by_cases z0 : a = 0
        · have y0 : (a == 0) = true := beq_iff_eq.2 z0
          have x0 : (a = 0) = True := eq_true z0
          have HK3 : Hid (linesL a b e = 1) := Lib.hid (by unfold linesL; rw [if_neg (by omega), if_pos (by omega)])
          clear z0
          go_wp2
          refine bodyPost_ret (v := .agg #[.int .i64 1, .int .i64 px, .int .i64 py, .int .i64 pz, .int .i64 0, .int .i64 0, .int .i64 0, .int .i64 0]) (by simp [results, Tryz.results194, go_sem, c0, c1, c2, c3, c4, c5, c6, c7, hz]) rfl ⟨⟨_, rfl, ?_⟩, ?_⟩
          · rw [HK2.out, HK3.out]
            exact ⟨_, _, _, _, _, _, _, rfl⟩
          · have HBX := Lib.hid (HX.out.2.2.2.trans (HBV.out.mono (Below.size HX.out.2.2.2)))
            exact below_drew ((((((((((HBX.out.setCell (show w.heap.size ≤ w.heap.size + 1 + 1 by omega) _).setCell (show w.heap.size ≤ w.heap.size + 1 + 1 by omega) _).setCell (show w.heap.size ≤ w.heap.size + 1 + 1 by omega) _).setCell (show w.heap.size ≤ w.heap.size + 1 + 1 by omega) _).setCell (show w.heap.size ≤ w.heap.size + 1 + 1 by omega) _).setCell (show w.heap.size ≤ w.heap.size + 1 + 1 by omega) _).setCell (show w.heap.size ≤ w.heap.size + 1 + 1 by omega) _).setCell (show w.heap.size ≤ w.heap.size + 1 + 1 by omega) _)).alloc (by simp; have := Below.size HBX.out; omega) _)
        have y0 : (a == 0) = false := beq_eq_false_iff_ne.2 z0
        have x0 : (a = 0) = False := eq_false z0
        by_cases z1 : a = e
        · have y1 : (a == e) = true := beq_iff_eq.2 z1
          have x1 : (a = e) = True := eq_true z1
          have HK3 : Hid (linesL a b e = 1) := Lib.hid (by unfold linesL; rw [if_neg (by omega), if_pos (by omega)])
          clear z1
          go_wp2
          refine bodyPost_ret (v := .agg #[.int .i64 1, .int .i64 px, .int .i64 py, .int .i64 pz, .int .i64 0, .int .i64 0, .int .i64 0, .int .i64 0]) (by simp [results, Tryz.results194, go_sem, c0, c1, c2, c3, c4, c5, c6, c7, hz]) rfl ⟨⟨_, rfl, ?_⟩, ?_⟩
          · rw [HK2.out, HK3.out]
            exact ⟨_, _, _, _, _, _, _, rfl⟩
          · have HBX := Lib.hid (HX.out.2.2.2.trans (HBV.out.mono (Below.size HX.out.2.2.2)))
            exact below_drew ((((((((((HBX.out.setCell (show w.heap.size ≤ w.heap.size + 1 + 1 by omega) _).setCell (show w.heap.size ≤ w.heap.size + 1 + 1 by omega) _).setCell (show w.heap.size ≤ w.heap.size + 1 + 1 by omega) _).setCell (show w.heap.size ≤ w.heap.size + 1 + 1 by omega) _).setCell (show w.heap.size ≤ w.heap.size + 1 + 1 by omega) _).setCell (show w.heap.size ≤ w.heap.size + 1 + 1 by omega) _).setCell (show w.heap.size ≤ w.heap.size + 1 + 1 by omega) _).setCell (show w.heap.size ≤ w.heap.size + 1 + 1 by omega) _)).alloc (by simp; have := Below.size HBX.out; omega) _)
        have y1 : (a == e) = false := beq_eq_false_iff_ne.2 z1
        have x1 : (a = e) = False := eq_false z1
        by_cases z2 : b = 0
        · have y2 : (b == 0) = true := beq_iff_eq.2 z2
          have x2 : (b = 0) = True := eq_true z2
          have HK3 : Hid (linesL a b e = 1) := Lib.hid (by unfold linesL; rw [if_neg (by omega), if_pos (by omega)])
          clear z2
          go_wp2
          refine bodyPost_ret (v := .agg #[.int .i64 1, .int .i64 px, .int .i64 py, .int .i64 pz, .int .i64 0, .int .i64 0, .int .i64 0, .int .i64 0]) (by simp [results, Tryz.results194, go_sem, c0, c1, c2, c3, c4, c5, c6, c7, hz]) rfl ⟨⟨_, rfl, ?_⟩, ?_⟩
          · rw [HK2.out, HK3.out]
            exact ⟨_, _, _, _, _, _, _, rfl⟩
          · have HBX := Lib.hid (HX.out.2.2.2.trans (HBV.out.mono (Below.size HX.out.2.2.2)))
            exact below_drew ((((((((((HBX.out.setCell (show w.heap.size ≤ w.heap.size + 1 + 1 by omega) _).setCell (show w.heap.size ≤ w.heap.size + 1 + 1 by omega) _).setCell (show w.heap.size ≤ w.heap.size + 1 + 1 by omega) _).setCell (show w.heap.size ≤ w.heap.size + 1 + 1 by omega) _).setCell (show w.heap.size ≤ w.heap.size + 1 + 1 by omega) _).setCell (show w.heap.size ≤ w.heap.size + 1 + 1 by omega) _).setCell (show w.heap.size ≤ w.heap.size + 1 + 1 by omega) _).setCell (show w.heap.size ≤ w.heap.size + 1 + 1 by omega) _)).alloc (by simp; have := Below.size HBX.out; omega) _)
        have y2 : (b == 0) = false := beq_eq_false_iff_ne.2 z2
        have x2 : (b = 0) = False := eq_false z2
        by_cases z3 : b = e
        · have y3 : (b == e) = true := beq_iff_eq.2 z3
          have x3 : (b = e) = True := eq_true z3
          have HK3 : Hid (linesL a b e = 1) := Lib.hid (by unfold linesL; rw [if_neg (by omega), if_pos (by omega)])
          clear z3
          go_wp2
          refine bodyPost_ret (v := .agg #[.int .i64 1, .int .i64 px, .int .i64 py, .int .i64 pz, .int .i64 0, .int .i64 0, .int .i64 0, .int .i64 0]) (by simp [results, Tryz.results194, go_sem, c0, c1, c2, c3, c4, c5, c6, c7, hz]) rfl ⟨⟨_, rfl, ?_⟩, ?_⟩
          · rw [HK2.out, HK3.out]
            exact ⟨_, _, _, _, _, _, _, rfl⟩
          · have HBX := Lib.hid (HX.out.2.2.2.trans (HBV.out.mono (Below.size HX.out.2.2.2)))
            exact below_drew ((((((((((HBX.out.setCell (show w.heap.size ≤ w.heap.size + 1 + 1 by omega) _).setCell (show w.heap.size ≤ w.heap.size + 1 + 1 by omega) _).setCell (show w.heap.size ≤ w.heap.size + 1 + 1 by omega) _).setCell (show w.heap.size ≤ w.heap.size + 1 + 1 by omega) _).setCell (show w.heap.size ≤ w.heap.size + 1 + 1 by omega) _).setCell (show w.heap.size ≤ w.heap.size + 1 + 1 by omega) _).setCell (show w.heap.size ≤ w.heap.size + 1 + 1 by omega) _).setCell (show w.heap.size ≤ w.heap.size + 1 + 1 by omega) _)).alloc (by simp; have := Below.size HBX.out; omega) _)
        have y3 : (b == e) = false := beq_eq_false_iff_ne.2 z3
        have x3 : (b = e) = False := eq_false z3
        have HK3 : Hid (linesL a b e = 2) := Lib.hid (by unfold linesL; rw [if_neg (by omega), if_neg (by omega)])
        clear z0 z1 z2 z3
        go_wp2
        refine bodyPost_ret (v := .agg #[.int .i64 2, .int .i64 px, .int .i64 py, .int .i64 pz, .int .i64 0, .int .i64 0, .int .i64 0, .int .i64 0]) (by simp [results, Tryz.results194, go_sem, c0, c1, c2, c3, c4, c5, c6, c7, hz]) rfl ⟨⟨_, rfl, ?_⟩, ?_⟩
        · rw [HK2.out, HK3.out]
          exact ⟨_, _, _, _, _, _, _, rfl⟩
        · have HBX := Lib.hid (HX.out.2.2.2.trans (HBV.out.mono (Below.size HX.out.2.2.2)))
          exact below_drew ((((((((((HBX.out.setCell (show w.heap.size ≤ w.heap.size + 1 + 1 by omega) _).setCell (show w.heap.size ≤ w.heap.size + 1 + 1 by omega) _).setCell (show w.heap.size ≤ w.heap.size + 1 + 1 by omega) _).setCell (show w.heap.size ≤ w.heap.size + 1 + 1 by omega) _).setCell (show w.heap.size ≤ w.heap.size + 1 + 1 by omega) _).setCell (show w.heap.size ≤ w.heap.size + 1 + 1 by omega) _).setCell (show w.heap.size ≤ w.heap.size + 1 + 1 by omega) _).setCell (show w.heap.size ≤ w.heap.size + 1 + 1 by omega) _)).alloc (by simp; have := Below.size HBX.out; omega) _)
      · have d1 : decide (d < 0) = false := decide_eq_false hneg
        have HK2 : Hid (linesK ((ax, ay), (bx, b_y)) ((cx, cy), (dx, dy)) d = linesL A B d) := Lib.hid (by rw [HK.out, if_neg hneg, if_neg hneg, if_neg hneg])
        have HL : Hid ((-128000000 ≤ A ∧ A ≤ 128000000) ∧ (-128000000 ≤ B ∧ B ≤ 128000000) ∧ 1 ≤ d ∧ d ≤ 1000000000) := Lib.hid (by have := HAb.out; have := HBb.out; omega)
        clear HK
        go_upto_region 6 with fail
        clear d1 hneg hd hn
        obtain ⟨ha, hb, he⟩ := HL.out
        by_cases q1 : A < 0
        · have kq1 : decide (A < 0) = true := decide_eq_true q1
          have HK3 : Hid (linesL A B d = 0) := Lib.hid (by unfold linesL; rw [if_pos (by omega)])
          obtain ⟨⟨c0, c1, c2, c3, c4, c5, c6, c7⟩, hf, hz⟩ := oct_at HX.out.2.2.1 HBT.out
          have f0 := hf 0
          have f1 := hf 1
          have f2 := hf 2
          have f3 := hf 3
          have f4 := hf 4
          have f5 := hf 5
          have f6 := hf 6
          have f7 := hf 7
          clear hf
          go_wp2
          refine bodyPost_ret (v := .agg #[.int .i64 0, .int .i64 0, .int .i64 0, .int .i64 0, .int .i64 0, .int .i64 0, .int .i64 0, .int .i64 0]) (by simp [results, Tryz.results194, go_sem, c0, c1, c2, c3, c4, c5, c6, c7]) rfl ⟨⟨_, rfl, ?_⟩, ?_⟩
          · rw [HK2.out, HK3.out]
            exact ⟨_, _, _, _, _, _, _, rfl⟩
          · have HBX := Lib.hid (HX.out.2.2.2.trans (HBT.out.mono (Below.size HX.out.2.2.2)))
            exact ((((((((HBX.out.setCell (show w.heap.size ≤ w.heap.size + 1 + 1 by omega) _).setCell (show w.heap.size ≤ w.heap.size + 1 + 1 by omega) _).setCell (show w.heap.size ≤ w.heap.size + 1 + 1 by omega) _).setCell (show w.heap.size ≤ w.heap.size + 1 + 1 by omega) _).setCell (show w.heap.size ≤ w.heap.size + 1 + 1 by omega) _).setCell (show w.heap.size ≤ w.heap.size + 1 + 1 by omega) _).setCell (show w.heap.size ≤ w.heap.size + 1 + 1 by omega) _).setCell (show w.heap.size ≤ w.heap.size + 1 + 1 by omega) _)
        have kq1 : decide (A < 0) = false := decide_eq_false q1
        by_cases q2 : d < A
        · have kq2 : decide (d < A) = true := decide_eq_true q2
          have HK3 : Hid (linesL A B d = 0) := Lib.hid (by unfold linesL; rw [if_pos (by omega)])
          obtain ⟨⟨c0, c1, c2, c3, c4, c5, c6, c7⟩, hf, hz⟩ := oct_at HX.out.2.2.1 HBT.out
          have f0 := hf 0
          have f1 := hf 1
          have f2 := hf 2
          have f3 := hf 3
          have f4 := hf 4
          have f5 := hf 5
          have f6 := hf 6
          have f7 := hf 7
          clear hf
          go_wp2
          refine bodyPost_ret (v := .agg #[.int .i64 0, .int .i64 0, .int .i64 0, .int .i64 0, .int .i64 0, .int .i64 0, .int .i64 0, .int .i64 0]) (by simp [results, Tryz.results194, go_sem, c0, c1, c2, c3, c4, c5, c6, c7]) rfl ⟨⟨_, rfl, ?_⟩, ?_⟩
          · rw [HK2.out, HK3.out]
            exact ⟨_, _, _, _, _, _, _, rfl⟩
          · have HBX := Lib.hid (HX.out.2.2.2.trans (HBT.out.mono (Below.size HX.out.2.2.2)))
            exact ((((((((HBX.out.setCell (show w.heap.size ≤ w.heap.size + 1 + 1 by omega) _).setCell (show w.heap.size ≤ w.heap.size + 1 + 1 by omega) _).setCell (show w.heap.size ≤ w.heap.size + 1 + 1 by omega) _).setCell (show w.heap.size ≤ w.heap.size + 1 + 1 by omega) _).setCell (show w.heap.size ≤ w.heap.size + 1 + 1 by omega) _).setCell (show w.heap.size ≤ w.heap.size + 1 + 1 by omega) _).setCell (show w.heap.size ≤ w.heap.size + 1 + 1 by omega) _).setCell (show w.heap.size ≤ w.heap.size + 1 + 1 by omega) _)
        have kq2 : decide (d < A) = false := decide_eq_false q2
        by_cases q3 : B < 0
        · have kq3 : decide (B < 0) = true := decide_eq_true q3
          have HK3 : Hid (linesL A B d = 0) := Lib.hid (by unfold linesL; rw [if_pos (by omega)])
          obtain ⟨⟨c0, c1, c2, c3, c4, c5, c6, c7⟩, hf, hz⟩ := oct_at HX.out.2.2.1 HBT.out
          have f0 := hf 0
          have f1 := hf 1
          have f2 := hf 2
          have f3 := hf 3
          have f4 := hf 4
          have f5 := hf 5
          have f6 := hf 6
          have f7 := hf 7
          clear hf
          go_wp2
          refine bodyPost_ret (v := .agg #[.int .i64 0, .int .i64 0, .int .i64 0, .int .i64 0, .int .i64 0, .int .i64 0, .int .i64 0, .int .i64 0]) (by simp [results, Tryz.results194, go_sem, c0, c1, c2, c3, c4, c5, c6, c7]) rfl ⟨⟨_, rfl, ?_⟩, ?_⟩
          · rw [HK2.out, HK3.out]
            exact ⟨_, _, _, _, _, _, _, rfl⟩
          · have HBX := Lib.hid (HX.out.2.2.2.trans (HBT.out.mono (Below.size HX.out.2.2.2)))
            exact ((((((((HBX.out.setCell (show w.heap.size ≤ w.heap.size + 1 + 1 by omega) _).setCell (show w.heap.size ≤ w.heap.size + 1 + 1 by omega) _).setCell (show w.heap.size ≤ w.heap.size + 1 + 1 by omega) _).setCell (show w.heap.size ≤ w.heap.size + 1 + 1 by omega) _).setCell (show w.heap.size ≤ w.heap.size + 1 + 1 by omega) _).setCell (show w.heap.size ≤ w.heap.size + 1 + 1 by omega) _).setCell (show w.heap.size ≤ w.heap.size + 1 + 1 by omega) _).setCell (show w.heap.size ≤ w.heap.size + 1 + 1 by omega) _)
        have kq3 : decide (B < 0) = false := decide_eq_false q3
        by_cases q4 : d < B
        · have kq4 : decide (d < B) = true := decide_eq_true q4
          have HK3 : Hid (linesL A B d = 0) := Lib.hid (by unfold linesL; rw [if_pos (by omega)])
          obtain ⟨⟨c0, c1, c2, c3, c4, c5, c6, c7⟩, hf, hz⟩ := oct_at HX.out.2.2.1 HBT.out
          have f0 := hf 0
          have f1 := hf 1
          have f2 := hf 2
          have f3 := hf 3
          have f4 := hf 4
          have f5 := hf 5
          have f6 := hf 6
          have f7 := hf 7
          clear hf
          go_wp2
          refine bodyPost_ret (v := .agg #[.int .i64 0, .int .i64 0, .int .i64 0, .int .i64 0, .int .i64 0, .int .i64 0, .int .i64 0, .int .i64 0]) (by simp [results, Tryz.results194, go_sem, c0, c1, c2, c3, c4, c5, c6, c7]) rfl ⟨⟨_, rfl, ?_⟩, ?_⟩
          · rw [HK2.out, HK3.out]
            exact ⟨_, _, _, _, _, _, _, rfl⟩
          · have HBX := Lib.hid (HX.out.2.2.2.trans (HBT.out.mono (Below.size HX.out.2.2.2)))
            exact ((((((((HBX.out.setCell (show w.heap.size ≤ w.heap.size + 1 + 1 by omega) _).setCell (show w.heap.size ≤ w.heap.size + 1 + 1 by omega) _).setCell (show w.heap.size ≤ w.heap.size + 1 + 1 by omega) _).setCell (show w.heap.size ≤ w.heap.size + 1 + 1 by omega) _).setCell (show w.heap.size ≤ w.heap.size + 1 + 1 by omega) _).setCell (show w.heap.size ≤ w.heap.size + 1 + 1 by omega) _).setCell (show w.heap.size ≤ w.heap.size + 1 + 1 by omega) _).setCell (show w.heap.size ≤ w.heap.size + 1 + 1 by omega) _)
        have kq4 : decide (d < B) = false := decide_eq_false q4
        have ax1 := mulm (x := ax) (y := d) (m := 4000) (n := 1000000000) (by omega) (by omega)
        have ay1 := mulm (x := ay) (y := d) (m := 4000) (n := 1000000000) (by omega) (by omega)
        have ux1 := mulm (x := A) (y := bx - ax) (m := 128000000) (n := 8000) (by omega) (by omega)
        have uy1 := mulm (x := A) (y := b_y - ay) (m := 128000000) (n := 8000) (by omega) (by omega)
        obtain ⟨X, HXX⟩ : ∃ X, Hid (X = ax * d + A * (bx - ax)) := ⟨_, Lib.hid rfl⟩
        obtain ⟨Y, HYY⟩ : ∃ Y, Hid (Y = ay * d + A * (b_y - ay)) := ⟨_, Lib.hid rfl⟩
        have HXB : Hid (X.natAbs ≤ 1000000000000000 ∧ Y.natAbs ≤ 1000000000000000) := Lib.hid (by rw [HXX.out, HYY.out]; omega)
        have w1 : IntKind.i64.wrap (ax * d) = ax * d := IntWalk.i64_in _ (by omega)
        have w2 : IntKind.i64.wrap (ay * d) = ay * d := IntWalk.i64_in _ (by omega)
        have w3 : IntKind.i64.wrap (A * (bx - ax)) = A * (bx - ax) := IntWalk.i64_in _ (by omega)
        have w4 : IntKind.i64.wrap (A * (b_y - ay)) = A * (b_y - ay) := IntWalk.i64_in _ (by omega)
        have w5 : IntKind.i64.wrap (ax * d + A * (bx - ax)) = X := (IntWalk.i64_in _ (by omega)).trans HXX.out.symm
        have w6 : IntKind.i64.wrap (ay * d + A * (b_y - ay)) = Y := (IntWalk.i64_in _ (by omega)).trans HYY.out.symm
        clear ax1 ay1 ux1 uy1 HXX HYY
        obtain ⟨⟨k0, k1, _⟩, _⟩ := UVT.out
        obtain ⟨_, _, _, _, _, _, _, _, _⟩ := CS.out wc HBT.out
        go_wp2
        go_quiet (fail)
        clear w1 w2 w3 w4 w5 w6 k0 k1
        have HDV := Lib.hid (fun W => divisor_all X Y W HXB.out.1 HXB.out.2)
        have HTQ := Lib.hid (Go.Proofs.YtnmmhcchpcbeeaaGreat.Mem.below_drewN HBT.out nq)
        generalize wc.drewN nq = wd at *
        go_wp2_with fail
        refine (HDV.out _).mono ?_
        rintro en1 w12 ⟨⟨h, rfl, hh1, hh2, _⟩, hb12⟩
        have HBU := Lib.hid (HTQ.out.trans (hb12.mono (Below.size HTQ.out)))
        have HDW := Lib.hid (fun W => divisor_any h d W (by omega) (by omega) (Or.inr (by omega)))
        go_wp2_with fail
        refine (HDW.out _).mono ?_
        rintro en2 w13 ⟨⟨g, rfl, hg1, hg2⟩, hb13⟩
        have HBV := Lib.hid (HBU.out.trans (hb13.mono (Below.size HBU.out)))
        clear hb12 hb13
        have g0 : (g == 0) = false := beq_eq_false_iff_ne.2 (by omega)
        have g00 : (g = 0) = False := eq_false (by omega)
        go_upto_region 10 with fail
        go_region_held3 (fun w' => Below w13.heap.size w13 w')
          (first | assumption | (repeat (with_reducible first | assumption | exact Below.refl _ _ | refine below_drew ?_ | refine bel_alloc ?_ _ | (refine bel_set ?_ (by simp <;> omega) _))))
          (fail)
        generalize IntKind.i64.wrap (X.tdiv g) = px at *
        generalize IntKind.i64.wrap (Y.tdiv g) = py at *
        generalize IntKind.i64.wrap (d.tdiv g) = pz at *
        clear g0 g00
        obtain ⟨⟨c0, c1, c2, c3, c4, c5, c6, c7⟩, hf, hz⟩ := oct_at HX.out.2.2.1 HBV.out
        have f0 := hf 0
        have f1 := hf 1
        have f2 := hf 2
        have f3 := hf 3
        have f4 := hf 4
        have f5 := hf 5
        have f6 := hf 6
        have f7 := hf 7
        clear hf
        by_cases z0 : A = 0
        · have y0 : (A == 0) = true := beq_iff_eq.2 z0
          have x0 : (A = 0) = True := eq_true z0
          have HK3 : Hid (linesL A B d = 1) := Lib.hid (by unfold linesL; rw [if_neg (by omega), if_pos (by omega)])
          clear z0
          go_wp2
          refine bodyPost_ret (v := .agg #[.int .i64 1, .int .i64 px, .int .i64 py, .int .i64 pz, .int .i64 0, .int .i64 0, .int .i64 0, .int .i64 0]) (by simp [results, Tryz.results194, go_sem, c0, c1, c2, c3, c4, c5, c6, c7, hz]) rfl ⟨⟨_, rfl, ?_⟩, ?_⟩
          · rw [HK2.out, HK3.out]
            exact ⟨_, _, _, _, _, _, _, rfl⟩
          · have HBX := Lib.hid (HX.out.2.2.2.trans (HBV.out.mono (Below.size HX.out.2.2.2)))
            exact below_drew ((((((((((HBX.out.setCell (show w.heap.size ≤ w.heap.size + 1 + 1 by omega) _).setCell (show w.heap.size ≤ w.heap.size + 1 + 1 by omega) _).setCell (show w.heap.size ≤ w.heap.size + 1 + 1 by omega) _).setCell (show w.heap.size ≤ w.heap.size + 1 + 1 by omega) _).setCell (show w.heap.size ≤ w.heap.size + 1 + 1 by omega) _).setCell (show w.heap.size ≤ w.heap.size + 1 + 1 by omega) _).setCell (show w.heap.size ≤ w.heap.size + 1 + 1 by omega) _).setCell (show w.heap.size ≤ w.heap.size + 1 + 1 by omega) _)).alloc (by simp; have := Below.size HBX.out; omega) _)
        have y0 : (A == 0) = false := beq_eq_false_iff_ne.2 z0
        have x0 : (A = 0) = False := eq_false z0
        by_cases z1 : A = d
        · have y1 : (A == d) = true := beq_iff_eq.2 z1
          have x1 : (A = d) = True := eq_true z1
          have HK3 : Hid (linesL A B d = 1) := Lib.hid (by unfold linesL; rw [if_neg (by omega), if_pos (by omega)])
          clear z1
          go_wp2
          refine bodyPost_ret (v := .agg #[.int .i64 1, .int .i64 px, .int .i64 py, .int .i64 pz, .int .i64 0, .int .i64 0, .int .i64 0, .int .i64 0]) (by simp [results, Tryz.results194, go_sem, c0, c1, c2, c3, c4, c5, c6, c7, hz]) rfl ⟨⟨_, rfl, ?_⟩, ?_⟩
          · rw [HK2.out, HK3.out]
            exact ⟨_, _, _, _, _, _, _, rfl⟩
          · have HBX := Lib.hid (HX.out.2.2.2.trans (HBV.out.mono (Below.size HX.out.2.2.2)))
            exact below_drew ((((((((((HBX.out.setCell (show w.heap.size ≤ w.heap.size + 1 + 1 by omega) _).setCell (show w.heap.size ≤ w.heap.size + 1 + 1 by omega) _).setCell (show w.heap.size ≤ w.heap.size + 1 + 1 by omega) _).setCell (show w.heap.size ≤ w.heap.size + 1 + 1 by omega) _).setCell (show w.heap.size ≤ w.heap.size + 1 + 1 by omega) _).setCell (show w.heap.size ≤ w.heap.size + 1 + 1 by omega) _).setCell (show w.heap.size ≤ w.heap.size + 1 + 1 by omega) _).setCell (show w.heap.size ≤ w.heap.size + 1 + 1 by omega) _)).alloc (by simp; have := Below.size HBX.out; omega) _)
        have y1 : (A == d) = false := beq_eq_false_iff_ne.2 z1
        have x1 : (A = d) = False := eq_false z1
        by_cases z2 : B = 0
        · have y2 : (B == 0) = true := beq_iff_eq.2 z2
          have x2 : (B = 0) = True := eq_true z2
          have HK3 : Hid (linesL A B d = 1) := Lib.hid (by unfold linesL; rw [if_neg (by omega), if_pos (by omega)])
          clear z2
          go_wp2
          refine bodyPost_ret (v := .agg #[.int .i64 1, .int .i64 px, .int .i64 py, .int .i64 pz, .int .i64 0, .int .i64 0, .int .i64 0, .int .i64 0]) (by simp [results, Tryz.results194, go_sem, c0, c1, c2, c3, c4, c5, c6, c7, hz]) rfl ⟨⟨_, rfl, ?_⟩, ?_⟩
          · rw [HK2.out, HK3.out]
            exact ⟨_, _, _, _, _, _, _, rfl⟩
          · have HBX := Lib.hid (HX.out.2.2.2.trans (HBV.out.mono (Below.size HX.out.2.2.2)))
            exact below_drew ((((((((((HBX.out.setCell (show w.heap.size ≤ w.heap.size + 1 + 1 by omega) _).setCell (show w.heap.size ≤ w.heap.size + 1 + 1 by omega) _).setCell (show w.heap.size ≤ w.heap.size + 1 + 1 by omega) _).setCell (show w.heap.size ≤ w.heap.size + 1 + 1 by omega) _).setCell (show w.heap.size ≤ w.heap.size + 1 + 1 by omega) _).setCell (show w.heap.size ≤ w.heap.size + 1 + 1 by omega) _).setCell (show w.heap.size ≤ w.heap.size + 1 + 1 by omega) _).setCell (show w.heap.size ≤ w.heap.size + 1 + 1 by omega) _)).alloc (by simp; have := Below.size HBX.out; omega) _)
        have y2 : (B == 0) = false := beq_eq_false_iff_ne.2 z2
        have x2 : (B = 0) = False := eq_false z2
        by_cases z3 : B = d
        · have y3 : (B == d) = true := beq_iff_eq.2 z3
          have x3 : (B = d) = True := eq_true z3
          have HK3 : Hid (linesL A B d = 1) := Lib.hid (by unfold linesL; rw [if_neg (by omega), if_pos (by omega)])
          clear z3
          go_wp2
          refine bodyPost_ret (v := .agg #[.int .i64 1, .int .i64 px, .int .i64 py, .int .i64 pz, .int .i64 0, .int .i64 0, .int .i64 0, .int .i64 0]) (by simp [results, Tryz.results194, go_sem, c0, c1, c2, c3, c4, c5, c6, c7, hz]) rfl ⟨⟨_, rfl, ?_⟩, ?_⟩
          · rw [HK2.out, HK3.out]
            exact ⟨_, _, _, _, _, _, _, rfl⟩
          · have HBX := Lib.hid (HX.out.2.2.2.trans (HBV.out.mono (Below.size HX.out.2.2.2)))
            exact below_drew ((((((((((HBX.out.setCell (show w.heap.size ≤ w.heap.size + 1 + 1 by omega) _).setCell (show w.heap.size ≤ w.heap.size + 1 + 1 by omega) _).setCell (show w.heap.size ≤ w.heap.size + 1 + 1 by omega) _).setCell (show w.heap.size ≤ w.heap.size + 1 + 1 by omega) _).setCell (show w.heap.size ≤ w.heap.size + 1 + 1 by omega) _).setCell (show w.heap.size ≤ w.heap.size + 1 + 1 by omega) _).setCell (show w.heap.size ≤ w.heap.size + 1 + 1 by omega) _).setCell (show w.heap.size ≤ w.heap.size + 1 + 1 by omega) _)).alloc (by simp; have := Below.size HBX.out; omega) _)
        have y3 : (B == d) = false := beq_eq_false_iff_ne.2 z3
        have x3 : (B = d) = False := eq_false z3
        have HK3 : Hid (linesL A B d = 2) := Lib.hid (by unfold linesL; rw [if_neg (by omega), if_neg (by omega)])
        clear z0 z1 z2 z3
        go_wp2
        refine bodyPost_ret (v := .agg #[.int .i64 2, .int .i64 px, .int .i64 py, .int .i64 pz, .int .i64 0, .int .i64 0, .int .i64 0, .int .i64 0]) (by simp [results, Tryz.results194, go_sem, c0, c1, c2, c3, c4, c5, c6, c7, hz]) rfl ⟨⟨_, rfl, ?_⟩, ?_⟩
        · rw [HK2.out, HK3.out]
          exact ⟨_, _, _, _, _, _, _, rfl⟩
        · have HBX := Lib.hid (HX.out.2.2.2.trans (HBV.out.mono (Below.size HX.out.2.2.2)))
          exact below_drew ((((((((((HBX.out.setCell (show w.heap.size ≤ w.heap.size + 1 + 1 by omega) _).setCell (show w.heap.size ≤ w.heap.size + 1 + 1 by omega) _).setCell (show w.heap.size ≤ w.heap.size + 1 + 1 by omega) _).setCell (show w.heap.size ≤ w.heap.size + 1 + 1 by omega) _).setCell (show w.heap.size ≤ w.heap.size + 1 + 1 by omega) _).setCell (show w.heap.size ≤ w.heap.size + 1 + 1 by omega) _).setCell (show w.heap.size ≤ w.heap.size + 1 + 1 by omega) _).setCell (show w.heap.size ≤ w.heap.size + 1 + 1 by omega) _)).alloc (by simp; have := Below.size HBX.out; omega) _)
end Go.Proofs.YtnmmhcchpcbeeaaGreat.GeW
