/- Walks: vectors, of the program and of the reference. Conditions: the coordinates are small, as stated. -/
import Derived.Test.YtnmmhcchpcbeeaaGreatProg
import Derived.Test.YtnmmhcchpcbeeaaGreatGePlain
import Derived.Test.YtnmmhcchpcbeeaaGreatMem
import Derived.WalkLawsBesides
import Derived.Lib.Hide
import Derived.Deep.RegionHeld3
import Derived.Deep.DrawnRows
import Derived.Deep.CutRange

namespace Go.Proofs.YtnmmhcchpcbeeaaGreat.GeW
open Go Go.RowKit Go.Proofs.YtnmmhcchpcbeeaaGreat.Mem Go.Proofs.YtnmmhcchpcbeeaaGreat.Ge
attribute [local go_sem ↓] Go.wp_at_zero Go.wp_at_succ
theorem lt_of_block {w : World} {b : Nat} {o : Obj} (h : w.heap[b]? = some o) : b < w.heap.size := by
  rcases Nat.lt_or_ge b w.heap.size with hlt | hge
  · exact hlt
  · rw [Array.getElem?_eq_none hge] at h; cases h
theorem heap_alloc_new (w : World) (o : Obj) : (w.alloc o).heap[w.heap.size]? = some o := Array.getElem?_push_size
theorem heap_alloc_old (w : World) (o : Obj) {b : Nat} (h : b < w.heap.size) : (w.alloc o).heap[b]? = w.heap[b]? := ((Below.refl w.heap.size w).alloc (Nat.le_refl _) o).block b h
theorem pair_at {w w' : World} {b : Nat} {x y : Value} {t : TypeId} (h : w.heap[b]? = some (.cells #[x, y] t (0, 0))) (hb : Below w.heap.size w w') : w'.cell? ⟨b, 0, none⟩ = some x ∧ w'.cell? ⟨b, 1, none⟩ = some y := by
  have h' := (hb.block b (lt_of_block h)).trans h
  constructor <;> simp [World.cell?, h']
theorem three_vecs (w : World) (o1 o2 o3 : Obj) : (((w.alloc o1).alloc o2).alloc o3).heap[w.heap.size]? = some o1 ∧ (((w.alloc o1).alloc o2).alloc o3).heap[w.heap.size + 1]? = some o2 ∧ (((w.alloc o1).alloc o2).alloc o3).heap[w.heap.size + 1 + 1]? = some o3 ∧ Below w.heap.size w (((w.alloc o1).alloc o2).alloc o3) := by
  have e1 : (w.alloc o1).heap.size = w.heap.size + 1 := by simp
  have e2 : ((w.alloc o1).alloc o2).heap.size = w.heap.size + 1 + 1 := by simp
  refine ⟨?_, ?_, ?_, (((Below.refl _ _).alloc (Nat.le_refl _) _).alloc (by simp) _).alloc (by simp; omega) _⟩
  · rw [heap_alloc_old _ _ (by rw [e2]; omega), heap_alloc_old _ _ (by rw [e1]; omega)]; exact heap_alloc_new _ _
  · rw [heap_alloc_old _ _ (by rw [e2]; omega), ← e1]; exact heap_alloc_new _ _
  · rw [← e2]; exact heap_alloc_new _ _
theorem below_drew {B : Nat} {a w : World} (h : Below B a w) : Below B a w.drew := ⟨h.os, h.tape, h.output, h.size, h.block⟩
theorem mul_small {a b : Int} (ha : -1000000 ≤ a ∧ a ≤ 1000000) (hb : -1000000 ≤ b ∧ b ≤ 1000000) : -4000000000000000000 ≤ a * b ∧ a * b ≤ 4000000000000000000 := by
  have h1 : (a * b).natAbs ≤ 1000000 * 1000000 := by
    rw [Int.natAbs_mul]
    exact Nat.mul_le_mul (by omega) (by omega)
  omega
set_option maxRecDepth 100000 in
theorem sub_any (x y u v : Int) (w : World) (hx : -1000000000000 ≤ x ∧ x ≤ 1000000000000) (hy : -1000000000000 ≤ y ∧ y ≤ 1000000000000) (hu : -1000000000000 ≤ u ∧ u ≤ 1000000000000) (hv : -1000000000000 ≤ v ∧ v ≤ 1000000000000) :
    Calls Tryz.prog 94 #[.agg #[.int .i64 x, .int .i64 y], .agg #[.int .i64 u, .int .i64 v]] w fun e w' => e = .returned (.agg #[.int .i64 (x - u), .int .i64 (y - v)]) ∧ Below w.heap.size w w' := by
  obtain ⟨hx1, hx2⟩ := hx
  obtain ⟨hy1, hy2⟩ := hy
  obtain ⟨hu1, hu2⟩ := hu
  obtain ⟨hv1, hv2⟩ := hv
  go_enter Tryz.func94, Tryz.ntmps94
  go_wp2
  refine bodyPost_ret (v := .agg #[.int .i64 (x - u), .int .i64 (y - v)]) (by simp [results, Tryz.results94, go_sem]) rfl ⟨rfl, ?_⟩
  exact (((Below.refl _ _).alloc (Nat.le_refl _) _).alloc (by simp) _).alloc (by simp; omega) _
set_option maxRecDepth 100000 in
theorem rsub_any (x y u v : Int) (w : World) (hx : -1000000000000 ≤ x ∧ x ≤ 1000000000000) (hy : -1000000000000 ≤ y ∧ y ≤ 1000000000000) (hu : -1000000000000 ≤ u ∧ u ≤ 1000000000000) (hv : -1000000000000 ≤ v ∧ v ≤ 1000000000000) :
    Calls Tryz.prog 40 #[.agg #[.int .i64 x, .int .i64 y], .agg #[.int .i64 u, .int .i64 v]] w fun e w' => e = .returned (.agg #[.int .i64 (x - u), .int .i64 (y - v)]) ∧ Below w.heap.size w w' := by
  obtain ⟨hx1, hx2⟩ := hx
  obtain ⟨hy1, hy2⟩ := hy
  obtain ⟨hu1, hu2⟩ := hu
  obtain ⟨hv1, hv2⟩ := hv
  go_enter Tryz.func40, Tryz.ntmps40
  go_wp2
  refine bodyPost_ret (v := .agg #[.int .i64 (x - u), .int .i64 (y - v)]) (by simp [results, Tryz.results40, go_sem]) rfl ⟨rfl, ?_⟩
  exact (((Below.refl _ _).alloc (Nat.le_refl _) _).alloc (by simp) _).alloc (by simp; omega) _
set_option maxRecDepth 100000 in
theorem cross_any (x y u v : Int) (w : World) (h1 : -4000000000000000000 ≤ x * v ∧ x * v ≤ 4000000000000000000) (h2 : -4000000000000000000 ≤ y * u ∧ y * u ≤ 4000000000000000000) :
    Calls Tryz.prog 149 #[.agg #[.int .i64 x, .int .i64 y], .agg #[.int .i64 u, .int .i64 v]] w fun e w' => e = .returned (.int .i64 (x * v - y * u)) ∧ Below w.heap.size w w' := by
  obtain ⟨a1, a2⟩ := h1
  obtain ⟨b1, b2⟩ := h2
  have WW1 : IntKind.i64.wrap (x * v) = x * v := by rw [IntKind.wrap_i64]; omega
  have WW2 : IntKind.i64.wrap (y * u) = y * u := by rw [IntKind.wrap_i64]; omega
  have WW3 : IntKind.i64.wrap (x * v - y * u) = x * v - y * u := by rw [IntKind.wrap_i64]; omega
  have HB := Lib.hid (((Below.refl w.heap.size w).alloc (Nat.le_refl _) (.cells #[.int .i64 x, .int .i64 y] 53)).alloc (by simp) (.cells #[.int .i64 u, .int .i64 v] 53))
  clear a1 a2 b1 b2
  go_enter Tryz.func149, Tryz.ntmps149
  go_wp2
  go_ret
  exact ⟨rfl, HB.out⟩
set_option maxRecDepth 100000 in
theorem rcross_any (x y u v : Int) (w : World) (h1 : -4000000000000000000 ≤ x * v ∧ x * v ≤ 4000000000000000000) (h2 : -4000000000000000000 ≤ y * u ∧ y * u ≤ 4000000000000000000) :
    Calls Tryz.prog 157 #[.agg #[.int .i64 x, .int .i64 y], .agg #[.int .i64 u, .int .i64 v]] w fun e w' => e = .returned (.int .i64 (x * v - y * u)) ∧ Below w.heap.size w w' := by
  obtain ⟨a1, a2⟩ := h1
  obtain ⟨b1, b2⟩ := h2
  have WW1 : IntKind.i64.wrap (x * v) = x * v := by rw [IntKind.wrap_i64]; omega
  have WW2 : IntKind.i64.wrap (y * u) = y * u := by rw [IntKind.wrap_i64]; omega
  have WW3 : IntKind.i64.wrap (x * v - y * u) = x * v - y * u := by rw [IntKind.wrap_i64]; omega
  have HB := Lib.hid (((Below.refl w.heap.size w).alloc (Nat.le_refl _) (.cells #[.int .i64 x, .int .i64 y] 53)).alloc (by simp) (.cells #[.int .i64 u, .int .i64 v] 53))
  clear a1 a2 b1 b2
  go_enter Tryz.func157, Tryz.ntmps157
  go_wp2
  go_ret
  exact ⟨rfl, HB.out⟩
theorem nan_any (a : Int) (w : World) : Calls Tryz.prog 171 #[.int .i64 a] w fun e w' => e = .returned (.bool false) ∧ w' = w := by
  go_enter Tryz.func171, Tryz.ntmps171
  go_wp2
  go_ret
  exact ⟨rfl, rfl⟩
def cmp3 (a b : Int) : Int := if a < b then -1 else if b < a then 1 else 0
theorem ccmp_any (a b : Int) (w : World) : Calls Tryz.prog 119 #[.int .i64 a, .int .i64 b] w fun e w' => e = .returned (.int .i64 (cmp3 a b)) ∧ w' = w := by
  have HN := Lib.hid (fun a w => nan_any a w)
  unfold cmp3
  by_cases h1 : a < b
  · have d1 : decide (a < b) = true := decide_eq_true h1
    rw [if_pos h1]
    clear h1
    go_enter Tryz.func119, Tryz.ntmps119
    go_wp2_with (go_at_call 171; refine (HN.out _ _).mono ?_; rintro e w1 ⟨rfl, rfl⟩)
    go_ret
    exact ⟨rfl, rfl⟩
  · have d1 : decide (a < b) = false := decide_eq_false h1
    rw [if_neg h1]
    clear h1
    by_cases h2 : b < a
    · have d2 : decide (b < a) = true := decide_eq_true h2
      rw [if_pos h2]
      clear h2
      go_enter Tryz.func119, Tryz.ntmps119
      go_wp2_with (go_at_call 171; refine (HN.out _ _).mono ?_; rintro e w1 ⟨rfl, rfl⟩)
      go_ret
      exact ⟨rfl, rfl⟩
    · have d2 : decide (b < a) = false := decide_eq_false h2
      rw [if_neg h2]
      clear h2
      go_enter Tryz.func119, Tryz.ntmps119
      go_wp2_with (go_at_call 171; refine (HN.out _ _).mono ?_; rintro e w1 ⟨rfl, rfl⟩)
      go_ret
      exact ⟨rfl, rfl⟩
theorem cmp3_zero (n : Int) : cmp3 n 0 = sgn n := by
  unfold cmp3 sgn
  split
  · rfl
  · split
    · rw [if_neg (by omega)]
    · rw [if_pos (by omega)]
theorem ccmp0_any (n : Int) (w : World) : Calls Tryz.prog 119 #[.int .i64 n, .int .i64 0] w fun e w' => e = .returned (.int .i64 (sgn n)) ∧ w' = w := by
  rw [← cmp3_zero]
  exact ccmp_any n 0 w
theorem sign_any (n : Int) (w : World) : Calls Tryz.prog 173 #[.int .i64 n] w fun e w' => e = .returned (.int .i64 (sgn n)) ∧ w' = w := by
  unfold sgn
  by_cases h1 : n < 0
  · rw [if_pos h1]
    have d1 : decide ((0 : Int) < n) = false := decide_eq_false (by omega)
    have d2 : decide (n < (0 : Int)) = true := decide_eq_true h1
    clear h1
    go_enter Tryz.func173, Tryz.ntmps173
    go_wp2
    go_ret
    exact ⟨rfl, rfl⟩
  · rw [if_neg h1]
    have d2 : decide (n < (0 : Int)) = false := decide_eq_false h1
    by_cases h2 : n = 0
    · subst h2
      clear h1 d2
      go_enter Tryz.func173, Tryz.ntmps173
      go_wp2
      go_ret
      exact ⟨rfl, rfl⟩
    · rw [if_neg h2]
      have d1 : decide ((0 : Int) < n) = true := decide_eq_true (by omega)
      clear h1 h2
      go_enter Tryz.func173, Tryz.ntmps173
      go_wp2
      go_ret
      exact ⟨rfl, rfl⟩
set_option maxRecDepth 100000 in
set_option maxHeartbeats 2000000 in
theorem turn_any (x y u v p q : Int) (w : World) (hx : -100000 ≤ x ∧ x ≤ 100000) (hy : -100000 ≤ y ∧ y ≤ 100000) (hu : -100000 ≤ u ∧ u ≤ 100000) (hv : -100000 ≤ v ∧ v ≤ 100000) (hp : -100000 ≤ p ∧ p ≤ 100000) (hq : -100000 ≤ q ∧ q ≤ 100000) :
    Calls Tryz.prog 130 #[.agg #[.int .i64 x, .int .i64 y], .agg #[.int .i64 u, .int .i64 v], .agg #[.int .i64 p, .int .i64 q]] w fun e w' => e = .returned (.int .i64 (turn (x, y) (u, v) (p, q))) ∧ Below w.heap.size w w' := by
  have HS1 := Lib.hid (fun W => sub_any u v x y W (by omega) (by omega) (by omega) (by omega))
  have HS2 := Lib.hid (fun W => sub_any p q x y W (by omega) (by omega) (by omega) (by omega))
  have HCR := Lib.hid (fun W => cross_any (u - x) (v - y) (p - x) (q - y) W (mul_small (by omega) (by omega)) (mul_small (by omega) (by omega)))
  have HT : Hid (turn (x, y) (u, v) (p, q) = sgn ((u - x) * (q - y) - (v - y) * (p - x))) := Lib.hid rfl
  rw [HT.out]
  have HO := Lib.hid (three_vecs w (.cells #[.int .i64 x, .int .i64 y] 53) (.cells #[.int .i64 u, .int .i64 v] 53) (.cells #[.int .i64 p, .int .i64 q] 53))
  have HSG := Lib.hid (fun W => ccmp0_any ((u - x) * (q - y) - (v - y) * (p - x)) W)
  clear hx hy hu hv hp hq
  go_enter Tryz.func130, Tryz.ntmps130
  go_upto_region 1 with fail
  generalize ((w.alloc (.cells #[.int .i64 x, .int .i64 y] 53)).alloc (.cells #[.int .i64 u, .int .i64 v] 53)).alloc (.cells #[.int .i64 p, .int .i64 q] 53) = W at *
  have CS : Hid (∀ w', Below W.heap.size W w' → w'.cell? ⟨w.heap.size, 0, none⟩ = some (.int .i64 x) ∧ w'.cell? ⟨w.heap.size, 1, none⟩ = some (.int .i64 y) ∧ w'.cell? ⟨w.heap.size + 1, 0, none⟩ = some (.int .i64 u) ∧ w'.cell? ⟨w.heap.size + 1, 1, none⟩ = some (.int .i64 v) ∧ w'.cell? ⟨w.heap.size + 1 + 1, 0, none⟩ = some (.int .i64 p) ∧ w'.cell? ⟨w.heap.size + 1 + 1, 1, none⟩ = some (.int .i64 q) ∧ Below W.heap.size W w') := Lib.hid (fun w' hb => by
    obtain ⟨a0, a1⟩ := pair_at HO.out.1 hb
    obtain ⟨b0, b1⟩ := pair_at HO.out.2.1 hb
    obtain ⟨c0, c1⟩ := pair_at HO.out.2.2.1 hb
    exact ⟨a0, a1, b0, b1, c0, c1, hb⟩)
  have tok := Lib.hid trivial
  obtain ⟨q0, q1, q2, q3, q4, q5, q6⟩ := CS.out W (Below.refl _ _)
  go_region_held3 (fun w' => w'.cell? ⟨w.heap.size, 0, none⟩ = some (.int .i64 x) ∧ w'.cell? ⟨w.heap.size, 1, none⟩ = some (.int .i64 y) ∧ w'.cell? ⟨w.heap.size + 1, 0, none⟩ = some (.int .i64 u) ∧ w'.cell? ⟨w.heap.size + 1, 1, none⟩ = some (.int .i64 v) ∧ w'.cell? ⟨w.heap.size + 1 + 1, 0, none⟩ = some (.int .i64 p) ∧ w'.cell? ⟨w.heap.size + 1 + 1, 1, none⟩ = some (.int .i64 q) ∧ Below W.heap.size W w')
    (first | assumption | exact CS.out _ (below_drew (by assumption)) | exact CS.out _ (by assumption))
    (first
     | (go_at_call_of 94 (Value.agg #[Value.int .i64 u, Value.int .i64 v]); obtain ⟨_, _, _, _, _, _, hbx⟩ := ‹_ ∧ _ ∧ _ ∧ _ ∧ _ ∧ _ ∧ Below _ _ _›; refine (HS1.out _).mono ?_; rintro e w4 ⟨rfl, hb40⟩; have hb4 : Below W.heap.size W w4 := hbx.trans (hb40.mono (Below.size hbx)))
     | (go_at_call_of 94 (Value.agg #[Value.int .i64 p, Value.int .i64 q]); refine (HS2.out _).mono ?_; rintro e w5 ⟨rfl, hb50⟩; have hb5 : Below W.heap.size W w5 := hb4.trans (hb50.mono (Below.size hb4)))
     | (go_at_call 149; refine (HCR.out _).mono ?_; rintro e w6 ⟨rfl, hb60⟩; have hb6 : Below W.heap.size W w6 := hb5.trans (hb60.mono (Below.size hb5)))
     | (go_at_call 119; refine (HSG.out _).mono ?_; rintro e w7 ⟨rfl, rfl⟩))
  go_wp2
  go_ret
  exact ⟨rfl, HO.out.2.2.2.trans (hb6.mono (Below.size HO.out.2.2.2))⟩
set_option maxRecDepth 100000 in
set_option maxHeartbeats 2000000 in
theorem rturn_any (x y u v p q : Int) (w : World) (hx : -100000 ≤ x ∧ x ≤ 100000) (hy : -100000 ≤ y ∧ y ≤ 100000) (hu : -100000 ≤ u ∧ u ≤ 100000) (hv : -100000 ≤ v ∧ v ≤ 100000) (hp : -100000 ≤ p ∧ p ≤ 100000) (hq : -100000 ≤ q ∧ q ≤ 100000) :
    Calls Tryz.prog 122 #[.agg #[.int .i64 x, .int .i64 y], .agg #[.int .i64 u, .int .i64 v], .agg #[.int .i64 p, .int .i64 q]] w fun e w' => e = .returned (.int .i64 (turn (x, y) (u, v) (p, q))) ∧ Below w.heap.size w w' := by
  have HS1 := Lib.hid (fun W => rsub_any u v x y W (by omega) (by omega) (by omega) (by omega))
  have HS2 := Lib.hid (fun W => rsub_any p q x y W (by omega) (by omega) (by omega) (by omega))
  have HCR := Lib.hid (fun W => rcross_any (u - x) (v - y) (p - x) (q - y) W (mul_small (by omega) (by omega)) (mul_small (by omega) (by omega)))
  have HT : Hid (turn (x, y) (u, v) (p, q) = sgn ((u - x) * (q - y) - (v - y) * (p - x))) := Lib.hid rfl
  rw [HT.out]
  have HO := Lib.hid (three_vecs w (.cells #[.int .i64 x, .int .i64 y] 53) (.cells #[.int .i64 u, .int .i64 v] 53) (.cells #[.int .i64 p, .int .i64 q] 53))
  have HSG := Lib.hid (fun W => sign_any ((u - x) * (q - y) - (v - y) * (p - x)) W)
  clear hx hy hu hv hp hq
  go_enter Tryz.func122, Tryz.ntmps122
  go_upto_region 1 with fail
  generalize ((w.alloc (.cells #[.int .i64 x, .int .i64 y] 53)).alloc (.cells #[.int .i64 u, .int .i64 v] 53)).alloc (.cells #[.int .i64 p, .int .i64 q] 53) = W at *
  have CS : Hid (∀ w', Below W.heap.size W w' → w'.cell? ⟨w.heap.size, 0, none⟩ = some (.int .i64 x) ∧ w'.cell? ⟨w.heap.size, 1, none⟩ = some (.int .i64 y) ∧ w'.cell? ⟨w.heap.size + 1, 0, none⟩ = some (.int .i64 u) ∧ w'.cell? ⟨w.heap.size + 1, 1, none⟩ = some (.int .i64 v) ∧ w'.cell? ⟨w.heap.size + 1 + 1, 0, none⟩ = some (.int .i64 p) ∧ w'.cell? ⟨w.heap.size + 1 + 1, 1, none⟩ = some (.int .i64 q) ∧ Below W.heap.size W w') := Lib.hid (fun w' hb => by
    obtain ⟨a0, a1⟩ := pair_at HO.out.1 hb
    obtain ⟨b0, b1⟩ := pair_at HO.out.2.1 hb
    obtain ⟨c0, c1⟩ := pair_at HO.out.2.2.1 hb
    exact ⟨a0, a1, b0, b1, c0, c1, hb⟩)
  have tok := Lib.hid trivial
  obtain ⟨q0, q1, q2, q3, q4, q5, q6⟩ := CS.out W (Below.refl _ _)
  go_region_held3 (fun w' => w'.cell? ⟨w.heap.size, 0, none⟩ = some (.int .i64 x) ∧ w'.cell? ⟨w.heap.size, 1, none⟩ = some (.int .i64 y) ∧ w'.cell? ⟨w.heap.size + 1, 0, none⟩ = some (.int .i64 u) ∧ w'.cell? ⟨w.heap.size + 1, 1, none⟩ = some (.int .i64 v) ∧ w'.cell? ⟨w.heap.size + 1 + 1, 0, none⟩ = some (.int .i64 p) ∧ w'.cell? ⟨w.heap.size + 1 + 1, 1, none⟩ = some (.int .i64 q) ∧ Below W.heap.size W w')
    (first | assumption | exact CS.out _ (below_drew (by assumption)) | exact CS.out _ (by assumption))
    (first
     | (go_at_call_of 40 (Value.agg #[Value.int .i64 u, Value.int .i64 v]); obtain ⟨_, _, _, _, _, _, hbx⟩ := ‹_ ∧ _ ∧ _ ∧ _ ∧ _ ∧ _ ∧ Below _ _ _›; refine (HS1.out _).mono ?_; rintro e w4 ⟨rfl, hb40⟩; have hb4 : Below W.heap.size W w4 := hbx.trans (hb40.mono (Below.size hbx)))
     | (go_at_call_of 40 (Value.agg #[Value.int .i64 p, Value.int .i64 q]); refine (HS2.out _).mono ?_; rintro e w5 ⟨rfl, hb50⟩; have hb5 : Below W.heap.size W w5 := hb4.trans (hb50.mono (Below.size hb4)))
     | (go_at_call 157; refine (HCR.out _).mono ?_; rintro e w6 ⟨rfl, hb60⟩; have hb6 : Below W.heap.size W w6 := hb5.trans (hb60.mono (Below.size hb5)))
     | (go_at_call 173; refine (HSG.out _).mono ?_; rintro e w7 ⟨rfl, rfl⟩))
  go_wp2
  go_ret
  exact ⟨rfl, HO.out.2.2.2.trans (hb6.mono (Below.size HO.out.2.2.2))⟩
set_option maxRecDepth 100000 in
theorem within_any (x y m : Int) (w : World) (hm : 0 ≤ m ∧ m ≤ 1000000000000000) :
    Calls Tryz.prog 113 #[.agg #[.int .i64 x, .int .i64 y], .int .i64 m] w fun e w' => e = .returned (.bool (within (x, y) m)) ∧ Below w.heap.size w w' := by
  obtain ⟨m1, m2⟩ := hm
  have HB := Lib.hid ((Below.refl w.heap.size w).alloc (Nat.le_refl _) (.cells #[.int .i64 x, .int .i64 y] 53))
  unfold within
  simp only
  by_cases h0 : -m ≤ x
  case neg =>
    have d0 : decide (-m ≤ x) = false := decide_eq_false h0
    rw [d0]
    simp only [Bool.false_and]
    clear h0
    go_enter Tryz.func113, Tryz.ntmps113
    go_wp2
    go_ret
    exact ⟨rfl, HB.out⟩
  have d0 : decide (-m ≤ x) = true := decide_eq_true h0
  rw [d0]
  clear h0
  by_cases h1 : x ≤ m
  case neg =>
    have d1 : decide (x ≤ m) = false := decide_eq_false h1
    rw [d1]
    simp only [Bool.false_and, Bool.true_and]
    clear h1
    go_enter Tryz.func113, Tryz.ntmps113
    go_wp2
    go_ret
    exact ⟨rfl, HB.out⟩
  have d1 : decide (x ≤ m) = true := decide_eq_true h1
  rw [d1]
  clear h1
  by_cases h2 : -m ≤ y
  case neg =>
    have d2 : decide (-m ≤ y) = false := decide_eq_false h2
    rw [d2]
    simp only [Bool.false_and, Bool.true_and]
    clear h2
    go_enter Tryz.func113, Tryz.ntmps113
    go_wp2
    go_ret
    exact ⟨rfl, HB.out⟩
  have d2 : decide (-m ≤ y) = true := decide_eq_true h2
  rw [d2]
  clear h2
  by_cases h3 : y ≤ m
  case neg =>
    have d3 : decide (y ≤ m) = false := decide_eq_false h3
    rw [d3]
    simp only [Bool.true_and]
    clear h3
    go_enter Tryz.func113, Tryz.ntmps113
    go_wp2
    go_ret
    exact ⟨rfl, HB.out⟩
  have d3 : decide (y ≤ m) = true := decide_eq_true h3
  rw [d3]
  clear h3
  simp only [Bool.true_and]
  go_enter Tryz.func113, Tryz.ntmps113
  go_wp2
  go_ret
  exact ⟨rfl, HB.out⟩
set_option maxRecDepth 100000 in
theorem rwithin_any (x y m : Int) (w : World) (hm : 0 ≤ m ∧ m ≤ 1000000000000000) :
    Calls Tryz.prog 126 #[.agg #[.int .i64 x, .int .i64 y], .int .i64 m] w fun e w' => e = .returned (.bool (within (x, y) m)) ∧ Below w.heap.size w w' := by
  obtain ⟨m1, m2⟩ := hm
  have HB := Lib.hid ((Below.refl w.heap.size w).alloc (Nat.le_refl _) (.cells #[.int .i64 x, .int .i64 y] 53))
  unfold within
  simp only
  by_cases h0 : -m ≤ x
  case neg =>
    have d0 : decide (-m ≤ x) = false := decide_eq_false h0
    rw [d0]
    simp only [Bool.false_and]
    clear h0
    go_enter Tryz.func126, Tryz.ntmps126
    go_wp2
    go_ret
    exact ⟨rfl, HB.out⟩
  have d0 : decide (-m ≤ x) = true := decide_eq_true h0
  rw [d0]
  clear h0
  by_cases h1 : x ≤ m
  case neg =>
    have d1 : decide (x ≤ m) = false := decide_eq_false h1
    rw [d1]
    simp only [Bool.false_and, Bool.true_and]
    clear h1
    go_enter Tryz.func126, Tryz.ntmps126
    go_wp2
    go_ret
    exact ⟨rfl, HB.out⟩
  have d1 : decide (x ≤ m) = true := decide_eq_true h1
  rw [d1]
  clear h1
  by_cases h2 : -m ≤ y
  case neg =>
    have d2 : decide (-m ≤ y) = false := decide_eq_false h2
    rw [d2]
    simp only [Bool.false_and, Bool.true_and]
    clear h2
    go_enter Tryz.func126, Tryz.ntmps126
    go_wp2
    go_ret
    exact ⟨rfl, HB.out⟩
  have d2 : decide (-m ≤ y) = true := decide_eq_true h2
  rw [d2]
  clear h2
  by_cases h3 : y ≤ m
  case neg =>
    have d3 : decide (y ≤ m) = false := decide_eq_false h3
    rw [d3]
    simp only [Bool.true_and]
    clear h3
    go_enter Tryz.func126, Tryz.ntmps126
    go_wp2
    go_ret
    exact ⟨rfl, HB.out⟩
  have d3 : decide (y ≤ m) = true := decide_eq_true h3
  rw [d3]
  clear h3
  simp only [Bool.true_and]
  go_enter Tryz.func126, Tryz.ntmps126
  go_wp2
  go_ret
  exact ⟨rfl, HB.out⟩
set_option maxRecDepth 100000 in
theorem rless_any (x y u v : Int) (w : World) :
    Calls Tryz.prog 28 #[.agg #[.int .i64 x, .int .i64 y], .agg #[.int .i64 u, .int .i64 v]] w fun e w' => e = .returned (.bool (less (x, y) (u, v))) ∧ Below w.heap.size w w' := by
  have HB := Lib.hid (((Below.refl w.heap.size w).alloc (Nat.le_refl _) (.cells #[.int .i64 x, .int .i64 y] 53)).alloc (by simp) (.cells #[.int .i64 u, .int .i64 v] 53))
  unfold less
  simp only
  by_cases h0 : y < v
  · have d0 : decide (y < v) = true := decide_eq_true h0
    rw [d0]
    simp only [Bool.true_or]
    clear h0
    go_enter Tryz.func28, Tryz.ntmps28
    go_wp2
    go_ret
    exact ⟨rfl, HB.out⟩
  · have d0 : decide (y < v) = false := decide_eq_false h0
    rw [d0]
    simp only [Bool.false_or]
    clear h0
    by_cases h1 : y = v
    · subst h1
      have d1 : decide (y = y) = true := decide_eq_true rfl
      rw [d1]
      simp only [Bool.true_and]
      clear d1
      go_enter Tryz.func28, Tryz.ntmps28
      go_wp2
      go_ret
      exact ⟨rfl, HB.out⟩
    · have d1 : decide (y = v) = false := decide_eq_false h1
      have d2 : (y == v) = false := beq_eq_false_iff_ne.2 h1
      rw [d1]
      simp only [Bool.false_and]
      clear h1
      go_enter Tryz.func28, Tryz.ntmps28
      go_wp2
      go_ret
      exact ⟨rfl, HB.out⟩
end Go.Proofs.YtnmmhcchpcbeeaaGreat.GeW
