/- Walks: the comparisons that the two sorts are handed. Conditions: none. -/
import Derived.Test.YteldekkodhfkkaaGreatDoorOdW2
import Derived.Test.YteldekkodhfkkaaGreatDoorShelf
import Derived.StillTailTactics
namespace Go.Proofs.YteldekkodhfkkaaGreatDoor.OdW
open Go Go.RowKit Go.Proofs.YteldekkodhfkkaaGreatDoor.Mem
open Go.Sort Go.Shelf

def cmpS (a b : List UInt8) : Int := if Od.sl a b = true then -1 else if Od.sl b a = true then 1 else 0
theorem cmpS_neg (a b : List UInt8) : decide (cmpS a b < 0) = Od.sl a b := by
  unfold cmpS
  cases Od.sl a b
  · cases Od.sl b a <;> simp
  · simp
theorem cmpS_zero {a b : List UInt8} (h : cmpS a b = 0) : a = b := by
  unfold cmpS at h
  cases h1 : Od.sl a b
  · cases h2 : Od.sl b a
    · exact Od.sl_tri _ _ h1 h2
    · rw [h1, h2] at h; simp at h
  · rw [h1] at h; simp at h
theorem cmpS_self (a : List UInt8) : cmpS a a = 0 := by unfold cmpS; simp [Od.sl_irr]
theorem cmp_text (a b : List UInt8) (w : World) : Calls Tryz.prog 31 #[.string ⟨a.toArray⟩, .string ⟨b.toArray⟩] w fun e w' => e = .returned (.int .i64 (cmpS a b)) ∧ w' = w := by
  have e1 := text_eq a a
  have e2 := text_eq b b
  have e3 := text_eq a b
  have l1 := text_less a b
  rw [decide_eq_true rfl] at e1 e2
  unfold cmpS
  cases h1 : Od.sl a b
  · rw [h1] at l1
    by_cases hab : a = b
    · subst hab
      rw [decide_eq_true rfl] at e3
      simp only [Od.sl_irr, Bool.false_eq_true, if_false]
      clear h1
      generalize (ByteArray.mk a.toArray) = AB at *
      go_enter Tryz.func31, Tryz.ntmps31
      go_wp2
      go_ret
      exact ⟨rfl, rfl⟩
    · rw [decide_eq_false hab] at e3
      have h2 : Od.sl b a = true := by
        cases h2 : Od.sl b a
        · exact absurd (Od.sl_tri _ _ h1 h2) hab
        · rfl
      rw [h2]
      simp only [Bool.false_eq_true, if_false, if_true]
      clear h1 h2 hab
      generalize (ByteArray.mk a.toArray) = AB at *
      generalize (ByteArray.mk b.toArray) = BB at *
      go_enter Tryz.func31, Tryz.ntmps31
      go_wp2
      go_ret
      exact ⟨rfl, rfl⟩
  · rw [h1] at l1
    simp only [if_true]
    clear h1
    generalize (ByteArray.mk a.toArray) = AB at *
    generalize (ByteArray.mk b.toArray) = BB at *
    go_enter Tryz.func31, Tryz.ntmps31
    go_wp2
    go_ret
    exact ⟨rfl, rfl⟩
theorem or_three (b : Nat) (x y z : Int) (w : World) (h0 : w.cell? ⟨b, 0, none⟩ = some (.int .i64 x)) (h1 : w.cell? ⟨b, 1, none⟩ = some (.int .i64 y)) (h2 : w.cell? ⟨b, 2, none⟩ = some (.int .i64 z)) :
    Calls Tryz.prog 56 #[.slice (some ⟨b, 0, none⟩) 3 3] w fun e w' => e = .returned (.int .i64 (if x ≠ 0 then x else if y ≠ 0 then y else z)) ∧ w' = w := by
  by_cases hx : x = 0
  · subst hx
    simp only [ne_eq, not_true_eq_false, if_false]
    by_cases hy : y = 0
    · subst hy
      simp only [not_true_eq_false, if_false]
      by_cases hz : z = 0
      · subst hz
        go_enter Tryz.func56, Tryz.ntmps56
        go_wp2
        refine wp_loop_rounds 4 ?_
        rw [rounds_succ]
        go_wp2
        rw [rounds_succ]
        go_wp2
        rw [rounds_succ]
        go_wp2
        rw [rounds_succ]
        go_wp2
        go_ret
        exact ⟨rfl, rfl⟩
      · have hzb : (z == 0) = false := by simpa using hz
        go_enter Tryz.func56, Tryz.ntmps56
        go_wp2
        refine wp_loop_rounds 4 ?_
        rw [rounds_succ]
        go_wp2
        rw [rounds_succ]
        go_wp2
        rw [rounds_succ]
        go_wp2
        go_ret
        exact ⟨rfl, rfl⟩
    · have hyb : (y == 0) = false := by simpa using hy
      rw [if_pos hy]
      go_enter Tryz.func56, Tryz.ntmps56
      go_wp2
      refine wp_loop_rounds 4 ?_
      rw [rounds_succ]
      go_wp2
      rw [rounds_succ]
      go_wp2
      go_ret
      exact ⟨rfl, rfl⟩
  · have hxb : (x == 0) = false := by simpa using hx
    rw [if_pos hx]
    go_enter Tryz.func56, Tryz.ntmps56
    go_wp2
    refine wp_loop_rounds 4 ?_
    rw [rounds_succ]
    go_wp2
    go_ret
    exact ⟨rfl, rfl⟩
theorem order_need (a b : Nd) (w : World) : Calls Tryz.prog 30 #[.agg #[.string ⟨a.1.toArray⟩, .int .i64 a.2], .agg #[.string ⟨b.1.toArray⟩, .int .i64 b.2]] w fun e w' => e = .returned (.int .i64 (cmpS a.1 b.1)) ∧ ∃ q os, w' = grow (w.drewN q) os := by
  have hcon := Lib.hid (fun W => cmp_text a.1 b.1 W)
  generalize cmpS a.1 b.1 = r at *
  go_enter Tryz.func30, Tryz.ntmps30
  go_wp2_with fail
  refine (hcon.out _).mono ?_
  rintro e w1 ⟨rfl, rfl⟩
  go_wp2
  go_ret
  exact ⟨rfl, 0, _, by rw [alloc_eq_grow, alloc_eq_grow, grow_grow]; rfl⟩
theorem three_grow (w : World) (A B o : Obj) (n : Nat) : (((w.alloc A).alloc B).drewN n).alloc o = grow (w.drewN n) #[A, B, o] := by
  have e : (w.alloc A).alloc B = grow w #[A, B] := by
    rw [alloc_eq_grow, alloc_eq_grow, grow_grow]
    rfl
  have e2 : (grow w #[A, B]).drewN n = grow (w.drewN n) #[A, B] := rfl
  rw [e, e2, alloc_eq_grow, grow_grow]
  rfl
def cmpI (a b : Od.It) : Int := if Lib.compareInt a.d b.d ≠ 0 then Lib.compareInt a.d b.d else if cmpS a.o b.o ≠ 0 then cmpS a.o b.o else cmpS a.p b.p
set_option maxRecDepth 100000 in
set_option maxHeartbeats 2000000 in
theorem order_item (a b : Od.It) (w : World) : Calls Tryz.prog 55 #[.agg #[.string ⟨a.o.toArray⟩, .string ⟨a.p.toArray⟩, .int .i64 a.q, .int .i64 a.d], .agg #[.string ⟨b.o.toArray⟩, .string ⟨b.p.toArray⟩, .int .i64 b.q, .int .i64 b.d]] w fun e w' => e = .returned (.int .i64 (cmpI a b)) ∧ ∃ q os, w' = grow (w.drewN q) os := by
  have e : cmpI a b = if Lib.compareInt a.d b.d ≠ 0 then Lib.compareInt a.d b.d else if cmpS a.o b.o ≠ 0 then cmpS a.o b.o else cmpS a.p b.p := rfl
  have H1 := Lib.hid (fun W => Tryz.cmp_Compare_int a.d b.d W)
  have H2 := Lib.hid (fun W => cmp_text a.o b.o W)
  have H3 := Lib.hid (fun W => cmp_text a.p b.p W)
  rw [e]
  clear e
  generalize Lib.compareInt a.d b.d = c1 at *
  generalize cmpS a.o b.o = c2 at *
  generalize cmpS a.p b.p = c3 at *
  have H4 := Lib.hid (fun g W h0 h1 h2 => or_three g c1 c2 c3 W h0 h1 h2)
  generalize (if c1 ≠ 0 then c1 else if c2 ≠ 0 then c2 else c3) = r at *
  obtain ⟨o, p, q, d⟩ := a
  obtain ⟨o2, p2, q2, d2⟩ := b
  simp only at H1 H2 H3 ⊢
  generalize (ByteArray.mk o.toArray) = OA at *
  generalize (ByteArray.mk p.toArray) = PA at *
  generalize (ByteArray.mk o2.toArray) = OB at *
  generalize (ByteArray.mk p2.toArray) = PB at *
  go_enter Tryz.func55, Tryz.ntmps55
  go_wp2
  have hG : Hid (∀ n o, ∃ m os, (((w.alloc (.cells #[.string OA, .string PA, .int .i64 q, .int .i64 d] 33)).alloc (.cells #[.string OB, .string PB, .int .i64 q2, .int .i64 d2] 33)).drewN n).alloc o = grow (w.drewN m) os) := Lib.hid (fun n o => ⟨n, _, three_grow _ _ _ _ _⟩)
  have a0 : ((w.alloc (.cells #[.string OA, .string PA, .int .i64 q, .int .i64 d] 33)).alloc (.cells #[.string OB, .string PB, .int .i64 q2, .int .i64 d2] 33)).cell? ⟨w.heap.size, 0, none⟩ = some (.string OA) := by simp
  have a1 : ((w.alloc (.cells #[.string OA, .string PA, .int .i64 q, .int .i64 d] 33)).alloc (.cells #[.string OB, .string PB, .int .i64 q2, .int .i64 d2] 33)).cell? ⟨w.heap.size, 1, none⟩ = some (.string PA) := by simp
  have a3 : ((w.alloc (.cells #[.string OA, .string PA, .int .i64 q, .int .i64 d] 33)).alloc (.cells #[.string OB, .string PB, .int .i64 q2, .int .i64 d2] 33)).cell? ⟨w.heap.size, 3, none⟩ = some (.int .i64 d) := by simp
  have b0 : ((w.alloc (.cells #[.string OA, .string PA, .int .i64 q, .int .i64 d] 33)).alloc (.cells #[.string OB, .string PB, .int .i64 q2, .int .i64 d2] 33)).cell? ⟨w.heap.size + 1, 0, none⟩ = some (.string OB) := by simp
  have b1 : ((w.alloc (.cells #[.string OA, .string PA, .int .i64 q, .int .i64 d] 33)).alloc (.cells #[.string OB, .string PB, .int .i64 q2, .int .i64 d2] 33)).cell? ⟨w.heap.size + 1, 1, none⟩ = some (.string PB) := by simp
  have b3 : ((w.alloc (.cells #[.string OA, .string PA, .int .i64 q, .int .i64 d] 33)).alloc (.cells #[.string OB, .string PB, .int .i64 q2, .int .i64 d2] 33)).cell? ⟨w.heap.size + 1, 3, none⟩ = some (.int .i64 d2) := by simp
  generalize ((w.alloc (.cells #[.string OA, .string PA, .int .i64 q, .int .i64 d] 33)).alloc (.cells #[.string OB, .string PB, .int .i64 q2, .int .i64 d2] 33)) = W2 at *
  refine wp_region_still_tail 15 (by kernel_rfl) (by kernel_rfl) ?_
  simp only [List.take_succ_cons, List.take_zero, List.drop_succ_cons, List.drop_zero]
  still_step
  still_step
  still_step
  still_step
  still_call (H1.out _)
  still_step
  still_step
  still_step
  still_step
  still_call (H2.out _)
  still_step
  still_step
  still_step
  still_step
  still_call (H3.out _)
  refine wpStill_nil ?_
  change wpList _ _ _ _ _ (W2.drewN 1)
  have hG1 := Lib.hid (hG.out 1 (.cells #[.int .i64 c1, .int .i64 c2, .int .i64 c3] 3))
  clear hG a0 a1 a3 b0 b1 b3
  generalize W2.drewN 1 = W3 at *
  go_wp2_with fail
  refine (H4.out _ _ (by simp) (by simp) (by simp)).mono ?_
  rintro e w7 ⟨rfl, rfl⟩
  go_wp2
  go_ret
  exact ⟨rfl, hG1.out⟩
end Go.Proofs.YteldekkodhfkkaaGreatDoor.OdW
