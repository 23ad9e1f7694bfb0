/- The law OrderSteps, walked. Conditions: the list lies in memory; the numbers are machine numbers. -/
import Derived.Test.YteldekkodhfkkaaOdP
import Derived.Test.YteldekkodhfkkaaOdOpen
namespace Go.Proofs.Yteldekkodhfkkaa.OdW
open Go Go.RowKit Go.Proofs.Yteldekkodhfkkaa.Mem

theorem deliver_len {l : List Od.It} {p : List UInt8} {n : Int} : (deliver l p n).1.length ≤ 100 := by
  unfold deliver
  split
  · simp
  · split
    · simp
    · exact Nat.le_trans (dfold_len _ _ _) (normal_len l)
theorem deliver_short {l : List Od.It} {p : List UInt8} {n : Int} (h : ∀ m ∈ l, Od.Short m) : ∀ m ∈ (deliver l p n).1, Od.Short m := by
  intro m hm
  unfold deliver at hm
  split at hm
  · cases hm
  · split at hm
    · cases hm
    · rename_i hn
      simp only at hm
      rw [dfold_del] at hm
      obtain ⟨x, hx, e1, e2, _⟩ := del_mem normal_posq (by omega) m hm
      have := normal_short h x hx
      unfold Od.Short at *
      rw [e1, e2]
      exact this
theorem deliver_two {l : List Od.It} {p : List UInt8} {n : Int} : (deliver l p n).2.2 = 0 ∨ (deliver l p n).2.2 = 1 ∨ (deliver l p n).2.2 = 2 := by
  unfold deliver
  split
  · exact normal_two l
  · split <;> simp
set_option maxRecDepth 100000 in
set_option maxHeartbeats 4000000 in
theorem orderSteps_good (l : List Od.It) (p : List UInt8) (a b : Nat) (A : Option Addr) (c : Nat) (w : World) (hr : Row w A (l.flatMap itCells)) (hfl : few l = true) (ha : a < 65536) (hb : b < 65536) (h0 : (normal l).2 = 0) :
    Calls Try.prog 7 #[.slice A l.length c, .string ⟨p.toArray⟩, .agg #[.int .u16 (a : Int), .int .u16 (b : Int)]] w fun e w' => e = .returned (.bool true) ∧ Below w.heap.size w w' := by
  have hsl := few_shorts hfl
  have hl := (few_short hfl).1
  have HFA := Lib.hid (fun A k W h => few_any l A k W h (by omega))
  rw [hfl] at HFA
  obtain ⟨s1, s2, s3⟩ := deliver_steps (p := p) (a := (a : Int)) (b := (b : Int)) h0 (by omega) (by omega)
  have HD1 := Lib.hid (fun A k W h => deliver_any l p (a : Int) A k W h (by omega) hsl (by omega))
  have HD2 := Lib.hid (fun A k W h => deliver_any l p ((a : Int) + (b : Int)) A k W h (by omega) hsl (by omega))
  have q1 := deliver_len (l := l) (p := p) (n := (a : Int))
  have q2 := deliver_len (l := l) (p := p) (n := (a : Int) + (b : Int))
  have HD3 := Lib.hid (fun A k W h => deliver_any (deliver l p (a : Int)).1 p (b : Int) A k W h (by omega) (deliver_short hsl) (by omega))
  have e1 : (deliver l p (a : Int)).2.2 = 0 := by rw [deliver_good h0 (by omega)]
  have e2 : (deliver l p ((a : Int) + (b : Int))).2.2 = 0 := by rw [deliver_good h0 (by omega)]
  have e3 : 0 ≤ (deliver l p ((a : Int) + (b : Int))).2.1 ∧ (deliver l p ((a : Int) + (b : Int))).2.1 ≤ (a : Int) + (b : Int) := by
    rw [deliver_good h0 (by omega)]
    exact del_n normal_posq (by omega)
  rw [e1] at HD1
  rw [e2] at HD2
  rw [s1, s2] at HD3
  generalize (deliver (deliver l p (a : Int)).1 p (b : Int)).2.1 = t3 at *
  generalize (deliver l p (a : Int)).1 = x at *
  generalize (deliver l p (a : Int)).2.1 = t1 at *
  generalize (deliver l p ((a : Int) + (b : Int))).1 = z at *
  generalize (deliver l p ((a : Int) + (b : Int))).2.1 = t2 at *
  have HS := Lib.hid (fun A B k j W h1 h2 => rsame_any z z A B k j W h1 h2 (by omega) (by omega))
  rw [decide_eq_true rfl] at HS
  have xt : IntKind.i64.wrap (t1 + t3) = t2 := by rw [wrapEq, s3]; unfold wrap64; omega
  have xa : IntKind.i64.wrap (a : Int) = (a : Int) := by rw [wrapEq]; unfold wrap64; omega
  have xb : IntKind.i64.wrap (b : Int) = (b : Int) := by rw [wrapEq]; unfold wrap64; omega
  have xc : IntKind.i64.wrap ((a : Int) + (b : Int)) = (a : Int) + (b : Int) := by rw [wrapEq]; unfold wrap64; omega
  have hb0 := (Below.refl w.heap.size w).alloc (Nat.le_refl _) (.cells #[.int .u16 (a : Int), .int .u16 (b : Int)] 46)
  have HK0 := Lib.hid ((((Kept.start w).add hr).below hb0).addB (heap_alloc_new w (.cells #[.int .u16 (a : Int), .int .u16 (b : Int)] 46)))
  clear hr hfl hsl s1 s2 s3 e1 e2 e3 hb0 h0
  generalize (ByteArray.mk p.toArray) = PB at *
  go_enter Try.func7, Try.ntmps7
  go_wp2_with fail
  generalize w.alloc (.cells #[.int .u16 (a : Int), .int .u16 (b : Int)] 46) = W0 at *
  refine (awake_any _).mono ?_
  rintro e w1 ⟨rfl, hb⟩
  have HK1 := Lib.hid (HK0.out.below hb)
  clear hb HK0
  go_wp2_with fail
  refine (HFA.out _ _ _ (HK1.out.r 0 rfl)).mono ?_
  rintro e wx ⟨rfl, rfl⟩
  have v0 : w1.cell? ⟨w.heap.size, 0, none⟩ = some (.int .u16 (a : Int)) := by rw [Lib.cell_of_heap (HK1.out.b 0 rfl)]; rfl
  have v1 : w1.cell? ⟨w.heap.size, 1, none⟩ = some (.int .u16 (b : Int)) := by rw [Lib.cell_of_heap (HK1.out.b 0 rfl)]; rfl
  go_wp2_with fail
  refine (HD1.out _ _ _ (HK1.out.r 0 rfl)).mono ?_
  rintro e w2 ⟨A2, c2, rfl, hr2, hb⟩
  have HK2 := Lib.hid ((HK1.out.below hb).add hr2)
  clear hb hr2 HK1 v0 v1
  have v0 : w2.cell? ⟨w.heap.size, 0, none⟩ = some (.int .u16 (a : Int)) := by rw [Lib.cell_of_heap (HK2.out.b 0 rfl)]; rfl
  have v1 : w2.cell? ⟨w.heap.size, 1, none⟩ = some (.int .u16 (b : Int)) := by rw [Lib.cell_of_heap (HK2.out.b 0 rfl)]; rfl
  go_wp2_with fail
  refine (HD2.out _ _ _ (HK2.out.r 0 rfl)).mono ?_
  rintro e w3 ⟨A3, c3, rfl, hr3, hb⟩
  have HK3 := Lib.hid ((HK2.out.below hb).add hr3)
  clear hb hr3 HK2 v0 v1
  have v0 : w3.cell? ⟨w.heap.size, 0, none⟩ = some (.int .u16 (a : Int)) := by rw [Lib.cell_of_heap (HK3.out.b 0 rfl)]; rfl
  have v1 : w3.cell? ⟨w.heap.size, 1, none⟩ = some (.int .u16 (b : Int)) := by rw [Lib.cell_of_heap (HK3.out.b 0 rfl)]; rfl
  go_wp2_with fail
  refine (HD3.out _ _ _ (HK3.out.r 1 rfl)).mono ?_
  rintro e w4 ⟨A4, c4, rfl, hr4, hb⟩
  have HK4 := Lib.hid ((HK3.out.below hb).add hr4)
  clear hb hr4 HK3 v0 v1
  go_wp2_with fail
  refine (HS.out _ _ _ _ _ (HK4.out.r 3 rfl) (HK4.out.r 2 rfl)).mono ?_
  rintro e w5 ⟨rfl, hb⟩
  have hf := Lib.hid (HK4.out.below hb).bel
  clear hb HK4
  go_wp2
  go_ret
  exact ⟨rfl, hf.out⟩
end Go.Proofs.Yteldekkodhfkkaa.OdW
