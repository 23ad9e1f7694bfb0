/- The law NcodeChange, walked. Conditions: the library's table of powers of ten holds what its text lays; the programs lie in memory; the vector's numbers are machine numbers. -/
import Derived.Test.YtonpbomjjamphaaDoorNcR2
import Derived.Test.YtonpbomjjamphaaDoorNcAw
import Derived.Test.YtonpbomjjamphaaDoorKept
namespace Go.Proofs.YtonpbomjjamphaaDoor.NcW
open Go Go.RowKit Go.Proofs.YtonpbomjjamphaaDoor.Mem
attribute [local go_sem ↓] Go.wp_at_zero Go.wp_at_succ

theorem shiftR_len (l : List Nc.Mv) (u v : Int) : (shiftR l u v).1.length ≤ l.length := by
  unfold shiftR
  split
  · split <;> simp
  · simp
theorem joinR_len (a b : List Nc.Mv) : (joinR a b).1.length ≤ a.length + b.length := by
  unfold joinR
  split
  · split
    · exact join_len a b
    · simp
  · simp

set_option maxRecDepth 100000 in
set_option maxHeartbeats 4000000 in
theorem ncodeChange_few (a b : List Nc.Mv) (A B : Option Addr) (ca cb : Nat) (u v : Int) (w : World) (hra : Row w A (a.flatMap mvCells)) (hrb : Row w B (b.flatMap mvCells)) (hfa : Nc.few a = true) (hfb : Nc.few b = true) (hu : I64 u) (hvv : I64 v) (hL : Laid w) :
    Calls Tryd.prog 5 #[.slice A a.length ca, .slice B b.length cb, .agg #[.int .i64 u, .int .i64 v]] w fun e w' => e = .returned (.bool true) ∧ Below w.heap.size w w' := by
  have hla : a.length ≤ 2002 := by simp [Nc.few] at hfa; omega
  have hlb : b.length ≤ 2002 := by simp [Nc.few] at hfb; omega
  have HFA := Lib.hid (fun A k W => few_any a A k W)
  have HFB := Lib.hid (fun A k W => few_any b A k W)
  rw [hfa] at HFA
  rw [hfb] at HFB
  have HOA := Lib.hid (fun A k W h => own_any a A k W h (by omega))
  have HOB := Lib.hid (fun A k W h => own_any b A k W h (by omega))
  have HSP := Lib.hid (fun A k W h => pshift_any a A k u v W h (by omega))
  have HSR := Lib.hid (fun A k W h => rshift_any a A k u v W h (by omega) hu hvv)
  have HJP := Lib.hid (fun A B k j W h1 h2 h3 => pjoin_any a b A B k j W h1 h2 (by omega) (by omega) h3)
  have HJR := Lib.hid (fun A B k j W h1 h2 => rjoin_any a b A B k j W h1 h2 (by omega) (by omega))
  have hsl := shiftR_len a u v
  have hjl := joinR_len a b
  generalize shiftR a u v = S at *
  generalize joinR a b = J at *
  obtain ⟨sl, se⟩ := S
  obtain ⟨jl, je⟩ := J
  simp only at HSP HSR HJP HJR hsl hjl
  have HTs := Lib.hid (fun A k W h => theirs_any sl A k W h (by omega))
  have HSs := Lib.hid (fun A B k j W h1 h2 => rsame_any sl sl A B k j W h1 h2 (by omega) (by omega))
  rw [same_iff.2 rfl] at HSs
  have HTj := Lib.hid (fun A k W h => theirs_any jl A k W h (by omega))
  have HSj := Lib.hid (fun A B k j W h1 h2 => rsame_any jl jl A B k j W h1 h2 (by omega) (by omega))
  rw [same_iff.2 rfl] at HSj
  have hb0 := (Below.refl w.heap.size w).alloc (Nat.le_refl _) (.cells #[.int .i64 u, .int .i64 v] 24)
  have HL := Lib.hid (hL.below hb0)
  have HK0 := Lib.hid (((((Kept.start w).add hra).add hrb).below hb0).addB (heap_alloc_new w (.cells #[.int .i64 u, .int .i64 v] 24)))
  clear hra hrb hfa hfb hu hvv hL hb0
  go_enter Tryd.func5, Tryd.ntmps5
  go_wp2_with fail
  generalize w.alloc (.cells #[.int .i64 u, .int .i64 v] 24) = W0 at *
  refine (awake_any _ HL.out).mono ?_
  rintro e w1 ⟨rfl, hb⟩
  have HK1 := Lib.hid (HK0.out.below hb)
  clear hb
  go_wp2_with fail
  refine (HFA.out _ _ _).mono ?_
  rintro e wx ⟨rfl, rfl⟩
  go_wp2_with fail
  refine (HFB.out _ _ _).mono ?_
  rintro e wx ⟨rfl, rfl⟩
  have v0 : w1.cell? ⟨w.heap.size, 0, none⟩ = some (.int .i64 u) := by rw [Lib.cell_of_heap (HK1.out.b 0 rfl)]; rfl
  have v1 : w1.cell? ⟨w.heap.size, 1, none⟩ = some (.int .i64 v) := by rw [Lib.cell_of_heap (HK1.out.b 0 rfl)]; rfl
  have hbz := block_lt (HK1.out.b 0 rfl)
  go_wp2
  go_region_with (first
    | (go_at_call 12; refine (HOA.out _ _ _ ((HK1.out.below (below_drew (Below.refl _ _))).r 0 rfl)).mono ?_; rintro e w3 ⟨⟨v3, rfl, hown3⟩, hb3⟩; obtain ⟨A3, c3, rfl, _⟩ := own_shape hown3; have hr3 := Row.of_own hown3; have d0 := (hb3.cell (p := ⟨w.heap.size, 0, none⟩) hbz).trans v0; have d1 := (hb3.cell (p := ⟨w.heap.size, 1, none⟩) hbz).trans v1)
    | (go_at_call 11; refine (HSP.out _ _ _ hr3).mono ?_; rintro e w4 ⟨⟨Ax, cx, hcx, rfl, hrow⟩, hb4⟩))
  all_goals (
    as_aux_lemma =>
      have HK9 := Lib.hid ((((HK1.out.below (below_drew (Below.refl _ _))).below hb3).below hb4).add hrow)
      clear v0 v1 d0 d1 hr3 hown3 hb3 hb4 hrow
      have v0 : w4.cell? ⟨w.heap.size, 0, none⟩ = some (.int .i64 u) := by rw [Lib.cell_of_heap (HK9.out.b 0 rfl)]; rfl
      have v1 : w4.cell? ⟨w.heap.size, 1, none⟩ = some (.int .i64 v) := by rw [Lib.cell_of_heap (HK9.out.b 0 rfl)]; rfl
      have hbz4 := block_lt (HK9.out.b 0 rfl)
      go_wp2_with fail
      refine (HSR.out _ _ _ (HK9.out.r 0 rfl)).mono ?_
      rintro e w10 ⟨⟨Ay, cy, hcy, rfl, hrow⟩, hb⟩
      have HK10 := Lib.hid ((HK9.out.below hb).add hrow)
      clear hrow hb
      clear v0 v1
      go_wp2_with fail
      refine (HOA.out _ _ _ (HK10.out.r 0 rfl)).mono ?_
      rintro e w11 ⟨⟨v, rfl, hown⟩, hb⟩
      obtain ⟨Aa2, ca2, rfl, hca2⟩ := own_shape hown
      have HK11 := Lib.hid ((HK10.out.below hb).add (Row.of_own hown))
      clear hown hb
      go_wp2_with fail
      refine (HOB.out _ _ _ (HK11.out.r 1 rfl)).mono ?_
      rintro e w12 ⟨⟨v, rfl, hown⟩, hb⟩
      obtain ⟨Ab2, cb2, rfl, hcb2⟩ := own_shape hown
      have HK12 := Lib.hid ((HK11.out.below hb).add (Row.of_own hown))
      clear hown hb
      go_wp2_with fail
      refine (HJP.out _ _ _ _ _ (HK12.out.r 4 rfl) (HK12.out.r 5 rfl) hca2).mono ?_
      rintro e w13 ⟨⟨Az, cz, hcz, rfl, hrow⟩, hb⟩
      have HK13 := Lib.hid ((HK12.out.below hb).add hrow)
      clear hrow hb
      go_wp2_with fail
      refine (HJR.out _ _ _ _ _ (HK13.out.r 0 rfl) (HK13.out.r 1 rfl)).mono ?_
      rintro e w14 ⟨⟨Aww, cww, hcww, rfl, hrow⟩, hb⟩
      have HK14 := Lib.hid ((HK13.out.below hb).add hrow)
      clear hrow hb
      go_wp2_with fail
      refine (HTs.out _ _ _ (HK14.out.r 2 rfl)).mono ?_
      rintro e w15 ⟨⟨v, rfl, hown⟩, hb⟩
      obtain ⟨Atx, ctx, rfl, hctx⟩ := own_shape hown
      have HK15 := Lib.hid ((HK14.out.below hb).add (Row.of_own hown))
      clear hown hb
      go_wp2_with fail
      refine (HSs.out _ _ _ _ _ (HK15.out.r 8 rfl) (HK15.out.r 3 rfl)).mono ?_
      rintro e w16 ⟨rfl, hb⟩
      have HK16 := Lib.hid (HK15.out.below hb)
      clear hb
      go_wp2_with fail
      refine (HTj.out _ _ _ (HK16.out.r 6 rfl)).mono ?_
      rintro e w17 ⟨⟨v, rfl, hown⟩, hb⟩
      obtain ⟨Atz, ctz, rfl, hctz⟩ := own_shape hown
      have HK17 := Lib.hid ((HK16.out.below hb).add (Row.of_own hown))
      clear hown hb
      go_wp2_with fail
      refine (HSj.out _ _ _ _ _ (HK17.out.r 9 rfl) (HK17.out.r 7 rfl)).mono ?_
      rintro e w18 ⟨rfl, hb⟩
      have HK18 := Lib.hid (HK17.out.below hb)
      clear hb
      go_wp2
      go_ret
      exact ⟨rfl, HK18.out.bel⟩)

set_option maxRecDepth 100000 in
set_option maxHeartbeats 2000000 in
theorem ncodeChange_walk (A : Option Addr) (len c : Nat) (a : List Nc.Mv) (B : Option Addr) (len2 c2 : Nat) (b : List Nc.Mv) (u v : Int) (w : World) (hx : a.length = len ∧ (∀ m ∈ a, True) ∧ Row w A (a.flatMap mvCells) ∧ len ≤ maxLen ∧ len ≤ c) (hy : b.length = len2 ∧ (∀ m ∈ b, True) ∧ Row w B (b.flatMap mvCells) ∧ len2 ≤ maxLen ∧ len2 ≤ c2) (hu : I64 u ∧ I64 v) (hL : Laid w) :
    Calls Tryd.prog 5 #[.slice A len c, .slice B len2 c2, .agg #[.int .i64 u, .int .i64 v]] w fun e w' => e = .returned (.bool true) ∧ Below w.heap.size w w' := by
  obtain ⟨rfl, _, hra, _, _⟩ := hx
  obtain ⟨rfl, _, hrb, _, _⟩ := hy
  cases hfa : Nc.few a
  · have HFA := Lib.hid (fun A k W => few_any a A k W)
    rw [hfa] at HFA
    have hb0 := (Below.refl w.heap.size w).alloc (Nat.le_refl _) (.cells #[.int .i64 u, .int .i64 v] 24)
    have HL := Lib.hid (hL.below hb0)
    have HB0 := Lib.hid hb0
    clear hra hrb hfa hL hb0
    go_enter Tryd.func5, Tryd.ntmps5
    go_wp2_with fail
    refine (awake_any _ HL.out).mono ?_
    rintro e w1 ⟨rfl, hb1⟩
    go_wp2_with fail
    refine (HFA.out _ _ _).mono ?_
    rintro e wx ⟨rfl, rfl⟩
    go_wp2
    go_ret
    exact ⟨rfl, HB0.out.trans (hb1.mono HB0.out.size)⟩
  cases hfb : Nc.few b
  · have HFA := Lib.hid (fun A k W => few_any a A k W)
    rw [hfa] at HFA
    have HFB := Lib.hid (fun A k W => few_any b A k W)
    rw [hfb] at HFB
    have hb0 := (Below.refl w.heap.size w).alloc (Nat.le_refl _) (.cells #[.int .i64 u, .int .i64 v] 24)
    have HL := Lib.hid (hL.below hb0)
    have HB0 := Lib.hid hb0
    clear hra hrb hfa hfb hL hb0
    go_enter Tryd.func5, Tryd.ntmps5
    go_wp2_with fail
    refine (awake_any _ HL.out).mono ?_
    rintro e w1 ⟨rfl, hb1⟩
    go_wp2_with fail
    refine (HFA.out _ _ _).mono ?_
    rintro e wx ⟨rfl, rfl⟩
    go_wp2_with fail
    refine (HFB.out _ _ _).mono ?_
    rintro e wx ⟨rfl, rfl⟩
    go_wp2
    go_ret
    exact ⟨rfl, HB0.out.trans (hb1.mono HB0.out.size)⟩
  · exact ncodeChange_few a b A B c c2 u v w hra hrb hfa hfb hu.1 hu.2 hL
end Go.Proofs.YtonpbomjjamphaaDoor.NcW
