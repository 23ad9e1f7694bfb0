/- The law OrderSteps, walked: all ways. Conditions: the list lies in memory; the numbers are machine numbers. -/
import Derived.Test.YteldekkodhfkkaaOdB
namespace Go.Proofs.Yteldekkodhfkkaa.OdW
open Go Go.RowKit Go.Proofs.Yteldekkodhfkkaa.Mem Go.WideShapes

theorem text_of (s : ByteArray) : ∃ p : List UInt8, s = ⟨p.toArray⟩ := ⟨s.data.toList, by cases s; simp⟩
theorem cells_pair : Try.prog.cellsOf 46 = 2 := by kernel_rfl
theorem cells_u16 : Try.prog.cellsOf 45 = 1 := by kernel_rfl
section
variable {H : Type} {enc : TypeId × Value → H} {w : World} {held : Bool}
set_option maxRecDepth 100000 in
theorem open_pair {r : Reach} {b0 : Nat} {v : Value} {d : DataW H} {p : List MemPlace} (hv : Value.okWide Try.prog w r b0 46 v) (h : DataW.Trod enc Try.prog w 0 (fun _ => true) held 46 v d p) :
    ∃ x y : Int, v = .agg #[.int .u16 x, .int .u16 y] ∧ (Lit.int .u16 x).wf = true ∧ (Lit.int .u16 y).wf = true := by
  obtain ⟨cs, rfl, hsz⟩ : ∃ cs : Array Value, v = .agg cs ∧ cs.size = 2 := by
    simp only [Value.okWide, Try.underlying46] at hv
    obtain ⟨cs, h1, h2, _⟩ := hv
    exact ⟨cs, h1, h2.trans cells_pair⟩
  obtain ⟨c0, c1, rfl⟩ := Go.Joins.array2 hsz
  obtain ⟨fuel, hf⟩ := h
  obtain ⟨xs, m, _, _, _, hxs, hg⟩ := DataW.trod_array Try.underlying46 hf
  have h0 := hg 0 (by decide)
  have h1 := hg 1 (by decide)
  rw [cells_u16] at h0 h1
  rw [List.getElem?_eq_getElem (by omega)] at h0 h1
  obtain ⟨a, e0, _, w0⟩ := DataW.trod_int Try.underlying45 h0
  obtain ⟨b, e1, _, w1⟩ := DataW.trod_int Try.underlying45 h1
  simp [Value.cells] at e0 e1
  subst e0 e1
  exact ⟨a, b, rfl, w0, w1⟩
end
set_option maxRecDepth 100000 in
set_option maxHeartbeats 4000000 in
theorem orderSteps_walk (A : Option Addr) (len c : Nat) (l : List Od.It) (s : ByteArray) (x y : Int) (w : World) (hr : Arg w A len c l) (hxy : (Lit.int .u16 x).wf = true ∧ (Lit.int .u16 y).wf = true) :
    Calls Try.prog 7 #[.slice A len c, .string s, .agg #[.int .u16 x, .int .u16 y]] w fun e w' => e = .returned (.bool true) ∧ Below w.heap.size w w' := by
  obtain ⟨rfl, _, hr, hlm, _⟩ := hr
  have b1 := bounds_u16 hxy.1
  have b2 := bounds_u16 hxy.2
  obtain ⟨a, rfl⟩ : ∃ T : Nat, x = (T : Int) := ⟨x.toNat, by omega⟩
  obtain ⟨b, rfl⟩ : ∃ T : Nat, y = (T : Int) := ⟨y.toNat, by omega⟩
  obtain ⟨p, rfl⟩ := text_of s
  have HFA := Lib.hid (fun A k W h => few_any l A k W h (max_i64 hlm))
  have xa : IntKind.i64.wrap (a : Int) = (a : Int) := by rw [wrapEq]; unfold wrap64; omega
  have xb : IntKind.i64.wrap (b : Int) = (b : Int) := by rw [wrapEq]; unfold wrap64; omega
  have xc : IntKind.i64.wrap ((a : Int) + (b : Int)) = (a : Int) + (b : Int) := by rw [wrapEq]; unfold wrap64; omega
  have hb0 := (Below.refl w.heap.size w).alloc (Nat.le_refl _) (.cells #[.int .u16 (a : Int), .int .u16 (b : Int)] 46)
  have HK0 := Lib.hid ((((Kept.start w).add hr).below hb0).addB (heap_alloc_new w (.cells #[.int .u16 (a : Int), .int .u16 (b : Int)] 46)))
  clear hb0
  cases hfl : few l
  · rw [hfl] at HFA
    clear hr hfl hxy
    generalize (ByteArray.mk p.toArray) = PB at *
    go_enter Try.func7, Try.ntmps7
    go_wp2_with fail
    generalize w.alloc (.cells #[.int .u16 (a : Int), .int .u16 (b : Int)] 46) = W0 at *
    refine (awake_any _).mono ?_
    rintro e w1 ⟨rfl, hb⟩
    have HK1 := Lib.hid (HK0.out.below hb)
    clear hb HK0
    go_wp2_with fail
    refine (HFA.out _ _ _ (HK1.out.r 0 rfl)).mono ?_
    rintro e wx ⟨rfl, rfl⟩
    have hf := Lib.hid HK1.out.bel
    go_wp2
    go_ret
    exact ⟨rfl, hf.out⟩
  · by_cases h0 : (normal l).2 = 0
    · exact orderSteps_good l p a b A c w hr hfl (by omega) (by omega) h0
    · have hl := (few_short hfl).1
      have hsl := few_shorts hfl
      have HD1 := Lib.hid (fun A k W h => deliver_any l p (a : Int) A k W h (by omega) hsl (by omega))
      have HD2 := Lib.hid (fun A k W h => deliver_any l p ((a : Int) + (b : Int)) A k W h (by omega) hsl (by omega))
      rw [deliver_err h0] at HD1 HD2
      rw [hfl] at HFA
      rcases (normal_two l).resolve_left h0 with h3 | h3
      all_goals
        rw [h3] at HD1 HD2
        clear hr hfl hxy h0 h3 hsl
        generalize (ByteArray.mk p.toArray) = PB at *
        go_enter Try.func7, Try.ntmps7
        go_wp2_with fail
        generalize w.alloc (.cells #[.int .u16 (a : Int), .int .u16 (b : Int)] 46) = W0 at *
        refine (awake_any _).mono ?_
        rintro e w1 ⟨rfl, hb⟩
        have HK1 := Lib.hid (HK0.out.below hb)
        clear hb HK0
        go_wp2_with fail
        refine (HFA.out _ _ _ (HK1.out.r 0 rfl)).mono ?_
        rintro e wx ⟨rfl, rfl⟩
        have v0 : w1.cell? ⟨w.heap.size, 0, none⟩ = some (.int .u16 (a : Int)) := by rw [Lib.cell_of_heap (HK1.out.b 0 rfl)]; rfl
        have v1 : w1.cell? ⟨w.heap.size, 1, none⟩ = some (.int .u16 (b : Int)) := by rw [Lib.cell_of_heap (HK1.out.b 0 rfl)]; rfl
        go_wp2_with fail
        refine (HD1.out _ _ _ (HK1.out.r 0 rfl)).mono ?_
        rintro e w2 ⟨A2, c2, rfl, hr2, hb⟩
        have HK2 := Lib.hid ((HK1.out.below hb).add hr2)
        clear hb hr2 HK1 v0 v1
        have v0 : w2.cell? ⟨w.heap.size, 0, none⟩ = some (.int .u16 (a : Int)) := by rw [Lib.cell_of_heap (HK2.out.b 0 rfl)]; rfl
        have v1 : w2.cell? ⟨w.heap.size, 1, none⟩ = some (.int .u16 (b : Int)) := by rw [Lib.cell_of_heap (HK2.out.b 0 rfl)]; rfl
        go_wp2_with fail
        refine (HD2.out _ _ _ (HK2.out.r 0 rfl)).mono ?_
        rintro e w3 ⟨A3, c3, rfl, hr3, hb⟩
        have hf := Lib.hid (HK2.out.below hb).bel
        clear hb hr3 HK2 v0 v1
        go_wp2
        go_ret
        exact ⟨rfl, hf.out⟩
end Go.Proofs.Yteldekkodhfkkaa.OdW
