/- Walks: two programs joined, by the program. Conditions: the programs lie in memory and are valid. -/
import Derived.Test.YtonpbomjjamphaaDoorNcJ
namespace Go.Proofs.YtonpbomjjamphaaDoor.NcW
open Go Go.RowKit Go.Proofs.YtonpbomjjamphaaDoor.Mem

def isEnd (m : Nc.Mv) : Bool := m.k == 6
theorem isEnd_any (m : Nc.Mv) (w : World) : Calls Tryd.prog 37 #[.agg #[.int .i64 m.k, .int .i64 m.x, .int .i64 m.y]] w fun e w' => e = .returned (.bool (isEnd m)) ∧ Below w.heap.size w w' := by
  have e : isEnd m = (m.k == 6) := rfl
  rw [e]
  clear e
  go_enter Tryd.func37, Tryd.ntmps37
  go_wp2
  go_ret
  exact ⟨rfl, (Below.refl _ _).alloc (Nat.le_refl _) _⟩
theorem Row.front {w : World} {A : Option Addr} {xs ys : List Value} (h : Row w A (xs ++ ys)) : Row w A xs := by
  intro hne
  obtain ⟨g, off, e, hg, hc⟩ := h (by simp [hne])
  refine ⟨g, off, e, hg, fun j hj => ?_⟩
  rw [hc j (by simp; omega), List.getElem?_append_left hj]
theorem row_take {w : World} {A : Option Addr} {l : List Nc.Mv} (n : Nat) (h : Row w A (l.flatMap mvCells)) : Row w A ((l.take n).flatMap mvCells) := by
  apply Row.front (ys := (l.drop n).flatMap mvCells)
  rw [← List.flatMap_append, List.take_append_drop]; exact h

theorem till_eq (l : List Nc.Mv) : Nc.till l = l.takeWhile fun m => !isEnd m := rfl
theorem till_take (l : List Nc.Mv) : Nc.till l = l.take (Nc.till l).length := by
  rw [till_eq]
  exact (List.prefix_iff_eq_take.1 (List.takeWhile_prefix _))
theorem till_le (l : List Nc.Mv) : (Nc.till l).length ≤ l.length := by
  rw [till_eq]
  exact (List.takeWhile_prefix _).length_le
theorem idx_till : ∀ (l : List Nc.Mv) (i : Nat), (idx isEnd l i < 0 ∧ Nc.till l = l) ∨ (idx isEnd l i = ((i + (Nc.till l).length : Nat) : Int))
  | [], i => by left; simp [idx, Nc.till]
  | m :: r, i => by
    have ih := idx_till r (i + 1)
    simp only [till_eq] at ih ⊢
    unfold idx
    cases hm : isEnd m
    · simp only [Bool.false_eq_true, if_false, List.takeWhile_cons, hm, Bool.not_false, if_true, List.length_cons, List.cons.injEq, true_and]
      rcases ih with ⟨h1, h2⟩ | h
      · exact .inl ⟨h1, h2⟩
      · right; rw [h]; omega
    · simp only [if_true, List.takeWhile_cons, hm, Bool.not_true, Bool.false_eq_true, if_false, List.length_nil]
      right; omega

set_option maxRecDepth 100000 in
set_option maxHeartbeats 1000000 in
theorem join_yes (l r : List Nc.Mv) (A B : Option Addr) (c d : Nat) (w : World) (hr : Row w A (l.flatMap mvCells)) (hs : Row w B (r.flatMap mvCells)) (hv : Nc.valid l = true) (hv2 : Nc.valid r = true) (hc : l.length ≤ c) (hlen : (Nc.till l).length + r.length ≤ 2000) :
    Calls Tryd.prog 17 #[.slice A l.length c, .slice B r.length d] w fun e w' => (∃ v, e = .returned (.tuple #[v, .int .i64 0]) ∧ w'.ownsRow w.heap.size 62 3 v (Nc.join l r).length ((Nc.join l r).flatMap mvCells)) ∧ Below w.heap.size w w' := by
  have hl := Nc.valid_len hv
  have hl2 := Nc.valid_len hv2
  have HV := Lib.hid (fun W h => valid_any l A c W h (by omega))
  have HV2 := Lib.hid (fun W h => valid_any r B d W h (by omega))
  rw [hv] at HV
  rw [hv2] at HV2
  have HI := Lib.hid (fun W h => indexFunc_any 37 isEnd (enters_of Tryd.func37 (by kernel_rfl) rfl) (Lib.hid isEnd_any) l A c W h (by omega))
  have HR := Lib.hid hr
  have HS := Lib.hid hs
  have hti := idx_till l 0
  have htl := till_le l
  have htt := till_take l
  have HJ : Hid (Nc.join l r = Nc.till l ++ r) := Lib.hid rfl
  have HT : Hid (∀ W, Row W A (l.flatMap mvCells) → Row W A ((Nc.till l).flatMap mvCells)) := Lib.hid (fun W h => by rw [htt]; exact row_take _ h)
  have HTA : Hid (A = none → (Nc.till l).length = 0) := Lib.hid (by
    rintro rfl
    rcases l with _ | ⟨a, t⟩
    · rfl
    · obtain ⟨g, off, hg, _⟩ := row_get mv_len (by decide) hr (by simp)
      cases hg)
  rw [HJ.out]
  clear hr hs hv hv2 htt
  generalize Nc.till l = tl at *
  have HCC := Lib.hid (fun b c2 W hb h1 h2 => concat_any tl r A B c2 d b W hb h1 h2 (by omega) (by omega))
  generalize idx isEnd l 0 = ix at *
  have hix : (ix < 0 ∧ tl.length = l.length) ∨ (0 ≤ ix ∧ ix = (tl.length : Int)) := by
    rcases hti with ⟨h1, h2⟩ | h
    · exact .inl ⟨h1, by rw [h2]⟩
    · right; omega
  have HIX := Lib.hid hix
  clear hti hix
  rcases HIX.out with ⟨h1, h2⟩ | ⟨h1, h2⟩
  · have HH2 := Lib.hid h2
    have hlr : l.length + r.length ≤ 2000 := by omega
    clear h2
    go_enter Tryd.func17, Tryd.ntmps17
    go_wp2_with fail
    refine (HV.out _ HR.out).mono ?_
    rintro e w1 ⟨rfl, hb1⟩
    go_wp2_with fail
    refine (HV2.out _ (HS.out.below hb1)).mono ?_
    rintro e w2 ⟨rfl, hb2⟩
    have hb02 := hb1.trans (hb2.mono hb1.size)
    have HR2 := Lib.hid (HR.out.below hb02)
    have HS2 := Lib.hid (HS.out.below hb02)
    clear hb1 hb2
    go_wp2_with fail
    refine (HI.out _ HR2.out).mono ?_
    rintro e w3 ⟨rfl, hb3⟩
    have HT3 := Lib.hid (HT.out _ (HR2.out.below hb3))
    have HS3 := Lib.hid (HS2.out.below hb3)
    have HB3 := Lib.hid (hb02.trans (hb3.mono hb02.size))
    clear hb02 hb3
    go_wp2_with fail
    have HX := Lib.hid (heap_alloc_new w3 (.cells #[.slice A l.length c, .slice B r.length d] 27))
    have HB0 := Lib.hid ((Below.refl w3.heap.size w3).alloc (Nat.le_refl _) (.cells #[.slice A l.length c, .slice B r.length d] 27))
    generalize w3.alloc (.cells #[.slice A l.length c, .slice B r.length d] 27) = W4 at *
    rw [← HH2.out] at HX ⊢
    refine (HCC.out _ _ _ HX.out (HT3.out.below HB0.out) (HS3.out.below HB0.out)).mono ?_
    rintro e w5 ⟨⟨v5, rfl, hown5⟩, hb5⟩
    have HO5 := Lib.hid (own_more hown5 (Nat.le_trans HB3.out.size HB0.out.size))
    have HB5 := Lib.hid (HB3.out.trans ((HB0.out.trans (hb5.mono HB0.out.size)).mono HB3.out.size))
    clear hown5 hb5
    go_wp2
    go_ret2
    exact ⟨⟨_, rfl, by rw [List.length_append]; exact HO5.out⟩, HB5.out⟩
  · subst h2
    clear h1
    go_enter Tryd.func17, Tryd.ntmps17
    go_wp2_with fail
    refine (HV.out _ HR.out).mono ?_
    rintro e w1 ⟨rfl, hb1⟩
    go_wp2_with fail
    refine (HV2.out _ (HS.out.below hb1)).mono ?_
    rintro e w2 ⟨rfl, hb2⟩
    have hb02 := hb1.trans (hb2.mono hb1.size)
    have HR2 := Lib.hid (HR.out.below hb02)
    have HS2 := Lib.hid (HS.out.below hb02)
    clear hb1 hb2
    go_wp2_with fail
    refine (HI.out _ HR2.out).mono ?_
    rintro e w3 ⟨rfl, hb3⟩
    have HT3 := Lib.hid (HT.out _ (HR2.out.below hb3))
    have HS3 := Lib.hid (HS2.out.below hb3)
    have HB3 := Lib.hid (hb02.trans (hb3.mono hb02.size))
    clear hb02 hb3
    go_wp2_with fail
    have HX := Lib.hid (heap_alloc_new w3 (.cells #[.slice A tl.length c, .slice B r.length d] 27))
    have HB0 := Lib.hid ((Below.refl w3.heap.size w3).alloc (Nat.le_refl _) (.cells #[.slice A tl.length c, .slice B r.length d] 27))
    generalize w3.alloc (.cells #[.slice A tl.length c, .slice B r.length d] 27) = W4 at *
    refine (HCC.out _ _ _ HX.out (HT3.out.below HB0.out) (HS3.out.below HB0.out)).mono ?_
    rintro e w5 ⟨⟨v5, rfl, hown5⟩, hb5⟩
    have HO5 := Lib.hid (own_more hown5 (Nat.le_trans HB3.out.size HB0.out.size))
    have HB5 := Lib.hid (HB3.out.trans ((HB0.out.trans (hb5.mono HB0.out.size)).mono HB3.out.size))
    clear hown5 hb5
    go_wp2
    go_ret2
    exact ⟨⟨_, rfl, by rw [List.length_append]; exact HO5.out⟩, HB5.out⟩

set_option maxRecDepth 100000 in
set_option maxHeartbeats 1000000 in
theorem join_no (l r : List Nc.Mv) (A B : Option Addr) (c d : Nat) (w : World) (hr : Row w A (l.flatMap mvCells)) (hs : Row w B (r.flatMap mvCells)) (hv : Nc.valid l = true) (hv2 : Nc.valid r = true) (hlen : 2000 < (Nc.till l).length + r.length) :
    Calls Tryd.prog 17 #[.slice A l.length c, .slice B r.length d] w fun e w' => e = .returned (.tuple #[.slice none 0 0, .int .i64 9]) ∧ Below w.heap.size w w' := by
  have hl := Nc.valid_len hv
  have hl2 := Nc.valid_len hv2
  have HV := Lib.hid (fun W h => valid_any l A c W h (by omega))
  have HV2 := Lib.hid (fun W h => valid_any r B d W h (by omega))
  rw [hv] at HV
  rw [hv2] at HV2
  have HI := Lib.hid (fun W h => indexFunc_any 37 isEnd (enters_of Tryd.func37 (by kernel_rfl) rfl) (Lib.hid isEnd_any) l A c W h (by omega))
  have HR := Lib.hid hr
  have HS := Lib.hid hs
  have hti := idx_till l 0
  have htl := till_le l
  clear hr hs hv hv2
  generalize idx isEnd l 0 = ix at *
  have hix : (ix < 0 ∧ 2000 < l.length + r.length) ∨ (0 ≤ ix ∧ 2000 < ix + (r.length : Int) ∧ ix ≤ 2000) := by
    rcases hti with ⟨h1, h2⟩ | h
    · rw [h2] at hlen; exact .inl ⟨h1, hlen⟩
    · right; omega
  clear hti
  rcases hix with ⟨h1, h2⟩ | ⟨h1, h2, h3⟩
  all_goals
    go_enter Tryd.func17, Tryd.ntmps17
    go_wp2_with fail
    refine (HV.out _ HR.out).mono ?_
    rintro e w1 ⟨rfl, hb1⟩
    go_wp2_with fail
    refine (HV2.out _ (HS.out.below hb1)).mono ?_
    rintro e w2 ⟨rfl, hb2⟩
    have hb02 := hb1.trans (hb2.mono hb1.size)
    have HR2 := Lib.hid (HR.out.below hb02)
    clear hb1 hb2
    go_wp2_with fail
    refine (HI.out _ HR2.out).mono ?_
    rintro e w3 ⟨rfl, hb3⟩
    have HB3 := Lib.hid (hb02.trans (hb3.mono hb02.size))
    clear hb02 hb3
    go_wp2
    go_ret2
    exact ⟨rfl, HB3.out⟩
end Go.Proofs.YtonpbomjjamphaaDoor.NcW
