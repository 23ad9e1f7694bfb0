/- Walk: Check over systems. Conditions: the system is little; system and tree lie in memory. -/
import Derived.Test.YtjjohllfidmkjaaDoorPfC2
import Derived.Laws.EntriesVeiled
import Derived.Deep.CutRange
namespace Go.Proofs.YtjjohllfidmkjaaDoor.PfW
open Go Go.RowKit Go.Proofs.YtjjohllfidmkjaaDoor.Mem Go.Proofs.YtjjohllfidmkjaaDoor.Pf

/-- Path and error of Check. -/
def checkP (y : Syst) (t : T) : List Nat × Int :=
  if validB t then (match wrong t y with | none => ([], 0) | some p => (p, 21)) else ([], 1)
def CheckRet (r : List Nat × Int) (w : World) (e : Ending) (w' : World) : Prop :=
  ∃ B d, e = .returned (.tuple #[.slice B r.1.length d, .int .i64 r.2]) ∧ Row w' B (natCells r.1) ∧ Below w.heap.size w w'
theorem five_boxes (w : World) (o1 o2 o3 o4 o5 : Obj) : Below w.heap.size w (((((w.alloc o1).alloc o2).alloc o3).alloc o4).alloc o5) ∧ (((((w.alloc o1).alloc o2).alloc o3).alloc o4).alloc o5).heap[w.heap.size]? = some o1 ∧ (((((w.alloc o1).alloc o2).alloc o3).alloc o4).alloc o5).heap[w.heap.size + 1]? = some o2 ∧
    (((((w.alloc o1).alloc o2).alloc o3).alloc o4).alloc o5).heap[w.heap.size + 1 + 1]? = some o3 ∧ (((((w.alloc o1).alloc o2).alloc o3).alloc o4).alloc o5).heap[w.heap.size + 1 + 1 + 1]? = some o4 ∧ (((((w.alloc o1).alloc o2).alloc o3).alloc o4).alloc o5).heap[w.heap.size + 1 + 1 + 1 + 1]? = some o5 := by
  have h2 := two_boxes w o1 o2
  have e2 : ((w.alloc o1).alloc o2).heap.size = w.heap.size + 1 + 1 := by simp
  have h3 := one_box ((w.alloc o1).alloc o2) o3
  have e3 : (((w.alloc o1).alloc o2).alloc o3).heap.size = w.heap.size + 1 + 1 + 1 := by simp
  have h4 := one_box (((w.alloc o1).alloc o2).alloc o3) o4
  have e4 : ((((w.alloc o1).alloc o2).alloc o3).alloc o4).heap.size = w.heap.size + 1 + 1 + 1 + 1 := by simp
  have h5 := one_box ((((w.alloc o1).alloc o2).alloc o3).alloc o4) o5
  refine ⟨((h2.1.trans (h3.1.mono h2.1.size)).trans (h4.1.mono (by omega))).trans (h5.1.mono (by omega)), ?_, ?_, ?_, ?_, ?_⟩
  · rw [h5.1.block _ (by omega), h4.1.block _ (by omega), h3.1.block _ (by omega)]; exact h2.2.1
  · rw [h5.1.block _ (by omega), h4.1.block _ (by omega), h3.1.block _ (by omega)]; exact h2.2.2
  · rw [h5.1.block _ (by omega), h4.1.block _ (by omega), ← e2]; exact h3.2
  · rw [h5.1.block _ (by omega), ← e3]; exact h4.2
  · rw [← e4]; exact h5.2
set_option maxRecDepth 100000 in
set_option maxHeartbeats 4000000 in
theorem check45 (y : Syst) (t : T) (hy : Little y) (hf : Fit t) (S : Nat → Prop) (s : Int) (K B : Option Addr) (m kc k d : Nat) (A : Option Addr) (cp : Nat) (w : World) (ht : TreeIn S w t [.int .i64 s, .slice K m kc, .slice B k d]) (hr : Row w A (y.rows.flatMap r4Cells)) :
    Calls Tryd.prog 45 #[sysV y A cp, .agg #[.int .i64 s, .slice K m kc, .slice B k d], .func (.func 35) #[] #[], .func (.func 46) #[] #[]] w (CheckRet (checkP y t) w) := by
  have HBB := Lib.hid (five_boxes w (.cells #[.int .i64 y.l0, .int .i64 y.l1, .int .i64 y.l2, .int .i64 y.h0, .int .i64 y.h1, .int .i64 y.h2, .slice A y.rows.length cp] 25) (.cells #[.int .i64 s, .slice K m kc, .slice B k d] 38) (.cells #[.func (.func 35) #[] #[]] 59) (.cells #[.func (.func 46) #[] #[]] 76) (.cells #[.slice none 0 0] 27))
  have HV := Lib.hid (valid_any t hf S s K B m kc k d _ (ht.below HBB.out.1))
  obtain ⟨t0, t1, t2⟩ := cell3 HBB.out.2.2.1
  unfold sysV
  unfold checkP
  by_cases hv : validB t = true
  · rw [if_pos hv]
    rw [hv] at HV
    have hal : allB t = true := by
      unfold validB at hv
      simp only [Bool.and_eq_true] at hv
      exact hv.2
    have HC := Lib.hid (pwrong_any (nodes t) t (Nat.le_refl _) hf hal y)
    have HT := Lib.hid (TreeIn.stays (S' := fun g => g < w.heap.size) (fun _ _ _ => rfl) (fun g _ hg => hg) _ _ ht)
    have HR := Lib.hid (RowS.stays (S' := fun g => g < w.heap.size) (RowS.all hr) (fun _ _ _ => rfl) (fun g _ hg => hg))
    have HS := Lib.hid (side_le hy.box)
    have HY := Lib.hid hy
    unfold sysV at HC
    clear hv hal ht hr hf hy
    cases hw : wrong t y with
    | none =>
      rw [hw] at HC
      clear hw
      go_enter Tryd.func45, Tryd.ntmps45
      go_wp2_with fail
      refine HV.out.mono ?_
      rintro e w2 ⟨rfl, hb2⟩
      have HB2 := Lib.hid (HBB.out.1.trans (hb2.mono HBB.out.1.size))
      have B1 := Lib.hid ((hb2.block _ (lt_of_block HBB.out.2.1)).trans HBB.out.2.1)
      have B2 := Lib.hid ((hb2.block _ (lt_of_block HBB.out.2.2.1)).trans HBB.out.2.2.1)
      have B3 := Lib.hid ((hb2.block _ (lt_of_block HBB.out.2.2.2.1)).trans HBB.out.2.2.2.1)
      have B4 := Lib.hid ((hb2.block _ (lt_of_block HBB.out.2.2.2.2.1)).trans HBB.out.2.2.2.2.1)
      have B5 := Lib.hid ((hb2.block _ (lt_of_block HBB.out.2.2.2.2.2)).trans HBB.out.2.2.2.2.2)
      obtain ⟨a0, a1, a2, a3, a4, a5, a6⟩ := cell7 B1.out
      obtain ⟨c0, c1, c2⟩ := cell3 B2.out
      have hz := lt_of_block B5.out
      clear hb2 t0 t1 t2
      have hz1 := lt_of_block B1.out
      have hz2 := lt_of_block B2.out
      have HFN := Lib.hid (one_box w2 (.cells #[wrongF (w.heap.size + 1 + 1 + 1) (w.heap.size + 1 + 1) (w.heap.size + 1 + 1 + 1 + 1) w2.heap.size] 103))
      unfold wrongF at HFN
      go_upto_region 5 with fail
      have HQ := Lib.hid HFN.out.1
      have HE := Lib.hid HFN.out.2
      have HB3 := Lib.hid (HB2.out.trans (HQ.out.mono HB2.out.size))
      have B1' := Lib.hid ((HQ.out.block _ hz1).trans B1.out)
      have B2' := Lib.hid ((HQ.out.block _ hz2).trans B2.out)
      have B3' := Lib.hid ((HQ.out.block _ (lt_of_block B3.out)).trans B3.out)
      have B4' := Lib.hid ((HQ.out.block _ (lt_of_block B4.out)).trans B4.out)
      have B5' := Lib.hid ((HQ.out.block _ hz).trans B5.out)
      have HCAP : Hid (Caps w.heap.size (w.heap.size + 1 + 1 + 1) (w.heap.size + 1 + 1) (w.heap.size + 1 + 1 + 1 + 1) w2.heap.size (w2.heap.size + 1) _) := Lib.hid ⟨B4'.out, B3'.out, HE.out, by omega, by omega, by omega, by omega, by omega, by omega, by omega, by omega, by omega, by omega⟩
      have HPATH : Hid (PathIs (w2.heap.size + 1) (w.heap.size + 1 + 1 + 1 + 1) 27 3 (.slice none 0 0) [] _) := Lib.hid ⟨B5'.out, World.ownsRow_nil _ _ _ _, by omega, by have := lt_of_block HE.out; omega⟩
      generalize w2.alloc _ = W3 at *
      clear a0 a1 a2 a3 a4 a5 a6 c0 c1 c2
      obtain ⟨a0, a1, a2, a3, a4, a5, a6⟩ := cell7 B1'.out
      obtain ⟨c0, c1, c2⟩ := cell3 B2'.out
      have f0 := cell_of_one HE.out
      have hz3 := lt_of_block B5'.out
      have hz4 := lt_of_block HE.out
      go_wp2_with fail
      refine (HC.out w.heap.size _ _ _ _ _ [.int .i64 s, .slice K m kc, .slice B k d] A cp _ _ W3 HY.out (HT.out.below HB3.out) (HR.out.stays (Stays.of_below HB3.out) (fun _ h _ => h)) HCAP.out HPATH.out (by have := HS.out; simp; omega)).mono ?_
      rintro e w5 ⟨v5, rfl, hp5, hs5⟩
      have HBF := Lib.hid (HB3.out.trans (hs5.below (b0 := w.heap.size) (by omega) (fun g h => by cases h) (by omega)))
      simp only [Option.getD_none, List.append_nil] at hp5
      have p0 := cell_of_one hp5.1
      have p1 := free_of_one hp5.1
      have p2 := lt_of_block hp5.1
      clear hp5 hs5 a0 a1 a2 a3 a4 a5 a6 c0 c1 c2 f0
      go_wp2
      refine bodyPost_ret (v := .tuple #[.slice none 0 0, .int .i64 0]) (by simp [results, Tryd.results45, go_sem, p0]) rfl ⟨none, 0, rfl, Row.nil _ _, HBF.out.setCell (by simp; omega) _⟩
    | some q =>
      rw [hw] at HC
      clear hw
      go_enter Tryd.func45, Tryd.ntmps45
      go_wp2_with fail
      refine HV.out.mono ?_
      rintro e w2 ⟨rfl, hb2⟩
      have HB2 := Lib.hid (HBB.out.1.trans (hb2.mono HBB.out.1.size))
      have B1 := Lib.hid ((hb2.block _ (lt_of_block HBB.out.2.1)).trans HBB.out.2.1)
      have B2 := Lib.hid ((hb2.block _ (lt_of_block HBB.out.2.2.1)).trans HBB.out.2.2.1)
      have B3 := Lib.hid ((hb2.block _ (lt_of_block HBB.out.2.2.2.1)).trans HBB.out.2.2.2.1)
      have B4 := Lib.hid ((hb2.block _ (lt_of_block HBB.out.2.2.2.2.1)).trans HBB.out.2.2.2.2.1)
      have B5 := Lib.hid ((hb2.block _ (lt_of_block HBB.out.2.2.2.2.2)).trans HBB.out.2.2.2.2.2)
      obtain ⟨a0, a1, a2, a3, a4, a5, a6⟩ := cell7 B1.out
      obtain ⟨c0, c1, c2⟩ := cell3 B2.out
      have hz := lt_of_block B5.out
      clear hb2 t0 t1 t2
      have hz1 := lt_of_block B1.out
      have hz2 := lt_of_block B2.out
      have HFN := Lib.hid (one_box w2 (.cells #[wrongF (w.heap.size + 1 + 1 + 1) (w.heap.size + 1 + 1) (w.heap.size + 1 + 1 + 1 + 1) w2.heap.size] 103))
      unfold wrongF at HFN
      go_upto_region 5 with fail
      have HQ := Lib.hid HFN.out.1
      have HE := Lib.hid HFN.out.2
      have HB3 := Lib.hid (HB2.out.trans (HQ.out.mono HB2.out.size))
      have B1' := Lib.hid ((HQ.out.block _ hz1).trans B1.out)
      have B2' := Lib.hid ((HQ.out.block _ hz2).trans B2.out)
      have B3' := Lib.hid ((HQ.out.block _ (lt_of_block B3.out)).trans B3.out)
      have B4' := Lib.hid ((HQ.out.block _ (lt_of_block B4.out)).trans B4.out)
      have B5' := Lib.hid ((HQ.out.block _ hz).trans B5.out)
      have HCAP : Hid (Caps w.heap.size (w.heap.size + 1 + 1 + 1) (w.heap.size + 1 + 1) (w.heap.size + 1 + 1 + 1 + 1) w2.heap.size (w2.heap.size + 1) _) := Lib.hid ⟨B4'.out, B3'.out, HE.out, by omega, by omega, by omega, by omega, by omega, by omega, by omega, by omega, by omega, by omega⟩
      have HPATH : Hid (PathIs (w2.heap.size + 1) (w.heap.size + 1 + 1 + 1 + 1) 27 3 (.slice none 0 0) [] _) := Lib.hid ⟨B5'.out, World.ownsRow_nil _ _ _ _, by omega, by have := lt_of_block HE.out; omega⟩
      generalize w2.alloc _ = W3 at *
      clear a0 a1 a2 a3 a4 a5 a6 c0 c1 c2
      obtain ⟨a0, a1, a2, a3, a4, a5, a6⟩ := cell7 B1'.out
      obtain ⟨c0, c1, c2⟩ := cell3 B2'.out
      have f0 := cell_of_one HE.out
      have hz3 := lt_of_block B5'.out
      have hz4 := lt_of_block HE.out
      go_wp2_with fail
      refine (HC.out w.heap.size _ _ _ _ _ [.int .i64 s, .slice K m kc, .slice B k d] A cp _ _ W3 HY.out (HT.out.below HB3.out) (HR.out.stays (Stays.of_below HB3.out) (fun _ h _ => h)) HCAP.out HPATH.out (by have := HS.out; simp; omega)).mono ?_
      rintro e w5 ⟨v5, rfl, hp5, hs5⟩
      have HBF := Lib.hid (HB3.out.trans (hs5.below (b0 := w.heap.size) (by omega) (fun g h => by cases h) (by omega)))
      simp only [Option.getD_some, List.nil_append] at hp5
      obtain ⟨B6, d6, rfl, hd6⟩ := own_shape hp5.2.1
      have HR6 := Lib.hid (Row.of_own hp5.2.1)
      have HP6 := Lib.hid hp5
      have p0 := cell_of_one hp5.1
      have p1 := free_of_one hp5.1
      have p2 := lt_of_block hp5.1
      clear hp5 hs5 a0 a1 a2 a3 a4 a5 a6 c0 c1 c2 f0
      go_wp2
      refine bodyPost_ret (v := .tuple #[.slice B6 q.length d6, .int .i64 21]) (by simp [results, Tryd.results45, go_sem, p0]) rfl ⟨B6, d6, rfl, Row.of_own (ownsRow_setCell_other HP6.out.2.1 (fun e => by have h1 := (HP6.out.own _ e).1; have h2 : w.heap.size + 1 + 1 + 1 + 1 < w2.heap.size + 1 := HP6.out.2.2.1; have h3 : w2.heap.size + 1 ≤ w.heap.size + 1 + 1 + 1 + 1 := h1; omega) _), HBF.out.setCell (by simp; omega) _⟩
  · rw [if_neg hv]
    rw [show validB t = false by simpa using hv] at HV
    clear hv ht hr hf hy
    go_enter Tryd.func45, Tryd.ntmps45
    go_wp2_with fail
    refine HV.out.mono ?_
    rintro e w2 ⟨rfl, hb2⟩
    have HB2 := Lib.hid (HBB.out.1.trans (hb2.mono HBB.out.1.size))
    have B1 := Lib.hid ((hb2.block _ (lt_of_block HBB.out.2.1)).trans HBB.out.2.1)
    have B2 := Lib.hid ((hb2.block _ (lt_of_block HBB.out.2.2.1)).trans HBB.out.2.2.1)
    have B3 := Lib.hid ((hb2.block _ (lt_of_block HBB.out.2.2.2.1)).trans HBB.out.2.2.2.1)
    have B4 := Lib.hid ((hb2.block _ (lt_of_block HBB.out.2.2.2.2.1)).trans HBB.out.2.2.2.2.1)
    have B5 := Lib.hid ((hb2.block _ (lt_of_block HBB.out.2.2.2.2.2)).trans HBB.out.2.2.2.2.2)
    obtain ⟨a0, a1, a2, a3, a4, a5, a6⟩ := cell7 B1.out
    obtain ⟨c0, c1, c2⟩ := cell3 B2.out
    have hz := lt_of_block B5.out
    clear hb2 t0 t1 t2
    obtain p0 := cell_of_one B5.out
    have p1 := free_of_one B5.out
    go_wp2
    refine bodyPost_ret (v := .tuple #[.slice none 0 0, .int .i64 1]) (by simp [results, Tryd.results45, go_sem, p0]) rfl ⟨none, 0, rfl, Row.nil _ _, HB2.out.setCell (by simp; omega) _⟩
set_option maxRecDepth 100000 in
theorem check_any (y : Syst) (t : T) (hy : Little y) (hf : Fit t) (S : Nat → Prop) (s : Int) (K B : Option Addr) (m kc k d : Nat) (A : Option Addr) (cp : Nat) (w : World) (ht : TreeIn S w t [.int .i64 s, .slice K m kc, .slice B k d]) (hr : Row w A (y.rows.flatMap r4Cells)) :
    Calls Tryd.prog 14 #[sysV y A cp, .agg #[.int .i64 s, .slice K m kc, .slice B k d]] w (CheckRet (checkP y t) w) := by
  have HBB := Lib.hid (two_boxes w (.cells #[.int .i64 y.l0, .int .i64 y.l1, .int .i64 y.l2, .int .i64 y.h0, .int .i64 y.h1, .int .i64 y.h2, .slice A y.rows.length cp] 25) (.cells #[.int .i64 s, .slice K m kc, .slice B k d] 38))
  have HC := Lib.hid (check45 y t hy hf S s K B m kc k d A cp _ (ht.below HBB.out.1) (hr.below HBB.out.1))
  unfold sysV at HC ⊢
  clear ht hr hf hy
  generalize checkP y t = r at *
  go_enter Tryd.func14, Tryd.ntmps14
  go_wp2_with fail
  refine HC.out.mono ?_
  rintro e w2 ⟨B2, d2, rfl, hr2, hb2⟩
  go_wp2
  go_ret2
  exact ⟨B2, d2, rfl, hr2, HBB.out.1.trans (hb2.mono HBB.out.1.size)⟩
end Go.Proofs.YtjjohllfidmkjaaDoor.PfW
