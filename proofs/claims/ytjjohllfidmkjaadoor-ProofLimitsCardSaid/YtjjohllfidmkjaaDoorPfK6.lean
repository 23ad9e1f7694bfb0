/- Walk: Check over counts, at a full tree. Conditions: the numbers are small; the tree lies in memory. -/
import Derived.Test.YtjjohllfidmkjaaDoorPfK5
import Derived.Test.YtjjohllfidmkjaaDoorPfC3
namespace Go.Proofs.YtjjohllfidmkjaaDoor.Pf
open Go
theorem fitL_rep {t : T} (h : Fit t) : ∀ k : Nat, FitL (List.replicate k t)
  | 0 => by unfold List.replicate FitL; trivial
  | k + 1 => by
    rw [List.replicate_succ]
    unfold FitL
    exact ⟨h, fitL_rep h k⟩
theorem full_fit (k : Nat) (hk : k ≤ 1000) : ∀ l : Nat, Fit (full k l)
  | 0 => by
    unfold full Fit FitL
    simp
  | l + 1 => by
    unfold full Fit
    rw [List.length_replicate]
    exact ⟨by omega, by simp, fitL_rep (full_fit k hk l) k⟩
theorem full_valid (k l : Nat) (hk : 0 < k) (hk2 : k ≤ 110) (h1 : l + 1 ≤ 40) (h2 : l = 0 ∨ k ≤ 100) (h3 : fullN k l ≤ 2000) : validB (full k l) = true := by
  have h5 : nodes (full k l) ≤ 1000000000000 := by rw [full_nodes]; omega
  unfold validB
  rw [nW_eq _ h5, (dW_eq _ h5).1, full_nodes, full_depth k hk, full_all k hk hk2 l (by omega) h2]
  simp only [Bool.and_true, Bool.and_eq_true, decide_eq_true_eq]
  omega
end Go.Proofs.YtjjohllfidmkjaaDoor.Pf
namespace Go.Proofs.YtjjohllfidmkjaaDoor.PfW
open Go Go.RowKit Go.Proofs.YtjjohllfidmkjaaDoor.Mem Go.Proofs.YtjjohllfidmkjaaDoor.Pf
set_option maxRecDepth 100000 in
set_option maxHeartbeats 4000000 in
theorem checkC_any (k l : Nat) (hk : 0 < k) (hk2 : k ≤ 1000) (hl : l ≤ 45) (hv : validB (full k l) = true) (S : Nat → Prop) (s : Int) (K B : Option Addr) (m kc kk d : Nat) (w : World) (ht : TreeIn S w (full k l) [.int .i64 s, .slice K m kc, .slice B kk d]) :
    Calls Tryd.prog 41 #[.agg #[.int .i64 (l : Int), .int .i64 (k : Int)], .agg #[.int .i64 s, .slice K m kc, .slice B kk d], .func (.func 39) #[] #[], .func (.func 42) #[] #[]] w (CheckRet ([], 0) w) := by
  have HBB := Lib.hid (five_boxes w (.cells #[.int .i64 (l : Int), .int .i64 (k : Int)] 64) (.cells #[.int .i64 s, .slice K m kc, .slice B kk d] 38) (.cells #[.func (.func 39) #[] #[]] 66) (.cells #[.func (.func 42) #[] #[]] 69) (.cells #[.slice none 0 0] 27))
  have HV := Lib.hid (valid_any (full k l) (full_fit k (by omega) l) S s K B m kc kk d _ (ht.below HBB.out.1))
  obtain ⟨t0, t1, t2⟩ := cell3 HBB.out.2.2.1
  rw [hv] at HV
  have HC := Lib.hid (wrongC_any k hk hk2 l hl)
  have HT := Lib.hid (TreeIn.stays (S' := fun g => g < w.heap.size) (fun _ _ _ => rfl) (fun g _ hg => hg) _ _ ht)
  clear hv ht
  go_enter Tryd.func41, Tryd.ntmps41
  go_wp2_with fail
  refine HV.out.mono ?_
  rintro e w2 ⟨rfl, hb2⟩
  have HB2 := Lib.hid (HBB.out.1.trans (hb2.mono HBB.out.1.size))
  have B1 := Lib.hid ((hb2.block _ (lt_of_block HBB.out.2.1)).trans HBB.out.2.1)
  have B2 := Lib.hid ((hb2.block _ (lt_of_block HBB.out.2.2.1)).trans HBB.out.2.2.1)
  have B3 := Lib.hid ((hb2.block _ (lt_of_block HBB.out.2.2.2.1)).trans HBB.out.2.2.2.1)
  have B4 := Lib.hid ((hb2.block _ (lt_of_block HBB.out.2.2.2.2.1)).trans HBB.out.2.2.2.2.1)
  have B5 := Lib.hid ((hb2.block _ (lt_of_block HBB.out.2.2.2.2.2)).trans HBB.out.2.2.2.2.2)
  obtain ⟨a0, a1⟩ := cell2c B1.out
  obtain ⟨c0, c1, c2⟩ := cell3 B2.out
  have hz := lt_of_block B5.out
  clear hb2 t0 t1 t2
  have hz1 := lt_of_block B1.out
  have hz2 := lt_of_block B2.out
  have HFN := Lib.hid (one_box w2 (.cells #[wrongC (w.heap.size + 1 + 1 + 1) (w.heap.size + 1 + 1) (w.heap.size + 1 + 1 + 1 + 1) w2.heap.size] 102))
  unfold wrongC at HFN
  go_upto_region 5 with fail
  have HQ := Lib.hid HFN.out.1
  have HE := Lib.hid HFN.out.2
  have HB3 := Lib.hid (HB2.out.trans (HQ.out.mono HB2.out.size))
  have B1' := Lib.hid ((HQ.out.block _ hz1).trans B1.out)
  have B2' := Lib.hid ((HQ.out.block _ hz2).trans B2.out)
  have B3' := Lib.hid ((HQ.out.block _ (lt_of_block B3.out)).trans B3.out)
  have B4' := Lib.hid ((HQ.out.block _ (lt_of_block B4.out)).trans B4.out)
  have B5' := Lib.hid ((HQ.out.block _ hz).trans B5.out)
  have HCAP : Hid (CapK w.heap.size (w.heap.size + 1 + 1 + 1) (w.heap.size + 1 + 1) (w.heap.size + 1 + 1 + 1 + 1) w2.heap.size (w2.heap.size + 1) _) := Lib.hid ⟨B4'.out, B3'.out, HE.out, by omega, by omega, by omega, by omega, by omega, by omega, by omega, by omega⟩
  have HPATH : Hid (PathIs (w2.heap.size + 1) (w.heap.size + 1 + 1 + 1 + 1) 27 3 (.slice none 0 0) [] _) := Lib.hid ⟨B5'.out, World.ownsRow_nil _ _ _ _, by omega, by have := lt_of_block HE.out; omega⟩
  generalize w2.alloc _ = W3 at *
  clear a0 a1 c0 c1 c2
  obtain ⟨a0, a1⟩ := cell2c B1'.out
  obtain ⟨c0, c1, c2⟩ := cell3 B2'.out
  have f0 := cell_of_one HE.out
  have hz3 := lt_of_block B5'.out
  have hz4 := lt_of_block HE.out
  go_wp2_with fail
  refine (HC.out w.heap.size _ _ _ _ _ [.int .i64 s, .slice K m kc, .slice B kk d] _ _ W3 (HT.out.below HB3.out) HCAP.out HPATH.out (by simp; omega)).mono ?_
  rintro e w5 ⟨v5, rfl, hp5, hs5⟩
  have HBF := Lib.hid (HB3.out.trans (hs5.below (b0 := w.heap.size) (by omega) (fun g h => by cases h) (by omega)))
  skip
  have p0 := cell_of_one hp5.1
  have p1 := free_of_one hp5.1
  have p2 := lt_of_block hp5.1
  clear hp5 hs5 a0 a1 c0 c1 c2 f0
  go_wp2
  refine bodyPost_ret (v := .tuple #[.slice none 0 0, .int .i64 0]) (by simp [results, Tryd.results41, go_sem, p0]) rfl ⟨none, 0, rfl, Row.nil _ _, HBF.out.setCell (by simp; omega) _⟩
end Go.Proofs.YtjjohllfidmkjaaDoor.PfW
