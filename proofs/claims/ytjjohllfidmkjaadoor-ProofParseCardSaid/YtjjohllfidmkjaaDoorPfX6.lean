/- Walk: write at any valid tree. Conditions: as stated. -/
import Derived.Test.YtjjohllfidmkjaaDoorPfX5
import Derived.Deep.RegionHeld3
import Derived.Deep.RegionLaw
import Derived.Deep.DrawnRows
namespace Go.Proofs.YtjjohllfidmkjaaDoor.PfW
open Go Go.RowKit Go.Proofs.YtjjohllfidmkjaaDoor.Mem Go.Proofs.YtjjohllfidmkjaaDoor.Pf
attribute [local go_sem ↓] Go.wp_at_zero Go.wp_at_succ
theorem allL_take : ∀ (ks : List T) (_ : allL ks = true) (j : Nat), allL (ks.take j) = true
  | _, _, 0 => by rw [List.take_zero]; unfold allL; rfl
  | [], _, j + 1 => by rw [List.take_nil]; unfold allL; rfl
  | k :: r, h, j + 1 => by
    unfold allL at h
    simp only [Bool.and_eq_true] at h
    rw [List.take_succ_cons]
    unfold allL
    simp only [Bool.and_eq_true]
    exact ⟨h.1, allL_take r h.2 j⟩
theorem allL_get : ∀ (ks : List T) (_ : allL ks = true) (j : Nat) (hj : j < ks.length), allB ks[j] = true
  | [], _, j, hj => by simp at hj
  | k :: r, h, 0, _ => by
    unfold allL at h
    simp only [Bool.and_eq_true] at h
    exact h.1
  | k :: r, h, j + 1, hj => by
    unfold allL at h
    simp only [Bool.and_eq_true] at h
    exact allL_get r h.2 j (by simpa using hj)
theorem kidsText_lenT (ks : List T) (h : allL ks = true) (j : Nat) : (kidsText (ks.take j)).length ≤ 600 * nodesL (ks.take j) := kidsText_len _ (allL_take ks h j)
set_option maxRecDepth 100000 in
set_option maxHeartbeats 8000000 in
theorem write_any : ∀ (m : Nat) (t : T), nodes t ≤ m → allB t = true → ∀ (vs : List Value) (B n : Nat) (sv : Value) (xs : List Value) (w : World),
    TreeIn (fun g => g < B) w t vs → w.ownsRow B 5 1 sv n xs → 3 ≤ B → B ≤ w.heap.size → n + 600 * nodes t ≤ 140737488355328 → Glob w →
    Calls Tryd.prog 50 #[sv, .agg vs.toArray] w fun e w' => ∃ v', e = .returned v' ∧ w'.ownsRow B 5 1 v' (n + (text t).length) (xs ++ Lib.byteCells (text t)) ∧ Below B w w' ∧ Lib.OthersKept 5 none w w'
  | 0, .mk s ks lf, h, _, _, _, _, _, _, _, _, _, _, _, _, _ => by unfold nodes at h; omega
  | m + 1, .mk s ks lf, h, hv, vs, B, n, sv, xs, w, ht, hown, hB, hBw, hlim, hG => by
    have IH := Lib.hid (write_any m)
    obtain ⟨hnd, hak⟩ := all_parts hv
    unfold TreeIn at ht
    obtain ⟨A, c, Bf, d, ws, rfl, hc, hd, hr, hk, hlf⟩ := ht
    have hnk : nodes (.mk s ks lf) = 1 + nodesL ks := by rw [nodes]
    by_cases h0 : ks.length = 0
    · unfold nodeB at hnd
      rw [if_neg (by omega)] at hnd
      simp only [Bool.and_eq_true, decide_eq_true_eq] at hnd
      have e0 : ks = [] := List.eq_nil_of_length_eq_zero h0
      subst e0
      exact write_leaf s lf hnd.2 hnd.1.2 A c Bf d B n sv xs w hown hB hBw (by rw [hnk] at hlim; omega) hG hlf
    · unfold nodeB at hnd
      rw [if_pos (by omega)] at hnd
      simp only [Bool.and_eq_true, decide_eq_true_eq] at hnd
      have hsm := hnd.2
      have hk100 : ks.length ≤ 100 := hnd.1.2
      have hil := (itoa_len hsm).2
      have HK0 := Lib.hid hk
      have HR := Lib.hid hr
      have HAK := Lib.hid hak
      rw [hnk] at h hlim
      have HBB := Lib.hid (one_box w (.cells #[.int .i64 s, .slice A ks.length c, .slice Bf lf.length d] 38))
      have HOWN := Lib.hid (own_below hown HBB.out.1)
      have HBW : Hid (Below B w (w.alloc (.cells #[.int .i64 s, .slice A ks.length c, .slice Bf lf.length d] 38))) := Lib.hid (HBB.out.1.mono hBw)
      have HSZ : Hid (B ≤ (w.alloc (.cells #[.int .i64 s, .slice A ks.length c, .slice Bf lf.length d] 38)).heap.size) := Lib.hid (Nat.le_trans hBw HBB.out.1.size)
      have HX := Lib.hid HBB.out.2
      have HKW : Hid (Lib.OthersKept 5 none w (w.alloc (.cells #[.int .i64 s, .slice A ks.length c, .slice Bf lf.length d] 38))) := Lib.hid (fun k o h _ _ => (HBB.out.1.block k (lt_of_block h)).trans h)
      have HG := Lib.hid hG
      obtain ⟨i0, ia, ib, ic, id⟩ := info_parts info_u8
      have hz := lt_of_block HBB.out.2
      obtain ⟨x0, x1, x2⟩ := cell3 HBB.out.2
      have d0 : ((ks.length : Int) = 0) = False := eq_false (by omega)
      clear hk hr hak hown hlf hc hd hv hnd HBB hG hnk
      go_enter Tryd.func50, Tryd.ntmps50
      go_upto_region 11 with fail
      generalize w.alloc (.cells #[.int .i64 s, .slice A ks.length c, .slice Bf lf.length d] 38) = W at *
      go_region_held3 (fun w' => w'.cell? ⟨w.heap.size, 0, none⟩ = some (.int .i64 s)) (first | assumption | go_keep)
        (first | (refine step_append_lies _ (by rfl) _ _ 80 (by rfl) B 5 i0 _ 1 1 Tryd.underlying80 ia ib ic id rfl (by omega) sv n xs (by rfl) (HOWN.out.alloc _) ⟨W.heap.size, 0, none⟩ 1 1 [.int .u8 91] (by rfl) (by rfl) (World.news_of_block (cs := #[.int .u8 91]) (t := 5) (fr := (0, 0)) (heap_alloc_new _ _)) (by simp [Value.oneCell']) (by omega) (by unfold maxLen; omega) (by omega) (by simp; omega) (W.heap.size + 1) (by simp) ?_; intro gq cq w3 hown3 hgrow _ _; have HO3 := Lib.hid hown3; have HK3 : Hid (Lib.OthersKept 5 none W w3) := Lib.hid (Lib.OthersKept.grown (by first | exact ((Lib.OthersKept.refl 5 none W).alloc (.cells #[.int .u8 91] 5)) | exact ((Lib.OthersKept.refl 5 none W).alloc (.cells #[.int .u8 91] 5)).drew) hgrow (by exact own_cells (HOWN.out.alloc (.cells #[.int .u8 91] 5)))); have HB3 : Hid (Below B W w3) := Lib.hid (Below.grown (by first | exact ((Below.refl B W).alloc HSZ.out (.cells #[.int .u8 91] 5)) | exact below_drew ((Below.refl B W).alloc HSZ.out (.cells #[.int .u8 91] 5))) hgrow (by have := HSZ.out; simp; omega) (fun x hx => (HOWN.out.lt x hx).1)); have x0 := (cell3 (HK3.out _ _ HX.out (by simp) (fun c fz e => by cases e))).1; clear hgrow hown3) | (go_at_call 67; refine (append_num B (n + 1) s (by have := hsm; simp only [smallB, Bool.and_eq_true, decide_eq_true_eq] at this; omega) _ _ _ HO3.out hB (Nat.le_trans HSZ.out (Below.size HB3.out)) (by omega) (HG.out.below3 ((HBW.out.trans HB3.out).mono hB))).mono ?_; rintro e w4 ⟨v4, rfl, ho4, hb4, hk4⟩; have x4 := (cell3 (hk4 _ _ (show _ = _ from HK3.out _ _ HX.out (by simp) (fun c fz e => by cases e)) (by simp) (fun c fz e => by cases e))).1))
      have HO4 : Hid (w4.ownsRow B 5 1 v4 (n + 1 + (Lib.itoa s).length + (kidsText (ks.take 0)).length) (xs ++ (Value.int .u8 91 :: Lib.byteCells (Lib.itoa s ++ kidsText (ks.take 0))))) := Lib.hid (by simpa [kidsText, Lib.byteCells, Nat.add_assoc] using ho4)
      have HB4 := Lib.hid (HB3.out.trans hb4)
      have HK4 := Lib.hid (HK3.out.trans hk4)
      clear ho4 hb4 hk4 HO3 HB3 HK3 x0 x1 x2
      obtain ⟨x0, x1, x2⟩ := cell3 (HK4.out _ _ HX.out (by simp) (fun c fz e => by cases e))
      go_wp2
      go_loopw [0, 8, 45] (fun t0 _ i wr => ∃ j : Nat, i = .int .i64 (j : Int) ∧ j ≤ ks.length ∧ Hid (wr.ownsRow B 5 1 t0 (n + 1 + (Lib.itoa s).length + (kidsText (ks.take j)).length) (xs ++ (Value.int .u8 91 :: Lib.byteCells (Lib.itoa s ++ kidsText (ks.take j))))) ∧ Hid (Below B W wr) ∧ Hid (Lib.OthersKept 5 none W wr)) (fun _ _ i _ => ks.length - (intOf i).toNat)
      case atStart => exact ⟨0, rfl, Nat.zero_le _, HO4, HB4, HK4⟩
      case round =>
        obtain ⟨j, rfl, hj, HO, HB1, HK⟩ := hrel
        have hlb := kidsText_lenT ks HAK.out j
        have hlt0 := nodesL_take ks j
        have hbz : B ≤ wr.heap.size := Nat.le_trans HSZ.out (Below.size HB1.out)
        obtain ⟨vA, vc, rfl, hvc⟩ := own_shape HO.out
        by_cases hlt : j < ks.length
        · have hne : ws ≠ [] := by
            intro h0
            have := HK0.out.len
            rw [h0] at this
            simp at this; omega
          obtain ⟨g, off, rfl, hgB, hg, hc⟩ := HR.out hne
          obtain ⟨x, y, z, hT, e0, e1, e2⟩ := HK0.out.get j hlt
          have hl := HK0.out.len
          have hbel : Below B w wr := HBW.out.trans HB1.out
          have a0 : wr.cell? ⟨g, off + j * 3, none⟩ = some x := (hbel.cell (p := ⟨g, off + j * 3, none⟩) hgB).trans (by rw [hc (j * 3) (by omega), show j * 3 = 3 * j by omega]; exact e0)
          have a1 : wr.cell? ⟨g, off + j * 3 + 1, none⟩ = some y := (hbel.cell (p := ⟨g, off + j * 3 + 1, none⟩) hgB).trans (by rw [show off + j * 3 + 1 = off + (3 * j + 1) by omega, hc (3 * j + 1) (by omega)]; exact e1)
          have a2 : wr.cell? ⟨g, off + j * 3 + 2, none⟩ = some z := (hbel.cell (p := ⟨g, off + j * 3 + 2, none⟩) hgB).trans (by rw [show off + j * 3 + 2 = off + (3 * j + 2) by omega, hc (3 * j + 2) (by omega)]; exact e2)
          obtain ⟨xs1, xA, xn, xc, xB, xm, xd, rfl, rfl, rfl⟩ := tree_shape hT
          have hs := nodesL_take ks (j + 1)
          have hs1 := kid_nodes hlt
          have HN := Lib.hid (IH.out ks[j] (by omega) (allL_get ks HAK.out j hlt))
          have HT := Lib.hid hT
          have HBE : Hid (Below B wr (wr.alloc (.cells #[.int .i64 xs1, .slice xA xn xc, .slice xB xm xd] 38))) := Lib.hid ((Below.refl B wr).alloc hbz _)
          have HKE : Hid (Lib.OthersKept 5 none wr (wr.alloc (.cells #[.int .i64 xs1, .slice xA xn xc, .slice xB xm xd] 38))) := Lib.hid ((Lib.OthersKept.refl 5 none wr).alloc _)
          have HZ0 : Hid (B ≤ (wr.alloc (.cells #[.int .i64 xs1, .slice xA xn xc, .slice xB xm xd] 38)).heap.size) := Lib.hid (by simp; omega)
          have HOW := Lib.hid (HO.out.alloc (.cells #[.int .i64 xs1, .slice xA xn xc, .slice xB xm xd] 38))
          have HELW := Lib.hid (heap_alloc_new wr (.cells #[.int .i64 xs1, .slice xA xn xc, .slice xB xm xd] 38))
          have hkl := kidsText_take ks j hlt
          have HKL := Lib.hid hkl
          clear hc e0 e1 e2 hT hl hkl x0 x1 x2
          generalize hnq : nodes ks[j] = nq at *
          generalize hnl : (kidsText (ks.take j)).length = nl at *
          have HNL := Lib.hid hnl
          clear hnl
          go_upto_region 15 with fail
          clear a0 a1 a2
          obtain ⟨b0, b1, b2⟩ := cell3 HELW.out
          generalize wr.alloc (.cells #[.int .i64 xs1, .slice xA xn xc, .slice xB xm xd] 38) = W0 at *
          have hz0 := HZ0.out
          go_region_held3 (fun w' => w'.cell? ⟨wr.heap.size, 0, none⟩ = some (.int .i64 xs1) ∧ w'.cell? ⟨wr.heap.size, 1, none⟩ = some (.slice xA xn xc) ∧ w'.cell? ⟨wr.heap.size, 2, none⟩ = some (.slice xB xm xd)) (first | assumption | go_keep)
            (first | (refine step_append_lies _ (by rfl) _ _ 80 (by rfl) B 5 i0 _ 1 1 Tryd.underlying80 ia ib ic id rfl (by omega) (.slice vA (n + 1 + (Lib.itoa s).length + nl) vc) (n + 1 + (Lib.itoa s).length + nl) (xs ++ (Value.int .u8 91 :: Lib.byteCells (Lib.itoa s ++ kidsText (ks.take j)))) (by rfl) (HOW.out.alloc _) ⟨W0.heap.size, 0, none⟩ 1 1 [.int .u8 32] (by rfl) (by rfl) (World.news_of_block (cs := #[.int .u8 32]) (t := 5) (fr := (0, 0)) (heap_alloc_new _ _)) (by simp [Value.oneCell']) (by omega) (by unfold maxLen; omega) (by omega) (by simp; omega) (W0.heap.size + 1) (by simp) ?_; intro gq cq w3 hown3 hgrow _ _; have HO5 := Lib.hid hown3; have HK5 : Hid (Lib.OthersKept 5 none W0 w3) := Lib.hid (Lib.OthersKept.grown (by first | exact ((Lib.OthersKept.refl 5 none W0).alloc (.cells #[.int .u8 32] 5)) | exact ((Lib.OthersKept.refl 5 none W0).alloc (.cells #[.int .u8 32] 5)).drew) hgrow (by exact own_cells (HOW.out.alloc (.cells #[.int .u8 32] 5)))); have HB5 : Hid (Below B W0 w3) := Lib.hid (Below.grown (by first | exact ((Below.refl B W0).alloc HZ0.out (.cells #[.int .u8 32] 5)) | exact below_drew ((Below.refl B W0).alloc HZ0.out (.cells #[.int .u8 32] 5))) hgrow (by have := HZ0.out; simp; omega) (fun x hx => (HOW.out.lt x hx).1)); obtain ⟨y0, y1, y2⟩ := cell3 (HK5.out _ _ HELW.out (by simp) (fun c fz e => by cases e)); clear hgrow hown3) | (go_at_call 50; refine (HN.out _ B _ _ _ _ (TreeIn.stays (fun x hx _ => ((HBW.out.trans HB1.out).trans (HBE.out.trans HB5.out)).block x hx) (fun x hx _ => hx) _ _ HT.out) HO5.out hB (Nat.le_trans HZ0.out (Below.size HB5.out)) (by omega) (HG.out.below3 (((HBW.out.trans HB1.out).trans (HBE.out.trans HB5.out)).mono hB))).mono ?_; rintro e w6 ⟨v6, rfl, ho6, hb6, hk6⟩; obtain ⟨z0, z1, z2⟩ := cell3 (hk6 _ _ (show _ = _ from HK5.out _ _ HELW.out (by simp) (fun c fz e => by cases e)) (by simp) (fun c fz e => by cases e))))
          have HO6 : Hid (w6.ownsRow B 5 1 v6 (n + 1 + (Lib.itoa s).length + (kidsText (ks.take (j + 1))).length) (xs ++ (Value.int .u8 91 :: Lib.byteCells (Lib.itoa s ++ kidsText (ks.take (j + 1)))))) := Lib.hid (by rw [HKL.out, List.length_append, HNL.out]; simpa [Lib.byteCells, Nat.add_assoc, Nat.add_comm, Nat.add_left_comm] using ho6)
          have HB6 := Lib.hid (HB1.out.trans (HBE.out.trans (HB5.out.trans hb6)))
          have HK6 := Lib.hid (HK.out.trans (HKE.out.trans (HK5.out.trans hk6)))
          clear ho6 hb6 hk6
          go_wp2
          go_roundw
          case rel => exact ⟨j + 1, by go_num, by omega, HO6, HB6, HK6⟩
          case measure => simp [intOf]; omega
        · have hje := Lib.hid (show j = ks.length by omega)
          have e1 : decide ((j : Int) < (ks.length : Int)) = false := decide_eq_false (by omega)
          go_wp2_with (at_builtin; refine wpList_append_lies _ rfl _ _ 80 rfl B 5 i0 _ 1 1 Tryd.underlying80 ia ib ic id rfl (by omega) (.slice vA (n + 1 + (Lib.itoa s).length + (kidsText (ks.take j)).length) vc) (n + 1 + (Lib.itoa s).length + (kidsText (ks.take j)).length) (xs ++ (Value.int .u8 91 :: Lib.byteCells (Lib.itoa s ++ kidsText (ks.take j)))) rfl (HO.out.alloc _) ⟨wr.heap.size, 0, none⟩ 1 1 [.int .u8 93] rfl rfl (World.news_of_block (cs := #[.int .u8 93]) (t := 5) (fr := (0, 0)) (heap_alloc_new wr _)) (by simp [Value.oneCell']) (by omega) (by unfold maxLen; omega) (by omega) (by simp; omega) (wr.heap.size + 1) (by simp) ?_)
          intro gq2 cq2 w5 hown5 hgrow5 _ _
          have HO5 := Lib.hid hown5
          have HK5 : Hid (Lib.OthersKept 5 none W w5) := Lib.hid ((HK.out.alloc _).grown hgrow5 (own_cells (HO.out.alloc _)))
          have HB5 : Hid (Below B W w5) := Lib.hid ((HB1.out.alloc (Nat.le_trans HSZ.out HB1.out.size) _).grown hgrow5 (by have := HB1.out.size; have := HSZ.out; simp; omega) (fun x hx => (HO.out.lt x hx).1))
          clear hgrow5 hown5
          go_wp2
          go_ret
          refine ⟨_, rfl, ?_, HBW.out.trans HB5.out, HKW.out.trans HK5.out⟩
          have ht : text (.mk s ks lf) = 91 :: Lib.itoa s ++ kidsText ks ++ [93] := by unfold text; exact if_neg h0
          have h9 := HO5.out
          have ht0 : ks.take j = ks := List.take_of_length_le (by rw [hje.out]; exact Nat.le_refl _)
          rw [ht0] at h9
          rw [ht, ht0]
          simpa [Lib.byteCells, Nat.add_assoc, Nat.add_comm, Nat.add_left_comm] using h9
end Go.Proofs.YtjjohllfidmkjaaDoor.PfW
