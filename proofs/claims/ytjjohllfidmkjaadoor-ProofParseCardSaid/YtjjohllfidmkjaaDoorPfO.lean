/- Walks: Own and Theirs, a tree of one package as one of the other. Conditions: the tree lies in memory; its rows fit. -/
import Derived.Test.YtjjohllfidmkjaaDoorPfE
import Derived.Test.YtjjohllfidmkjaaDoorPfO1
import Derived.Deep.AppendLies
import Derived.Deep.DrawnRows
import Derived.Deep.CutRange
import Derived.Deep.RegionLaw
namespace Go.Proofs.YtjjohllfidmkjaaDoor.PfW
open Go Go.RowKit Go.Proofs.YtjjohllfidmkjaaDoor.Mem Go.Proofs.YtjjohllfidmkjaaDoor.Pf
attribute [local go_sem ↓] Go.wp_at_zero Go.wp_at_succ

theorem info_own : (Tryd.prog.info? 38).map (fun i => (i.zero, i.size, i.bytes)) = some (some (.agg #[.int .i64 0, .slice none 0 0, .slice none 0 0]), 3, 56) := by kernel_rfl
theorem info_theirs : (Tryd.prog.info? 29).map (fun i => (i.zero, i.size, i.bytes)) = some (some (.agg #[.int .i64 0, .slice none 0 0, .slice none 0 0]), 3, 56) := by kernel_rfl
theorem gath_start (S : Nat → Prop) (w : World) (s : Int) (lf : Value) (E : TypeId) (ks : List T) (o1 o2 : Obj) :
    Gath S w.heap.size (w.heap.size + 1 + 1) s lf E ks 0 (.slice none 0 0) [] (((w.alloc o1).alloc o2).alloc (.cells #[.int .i64 s, .slice none 0 0, lf] E)) ∧ (((w.alloc o1).alloc o2).alloc (.cells #[.int .i64 s, .slice none 0 0, lf] E)).heap[w.heap.size + 1]? = some o2 := by
  have e1 : (w.alloc o1).heap.size = w.heap.size + 1 := by simp
  have e2 : ((w.alloc o1).alloc o2).heap.size = w.heap.size + 1 + 1 := by simp
  refine ⟨⟨Nat.zero_le _, ⟨World.ownsRow_nil _ _ _ _, by rw [List.take_zero]; unfold KidsIn; rfl⟩, ?_⟩, ?_⟩
  · rw [← e2]
    exact heap_alloc_new _ _
  · rw [heap_alloc_old _ _ (by rw [e2]; omega), ← e1]
    exact heap_alloc_new _ _
set_option maxRecDepth 100000 in
set_option maxHeartbeats 2000000 in
theorem own_any : ∀ (n : Nat) (t : T), nodes t ≤ n → Fit t → ∀ (S : Nat → Prop) (vs : List Value) (w : World), TreeIn S w t vs →
    Calls Tryd.prog 15 #[.agg vs.toArray] w (TreeRet S w t)
  | 0, .mk s ks lf, h, _, _, _, _, _ => by unfold nodes at h; omega
  | n + 1, .mk s ks lf, h, hf, S, vs, w, ht => by
    have IH := Lib.hid (own_any n)
    unfold TreeIn at ht
    obtain ⟨A, c, B, d, ws, rfl, hc, hd, hr, hk, hlf⟩ := ht
    have HK := Lib.hid hk
    have HR := Lib.hid hr
    have HLF := Lib.hid hlf
    have hnk : nodes (.mk s ks lf) = 1 + nodesL ks := by rw [nodes]
    rw [hnk] at h
    obtain ⟨hfl, _, hfk⟩ := hf.mk'
    have HF := Lib.hid hfk.get
    have HD := Lib.hid hd
    obtain ⟨i0, ia, ib, ic, id⟩ := info_parts info_own
    have HB1 := Lib.hid ((Below.refl w.heap.size w).alloc (Nat.le_refl _) (.cells #[.int .i64 s, .slice A ks.length c, .slice B lf.length d] 29))
    have HB2 := Lib.hid (HB1.out.alloc (by simp) (.cells #[.int .i64 0, .slice none 0 0, .slice none 0 0] 38))
    have HB3 := Lib.hid (HB2.out.alloc (by simp; omega) (.cells #[.int .i64 s, .slice none 0 0, .slice B lf.length d] 38))
    have HG3 := Lib.hid (gath_start S w s (.slice B lf.length d) 38 ks (.cells #[.int .i64 s, .slice A ks.length c, .slice B lf.length d] 29) (.cells #[.int .i64 0, .slice none 0 0, .slice none 0 0] 38))
    clear hk hr hlf hc hd hnk hf hfk
    go_enter Tryd.func15, Tryd.ntmps15
    go_wp2
    go_loopw [5, 14] (fun _ i wr => ∃ (k : Nat) (v : Value) (ws1 : List Value), i = .int .i64 k ∧ Gath S w.heap.size (w.heap.size + 1 + 1) s (.slice B lf.length d) 38 ks k v ws1 wr ∧ Below w.heap.size w wr ∧ wr.heap[w.heap.size + 1]? = some (.cells #[.int .i64 0, .slice none 0 0, .slice none 0 0] 38 (0, 0))) (fun _ i _ => ks.length - (intOf i).toNat)
    case atStart => exact ⟨0, .slice none 0 0, [], rfl, HG3.out.1, HB3.out, HG3.out.2⟩
    case round =>
      obtain ⟨k, v, ws1, rfl, hG, hbel, hbr⟩ := hrel
      have HG := Lib.hid hG
      obtain ⟨hkl, ⟨hown, _⟩, hbx⟩ := hG
      obtain ⟨vA, vc, rfl, hvc⟩ := own_shape hown
      have HOWN := Lib.hid hown
      have hz0 : w.heap.size + 1 + 1 < wr.heap.size := lt_of_block hbx
      clear hown
      by_cases hlt : k < ks.length
      · have hne : ws ≠ [] := by
          intro h0
          have := HK.out.len
          rw [h0] at this
          simp at this; omega
        obtain ⟨g, off, rfl, _, hg, hc⟩ := HR.out hne
        obtain ⟨x, y, z, hT, e0, e1, e2⟩ := HK.out.get k hlt
        have hl := HK.out.len
        have a0 : wr.cell? ⟨g, off + k * 3, none⟩ = some x := (hbel.cell (p := ⟨g, off + k * 3, none⟩) hg).trans (by rw [hc (k * 3) (by omega), show k * 3 = 3 * k by omega]; exact e0)
        have a1 : wr.cell? ⟨g, off + k * 3 + 1, none⟩ = some y := (hbel.cell (p := ⟨g, off + k * 3 + 1, none⟩) hg).trans (by rw [show off + k * 3 + 1 = off + (3 * k + 1) by omega, hc (3 * k + 1) (by omega)]; exact e1)
        have a2 : wr.cell? ⟨g, off + k * 3 + 2, none⟩ = some z := (hbel.cell (p := ⟨g, off + k * 3 + 2, none⟩) hg).trans (by rw [show off + k * 3 + 2 = off + (3 * k + 2) by omega, hc (3 * k + 2) (by omega)]; exact e2)
        obtain ⟨xs, xA, xn, xc, xB, xm, xd, rfl, rfl, rfl⟩ := tree_shape hT
        have hs := nodesL_take ks (k + 1)
        have hs1 := kid_nodes hlt
        have HN := Lib.hid (IH.out ks[k] (by omega) (HF.out k hlt))
        have HT := Lib.hid (TreeIn.stays (S' := fun x => S x ∧ x < w.heap.size) (Stays.of_below hbel) (fun x hx hlt => ⟨hx, hlt⟩) _ _ hT)
        have HBE := Lib.hid ((Below.refl wr.heap.size wr).alloc (Nat.le_refl _) (.cells #[.int .i64 xs, .slice xA xn xc, .slice xB xm xd] 29))
        have HSZ : Hid ((wr.alloc (.cells #[.int .i64 xs, .slice xA xn xc, .slice xB xm xd] 29)).heap.size = wr.heap.size + 1) := Lib.hid (by simp)
        have HEL := Lib.hid (cell3 (heap_alloc_new wr (.cells #[.int .i64 xs, .slice xA xn xc, .slice xB xm xd] 29)))
        have HBX0 := Lib.hid (cell3 ((HBE.out.block _ (lt_of_block hbx)).trans hbx))
        clear hc e0 e1 e2 hT hl hs hs1
        generalize nodes ks[k] = _nq at *
        go_upto_region 5 with fail
        obtain ⟨_, b1, _⟩ := HBX0.out
        obtain ⟨e0, e1, e2⟩ := HEL.out
        have HTW := Lib.hid (HT.out.below HBE.out)
        have HGW := Lib.hid (HG.out.same HBE.out)
        have hz1 : wr.heap.size < (wr.alloc (.cells #[.int .i64 xs, .slice xA xn xc, .slice xB xm xd] 29)).heap.size := by rw [HSZ.out]; omega
        have HOW := Lib.hid (own_below HOWN.out HBE.out)
        have HBXW := Lib.hid ((HBE.out.block _ (lt_of_block hbx)).trans hbx)
        have HELW := Lib.hid (heap_alloc_new wr (.cells #[.int .i64 xs, .slice xA xn xc, .slice xB xm xd] 29))
        have HNE := Lib.hid HOWN.out.lt
        clear a0 a1 a2 HEL HBX0 HT HG HOWN
        generalize wr.alloc (.cells #[.int .i64 xs, .slice xA xn xc, .slice xB xm xd] 29) = W0 at *
        go_region_law
          (first | (refine step_append_lies _ (by rfl) _ _ _ (by rfl) (w.heap.size + 3) 38 i0 _ 3 56 Tryd.underlying36 ia ib ic id rfl (by omega) (.slice vA k vc) k ws1 (by rfl) (own_below HOW.out (hb2.alloc hz2 _)) ⟨w2.heap.size, 0, none⟩ 1 1 [.int .i64 s2, .slice A2 n2 c2, .slice B2 m2 d2] (by rfl) (by rfl) (World.news_of_block (cs := #[.int .i64 s2, .slice A2 n2 c2, .slice B2 m2 d2]) (t := 38) (fr := (0, 0)) (heap_alloc_new w2 _)) (by simp [Value.oneCell']) (by omega) (by unfold maxLen; omega) (by omega) (by simp; omega) (w2.heap.size + 1) (by simp) ?_; intro gg cap w4 hown4 hgrow hat hlt4; have j4 := (hgrow.block _ (by simp; omega) (fun e => by have := HNE.out _ e.symm; omega)).trans ((heap_alloc_old w2 _ (by omega)).trans ((hb2.block _ (by omega)).trans HBXW.out)); have q0 := (cell3 j4).2.1; have q1 := free3 j4 1; have q2 := lt_of_block j4; clear j4; have k4 := (hgrow.block _ (by simp; omega) (fun e => by have := HNE.out _ e.symm; omega)).trans ((heap_alloc_old w2 _ (by omega)).trans ((hb2.block _ (by omega)).trans HELW.out)); obtain ⟨r0, r1, r2⟩ := cell3 k4; clear k4) | (go_simp; go_at_call 15; refine (HN.out _ _ _ (TreeIn.below HTW.out (below_drew (Below.refl _ _)))).mono ?_; rintro e w2 ⟨s2, A2, n2, c2, B2, m2, d2, rfl, hT2, hb20⟩; have hb2 : Below W0.heap.size W0 w2 := (below_drew (Below.refl _ _)).trans (hb20.mono (Nat.le_of_eq rfl)); clear hb20; have hz2 := hb2.size; have h1 := (hb2.cell (p := ⟨w.heap.size + 1 + 1, 1, none⟩) (show w.heap.size + 1 + 1 < W0.heap.size by omega)).trans b1; have h5 := (((Below.refl w2.heap.size w2).alloc (Nat.le_refl _) (.cells #[.int .i64 s2, .slice A2 n2 c2, .slice B2 m2 d2] 38)).cell (p := ⟨w.heap.size + 1 + 1, 1, none⟩) (show w.heap.size + 1 + 1 < w2.heap.size by omega)).trans h1; have h6 : w.heap.size + 1 + 1 < w2.heap.size := (by omega)))
        all_goals
          have HT3 := Lib.hid (TreeIn.stays (S' := fun x => S x ∧ x < w.heap.size ∨ W0.heap.size ≤ x ∧ x < w2.heap.size) (Stays.of_below ((Below.refl w2.heap.size w2).alloc (Nat.le_refl _) (.cells #[.int .i64 s2, .slice A2 n2 c2, .slice B2 m2 d2] 38))) (fun x hx hlt => hx.elim (fun h => .inl h.1) (fun h => .inr ⟨h, hlt⟩)) _ _ hT2)
          have HB3' := Lib.hid (hb2.alloc hz2 (.cells #[.int .i64 s2, .slice A2 n2 c2, .slice B2 m2 d2] 38))
          have HNX := Lib.hid (HGW.out.next (bx := w.heap.size + 1 + 1) (by omega) (by omega) (by omega) hlt HB3'.out HT3.out (B1 := w2.heap.size) (fun x hx => hx) hgrow (hat.imp (fun h => h) fun h => ⟨by omega, by omega⟩) hown4)
          have HBF : Hid (Below w.heap.size w (w4.setCell ⟨w.heap.size + 1 + 1, 1, none⟩ (.slice (some ⟨gg, 0, none⟩) (k + 1) cap))) := Lib.hid ((((hbel.trans (HBE.out.mono hbel.size)).trans (HB3'.out.mono (by omega))).grown hgrow (by simp; omega) (fun x hx => by have := HNE.out x hx; omega)).setCell (by simp; omega) _)
          have HBR : Hid ((w4.setCell ⟨w.heap.size + 1 + 1, 1, none⟩ (.slice (some ⟨gg, 0, none⟩) (k + 1) cap)).heap[w.heap.size + 1]? = some (.cells #[.int .i64 0, .slice none 0 0, .slice none 0 0] 38 (0, 0))) := Lib.hid (by
            rw [Below.heap_setCell _ _ _ _ (by simp), hgrow.block _ (by simp; omega) (fun e => by have := HNE.out _ e.symm; omega), HB3'.out.block _ (by omega), HBE.out.block _ (by omega)]
            exact hbr)
          clear hgrow hat hown4 hT2 q0 q1 r0 r1 r2 b1 e0 e1 e2 h1 h5 h6
          generalize w4.setCell ⟨w.heap.size + 1 + 1, 1, none⟩ (.slice (some ⟨gg, 0, none⟩) (k + 1) cap) = W5 at *
          go_wp2
          go_roundw
          case rel => exact ⟨k + 1, _, _, by go_num, HNX.out, HBF.out, HBR.out⟩
          case measure => simp [intOf]; omega
      · obtain rfl : k = ks.length := by omega
        obtain ⟨A5, c5, hv5, hT5⟩ := HG.out.tree rfl hbel HD.out HLF.out
        cases hv5
        have HT5 := Lib.hid hT5
        clear hT5
        obtain ⟨r0, r1, r2⟩ := cell3 hbr
        obtain ⟨f0, f1, f2⟩ := cell3 hbx
        have g1 := free3 hbr 0
        have g2 := free3 hbr 1
        have g3 := free3 hbr 2
        go_wp2
        refine bodyPost_ret (v := .agg #[.int .i64 s, .slice vA ks.length vc, .slice B lf.length d]) (by simp [results, Tryd.results15, go_sem, r0, r1, r2]) rfl ⟨s, vA, _, vc, B, _, d, rfl, TreeIn.stays (fun x hx hlt => ?_) (fun x hx hlt => ?_) _ _ HT5.out, ?_⟩
        · rw [Below.heap_setCell _ _ _ _ (by show x ≠ w.heap.size + 1; omega), Below.heap_setCell _ _ _ _ (by show x ≠ w.heap.size + 1; omega), Below.heap_setCell _ _ _ _ (by show x ≠ w.heap.size + 1; omega)]
        · exact hx.imp (fun h => h) fun h => by omega
        · exact ((hbel.setCell (by simp) _).setCell (by simp) _).setCell (by simp) _
set_option maxRecDepth 100000 in
set_option maxHeartbeats 2000000 in
theorem theirs_any : ∀ (n : Nat) (t : T), nodes t ≤ n → Fit t → ∀ (S : Nat → Prop) (vs : List Value) (w : World), TreeIn S w t vs →
    Calls Tryd.prog 32 #[.agg vs.toArray] w (TreeRet S w t)
  | 0, .mk s ks lf, h, _, _, _, _, _ => by unfold nodes at h; omega
  | n + 1, .mk s ks lf, h, hf, S, vs, w, ht => by
    have IH := Lib.hid (theirs_any n)
    unfold TreeIn at ht
    obtain ⟨A, c, B, d, ws, rfl, hc, hd, hr, hk, hlf⟩ := ht
    have HK := Lib.hid hk
    have HR := Lib.hid hr
    have HLF := Lib.hid hlf
    have hnk : nodes (.mk s ks lf) = 1 + nodesL ks := by rw [nodes]
    rw [hnk] at h
    obtain ⟨hfl, _, hfk⟩ := hf.mk'
    have HF := Lib.hid hfk.get
    have HD := Lib.hid hd
    obtain ⟨i0, ia, ib, ic, id⟩ := info_parts info_theirs
    have HB1 := Lib.hid ((Below.refl w.heap.size w).alloc (Nat.le_refl _) (.cells #[.int .i64 s, .slice A ks.length c, .slice B lf.length d] 38))
    have HB2 := Lib.hid (HB1.out.alloc (by simp) (.cells #[.int .i64 0, .slice none 0 0, .slice none 0 0] 29))
    have HB3 := Lib.hid (HB2.out.alloc (by simp; omega) (.cells #[.int .i64 s, .slice none 0 0, .slice B lf.length d] 29))
    have HG3 := Lib.hid (gath_start S w s (.slice B lf.length d) 29 ks (.cells #[.int .i64 s, .slice A ks.length c, .slice B lf.length d] 38) (.cells #[.int .i64 0, .slice none 0 0, .slice none 0 0] 29))
    clear hk hr hlf hc hd hnk hf hfk
    go_enter Tryd.func32, Tryd.ntmps32
    go_wp2
    go_loopw [5, 14] (fun _ i wr => ∃ (k : Nat) (v : Value) (ws1 : List Value), i = .int .i64 k ∧ Gath S w.heap.size (w.heap.size + 1 + 1) s (.slice B lf.length d) 29 ks k v ws1 wr ∧ Below w.heap.size w wr ∧ wr.heap[w.heap.size + 1]? = some (.cells #[.int .i64 0, .slice none 0 0, .slice none 0 0] 29 (0, 0))) (fun _ i _ => ks.length - (intOf i).toNat)
    case atStart => exact ⟨0, .slice none 0 0, [], rfl, HG3.out.1, HB3.out, HG3.out.2⟩
    case round =>
      obtain ⟨k, v, ws1, rfl, hG, hbel, hbr⟩ := hrel
      have HG := Lib.hid hG
      obtain ⟨hkl, ⟨hown, _⟩, hbx⟩ := hG
      obtain ⟨vA, vc, rfl, hvc⟩ := own_shape hown
      have HOWN := Lib.hid hown
      have hz0 : w.heap.size + 1 + 1 < wr.heap.size := lt_of_block hbx
      clear hown
      by_cases hlt : k < ks.length
      · have hne : ws ≠ [] := by
          intro h0
          have := HK.out.len
          rw [h0] at this
          simp at this; omega
        obtain ⟨g, off, rfl, _, hg, hc⟩ := HR.out hne
        obtain ⟨x, y, z, hT, e0, e1, e2⟩ := HK.out.get k hlt
        have hl := HK.out.len
        have a0 : wr.cell? ⟨g, off + k * 3, none⟩ = some x := (hbel.cell (p := ⟨g, off + k * 3, none⟩) hg).trans (by rw [hc (k * 3) (by omega), show k * 3 = 3 * k by omega]; exact e0)
        have a1 : wr.cell? ⟨g, off + k * 3 + 1, none⟩ = some y := (hbel.cell (p := ⟨g, off + k * 3 + 1, none⟩) hg).trans (by rw [show off + k * 3 + 1 = off + (3 * k + 1) by omega, hc (3 * k + 1) (by omega)]; exact e1)
        have a2 : wr.cell? ⟨g, off + k * 3 + 2, none⟩ = some z := (hbel.cell (p := ⟨g, off + k * 3 + 2, none⟩) hg).trans (by rw [show off + k * 3 + 2 = off + (3 * k + 2) by omega, hc (3 * k + 2) (by omega)]; exact e2)
        obtain ⟨xs, xA, xn, xc, xB, xm, xd, rfl, rfl, rfl⟩ := tree_shape hT
        have hs := nodesL_take ks (k + 1)
        have hs1 := kid_nodes hlt
        have HN := Lib.hid (IH.out ks[k] (by omega) (HF.out k hlt))
        have HT := Lib.hid (TreeIn.stays (S' := fun x => S x ∧ x < w.heap.size) (Stays.of_below hbel) (fun x hx hlt => ⟨hx, hlt⟩) _ _ hT)
        have HBE := Lib.hid ((Below.refl wr.heap.size wr).alloc (Nat.le_refl _) (.cells #[.int .i64 xs, .slice xA xn xc, .slice xB xm xd] 38))
        have HSZ : Hid ((wr.alloc (.cells #[.int .i64 xs, .slice xA xn xc, .slice xB xm xd] 38)).heap.size = wr.heap.size + 1) := Lib.hid (by simp)
        have HEL := Lib.hid (cell3 (heap_alloc_new wr (.cells #[.int .i64 xs, .slice xA xn xc, .slice xB xm xd] 38)))
        have HBX0 := Lib.hid (cell3 ((HBE.out.block _ (lt_of_block hbx)).trans hbx))
        clear hc e0 e1 e2 hT hl hs hs1
        generalize nodes ks[k] = _nq at *
        go_upto_region 5 with fail
        obtain ⟨_, b1, _⟩ := HBX0.out
        obtain ⟨e0, e1, e2⟩ := HEL.out
        have HTW := Lib.hid (HT.out.below HBE.out)
        have HGW := Lib.hid (HG.out.same HBE.out)
        have hz1 : wr.heap.size < (wr.alloc (.cells #[.int .i64 xs, .slice xA xn xc, .slice xB xm xd] 38)).heap.size := by rw [HSZ.out]; omega
        have HOW := Lib.hid (own_below HOWN.out HBE.out)
        have HBXW := Lib.hid ((HBE.out.block _ (lt_of_block hbx)).trans hbx)
        have HELW := Lib.hid (heap_alloc_new wr (.cells #[.int .i64 xs, .slice xA xn xc, .slice xB xm xd] 38))
        have HNE := Lib.hid HOWN.out.lt
        clear a0 a1 a2 HEL HBX0 HT HG HOWN
        generalize wr.alloc (.cells #[.int .i64 xs, .slice xA xn xc, .slice xB xm xd] 38) = W0 at *
        go_region_law
          (first | (refine step_append_lies _ (by rfl) _ _ _ (by rfl) (w.heap.size + 3) 29 i0 _ 3 56 Tryd.underlying26 ia ib ic id rfl (by omega) (.slice vA k vc) k ws1 (by rfl) (own_below HOW.out (hb2.alloc hz2 _)) ⟨w2.heap.size, 0, none⟩ 1 1 [.int .i64 s2, .slice A2 n2 c2, .slice B2 m2 d2] (by rfl) (by rfl) (World.news_of_block (cs := #[.int .i64 s2, .slice A2 n2 c2, .slice B2 m2 d2]) (t := 29) (fr := (0, 0)) (heap_alloc_new w2 _)) (by simp [Value.oneCell']) (by omega) (by unfold maxLen; omega) (by omega) (by simp; omega) (w2.heap.size + 1) (by simp) ?_; intro gg cap w4 hown4 hgrow hat hlt4; have j4 := (hgrow.block _ (by simp; omega) (fun e => by have := HNE.out _ e.symm; omega)).trans ((heap_alloc_old w2 _ (by omega)).trans ((hb2.block _ (by omega)).trans HBXW.out)); have q0 := (cell3 j4).2.1; have q1 := free3 j4 1; have q2 := lt_of_block j4; clear j4; have k4 := (hgrow.block _ (by simp; omega) (fun e => by have := HNE.out _ e.symm; omega)).trans ((heap_alloc_old w2 _ (by omega)).trans ((hb2.block _ (by omega)).trans HELW.out)); obtain ⟨r0, r1, r2⟩ := cell3 k4; clear k4) | (go_simp; go_at_call 32; refine (HN.out _ _ _ (TreeIn.below HTW.out (below_drew (Below.refl _ _)))).mono ?_; rintro e w2 ⟨s2, A2, n2, c2, B2, m2, d2, rfl, hT2, hb20⟩; have hb2 : Below W0.heap.size W0 w2 := (below_drew (Below.refl _ _)).trans (hb20.mono (Nat.le_of_eq rfl)); clear hb20; have hz2 := hb2.size; have h1 := (hb2.cell (p := ⟨w.heap.size + 1 + 1, 1, none⟩) (show w.heap.size + 1 + 1 < W0.heap.size by omega)).trans b1; have h5 := (((Below.refl w2.heap.size w2).alloc (Nat.le_refl _) (.cells #[.int .i64 s2, .slice A2 n2 c2, .slice B2 m2 d2] 29)).cell (p := ⟨w.heap.size + 1 + 1, 1, none⟩) (show w.heap.size + 1 + 1 < w2.heap.size by omega)).trans h1; have h6 : w.heap.size + 1 + 1 < w2.heap.size := (by omega)))
        all_goals
          have HT3 := Lib.hid (TreeIn.stays (S' := fun x => S x ∧ x < w.heap.size ∨ W0.heap.size ≤ x ∧ x < w2.heap.size) (Stays.of_below ((Below.refl w2.heap.size w2).alloc (Nat.le_refl _) (.cells #[.int .i64 s2, .slice A2 n2 c2, .slice B2 m2 d2] 29))) (fun x hx hlt => hx.elim (fun h => .inl h.1) (fun h => .inr ⟨h, hlt⟩)) _ _ hT2)
          have HB3' := Lib.hid (hb2.alloc hz2 (.cells #[.int .i64 s2, .slice A2 n2 c2, .slice B2 m2 d2] 29))
          have HNX := Lib.hid (HGW.out.next (bx := w.heap.size + 1 + 1) (by omega) (by omega) (by omega) hlt HB3'.out HT3.out (B1 := w2.heap.size) (fun x hx => hx) hgrow (hat.imp (fun h => h) fun h => ⟨by omega, by omega⟩) hown4)
          have HBF : Hid (Below w.heap.size w (w4.setCell ⟨w.heap.size + 1 + 1, 1, none⟩ (.slice (some ⟨gg, 0, none⟩) (k + 1) cap))) := Lib.hid ((((hbel.trans (HBE.out.mono hbel.size)).trans (HB3'.out.mono (by omega))).grown hgrow (by simp; omega) (fun x hx => by have := HNE.out x hx; omega)).setCell (by simp; omega) _)
          have HBR : Hid ((w4.setCell ⟨w.heap.size + 1 + 1, 1, none⟩ (.slice (some ⟨gg, 0, none⟩) (k + 1) cap)).heap[w.heap.size + 1]? = some (.cells #[.int .i64 0, .slice none 0 0, .slice none 0 0] 29 (0, 0))) := Lib.hid (by
            rw [Below.heap_setCell _ _ _ _ (by simp), hgrow.block _ (by simp; omega) (fun e => by have := HNE.out _ e.symm; omega), HB3'.out.block _ (by omega), HBE.out.block _ (by omega)]
            exact hbr)
          clear hgrow hat hown4 hT2 q0 q1 r0 r1 r2 b1 e0 e1 e2 h1 h5 h6
          generalize w4.setCell ⟨w.heap.size + 1 + 1, 1, none⟩ (.slice (some ⟨gg, 0, none⟩) (k + 1) cap) = W5 at *
          go_wp2
          go_roundw
          case rel => exact ⟨k + 1, _, _, by go_num, HNX.out, HBF.out, HBR.out⟩
          case measure => simp [intOf]; omega
      · obtain rfl : k = ks.length := by omega
        obtain ⟨A5, c5, hv5, hT5⟩ := HG.out.tree rfl hbel HD.out HLF.out
        cases hv5
        have HT5 := Lib.hid hT5
        clear hT5
        obtain ⟨r0, r1, r2⟩ := cell3 hbr
        obtain ⟨f0, f1, f2⟩ := cell3 hbx
        have g1 := free3 hbr 0
        have g2 := free3 hbr 1
        have g3 := free3 hbr 2
        go_wp2
        refine bodyPost_ret (v := .agg #[.int .i64 s, .slice vA ks.length vc, .slice B lf.length d]) (by simp [results, Tryd.results32, go_sem, r0, r1, r2]) rfl ⟨s, vA, _, vc, B, _, d, rfl, TreeIn.stays (fun x hx hlt => ?_) (fun x hx hlt => ?_) _ _ HT5.out, ?_⟩
        · rw [Below.heap_setCell _ _ _ _ (by show x ≠ w.heap.size + 1; omega), Below.heap_setCell _ _ _ _ (by show x ≠ w.heap.size + 1; omega), Below.heap_setCell _ _ _ _ (by show x ≠ w.heap.size + 1; omega)]
        · exact hx.imp (fun h => h) fun h => by omega
        · exact ((hbel.setCell (by simp) _).setCell (by simp) _).setCell (by simp) _
end Go.Proofs.YtjjohllfidmkjaaDoor.PfW
