/- Walks: Nodes and Depth of the program and of the reference. Conditions: the tree lies in memory. -/
import Derived.Test.YtjjohllfidmkjaaDoorProg
import Derived.Test.YtjjohllfidmkjaaDoorPfTree
import Derived.Deep.RegionHeld3
import Derived.Lib.Hide
namespace Go.Proofs.YtjjohllfidmkjaaDoor.PfW
open Go Go.RowKit Go.Proofs.YtjjohllfidmkjaaDoor.Mem Go.Proofs.YtjjohllfidmkjaaDoor.Pf

theorem heap_alloc_new (w : World) (o : Obj) : (w.alloc o).heap[w.heap.size]? = some o := Array.getElem?_push_size
theorem heap_lt {w : World} {b : Nat} {o : Obj} (h : w.heap[b]? = some o) : b < w.heap.size := by
  rcases Nat.lt_or_ge b w.heap.size with hlt | hge
  · exact hlt
  · rw [Array.getElem?_eq_none hge] at h; cases h
theorem kid_nodes {ks : List T} {k : Nat} (hk : k < ks.length) : nodesL (ks.take (k + 1)) = nodesL (ks.take k) + nodes ks[k] := by
  rw [List.take_add_one, List.getElem?_eq_getElem hk]
  exact nodesL_snoc _ _
theorem nodesL_take : ∀ (ks : List T) (k : Nat), nodesL (ks.take k) ≤ nodesL ks
  | [], k => by simp
  | x :: r, 0 => by simp [nodesL]
  | x :: r, k + 1 => by
    rw [List.take_succ_cons]
    unfold nodesL
    have := nodesL_take r k
    omega
theorem nodes_pos (t : T) : 1 ≤ nodes t := by
  obtain ⟨s, ks, lf⟩ := t
  unfold nodes
  omega
theorem len_nodes : ∀ ks : List T, ks.length ≤ nodesL ks
  | [] => by simp
  | x :: r => by
    have := len_nodes r
    have := nodes_pos x
    rw [List.length_cons]
    unfold nodesL
    omega
theorem new3 (w : World) (a b c : Value) (T : TypeId) : (w.alloc (.cells #[a, b, c] T)).cell? ⟨w.heap.size, 0, none⟩ = some a ∧ (w.alloc (.cells #[a, b, c] T)).cell? ⟨w.heap.size, 1, none⟩ = some b ∧ (w.alloc (.cells #[a, b, c] T)).cell? ⟨w.heap.size, 2, none⟩ = some c ∧ w.heap.size < (w.alloc (.cells #[a, b, c] T)).heap.size := by
  refine ⟨by simp, by simp, by simp, by simp⟩
theorem heap_alloc_old (w : World) (o : Obj) {b : Nat} (h : b < w.heap.size) : (w.alloc o).heap[b]? = w.heap[b]? := ((Below.refl w.heap.size w).alloc (Nat.le_refl _) o).block b h
theorem tree_shape {S : Nat → Prop} {w : World} {t : T} {x y z : Value} (h : TreeIn S w t [x, y, z]) : ∃ s A n c B m d, x = .int .i64 s ∧ y = .slice A n c ∧ z = .slice B m d := by
  obtain ⟨s, ks, lf⟩ := t
  unfold TreeIn at h
  obtain ⟨A, c, B, d, ws, e, _⟩ := h
  simp only [List.cons.injEq, and_true] at e
  exact ⟨s, A, _, c, B, _, d, e.1, e.2.1, e.2.2⟩
theorem kid_nW {ks : List T} {k : Nat} (hk : k < ks.length) : nWL 1 (ks.take (k + 1)) = wrap64 (nWL 1 (ks.take k) + nW ks[k]) := by
  rw [List.take_add_one, List.getElem?_eq_getElem hk]
  exact nWL_snoc _ _ _
theorem kid_dW {ks : List T} {k : Nat} (hk : k < ks.length) : dWL 0 (ks.take (k + 1)) = imax (dWL 0 (ks.take k)) (dW ks[k]) := by
  rw [List.take_add_one, List.getElem?_eq_getElem hk]
  exact dWL_snoc _ _ _
set_option maxRecDepth 100000 in
set_option maxHeartbeats 1000000 in
theorem rnodes_any (S : Nat → Prop) : ∀ (n : Nat) (t : T), nodes t ≤ n → Fit t → ∀ (vs : List Value) (w : World), TreeIn S w t vs →
    Calls Tryd.prog 26 #[.agg vs.toArray] w fun e w' => e = .returned (.int .i64 (nW t)) ∧ Below w.heap.size w w'
  | 0, .mk s ks lf, h, _, _, _, _ => by unfold nodes at h; omega
  | n + 1, .mk s ks lf, h, hf, vs, w, ht => by
    have IH := Lib.hid (rnodes_any S n)
    unfold TreeIn at ht
    obtain ⟨A, c, B, d, ws, rfl, hc, hd, hr, hk, hlf⟩ := ht
    have HK := Lib.hid hk
    have HR := Lib.hid hr
    have hnk : nodes (.mk s ks lf) = 1 + nodesL ks := by rw [nodes]
    rw [hnk] at h
    obtain ⟨hfl, _, hfk⟩ := hf.mk'
    have HF := Lib.hid hfk.get
    have HB := Lib.hid ((Below.refl w.heap.size w).alloc (Nat.le_refl _) (.cells #[.int .i64 s, .slice A ks.length c, .slice B lf.length d] 29))
    have HV : Hid (nW (.mk s ks lf) = nWL 1 ks) := Lib.hid (by rw [nW])
    rw [HV.out]
    clear hk hr hlf hc hd hnk hf hfk HV
    go_enter Tryd.func26, Tryd.ntmps26
    go_wp2
    go_loopw [3, 4] (fun t i wr => ∃ k : Nat, k ≤ ks.length ∧ i = .int .i64 k ∧ t = .int .i64 (nWL 1 (ks.take k)) ∧ Below w.heap.size w wr ∧ wr.heap[w.heap.size]? = some (.cells #[.int .i64 s, .slice A ks.length c, .slice B lf.length d] 29)) (fun _ i _ => ks.length - (intOf i).toNat)
    case atStart => exact ⟨0, Nat.zero_le _, rfl, by simp [nWL], HB.out, heap_alloc_new w _⟩
    case round =>
      obtain ⟨k, hk, rfl, rfl, hbel, hbox⟩ := hrel
      have b1 : wr.cell? ⟨w.heap.size, 1, none⟩ = some (.slice A ks.length c) := by unfold World.cell?; simp only [hbox]; rfl
      by_cases hlt : k < ks.length
      · have hne : ws ≠ [] := by
          intro h0
          have := HK.out.len
          rw [h0] at this
          simp at this; omega
        obtain ⟨g, off, rfl, _, hg, hc⟩ := HR.out hne
        obtain ⟨x, y, z, hT, e0, e1, e2⟩ := HK.out.get k hlt
        have hl := HK.out.len
        have a0 : wr.cell? ⟨g, off + k * 3, none⟩ = some x := (hbel.cell (p := ⟨g, off + k * 3, none⟩) hg).trans (by rw [hc (k * 3) (by omega), show k * 3 = 3 * k by omega]; exact e0)
        have a1 : wr.cell? ⟨g, off + k * 3 + 1, none⟩ = some y := (hbel.cell (p := ⟨g, off + k * 3 + 1, none⟩) hg).trans (by rw [show off + k * 3 + 1 = off + (3 * k + 1) by omega, hc (3 * k + 1) (by omega)]; exact e1)
        have a2 : wr.cell? ⟨g, off + k * 3 + 2, none⟩ = some z := (hbel.cell (p := ⟨g, off + k * 3 + 2, none⟩) hg).trans (by rw [show off + k * 3 + 2 = off + (3 * k + 2) by omega, hc (3 * k + 2) (by omega)]; exact e2)
        obtain ⟨xs, xA, xn, xc, xB, xm, xd, rfl, rfl, rfl⟩ := tree_shape hT
        have hs := nodesL_take ks (k + 1)
        have hs1 := kid_nodes hlt
        have HS := Lib.hid (kid_nW hlt)
        have HN := Lib.hid (IH.out ks[k] (by omega) (HF.out k hlt) [.int .i64 xs, .slice xA xn xc, .slice xB xm xd])
        have HTB := Lib.hid (hT.below hbel)
        have HBE := Lib.hid hbel
        have HBX := Lib.hid hbox
        clear hc e0 e1 e2 hT hl hs hs1
        generalize nWL 1 (ks.take k) = u at *
        generalize nW ks[k] = q at *
        go_wp2_with fail
        refine (HN.out _ HTB.out).mono ?_
        rintro e w2 ⟨rfl, hb2⟩
        have hbox2 := (hb2.block _ (heap_lt HBX.out)).trans HBX.out
        go_wp2
        go_roundw
        case rel => exact ⟨k + 1, hlt, by go_num, by rw [HS.out], HBE.out.trans (hb2.mono HBE.out.size), hbox2⟩
        case measure => simp [intOf]; omega
      · obtain rfl : k = ks.length := by omega
        rw [List.take_length]
        go_wp2
        go_ret
        exact ⟨rfl, hbel⟩
set_option maxRecDepth 100000 in
set_option maxHeartbeats 1000000 in
theorem nodes_any (S : Nat → Prop) : ∀ (n : Nat) (t : T), nodes t ≤ n → Fit t → ∀ (vs : List Value) (w : World), TreeIn S w t vs →
    Calls Tryd.prog 25 #[.agg vs.toArray] w fun e w' => e = .returned (.int .i64 (nW t)) ∧ Below w.heap.size w w'
  | 0, .mk s ks lf, h, _, _, _, _ => by unfold nodes at h; omega
  | n + 1, .mk s ks lf, h, hf, vs, w, ht => by
    have IH := Lib.hid (nodes_any S n)
    unfold TreeIn at ht
    obtain ⟨A, c, B, d, ws, rfl, hc, hd, hr, hk, hlf⟩ := ht
    have HK := Lib.hid hk
    have HR := Lib.hid hr
    have hnk : nodes (.mk s ks lf) = 1 + nodesL ks := by rw [nodes]
    rw [hnk] at h
    obtain ⟨hfl, _, hfk⟩ := hf.mk'
    have HF := Lib.hid hfk.get
    have HB := Lib.hid ((Below.refl w.heap.size w).alloc (Nat.le_refl _) (.cells #[.int .i64 s, .slice A ks.length c, .slice B lf.length d] 38))
    have HV : Hid (nW (.mk s ks lf) = nWL 1 ks) := Lib.hid (by rw [nW])
    rw [HV.out]
    clear hk hr hlf hc hd hnk hf hfk HV
    go_enter Tryd.func25, Tryd.ntmps25
    go_wp2
    go_loopw [3, 5, 9] (fun t _ i wr => ∃ k : Nat, k ≤ ks.length ∧ i = .int .i64 k ∧ t = .int .i64 (nWL 1 (ks.take k)) ∧ Below w.heap.size w wr ∧ wr.heap[w.heap.size]? = some (.cells #[.int .i64 s, .slice A ks.length c, .slice B lf.length d] 38)) (fun _ _ i _ => ks.length - (intOf i).toNat)
    case atStart => exact ⟨0, Nat.zero_le _, rfl, by simp [nWL], HB.out, heap_alloc_new w _⟩
    case round =>
      obtain ⟨k, hk, rfl, rfl, hbel, hbox⟩ := hrel
      have b1 : wr.cell? ⟨w.heap.size, 1, none⟩ = some (.slice A ks.length c) := by unfold World.cell?; simp only [hbox]; rfl
      by_cases hlt : k < ks.length
      · have hne : ws ≠ [] := by
          intro h0
          have := HK.out.len
          rw [h0] at this
          simp at this; omega
        obtain ⟨g, off, rfl, _, hg, hc⟩ := HR.out hne
        obtain ⟨x, y, z, hT, e0, e1, e2⟩ := HK.out.get k hlt
        have hl := HK.out.len
        have a0 : wr.cell? ⟨g, off + k * 3, none⟩ = some x := (hbel.cell (p := ⟨g, off + k * 3, none⟩) hg).trans (by rw [hc (k * 3) (by omega), show k * 3 = 3 * k by omega]; exact e0)
        have a1 : wr.cell? ⟨g, off + k * 3 + 1, none⟩ = some y := (hbel.cell (p := ⟨g, off + k * 3 + 1, none⟩) hg).trans (by rw [show off + k * 3 + 1 = off + (3 * k + 1) by omega, hc (3 * k + 1) (by omega)]; exact e1)
        have a2 : wr.cell? ⟨g, off + k * 3 + 2, none⟩ = some z := (hbel.cell (p := ⟨g, off + k * 3 + 2, none⟩) hg).trans (by rw [show off + k * 3 + 2 = off + (3 * k + 2) by omega, hc (3 * k + 2) (by omega)]; exact e2)
        obtain ⟨xs, xA, xn, xc, xB, xm, xd, rfl, rfl, rfl⟩ := tree_shape hT
        have hs := nodesL_take ks (k + 1)
        have hs1 := kid_nodes hlt
        have HS := Lib.hid (kid_nW hlt)
        have HN := Lib.hid (IH.out ks[k] (by omega) (HF.out k hlt) [.int .i64 xs, .slice xA xn xc, .slice xB xm xd])
        have HTB := Lib.hid ((hT.below hbel).below ((Below.refl _ _).alloc (Nat.le_refl _) (.cells #[.int .i64 xs, .slice xA xn xc, .slice xB xm xd] 38)))
        have HBE := Lib.hid (hbel.alloc hbel.size (.cells #[.int .i64 xs, .slice xA xn xc, .slice xB xm xd] 38))
        have HBX := Lib.hid ((heap_alloc_old wr (.cells #[.int .i64 xs, .slice xA xn xc, .slice xB xm xd] 38) (heap_lt hbox)).trans hbox)
        clear hc e0 e1 e2 hT hl hs hs1
        generalize nWL 1 (ks.take k) = u at *
        generalize nW ks[k] = q at *
        go_wp2_with fail
        generalize wr.alloc (.cells #[.int .i64 xs, .slice xA xn xc, .slice xB xm xd] 38) = W0 at *
        refine (HN.out _ HTB.out).mono ?_
        rintro e w2 ⟨rfl, hb2⟩
        have hbox2 := (hb2.block _ (heap_lt HBX.out)).trans HBX.out
        go_wp2
        go_roundw
        case rel => exact ⟨k + 1, hlt, by go_num, by rw [HS.out], HBE.out.trans (hb2.mono HBE.out.size), hbox2⟩
        case measure => simp [intOf]; omega
      · obtain rfl : k = ks.length := by omega
        rw [List.take_length]
        go_wp2
        go_ret
        exact ⟨rfl, hbel⟩
set_option maxRecDepth 100000 in
set_option maxHeartbeats 1000000 in
theorem rdepth_any (S : Nat → Prop) : ∀ (n : Nat) (t : T), nodes t ≤ n → Fit t → ∀ (vs : List Value) (w : World), TreeIn S w t vs →
    Calls Tryd.prog 30 #[.agg vs.toArray] w fun e w' => e = .returned (.int .i64 (dW t)) ∧ Below w.heap.size w w'
  | 0, .mk s ks lf, h, _, _, _, _ => by unfold nodes at h; omega
  | n + 1, .mk s ks lf, h, hf, vs, w, ht => by
    have IH := Lib.hid (rdepth_any S n)
    unfold TreeIn at ht
    obtain ⟨A, c, B, d, ws, rfl, hc, hd, hr, hk, hlf⟩ := ht
    have HK := Lib.hid hk
    have HR := Lib.hid hr
    have hnk : nodes (.mk s ks lf) = 1 + nodesL ks := by rw [nodes]
    rw [hnk] at h
    obtain ⟨hfl, _, hfk⟩ := hf.mk'
    have HF := Lib.hid hfk.get
    have HB := Lib.hid ((Below.refl w.heap.size w).alloc (Nat.le_refl _) (.cells #[.int .i64 s, .slice A ks.length c, .slice B lf.length d] 29))
    have HV : Hid (dW (.mk s ks lf) = wrap64 (dWL 0 ks + 1)) := Lib.hid (by rw [dW])
    rw [HV.out]
    clear hk hr hlf hc hd hnk hf hfk HV
    go_enter Tryd.func30, Tryd.ntmps30
    go_wp2
    go_loopw [3, 4] (fun t i wr => ∃ k : Nat, k ≤ ks.length ∧ i = .int .i64 k ∧ t = .int .i64 (dWL 0 (ks.take k)) ∧ Below w.heap.size w wr ∧ wr.heap[w.heap.size]? = some (.cells #[.int .i64 s, .slice A ks.length c, .slice B lf.length d] 29)) (fun _ i _ => ks.length - (intOf i).toNat)
    case atStart => exact ⟨0, Nat.zero_le _, rfl, by simp [dWL], HB.out, heap_alloc_new w _⟩
    case round =>
      obtain ⟨k, hk, rfl, rfl, hbel, hbox⟩ := hrel
      have b1 : wr.cell? ⟨w.heap.size, 1, none⟩ = some (.slice A ks.length c) := by unfold World.cell?; simp only [hbox]; rfl
      by_cases hlt : k < ks.length
      · have hne : ws ≠ [] := by
          intro h0
          have := HK.out.len
          rw [h0] at this
          simp at this; omega
        obtain ⟨g, off, rfl, _, hg, hc⟩ := HR.out hne
        obtain ⟨x, y, z, hT, e0, e1, e2⟩ := HK.out.get k hlt
        have hl := HK.out.len
        have a0 : wr.cell? ⟨g, off + k * 3, none⟩ = some x := (hbel.cell (p := ⟨g, off + k * 3, none⟩) hg).trans (by rw [hc (k * 3) (by omega), show k * 3 = 3 * k by omega]; exact e0)
        have a1 : wr.cell? ⟨g, off + k * 3 + 1, none⟩ = some y := (hbel.cell (p := ⟨g, off + k * 3 + 1, none⟩) hg).trans (by rw [show off + k * 3 + 1 = off + (3 * k + 1) by omega, hc (3 * k + 1) (by omega)]; exact e1)
        have a2 : wr.cell? ⟨g, off + k * 3 + 2, none⟩ = some z := (hbel.cell (p := ⟨g, off + k * 3 + 2, none⟩) hg).trans (by rw [show off + k * 3 + 2 = off + (3 * k + 2) by omega, hc (3 * k + 2) (by omega)]; exact e2)
        obtain ⟨xs, xA, xn, xc, xB, xm, xd, rfl, rfl, rfl⟩ := tree_shape hT
        have hs := nodesL_take ks (k + 1)
        have hs1 := kid_nodes hlt
        have HS := Lib.hid (kid_dW hlt)
        have HN := Lib.hid (IH.out ks[k] (by omega) (HF.out k hlt) [.int .i64 xs, .slice xA xn xc, .slice xB xm xd])
        have HTB := Lib.hid (hT.below hbel)
        have HBE := Lib.hid hbel
        have HBX := Lib.hid hbox
        clear hc e0 e1 e2 hT hl hs hs1
        generalize dWL 0 (ks.take k) = u at *
        generalize dW ks[k] = q at *
        go_wp2_with fail
        refine (HN.out _ HTB.out).mono ?_
        rintro e w2 ⟨rfl, hb2⟩
        have hbox2 := (hb2.block _ (heap_lt HBX.out)).trans HBX.out
        go_wp2
        go_roundw
        case rel => exact ⟨k + 1, hlt, by go_num, by rw [HS.out]; rfl, HBE.out.trans (hb2.mono HBE.out.size), hbox2⟩
        case measure => simp [intOf]; omega
      · obtain rfl : k = ks.length := by omega
        rw [List.take_length]
        go_wp2
        go_ret
        exact ⟨rfl, hbel⟩
set_option maxRecDepth 100000 in
set_option maxHeartbeats 1000000 in
theorem depth_any (S : Nat → Prop) : ∀ (n : Nat) (t : T), nodes t ≤ n → Fit t → ∀ (vs : List Value) (w : World), TreeIn S w t vs →
    Calls Tryd.prog 29 #[.agg vs.toArray] w fun e w' => e = .returned (.int .i64 (dW t)) ∧ Below w.heap.size w w'
  | 0, .mk s ks lf, h, _, _, _, _ => by unfold nodes at h; omega
  | n + 1, .mk s ks lf, h, hf, vs, w, ht => by
    have IH := Lib.hid (depth_any S n)
    unfold TreeIn at ht
    obtain ⟨A, c, B, d, ws, rfl, hc, hd, hr, hk, hlf⟩ := ht
    have HK := Lib.hid hk
    have HR := Lib.hid hr
    have hnk : nodes (.mk s ks lf) = 1 + nodesL ks := by rw [nodes]
    rw [hnk] at h
    obtain ⟨hfl, _, hfk⟩ := hf.mk'
    have HF := Lib.hid hfk.get
    have HB := Lib.hid ((Below.refl w.heap.size w).alloc (Nat.le_refl _) (.cells #[.int .i64 s, .slice A ks.length c, .slice B lf.length d] 38))
    have HV : Hid (dW (.mk s ks lf) = wrap64 (dWL 0 ks + 1)) := Lib.hid (by rw [dW])
    rw [HV.out]
    clear hk hr hlf hc hd hnk hf hfk HV
    go_enter Tryd.func29, Tryd.ntmps29
    go_wp2
    go_loopw [3, 5, 9] (fun t _ i wr => ∃ k : Nat, k ≤ ks.length ∧ i = .int .i64 k ∧ t = .int .i64 (dWL 0 (ks.take k)) ∧ Below w.heap.size w wr ∧ wr.heap[w.heap.size]? = some (.cells #[.int .i64 s, .slice A ks.length c, .slice B lf.length d] 38)) (fun _ _ i _ => ks.length - (intOf i).toNat)
    case atStart => exact ⟨0, Nat.zero_le _, rfl, by simp [dWL], HB.out, heap_alloc_new w _⟩
    case round =>
      obtain ⟨k, hk, rfl, rfl, hbel, hbox⟩ := hrel
      have b1 : wr.cell? ⟨w.heap.size, 1, none⟩ = some (.slice A ks.length c) := by unfold World.cell?; simp only [hbox]; rfl
      by_cases hlt : k < ks.length
      · have hne : ws ≠ [] := by
          intro h0
          have := HK.out.len
          rw [h0] at this
          simp at this; omega
        obtain ⟨g, off, rfl, _, hg, hc⟩ := HR.out hne
        obtain ⟨x, y, z, hT, e0, e1, e2⟩ := HK.out.get k hlt
        have hl := HK.out.len
        have a0 : wr.cell? ⟨g, off + k * 3, none⟩ = some x := (hbel.cell (p := ⟨g, off + k * 3, none⟩) hg).trans (by rw [hc (k * 3) (by omega), show k * 3 = 3 * k by omega]; exact e0)
        have a1 : wr.cell? ⟨g, off + k * 3 + 1, none⟩ = some y := (hbel.cell (p := ⟨g, off + k * 3 + 1, none⟩) hg).trans (by rw [show off + k * 3 + 1 = off + (3 * k + 1) by omega, hc (3 * k + 1) (by omega)]; exact e1)
        have a2 : wr.cell? ⟨g, off + k * 3 + 2, none⟩ = some z := (hbel.cell (p := ⟨g, off + k * 3 + 2, none⟩) hg).trans (by rw [show off + k * 3 + 2 = off + (3 * k + 2) by omega, hc (3 * k + 2) (by omega)]; exact e2)
        obtain ⟨xs, xA, xn, xc, xB, xm, xd, rfl, rfl, rfl⟩ := tree_shape hT
        have hs := nodesL_take ks (k + 1)
        have hs1 := kid_nodes hlt
        have HS := Lib.hid (kid_dW hlt)
        have HN := Lib.hid (IH.out ks[k] (by omega) (HF.out k hlt) [.int .i64 xs, .slice xA xn xc, .slice xB xm xd])
        have HTB := Lib.hid ((hT.below hbel).below ((Below.refl _ _).alloc (Nat.le_refl _) (.cells #[.int .i64 xs, .slice xA xn xc, .slice xB xm xd] 38)))
        have HBE := Lib.hid (hbel.alloc hbel.size (.cells #[.int .i64 xs, .slice xA xn xc, .slice xB xm xd] 38))
        have HBX := Lib.hid ((heap_alloc_old wr (.cells #[.int .i64 xs, .slice xA xn xc, .slice xB xm xd] 38) (heap_lt hbox)).trans hbox)
        clear hc e0 e1 e2 hT hl hs hs1
        generalize dWL 0 (ks.take k) = u at *
        generalize dW ks[k] = q at *
        go_wp2_with fail
        generalize wr.alloc (.cells #[.int .i64 xs, .slice xA xn xc, .slice xB xm xd] 38) = W0 at *
        refine (HN.out _ HTB.out).mono ?_
        rintro e w2 ⟨rfl, hb2⟩
        have hbox2 := (hb2.block _ (heap_lt HBX.out)).trans HBX.out
        go_wp2
        go_roundw
        case rel => exact ⟨k + 1, hlt, by go_num, by rw [HS.out]; rfl, HBE.out.trans (hb2.mono HBE.out.size), hbox2⟩
        case measure => simp [intOf]; omega
      · obtain rfl : k = ks.length := by omega
        rw [List.take_length]
        go_wp2
        go_ret
        exact ⟨rfl, hbel⟩
end Go.Proofs.YtjjohllfidmkjaaDoor.PfW
