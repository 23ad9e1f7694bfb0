/- Walks: Leaves of both. Conditions: the tree lies in memory and has at most 10^12 nodes. -/
import Derived.Test.YtjjohllfidmkjaaDoorPfM1
namespace Go.Proofs.YtjjohllfidmkjaaDoor.PfW
open Go Go.RowKit Go.Proofs.YtjjohllfidmkjaaDoor.Mem Go.Proofs.YtjjohllfidmkjaaDoor.Pf

theorem kid_leaves {ks : List T} {k : Nat} (hk : k < ks.length) : leavesL (ks.take (k + 1)) = leavesL (ks.take k) + leaves ks[k] := by
  rw [List.take_add_one, List.getElem?_eq_getElem hk]
  exact leavesL_snoc _ _
mutual
theorem leaves_le : ∀ t : T, leaves t ≤ nodes t
  | .mk _ ks _ => by
    have := leavesL_le ks
    unfold leaves nodes
    split <;> omega
theorem leavesL_le : ∀ ks : List T, leavesL ks ≤ nodesL ks
  | [] => by simp [leavesL]
  | x :: r => by
    have := leaves_le x
    have := leavesL_le r
    unfold leavesL nodesL
    omega
end
set_option maxRecDepth 100000 in
set_option maxHeartbeats 1000000 in
theorem rleaves_le (S : Nat → Prop) : ∀ (n : Nat) (t : T), nodes t ≤ n → n ≤ 1000000000000 → ∀ (vs : List Value) (w : World), TreeIn S w t vs →
    Calls Tryd.prog 28 #[.agg vs.toArray] w fun e w' => e = .returned (.int .i64 (leaves t : Int)) ∧ Below w.heap.size w w'
  | 0, .mk s ks lf, h, _, _, _, _ => by unfold nodes at h; omega
  | n + 1, .mk s ks lf, h, hn, vs, w, ht => by
    have IH := Lib.hid (rleaves_le S n)
    unfold TreeIn at ht
    obtain ⟨A, c, B, d, ws, rfl, hc, hd, hr, hk, hlf⟩ := ht
    have HK := Lib.hid hk
    have HR := Lib.hid hr
    have hnk : nodes (.mk s ks lf) = 1 + nodesL ks := by rw [nodes]
    have hdk : leaves (.mk s ks lf) = if ks.length = 0 then 1 else leavesL ks := by rw [leaves]
    rw [hnk] at h
    rw [hdk]
    have HB := Lib.hid ((Below.refl w.heap.size w).alloc (Nat.le_refl _) (.cells #[.int .i64 s, .slice A ks.length c, .slice B lf.length d] 29))
    clear hk hr hlf hc hd hnk hdk
    by_cases h0 : ks.length = 0
    · rw [if_pos h0, h0]
      have hz : (((ks.length : Nat) : Int) == 0) = true := by simp [h0]
      rw [h0] at hz HB
      go_enter Tryd.func28, Tryd.ntmps28
      go_wp2
      go_ret
      exact ⟨rfl, HB.out⟩
    rw [if_neg h0]
    have hz : (((ks.length : Nat) : Int) == 0) = false := by rw [beq_eq_false_iff_ne]; omega
    go_enter Tryd.func28, Tryd.ntmps28
    go_wp2
    go_loopw [3, 4] (fun t i wr => ∃ k : Nat, k ≤ ks.length ∧ i = .int .i64 k ∧ t = .int .i64 (leavesL (ks.take k) : Int) ∧ Below w.heap.size w wr ∧ wr.heap[w.heap.size]? = some (.cells #[.int .i64 s, .slice A ks.length c, .slice B lf.length d] 29)) (fun _ i _ => ks.length - (intOf i).toNat)
    case atStart => exact ⟨0, Nat.zero_le _, rfl, by simp [leavesL], HB.out, heap_alloc_new w _⟩
    case round =>
      obtain ⟨k, hk, rfl, rfl, hbel, hbox⟩ := hrel
      have b1 : wr.cell? ⟨w.heap.size, 1, none⟩ = some (.slice A ks.length c) := by unfold World.cell?; simp only [hbox]; rfl
      by_cases hlt : k < ks.length
      · have hne : ws ≠ [] := by
          intro h0
          have := HK.out.len
          rw [h0] at this
          simp at this; omega
        obtain ⟨g, off, rfl, _, hg, hc⟩ := HR.out hne
        obtain ⟨x, y, z, hT, e0, e1, e2⟩ := HK.out.get k hlt
        have hl := HK.out.len
        have a0 : wr.cell? ⟨g, off + k * 3, none⟩ = some x := (hbel.cell (p := ⟨g, off + k * 3, none⟩) hg).trans (by rw [hc (k * 3) (by omega), show k * 3 = 3 * k by omega]; exact e0)
        have a1 : wr.cell? ⟨g, off + k * 3 + 1, none⟩ = some y := (hbel.cell (p := ⟨g, off + k * 3 + 1, none⟩) hg).trans (by rw [show off + k * 3 + 1 = off + (3 * k + 1) by omega, hc (3 * k + 1) (by omega)]; exact e1)
        have a2 : wr.cell? ⟨g, off + k * 3 + 2, none⟩ = some z := (hbel.cell (p := ⟨g, off + k * 3 + 2, none⟩) hg).trans (by rw [show off + k * 3 + 2 = off + (3 * k + 2) by omega, hc (3 * k + 2) (by omega)]; exact e2)
        have hlen := len_nodes ks
        have hs := nodesL_take ks (k + 1)
        have hs1 := kid_nodes hlt
        have hs2 := kid_leaves hlt
        have hs3 := leavesL_le (ks.take k)
        have hs4 := leaves_le ks[k]
        have HN := Lib.hid (IH.out ks[k] (by omega) (by omega) [x, y, z])
        have HTB := Lib.hid (hT.below hbel)
        clear hc e0 e1 e2 hT
        go_wp2_with fail
        refine (HN.out _ HTB.out).mono ?_
        rintro e w2 ⟨rfl, hb2⟩
        have hbox2 := (hb2.block _ (heap_lt hbox)).trans hbox
        go_wp2
        go_roundw
        case rel => exact ⟨k + 1, hlt, by go_num, by rw [hs2]; congr 1, hbel.trans (hb2.mono hbel.size), hbox2⟩
        case measure => simp [intOf]; omega
      · obtain rfl : k = ks.length := by omega
        go_wp2
        go_ret
        exact ⟨by simp, hbel⟩
set_option maxRecDepth 100000 in
set_option maxHeartbeats 1000000 in
theorem pleaves_le (S : Nat → Prop) : ∀ (n : Nat) (t : T), nodes t ≤ n → n ≤ 1000000000000 → ∀ (vs : List Value) (w : World), TreeIn S w t vs →
    Calls Tryd.prog 27 #[.agg vs.toArray] w fun e w' => e = .returned (.int .i64 (leaves t : Int)) ∧ Below w.heap.size w w'
  | 0, .mk s ks lf, h, _, _, _, _ => by unfold nodes at h; omega
  | n + 1, .mk s ks lf, h, hn, vs, w, ht => by
    have IH := Lib.hid (pleaves_le S n)
    unfold TreeIn at ht
    obtain ⟨A, c, B, d, ws, rfl, hc, hd, hr, hk, hlf⟩ := ht
    have HK := Lib.hid hk
    have HR := Lib.hid hr
    have hnk : nodes (.mk s ks lf) = 1 + nodesL ks := by rw [nodes]
    have hdk : leaves (.mk s ks lf) = if ks.length = 0 then 1 else leavesL ks := by rw [leaves]
    rw [hnk] at h
    rw [hdk]
    have HB := Lib.hid ((Below.refl w.heap.size w).alloc (Nat.le_refl _) (.cells #[.int .i64 s, .slice A ks.length c, .slice B lf.length d] 38))
    clear hk hr hlf hc hd hnk hdk
    by_cases h0 : ks.length = 0
    · rw [if_pos h0, h0]
      have hz : (((ks.length : Nat) : Int) == 0) = true := by simp [h0]
      rw [h0] at hz HB
      go_enter Tryd.func27, Tryd.ntmps27
      go_wp2
      go_ret
      exact ⟨rfl, HB.out⟩
    rw [if_neg h0]
    have hz : (((ks.length : Nat) : Int) == 0) = false := by rw [beq_eq_false_iff_ne]; omega
    go_enter Tryd.func27, Tryd.ntmps27
    go_wp2
    go_loopw [3, 5, 13] (fun t bx i wr => ∃ k : Nat, k ≤ ks.length ∧ i = .int .i64 k ∧ t = .int .i64 (leavesL (ks.take k) : Int) ∧ Below w.heap.size w wr ∧ wr.heap[w.heap.size]? = some (.cells #[.int .i64 s, .slice A ks.length c, .slice B lf.length d] 38)) (fun _ _ i _ => ks.length - (intOf i).toNat)
    case atStart => exact ⟨0, Nat.zero_le _, rfl, by simp [leavesL], HB.out, heap_alloc_new w _⟩
    case round =>
      obtain ⟨k, hk, rfl, rfl, hbel, hbox⟩ := hrel
      have b1 : wr.cell? ⟨w.heap.size, 1, none⟩ = some (.slice A ks.length c) := by unfold World.cell?; simp only [hbox]; rfl
      by_cases hlt : k < ks.length
      · have hne : ws ≠ [] := by
          intro h0
          have := HK.out.len
          rw [h0] at this
          simp at this; omega
        obtain ⟨g, off, rfl, _, hg, hc⟩ := HR.out hne
        obtain ⟨x, y, z, hT, e0, e1, e2⟩ := HK.out.get k hlt
        have hl := HK.out.len
        have a0 : wr.cell? ⟨g, off + k * 3, none⟩ = some x := (hbel.cell (p := ⟨g, off + k * 3, none⟩) hg).trans (by rw [hc (k * 3) (by omega), show k * 3 = 3 * k by omega]; exact e0)
        have a1 : wr.cell? ⟨g, off + k * 3 + 1, none⟩ = some y := (hbel.cell (p := ⟨g, off + k * 3 + 1, none⟩) hg).trans (by rw [show off + k * 3 + 1 = off + (3 * k + 1) by omega, hc (3 * k + 1) (by omega)]; exact e1)
        have a2 : wr.cell? ⟨g, off + k * 3 + 2, none⟩ = some z := (hbel.cell (p := ⟨g, off + k * 3 + 2, none⟩) hg).trans (by rw [show off + k * 3 + 2 = off + (3 * k + 2) by omega, hc (3 * k + 2) (by omega)]; exact e2)
        have hlen := len_nodes ks
        obtain ⟨xs, xA, xn, xc, xB, xm, xd, rfl, rfl, rfl⟩ := tree_shape hT
        have hs := nodesL_take ks (k + 1)
        have hs1 := kid_nodes hlt
        have hs2 := kid_leaves hlt
        have hs3 := leavesL_le (ks.take k)
        have hs4 := leaves_le ks[k]
        have HN := Lib.hid (IH.out ks[k] (by omega) (by omega) [.int .i64 xs, .slice xA xn xc, .slice xB xm xd])
        have HTB := Lib.hid ((hT.below hbel).below ((Below.refl _ _).alloc (Nat.le_refl _) (.cells #[.int .i64 xs, .slice xA xn xc, .slice xB xm xd] 38)))
        have HBE := Lib.hid (hbel.alloc hbel.size (.cells #[.int .i64 xs, .slice xA xn xc, .slice xB xm xd] 38))
        have HBX := Lib.hid ((heap_alloc_old wr (.cells #[.int .i64 xs, .slice xA xn xc, .slice xB xm xd] 38) (heap_lt hbox)).trans hbox)
        clear hc e0 e1 e2 hT
        go_wp2_with fail
        generalize wr.alloc (.cells #[.int .i64 xs, .slice xA xn xc, .slice xB xm xd] 38) = W0 at *
        refine (HN.out _ HTB.out).mono ?_
        rintro e w2 ⟨rfl, hb2⟩
        have hbox2 := (hb2.block _ (heap_lt HBX.out)).trans HBX.out
        go_wp2
        go_roundw
        case rel => exact ⟨k + 1, hlt, by go_num, by rw [hs2]; congr 1, HBE.out.trans (hb2.mono HBE.out.size), hbox2⟩
        case measure => simp [intOf]; omega
      · obtain rfl : k = ks.length := by omega
        go_wp2
        go_ret
        exact ⟨by simp, hbel⟩
end Go.Proofs.YtjjohllfidmkjaaDoor.PfW
