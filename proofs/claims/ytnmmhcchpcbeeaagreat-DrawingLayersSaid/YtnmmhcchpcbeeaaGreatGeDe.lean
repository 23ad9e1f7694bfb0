/- Walks: one point of a row of the call's own deleted. Conditions: the row is the call's own. -/
import Derived.Test.YtnmmhcchpcbeeaaGreatGeSl
import Derived.Deep.RegionLaw
import Derived.Shelf.RegionOpenPlain

namespace Go.Proofs.YtnmmhcchpcbeeaaGreat.GeW
open Go Go.RowKit Go.Proofs.YtnmmhcchpcbeeaaGreat.Mem Go.Proofs.YtnmmhcchpcbeeaaGreat.Ge
attribute [local go_sem ↓] Go.wp_at_zero Go.wp_at_succ
theorem zero_vec (w : World) : (zeroValue 53).run Tryz.prog w = .ok (.agg #[.int .i64 0, .int .i64 0]) w := by kernel_rfl
theorem own_cells {w : World} {base : Nat} {e : TypeId} {size g c n : Nat} {xs : List Value} (h : w.ownsRow base e size (.slice (some ⟨g, 0, none⟩) n c) n xs) (j : Nat) (hj : j < n * size) : w.cell? ⟨g, j, none⟩ = xs[j]? ∧ w.frozen? ⟨g, j, none⟩ = false ∧ (w.cell? ⟨g, j, none⟩).isSome = true := by
  have h1 := h.cellAt (g := g) j hj
  have hlen : xs.length = n * size := h.1
  refine ⟨h1, ?_, by rw [h1, List.getElem?_eq_getElem (by omega)]; rfl⟩
  rcases h.2 with ⟨h1, h2⟩ | ⟨g', cap, cur, hv, hb, hh, hn', hc, hs, ht⟩
  · cases h1
  · injection hv with hv1
    injection hv1 with hv1
    injection hv1 with hv1
    subst hv1
    unfold World.frozen?
    rw [hh]
    simp
set_option maxRecDepth 100000 in
set_option maxHeartbeats 4000000 in
theorem delete_any (l : List V) (i base g n c : Nat) (w : World) (hn : n = l.length) (hi : i < n) (hl : n ≤ 1000000) (ho : w.ownsRow base 53 2 (.slice (some ⟨g, 0, none⟩) n c) n (l.flatMap ptCells)) :
    Calls Tryz.prog 102 #[.slice (some ⟨g, 0, none⟩) n c, .int .i64 (i : Int), .int .i64 ((i : Int) + 1)] w fun e w' => e = .returned (.slice (some ⟨g, 0, none⟩) (n - 1) c) ∧ w'.ownsRow base 53 2 (.slice (some ⟨g, 0, none⟩) (n - 1) c) (n - 1) ((l.take i ++ l.drop (i + 1)).flatMap ptCells) ∧ Below base w w' := by
  obtain ⟨i0, ia, ib, ic, id⟩ := info_parts info_vec
  have hnc : n ≤ c ∧ c ≤ maxLen := by
    rcases ho.2 with ⟨h1, h2⟩ | ⟨g', cap, cur, hv, hb, hh, hn', hc, hs, ht⟩
    · cases h1
    · injection hv with hv1 hv2 hv3
      subst hv3
      exact ⟨hn', hc⟩
  have hcl := own_cells ho
  have hbase := own_block ho g rfl
  obtain ⟨news, hnews⟩ : ∃ news, news = (l.drop (i + 1)).flatMap ptCells := ⟨_, rfl⟩
  have hlen : news.length = (n - (i + 1)) * 2 := by rw [hnews, flatMap_len pt_len, List.length_drop, hn]
  have hdrop : news = (l.flatMap ptCells).drop ((i + 1) * 2) := by rw [hnews, fm_drop pt_len]
  obtain ⟨A, hA, hsrc⟩ : ∃ A : Addr, (if c = i + 1 then (some (⟨g, 0, none⟩ : Addr)) else some ⟨g, (i + 1) * 2, none⟩) = some A ∧ Hid (∀ t u, news[t]? = some u → w.drew.cell? (A.add t) = some u) := by
    by_cases h : c = i + 1
    · refine ⟨⟨g, 0, none⟩, by simp [h], fun t u hu => ?_⟩
      have h0 : news.length = 0 := by rw [hlen]; omega
      rw [List.length_eq_zero_iff.1 h0] at hu
      simp at hu
    · refine ⟨⟨g, (i + 1) * 2, none⟩, by simp [h], fun t u hu => ?_⟩
      have ht : t < news.length := (List.getElem?_eq_some_iff.1 hu).1
      rw [hlen] at ht
      have e : (⟨g, (i + 1) * 2, none⟩ : Addr).add t = ⟨g, (i + 1) * 2 + t, none⟩ := by
        unfold Addr.add
        by_cases h0 : t = 0
        · subst h0; rfl
        · rw [if_neg h0]
      rw [e]
      show w.cell? _ = _
      rw [(hcl _ (by omega)).1, ← hu, hdrop, List.getElem?_drop]
  have s3 : Hid (∀ t, t < news.length → (w.drew.cell? ⟨g, 0 + i * 2 + t, none⟩).isSome = true ∧ w.drew.frozen? ⟨g, 0 + i * 2 + t, none⟩ = false) := by
    intro t ht
    rw [hlen] at ht
    have h := hcl (i * 2 + t) (by omega)
    rw [Nat.zero_add]
    exact ⟨h.2.2, h.2.1⟩
  have s1 := Lib.hid hlen
  have s2 : Hid (∀ u ∈ news, u.oneCell' = true) := by rw [hnews]; exact pt_one _
  have hod : w.drew.ownsRow base 53 2 (.slice (some ⟨g, 0, none⟩) n c) n (l.flatMap ptCells) := ho
  have ho1 := own_write hod (i * 2) news (by rw [hlen]; omega)
  have hb1 := own_write_below hod (i * 2) news
  obtain ⟨W1, hW1⟩ : ∃ W1, W1 = w.drew.setCells g (0 + i * 2) news := ⟨_, rfl⟩
  have HW1 := Lib.hid hW1
  rw [Nat.zero_add] at hW1
  rw [← hW1] at ho1 hb1
  have hcl1 := own_cells ho1
  have hclear : ∀ ty, (Builtin.clear_ #[26] ty #[.slice (some ⟨g, (n - 1) * 2, none⟩) (n - (n - 1)) (c - (n - 1))]).run Tryz.prog W1 = .ok (.tuple #[]) (W1.setCells g ((n - 1) * 2) (List.replicate (1 * 2) (.int .i64 0))) :=
    fun ty => by
      rw [show n - (n - 1) = 1 by omega]
      exact run_clear_cells W1 26 53 ty _ (.int .i64 0) 2 Tryz.underlying26 zero_vec (by rfl) rfl g ((n - 1) * 2) 1 _ (by omega) (fun j hj => (hcl1 _ (by omega)).2.2) (fun j hj => (hcl1 _ (by omega)).2.1)
  have ho2 := own_write ho1 ((n - 1) * 2) (List.replicate (1 * 2) (.int .i64 0)) (by simp; omega)
  have hb2 := own_write_below ho1 ((n - 1) * 2) (List.replicate (1 * 2) (.int .i64 0))
  have ho3 := own_head ho2 (m := n - 1) (by omega)
  have HO3 : Hid ((W1.setCells g ((n - 1) * 2) (List.replicate (1 * 2) (.int .i64 0))).ownsRow base 53 2 (.slice (some ⟨g, 0, none⟩) (n - 1) c) (n - 1) ((l.take i ++ l.drop (i + 1)).flatMap ptCells)) := by
    have e1 : (l.flatMap ptCells).take (i * 2) = (l.take i).flatMap ptCells := fm_take pt_len l i
    have e2 : ((l.take i).flatMap ptCells ++ news).length = (n - 1) * 2 := by rw [List.length_append, hlen, flatMap_len pt_len, List.length_take]; omega
    rw [e1] at ho3
    have e3 : ∀ r s : List Value, (((l.take i).flatMap ptCells ++ news ++ r).take ((n - 1) * 2) ++ List.replicate (1 * 2) (Value.int .i64 0) ++ s).take ((n - 1) * 2) = (l.take i).flatMap ptCells ++ news := by
      intro r s
      rw [List.append_assoc, List.take_append_of_le_length (by rw [List.length_take, List.length_append]; omega), List.take_take, Nat.min_self, List.take_append_of_le_length (by omega), List.take_of_length_le (by omega)]
    rw [e3, hnews, ← List.flatMap_append] at ho3
    exact ho3
  have HB : Hid (Below base w (W1.setCells g ((n - 1) * 2) (List.replicate (1 * 2) (.int .i64 0)))) := by
    have hlt : base ≤ w.heap.size := by
      rcases ho.2 with ⟨h1, h2⟩ | ⟨g', cap, cur, hv, hb, hh, hn', hc, hs, ht⟩
      · cases h1
      · have := (Array.getElem?_eq_some_iff.1 hh).1
        omega
    have h0 : Below base w w.drew := ⟨rfl, rfl, rfl, Nat.le_refl _, fun j hj => rfl⟩
    exact (h0.trans hb1).trans hb2
  clear ho1 hb1 ho2 hb2 ho3 hcl1 hod hcl hdrop hnews hlen hW1 ho hn
  unfold maxLen at hnc
  have hnc1 := hnc.1
  have hnc2 := hnc.2
  have hic : i ≤ c := by omega
  have hjc : i + 1 ≤ c := by omega
  have k0 : (0 : Int) ≤ (i : Int) + 1 := by omega
  have k1 : (i : Int) + 1 ≤ (n : Int) := by omega
  have k2 : i + (n - (i + 1)) = n - 1 := by omega
  clear hnc
  go_enter Tryz.func102, Tryz.ntmps102
  go_wp2_with fail
  go_region_law (refine step_append_room rfl (.tmp 22) (.tmp 25) 26 rfl 53 i0 2 Tryz.underlying26 ia ic g 0 i c (by simp [Act.eval, Act.put]) A (n - (i + 1)) (c - (i + 1)) news (by simp [Act.eval, Act.put]) s1.out hsrc.out s2.out (by omega) s3.out ?_; rw [← HW1.out])
  go_wp2
  go_ret
  exact ⟨rfl, HO3.out, HB.out⟩
end Go.Proofs.YtnmmhcchpcbeeaaGreat.GeW
