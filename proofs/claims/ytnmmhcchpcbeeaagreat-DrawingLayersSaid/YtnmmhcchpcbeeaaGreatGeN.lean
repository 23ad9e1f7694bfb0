/- Walks: the neighbours of a vertex. Conditions: the points lie in memory; at most a million. -/
import Derived.Test.YtnmmhcchpcbeeaaGreatGeD

namespace Go.Proofs.YtnmmhcchpcbeeaaGreat.GeW
open Go Go.RowKit Go.Proofs.YtnmmhcchpcbeeaaGreat.Mem Go.Proofs.YtnmmhcchpcbeeaaGreat.Ge
attribute [local go_sem ↓] Go.wp_at_zero Go.wp_at_succ
set_option maxRecDepth 100000 in
theorem next_any (l : List V) (i : Nat) (A : Option Addr) (c : Nat) (w : World) (hr : Row w A (l.flatMap ptCells)) (hi : i < l.length) (hl : l.length ≤ 1000000) :
    Calls Tryz.prog 132 #[.slice A l.length c, .int .i64 (i : Int)] w fun e w' => e = .returned (.agg #[.int .i64 (nxt l i).1, .int .i64 (nxt l i).2]) ∧ Below w.heap.size w w' := by
  obtain ⟨g, off, rfl, hg, hc⟩ := row_get pt_len (by decide) hr (by omega)
  obtain ⟨j, hj⟩ : ∃ j, j = (i + 1) % l.length := ⟨_, rfl⟩
  have hjl : j < l.length := by rw [hj]; exact Nat.mod_lt _ (by omega)
  have HV : Hid (nxt l i = l[j]) := Lib.hid (by unfold nxt; rw [← hj]; simp [List.getD, List.getElem?_eq_getElem hjl])
  have hm : (((i : Int) + 1)) % (l.length : Int) = (j : Int) := by rw [hj, Int.natCast_emod, show ((i + 1 : Nat) : Int) = ((i : Int) + 1) by omega]
  rw [HV.out]
  have hb := (Below.refl w.heap.size w).alloc (Nat.le_refl _) (.cells #[.int .i64 0, .int .i64 0] 53)
  have a0 := (hb.cell (p := ⟨g, off + j * 2, none⟩) hg).trans (hc j hjl 0 (by decide))
  have a1 := (hb.cell (p := ⟨g, off + j * 2 + 1, none⟩) hg).trans (hc j hjl 1 (by decide))
  clear hb hc hr hj HV
  generalize l[j] = q at *
  obtain ⟨qx, qy⟩ := q
  simp only [ptCells, List.getElem?_cons_zero, List.getElem?_cons_succ] at a0 a1
  go_enter Tryz.func132, Tryz.ntmps132
  go_wp2
  refine bodyPost_ret (v := .agg #[.int .i64 qx, .int .i64 qy]) (by simp [results, Tryz.results132, go_sem]) rfl ⟨rfl, ?_⟩
  exact (Below.refl _ _).alloc (Nat.le_refl _) _
set_option maxRecDepth 100000 in
theorem last_any (l : List V) (i : Nat) (A : Option Addr) (c : Nat) (w : World) (hr : Row w A (l.flatMap ptCells)) (hi : i < l.length) (hl : l.length ≤ 1000000) :
    Calls Tryz.prog 131 #[.slice A l.length c, .int .i64 (i : Int)] w fun e w' => e = .returned (.agg #[.int .i64 (lst l i).1, .int .i64 (lst l i).2]) ∧ Below w.heap.size w w' := by
  obtain ⟨g, off, rfl, hg, hc⟩ := row_get pt_len (by decide) hr (by omega)
  obtain ⟨j, hj⟩ : ∃ j, j = (i + l.length - 1) % l.length := ⟨_, rfl⟩
  have hjl : j < l.length := by rw [hj]; exact Nat.mod_lt _ (by omega)
  have HV : Hid (lst l i = l[j]) := Lib.hid (by unfold lst; rw [← hj]; simp [List.getD, List.getElem?_eq_getElem hjl])
  have hm : (((i : Int) + (l.length : Int) - 1)) % (l.length : Int) = (j : Int) := by rw [hj, Int.natCast_emod, show ((i + l.length - 1 : Nat) : Int) = ((i : Int) + (l.length : Int) - 1) by omega]
  rw [HV.out]
  have hb := (Below.refl w.heap.size w).alloc (Nat.le_refl _) (.cells #[.int .i64 0, .int .i64 0] 53)
  have a0 := (hb.cell (p := ⟨g, off + j * 2, none⟩) hg).trans (hc j hjl 0 (by decide))
  have a1 := (hb.cell (p := ⟨g, off + j * 2 + 1, none⟩) hg).trans (hc j hjl 1 (by decide))
  clear hb hc hr hj HV
  generalize l[j] = q at *
  obtain ⟨qx, qy⟩ := q
  simp only [ptCells, List.getElem?_cons_zero, List.getElem?_cons_succ] at a0 a1
  go_enter Tryz.func131, Tryz.ntmps131
  go_wp2
  refine bodyPost_ret (v := .agg #[.int .i64 qx, .int .i64 qy]) (by simp [results, Tryz.results131, go_sem]) rfl ⟨rfl, ?_⟩
  exact (Below.refl _ _).alloc (Nat.le_refl _) _
end Go.Proofs.YtnmmhcchpcbeeaaGreat.GeW
