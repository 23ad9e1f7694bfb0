/- Walk: Proves. Conditions: the box and the numbers are small; the rows lie in memory. -/
import Derived.Test.YtjjohllfidmkjaaDoorPfP2
import Derived.Test.YtjjohllfidmkjaaDoorRowK
import Derived.Deep.DrawnRows
namespace Go.Proofs.YtjjohllfidmkjaaDoor.PfW
open Go Go.RowKit Go.Proofs.YtjjohllfidmkjaaDoor.Mem Go.Proofs.YtjjohllfidmkjaaDoor.Pf
attribute [local go_sem ↓] Go.wp_at_zero Go.wp_at_succ

theorem proves_at {s : Syst} {k : Nat} (h : k < s.rows.length) : proves s [(k : Int)] = dead s s.rows[k] := by
  show proves1 s k = _
  unfold proves1
  rw [Int.toNat_natCast, List.getElem?_eq_getElem h]
  have h1 : (k : Int) < (s.rows.length : Int) := by omega
  simp [h1]
theorem proves_out {s : Syst} {n : Int} (h : (s.rows.length : Int) ≤ n) : proves s [n] = false := by
  show proves1 s n = _
  unfold proves1
  rw [List.getElem?_eq_none (by omega)]
  simp
theorem proves_neg {s : Syst} {n : Int} (h : n < 0) : proves s [n] = false := by
  show proves1 s n = _
  unfold proves1
  rw [decide_eq_false (by omega)]
  rfl
theorem proves_len {s : Syst} {l : List Int} (h : l.length ≠ 1) : proves s l = false := by
  match l, h with
  | [], _ => rfl
  | [_], h => simp at h
  | _ :: _ :: _, _ => rfl
set_option maxRecDepth 100000 in
set_option maxHeartbeats 4000000 in
theorem proves_any (s : Syst) (lf : List Int) (A B : Option Addr) (cp d : Nat) (w : World) (hb : Box s) (hn : ∀ r ∈ s.rows, Num r) (hl : s.rows.length ≤ 1000000) (hr : Row w A (s.rows.flatMap r4Cells)) (hlf : Row w B (intCells lf)) (hll : lf.length ≤ 17592186043904) :
    Calls Tryd.prog 46 #[sysV s A cp, .slice B lf.length d] w fun e w' => e = .returned (.bool (proves s lf)) ∧ Below w.heap.size w w' := by
  have HBB := Lib.hid (one_box w (.cells #[.int .i64 s.l0, .int .i64 s.l1, .int .i64 s.l2, .int .i64 s.h0, .int .i64 s.h1, .int .i64 s.h2, .slice A s.rows.length cp] 25))
  obtain ⟨x0, x1, x2, x3, x4, x5, x6⟩ := cell7 HBB.out.2
  unfold sysV
  by_cases h1 : lf.length = 1
  · obtain ⟨n, rfl⟩ : ∃ n, lf = [n] := by
      match lf, h1 with
      | [n], _ => exact ⟨n, rfl⟩
    clear h1 hll
    obtain ⟨g2, off2, rfl, hg2, ca⟩ := hlf (by simp [intCells])
    have a0 : w.cell? ⟨g2, off2, none⟩ = some (.int .i64 n) := ca 0 (by simp [intCells])
    clear hlf ca
    have d1 : (([n].length : Nat) : Int) = 1 := rfl
    by_cases h2 : n < 0
    · rw [proves_neg h2]
      have d2 : decide (0 ≤ n) = false := decide_eq_false (by omega)
      clear d1
      go_enter Tryd.func46, Tryd.ntmps46
      go_wp2
      go_quiet (fail)
      go_wp2
      go_ret
      exact ⟨rfl, below_drewN HBB.out.1 _⟩

    by_cases h3 : (s.rows.length : Int) ≤ n
    · rw [proves_out h3]
      have d2 : decide (0 ≤ n) = true := decide_eq_true (by omega)
      have d3 : decide (n < (s.rows.length : Int)) = false := decide_eq_false (by omega)
      clear d1
      go_enter Tryd.func46, Tryd.ntmps46
      go_wp2
      go_quiet (fail)
      go_wp2
      go_ret
      exact ⟨rfl, below_drewN HBB.out.1 _⟩

    obtain ⟨k, rfl⟩ : ∃ k : Nat, n = (k : Int) := ⟨n.toNat, by omega⟩
    have hk : k < s.rows.length := by omega
    rw [proves_at hk]
    unfold dead
    obtain ⟨g, off, rfl, hg, cr⟩ := row_get r4_len (by decide) hr (by omega)
    have y0 := cr k hk 0 (by decide)
    have y1 := cr k hk 1 (by decide)
    have y2 := cr k hk 2 (by decide)
    have y3 := cr k hk 3 (by decide)
    have HM := Lib.hid (fun W => most_any s s.rows[k] (some ⟨g, off, none⟩) cp W hb (hn _ (List.getElem_mem hk)))
    have hmb := most_bd hb (hn _ (List.getElem_mem hk))
    unfold sysV at HM
    generalize most s s.rows[k] = u at *
    generalize s.rows[k] = r at *
    obtain ⟨ra, rb, rc, rd⟩ := r
    simp only [r4Cells, List.getElem?_cons_zero, List.getElem?_cons_succ, Nat.add_zero] at y0 y1 y2 y3 HM ⊢
    have HB := Lib.hid (HBB.out.1)
    have a0 := (HBB.out.1.cell (p := ⟨g2, off2, none⟩) hg2).trans a0
    have y0 := (HBB.out.1.cell (p := ⟨g, off + k * 4, none⟩) hg).trans y0
    have y1 := (HBB.out.1.cell (p := ⟨g, off + k * 4 + 1, none⟩) hg).trans y1
    have y2 := (HBB.out.1.cell (p := ⟨g, off + k * 4 + 2, none⟩) hg).trans y2
    have y3 := (HBB.out.1.cell (p := ⟨g, off + k * 4 + 3, none⟩) hg).trans y3
    have hz : w.heap.size < (w.alloc (.cells #[.int .i64 s.l0, .int .i64 s.l1, .int .i64 s.l2, .int .i64 s.h0, .int .i64 s.h1, .int .i64 s.h2, .slice (some ⟨g, off, none⟩) s.rows.length cp] 25)).heap.size := lt_of_block HBB.out.2
    have hg := Nat.lt_of_lt_of_le hg HB.out.size
    have hg2 := Nat.lt_of_lt_of_le hg2 HB.out.size
    have e1 : (0 : Int) ≤ (k : Int) := by omega
    have e2 : (k : Int) < (s.rows.length : Int) := by omega
    clear h2 h3 hb hn hr cr d1
    go_enter Tryd.func46, Tryd.ntmps46
    go_wp2
    generalize (w.alloc (.cells #[.int .i64 s.l0, .int .i64 s.l1, .int .i64 s.l2, .int .i64 s.h0, .int .i64 s.h1, .int .i64 s.h2, .slice (some ⟨g, off, none⟩) s.rows.length cp] 25)) = W at *
    go_region_held3 (fun w' => w'.cell? ⟨g2, off2, none⟩ = some (.int .i64 (k : Int)) ∧ w'.cell? ⟨w.heap.size, 0, none⟩ = some (.int .i64 s.l0) ∧ w'.cell? ⟨w.heap.size, 1, none⟩ = some (.int .i64 s.l1) ∧ w'.cell? ⟨w.heap.size, 2, none⟩ = some (.int .i64 s.l2) ∧ w'.cell? ⟨w.heap.size, 3, none⟩ = some (.int .i64 s.h0) ∧ w'.cell? ⟨w.heap.size, 4, none⟩ = some (.int .i64 s.h1) ∧ w'.cell? ⟨w.heap.size, 5, none⟩ = some (.int .i64 s.h2) ∧ w'.cell? ⟨w.heap.size, 6, none⟩ = some (.slice (some ⟨g, off, none⟩) s.rows.length cp) ∧ w'.cell? ⟨g, off + k * 4, none⟩ = some (.int .i64 ra) ∧ w'.cell? ⟨g, off + k * 4 + 1, none⟩ = some (.int .i64 rb) ∧ w'.cell? ⟨g, off + k * 4 + 2, none⟩ = some (.int .i64 rc) ∧ w'.cell? ⟨g, off + k * 4 + 3, none⟩ = some (.int .i64 rd)) (first | go_keep) ((go_at_call 65; refine (HM.out _).mono ?_; rintro e w2 ⟨rfl, hb2⟩; have k0 := (hb2.cell (p := ⟨g2, off2, none⟩) (by first | exact hg | exact hg2 | exact hz)).trans a0; have k1 := (hb2.cell (p := ⟨w.heap.size, 0, none⟩) (by first | exact hg | exact hg2 | exact hz)).trans x0; have k2 := (hb2.cell (p := ⟨w.heap.size, 1, none⟩) (by first | exact hg | exact hg2 | exact hz)).trans x1; have k3 := (hb2.cell (p := ⟨w.heap.size, 2, none⟩) (by first | exact hg | exact hg2 | exact hz)).trans x2; have k4 := (hb2.cell (p := ⟨w.heap.size, 3, none⟩) (by first | exact hg | exact hg2 | exact hz)).trans x3; have k5 := (hb2.cell (p := ⟨w.heap.size, 4, none⟩) (by first | exact hg | exact hg2 | exact hz)).trans x4; have k6 := (hb2.cell (p := ⟨w.heap.size, 5, none⟩) (by first | exact hg | exact hg2 | exact hz)).trans x5; have k7 := (hb2.cell (p := ⟨w.heap.size, 6, none⟩) (by first | exact hg | exact hg2 | exact hz)).trans x6; have k8 := (hb2.cell (p := ⟨g, off + k * 4, none⟩) (by first | exact hg | exact hg2 | exact hz)).trans y0; have k9 := (hb2.cell (p := ⟨g, off + k * 4 + 1, none⟩) (by first | exact hg | exact hg2 | exact hz)).trans y1; have k10 := (hb2.cell (p := ⟨g, off + k * 4 + 2, none⟩) (by first | exact hg | exact hg2 | exact hz)).trans y2; have k11 := (hb2.cell (p := ⟨g, off + k * 4 + 3, none⟩) (by first | exact hg | exact hg2 | exact hz)).trans y3))
    go_wp2
    go_ret
    exact ⟨rfl, (below_drew HB.out).trans (hb2.mono HB.out.size)⟩
  · have d1 : ((lf.length : Int) == 1) = false := by rw [beq_eq_false_iff_ne]; omega
    rw [proves_len h1]
    go_enter Tryd.func46, Tryd.ntmps46
    go_wp2
    go_quiet (fail)
    go_wp2
    go_ret
    exact ⟨rfl, below_drewN HBB.out.1 _⟩

end Go.Proofs.YtjjohllfidmkjaaDoor.PfW
