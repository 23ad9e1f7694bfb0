/- Walk: Little. Conditions: the rows lie in memory. -/
import Derived.Test.YtjjohllfidmkjaaDoorPfP2
import Derived.Test.YtjjohllfidmkjaaDoorRowK
import Derived.Deep.DrawnRows
namespace Go.Proofs.YtjjohllfidmkjaaDoor.PfW
open Go Go.RowKit Go.Proofs.YtjjohllfidmkjaaDoor.Mem Go.Proofs.YtjjohllfidmkjaaDoor.Pf
attribute [local go_sem ↓] Go.wp_at_zero Go.wp_at_succ
theorem row_no {s : Syst} {r : R4} {b : Bool} (h : s.rows.all rowB = (rowB r && b)) (hn : Num r → False) : Ending.returned (.bool false) = .returned (.bool (littleB s)) := by
  unfold littleB
  have h1 : rowB r = false := by
    cases hb : rowB r
    · rfl
    · refine (hn ?_).elim
      unfold rowB numB at hb
      simp only [Bool.and_eq_true, decide_eq_true_eq] at hb
      obtain ⟨⟨⟨⟨h1, h2⟩, h3, h4⟩, h5, h6⟩, h7, h8⟩ := hb
      exact ⟨h1, h2, h3, h4, h5, h6, h7, h8⟩
  rw [h, h1]
  simp
theorem row_yes {r : R4} (h : Num r) (b : Bool) : (rowB r && b) = b := by
  have h1 : rowB r = true := by
    unfold rowB numB
    have := h.a0; have := h.b0; have := h.a1; have := h.b1; have := h.a2; have := h.b2; have := h.a3; have := h.b3
    simp only [Bool.and_eq_true, decide_eq_true_eq]
    omega
  rw [h1, Bool.true_and]
theorem little_end {s : Syst} (h1 : boxB s = true) (h2 : s.rows.all rowB = (s.rows.drop s.rows.length).all rowB) : Ending.returned (.bool (decide ((s.rows.length : Int) ≤ 5))) = .returned (.bool (littleB s)) := by
  unfold littleB
  rw [h1, h2, List.drop_length]
  simp
  omega
theorem little_no {s : Syst} (h : Box s → False) : Ending.returned (.bool false) = .returned (.bool (littleB s)) := by
  unfold littleB
  cases hb : boxB s
  · rfl
  · exact (h (box_of hb)).elim
set_option maxRecDepth 100000 in
set_option maxHeartbeats 4000000 in
theorem little_any (s : Syst) (A : Option Addr) (cp : Nat) (w : World) (hl : s.rows.length ≤ 4398046510976) (hr : Row w A (s.rows.flatMap r4Cells)) :
    Calls Tryd.prog 13 #[sysV s A cp] w fun e w' => e = .returned (.bool (littleB s)) ∧ Below w.heap.size w w' := by
  have HBB := Lib.hid (one_box w (.cells #[.int .i64 s.l0, .int .i64 s.l1, .int .i64 s.l2, .int .i64 s.h0, .int .i64 s.h1, .int .i64 s.h2, .slice A s.rows.length cp] 25))
  obtain ⟨x0, x1, x2, x3, x4, x5, x6⟩ := cell7 HBB.out.2
  have HR := Lib.hid (hr.below HBB.out.1)
  have HB := Lib.hid HBB.out.1
  clear hr
  unfold sysV
  go_enter Tryd.func13, Tryd.ntmps13
  go_wp2
  have hz := lt_of_block HBB.out.2
  clear HBB
  generalize w.alloc (.cells #[.int .i64 s.l0, .int .i64 s.l1, .int .i64 s.l2, .int .i64 s.h0, .int .i64 s.h1, .int .i64 s.h2, .slice A s.rows.length cp] 25) = W at *
  refine wp_loop_rounds 4 ?_
  rw [rounds_succ]
  by_cases p0 : s.l0 < 0
  · have d0 := decide_eq_true p0
    go_wp2
    go_quiet (fail)
    go_wp2
    go_ret
    exact ⟨little_no (fun hb => by have := hb.a0; omega), by (first | exact below_drewN HB.out _ | exact below_drewN (below_drewN HB.out _) _ | exact below_drewN (below_drewN (below_drewN HB.out _) _) _)⟩
  have d0 := decide_eq_false p0
  by_cases q0 : 9 < s.h0
  · have e0 := decide_eq_true q0
    go_wp2
    go_quiet (fail)
    go_wp2
    go_ret
    exact ⟨little_no (fun hb => by have := hb.b0; omega), by (first | exact below_drewN HB.out _ | exact below_drewN (below_drewN HB.out _) _ | exact below_drewN (below_drewN (below_drewN HB.out _) _) _)⟩
  have e0 := decide_eq_false q0
  by_cases r0 : s.h0 < s.l0
  · have f0 := decide_eq_true r0
    go_wp2
    go_quiet (fail)
    go_wp2
    go_ret
    exact ⟨little_no (fun hb => by have := hb.c0; omega), by (first | exact below_drewN HB.out _ | exact below_drewN (below_drewN HB.out _) _ | exact below_drewN (below_drewN (below_drewN HB.out _) _) _)⟩
  have f0 := decide_eq_false r0
  go_wp2
  go_quiet (fail)
  obtain ⟨n0, rfl⟩ : ∃ n0 : Nat, n0 = nq := ⟨_, rfl⟩
  go_wp2
  rw [rounds_succ]
  by_cases p1 : s.l1 < 0
  · have d1 := decide_eq_true p1
    go_wp2
    go_quiet (fail)
    go_wp2
    go_ret
    exact ⟨little_no (fun hb => by have := hb.a1; omega), by (first | exact below_drewN HB.out _ | exact below_drewN (below_drewN HB.out _) _ | exact below_drewN (below_drewN (below_drewN HB.out _) _) _)⟩
  have d1 := decide_eq_false p1
  by_cases q1 : 9 < s.h1
  · have e1 := decide_eq_true q1
    go_wp2
    go_quiet (fail)
    go_wp2
    go_ret
    exact ⟨little_no (fun hb => by have := hb.b1; omega), by (first | exact below_drewN HB.out _ | exact below_drewN (below_drewN HB.out _) _ | exact below_drewN (below_drewN (below_drewN HB.out _) _) _)⟩
  have e1 := decide_eq_false q1
  by_cases r1 : s.h1 < s.l1
  · have f1 := decide_eq_true r1
    go_wp2
    go_quiet (fail)
    go_wp2
    go_ret
    exact ⟨little_no (fun hb => by have := hb.c1; omega), by (first | exact below_drewN HB.out _ | exact below_drewN (below_drewN HB.out _) _ | exact below_drewN (below_drewN (below_drewN HB.out _) _) _)⟩
  have f1 := decide_eq_false r1
  go_wp2
  go_quiet (fail)
  obtain ⟨n1, rfl⟩ : ∃ n1 : Nat, n1 = nq := ⟨_, rfl⟩
  go_wp2
  rw [rounds_succ]
  by_cases p2 : s.l2 < 0
  · have d2 := decide_eq_true p2
    go_wp2
    go_quiet (fail)
    go_wp2
    go_ret
    exact ⟨little_no (fun hb => by have := hb.a2; omega), by (first | exact below_drewN HB.out _ | exact below_drewN (below_drewN HB.out _) _ | exact below_drewN (below_drewN (below_drewN HB.out _) _) _)⟩
  have d2 := decide_eq_false p2
  by_cases q2 : 9 < s.h2
  · have e2 := decide_eq_true q2
    go_wp2
    go_quiet (fail)
    go_wp2
    go_ret
    exact ⟨little_no (fun hb => by have := hb.b2; omega), by (first | exact below_drewN HB.out _ | exact below_drewN (below_drewN HB.out _) _ | exact below_drewN (below_drewN (below_drewN HB.out _) _) _)⟩
  have e2 := decide_eq_false q2
  by_cases r2 : s.h2 < s.l2
  · have f2 := decide_eq_true r2
    go_wp2
    go_quiet (fail)
    go_wp2
    go_ret
    exact ⟨little_no (fun hb => by have := hb.c2; omega), by (first | exact below_drewN HB.out _ | exact below_drewN (below_drewN HB.out _) _ | exact below_drewN (below_drewN (below_drewN HB.out _) _) _)⟩
  have f2 := decide_eq_false r2
  go_wp2
  go_quiet (fail)
  obtain ⟨n2, rfl⟩ : ∃ n2 : Nat, n2 = nq := ⟨_, rfl⟩
  go_wp2
  rw [rounds_succ]
  go_wp2
  have HB1 := Lib.hid (below_drewN HB.out (n0 + n1 + n2))
  have hbox : Hid (boxB s = true) := Lib.hid (by
    unfold boxB
    simp only [Bool.and_eq_true, decide_eq_true_eq]
    omega)
  have HZ := HB1.out.size
  have HRD := Lib.hid (HR.out.below (below_drewN (Below.refl W.heap.size W) (n0 + n1 + n2)))
  have b6 : (W.drewN (n0 + n1 + n2)).cell? ⟨w.heap.size, 6, none⟩ = some (.slice A s.rows.length cp) := x6
  have hz2 : w.heap.size < (W.drewN (n0 + n1 + n2)).heap.size := hz
  clear x0 x1 x2 x3 x4 x5 x6 p0 q0 r0 p1 q1 r1 p2 q2 r2 d0 e0 f0 d1 e1 f1 d2 e2 f2 hz HB HR HZ
  generalize (W.drewN (n0 + n1 + n2)) = W1 at *
  go_loopw [4, 5] (fun t _ wr => ∃ k : Nat, k ≤ s.rows.length ∧ t = .int .i64 k ∧ Hid (s.rows.all rowB = (s.rows.drop k).all rowB) ∧ Below W1.heap.size W1 wr) (fun t _ _ => s.rows.length - (intOf t).toNat)
  case atStart => exact ⟨0, Nat.zero_le _, rfl, Lib.hid rfl, Below.refl _ _⟩
  case round =>
    obtain ⟨k, hk, rfl, hd, hbel⟩ := hrel
    have HB2 := Lib.hid ((HB1.out.trans (hbel.mono HB1.out.size)))
    have z6 := (hbel.cell (p := ⟨w.heap.size, 6, none⟩) hz2).trans b6
    have hk1 : (0 : Int) ≤ (k : Int) := by omega
    by_cases hlt : k < s.rows.length
    · have hk2 : (k : Int) < (s.rows.length : Int) := by omega
      have dk := decide_eq_true hk2
      obtain ⟨g, off, rfl, hg, cr⟩ := row_get r4_len (by decide) HRD.out (by omega)
      have y0 := (hbel.cell (p := ⟨g, off + k * 4 + 0, none⟩) hg).trans (cr k hlt 0 (by decide))
      have y1 := (hbel.cell (p := ⟨g, off + k * 4 + 1, none⟩) hg).trans (cr k hlt 1 (by decide))
      have y2 := (hbel.cell (p := ⟨g, off + k * 4 + 2, none⟩) hg).trans (cr k hlt 2 (by decide))
      have y3 := (hbel.cell (p := ⟨g, off + k * 4 + 3, none⟩) hg).trans (cr k hlt 3 (by decide))
      have hdr := Lib.hid (List.drop_eq_getElem_cons hlt)
      have hst : Hid (s.rows.all rowB = (rowB s.rows[k] && (s.rows.drop (k + 1)).all rowB)) := Lib.hid (by rw [hd.out, hdr.out, List.all_cons])
      clear hd hdr cr
      generalize s.rows[k] = r at *
      obtain ⟨ra, rb, rc, rd⟩ := r
      simp only [r4Cells, List.getElem?_cons_zero, List.getElem?_cons_succ, Nat.add_zero] at y0 y1 y2 y3
      go_wp2
      refine wp_loop_rounds 5 ?_
      rw [rounds_succ]
      by_cases p0 : ra < -1000
      · have d0 := decide_eq_true p0
        go_wp2
        try (go_quiet (fail); go_wp2)
        go_ret
        exact ⟨row_no hst.out (fun hb => by have := hb.a0; simp only at this; omega), HB2.out⟩
      have d0 := decide_eq_false p0
      by_cases q0 : 1000 < ra
      · have e0 := decide_eq_true q0
        go_wp2
        try (go_quiet (fail); go_wp2)
        go_ret
        exact ⟨row_no hst.out (fun hb => by have := hb.b0; simp only at this; omega), HB2.out⟩
      have e0 := decide_eq_false q0
      go_wp2
      rw [rounds_succ]
      by_cases p1 : rb < -1000
      · have d1 := decide_eq_true p1
        go_wp2
        try (go_quiet (fail); go_wp2)
        go_ret
        exact ⟨row_no hst.out (fun hb => by have := hb.a1; simp only at this; omega), HB2.out⟩
      have d1 := decide_eq_false p1
      by_cases q1 : 1000 < rb
      · have e1 := decide_eq_true q1
        go_wp2
        try (go_quiet (fail); go_wp2)
        go_ret
        exact ⟨row_no hst.out (fun hb => by have := hb.b1; simp only at this; omega), HB2.out⟩
      have e1 := decide_eq_false q1
      go_wp2
      rw [rounds_succ]
      by_cases p2 : rc < -1000
      · have d2 := decide_eq_true p2
        go_wp2
        try (go_quiet (fail); go_wp2)
        go_ret
        exact ⟨row_no hst.out (fun hb => by have := hb.a2; simp only at this; omega), HB2.out⟩
      have d2 := decide_eq_false p2
      by_cases q2 : 1000 < rc
      · have e2 := decide_eq_true q2
        go_wp2
        try (go_quiet (fail); go_wp2)
        go_ret
        exact ⟨row_no hst.out (fun hb => by have := hb.b2; simp only at this; omega), HB2.out⟩
      have e2 := decide_eq_false q2
      go_wp2
      rw [rounds_succ]
      by_cases p3 : rd < -1000
      · have d3 := decide_eq_true p3
        go_wp2
        try (go_quiet (fail); go_wp2)
        go_ret
        exact ⟨row_no hst.out (fun hb => by have := hb.a3; simp only at this; omega), HB2.out⟩
      have d3 := decide_eq_false p3
      by_cases q3 : 1000 < rd
      · have e3 := decide_eq_true q3
        go_wp2
        try (go_quiet (fail); go_wp2)
        go_ret
        exact ⟨row_no hst.out (fun hb => by have := hb.b3; simp only at this; omega), HB2.out⟩
      have e3 := decide_eq_false q3
      go_wp2
      rw [rounds_succ]
      go_wp2
      go_roundw
      case rel => exact ⟨k + 1, by omega, by go_num, Lib.hid (hst.out.trans (row_yes ⟨by omega, by omega, by omega, by omega, by omega, by omega, by omega, by omega⟩ _)), hbel⟩
      case measure => simp [intOf]; omega
    · obtain rfl : k = s.rows.length := by omega
      have dk : decide ((s.rows.length : Int) < (s.rows.length : Int)) = false := decide_eq_false (by omega)
      go_wp2
      go_ret
      exact ⟨little_end hbox.out hd.out, HB2.out⟩
end Go.Proofs.YtjjohllfidmkjaaDoor.PfW
