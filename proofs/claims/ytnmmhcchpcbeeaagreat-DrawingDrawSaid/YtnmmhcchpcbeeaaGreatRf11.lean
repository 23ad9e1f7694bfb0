/- Walks: of the reference: whether points are near; the doubled area; the edges of a ring. Conditions: the points lie in memory. -/
import Derived.Test.YtnmmhcchpcbeeaaGreatApR
import Derived.Test.YtnmmhcchpcbeeaaGreatGeA
import Derived.Test.YtnmmhcchpcbeeaaGreatGeE
import Derived.Test.YtnmmhcchpcbeeaaGreatLater
import Derived.Deep.CutRange
namespace Go.Proofs.YtnmmhcchpcbeeaaGreat.GeW
open Go Go.RowKit Go.Proofs.YtnmmhcchpcbeeaaGreat.Mem Go.Proofs.YtnmmhcchpcbeeaaGreat.Ge
attribute [local go_sem ↓] Go.wp_at_zero Go.wp_at_succ
set_option maxRecDepth 100000 in
set_option maxHeartbeats 1000000 in
theorem rnear_any (l : List V) (A : Option Addr) (c : Nat) (w : World) (hr : Row w A (l.flatMap ptCells)) (hl : l.length ≤ 17592186043904) :
    Calls Tryz.prog 106 #[.slice A l.length c] w fun e w' => e = .returned (.bool (near l)) ∧ Below w.heap.size w w' := by
  have HR := Lib.hid hr
  clear hr
  go_enter Tryz.func106, Tryz.ntmps106
  go_wp2
  go_loopw [3] (fun i wr => ∃ k : Nat, i = .int .i64 (k : Int) ∧ k ≤ l.length ∧ Hid (near l = near (l.drop k)) ∧ Hid (Below w.heap.size w wr)) (fun i _ => l.length - (intOf i).toNat)
  case atStart => exact ⟨0, rfl, Nat.zero_le _, Lib.hid rfl, Lib.hid (Below.refl _ _)⟩
  case round =>
    obtain ⟨k, rfl, hk, HN, HB⟩ := hrel
    by_cases hlt : k < l.length
    · obtain ⟨g, off, rfl, hg, hc⟩ := row_get pt_len (by decide) HR.out (by omega)
      have a0 := (HB.out.cell (p := ⟨g, off + k * 2, none⟩) hg).trans (hc k hlt 0 (by decide))
      have a1 := (HB.out.cell (p := ⟨g, off + k * 2 + 1, none⟩) hg).trans (hc k hlt 1 (by decide))
      have HS : Hid (near l = (within l[k] 2000 && near (l.drop (k + 1)))) := Lib.hid (by rw [HN.out, List.drop_eq_getElem_cons hlt]; rfl)
      clear hc
      generalize l[k] = q at *
      obtain ⟨qx, qy⟩ := q
      simp only [ptCells, List.getElem?_cons_zero, List.getElem?_cons_succ] at a0 a1
      have HW := Lib.hid (fun W => rwithin_any qx qy 2000 W (by omega))
      generalize within (qx, qy) 2000 = b at *
      go_wp2_with fail
      refine (HW.out _).mono ?_
      rintro e w9 ⟨rfl, hb9⟩
      have HB9 := Lib.hid (HB.out.trans (hb9.mono HB.out.size))
      clear a0 a1 hb9
      cases b
      · go_wp2
        go_ret
        rw [HS.out]
        exact ⟨rfl, HB9.out⟩
      · go_wp2
        go_roundw
        case rel => exact ⟨k + 1, by go_num, by omega, Lib.hid (by rw [HS.out]; rfl), HB9⟩
        case measure => simp [intOf]; omega
    · obtain rfl : k = l.length := by omega
      have HF : Hid (near l = true) := Lib.hid (by rw [HN.out, List.drop_length]; rfl)
      go_wp2
      go_ret
      rw [HF.out]
      exact ⟨rfl, HB.out⟩
set_option maxRecDepth 100000 in
set_option maxHeartbeats 4000000 in
theorem rarea_any (l : List V) (A : Option Addr) (c : Nat) (w : World) (hr : Row w A (l.flatMap ptCells)) (hl : l.length ≤ 200) (hn : near l = true) :
    Calls Tryz.prog 108 #[.slice A l.length c] w fun e w' => e = .returned (.int .i64 (area l)) ∧ Below w.heap.size w w' := by
  have HR := Lib.hid hr
  have HN := Lib.hid hn
  clear hr hn
  go_enter Tryz.func108, Tryz.ntmps108
  go_wp2
  go_loopw [3, 4] (fun n i wr => ∃ k : Nat, i = .int .i64 (k : Int) ∧ k ≤ l.length ∧ n = .int .i64 (areaFrom l k) ∧ Hid (Below w.heap.size w wr)) (fun _ i _ => l.length - (intOf i).toNat)
  case atStart => exact ⟨0, rfl, Nat.zero_le _, rfl, Lib.hid (Below.refl _ _)⟩
  case round =>
    obtain ⟨k, rfl, hk, rfl, HB⟩ := hrel
    have hAB := areaFrom_le HN.out k hk
    by_cases hlt : k < l.length
    · have HAX := Lib.hid (areaFrom_le HN.out (k + 1) hlt)
      have HXN := Lib.hid (cross_near HN.out hlt)
      obtain ⟨g, off, rfl, hg, hc⟩ := row_get pt_len (by decide) HR.out (by omega)
      obtain ⟨j, hj⟩ : ∃ j, j = (k + 1) % l.length := ⟨_, rfl⟩
      have hjl : j < l.length := by rw [hj]; exact Nat.mod_lt _ (by omega)
      have hm : ((k : Int) + 1) % (l.length : Int) = (j : Int) := by rw [hj, Int.natCast_emod, show (((k + 1) : Nat) : Int) = ((k : Int) + 1) by omega]
      have hgr : g < wr.heap.size := Nat.lt_of_lt_of_le hg HB.out.size
      have A0 : ∀ p : Later wr, p.w.cell? ⟨g, off + k * 2, none⟩ = some (.int .i64 l[k].1) := later_cell hgr ((HB.out.cell (p := ⟨g, off + k * 2, none⟩) hg).trans (hc k hlt 0 (by decide)))
      have A1 : ∀ p : Later wr, p.w.cell? ⟨g, off + k * 2 + 1, none⟩ = some (.int .i64 l[k].2) := later_cell hgr ((HB.out.cell (p := ⟨g, off + k * 2 + 1, none⟩) hg).trans (hc k hlt 1 (by decide)))
      have B0 : ∀ p : Later wr, p.w.cell? ⟨g, off + j * 2, none⟩ = some (.int .i64 l[j].1) := later_cell hgr ((HB.out.cell (p := ⟨g, off + j * 2, none⟩) hg).trans (hc j hjl 0 (by decide)))
      have B1 : ∀ p : Later wr, p.w.cell? ⟨g, off + j * 2 + 1, none⟩ = some (.int .i64 l[j].2) := later_cell hgr ((HB.out.cell (p := ⟨g, off + j * 2 + 1, none⟩) hg).trans (hc j hjl 1 (by decide)))
      have HV : Hid (nxt l k = l[j]) := Lib.hid (by unfold nxt; rw [← hj]; simp [List.getD, List.getElem?_eq_getElem hjl])
      have HS : Hid (areaFrom l (k + 1) = areaFrom l k + (l[k].1 * (nxt l k).2 - l[k].2 * (nxt l k).1)) := Lib.hid (by rw [areaFrom, List.getD_eq_getElem?_getD, List.getElem?_eq_getElem hlt]; rfl)
      rw [HV.out] at HS HXN
      clear hc HV hj
      generalize l[k] = q at *
      generalize l[j] = p at *
      obtain ⟨qx, qy⟩ := q
      obtain ⟨px, py⟩ := p
      simp only at HXN HS A0 A1 B0 B1
      have HCR := Lib.hid (fun W => rcross_any qx qy px py W (by have := HXN.out.1; omega) (by have := HXN.out.2; omega))
      generalize areaFrom l k = s1 at *
      have hsum := HS.out
      have hax := HAX.out
      have hxn := HXN.out
      have WW : IntKind.i64.wrap (s1 + (qx * py - qy * px)) = s1 + (qx * py - qy * px) := by rw [IntKind.wrap_i64]; omega
      have hk1 : (0 : Int) ≤ (k : Int) := by omega
      have hl0 : ((l.length : Int) = 0) = False := eq_false (by omega)
      have hl1 : ((l.length : Int) == 0) = false := beq_eq_false_iff_ne.2 (by omega)
      clear hsum hax hxn
      go_wp2
      refine wp_region_later wr (by kernel_rfl) (by kernel_rfl) (Below.refl _ _) ?_
      repeat (go_big_quiet_step (first | fail | (go_at_call 157; exact Calls.later (HCR.out _))))
      refine wpQuiet_nil ?_
      rintro w9 hex; have hb9 := later_of hex; clear hex
      have HB9 := Lib.hid (HB.out.trans (hb9.mono HB.out.size))
      clear WW A0 A1 B0 B1 hb9 hl0 hl1
      go_wp2
      go_roundw
      case rel => exact ⟨k + 1, by go_num, by omega, by rw [HS.out], HB9⟩
      case measure => simp [intOf]; omega
    · have hk2 : k = l.length := by omega
      subst hk2
      go_wp2
      go_ret
      exact ⟨rfl, HB.out⟩
theorem seg_one (l : List S) : ∀ u ∈ l.flatMap segCells, u.oneCell' = true := by
  intro u hu
  obtain ⟨x, _, hx⟩ := List.mem_flatMap.1 hu
  unfold segCells at hx
  simp at hx
  rcases hx with rfl | rfl | rfl | rfl <;> rfl
set_option maxRecDepth 100000 in
set_option maxHeartbeats 4000000 in
theorem redges_any (l : List V) (A : Option Addr) (c : Nat) (w : World) (hr : Row w A (l.flatMap ptCells)) (hl : l.length ≤ 200) (h2 : 2 ≤ l.length) :
    Calls Tryz.prog 67 #[.slice A l.length c] w fun e w' => ∃ v, e = .returned v ∧ w'.ownsRow w.heap.size 74 4 v l.length ((edgesN l l.length).flatMap segCells) ∧ Below w.heap.size w w' := by
  have HR := Lib.hid hr
  obtain ⟨i0, ia, ib, ic, id⟩ := info_parts info_seg
  have d2 : decide ((l.length : Int) < 2) = false := decide_eq_false (by omega)
  clear hr
  go_enter Tryz.func67, Tryz.ntmps67
  go_wp2
  go_loopw [3, 4] (fun t i wr => ∃ k : Nat, i = .int .i64 (k : Int) ∧ k ≤ l.length ∧ Hid (wr.ownsRow w.heap.size 74 4 t k ((edgesN l k).flatMap segCells)) ∧ Hid (Below w.heap.size w wr)) (fun _ i _ => l.length - (intOf i).toNat)
  case atStart => exact ⟨0, rfl, Nat.zero_le _, Lib.hid (World.ownsRow_nil _ _ _ _), Lib.hid (Below.refl _ _)⟩
  case round =>
    obtain ⟨k, rfl, hk, HO, HB⟩ := hrel
    obtain ⟨vA, vc, rfl, hvc⟩ := own_shape HO.out
    by_cases hlt : k < l.length
    · obtain ⟨g, off, rfl, hg, hc⟩ := row_get pt_len (by decide) HR.out (by omega)
      obtain ⟨j, hj⟩ : ∃ j, j = (k + 1) % l.length := ⟨_, rfl⟩
      have hjl : j < l.length := by rw [hj]; exact Nat.mod_lt _ (by omega)
      have hm : ((k : Int) + 1) % (l.length : Int) = (j : Int) := by rw [hj, Int.natCast_emod, show (((k + 1) : Nat) : Int) = ((k : Int) + 1) by omega]
      have a0 := (HB.out.cell (p := ⟨g, off + k * 2, none⟩) hg).trans (hc k hlt 0 (by decide))
      have a1 := (HB.out.cell (p := ⟨g, off + k * 2 + 1, none⟩) hg).trans (hc k hlt 1 (by decide))
      have b0 := (HB.out.cell (p := ⟨g, off + j * 2, none⟩) hg).trans (hc j hjl 0 (by decide))
      have b1 := (HB.out.cell (p := ⟨g, off + j * 2 + 1, none⟩) hg).trans (hc j hjl 1 (by decide))
      have hgr : g < wr.heap.size := Nat.lt_of_lt_of_le hg HB.out.size
      have HV : Hid (nxt l k = l[j]) := Lib.hid (by unfold nxt; rw [← hj]; simp [List.getD, List.getElem?_eq_getElem hjl])
      have HS : Hid (edgesN l (k + 1) = edgesN l k ++ [(l[k], nxt l k)]) := Lib.hid (by rw [edgesN_succ, List.getD_eq_getElem?_getD, List.getElem?_eq_getElem hlt]; rfl)
      rw [HV.out] at HS
      have HC4 : Hid (w.cell? ⟨g, off + k * 2, none⟩ = (ptCells l[k])[0]? ∧ w.cell? ⟨g, off + k * 2 + 1, none⟩ = (ptCells l[k])[1]? ∧ w.cell? ⟨g, off + j * 2, none⟩ = (ptCells l[j])[0]? ∧ w.cell? ⟨g, off + j * 2 + 1, none⟩ = (ptCells l[j])[1]?) := Lib.hid ⟨hc k hlt 0 (by decide), hc k hlt 1 (by decide), hc j hjl 0 (by decide), hc j hjl 1 (by decide)⟩
      clear hc HV hj
      generalize l[k] = q at *
      generalize l[j] = p at *
      obtain ⟨qx, qy⟩ := q
      obtain ⟨px, py⟩ := p
      simp only [ptCells, List.getElem?_cons_zero, List.getElem?_cons_succ] at a0 a1 b0 b1
      have hz := Below.size HB.out
      have C2 : Hid (k + 1 ≤ maxLen ∧ (k + 1) * 32 ≤ 140737488355328 ∧ ([.int .i64 qx, .int .i64 qy, .int .i64 px, .int .i64 py] : List Value).length = 1 * 4 ∧ ∀ u ∈ ([.int .i64 qx, .int .i64 qy, .int .i64 px, .int .i64 py] : List Value), u.oneCell' = true) := Lib.hid ⟨by unfold maxLen; omega, by omega, rfl, by intro u hu; simp at hu; rcases hu with rfl | rfl | rfl | rfl <;> rfl⟩
      have hk1 : (0 : Int) ≤ (k : Int) := by omega
      have hl0 : ((l.length : Int) = 0) = False := eq_false (by omega)
      have hl1 : ((l.length : Int) == 0) = false := beq_eq_false_iff_ne.2 (by omega)
      have hm2 : Int.tmod ((k : Int) + 1) (l.length : Int) = (j : Int) := by rw [← hm]; exact Int.tmod_eq_emod_of_nonneg (by omega)
      have hk2 : (k : Int) < (l.length : Int) := by omega
      have hj1 : (0 : Int) ≤ (j : Int) := by omega
      have hj2 : (j : Int) < (l.length : Int) := by omega
      have hk3 : (0 : Int) ≤ (k : Int) + 1 := by omega
      have x1 : IntKind.i64.wrap ((k : Int) + 1) = (k : Int) + 1 := by rw [IntKind.wrap_i64]; omega
      have hl3 : (l = []) = False := eq_false (fun h => by rw [h] at hlt; simp at hlt)
      have hl4 : (l.length = 0) = False := eq_false (by omega)
      go_wp2_with fail
      go_region_held3 (fun w' => w'.cell? ⟨g, off + k * 2, none⟩ = some (.int .i64 qx) ∧ w'.cell? ⟨g, off + k * 2 + 1, none⟩ = some (.int .i64 qy) ∧ w'.cell? ⟨g, off + j * 2, none⟩ = some (.int .i64 px) ∧ w'.cell? ⟨g, off + j * 2 + 1, none⟩ = some (.int .i64 py)) (first | go_keep | exact ⟨(hF1.out.cell (p := ⟨g, _, none⟩) hg).trans HC4.out.1, (hF1.out.cell (p := ⟨g, _, none⟩) hg).trans HC4.out.2.1, (hF1.out.cell (p := ⟨g, _, none⟩) hg).trans HC4.out.2.2.1, (hF1.out.cell (p := ⟨g, _, none⟩) hg).trans HC4.out.2.2.2⟩)
        (first | (refine step_append_row (by rfl) _ _ _ (by rfl) w.heap.size 74 i0 _ 4 32 Tryz.underlying71 ia ib ic id rfl (by omega) _ _ _ (by rfl) ((HO.out.drew).alloc (.cells #[.int .i64 qx, .int .i64 qy, .int .i64 px, .int .i64 py] 74)) _ 1 _ [.int .i64 qx, .int .i64 qy, .int .i64 px, .int .i64 py] (by rfl) (newN_row _ [.int .i64 qx, .int .i64 qy, .int .i64 px, .int .i64 py] _) C2.out.2.2.1 C2.out.2.2.2 C2.out.1 C2.out.2.1 (by simp <;> omega) ?_; intro v1 wa ho1 hg1; have hF1 := Lib.hid (below_append ((below_drew HB.out).alloc hz (.cells #[.int .i64 qx, .int .i64 qy, .int .i64 px, .int .i64 py] 74)) (by simp <;> omega) ((HO.out.drew).alloc (.cells #[.int .i64 qx, .int .i64 qy, .int .i64 px, .int .i64 py] 74)) hg1 (Nat.le_refl _)); have hP := Lib.hid ho1; clear ho1 hg1))
      all_goals
        have HB9 : Hid (Below w.heap.size w wa) := Lib.hid hF1.out
        clear hF1
        go_wp2
        go_roundw
        case rel => exact ⟨k + 1, by go_num, by omega, Lib.hid (by rw [HS.out, List.flatMap_append]; exact hP.out), HB9⟩
        case measure => simp [intOf]; omega
    · obtain rfl : k = l.length := by omega
      go_wp2
      go_ret
      exact ⟨_, rfl, HO.out, HB.out⟩
end Go.Proofs.YtnmmhcchpcbeeaaGreat.GeW
