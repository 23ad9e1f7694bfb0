/- Walks: a program moved, by the program. Conditions: the program lies in memory and is valid. -/
import Derived.Test.YtonpbomjjamphaaDoorNcA
import Derived.Test.YtonpbomjjamphaaDoorNcW4
import Derived.Deep.RegionWith
import Derived.Deep.DrawnRows
import Derived.Laws.OwnMore
namespace Go.Proofs.YtonpbomjjamphaaDoor.NcW
open Go Go.RowKit Go.Proofs.YtonpbomjjamphaaDoor.Mem
attribute [local go_sem ↓] Go.wp_at_zero Go.wp_at_succ

def wsh (u v : Int) (m : Nc.Mv) : Nc.Mv := if Nc.moving m.k then ⟨m.k, wrap64 (m.x + u), wrap64 (m.y + v)⟩ else m
/-- The program when k moves have been moved. -/
def curAt (u v : Int) (l : List Nc.Mv) (k : Nat) : List Nc.Mv := (l.take k).map (wsh u v) ++ l.drop k
theorem cur_zero (u v : Int) (l : List Nc.Mv) : curAt u v l 0 = l := rfl
theorem cur_all (u v : Int) (l : List Nc.Mv) : curAt u v l l.length = l.map (wsh u v) := by simp [curAt]
theorem cur_len (u v : Int) (l : List Nc.Mv) (k : Nat) : (curAt u v l k).length = l.length := by
  simp [curAt]; omega
theorem cur_get (u v : Int) (l : List Nc.Mv) (k : Nat) (h : k < l.length) : (curAt u v l k)[k]'(by rw [cur_len]; exact h) = l[k] := by
  simp only [curAt]
  rw [List.getElem_append_right (by simp; omega)]
  simp only [List.length_map, List.length_take, List.getElem_drop]
  congr 1
  omega
theorem cur_succ (u v : Int) (l : List Nc.Mv) (k : Nat) (h : k < l.length) : curAt u v l (k + 1) = (curAt u v l k).set k (wsh u v l[k]) := by
  simp only [curAt]
  rw [take_snoc' l k h, List.map_append, List.set_append_right _ _ (by simp; omega)]
  simp [Nat.min_eq_left (by omega : k ≤ l.length)]
  rw [List.drop_eq_getElem_cons h, List.set_cons_zero]
theorem flat_set : ∀ (l : List Nc.Mv) (k : Nat) (h : k < l.length) (x y : Int), ((l.flatMap mvCells).set (k * 3 + 1) (.int .i64 x)).set (k * 3 + 2) (.int .i64 y) = (l.set k ⟨l[k].k, x, y⟩).flatMap mvCells
  | [], k, h, _, _ => by simp at h
  | a :: r, 0, _, x, y => by simp [mvCells]
  | a :: r, k + 1, h, x, y => by
    have hr : k < r.length := by simpa using h
    have ih := flat_set r k hr x y
    have e1 : (k + 1) * 3 + 1 = (mvCells a).length + (k * 3 + 1) := by simp [mvCells]; omega
    have e2 : (k + 1) * 3 + 2 = (mvCells a).length + (k * 3 + 2) := by simp [mvCells]; omega
    rw [List.flatMap_cons, e1, e2, List.set_append_right _ _ (by omega), List.set_append_right _ _ (by omega)]
    simp only [Nat.add_sub_cancel_left, List.set_cons_succ, List.flatMap_cons, List.getElem_cons_succ]
    rw [ih]
/-- What a shift hands back. -/
def ShiftOut (b : Bool) (l : List Nc.Mv) (w : World) (e : Ending) (w' : World) : Prop :=
  (if b then ∃ v, e = .returned (.tuple #[v, .int .i64 0]) ∧ w'.ownsRow w.heap.size 62 3 v l.length (l.flatMap mvCells) else e = .returned (.tuple #[.slice none 0 0, .int .i64 2])) ∧ Below w.heap.size w w'

set_option maxRecDepth 100000 in
set_option maxHeartbeats 1000000 in
theorem shift_any (l : List Nc.Mv) (A : Option Addr) (c : Nat) (u v : Int) (w : World) (hr : Row w A (l.flatMap mvCells)) (hv : Nc.valid l = true) :
    Calls Tryd.prog 11 #[.slice A l.length c, .agg #[.int .i64 u, .int .i64 v]] w (ShiftOut (Nc.valid (l.map (wsh u v))) (l.map (wsh u v)) w) := by
  have hlen := Nc.valid_len hv
  have HV := Lib.hid (fun W h => valid_any l A c W h (by omega))
  rw [hv] at HV
  have HC := Lib.hid (fun W h => clone_any l A c W h (by omega))
  have hr0 := hr.below ((Below.refl w.heap.size w).alloc (Nat.le_refl _) (.cells #[.int .i64 u, .int .i64 v] 24))
  have HR := Lib.hid hr0
  have hbx := heap_alloc_new w (.cells #[.int .i64 u, .int .i64 v] 24)
  have HBX := Lib.hid hbx
  have HB0 := Lib.hid ((Below.refl w.heap.size w).alloc (Nat.le_refl _) (.cells #[.int .i64 u, .int .i64 v] 24))
  have HVO := Lib.hid (fun A c W h => valid_any (l.map (wsh u v)) A c W h (by rw [List.length_map]; omega))
  rw [List.length_map] at HVO
  clear hr hv hr0 hbx
  go_enter Tryd.func11, Tryd.ntmps11
  go_wp2_with fail
  generalize w.alloc (.cells #[.int .i64 u, .int .i64 v] 24) = W0 at *
  refine (HV.out _ HR.out).mono ?_
  rintro e w1 ⟨rfl, hb1⟩
  have HR1 := Lib.hid (HR.out.below hb1)
  go_wp2_with fail
  refine (HC.out _ HR1.out).mono ?_
  rintro e w2 ⟨⟨cv, rfl, hown⟩, hb2⟩
  have hb02 := hb1.trans (hb2.mono hb1.size)
  have hbw := block_lt HBX.out
  have hown2 : w2.ownsRow W0.heap.size 62 3 cv l.length ((curAt u v l 0).flatMap mvCells) := own_more hown hb1.size
  obtain ⟨A2, c2, rfl, hcc⟩ := own_shape hown
  clear hown hb1 hb2 HR1
  have HO2 := Lib.hid hown2
  clear hown2
  go_wp2
  go_loopw [16] (fun t wr => ∃ k : Nat, k ≤ l.length ∧ t = .int .i64 k ∧ wr.ownsRow W0.heap.size 62 3 (.slice A2 l.length c2) l.length ((curAt u v l k).flatMap mvCells) ∧ Below W0.heap.size W0 wr) (fun t _ => l.length - (intOf t).toNat)
  case atStart => exact ⟨0, Nat.zero_le _, rfl, HO2.out, hb02⟩
  case round =>
    obtain ⟨k, hk, rfl, hown, hbel⟩ := hrel
    by_cases hlt : k < l.length
    · obtain ⟨g, c3, hA, _, hbg, hgz, ca⟩ := own_get mv_len (cur_len u v l k).symm hown (by omega)
      cases hA
      have hck : k < (curAt u v l k).length := by rw [cur_len]; exact hlt
      have a0 := ca k hck 0 (by decide)
      have a1 := ca k hck 1 (by decide)
      have a2 := ca k hck 2 (by decide)
      have hcg := cur_get u v l k hlt
      rw [hcg] at a0 a1 a2
      have hnx := Lib.hid (cur_succ u v l k hlt)
      have hfs := Lib.hid (flat_set (curAt u v l k) k hck (wrap64 (l[k].x + u)) (wrap64 (l[k].y + v)))
      rw [hcg] at hfs
      have hset : Hid ((curAt u v l k).set k l[k] = curAt u v l k) := Lib.hid (by rw [← hcg]; exact List.set_getElem_self hck)
      have HOWN := Lib.hid hown
      have HBE := Lib.hid hbel
      have v0 : wr.cell? ⟨w.heap.size, 0, none⟩ = some (.int .i64 u) := by rw [hbel.cell (p := ⟨w.heap.size, 0, none⟩) hbw, Lib.cell_of_heap HBX.out]; rfl
      have v1 : wr.cell? ⟨w.heap.size, 1, none⟩ = some (.int .i64 v) := by rw [hbel.cell (p := ⟨w.heap.size, 1, none⟩) hbw, Lib.cell_of_heap HBX.out]; rfl
      have hvz := Nat.lt_of_lt_of_le hbw hbel.size
      clear ca hcg hown hbel
      generalize l[k] = m at *
      obtain ⟨mk, mx, my⟩ := m
      simp only [mvCells, List.getElem?_cons_zero, List.getElem?_cons_succ, Nat.add_zero] at a0 a1 a2 hnx hfs hset
      have HMV := Lib.hid (fun W => moving_any mk W)
      cases hm : Nc.moving mk
      · have hw : Hid (wsh u v ⟨mk, mx, my⟩ = ⟨mk, mx, my⟩) := Lib.hid (by unfold wsh; simp only [hm]; rfl)
        rw [hm] at HMV
        clear hm
        go_wp2_with fail
        refine (HMV.out _).mono ?_
        rintro e w4 ⟨rfl, rfl⟩
        go_wp2
        go_roundw
        case rel => exact ⟨k + 1, by omega, by go_num, by rw [hnx.out, hw.out, hset.out]; exact HOWN.out, HBE.out⟩
        case measure => simp [intOf]; omega
      · have hw : Hid (wsh u v ⟨mk, mx, my⟩ = ⟨mk, wrap64 (mx + u), wrap64 (my + v)⟩) := Lib.hid (by unfold wsh; simp only [hm]; rfl)
        rw [hm] at HMV
        clear hm
        have HADD := Lib.hid (fun W => add_any mx my u v W)
        generalize wrap64 (mx + u) = px at *
        generalize wrap64 (my + v) = py at *
        go_wp2_with fail
        refine (HMV.out _).mono ?_
        rintro e w4 ⟨rfl, rfl⟩
        go_wp2
        go_region_with (first
          | (go_at_call 32; refine (HADD.out _).mono ?_; rintro e w5 ⟨rfl, hb5⟩; have d1 := (hb5.cell (p := ⟨g, k * 3 + 1, none⟩) hgz).trans a1; have d2 := (hb5.cell (p := ⟨g, k * 3 + 2, none⟩) hgz).trans a2; have hO5 := own_below HOWN.out (Below.trans (below_drew (Below.refl _ _)) hb5); have f1 := hO5.frozenAt (k * 3 + 1); have f2 := hO5.frozenAt (k * 3 + 2))
          )
        all_goals (
          as_aux_lemma =>
            have h2 := ((hO5.stored (k * 3 + 1) (.int .i64 px)).1.stored (k * 3 + 2) (.int .i64 py)).1
            rw [hfs.out, ← hw.out, ← hnx.out] at h2
            have hb9 := (((HBE.out.trans ((below_drew (Below.refl _ _)).mono HBE.out.size)).trans (hb5.mono HBE.out.size)).setCell (p := ⟨g, k * 3 + 1, none⟩) hbg (.int .i64 px)).setCell (p := ⟨g, k * 3 + 2, none⟩) hbg (.int .i64 py)
            have HO9 := Lib.hid h2
            have HB9 := Lib.hid hb9
            generalize (w5.setCell ⟨g, k * 3 + 1, none⟩ (.int .i64 px)).setCell ⟨g, k * 3 + 2, none⟩ (.int .i64 py) = W9 at *
            clear h2 hb9 hO5 d1 d2 f1 f2 hb5 a0 a1 a2
            go_wp2
            go_roundw
            case rel => exact ⟨k + 1, by omega, by go_num, HO9.out, HB9.out⟩
            case measure => simp [intOf]; omega)
    · obtain rfl : k = l.length := by omega
      rw [cur_all] at hown
      have HRO := Lib.hid (Row.of_own hown)
      have HOWN := Lib.hid hown
      clear hown
      go_wp2_with fail
      refine (HVO.out _ _ _ HRO.out).mono ?_
      rintro e w3 ⟨rfl, hb3⟩
      have HE := Lib.hid (HB0.out.trans ((hbel.trans (hb3.mono hbel.size)).mono HB0.out.size))
      have HOE := Lib.hid (own_more (own_below HOWN.out hb3) HB0.out.size)
      cases hq : Nc.valid (l.map (wsh u v))
      · have HQ := Lib.hid hq
        clear hq
        go_wp2
        go_ret2
        rw [HQ.out]
        exact ⟨rfl, HE.out⟩
      · have HQ := Lib.hid hq
        clear hq
        go_wp2
        go_ret2
        rw [HQ.out]
        exact ⟨⟨_, rfl, by rw [List.length_map]; exact HOE.out⟩, HE.out⟩
end Go.Proofs.YtonpbomjjamphaaDoor.NcW
