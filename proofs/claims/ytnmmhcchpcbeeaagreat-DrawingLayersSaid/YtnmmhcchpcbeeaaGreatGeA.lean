/- Walk: the doubled area of a list of points. Conditions: the points lie in memory and near; at most 200. -/
import Derived.Test.YtnmmhcchpcbeeaaGreatGeN

namespace Go.Proofs.YtnmmhcchpcbeeaaGreat.Ge
open Go
theorem near_get {l : List V} (h : near l = true) {i : Nat} (hi : i < l.length) : (-2000 ≤ l[i].1 ∧ l[i].1 ≤ 2000) ∧ (-2000 ≤ l[i].2 ∧ l[i].2 ≤ 2000) := by
  unfold near at h
  exact within_in (List.all_eq_true.1 h _ (List.getElem_mem hi))
theorem nxt_get {l : List V} {i : Nat} (h : 0 < l.length) : nxt l i = l[(i + 1) % l.length]'(Nat.mod_lt _ h) := by
  unfold nxt
  rw [List.getD_eq_getElem?_getD, List.getElem?_eq_getElem (Nat.mod_lt _ h)]
  rfl
theorem mul_near {a b : Int} (ha : -2000 ≤ a ∧ a ≤ 2000) (hb : -2000 ≤ b ∧ b ≤ 2000) : -4000000 ≤ a * b ∧ a * b ≤ 4000000 := by
  have h1 : (a * b).natAbs ≤ 2000 * 2000 := by
    rw [Int.natAbs_mul]
    exact Nat.mul_le_mul (by omega) (by omega)
  omega
theorem cross_near {l : List V} (h : near l = true) {i : Nat} (hi : i < l.length) : (-4000000 ≤ l[i].1 * (nxt l i).2 ∧ l[i].1 * (nxt l i).2 ≤ 4000000) ∧ (-4000000 ≤ l[i].2 * (nxt l i).1 ∧ l[i].2 * (nxt l i).1 ≤ 4000000) := by
  have h1 := near_get h hi
  have h2 := near_get h (Nat.mod_lt (i + 1) (show 0 < l.length by omega))
  rw [← nxt_get (show 0 < l.length by omega)] at h2
  exact ⟨mul_near h1.1 h2.2, mul_near h1.2 h2.1⟩
theorem areaFrom_le {l : List V} (h : near l = true) : ∀ k : Nat, k ≤ l.length → -8000000 * (k : Int) ≤ areaFrom l k ∧ areaFrom l k ≤ 8000000 * (k : Int)
  | 0, _ => by simp [areaFrom]
  | k + 1, hk => by
    have h1 := areaFrom_le h k (by omega)
    have h2 := cross_near h (show k < l.length by omega)
    unfold areaFrom
    rw [List.getD_eq_getElem?_getD, List.getElem?_eq_getElem (show k < l.length by omega), Option.getD_some]
    unfold cross
    omega
end Go.Proofs.YtnmmhcchpcbeeaaGreat.Ge
namespace Go.Proofs.YtnmmhcchpcbeeaaGreat.GeW
open Go Go.RowKit Go.Proofs.YtnmmhcchpcbeeaaGreat.Mem Go.Proofs.YtnmmhcchpcbeeaaGreat.Ge
attribute [local go_sem ↓] Go.wp_at_zero Go.wp_at_succ
set_option maxRecDepth 100000 in
set_option maxHeartbeats 4000000 in
theorem area_any (l : List V) (A : Option Addr) (c : Nat) (w : World) (hr : Row w A (l.flatMap ptCells)) (hl : l.length ≤ 200) (hn : near l = true) :
    Calls Tryz.prog 103 #[.slice A l.length c] w fun e w' => e = .returned (.int .i64 (area l)) ∧ Below w.heap.size w w' := by
  have HR := Lib.hid hr
  have HN := Lib.hid hn
  clear hr hn
  go_enter Tryz.func103, Tryz.ntmps103
  go_wp2
  go_loopw [3, 4, 5, 8] (fun n _ _ i wr => ∃ k : Nat, i = .int .i64 (k : Int) ∧ k ≤ l.length ∧ n = .int .i64 (areaFrom l k) ∧ Below w.heap.size w wr) (fun _ _ _ i _ => l.length - (intOf i).toNat)
  case atStart => exact ⟨0, rfl, Nat.zero_le _, rfl, Below.refl _ _⟩
  case round =>
    obtain ⟨k, rfl, hk, rfl, hb⟩ := hrel
    have hAB := areaFrom_le HN.out k hk
    by_cases hlt : k < l.length
    · have HAX := Lib.hid (areaFrom_le HN.out (k + 1) hlt)
      have HXN := Lib.hid (cross_near HN.out hlt)
      obtain ⟨g, off, rfl, hg, hc⟩ := row_get pt_len (by decide) HR.out (by omega)
      have a0 := (hb.cell (p := ⟨g, off + k * 2, none⟩) hg).trans (hc k hlt 0 (by decide))
      have a1 := (hb.cell (p := ⟨g, off + k * 2 + 1, none⟩) hg).trans (hc k hlt 1 (by decide))
      have HS : Hid (areaFrom l (k + 1) = areaFrom l k + (l[k].1 * (nxt l k).2 - l[k].2 * (nxt l k).1)) := Lib.hid (by rw [areaFrom, List.getD_eq_getElem?_getD, List.getElem?_eq_getElem hlt]; rfl)
      have HNX := Lib.hid (fun W (hW : Below w.heap.size w W) => next_any l k (some ⟨g, off, none⟩) c W (HR.out.below hW) hlt (by omega))
      have HBE := Lib.hid hb
      clear hc
      generalize l[k] = q at *
      obtain ⟨qx, qy⟩ := q
      simp only [ptCells, List.getElem?_cons_zero, List.getElem?_cons_succ] at a0 a1
      generalize nxt l k = p at *
      obtain ⟨px, py⟩ := p
      simp only at HXN HS
      have HCR := Lib.hid (fun W => cross_any qx qy px py W (by have := HXN.out.1; omega) (by have := HXN.out.2; omega))
      generalize areaFrom l k = s1 at *
      have HO := Lib.hid (one_vec wr (.cells #[.int .i64 qx, .int .i64 qy] 53))
      go_upto_region 5 with fail
      clear a0 a1
      generalize wr.alloc (.cells #[.int .i64 qx, .int .i64 qy] 53) = W at *
      have HBW := Lib.hid (HBE.out.trans (HO.out.1.mono (Below.size HBE.out)))
      have CS : Hid (∀ w', Below W.heap.size W w' → w'.cell? ⟨wr.heap.size, 0, none⟩ = some (.int .i64 qx) ∧ w'.cell? ⟨wr.heap.size, 1, none⟩ = some (.int .i64 qy) ∧ Below W.heap.size W w') := Lib.hid (fun w' hb => ⟨(pair_at HO.out.2 hb).1, (pair_at HO.out.2 hb).2, hb⟩)
      obtain ⟨q0, q1, q2⟩ := CS.out W (Below.refl _ _)
      have hsum := HS.out
      have hax := HAX.out
      have hxn := HXN.out
      have WW : IntKind.i64.wrap (s1 + (qx * py - qy * px)) = s1 + (qx * py - qy * px) := by rw [IntKind.wrap_i64]; omega
      clear hsum hax hxn
      go_region_held3 (fun w' => w'.cell? ⟨wr.heap.size, 0, none⟩ = some (.int .i64 qx) ∧ w'.cell? ⟨wr.heap.size, 1, none⟩ = some (.int .i64 qy) ∧ Below W.heap.size W w')
        (first | assumption | exact CS.out _ (below_drew (by assumption)) | exact CS.out _ (by assumption))
        (first
         | (go_at_call 132; obtain ⟨_, _, hbx⟩ := ‹_ ∧ _ ∧ Below _ _ _›; refine (HNX.out _ (HBW.out.trans (hbx.mono (Below.size HBW.out)))).mono ?_; rintro e w4 ⟨rfl, hb40⟩; have hb4 : Below W.heap.size W w4 := hbx.trans (hb40.mono (Below.size hbx)))
         | (go_at_call 149; refine (HCR.out _).mono ?_; rintro e w5 ⟨rfl, hb50⟩; have hb5 : Below W.heap.size W w5 := hb4.trans (hb50.mono (Below.size hb4))))
      clear WW
      have HB5 := Lib.hid (HBW.out.trans (hb5.mono (Below.size HBW.out)))
      go_wp2
      go_roundw
      case rel => exact ⟨k + 1, by go_num, by omega, by rw [HS.out], HB5.out⟩
      case measure => simp [intOf]; omega
    · have hk2 : k = l.length := by omega
      subst hk2
      go_wp2
      go_ret
      exact ⟨rfl, hb⟩
end Go.Proofs.YtnmmhcchpcbeeaaGreat.GeW
