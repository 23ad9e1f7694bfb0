/- The plain law of shifts: there and back is the program; pierces, joints, and behind a rapid move the lengths of cuts stay. Conditions: the program and its shift are valid; the vector's numbers are machine numbers. -/
import Derived.Test.YtonpbomjjamphaaDoorNcSh
import Derived.Test.YtonpbomjjamphaaDoorNcE
namespace Go.Proofs.YtonpbomjjamphaaDoor.NcW
open Go Go.RowKit Go.Proofs.YtonpbomjjamphaaDoor.Mem

theorem wrap_small {n : Int} (h : -9000000000000000000 ≤ n ∧ n ≤ 9000000000000000000) : wrap64 n = n := by
  unfold wrap64; omega
/-- A sum that comes out small was no wrapped one. -/
theorem wrap_back {x u : Int} (hx : -2000 ≤ x ∧ x ≤ 2000) (hu : I64 u) (h : -2000 ≤ wrap64 (x + u) ∧ wrap64 (x + u) ≤ 2000) : wrap64 (x + u) = x + u ∧ -4000 ≤ u ∧ u ≤ 4000 := by
  unfold I64 at hu
  unfold wrap64 at h ⊢
  omega
theorem wsh_ok {u v : Int} (hu : I64 u) (hv : I64 v) {m : Nc.Mv} (hm : Nc.ok m = true) (hs : Nc.ok (wsh u v m) = true) (hk : Nc.moving m.k = true) :
    wsh u v m = ⟨m.k, m.x + u, m.y + v⟩ ∧ (-4000 ≤ u ∧ u ≤ 4000) ∧ (-4000 ≤ v ∧ v ≤ 4000) := by
  have hb := Nc.ok_bound hm
  have hc := Nc.ok_bound hs
  unfold wsh at hc ⊢
  rw [if_pos hk] at hc ⊢
  simp only at hc
  have h1 := wrap_back (x := m.x) ⟨hb.1, hb.2.1⟩ hu ⟨hc.1, hc.2.1⟩
  have h2 := wrap_back (x := m.y) hb.2.2 hv hc.2.2
  rw [h1.1, h2.1]
  exact ⟨rfl, h1.2, h2.2⟩
theorem wsh_k (u v : Int) (m : Nc.Mv) : (wsh u v m).k = m.k := by unfold wsh; split <;> rfl
theorem wsh_id {u v : Int} {m : Nc.Mv} (h : Nc.moving m.k = false) : wsh u v m = m := by unfold wsh; rw [h]; rfl
theorem wsh_back {u v : Int} (hu : I64 u) (hv : I64 v) {m : Nc.Mv} (hm : Nc.ok m = true) (hs : Nc.ok (wsh u v m) = true) : wsh (wrap64 (-u)) (wrap64 (-v)) (wsh u v m) = m := by
  cases hk : Nc.moving m.k
  · rw [wsh_id hk, wsh_id hk]
  · obtain ⟨e, h1, h2⟩ := wsh_ok hu hv hm hs hk
    have hb := Nc.ok_bound hm
    rw [e, wrap_small (by omega), wrap_small (by omega)]
    unfold wsh
    rw [if_pos hk]
    simp only
    rw [wrap_small (by omega), wrap_small (by omega)]
    obtain ⟨k, x, y⟩ := m
    simp only [Nc.Mv.mk.injEq, true_and]
    omega
theorem shift_back {u v : Int} (hu : I64 u) (hv : I64 v) {p : List Nc.Mv} (hp : Nc.valid p = true) (hq : Nc.valid (p.map (wsh u v)) = true) : (p.map (wsh u v)).map (wsh (wrap64 (-u)) (wrap64 (-v))) = p := by
  rw [List.map_map]
  conv => rhs; rw [← List.map_id p]
  apply List.map_congr_left
  intro m hm
  exact wsh_back hu hv (Nc.valid_ok hp hm) (Nc.valid_ok hq (List.mem_map_of_mem hm))

theorem run_same (u v : Int) : ∀ (p : List Nc.Mv) (s t : Nc.St), s.pierces = t.pierces → s.joints = t.joints → s.pts.length = t.pts.length →
    (p.foldl Nc.step s).pierces = ((p.map (wsh u v)).foldl Nc.step t).pierces ∧ (p.foldl Nc.step s).joints = ((p.map (wsh u v)).foldl Nc.step t).joints ∧ (p.foldl Nc.step s).pts.length = ((p.map (wsh u v)).foldl Nc.step t).pts.length
  | [], _, _, h1, h2, h3 => ⟨h1, h2, h3⟩
  | m :: r, s, t, h1, h2, h3 => by
    simp only [List.map_cons, List.foldl_cons]
    apply run_same u v r
    all_goals
      simp only [Nc.step, wsh_k]
      split
      · assumption
      split
      · first | assumption | (simp; omega)
      split
      · first | assumption | (simp only; omega)
      split
      · first | assumption | (simp only; omega)
      · assumption
theorem cut_same {u v : Int} (hu : I64 u) (hv : I64 v) : ∀ (p : List Nc.Mv) (s t : Nc.St), (∀ m ∈ p, Nc.ok m = true ∧ Nc.ok (wsh u v m) = true) → s.cut = t.cut → t.hx = s.hx + u → t.hy = s.hy + v →
    (p.foldl Nc.step s).cut = ((p.map (wsh u v)).foldl Nc.step t).cut
  | [], _, _, _, h, _, _ => h
  | m :: r, s, t, hp, h1, h2, h3 => by
    obtain ⟨hm, hs⟩ := hp m (by simp)
    simp only [List.map_cons, List.foldl_cons]
    by_cases k1 : m.k = 1
    · obtain ⟨e, _⟩ := wsh_ok hu hv hm hs (by simp [Nc.moving, k1])
      refine cut_same hu hv r _ _ (fun a ha => hp a (by simp [ha])) ?_ ?_ ?_ <;> (rw [e]; simp [Nc.step, k1, h1])
    by_cases k2 : m.k = 2
    · obtain ⟨e, _⟩ := wsh_ok hu hv hm hs (by simp [Nc.moving, k2])
      refine cut_same hu hv r _ _ (fun a ha => hp a (by simp [ha])) ?_ ?_ ?_
      · rw [e]; simp only [Nc.step, k2, h1, h2, h3]
        simp only [show (2 : Int) ≠ 1 by decide, if_false, if_true]
        rw [show m.x + u - (s.hx + u) = m.x - s.hx by omega, show m.y + v - (s.hy + v) = m.y - s.hy by omega]
      · rw [e]; simp [Nc.step, k2]
      · rw [e]; simp [Nc.step, k2]
    · refine cut_same hu hv r _ _ (fun a ha => hp a (by simp [ha])) ?_ ?_ ?_
      all_goals
        simp only [Nc.step, wsh_k, k1, k2, if_false]
        split
        · simpa using by assumption
        split
        · simpa using by assumption
        · assumption
/-- What the law asks of the two statistics. -/
theorem stats_law {u v : Int} (hu : I64 u) (hv : I64 v) {p : List Nc.Mv} (hp : Nc.valid p = true) (hq : Nc.valid (p.map (wsh u v)) = true) :
    (Nc.run p).pierces = (Nc.run (p.map (wsh u v))).pierces ∧ (Nc.run p).joints = (Nc.run (p.map (wsh u v))).joints ∧ decide ((Nc.run p).pts.length = 0) = decide ((Nc.run (p.map (wsh u v))).pts.length = 0) ∧
    (∀ m r, p = m :: r → m.k = 1 → (Nc.run p).cut = (Nc.run (p.map (wsh u v))).cut) := by
  obtain ⟨h1, h2, h3⟩ := run_same u v p .init .init rfl rfl rfl
  refine ⟨h1, h2, by unfold Nc.run; rw [h3], ?_⟩
  rintro m r rfl k1
  have hm := Nc.valid_ok hp (m := m) (by simp)
  have hs := Nc.valid_ok hq (m := wsh u v m) (by simp)
  obtain ⟨e, _⟩ := wsh_ok hu hv hm hs (by simp [Nc.moving, k1])
  unfold Nc.run
  simp only [List.map_cons, List.foldl_cons]
  refine cut_same hu hv r _ _ (fun a ha => ⟨Nc.valid_ok hp (by simp [ha]), Nc.valid_ok hq (by simp only [List.map_cons, List.mem_cons]; exact .inr (List.mem_map_of_mem ha))⟩) ?_ ?_ ?_ <;> (rw [e]; simp [Nc.step, k1, Nc.St.init])
end Go.Proofs.YtonpbomjjamphaaDoor.NcW
