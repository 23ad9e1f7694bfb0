/- An argument that is a tree, opened: what it lies in memory as, and its rows fit. No function is in sight. Conditions: none. -/
import Derived.Test.YtjjohllfidmkjaaDoorOpen
import Derived.Test.YtjjohllfidmkjaaDoorPfTree
import Derived.Test.YtjjohllfidmkjaaDoorRows
import Derived.OpenShut
import Derived.Lib.SmallJoins
namespace Go.Proofs.YtjjohllfidmkjaaDoor.Pf
open Go Go.RowKit Go.Proofs.YtjjohllfidmkjaaDoor.Mem Go.WideShapes

theorem cells_tree : Tryd.prog.cellsOf 29 = 3 := by kernel_rfl
theorem cells_int : Tryd.prog.cellsOf 3 = 1 := by kernel_rfl
theorem cells_kids : Tryd.prog.cellsOf 26 = 1 := by kernel_rfl
theorem cells_leaf : Tryd.prog.cellsOf 27 = 1 := by kernel_rfl
theorem bytes_tree : Tryd.prog.bytesOf 29 = 56 := by kernel_rfl
theorem bytes_int : Tryd.prog.bytesOf 3 = 8 := by kernel_rfl
mutual
/-- The numbers of a tree are ints. -/
def Rng : T → Prop
  | .mk s ks lf => (-9223372036854775808 ≤ s ∧ s ≤ 9223372036854775807) ∧ (∀ n ∈ lf, -9223372036854775808 ≤ n ∧ n ≤ 9223372036854775807) ∧ RngL ks
def RngL : List T → Prop
  | [] => True
  | k :: r => Rng k ∧ RngL r
end
theorem i64_in {n : Int} (h : (Lit.int .i64 n).wf = true) : -9223372036854775808 ≤ n ∧ n ≤ 9223372036854775807 := by
  have := bounds_i64 h
  omega
theorem list3 {α : Type} {l : List α} (h : l.length = 3) : ∃ a b c, l = [a, b, c] := by
  match l, h with
  | [a, b, c], _ => exact ⟨a, b, c, rfl⟩
theorem kids_of {w : World} : ∀ css : List (List Value), (∀ cs ∈ css, ∃ t, TreeIn (fun _ => True) w t cs ∧ Fit t ∧ Rng t) → ∃ ts : List T, ts.length = css.length ∧ KidsIn (fun _ => True) w ts css.flatten ∧ FitL ts ∧ RngL ts
  | [], _ => ⟨[], rfl, by unfold KidsIn; rfl, by unfold FitL; trivial, by unfold RngL; trivial⟩
  | c :: r, h => by
    obtain ⟨t, h1, h2, h2'⟩ := h c (List.mem_cons_self ..)
    obtain ⟨ts, h3, h4, h5, h5'⟩ := kids_of r fun cs hcs => h cs (List.mem_cons_of_mem _ hcs)
    refine ⟨t :: ts, by simp [h3], ?_, ?_, ?_⟩
    · unfold KidsIn
      exact ⟨c, r.flatten, by simp, h1, h4⟩
    · unfold FitL
      exact ⟨h2, h5⟩
    · unfold RngL
      exact ⟨h2', h5'⟩
theorem ints_of : ∀ css : List (List Value), (∀ cs ∈ css, ∃ n, cs = [Value.int .i64 n] ∧ (-9223372036854775808 ≤ n ∧ n ≤ 9223372036854775807)) → ∃ l : List Int, l.length = css.length ∧ css.flatten = intCells l ∧ ∀ n ∈ l, -9223372036854775808 ≤ n ∧ n ≤ 9223372036854775807
  | [], _ => ⟨[], rfl, rfl, by simp⟩
  | c :: r, h => by
    obtain ⟨n, rfl, hn⟩ := h c (List.mem_cons_self ..)
    obtain ⟨l, h3, h4, h5⟩ := ints_of r fun cs hcs => h cs (List.mem_cons_of_mem _ hcs)
    refine ⟨n :: l, by simp [h3], by rw [List.flatten_cons, h4]; rfl, ?_⟩
    intro x hx
    rcases List.mem_cons.1 hx with rfl | hx
    · exact hn
    · exact h5 x hx
section
variable {H : Type} {enc : TypeId × Value → H} {w : World} {held : Bool}
theorem slice_of {P : Program} {t e : TypeId} {fuel : Nat} {cs : List Value} {x : DataW H × List MemPlace} (ht : P.underlying t = some (.slice e)) (h : DataW.trod enc P w 0 (fun _ => true) held fuel t cs = some x) : ∃ A len cap, cs = [.slice A len cap] := by
  rcases DataW.trod_slice ht h with ⟨h0, _⟩ | ⟨a, len', cap', _, _, _, _, h0, _⟩
  · exact ⟨_, _, _, h0⟩
  · exact ⟨_, _, _, h0⟩
theorem open_tree : ∀ (N m : Nat), m < N → ∀ (cs : List Value) (y : DataW H × List MemPlace), DataW.trod enc Tryd.prog w 0 (fun _ => true) held m 29 cs = some y →
    (∀ k ∈ y.1.weights Tryd.prog 29, k ≤ reachBytes) → ∃ t, TreeIn (fun _ => True) w t cs ∧ Fit t ∧ Rng t
  | 0, m, h, _, _, _, _ => absurd h (Nat.not_lt_zero _)
  | N + 1, m, h, cs, y, hy, hw => by
    obtain ⟨xs, n, rfl, rfl, hl, hxs, hf⟩ := DataW.trod_struct Tryd.underlying29 hy
    rw [cells_tree] at hl
    have hxs3 : xs.length = 3 := hxs
    obtain ⟨x0, x1, x2, rfl⟩ := list3 hxs3
    obtain ⟨v0, v1, v2, rfl⟩ := list3 hl
    have h0 : DataW.trod enc Tryd.prog w 0 (fun _ => true) held n 3 (([v0, v1, v2].drop 0).take (Tryd.prog.cellsOf 3)) = some x0 := hf 0 _ rfl
    have h1 : DataW.trod enc Tryd.prog w 0 (fun _ => true) held n 26 (([v0, v1, v2].drop 1).take (Tryd.prog.cellsOf 26)) = some x1 := hf 1 _ rfl
    have h2 : DataW.trod enc Tryd.prog w 0 (fun _ => true) held n 27 (([v0, v1, v2].drop 2).take (Tryd.prog.cellsOf 27)) = some x2 := hf 2 _ rfl
    rw [cells_int] at h0
    rw [cells_kids] at h1
    rw [cells_leaf] at h2
    simp only [List.drop_zero, List.take_succ_cons, List.take_zero, List.drop_succ_cons] at h0 h1 h2
    have hW : (DataW.agg ([x0, x1, x2].map (·.1))).weights Tryd.prog 29 = x0.1.weights Tryd.prog 3 ++ (x1.1.weights Tryd.prog 26 ++ (x2.1.weights Tryd.prog 27 ++ [])) := by
      rw [DataW.weights, Tryd.underlying29]
      rfl
    simp only [hW] at hw
    have hw1 : ∀ k ∈ x1.1.weights Tryd.prog 26, k ≤ reachBytes := fun k hk => hw k (List.mem_append_right _ (List.mem_append_left _ hk))
    have hw2 : ∀ k ∈ x2.1.weights Tryd.prog 27, k ≤ reachBytes := fun k hk => hw k (List.mem_append_right _ (List.mem_append_right _ (List.mem_append_left _ hk)))
    obtain ⟨c0, e0, _, wf0⟩ := DataW.trod_int Tryd.underlying3 h0
    obtain rfl : v0 = .int .i64 c0 := by simpa using e0
    obtain ⟨A, len, cap, eA⟩ := slice_of Tryd.underlying26 h1
    obtain rfl : v1 = .slice A len cap := by simpa using eA
    obtain ⟨B, lenB, capB, eB⟩ := slice_of Tryd.underlying27 h2
    obtain rfl : v2 = .slice B lenB capB := by simpa using eB
    obtain ⟨css, n1, el, re, k1, k2, k3, k4, k5, k6⟩ := open_fuel Tryd.underlying26 (by rw [cells_tree]; decide) h1
    obtain ⟨ds, n2, el2, re2, l1, l2, l3, l4, l5, l6⟩ := open_fuel Tryd.underlying27 (by rw [cells_int]; decide) h2
    have hk : ∀ cs ∈ css, ∃ t, TreeIn (fun _ => True) w t cs ∧ Fit t ∧ Rng t := by
      intro cs hcs
      obtain ⟨_, y, hy, hin⟩ := k6 cs hcs
      refine open_tree N n1 (by omega) cs y hy ?_
      rcases k5 with h0 | ⟨hx, _⟩
      · have : css = [] := List.length_eq_zero_iff.1 (k1.trans h0)
        subst this
        cases hcs
      · rw [hx] at hw1
        exact (weights_slice Tryd.underlying26 hw1).2 _ hin
    obtain ⟨ts, t1, t2, t3, t3'⟩ := kids_of css hk
    obtain ⟨lf, q1, q2, q3⟩ := ints_of ds fun cs hcs => by
      obtain ⟨_, y, hy, _⟩ := l6 cs hcs
      obtain ⟨c, e, _, wf⟩ := DataW.trod_int Tryd.underlying3 hy
      exact ⟨c, e, i64_in wf⟩
    have f1 : ts.length * 56 ≤ 140737488351232 := by
      rcases k5 with h0 | ⟨hx, hlen⟩
      · rw [t1, k1, h0]; decide
      · rw [hx] at hw1
        have := (weights_slice Tryd.underlying26 hw1).1
        rw [bytes_tree, hlen, ← k1, ← t1] at this
        exact this
    have f2 : lf.length * 8 ≤ 140737488351232 := by
      rcases l5 with h0 | ⟨hx, hlen⟩
      · rw [q1, l1, h0]; decide
      · rw [hx] at hw2
        have := (weights_slice Tryd.underlying27 hw2).1
        rw [bytes_int, hlen, ← l1, ← q1] at this
        exact this
    refine ⟨.mk c0 ts lf, ?_, ?_, ?_⟩
    · unfold TreeIn
      refine ⟨A, cap, B, capB, css.flatten, by rw [t1, k1, q1, l1], by omega, by omega, RowS.all k2, t2, ?_⟩
      rw [q2] at l2
      exact RowS.all l2
    · unfold Fit
      exact ⟨f1, f2, t3⟩
    · unfold Rng
      exact ⟨i64_in wf0, q3, t3'⟩
set_option maxRecDepth 100000 in
theorem open_tree_arg {r : Reach} {b0 : Nat} {v : Value} {d : DataW H} {p : List MemPlace} (hv : Value.okWide Tryd.prog w r b0 29 v) (h : DataW.Trod enc Tryd.prog w 0 (fun _ => true) held 29 v d p)
    (hw : ∀ k ∈ d.weights Tryd.prog 29, k ≤ reachBytes) :
    ∃ (t : T) (s : Int) (A : Option Addr) (m c : Nat) (B : Option Addr) (k e : Nat), v = .agg #[.int .i64 s, .slice A m c, .slice B k e] ∧ TreeIn (fun _ => True) w t [.int .i64 s, .slice A m c, .slice B k e] ∧ Fit t ∧ Rng t := by
  obtain ⟨cs, rfl, hsz⟩ := okWide_struct Tryd.underlying29 hv
  obtain ⟨fuel, hf⟩ := h
  obtain ⟨t, ht, hfit, hr⟩ := open_tree (fuel + 1) fuel (Nat.lt_succ_self _) _ _ hf hw
  have hcs : (Value.agg cs).cells.toList = cs.toList := by simp [Value.cells]
  rw [hcs] at ht
  obtain ⟨s, ks, lf⟩ := t
  have ht' := ht
  unfold TreeIn at ht
  obtain ⟨A, c, B, e, ws, hl, _⟩ := ht
  rw [hl] at ht'
  refine ⟨_, s, A, ks.length, c, B, lf.length, e, ?_, ht', hfit, hr⟩
  congr 1
  exact Array.toList_inj.1 hl
end
end Go.Proofs.YtjjohllfidmkjaaDoor.Pf
