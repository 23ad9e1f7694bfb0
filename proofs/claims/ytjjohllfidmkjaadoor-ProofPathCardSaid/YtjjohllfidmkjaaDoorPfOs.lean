/- An argument that is a system, opened. No function is in sight. Conditions: none. -/
import Derived.Test.YtjjohllfidmkjaaDoorPfOp
import Derived.Test.YtjjohllfidmkjaaDoorPfY
import Derived.Test.YtjjohllfidmkjaaDoorRowK
namespace Go.Proofs.YtjjohllfidmkjaaDoor.Pf
open Go Go.RowKit Go.Proofs.YtjjohllfidmkjaaDoor.Mem Go.WideShapes

theorem cells_arr3 : Tryd.prog.cellsOf 22 = 3 := by kernel_rfl
theorem cells_arr4 : Tryd.prog.cellsOf 74 = 4 := by kernel_rfl
theorem cells_rows : Tryd.prog.cellsOf 23 = 1 := by kernel_rfl
theorem cells_sys : Tryd.prog.cellsOf 25 = 7 := by kernel_rfl
theorem bytes_arr4 : Tryd.prog.bytesOf 74 = 32 := by kernel_rfl
theorem list7 {α : Type} {l : List α} (h : l.length = 7) : ∃ a b c d e f g, l = [a, b, c, d, e, f, g] := by
  match l, h with
  | [a, b, c, d, e, f, g], _ => exact ⟨a, b, c, d, e, f, g, rfl⟩
theorem list4 {α : Type} {l : List α} (h : l.length = 4) : ∃ a b c d, l = [a, b, c, d] := by
  match l, h with
  | [a, b, c, d], _ => exact ⟨a, b, c, d, rfl⟩
def Rng4 (r : R4) : Prop := (-9223372036854775808 ≤ r.a ∧ r.a ≤ 9223372036854775807) ∧ (-9223372036854775808 ≤ r.b ∧ r.b ≤ 9223372036854775807) ∧ (-9223372036854775808 ≤ r.c ∧ r.c ≤ 9223372036854775807) ∧ (-9223372036854775808 ≤ r.d ∧ r.d ≤ 9223372036854775807)
theorem rows_of : ∀ css : List (List Value), (∀ cs ∈ css, ∃ r, cs = r4Cells r) → ∃ l : List R4, l.length = css.length ∧ css.flatten = l.flatMap r4Cells
  | [], _ => ⟨[], rfl, rfl⟩
  | c :: r, h => by
    obtain ⟨x, rfl⟩ := h c (List.mem_cons_self ..)
    obtain ⟨l, h3, h4⟩ := rows_of r fun cs hcs => h cs (List.mem_cons_of_mem _ hcs)
    exact ⟨x :: l, by simp [h3], by rw [List.flatten_cons, h4, List.flatMap_cons]⟩
section
variable {H : Type} {enc : TypeId × Value → H} {w : World} {held : Bool}
theorem trod_array {P : Program} {t e : TypeId} {n fuel : Nat} {cs : List Value} {x : DataW H × List MemPlace} (ht : P.underlying t = some (.array n e)) (h : DataW.trod enc P w 0 (fun _ => true) held fuel t cs = some x) :
    ∃ (xs : List (DataW H × List MemPlace)) (m : Nat), fuel = m + 1 ∧ x = (.agg (xs.map (·.1)), xs.flatMap (·.2)) ∧ cs.length = P.cellsOf t ∧ xs.length = n ∧
      ∀ i, i < n → DataW.trod enc P w 0 (fun _ => true) held m e ((cs.drop (i * P.cellsOf e)).take (P.cellsOf e)) = xs[i]? := by
  cases fuel with
  | zero => simp [DataW.trod] at h
  | succ m =>
    unfold DataW.trod at h
    rw [ht] at h
    split at h <;> simp_all
    obtain ⟨hl, xs, hp, hd⟩ := h
    exact ⟨xs, hd.symm, by simpa using mapM_some_length hp, fun i hi => mapM_some_get hp i i (by simp [hi])⟩
theorem arr_ints {t : TypeId} {n fuel : Nat} {cs : List Value} {x : DataW H × List MemPlace} (ht : Tryd.prog.underlying t = some (.array n 3)) (h : DataW.trod enc Tryd.prog w 0 (fun _ => true) held fuel t cs = some x) (hc : Tryd.prog.cellsOf t = n) :
    cs.length = n ∧ ∀ i, i < n → ∃ c : Int, cs[i]? = some (.int .i64 c) := by
  obtain ⟨xs, m, _, _, hl, hn, hx⟩ := trod_array ht h
  refine ⟨hl.trans hc, fun i hi => ?_⟩
  have h1 := hx i hi
  rw [cells_int, Nat.mul_one, List.getElem?_eq_getElem (by omega)] at h1
  obtain ⟨c, e, _, _⟩ := DataW.trod_int Tryd.underlying3 h1
  refine ⟨c, ?_⟩
  have h2 : ((cs.drop i).take 1)[0]? = some (Value.int .i64 c) := by rw [e]; rfl
  rw [List.getElem?_take, if_pos (by decide), List.getElem?_drop] at h2
  exact h2
set_option maxRecDepth 100000 in
theorem open_sys_arg {r : Reach} {b0 : Nat} {v : Value} {d : DataW H} {p : List MemPlace} (hv : Value.okWide Tryd.prog w r b0 25 v) (h : DataW.Trod enc Tryd.prog w 0 (fun _ => true) held 25 v d p)
    (hw : ∀ k ∈ d.weights Tryd.prog 25, k ≤ reachBytes) :
    ∃ (y : Syst) (A : Option Addr) (cp : Nat), v = sysV y A cp ∧ Row w A (y.rows.flatMap r4Cells) ∧ y.rows.length ≤ cp ∧ y.rows.length * 32 ≤ 140737488351232 := by
  obtain ⟨cs, rfl, hsz⟩ := okWide_struct Tryd.underlying25 hv
  obtain ⟨fuel, hf⟩ := h
  have hcs : (Value.agg cs).cells.toList = cs.toList := by simp [Value.cells]
  rw [hcs] at hf
  obtain ⟨xs, n, rfl, hx, hl, hxs, hg⟩ := DataW.trod_struct Tryd.underlying25 hf
  obtain ⟨rfl, rfl⟩ := Prod.mk.inj hx
  rw [cells_sys] at hl
  have hxs3 : xs.length = 3 := hxs
  obtain ⟨x0, x1, x2, rfl⟩ := list3 hxs3
  obtain ⟨v0, v1, v2, v3, v4, v5, v6, hvs⟩ := list7 hl
  rw [hvs] at hg
  have h0 : DataW.trod enc Tryd.prog w 0 (fun _ => true) held n 22 (([v0, v1, v2, v3, v4, v5, v6].drop 0).take (Tryd.prog.cellsOf 22)) = some x0 := hg 0 _ rfl
  have h1 : DataW.trod enc Tryd.prog w 0 (fun _ => true) held n 22 (([v0, v1, v2, v3, v4, v5, v6].drop 3).take (Tryd.prog.cellsOf 22)) = some x1 := hg 1 _ rfl
  have h2 : DataW.trod enc Tryd.prog w 0 (fun _ => true) held n 23 (([v0, v1, v2, v3, v4, v5, v6].drop 6).take (Tryd.prog.cellsOf 23)) = some x2 := hg 2 _ rfl
  rw [cells_arr3] at h0 h1
  rw [cells_rows] at h2
  simp only [List.drop_zero, List.take_succ_cons, List.take_zero, List.drop_succ_cons] at h0 h1 h2
  have hW : (DataW.agg ([x0, x1, x2].map (·.1))).weights Tryd.prog 25 = x0.1.weights Tryd.prog 22 ++ (x1.1.weights Tryd.prog 22 ++ (x2.1.weights Tryd.prog 23 ++ [])) := by
    rw [DataW.weights, Tryd.underlying25]
    rfl
  simp only [hW] at hw
  have hw2 : ∀ k ∈ x2.1.weights Tryd.prog 23, k ≤ reachBytes := fun k hk => hw k (List.mem_append_right _ (List.mem_append_right _ (List.mem_append_left _ hk)))
  obtain ⟨_, a0⟩ := arr_ints Tryd.underlying22 h0 cells_arr3
  obtain ⟨_, a1⟩ := arr_ints Tryd.underlying22 h1 cells_arr3
  obtain ⟨c0, e0⟩ := a0 0 (by decide)
  obtain ⟨c1, e1⟩ := a0 1 (by decide)
  obtain ⟨c2, e2⟩ := a0 2 (by decide)
  obtain ⟨c3, e3⟩ := a1 0 (by decide)
  obtain ⟨c4, e4⟩ := a1 1 (by decide)
  obtain ⟨c5, e5⟩ := a1 2 (by decide)
  obtain rfl : v0 = .int .i64 c0 := by simpa using e0
  obtain rfl : v1 = .int .i64 c1 := by simpa using e1
  obtain rfl : v2 = .int .i64 c2 := by simpa using e2
  obtain rfl : v3 = .int .i64 c3 := by simpa using e3
  obtain rfl : v4 = .int .i64 c4 := by simpa using e4
  obtain rfl : v5 = .int .i64 c5 := by simpa using e5
  obtain ⟨A, len, cap, eA⟩ := slice_of Tryd.underlying23 h2
  obtain rfl : v6 = .slice A len cap := by simpa using eA
  obtain ⟨css, n1, el, re, k1, k2, k3, k4, k5, k6⟩ := open_fuel Tryd.underlying23 (by rw [cells_arr4]; decide) h2
  obtain ⟨l, q1, q2⟩ := rows_of css fun cs hcs => by
    obtain ⟨_, y, hy, _⟩ := k6 cs hcs
    obtain ⟨hn, b⟩ := arr_ints Tryd.underlying74 hy cells_arr4
    obtain ⟨u0, u1, u2, u3, rfl⟩ := list4 hn
    obtain ⟨d0, f0⟩ := b 0 (by decide)
    obtain ⟨d1, f1⟩ := b 1 (by decide)
    obtain ⟨d2, f2⟩ := b 2 (by decide)
    obtain ⟨d3, f3⟩ := b 3 (by decide)
    refine ⟨⟨d0, d1, d2, d3⟩, ?_⟩
    simp at f0 f1 f2 f3
    subst f0 f1 f2 f3
    rfl
  rw [q2] at k2
  refine ⟨⟨c0, c1, c2, c3, c4, c5, l⟩, A, cap, ?_, k2, show l.length ≤ cap by omega, ?_⟩
  · unfold sysV
    congr 1
    apply Array.toList_inj.1
    rw [hvs]
    show _ = [Value.int .i64 c0, .int .i64 c1, .int .i64 c2, .int .i64 c3, .int .i64 c4, .int .i64 c5, .slice A l.length cap]
    rw [q1, k1]
  · show l.length * 32 ≤ _
    rcases k5 with h0 | ⟨hx, hlen⟩
    · rw [q1, k1, h0]; decide
    · rw [hx] at hw2
      have := (weights_slice Tryd.underlying23 hw2).1
      rw [bytes_arr4, hlen, ← k1, ← q1] at this
      exact this
end
end Go.Proofs.YtjjohllfidmkjaaDoor.Pf
