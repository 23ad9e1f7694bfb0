/- An argument that is a tree, opened, with its bulk: no more nodes than values. No function is in sight. Conditions: none. -/
import Derived.Test.YtjjohllfidmkjaaDoorPfOp
namespace Go.Proofs.YtjjohllfidmkjaaDoor.Mem
open Go Go.RowKit
section
variable {H : Type} {enc : TypeId × Value → H} {P : Program} {w : World} {held : Bool}
theorem open_fuel_at {t e : TypeId} {A : Option Addr} {len cap fuel : Nat} {x : DataW H × List MemPlace} (ht : P.underlying t = some (.slice e)) (hn : 0 < P.cellsOf e)
    (h : DataW.trod enc P w 0 (fun _ => true) held fuel t [.slice A len cap] = some x) :
    ∃ (css : List (List Value)) (n : Nat) (elems rest : List (DataW H)), css.length = len ∧ Row w A css.flatten ∧ len ≤ cap ∧ n < fuel ∧ (len = 0 ∨ x.1 = .slice elems rest ∧ elems.length = len) ∧
      ∀ (i : Nat) (hi : i < css.length), css[i].length = P.cellsOf e ∧ ∃ y, DataW.trod enc P w 0 (fun _ => true) held n e css[i] = some y ∧ elems[i]? = some y.1 := by
  rcases DataW.trod_slice ht h with ⟨h0, hx⟩ | ⟨a, len', cap', elems, rest, n, rfl, h0, rfl, _, hl, hm, hlen, hel, _, _⟩
  · simp only [List.cons.injEq, Value.slice.injEq, and_true] at h0
    obtain ⟨rfl, rfl, rfl⟩ := h0
    have hf : 0 < fuel := by
      rcases fuel with _ | _
      · simp [DataW.trod] at h
      · omega
    exact ⟨[], 0, [], [], rfl, Row.nil _ _, Nat.le_refl _, hf, .inl rfl, by simp⟩
  · simp only [List.cons.injEq, Value.slice.injEq, and_true] at h0
    obtain ⟨rfl, rfl, rfl⟩ := h0
    obtain ⟨l, hll, hlp⟩ := choose_lt' (p := fun i cs => w.cells? 0 (a.add (i * P.cellsOf e)) (P.cellsOf e) = some cs ∧ ∃ y, DataW.trod enc P w 0 (fun _ => true) held n e cs = some y ∧ (elems.map (·.1))[i]? = some y.1) len fun i hi => by
      have h1 := hel i hi
      rw [List.getElem?_eq_getElem (by omega)] at h1
      obtain ⟨cs, h2, h3⟩ := Option.bind_eq_some_iff.1 h1
      exact ⟨cs, h2, _, h3, by rw [List.getElem?_map, List.getElem?_eq_getElem (by omega)]; rfl⟩
    have hlen : ∀ cs ∈ l, cs.length = P.cellsOf e := by
      intro cs hcs
      obtain ⟨i, hi, rfl⟩ := List.getElem_of_mem hcs
      exact (World.cells?_some (hlp i hi).1).2.1
    refine ⟨l, n, elems.map (·.1), rest.map (·.1), hll, ?_, hl, Nat.lt_succ_self n, .inr ⟨rfl, by rw [List.length_map]; omega⟩, fun i hi => ⟨hlen _ (List.getElem_mem hi), (hlp i hi).2⟩⟩
    · intro hne
      have hfl := flatten_len l hlen
      have hpos : 0 < l.length := by
        rcases l with _ | _
        · exact absurd rfl hne
        · simp
      have cell := fun (i : Nat) (hi : i < l.length) => (World.cells?_some (hlp i hi).1).2.2
      have hsome : ∃ v, w.cell? a = some v := by
        have h2 := cell 0 hpos 0 hn
        rw [Nat.zero_mul] at h2
        simp only [Addr.add, if_true] at h2
        rw [h2, List.getElem?_eq_getElem (by rw [hlen _ (List.getElem_mem hpos)]; exact hn)]
        exact ⟨_, rfl⟩
      obtain ⟨v, hv⟩ := hsome
      have hspot : a.spot = none := by
        unfold World.cell? at hv
        split at hv
        · split at hv
          · cases hv
          · rename_i hs; simpa using hs
        · cases hv
      have hb : a.block < w.heap.size := by
        by_cases hlt : a.block < w.heap.size
        · exact hlt
        · unfold World.cell? at hv
          rw [Array.getElem?_eq_none (Nat.le_of_not_lt hlt)] at hv
          cases hv
      refine ⟨a.block, a.off, ?_, hb, fun j hj => ?_⟩
      · obtain ⟨b, o, s⟩ := a
        simp only at hspot
        subst hspot; rfl
      · rw [hfl] at hj
        have hi : j / P.cellsOf e < l.length := Nat.div_lt_of_lt_mul (by rw [Nat.mul_comm]; exact hj)
        have hf : j % P.cellsOf e < P.cellsOf e := Nat.mod_lt _ hn
        have hj2 : j = j / P.cellsOf e * P.cellsOf e + j % P.cellsOf e := by rw [Nat.mul_comm]; exact (Nat.div_add_mod _ _).symm
        have h2 := cell _ hi _ hf
        have h3 := flatten_get l hlen _ _ hi hf
        rw [← hj2] at h3
        rw [h3, ← h2, addr_add a hspot, addr_add _ rfl]
        simp only
        rw [Nat.add_assoc, ← hj2]
end
end Go.Proofs.YtjjohllfidmkjaaDoor.Mem
namespace Go.Proofs.YtjjohllfidmkjaaDoor.Pf
open Go Go.RowKit Go.Proofs.YtjjohllfidmkjaaDoor.Mem Go.WideShapes
section
variable {H : Type} {enc : TypeId × Value → H} {w : World} {held : Bool}
theorem kids_ofb : ∀ (css : List (List Value)) (el : List (DataW H)), (∀ (i : Nat) (hi : i < css.length), ∃ t d, TreeIn (fun _ => True) w t css[i] ∧ Fit t ∧ Rng t ∧ el[i]? = some d ∧ nodes t ≤ Rows.uptoBulk d) →
    ∃ ts : List T, ts.length = css.length ∧ KidsIn (fun _ => True) w ts css.flatten ∧ FitL ts ∧ RngL ts ∧ nodesL ts ≤ Rows.uptoBulkAll el
  | [], _, _ => ⟨[], rfl, by unfold KidsIn; rfl, by unfold FitL; trivial, by unfold RngL; trivial, by unfold nodesL; exact Nat.zero_le _⟩
  | c :: r, el, h => by
    obtain ⟨t, d, h1, h2, h2', h6, h7⟩ := h 0 (by simp)
    match el, h6 with
    | e :: el, h6 =>
      obtain rfl : e = d := by simpa using h6
      obtain ⟨ts, h3, h4, h5, h5', h8⟩ := kids_ofb r el fun i hi => by
        have := h (i + 1) (by simpa using hi)
        simpa using this
      refine ⟨t :: ts, by simp [h3], ?_, ?_, ?_, ?_⟩
      · unfold KidsIn
        exact ⟨c, r.flatten, by simp, by simpa using h1, h4⟩
      · unfold FitL
        exact ⟨h2, h5⟩
      · unfold RngL
        exact ⟨h2', h5'⟩
      · unfold nodesL
        have e9 : Rows.uptoBulkAll (e :: el) = Rows.uptoBulk e + Rows.uptoBulkAll el := rfl
        omega
theorem open_treeb : ∀ (N m : Nat), m < N → ∀ (cs : List Value) (y : DataW H × List MemPlace), DataW.trod enc Tryd.prog w 0 (fun _ => true) held m 29 cs = some y →
    (∀ k ∈ y.1.weights Tryd.prog 29, k ≤ reachBytes) → ∃ t, TreeIn (fun _ => True) w t cs ∧ Fit t ∧ Rng t ∧ nodes t ≤ Rows.uptoBulk y.1
  | 0, m, h, _, _, _, _ => absurd h (Nat.not_lt_zero _)
  | N + 1, m, h, cs, y, hy, hw => by
    obtain ⟨xs, n, rfl, rfl, hl, hxs, hf⟩ := DataW.trod_struct Tryd.underlying29 hy
    rw [cells_tree] at hl
    have hxs3 : xs.length = 3 := hxs
    obtain ⟨x0, x1, x2, rfl⟩ := list3 hxs3
    obtain ⟨v0, v1, v2, rfl⟩ := list3 hl
    have h0 : DataW.trod enc Tryd.prog w 0 (fun _ => true) held n 3 (([v0, v1, v2].drop 0).take (Tryd.prog.cellsOf 3)) = some x0 := hf 0 _ rfl
    have h1 : DataW.trod enc Tryd.prog w 0 (fun _ => true) held n 26 (([v0, v1, v2].drop 1).take (Tryd.prog.cellsOf 26)) = some x1 := hf 1 _ rfl
    have h2 : DataW.trod enc Tryd.prog w 0 (fun _ => true) held n 27 (([v0, v1, v2].drop 2).take (Tryd.prog.cellsOf 27)) = some x2 := hf 2 _ rfl
    rw [cells_int] at h0
    rw [cells_kids] at h1
    rw [cells_leaf] at h2
    simp only [List.drop_zero, List.take_succ_cons, List.take_zero, List.drop_succ_cons] at h0 h1 h2
    have hW : (DataW.agg ([x0, x1, x2].map (·.1))).weights Tryd.prog 29 = x0.1.weights Tryd.prog 3 ++ (x1.1.weights Tryd.prog 26 ++ (x2.1.weights Tryd.prog 27 ++ [])) := by
      rw [DataW.weights, Tryd.underlying29]
      rfl
    simp only [hW] at hw
    have hw1 : ∀ k ∈ x1.1.weights Tryd.prog 26, k ≤ reachBytes := fun k hk => hw k (List.mem_append_right _ (List.mem_append_left _ hk))
    have hw2 : ∀ k ∈ x2.1.weights Tryd.prog 27, k ≤ reachBytes := fun k hk => hw k (List.mem_append_right _ (List.mem_append_right _ (List.mem_append_left _ hk)))
    obtain ⟨c0, e0, _, wf0⟩ := DataW.trod_int Tryd.underlying3 h0
    obtain rfl : v0 = .int .i64 c0 := by simpa using e0
    obtain ⟨A, len, cap, eA⟩ := slice_of Tryd.underlying26 h1
    obtain rfl : v1 = .slice A len cap := by simpa using eA
    obtain ⟨B, lenB, capB, eB⟩ := slice_of Tryd.underlying27 h2
    obtain rfl : v2 = .slice B lenB capB := by simpa using eB
    obtain ⟨css, n1, el, re, k1, k2, k3, k4, k5, k6⟩ := open_fuel_at Tryd.underlying26 (by rw [cells_tree]; decide) h1
    obtain ⟨ds, n2, el2, re2, l1, l2, l3, l4, l5, l6⟩ := open_fuel_at Tryd.underlying27 (by rw [cells_int]; decide) h2
    have hk : ∀ (i : Nat) (hi : i < css.length), ∃ t d, TreeIn (fun _ => True) w t css[i] ∧ Fit t ∧ Rng t ∧ el[i]? = some d ∧ nodes t ≤ Rows.uptoBulk d := by
      intro i hi
      obtain ⟨_, y, hy, hin⟩ := k6 i hi
      obtain ⟨t, q1, q2, q3, q4⟩ := open_treeb N n1 (by omega) _ y hy (by
        rcases k5 with h0 | ⟨hx, _⟩
        · omega
        · rw [hx] at hw1
          exact (weights_slice Tryd.underlying26 hw1).2 _ (List.mem_of_getElem? hin))
      exact ⟨t, y.1, q1, q2, q3, hin, q4⟩
    obtain ⟨ts, t1, t2, t3, t3', t4⟩ := kids_ofb css el hk
    obtain ⟨lf, q1, q2, q3⟩ := ints_of ds fun cs hcs => by
      obtain ⟨i, hi, rfl⟩ := List.getElem_of_mem hcs
      obtain ⟨_, y, hy, _⟩ := l6 i hi
      obtain ⟨c, e, _, wf⟩ := DataW.trod_int Tryd.underlying3 hy
      exact ⟨c, e, i64_in wf⟩
    have f1 : ts.length * 56 ≤ 140737488351232 := by
      rcases k5 with h0 | ⟨hx, hlen⟩
      · rw [t1, k1, h0]; decide
      · rw [hx] at hw1
        have := (weights_slice Tryd.underlying26 hw1).1
        rw [bytes_tree, hlen, ← k1, ← t1] at this
        exact this
    have f2 : lf.length * 8 ≤ 140737488351232 := by
      rcases l5 with h0 | ⟨hx, hlen⟩
      · rw [q1, l1, h0]; decide
      · rw [hx] at hw2
        have := (weights_slice Tryd.underlying27 hw2).1
        rw [bytes_int, hlen, ← l1, ← q1] at this
        exact this
    refine ⟨.mk c0 ts lf, ?_, ?_, ?_, ?_⟩
    · unfold TreeIn
      refine ⟨A, cap, B, capB, css.flatten, by rw [t1, k1, q1, l1], by omega, by omega, RowS.all k2, t2, ?_⟩
      rw [q2] at l2
      exact RowS.all l2
    · unfold Fit
      exact ⟨f1, f2, t3⟩
    · unfold Rng
      exact ⟨i64_in wf0, q3, t3'⟩
    · show nodes (.mk c0 ts lf) ≤ Rows.uptoBulk (DataW.agg ([x0, x1, x2].map (·.1)))
      have e9 : Rows.uptoBulk (DataW.agg ([x0, x1, x2].map (·.1))) = Rows.uptoBulk x0.1 + (Rows.uptoBulk x1.1 + (Rows.uptoBulk x2.1 + 0)) + 1 := rfl
      rw [e9]
      unfold nodes
      rcases k5 with h0 | ⟨hx, _⟩
      · have : css = [] := List.length_eq_zero_iff.1 (k1.trans h0)
        subst this
        obtain rfl : ts = [] := List.length_eq_zero_iff.1 t1
        unfold nodesL
        omega
      · have e8 : Rows.uptoBulk x1.1 = Rows.uptoBulkAll el + Rows.uptoBulkAll re + 1 := by rw [hx]; rfl
        omega
set_option maxRecDepth 100000 in
theorem open_treeb_arg {r : Reach} {b0 : Nat} {v : Value} {d : DataW H} {p : List MemPlace} (hv : Value.okWide Tryd.prog w r b0 29 v) (h : DataW.Trod enc Tryd.prog w 0 (fun _ => true) held 29 v d p)
    (hw : ∀ k ∈ d.weights Tryd.prog 29, k ≤ reachBytes) :
    ∃ (t : T) (s : Int) (A : Option Addr) (m c : Nat) (B : Option Addr) (k e : Nat), v = .agg #[.int .i64 s, .slice A m c, .slice B k e] ∧ TreeIn (fun _ => True) w t [.int .i64 s, .slice A m c, .slice B k e] ∧ Fit t ∧ Rng t ∧ nodes t ≤ Rows.uptoBulk d := by
  obtain ⟨cs, rfl, hsz⟩ := okWide_struct Tryd.underlying29 hv
  obtain ⟨fuel, hf⟩ := h
  obtain ⟨t, ht, hfit, hr, hnb⟩ := open_treeb (fuel + 1) fuel (Nat.lt_succ_self _) _ _ hf hw
  have hcs : (Value.agg cs).cells.toList = cs.toList := by simp [Value.cells]
  rw [hcs] at ht
  obtain ⟨s, ks, lf⟩ := t
  have ht' := ht
  unfold TreeIn at ht
  obtain ⟨A, c, B, e, ws, hl, _⟩ := ht
  rw [hl] at ht'
  refine ⟨_, s, A, ks.length, c, B, lf.length, e, ?_, ht', hfit, hr, hnb⟩
  congr 1
  exact Array.toList_inj.1 hl
end
end Go.Proofs.YtjjohllfidmkjaaDoor.Pf
