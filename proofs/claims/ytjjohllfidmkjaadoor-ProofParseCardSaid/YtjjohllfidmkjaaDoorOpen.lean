/- An argument that is a slice, opened: its cells as a row, the fuel that falls, the parts that are read. No function is in sight. Conditions: none. -/
import Derived.Test.YtjjohllfidmkjaaDoorMem
import Derived.Deep.Slices
import Derived.ChangeArms
namespace Go.Proofs.YtjjohllfidmkjaaDoor.Mem
open Go Go.RowKit

theorem choose_lt' {α : Type} {p : Nat → α → Prop} : ∀ (m : Nat), (∀ i, i < m → ∃ a, p i a) → ∃ l : List α, l.length = m ∧ ∀ i (h : i < l.length), p i l[i]
  | 0, _ => ⟨[], rfl, fun i h => by simp at h⟩
  | m + 1, h => by
    obtain ⟨l, hl, hp⟩ := choose_lt' m fun i hi => h i (by omega)
    obtain ⟨a, ha⟩ := h m (by omega)
    refine ⟨l ++ [a], by simp [hl], fun i hi => ?_⟩
    by_cases hlt : i < l.length
    · rw [List.getElem_append_left hlt]; exact hp i hlt
    · have hi' : i = l.length := by simp at hi; omega
      subst hi'
      rw [List.getElem_append_right (Nat.le_refl _)]
      simp only [Nat.sub_self, List.getElem_cons_zero]
      rw [hl]; exact ha

theorem flatten_get {n : Nat} : ∀ (l : List (List Value)), (∀ c ∈ l, c.length = n) → ∀ (i f : Nat) (h : i < l.length), f < n → l.flatten[i * n + f]? = l[i][f]?
  | [], _, i, f, h, _ => by simp at h
  | c :: r, hc, 0, f, _, hf => by
    have := hc c (by simp)
    show (c ++ r.flatten)[0 * n + f]? = _
    rw [Nat.zero_mul, Nat.zero_add, List.getElem?_append_left (by omega)]; rfl
  | c :: r, hc, i + 1, f, h, hf => by
    have h0 := hc c (by simp)
    show (c ++ r.flatten)[(i + 1) * n + f]? = _
    have e : (i + 1) * n + f - c.length = i * n + f := by rw [h0, Nat.add_mul]; omega
    rw [List.getElem?_append_right (by rw [h0, Nat.add_mul]; omega), e, flatten_get r (fun c' h' => hc c' (by simp [h'])) i f (by simpa using h) hf]; rfl
theorem flatten_len {n : Nat} : ∀ (l : List (List Value)), (∀ c ∈ l, c.length = n) → l.flatten.length = l.length * n
  | [], _ => by simp
  | c :: r, hc => by
    have h0 := hc c (by simp)
    have := flatten_len r fun c' h' => hc c' (by simp [h'])
    rw [List.flatten_cons, List.length_append, this, h0, List.length_cons, Nat.add_mul]; omega

theorem addr_add (a : Addr) (h : a.spot = none) (i : Nat) : a.add i = ⟨a.block, a.off + i, none⟩ := by
  obtain ⟨b, o, s⟩ := a
  simp only at h
  subst h
  by_cases h0 : i = 0
  · subst h0; rfl
  · show (if i = 0 then _ else _) = _
    rw [if_neg h0]

section
variable {H : Type} {enc : TypeId × Value → H} {P : Program} {w : World} {held : Bool}
theorem weights_all {e : TypeId} {d : DataW H} {k : Nat} : ∀ (l : List (DataW H)), d ∈ l → k ∈ d.weights P e → k ∈ DataW.weightsAll P e l
  | x :: r, hd, hk => by
    unfold DataW.weightsAll
    rcases List.mem_cons.1 hd with rfl | h
    · exact List.mem_append_left _ hk
    · exact List.mem_append_right _ (weights_all r h hk)
theorem weights_slice {t e : TypeId} (ht : P.underlying t = some (.slice e)) {elems rest : List (DataW H)} (hw : ∀ k ∈ (DataW.slice elems rest).weights P t, k ≤ reachBytes) :
    elems.length * P.bytesOf e ≤ reachBytes ∧ ∀ d ∈ elems, ∀ k ∈ d.weights P e, k ≤ reachBytes := by
  have h0 : (DataW.slice elems rest).weights P t = (elems.length + rest.length) * P.bytesOf e :: (DataW.weightsAll P e elems ++ DataW.weightsAll P e rest) := by
    rw [DataW.weights, ht]
  rw [h0] at hw
  refine ⟨?_, fun d hd k hk => hw k (List.mem_cons_of_mem _ (List.mem_append_left _ (weights_all elems hd hk)))⟩
  have := hw _ (List.mem_cons_self ..)
  rw [Nat.add_mul] at this
  omega
theorem open_fuel {t e : TypeId} {A : Option Addr} {len cap fuel : Nat} {x : DataW H × List MemPlace} (ht : P.underlying t = some (.slice e)) (hn : 0 < P.cellsOf e)
    (h : DataW.trod enc P w 0 (fun _ => true) held fuel t [.slice A len cap] = some x) :
    ∃ (css : List (List Value)) (n : Nat) (elems rest : List (DataW H)), css.length = len ∧ Row w A css.flatten ∧ len ≤ cap ∧ n < fuel ∧ (len = 0 ∨ x.1 = .slice elems rest ∧ elems.length = len) ∧
      ∀ cs ∈ css, cs.length = P.cellsOf e ∧ ∃ y, DataW.trod enc P w 0 (fun _ => true) held n e cs = some y ∧ y.1 ∈ elems := by
  rcases DataW.trod_slice ht h with ⟨h0, hx⟩ | ⟨a, len', cap', elems, rest, n, rfl, h0, rfl, _, hl, hm, hlen, hel, _, _⟩
  · simp only [List.cons.injEq, Value.slice.injEq, and_true] at h0
    obtain ⟨rfl, rfl, rfl⟩ := h0
    have hf : 0 < fuel := by
      rcases fuel with _ | _
      · simp [DataW.trod] at h
      · omega
    exact ⟨[], 0, [], [], rfl, Row.nil _ _, Nat.le_refl _, hf, .inl rfl, by simp⟩
  · simp only [List.cons.injEq, Value.slice.injEq, and_true] at h0
    obtain ⟨rfl, rfl, rfl⟩ := h0
    obtain ⟨l, hll, hlp⟩ := choose_lt' (p := fun i cs => w.cells? 0 (a.add (i * P.cellsOf e)) (P.cellsOf e) = some cs ∧ ∃ y, DataW.trod enc P w 0 (fun _ => true) held n e cs = some y ∧ y.1 ∈ elems.map (·.1)) len fun i hi => by
      have h1 := hel i hi
      rw [List.getElem?_eq_getElem (by omega)] at h1
      obtain ⟨cs, h2, h3⟩ := Option.bind_eq_some_iff.1 h1
      exact ⟨cs, h2, _, h3, List.mem_map_of_mem (List.getElem_mem _)⟩
    have hlen : ∀ cs ∈ l, cs.length = P.cellsOf e := by
      intro cs hcs
      obtain ⟨i, hi, rfl⟩ := List.getElem_of_mem hcs
      exact (World.cells?_some (hlp i hi).1).2.1
    refine ⟨l, n, elems.map (·.1), rest.map (·.1), hll, ?_, hl, Nat.lt_succ_self n, .inr ⟨rfl, by rw [List.length_map]; omega⟩, fun cs hcs => ⟨hlen cs hcs, ?_⟩⟩
    · intro hne
      have hfl := flatten_len l hlen
      have hpos : 0 < l.length := by
        rcases l with _ | _
        · exact absurd rfl hne
        · simp
      have cell := fun (i : Nat) (hi : i < l.length) => (World.cells?_some (hlp i hi).1).2.2
      have hsome : ∃ v, w.cell? a = some v := by
        have h2 := cell 0 hpos 0 hn
        rw [Nat.zero_mul] at h2
        simp only [Addr.add, if_true] at h2
        rw [h2, List.getElem?_eq_getElem (by rw [hlen _ (List.getElem_mem hpos)]; exact hn)]
        exact ⟨_, rfl⟩
      obtain ⟨v, hv⟩ := hsome
      have hspot : a.spot = none := by
        unfold World.cell? at hv
        split at hv
        · split at hv
          · cases hv
          · rename_i hs; simpa using hs
        · cases hv
      have hb : a.block < w.heap.size := by
        by_cases hlt : a.block < w.heap.size
        · exact hlt
        · unfold World.cell? at hv
          rw [Array.getElem?_eq_none (Nat.le_of_not_lt hlt)] at hv
          cases hv
      refine ⟨a.block, a.off, ?_, hb, fun j hj => ?_⟩
      · obtain ⟨b, o, s⟩ := a
        simp only at hspot
        subst hspot; rfl
      · rw [hfl] at hj
        have hi : j / P.cellsOf e < l.length := Nat.div_lt_of_lt_mul (by rw [Nat.mul_comm]; exact hj)
        have hf : j % P.cellsOf e < P.cellsOf e := Nat.mod_lt _ hn
        have hj2 : j = j / P.cellsOf e * P.cellsOf e + j % P.cellsOf e := by rw [Nat.mul_comm]; exact (Nat.div_add_mod _ _).symm
        have h2 := cell _ hi _ hf
        have h3 := flatten_get l hlen _ _ hi hf
        rw [← hj2] at h3
        rw [h3, ← h2, addr_add a hspot, addr_add _ rfl]
        simp only
        rw [Nat.add_assoc, ← hj2]
    · obtain ⟨i, hi, rfl⟩ := List.getElem_of_mem hcs
      exact (hlp i hi).2
end
end Go.Proofs.YtjjohllfidmkjaaDoor.Mem
