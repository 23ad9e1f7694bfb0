/- A row of the call's own put anew, in the words of the library's contracts for rows of k cells. No function is in sight. Conditions: as stated. -/
import Derived.Test.YtnmmhcchpcbeeaaGreatOwnW
import Derived.Shelf.GgSortFunc.RowK

namespace Go.Proofs.YtnmmhcchpcbeeaaGreat.Mem
open Go Go.RowKit Go.Sort Go.Proofs
section
variable {α : Type} [Inhabited α]
theorem flatK_get {enc : α → List Value} {k : Nat} (hk : ∀ x, (enc x).length = k) (l : List α) (t : Nat) (h : t < l.length * k) : (l.flatMap enc)[t]? = some (flatK enc k l.toArray)[t]! := by
  have k0 : 0 < k := by
    rcases Nat.eq_zero_or_pos k with h0 | h0
    · subst h0; simp at h
    · exact h0
  have hd : t / k < l.length := (Nat.div_lt_iff_lt_mul k0).2 h
  have hm : t % k < k := Nat.mod_lt _ k0
  have e : t / k * k + t % k = t := by rw [Nat.mul_comm]; exact Nat.div_add_mod t k
  have h1 := flatMap_get hk l (t / k) (t % k) hd hm
  rw [e] at h1
  rw [h1, get_flatK _ _ _ _ (by simpa using h)]
  have e2 : (l.toArray)[t / k]! = l[t / k] := by
    rw [getElem!_pos _ _ (by simpa using hd)]
    simp
  rw [e2, getElem!_pos (enc l[t / k]) (t % k) (by rw [hk]; exact hm), List.getElem?_eq_getElem (by rw [hk]; exact hm)]
theorem flatK_list {enc : α → List Value} {k : Nat} (hk : ∀ x, (enc x).length = k) (l : List α) : (flatK enc k l.toArray).toList = l.flatMap enc := by
  apply List.ext_getElem?
  intro t
  by_cases h : t < l.length * k
  · rw [flatK_get hk l t h]
    have : t < (flatK enc k l.toArray).size := by rw [size_flatK]; simpa using h
    rw [getElem!_pos (flatK enc k l.toArray) t this, Array.getElem?_toList, Array.getElem?_eq_getElem this]
  · rw [List.getElem?_eq_none (by simp; omega), List.getElem?_eq_none (by rw [flatMap_len hk]; omega)]
theorem holds_own {enc : α → List Value} {k : Nat} (hk : ∀ x, (enc x).length = k) {w : World} {base : Nat} {e : TypeId} {g c n : Nat} {l : List α} (hn : n = l.length) (h : w.ownsRow base e k (.slice (some ⟨g, 0, none⟩) n c) n (l.flatMap enc)) : HoldsK enc k w g 0 l.toArray ∧ g < w.heap.size ∧ base ≤ g := by
  rcases h.2 with ⟨h1, h2⟩ | ⟨g', cap, cur, hv, hb, hh, hn', hc, hs, ht⟩
  · cases h1
  · injection hv with hv1
    injection hv1 with hv1
    injection hv1 with hv1
    subst hv1
    have hlt : g < w.heap.size := (Array.getElem?_eq_some_iff.1 hh).1
    refine ⟨fun j hj => ?_, hlt, hb⟩
    rw [size_flatK] at hj
    have hj' : j < l.length * k := by simpa using hj
    have e1 := flatK_get hk l j hj'
    have e2 := h.cellAt (g := g) j (by rw [hn]; exact hj')
    refine ⟨?_, ?_⟩
    · rw [Nat.zero_add, e2, e1]; rfl
    · unfold World.frozen?
      rw [hh]
      simp
theorem own_put {enc : α → List Value} {k : Nat} (hk : ∀ x, (enc x).length = k) {w : World} {base : Nat} {e : TypeId} {g c n : Nat} {xs : List Value} (h : w.ownsRow base e k (.slice (some ⟨g, 0, none⟩) n c) n xs) (d : List α) (hd : d.length = n) (m : Nat) :
    (putRowK enc k (Go.Sort.ahead w m) g 0 d.toArray).ownsRow base e k (.slice (some ⟨g, 0, none⟩) n c) n (d.flatMap enc) ∧ Below base w (putRowK enc k (Go.Sort.ahead w m) g 0 d.toArray) := by
  rcases h.2 with ⟨h1, h2⟩ | ⟨g', cap, cur, hv, hb, hh, hn', hc, hs, ht⟩
  · cases h1
  · injection hv with hv1 hv2 hv3
    injection hv1 with hv1
    injection hv1 with hv1
    subst hv1 hv3
    have hlt : g < w.heap.size := (Array.getElem?_eq_some_iff.1 hh).1
    have hle : n * k ≤ cur.size := by rw [hs]; exact Nat.mul_le_mul_right k hn'
    constructor
    · refine ⟨by rw [flatMap_len hk, hd], .inr ⟨g, c, putCells id 0 (flatK enc k d.toArray) cur, rfl, hb, ?_, hn', hc, ?_, ?_⟩⟩
      · unfold putRowK putRow mapBlock Go.Sort.ahead
        simp [Array.getElem?_modify, hh, onCells]
      · simp [putCells, hs]
      · apply List.ext_getElem?
        intro t
        by_cases ht' : t < n * k
        · rw [flatK_get hk d t (by rw [hd]; exact ht')]
          have hcur : t < cur.size := by omega
          rw [List.getElem?_take_of_lt ht']
          simp only [putCells, Array.getElem?_toList, Array.getElem?_mapIdx]
          rw [Array.getElem?_eq_getElem hcur]
          have h3 : t < d.length * k := by rw [hd]; exact ht'
          simp [size_flatK, h3]
        · rw [List.getElem?_eq_none (by simp; omega), List.getElem?_eq_none (by rw [flatMap_len hk, hd]; omega)]
    · unfold putRowK putRow mapBlock Go.Sort.ahead
      refine ⟨rfl, rfl, rfl, by simp, fun j hj => ?_⟩
      have hne : ¬ g = j := by omega
      simp only [Array.getElem?_modify, if_neg hne]
end
end Go.Proofs.YtnmmhcchpcbeeaaGreat.Mem
