/- Rows of elements of n cells each. No function is in sight. Conditions: none. -/
import Derived.Test.YtnmmhcchpcbeeaaGreatMem

namespace Go.Proofs.YtnmmhcchpcbeeaaGreat.Mem
open Go Go.RowKit

theorem flatMap_len {α : Type} {f : α → List Value} {n : Nat} (hf : ∀ x, (f x).length = n) : ∀ l : List α, (l.flatMap f).length = l.length * n
  | [] => by simp
  | x :: r => by
    rw [List.flatMap_cons, List.length_append, hf, flatMap_len hf r, List.length_cons, Nat.add_mul]; omega
theorem flatMap_get {α : Type} {f : α → List Value} {n : Nat} (hf : ∀ x, (f x).length = n) : ∀ (l : List α) (k j : Nat) (h : k < l.length), j < n → (l.flatMap f)[k * n + j]? = (f l[k])[j]?
  | [], k, j, h, _ => by simp at h
  | x :: r, 0, j, _, hj => by
    rw [List.flatMap_cons, Nat.zero_mul, Nat.zero_add, List.getElem?_append_left (by rw [hf]; exact hj)]; rfl
  | x :: r, k + 1, j, h, hj => by
    have e : (k + 1) * n + j - (f x).length = k * n + j := by rw [hf, Nat.add_mul]; omega
    rw [List.flatMap_cons, List.getElem?_append_right (by rw [hf, Nat.add_mul]; omega), e, flatMap_get hf r k j (by simpa using h) hj]; rfl
/-- The cells of an element. -/
theorem row_get {α : Type} {f : α → List Value} {n : Nat} (hf : ∀ x, (f x).length = n) (hn : 0 < n) {w : World} {A : Option Addr} {l : List α} (h : Row w A (l.flatMap f)) (hl : 0 < l.length) :
    ∃ g off, A = some ⟨g, off, none⟩ ∧ g < w.heap.size ∧ ∀ (k : Nat) (hk : k < l.length) (j : Nat), j < n → w.cell? ⟨g, off + k * n + j, none⟩ = (f l[k])[j]? := by
  have hlen := flatMap_len hf l
  have hm : n ≤ l.length * n := Nat.le_mul_of_pos_left n hl
  obtain ⟨g, off, e, hg, hc⟩ := h (by
    intro h0
    rw [h0] at hlen
    simp at hlen
    omega)
  refine ⟨g, off, e, hg, fun k hk j hj => ?_⟩
  have hlt : k * n + j < l.length * n := by
    have : (k + 1) * n ≤ l.length * n := Nat.mul_le_mul_right n hk
    rw [Nat.add_mul] at this
    omega
  have h1 := hc (k * n + j) (by rw [hlen]; exact hlt)
  rw [← Nat.add_assoc] at h1
  exact h1.trans (flatMap_get hf l k j hk hj)
/-- The cells of an element of a row that the call owns. -/
theorem own_get {α : Type} {f : α → List Value} {n : Nat} (hf : ∀ x, (f x).length = n) {w : World} {base : Nat} {e : TypeId} {v : Value} {l : List α} {m : Nat} (hm : m = l.length) (h : w.ownsRow base e n v m (l.flatMap f)) (hl : 0 < m) :
    ∃ g c, v = .slice (some ⟨g, 0, none⟩) m c ∧ m ≤ c ∧ base ≤ g ∧ g < w.heap.size ∧ ∀ (k : Nat) (hk : k < l.length) (j : Nat), j < n → w.cell? ⟨g, k * n + j, none⟩ = (f l[k])[j]? := by
  rcases h.2 with ⟨h0, h1⟩ | ⟨g, cap, cur, hv, hb, hh, hn', hc, hs, ht⟩
  · omega
  · subst hv
    refine ⟨g, cap, rfl, hn', hb, ?_, fun k hk j hj => ?_⟩
    · rcases Nat.lt_or_ge g w.heap.size with hlt | hge
      · exact hlt
      · rw [Array.getElem?_eq_none hge] at hh; cases hh
    · have hlt : k * n + j < m * n := by
        have : (k + 1) * n ≤ m * n := Nat.mul_le_mul_right n (by omega)
        rw [Nat.add_mul] at this
        omega
      exact (h.cellAt (k * n + j) hlt).trans (flatMap_get hf l k j hk hj)
theorem flatMap_snoc {α : Type} (f : α → List Value) (l : List α) (x : α) : (l ++ [x]).flatMap f = l.flatMap f ++ f x := by simp
theorem take_snoc' {α : Type} (l : List α) (k : Nat) (h : k < l.length) : l.take (k + 1) = l.take k ++ [l[k]] := by
  rw [List.take_succ_eq_append_getElem h]
theorem flatMap_take {α : Type} (f : α → List Value) (l : List α) (k : Nat) (h : k < l.length) : (l.take (k + 1)).flatMap f = (l.take k).flatMap f ++ f l[k] := by
  rw [take_snoc' l k h, flatMap_snoc]
end Go.Proofs.YtnmmhcchpcbeeaaGreat.Mem
