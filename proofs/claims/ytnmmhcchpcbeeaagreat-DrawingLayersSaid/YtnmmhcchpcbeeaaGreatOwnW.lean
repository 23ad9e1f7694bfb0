/- A row of the call's own, written into: what it holds behind the write; cut to a head; cleared. No function is in sight. Conditions: as stated. -/
import Derived.Test.YtnmmhcchpcbeeaaGreatRowK
import Derived.Laws.IdiomCopy
import Derived.Lib.SliceRun

namespace Go.Proofs.YtnmmhcchpcbeeaaGreat.Mem
open Go Go.RowKit
theorem setCell_block {w : World} {g : Nat} {cur : Array Value} {e : TypeId} {fz : Nat × Nat} (h : w.heap[g]? = some (.cells cur e fz)) (o : Nat) (v : Value) : (w.setCell ⟨g, o, none⟩ v).heap[g]? = some (.cells (cur.setIfInBounds o v) e fz) := by
  have hlt : g < w.heap.size := (Array.getElem?_eq_some_iff.1 h).1
  simp [World.setCell, Array.getElem?_modify, h]
def overW (l : List Value) : Nat → List Value → List Value
  | _, [] => l
  | o, v :: r => overW (l.set o v) (o + 1) r
theorem overW_len (vs : List Value) : ∀ (l : List Value) (o : Nat), (overW l o vs).length = l.length := by
  induction vs with
  | nil => intro l o; rfl
  | cons v r ih => intro l o; unfold overW; rw [ih]; simp
theorem overW_eq (vs : List Value) : ∀ (l : List Value) (o : Nat), o + vs.length ≤ l.length → overW l o vs = l.take o ++ vs ++ l.drop (o + vs.length) := by
  induction vs with
  | nil => intro l o h; simp [overW]
  | cons v r ih =>
    intro l o h
    simp only [List.length_cons] at h
    unfold overW
    rw [ih _ _ (by simp; omega)]
    have e1 : (l.set o v).take (o + 1) = l.take o ++ [v] := by
      rw [List.take_succ_eq_append_getElem (by simp; omega)]
      simp [List.take_set_of_le]
    rw [e1, List.drop_set_of_lt (by omega)]
    simp [List.append_assoc, show o + 1 + r.length = o + (r.length + 1) by omega]
theorem setCells_block (vs : List Value) : ∀ {w : World} {g : Nat} {cur : Array Value} {e : TypeId} {fz : Nat × Nat} (_ : w.heap[g]? = some (.cells cur e fz)) (o : Nat), (w.setCells g o vs).heap[g]? = some (.cells (overW cur.toList o vs).toArray e fz) := by
  induction vs with
  | nil => intro w g cur e fz h o; simpa [World.setCells, overW] using h
  | cons v r ih =>
    intro w g cur e fz h o
    unfold World.setCells
    have := ih (setCell_block h o v) (o + 1)
    rw [this]
    simp [overW]
theorem fm_take {α : Type} {f : α → List Value} {n : Nat} (hf : ∀ x, (f x).length = n) : ∀ (l : List α) (k : Nat), (l.flatMap f).take (k * n) = (l.take k).flatMap f
  | [], k => by simp
  | x :: r, 0 => by simp
  | x :: r, k + 1 => by
    rw [List.take_succ_cons, List.flatMap_cons, List.flatMap_cons, ← fm_take hf r k, show (k + 1) * n = (f x).length + k * n by rw [hf, Nat.add_mul]; omega, List.take_length_add_append]
theorem fm_drop {α : Type} {f : α → List Value} {n : Nat} (hf : ∀ x, (f x).length = n) : ∀ (l : List α) (k : Nat), (l.flatMap f).drop (k * n) = (l.drop k).flatMap f
  | [], k => by simp
  | x :: r, 0 => by simp
  | x :: r, k + 1 => by
    rw [List.drop_succ_cons, List.flatMap_cons, ← fm_drop hf r k, show (k + 1) * n = (f x).length + k * n by rw [hf, Nat.add_mul]; omega, List.drop_length_add_append]
/-- Cells of a row of the call's own written over. -/
theorem own_write {w : World} {base : Nat} {e : TypeId} {size g c n : Nat} {xs : List Value} (h : w.ownsRow base e size (.slice (some ⟨g, 0, none⟩) n c) n xs) (o : Nat) (vs : List Value) (ho : o + vs.length ≤ n * size) :
    (w.setCells g o vs).ownsRow base e size (.slice (some ⟨g, 0, none⟩) n c) n (xs.take o ++ vs ++ xs.drop (o + vs.length)) := by
  rcases h.2 with ⟨h1, h2⟩ | ⟨g', cap, cur, hv, hb, hh, hn', hc, hs, ht⟩
  · cases h1
  · injection hv with hv1 hv2 hv3
    injection hv1 with hv1
    injection hv1 with hv1
    subst hv1 hv3
    have hle : n * size ≤ cur.size := by rw [hs]; exact Nat.mul_le_mul_right size hn'
    have hlen : xs.length = n * size := h.1
    refine ⟨by simp; omega, .inr ⟨g, c, _, rfl, hb, setCells_block vs hh o, hn', hc, ?_, ?_⟩⟩
    · rw [← hs]
      simp [overW_len]
    · rw [overW_eq vs _ _ (by simp; omega)]
      subst ht
      have : o + vs.length ≤ cur.toList.length := by simp; omega
      simp only [List.take_append, List.take_take, List.length_take, List.drop_take, List.length_append, Array.length_toList]
      have e1 : min (n * size) o = o := by omega
      have e2 : min o (n * size) = o := by omega
      have e3 : min o cur.size = o := by omega
      rw [e1, e2, e3, List.take_of_length_le (show vs.length ≤ n * size - o by omega)]
theorem own_write_below {w : World} {base : Nat} {e : TypeId} {size g c n : Nat} {xs : List Value} (h : w.ownsRow base e size (.slice (some ⟨g, 0, none⟩) n c) n xs) (o : Nat) (vs : List Value) : Below base w (w.setCells g o vs) := by
  have hg : base ≤ g := own_block h g rfl
  have : ∀ (vs : List Value) (o : Nat) (w' : World), Below base w w' → Below base w (w'.setCells g o vs) := by
    intro vs
    induction vs with
    | nil => intro o w' hb; exact hb
    | cons v r ih => intro o w' hb; unfold World.setCells; exact ih _ _ (hb.setCell hg v)
  exact this vs o w (Below.refl _ _)
theorem own_head {w : World} {base : Nat} {e : TypeId} {size g c n : Nat} {xs : List Value} (h : w.ownsRow base e size (.slice (some ⟨g, 0, none⟩) n c) n xs) {m : Nat} (hm : m ≤ n) :
    w.ownsRow base e size (.slice (some ⟨g, 0, none⟩) m c) m (xs.take (m * size)) := by
  rcases h.2 with ⟨h1, h2⟩ | ⟨g', cap, cur, hv, hb, hh, hn', hc, hs, ht⟩
  · cases h1
  · injection hv with hv1 hv2 hv3
    injection hv1 with hv1
    injection hv1 with hv1
    subst hv1 hv3
    have hle : m * size ≤ n * size := Nat.mul_le_mul_right size hm
    have hlen : xs.length = n * size := h.1
    refine ⟨by simp; omega, .inr ⟨g, c, cur, rfl, hb, hh, by omega, hc, hs, ?_⟩⟩
    rw [← ht, List.take_take, Nat.min_eq_left hle]
/-- 'clear' of part of a row whose elements are k cells, all of one nought. -/
theorem run_clear_cells {P : Program} (w : World) (t e ty : TypeId) (z zc : Value) (k : Nat) (ht : P.underlying t = some (.slice e)) (hv : ∀ w, (zeroValue e).run P w = .ok z w) (hz : z.cells = Array.replicate k zc) (h1 : zc.oneCell' = true) (b o n c : Nat) (hn : 0 < n)
    (hc : ∀ j, j < n * k → (w.cell? ⟨b, o + j, none⟩).isSome = true) (hf : ∀ j, j < n * k → w.frozen? ⟨b, o + j, none⟩ = false) :
    (Builtin.clear_ #[t] ty #[.slice (some ⟨b, o, none⟩) n c]).run P w = .ok (.tuple #[]) (w.setCells b o (List.replicate (n * k) zc)) := by
  have hzc : (Builtin.zeroCells z.cells n).toList = List.replicate (n * k) zc := by
    rw [hz]
    simp only [Builtin.zeroCells, Array.size_replicate, Array.toList_map, Array.toList_range]
    apply List.ext_getElem
    · simp
    · intro i h1 h2
      simp only [List.length_map, List.length_range] at h1
      have hk : 0 < k := by
        rcases Nat.eq_zero_or_pos k with h0 | h0
        · subst h0; simp at h1
        · exact h0
      simp only [List.getElem_map, List.getElem_range, List.getElem_replicate]
      rw [getElem!_pos _ _ (by simpa using Nat.mod_lt i hk)]
      simp
  have hst := run_storeCells_cells (P := P) b o (List.replicate (n * k) zc) 0 w (by simpa using hc) (by simpa using hf) (by intro v hv'; rw [List.eq_of_mem_replicate hv']; exact h1)
  simp only [Nat.add_zero] at hst
  obtain ⟨m, rfl⟩ : ∃ m, n = m + 1 := ⟨n - 1, by omega⟩
  simp [Builtin.clear_, run_underlying ht, hv, hzc, hst]
end Go.Proofs.YtnmmhcchpcbeeaaGreat.Mem
