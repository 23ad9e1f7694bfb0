/- Rows of parts with their quantities, one cell set; new blocks of two cells. Conditions: as stated. -/
import Derived.Test.YteldekkodhfkkaaOdR2
namespace Go.Proofs.Yteldekkodhfkkaa.OdW
open Go Go.RowKit Go.Proofs.Yteldekkodhfkkaa.Mem

theorem nd_cell (l : List Nd) : ∀ u ∈ l.flatMap ndCells, u.oneCell' = true := by
  intro u hu
  obtain ⟨x, _, hx⟩ := List.mem_flatMap.1 hu
  unfold ndCells at hx
  simp at hx
  rcases hx with rfl | rfl <;> rfl
theorem nd_set : ∀ (acc : List Nd) (k : Nat) (q0 q : Int) (p : List UInt8), acc[k]? = some (p, q0) → (acc.flatMap ndCells).set (k * 2 + 1) (.int .i64 q) = (acc.set k (p, q)).flatMap ndCells
  | [], k, q0, q, p, h => by simp at h
  | x :: r, 0, q0, q, p, h => by
    simp at h
    subst h
    simp [ndCells]
  | x :: r, k + 1, q0, q, p, h => by
    have := nd_set r k q0 q p (by simpa using h)
    rw [List.flatMap_cons, List.set_cons_succ, List.flatMap_cons, ← this, List.set_append_right _ _ (by rw [nd_len]; omega), nd_len]
    congr 2
    omega
theorem nd_cell1 : ∀ (acc : List Nd) (k : Nat) (q : Int) (p : List UInt8), acc[k]? = some (p, q) → (acc.flatMap ndCells)[k * 2 + 1]? = some (.int .i64 q)
  | [], k, q, p, h => by simp at h
  | x :: r, 0, q, p, h => by
    simp at h
    subst h
    simp [ndCells]
  | x :: r, k + 1, q, p, h => by
    have := nd_cell1 r k q p (by simpa using h)
    rw [List.flatMap_cons, List.getElem?_append_right (by rw [nd_len]; omega), nd_len, ← this]
    congr 1
    omega
theorem new2_row (w : World) (a b : Value) (T : TypeId) : Row (w.alloc (.cells #[a, b] T)) (some ⟨w.heap.size, 0, none⟩) [a, b] := fun _ => by
  refine ⟨_, _, rfl, by simp, fun j hj => ?_⟩
  match j, hj with
  | 0, _ => simp
  | 1, _ => simp
  | j + 2, hj => simp only [List.length_cons, List.length_nil] at hj; omega
theorem new2_rowB (w : World) (o : Obj) (a b : Value) (T : TypeId) : Row ((w.alloc o).alloc (.cells #[a, b] T)).drew (some ⟨w.heap.size + 1, 0, none⟩) [a, b] := by
  have := Row.drew (new2_row (w.alloc o) a b T)
  rw [World.size_alloc] at this
  exact this
theorem new2_rowC (w : World) (o : Obj) (a b : Value) (T : TypeId) : Row ((w.alloc (.cells #[a, b] T)).alloc o).drew (some ⟨w.heap.size, 0, none⟩) [a, b] := Row.alloc (new2_row w a b T) o
end Go.Proofs.Yteldekkodhfkkaa.OdW
