/- The names of the orders, in plain Lean; rows of texts. Conditions: as stated. -/
import Derived.Test.YteldekkodhfkkaaOdR3
namespace Go.Proofs.Yteldekkodhfkkaa.OdW
open Go Go.RowKit Go.Proofs.Yteldekkodhfkkaa.Mem

/-- A name as a sum of nothing. -/
def oz (x : Od.It) : Nd := (x.o, 0)
def ocCells (x : Nd) : List Value := [.string ⟨x.1.toArray⟩]
def orders (l : List Od.It) : List Nd := if Od.valid l = true then Od.nf Od.sl (l.map oz) else []
theorem oc_len (x : Nd) : (ocCells x).length = 1 := rfl
theorem oc_cell (l : List Nd) : ∀ u ∈ l.flatMap ocCells, u.oneCell' = true := by
  intro u hu
  obtain ⟨x, _, hx⟩ := List.mem_flatMap.1 hu
  unfold ocCells at hx
  simp at hx
  rcases hx with rfl
  rfl
theorem info_text : (Try.prog.info? 9).map (fun i => (i.zero, i.size, i.bytes)) = some (some (.string ByteArray.empty), 1, 16) := by kernel_rfl
theorem new1_row (w : World) (a : Value) (T : TypeId) : Row (w.alloc (.cells #[a] T)) (some ⟨w.heap.size, 0, none⟩) [a] := fun _ => by
  refine ⟨_, _, rfl, by simp, fun j hj => ?_⟩
  match j, hj with
  | 0, _ => simp
  | j + 1, hj => simp only [List.length_cons, List.length_nil] at hj; omega
theorem new1_rowB (w : World) (o : Obj) (a : Value) (T : TypeId) : Row ((w.alloc o).alloc (.cells #[a] T)).drew (some ⟨w.heap.size + 1, 0, none⟩) [a] := by
  have := Row.drew (new1_row (w.alloc o) a T)
  rw [World.size_alloc] at this
  exact this
theorem new1_rowC (w : World) (o : Obj) (a : Value) (T : TypeId) : Row ((w.alloc (.cells #[a] T)).alloc o).drew (some ⟨w.heap.size, 0, none⟩) [a] := Row.alloc (new1_row w a T) o
theorem orders_len (l : List Od.It) : (orders l).length ≤ 100 := by
  unfold orders
  split
  · rename_i hv
    have := nf_len (lt := Od.sl) (l.map oz)
    rw [List.length_map] at this
    have := Od.valid_len hv
    omega
  · simp
end Go.Proofs.Yteldekkodhfkkaa.OdW
