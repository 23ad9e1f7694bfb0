/- The laws' arguments opened: lists of items. Conditions: none. -/
import Derived.Test.YteldekkodhfkkaaOpen
import Derived.Test.YteldekkodhfkkaaOdJ2
import Derived.OpenShut
import Derived.Lib.SmallJoins
namespace Go.Proofs.Yteldekkodhfkkaa.OdW
open Go Go.RowKit Go.Proofs.Yteldekkodhfkkaa.Mem Go.WideShapes

theorem four {l : List Value} (h : l.length = 4) : ∃ a b c d, l = [a, b, c, d] := by
  match l, h with
  | [a, b, c, d], _ => exact ⟨a, b, c, d, rfl⟩
theorem cells_item : Try.prog.cellsOf 36 = 4 := by kernel_rfl
theorem cells_str : Try.prog.cellsOf 9 = 1 := by kernel_rfl
theorem cells_int : Try.prog.cellsOf 3 = 1 := by kernel_rfl
section
variable {H : Type} {enc : TypeId × Value → H} {w : World} {held : Bool}
theorem open_items {A : Option Addr} {len cap : Nat} {d : DataW H} {p : List MemPlace}
    (h : DataW.Trod enc Try.prog w 0 (fun _ => true) held 22 (.slice A len cap) d p) :
    ∃ xs : List Od.It, Arg w A len cap xs :=
  open_typed Try.underlying22 (by rw [cells_item]; decide) itCells (fun x => (Lit.int .i64 x.q).wf = true ∧ (Lit.int .i64 x.d).wf = true) (fun cs n y hy => by
    obtain ⟨xs, m, _, _, hl, hxs, hf⟩ := DataW.trod_struct Try.underlying36 hy
    rw [cells_item] at hl
    have h0 : DataW.trod enc Try.prog w 0 (fun _ => true) held m 9 ((cs.drop 0).take (Try.prog.cellsOf 9)) = xs[0]? := hf 0 _ rfl
    have h1 : DataW.trod enc Try.prog w 0 (fun _ => true) held m 9 ((cs.drop 1).take (Try.prog.cellsOf 9)) = xs[1]? := hf 1 _ rfl
    have h2 : DataW.trod enc Try.prog w 0 (fun _ => true) held m 3 ((cs.drop 2).take (Try.prog.cellsOf 3)) = xs[2]? := hf 2 _ rfl
    have h3 : DataW.trod enc Try.prog w 0 (fun _ => true) held m 3 ((cs.drop 3).take (Try.prog.cellsOf 3)) = xs[3]? := hf 3 _ rfl
    rw [cells_str] at h0 h1
    rw [cells_int] at h2 h3
    have hxs2 : xs.length = 4 := hxs
    rw [List.getElem?_eq_getElem (by omega)] at h0 h1 h2 h3
    obtain ⟨c0, e0, _, w0⟩ := DataW.trod_string Try.underlying9 h0
    obtain ⟨c1, e1, _, w1⟩ := DataW.trod_string Try.underlying9 h1
    obtain ⟨c2, e2, _, w2⟩ := DataW.trod_int Try.underlying3 h2
    obtain ⟨c3, e3, _, w3⟩ := DataW.trod_int Try.underlying3 h3
    clear h0 h1 h2 h3 hf
    obtain ⟨a, b, c, d, rfl⟩ := four hl
    simp only [List.drop_zero, List.take_succ_cons, List.take_zero, List.drop_succ_cons, List.cons.injEq, and_true] at e0 e1 e2 e3
    subst e0 e1 e2 e3
    exact ⟨⟨c0.data.toList, c1.data.toList, c2, c3⟩, ⟨w2, w3⟩, by simp [itCells]⟩) h
end
end Go.Proofs.Yteldekkodhfkkaa.OdW
