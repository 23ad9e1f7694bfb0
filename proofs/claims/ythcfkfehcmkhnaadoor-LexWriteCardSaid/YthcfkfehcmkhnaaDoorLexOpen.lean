/- The laws' arguments opened: choices of blanks, tokens. Conditions: none. -/
import Derived.Test.YthcfkfehcmkhnaaDoorOpen
import Derived.Test.YthcfkfehcmkhnaaDoorLexW16
import Derived.OpenShut
namespace Go.Proofs.YthcfkfehcmkhnaaDoor.LexW
open Go Go.RowKit Go.Proofs.YthcfkfehcmkhnaaDoor.Mem

theorem four {l : List Value} (h : l.length = 4) : ∃ a b c d, l = [a, b, c, d] := by
  match l, h with
  | [a, b, c, d], _ => exact ⟨a, b, c, d, rfl⟩
def gapCell (x : Nat) : List Value := [.int .u8 (x : Int)]
theorem cells_u8 : Tryd.prog.cellsOf 5 = 1 := by kernel_rfl
theorem cells_rtok : Tryd.prog.cellsOf 43 = 4 := by kernel_rfl
theorem cells_int : Tryd.prog.cellsOf 3 = 1 := by kernel_rfl
theorem cells_str : Tryd.prog.cellsOf 9 = 1 := by kernel_rfl

section
variable {H : Type} {enc : TypeId × Value → H} {w : World} {held : Bool}
theorem open_gaps {A : Option Addr} {len cap : Nat} {d : DataW H} {p : List MemPlace}
    (h : DataW.Trod enc Tryd.prog w 0 (fun _ => true) held 35 (.slice A len cap) d p) :
    ∃ xs : List Nat, xs.length = len ∧ (∀ x ∈ xs, x < 256) ∧ Row w A (xs.flatMap gapCell) ∧ len ≤ maxLen ∧ len ≤ cap :=
  open_typed Tryd.underlying35 (by rw [cells_u8]; decide) gapCell (fun x => x < 256) (fun cs n y hy => by
    obtain ⟨v, rfl, _, hw⟩ := DataW.trod_int Tryd.underlying5 hy
    have hb := bounds_u8 hw
    exact ⟨v.toNat, by omega, by unfold gapCell; rw [Int.toNat_of_nonneg hb.1]⟩) h
theorem open_toks {A : Option Addr} {len cap : Nat} {d : DataW H} {p : List MemPlace}
    (h : DataW.Trod enc Tryd.prog w 0 (fun _ => true) held 27 (.slice A len cap) d p) :
    ∃ xs : List GT, xs.length = len ∧ (∀ x ∈ xs, I64 x.n ∧ x.text.length ≤ maxLen) ∧ Row w A (xs.flatMap gtCells) ∧ len ≤ maxLen ∧ len ≤ cap :=
  open_typed Tryd.underlying27 (by rw [cells_rtok]; decide) gtCells (fun x => I64 x.n ∧ x.text.length ≤ maxLen) (fun cs n y hy => by
    obtain ⟨xs, m, _, _, hl, hxs, hf⟩ := DataW.trod_struct Tryd.underlying43 hy
    rw [cells_rtok] at hl
    have h0 : DataW.trod enc Tryd.prog w 0 (fun _ => true) held m 3 ((cs.drop 0).take (Tryd.prog.cellsOf 3)) = xs[0]? := hf 0 _ rfl
    have h1 : DataW.trod enc Tryd.prog w 0 (fun _ => true) held m 9 ((cs.drop 1).take (Tryd.prog.cellsOf 9)) = xs[1]? := hf 1 _ rfl
    have h2 : DataW.trod enc Tryd.prog w 0 (fun _ => true) held m 3 ((cs.drop 2).take (Tryd.prog.cellsOf 3)) = xs[2]? := hf 2 _ rfl
    have h3 : DataW.trod enc Tryd.prog w 0 (fun _ => true) held m 3 ((cs.drop 3).take (Tryd.prog.cellsOf 3)) = xs[3]? := hf 3 _ rfl
    rw [cells_int] at h0 h2 h3
    rw [cells_str] at h1
    have hxs4 : xs.length = 4 := hxs
    rw [List.getElem?_eq_getElem (by omega)] at h0 h1 h2 h3
    obtain ⟨c0, e0, _, w0⟩ := DataW.trod_int Tryd.underlying3 h0
    obtain ⟨c1, e1, _, w1⟩ := DataW.trod_string Tryd.underlying9 h1
    obtain ⟨c2, e2, _, w2⟩ := DataW.trod_int Tryd.underlying3 h2
    obtain ⟨c3, e3, _, w3⟩ := DataW.trod_int Tryd.underlying3 h3
    clear h0 h1 h2 h3 hf
    obtain ⟨a, b, c, d, rfl⟩ := four hl
    simp only [List.drop_zero, List.take_succ_cons, List.take_zero, List.drop_succ_cons, List.cons.injEq, and_true] at e0 e1 e2 e3
    subst e0 e1 e2 e3
    refine ⟨⟨c0, c1.data.toList, c2, c3⟩, ⟨bounds_i64 w2, ?_⟩, rfl⟩
    rw [size_list]; exact w1) h
end
theorem gap_map (xs : List Nat) : xs.flatMap gapCell = xs.map fun x : Nat => Value.int .u8 (x : Int) := by
  induction xs with
  | nil => rfl
  | cons x r ih => rw [List.flatMap_cons, List.map_cons, ih]; rfl
theorem gap_cells (xs : List Nat) (k : Nat) (h : k < xs.length) : (xs.flatMap gapCell)[k]? = some (.int .u8 (xs[k] : Int)) := by
  rw [gap_map, List.getElem?_map, List.getElem?_eq_getElem h]; rfl
theorem gap_len (xs : List Nat) : (xs.flatMap gapCell).length = xs.length := by rw [gap_map, List.length_map]
end Go.Proofs.YthcfkfehcmkhnaaDoor.LexW
