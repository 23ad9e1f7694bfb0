/- The laws' arguments opened: programs, vectors; the card's condition on the table of powers of ten. Conditions: none. -/
import Derived.Test.YtonpbomjjamphaaGreatDoorOpen
import Derived.Test.YtonpbomjjamphaaGreatDoorNcW2
import Derived.Test.YtonpbomjjamphaaGreatDoorNcI
import Derived.Test.YtonpbomjjamphaaGreatDoorRows
import Derived.OpenShut
import Derived.Lib.SmallJoins
import Derived.MakeChecks
import Derived.Stop.LaidErr
namespace Go.Proofs.YtonpbomjjamphaaGreatDoor.NcW
open Go Go.RowKit Go.Proofs.YtonpbomjjamphaaGreatDoor.Mem Go.WideShapes

theorem three {l : List Value} (h : l.length = 3) : ∃ a b c, l = [a, b, c] := by
  match l, h with
  | [a, b, c], _ => exact ⟨a, b, c, rfl⟩
theorem cells_move : Tryz.prog.cellsOf 53 = 3 := by kernel_rfl
theorem cells_vec : Tryz.prog.cellsOf 36 = 2 := by kernel_rfl
theorem cells_int : Tryz.prog.cellsOf 3 = 1 := by kernel_rfl
theorem i64_of {n : Int} (h : (Lit.int .i64 n).wf = true) : I64 n := bounds_i64 h

theorem i64_both {x y : Int} (h : (Lit.int .i64 x).wf = true ∧ (Lit.int .i64 y).wf = true) : I64 x ∧ I64 y := ⟨i64_of h.1, i64_of h.2⟩

section
variable {H : Type} {enc : TypeId × Value → H} {w : World} {held : Bool}
theorem open_prog {A : Option Addr} {len cap : Nat} {d : DataW H} {p : List MemPlace}
    (h : DataW.Trod enc Tryz.prog w 0 (fun _ => true) held 27 (.slice A len cap) d p) :
    ∃ xs : List Nc.Mv, xs.length = len ∧ (∀ x ∈ xs, True) ∧ Row w A (xs.flatMap mvCells) ∧ len ≤ maxLen ∧ len ≤ cap :=
  open_typed Tryz.underlying27 (by rw [cells_move]; decide) mvCells (fun _ => True) (fun cs n y hy => by
    obtain ⟨xs, m, _, _, hl, hxs, hf⟩ := DataW.trod_struct Tryz.underlying53 hy
    rw [cells_move] at hl
    have h0 : DataW.trod enc Tryz.prog w 0 (fun _ => true) held m 3 ((cs.drop 0).take (Tryz.prog.cellsOf 3)) = xs[0]? := hf 0 _ rfl
    have h1 : DataW.trod enc Tryz.prog w 0 (fun _ => true) held m 36 ((cs.drop 1).take (Tryz.prog.cellsOf 36)) = xs[1]? := hf 1 _ rfl
    rw [cells_int] at h0
    rw [cells_vec] at h1
    have hxs2 : xs.length = 2 := hxs
    rw [List.getElem?_eq_getElem (by omega)] at h0 h1
    obtain ⟨c0, e0, _, w0⟩ := DataW.trod_int Tryz.underlying3 h0
    obtain ⟨ys, n2, _, _, hl2, hys, hg⟩ := DataW.trod_struct Tryz.underlying36 h1
    have g0 : DataW.trod enc Tryz.prog w 0 (fun _ => true) held n2 3 ((((cs.drop 1).take 2).drop 0).take (Tryz.prog.cellsOf 3)) = ys[0]? := hg 0 _ rfl
    have g1 : DataW.trod enc Tryz.prog w 0 (fun _ => true) held n2 3 ((((cs.drop 1).take 2).drop 1).take (Tryz.prog.cellsOf 3)) = ys[1]? := hg 1 _ rfl
    rw [cells_int] at g0 g1
    have hys2 : ys.length = 2 := hys
    rw [List.getElem?_eq_getElem (by omega)] at g0 g1
    obtain ⟨c1, e1, _, w1⟩ := DataW.trod_int Tryz.underlying3 g0
    obtain ⟨c2, e2, _, w2⟩ := DataW.trod_int Tryz.underlying3 g1
    clear h0 h1 hf hg g0 g1
    obtain ⟨a, b, c, rfl⟩ := three hl
    simp only [List.drop_zero, List.take_succ_cons, List.take_zero, List.drop_succ_cons, List.cons.injEq, and_true] at e0 e1 e2
    subst e0 e1 e2
    exact ⟨⟨c0, c1, c2⟩, trivial, rfl⟩) h
set_option maxRecDepth 100000 in
theorem open_vec {r : Reach} {b0 : Nat} {v : Value} {d : DataW H} {p : List MemPlace} (hv : Value.okWide Tryz.prog w r b0 36 v) (h : DataW.Trod enc Tryz.prog w 0 (fun _ => true) held 36 v d p) :
    ∃ x y : Int, v = .agg #[.int .i64 x, .int .i64 y] ∧ d = .agg [.lit (.int .i64 x), .lit (.int .i64 y)] ∧ p = [] ∧ (Lit.int .i64 x).wf = true ∧ (Lit.int .i64 y).wf = true := by
  obtain ⟨c0, c1, y0, y1, m, rfl, rfl, rfl, hy0, hy1⟩ := Go.Joins.open_agg2 Tryz.underlying36 (by kernel_rfl) cells_vec hv h
  obtain ⟨a, e0, rfl, wa⟩ := DataW.trod_int Tryz.underlying3 hy0
  obtain ⟨b, e1, rfl, wb⟩ := DataW.trod_int Tryz.underlying3 hy1
  simp at e0 e1
  subst e0 e1
  exact ⟨a, b, rfl, rfl, rfl, wa, wb⟩
set_option maxRecDepth 100000 in
theorem shut_vec {base : Nat} {sp : Nat → Bool} {x y : Int} (h : (Lit.int .i64 x).wf = true ∧ (Lit.int .i64 y).wf = true) : DataW.Trod enc Tryz.prog w base sp held 36 (.agg #[.int .i64 x, .int .i64 y]) (.agg [.lit (.int .i64 x), .lit (.int .i64 y)]) [] :=
  Go.Joins.shut_agg2 (y0 := (.lit (.int .i64 x), [])) (y1 := (.lit (.int .i64 y), [])) Tryz.underlying36 (by kernel_rfl) cells_vec ⟨1, by simp [DataW.trod, Tryz.underlying3, h.1]⟩ ⟨1, by simp [DataW.trod, Tryz.underlying3, h.2]⟩
end

theorem var?_lt {P : Program} {W : World} {n : String} {g : Nat} {cs : Array Value} (hg : P.globalNamed n = some g) (h : W.var? P n = some cs) : g < W.heap.size := by
  unfold World.var? at h
  rw [hg] at h
  by_cases hl : g < W.heap.size
  · exact hl
  · simp only [Option.bind_some, Array.getElem?_eq_none (Nat.le_of_not_lt hl)] at h
    cases h
end Go.Proofs.YtonpbomjjamphaaGreatDoor.NcW
