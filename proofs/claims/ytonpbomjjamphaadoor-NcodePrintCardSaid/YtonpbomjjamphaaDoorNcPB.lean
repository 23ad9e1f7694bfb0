/- Walks: Print and Summary of programs, valid or not, by the program and the reference. Conditions: the program lies in memory; the library's table holds what its text lays. -/
import Derived.Test.YtonpbomjjamphaaDoorNcRS
import Derived.Test.YtonpbomjjamphaaDoorNcR3
import Derived.Test.YtonpbomjjamphaaDoorNcW8
namespace Go.Proofs.YtonpbomjjamphaaDoor.NcW
open Go Go.RowKit Go.Proofs.YtonpbomjjamphaaDoor.Mem

def statZ : Value := .agg #[.int .i64 0, .int .i64 0, .int .i64 0, .int .i64 0, .int .i64 0, .int .i64 0, .int .i64 0, .int .i64 0, .bool false]
def prR (l : List Nc.Mv) : List UInt8 × Int := if Nc.valid l then (Nc.print l, 0) else ([], 1)
def suR (l : List Nc.Mv) : Value × Int := if Nc.valid l then (statV (Nc.run l), 0) else (statZ, 1)

theorem print_both (l : List Nc.Mv) (A : Option Addr) (c : Nat) (w : World) (hL : Laid w) (hr : Row w A (l.flatMap mvCells)) (hl : l.length ≤ 1000000) :
    Calls Tryd.prog 21 #[.slice A l.length c] w fun e w' => e = .returned (.tuple #[.string ⟨(prR l).1.toArray⟩, .int .i64 (prR l).2]) ∧ Below w.heap.size w w' := by
  unfold prR
  cases hv : Nc.valid l
  · have HV := Lib.hid (valid_any l A c w hr hl)
    rw [hv] at HV
    simp only [Bool.false_eq_true, if_false]
    clear hv hr hL
    go_enter Tryd.func21, Tryd.ntmps21
    go_wp2_with fail
    refine HV.out.mono ?_
    rintro e w1 ⟨rfl, hb⟩
    go_wp2
    go_ret2
    exact ⟨rfl, hb⟩
  · simp only [if_true]
    exact print_any l A c w hL hr hv
theorem rprint_both (l : List Nc.Mv) (A : Option Addr) (c : Nat) (w : World) (hr : Row w A (l.flatMap mvCells)) (hl : l.length ≤ 1000000) :
    Calls Tryd.prog 22 #[.slice A l.length c] w fun e w' => e = .returned (.tuple #[.string ⟨(prR l).1.toArray⟩, .int .i64 (prR l).2]) ∧ Below w.heap.size w w' := by
  unfold prR
  cases hv : Nc.valid l
  · have HV := Lib.hid (rvalid_any l A c w hr hl)
    rw [hv] at HV
    simp only [Bool.false_eq_true, if_false]
    clear hv hr
    go_enter Tryd.func22, Tryd.ntmps22
    go_wp2_with fail
    refine HV.out.mono ?_
    rintro e w1 ⟨rfl, hb⟩
    go_wp2
    go_ret2
    exact ⟨rfl, hb⟩
  · simp only [if_true]
    exact rprint_any l A c w hr hv
set_option maxRecDepth 100000 in
theorem summary_both (l : List Nc.Mv) (A : Option Addr) (c : Nat) (w : World) (hr : Row w A (l.flatMap mvCells)) (hl : l.length ≤ 1000000) :
    Calls Tryd.prog 14 #[.slice A l.length c] w fun e w' => e = .returned (.tuple #[(suR l).1, .int .i64 (suR l).2]) ∧ Below w.heap.size w w' := by
  unfold suR
  cases hv : Nc.valid l
  · have hr0 : Row (w.alloc (.cells #[.int .i64 0, .int .i64 0, .int .i64 0, .int .i64 0, .int .i64 0, .int .i64 0, .int .i64 0, .int .i64 0, .bool false] 36)) A (l.flatMap mvCells) := hr.below ((Below.refl _ _).alloc (Nat.le_refl _) _)
    have HV := Lib.hid (valid_any l A c _ hr0 hl)
    rw [hv] at HV
    simp only [Bool.false_eq_true, if_false]
    clear hv hr hr0
    go_enter Tryd.func14, Tryd.ntmps14
    go_wp2_with fail
    refine HV.out.mono ?_
    rintro e w1 ⟨rfl, hb⟩
    have hR := (hb.block _ (by simp)).trans (heap_alloc_new w (.cells #[.int .i64 0, .int .i64 0, .int .i64 0, .int .i64 0, .int .i64 0, .int .i64 0, .int .i64 0, .int .i64 0, .bool false] 36))
    have hbe : Below w.heap.size w w1 := ((Below.refl _ _).alloc (Nat.le_refl _) _).trans (hb.mono (by simp))
    have hrz := block_lt hR
    have HR := Lib.hid hR
    have HE := Lib.hid hbe
    clear hR hb hbe
    have r0 : w1.cell? ⟨w.heap.size, 0, none⟩ = some (.int .i64 0) := by rw [Lib.cell_of_heap HR.out]; rfl
    have g0 : w1.frozen? ⟨w.heap.size, 0, none⟩ = false := Lib.frozen_of_heap HR.out 0
    have r1 : w1.cell? ⟨w.heap.size, 1, none⟩ = some (.int .i64 0) := by rw [Lib.cell_of_heap HR.out]; rfl
    have g1 : w1.frozen? ⟨w.heap.size, 1, none⟩ = false := Lib.frozen_of_heap HR.out 1
    have r2 : w1.cell? ⟨w.heap.size, 2, none⟩ = some (.int .i64 0) := by rw [Lib.cell_of_heap HR.out]; rfl
    have g2 : w1.frozen? ⟨w.heap.size, 2, none⟩ = false := Lib.frozen_of_heap HR.out 2
    have r3 : w1.cell? ⟨w.heap.size, 3, none⟩ = some (.int .i64 0) := by rw [Lib.cell_of_heap HR.out]; rfl
    have g3 : w1.frozen? ⟨w.heap.size, 3, none⟩ = false := Lib.frozen_of_heap HR.out 3
    have r4 : w1.cell? ⟨w.heap.size, 4, none⟩ = some (.int .i64 0) := by rw [Lib.cell_of_heap HR.out]; rfl
    have g4 : w1.frozen? ⟨w.heap.size, 4, none⟩ = false := Lib.frozen_of_heap HR.out 4
    have r5 : w1.cell? ⟨w.heap.size, 5, none⟩ = some (.int .i64 0) := by rw [Lib.cell_of_heap HR.out]; rfl
    have g5 : w1.frozen? ⟨w.heap.size, 5, none⟩ = false := Lib.frozen_of_heap HR.out 5
    have r6 : w1.cell? ⟨w.heap.size, 6, none⟩ = some (.int .i64 0) := by rw [Lib.cell_of_heap HR.out]; rfl
    have g6 : w1.frozen? ⟨w.heap.size, 6, none⟩ = false := Lib.frozen_of_heap HR.out 6
    have r7 : w1.cell? ⟨w.heap.size, 7, none⟩ = some (.int .i64 0) := by rw [Lib.cell_of_heap HR.out]; rfl
    have g7 : w1.frozen? ⟨w.heap.size, 7, none⟩ = false := Lib.frozen_of_heap HR.out 7
    have r8 : w1.cell? ⟨w.heap.size, 8, none⟩ = some (.bool false) := by rw [Lib.cell_of_heap HR.out]; rfl
    have g8 : w1.frozen? ⟨w.heap.size, 8, none⟩ = false := Lib.frozen_of_heap HR.out 8
    go_wp2
    have hR0 : (w1.setCell ⟨w.heap.size, 0, none⟩ (.int .i64 0)).heap[w.heap.size]? = some (.cells #[.int .i64 0, .int .i64 0, .int .i64 0, .int .i64 0, .int .i64 0, .int .i64 0, .int .i64 0, .int .i64 0, .bool false] 36 (0, 0)) := block_set HR.out 0 (.int .i64 0)
    have hR1 : ((w1.setCell ⟨w.heap.size, 0, none⟩ (.int .i64 0)).setCell ⟨w.heap.size, 1, none⟩ (.int .i64 0)).heap[w.heap.size]? = some (.cells #[.int .i64 0, .int .i64 0, .int .i64 0, .int .i64 0, .int .i64 0, .int .i64 0, .int .i64 0, .int .i64 0, .bool false] 36 (0, 0)) := block_set hR0 1 (.int .i64 0)
    have hR2 : (((w1.setCell ⟨w.heap.size, 0, none⟩ (.int .i64 0)).setCell ⟨w.heap.size, 1, none⟩ (.int .i64 0)).setCell ⟨w.heap.size, 2, none⟩ (.int .i64 0)).heap[w.heap.size]? = some (.cells #[.int .i64 0, .int .i64 0, .int .i64 0, .int .i64 0, .int .i64 0, .int .i64 0, .int .i64 0, .int .i64 0, .bool false] 36 (0, 0)) := block_set hR1 2 (.int .i64 0)
    have hR3 : ((((w1.setCell ⟨w.heap.size, 0, none⟩ (.int .i64 0)).setCell ⟨w.heap.size, 1, none⟩ (.int .i64 0)).setCell ⟨w.heap.size, 2, none⟩ (.int .i64 0)).setCell ⟨w.heap.size, 3, none⟩ (.int .i64 0)).heap[w.heap.size]? = some (.cells #[.int .i64 0, .int .i64 0, .int .i64 0, .int .i64 0, .int .i64 0, .int .i64 0, .int .i64 0, .int .i64 0, .bool false] 36 (0, 0)) := block_set hR2 3 (.int .i64 0)
    have hR4 : (((((w1.setCell ⟨w.heap.size, 0, none⟩ (.int .i64 0)).setCell ⟨w.heap.size, 1, none⟩ (.int .i64 0)).setCell ⟨w.heap.size, 2, none⟩ (.int .i64 0)).setCell ⟨w.heap.size, 3, none⟩ (.int .i64 0)).setCell ⟨w.heap.size, 4, none⟩ (.int .i64 0)).heap[w.heap.size]? = some (.cells #[.int .i64 0, .int .i64 0, .int .i64 0, .int .i64 0, .int .i64 0, .int .i64 0, .int .i64 0, .int .i64 0, .bool false] 36 (0, 0)) := block_set hR3 4 (.int .i64 0)
    have hR5 : ((((((w1.setCell ⟨w.heap.size, 0, none⟩ (.int .i64 0)).setCell ⟨w.heap.size, 1, none⟩ (.int .i64 0)).setCell ⟨w.heap.size, 2, none⟩ (.int .i64 0)).setCell ⟨w.heap.size, 3, none⟩ (.int .i64 0)).setCell ⟨w.heap.size, 4, none⟩ (.int .i64 0)).setCell ⟨w.heap.size, 5, none⟩ (.int .i64 0)).heap[w.heap.size]? = some (.cells #[.int .i64 0, .int .i64 0, .int .i64 0, .int .i64 0, .int .i64 0, .int .i64 0, .int .i64 0, .int .i64 0, .bool false] 36 (0, 0)) := block_set hR4 5 (.int .i64 0)
    have hR6 : (((((((w1.setCell ⟨w.heap.size, 0, none⟩ (.int .i64 0)).setCell ⟨w.heap.size, 1, none⟩ (.int .i64 0)).setCell ⟨w.heap.size, 2, none⟩ (.int .i64 0)).setCell ⟨w.heap.size, 3, none⟩ (.int .i64 0)).setCell ⟨w.heap.size, 4, none⟩ (.int .i64 0)).setCell ⟨w.heap.size, 5, none⟩ (.int .i64 0)).setCell ⟨w.heap.size, 6, none⟩ (.int .i64 0)).heap[w.heap.size]? = some (.cells #[.int .i64 0, .int .i64 0, .int .i64 0, .int .i64 0, .int .i64 0, .int .i64 0, .int .i64 0, .int .i64 0, .bool false] 36 (0, 0)) := block_set hR5 6 (.int .i64 0)
    have hR7 : ((((((((w1.setCell ⟨w.heap.size, 0, none⟩ (.int .i64 0)).setCell ⟨w.heap.size, 1, none⟩ (.int .i64 0)).setCell ⟨w.heap.size, 2, none⟩ (.int .i64 0)).setCell ⟨w.heap.size, 3, none⟩ (.int .i64 0)).setCell ⟨w.heap.size, 4, none⟩ (.int .i64 0)).setCell ⟨w.heap.size, 5, none⟩ (.int .i64 0)).setCell ⟨w.heap.size, 6, none⟩ (.int .i64 0)).setCell ⟨w.heap.size, 7, none⟩ (.int .i64 0)).heap[w.heap.size]? = some (.cells #[.int .i64 0, .int .i64 0, .int .i64 0, .int .i64 0, .int .i64 0, .int .i64 0, .int .i64 0, .int .i64 0, .bool false] 36 (0, 0)) := block_set hR6 7 (.int .i64 0)
    have hR8 : (((((((((w1.setCell ⟨w.heap.size, 0, none⟩ (.int .i64 0)).setCell ⟨w.heap.size, 1, none⟩ (.int .i64 0)).setCell ⟨w.heap.size, 2, none⟩ (.int .i64 0)).setCell ⟨w.heap.size, 3, none⟩ (.int .i64 0)).setCell ⟨w.heap.size, 4, none⟩ (.int .i64 0)).setCell ⟨w.heap.size, 5, none⟩ (.int .i64 0)).setCell ⟨w.heap.size, 6, none⟩ (.int .i64 0)).setCell ⟨w.heap.size, 7, none⟩ (.int .i64 0)).setCell ⟨w.heap.size, 8, none⟩ (.bool false)).heap[w.heap.size]? = some (.cells #[.int .i64 0, .int .i64 0, .int .i64 0, .int .i64 0, .int .i64 0, .int .i64 0, .int .i64 0, .int .i64 0, .bool false] 36 (0, 0)) := block_set hR7 8 (.bool false)
    have hR9 := hR8
    have hE9 := (((((((((HE.out.setCell (p := ⟨w.heap.size, 0, none⟩) (by simp) (.int .i64 0)).setCell (p := ⟨w.heap.size, 1, none⟩) (by simp) (.int .i64 0)).setCell (p := ⟨w.heap.size, 2, none⟩) (by simp) (.int .i64 0)).setCell (p := ⟨w.heap.size, 3, none⟩) (by simp) (.int .i64 0)).setCell (p := ⟨w.heap.size, 4, none⟩) (by simp) (.int .i64 0)).setCell (p := ⟨w.heap.size, 5, none⟩) (by simp) (.int .i64 0)).setCell (p := ⟨w.heap.size, 6, none⟩) (by simp) (.int .i64 0)).setCell (p := ⟨w.heap.size, 7, none⟩) (by simp) (.int .i64 0)).setCell (p := ⟨w.heap.size, 8, none⟩) (by simp) (.bool false))
    clear hR0 hR1 hR2 hR3 hR4 hR5 hR6 hR7 hR8
    generalize (((((((((w1.setCell ⟨w.heap.size, 0, none⟩ (.int .i64 0)).setCell ⟨w.heap.size, 1, none⟩ (.int .i64 0)).setCell ⟨w.heap.size, 2, none⟩ (.int .i64 0)).setCell ⟨w.heap.size, 3, none⟩ (.int .i64 0)).setCell ⟨w.heap.size, 4, none⟩ (.int .i64 0)).setCell ⟨w.heap.size, 5, none⟩ (.int .i64 0)).setCell ⟨w.heap.size, 6, none⟩ (.int .i64 0)).setCell ⟨w.heap.size, 7, none⟩ (.int .i64 0)).setCell ⟨w.heap.size, 8, none⟩ (.bool false)) = W8 at *
    have s0 : W8.cell? ⟨w.heap.size, 0, none⟩ = some (.int .i64 0) := by rw [Lib.cell_of_heap hR9]; rfl
    have s1 : W8.cell? ⟨w.heap.size, 1, none⟩ = some (.int .i64 0) := by rw [Lib.cell_of_heap hR9]; rfl
    have s2 : W8.cell? ⟨w.heap.size, 2, none⟩ = some (.int .i64 0) := by rw [Lib.cell_of_heap hR9]; rfl
    have s3 : W8.cell? ⟨w.heap.size, 3, none⟩ = some (.int .i64 0) := by rw [Lib.cell_of_heap hR9]; rfl
    have s4 : W8.cell? ⟨w.heap.size, 4, none⟩ = some (.int .i64 0) := by rw [Lib.cell_of_heap hR9]; rfl
    have s5 : W8.cell? ⟨w.heap.size, 5, none⟩ = some (.int .i64 0) := by rw [Lib.cell_of_heap hR9]; rfl
    have s6 : W8.cell? ⟨w.heap.size, 6, none⟩ = some (.int .i64 0) := by rw [Lib.cell_of_heap hR9]; rfl
    have s7 : W8.cell? ⟨w.heap.size, 7, none⟩ = some (.int .i64 0) := by rw [Lib.cell_of_heap hR9]; rfl
    have s8 : W8.cell? ⟨w.heap.size, 8, none⟩ = some (.bool false) := by rw [Lib.cell_of_heap hR9]; rfl
    exact bodyPost_ret (v := .tuple #[.agg #[.int .i64 0, .int .i64 0, .int .i64 0, .int .i64 0, .int .i64 0, .int .i64 0, .int .i64 0, .int .i64 0, .bool false], .int .i64 1]) (by simp [results, Tryd.results14, go_sem, s0, s1, s2, s3, s4, s5, s6, s7, s8]) rfl ⟨rfl, hE9⟩
  · simp only [if_true]
    exact summary_any l A c w hr hv
set_option maxRecDepth 100000 in
theorem rsummary_both (l : List Nc.Mv) (A : Option Addr) (c : Nat) (w : World) (hr : Row w A (l.flatMap mvCells)) (hl : l.length ≤ 1000000) :
    Calls Tryd.prog 23 #[.slice A l.length c] w fun e w' => e = .returned (.tuple #[(suR l).1, .int .i64 (suR l).2]) ∧ Below w.heap.size w w' := by
  unfold suR
  cases hv : Nc.valid l
  · have hr0 : Row (w.alloc (.cells #[.int .i64 0, .int .i64 0, .int .i64 0, .int .i64 0, .int .i64 0, .int .i64 0, .int .i64 0, .int .i64 0, .bool false] 53)) A (l.flatMap mvCells) := hr.below ((Below.refl _ _).alloc (Nat.le_refl _) _)
    have HV := Lib.hid (rvalid_any l A c _ hr0 hl)
    rw [hv] at HV
    simp only [Bool.false_eq_true, if_false]
    clear hv hr hr0
    go_enter Tryd.func23, Tryd.ntmps23
    go_wp2_with fail
    refine HV.out.mono ?_
    rintro e w1 ⟨rfl, hb⟩
    have hR := (hb.block _ (by simp)).trans (heap_alloc_new w (.cells #[.int .i64 0, .int .i64 0, .int .i64 0, .int .i64 0, .int .i64 0, .int .i64 0, .int .i64 0, .int .i64 0, .bool false] 53))
    have hbe : Below w.heap.size w w1 := ((Below.refl _ _).alloc (Nat.le_refl _) _).trans (hb.mono (by simp))
    have hrz := block_lt hR
    have HR := Lib.hid hR
    have HE := Lib.hid hbe
    clear hR hb hbe
    have r0 : w1.cell? ⟨w.heap.size, 0, none⟩ = some (.int .i64 0) := by rw [Lib.cell_of_heap HR.out]; rfl
    have g0 : w1.frozen? ⟨w.heap.size, 0, none⟩ = false := Lib.frozen_of_heap HR.out 0
    have r1 : w1.cell? ⟨w.heap.size, 1, none⟩ = some (.int .i64 0) := by rw [Lib.cell_of_heap HR.out]; rfl
    have g1 : w1.frozen? ⟨w.heap.size, 1, none⟩ = false := Lib.frozen_of_heap HR.out 1
    have r2 : w1.cell? ⟨w.heap.size, 2, none⟩ = some (.int .i64 0) := by rw [Lib.cell_of_heap HR.out]; rfl
    have g2 : w1.frozen? ⟨w.heap.size, 2, none⟩ = false := Lib.frozen_of_heap HR.out 2
    have r3 : w1.cell? ⟨w.heap.size, 3, none⟩ = some (.int .i64 0) := by rw [Lib.cell_of_heap HR.out]; rfl
    have g3 : w1.frozen? ⟨w.heap.size, 3, none⟩ = false := Lib.frozen_of_heap HR.out 3
    have r4 : w1.cell? ⟨w.heap.size, 4, none⟩ = some (.int .i64 0) := by rw [Lib.cell_of_heap HR.out]; rfl
    have g4 : w1.frozen? ⟨w.heap.size, 4, none⟩ = false := Lib.frozen_of_heap HR.out 4
    have r5 : w1.cell? ⟨w.heap.size, 5, none⟩ = some (.int .i64 0) := by rw [Lib.cell_of_heap HR.out]; rfl
    have g5 : w1.frozen? ⟨w.heap.size, 5, none⟩ = false := Lib.frozen_of_heap HR.out 5
    have r6 : w1.cell? ⟨w.heap.size, 6, none⟩ = some (.int .i64 0) := by rw [Lib.cell_of_heap HR.out]; rfl
    have g6 : w1.frozen? ⟨w.heap.size, 6, none⟩ = false := Lib.frozen_of_heap HR.out 6
    have r7 : w1.cell? ⟨w.heap.size, 7, none⟩ = some (.int .i64 0) := by rw [Lib.cell_of_heap HR.out]; rfl
    have g7 : w1.frozen? ⟨w.heap.size, 7, none⟩ = false := Lib.frozen_of_heap HR.out 7
    have r8 : w1.cell? ⟨w.heap.size, 8, none⟩ = some (.bool false) := by rw [Lib.cell_of_heap HR.out]; rfl
    have g8 : w1.frozen? ⟨w.heap.size, 8, none⟩ = false := Lib.frozen_of_heap HR.out 8
    go_wp2
    have hR0 : (w1.setCell ⟨w.heap.size, 0, none⟩ (.int .i64 0)).heap[w.heap.size]? = some (.cells #[.int .i64 0, .int .i64 0, .int .i64 0, .int .i64 0, .int .i64 0, .int .i64 0, .int .i64 0, .int .i64 0, .bool false] 53 (0, 0)) := block_set HR.out 0 (.int .i64 0)
    have hR1 : ((w1.setCell ⟨w.heap.size, 0, none⟩ (.int .i64 0)).setCell ⟨w.heap.size, 1, none⟩ (.int .i64 0)).heap[w.heap.size]? = some (.cells #[.int .i64 0, .int .i64 0, .int .i64 0, .int .i64 0, .int .i64 0, .int .i64 0, .int .i64 0, .int .i64 0, .bool false] 53 (0, 0)) := block_set hR0 1 (.int .i64 0)
    have hR2 : (((w1.setCell ⟨w.heap.size, 0, none⟩ (.int .i64 0)).setCell ⟨w.heap.size, 1, none⟩ (.int .i64 0)).setCell ⟨w.heap.size, 2, none⟩ (.int .i64 0)).heap[w.heap.size]? = some (.cells #[.int .i64 0, .int .i64 0, .int .i64 0, .int .i64 0, .int .i64 0, .int .i64 0, .int .i64 0, .int .i64 0, .bool false] 53 (0, 0)) := block_set hR1 2 (.int .i64 0)
    have hR3 : ((((w1.setCell ⟨w.heap.size, 0, none⟩ (.int .i64 0)).setCell ⟨w.heap.size, 1, none⟩ (.int .i64 0)).setCell ⟨w.heap.size, 2, none⟩ (.int .i64 0)).setCell ⟨w.heap.size, 3, none⟩ (.int .i64 0)).heap[w.heap.size]? = some (.cells #[.int .i64 0, .int .i64 0, .int .i64 0, .int .i64 0, .int .i64 0, .int .i64 0, .int .i64 0, .int .i64 0, .bool false] 53 (0, 0)) := block_set hR2 3 (.int .i64 0)
    have hR4 : (((((w1.setCell ⟨w.heap.size, 0, none⟩ (.int .i64 0)).setCell ⟨w.heap.size, 1, none⟩ (.int .i64 0)).setCell ⟨w.heap.size, 2, none⟩ (.int .i64 0)).setCell ⟨w.heap.size, 3, none⟩ (.int .i64 0)).setCell ⟨w.heap.size, 4, none⟩ (.int .i64 0)).heap[w.heap.size]? = some (.cells #[.int .i64 0, .int .i64 0, .int .i64 0, .int .i64 0, .int .i64 0, .int .i64 0, .int .i64 0, .int .i64 0, .bool false] 53 (0, 0)) := block_set hR3 4 (.int .i64 0)
    have hR5 : ((((((w1.setCell ⟨w.heap.size, 0, none⟩ (.int .i64 0)).setCell ⟨w.heap.size, 1, none⟩ (.int .i64 0)).setCell ⟨w.heap.size, 2, none⟩ (.int .i64 0)).setCell ⟨w.heap.size, 3, none⟩ (.int .i64 0)).setCell ⟨w.heap.size, 4, none⟩ (.int .i64 0)).setCell ⟨w.heap.size, 5, none⟩ (.int .i64 0)).heap[w.heap.size]? = some (.cells #[.int .i64 0, .int .i64 0, .int .i64 0, .int .i64 0, .int .i64 0, .int .i64 0, .int .i64 0, .int .i64 0, .bool false] 53 (0, 0)) := block_set hR4 5 (.int .i64 0)
    have hR6 : (((((((w1.setCell ⟨w.heap.size, 0, none⟩ (.int .i64 0)).setCell ⟨w.heap.size, 1, none⟩ (.int .i64 0)).setCell ⟨w.heap.size, 2, none⟩ (.int .i64 0)).setCell ⟨w.heap.size, 3, none⟩ (.int .i64 0)).setCell ⟨w.heap.size, 4, none⟩ (.int .i64 0)).setCell ⟨w.heap.size, 5, none⟩ (.int .i64 0)).setCell ⟨w.heap.size, 6, none⟩ (.int .i64 0)).heap[w.heap.size]? = some (.cells #[.int .i64 0, .int .i64 0, .int .i64 0, .int .i64 0, .int .i64 0, .int .i64 0, .int .i64 0, .int .i64 0, .bool false] 53 (0, 0)) := block_set hR5 6 (.int .i64 0)
    have hR7 : ((((((((w1.setCell ⟨w.heap.size, 0, none⟩ (.int .i64 0)).setCell ⟨w.heap.size, 1, none⟩ (.int .i64 0)).setCell ⟨w.heap.size, 2, none⟩ (.int .i64 0)).setCell ⟨w.heap.size, 3, none⟩ (.int .i64 0)).setCell ⟨w.heap.size, 4, none⟩ (.int .i64 0)).setCell ⟨w.heap.size, 5, none⟩ (.int .i64 0)).setCell ⟨w.heap.size, 6, none⟩ (.int .i64 0)).setCell ⟨w.heap.size, 7, none⟩ (.int .i64 0)).heap[w.heap.size]? = some (.cells #[.int .i64 0, .int .i64 0, .int .i64 0, .int .i64 0, .int .i64 0, .int .i64 0, .int .i64 0, .int .i64 0, .bool false] 53 (0, 0)) := block_set hR6 7 (.int .i64 0)
    have hR8 : (((((((((w1.setCell ⟨w.heap.size, 0, none⟩ (.int .i64 0)).setCell ⟨w.heap.size, 1, none⟩ (.int .i64 0)).setCell ⟨w.heap.size, 2, none⟩ (.int .i64 0)).setCell ⟨w.heap.size, 3, none⟩ (.int .i64 0)).setCell ⟨w.heap.size, 4, none⟩ (.int .i64 0)).setCell ⟨w.heap.size, 5, none⟩ (.int .i64 0)).setCell ⟨w.heap.size, 6, none⟩ (.int .i64 0)).setCell ⟨w.heap.size, 7, none⟩ (.int .i64 0)).setCell ⟨w.heap.size, 8, none⟩ (.bool false)).heap[w.heap.size]? = some (.cells #[.int .i64 0, .int .i64 0, .int .i64 0, .int .i64 0, .int .i64 0, .int .i64 0, .int .i64 0, .int .i64 0, .bool false] 53 (0, 0)) := block_set hR7 8 (.bool false)
    have hR9 := hR8
    have hE9 := (((((((((HE.out.setCell (p := ⟨w.heap.size, 0, none⟩) (by simp) (.int .i64 0)).setCell (p := ⟨w.heap.size, 1, none⟩) (by simp) (.int .i64 0)).setCell (p := ⟨w.heap.size, 2, none⟩) (by simp) (.int .i64 0)).setCell (p := ⟨w.heap.size, 3, none⟩) (by simp) (.int .i64 0)).setCell (p := ⟨w.heap.size, 4, none⟩) (by simp) (.int .i64 0)).setCell (p := ⟨w.heap.size, 5, none⟩) (by simp) (.int .i64 0)).setCell (p := ⟨w.heap.size, 6, none⟩) (by simp) (.int .i64 0)).setCell (p := ⟨w.heap.size, 7, none⟩) (by simp) (.int .i64 0)).setCell (p := ⟨w.heap.size, 8, none⟩) (by simp) (.bool false))
    clear hR0 hR1 hR2 hR3 hR4 hR5 hR6 hR7 hR8
    generalize (((((((((w1.setCell ⟨w.heap.size, 0, none⟩ (.int .i64 0)).setCell ⟨w.heap.size, 1, none⟩ (.int .i64 0)).setCell ⟨w.heap.size, 2, none⟩ (.int .i64 0)).setCell ⟨w.heap.size, 3, none⟩ (.int .i64 0)).setCell ⟨w.heap.size, 4, none⟩ (.int .i64 0)).setCell ⟨w.heap.size, 5, none⟩ (.int .i64 0)).setCell ⟨w.heap.size, 6, none⟩ (.int .i64 0)).setCell ⟨w.heap.size, 7, none⟩ (.int .i64 0)).setCell ⟨w.heap.size, 8, none⟩ (.bool false)) = W8 at *
    have s0 : W8.cell? ⟨w.heap.size, 0, none⟩ = some (.int .i64 0) := by rw [Lib.cell_of_heap hR9]; rfl
    have s1 : W8.cell? ⟨w.heap.size, 1, none⟩ = some (.int .i64 0) := by rw [Lib.cell_of_heap hR9]; rfl
    have s2 : W8.cell? ⟨w.heap.size, 2, none⟩ = some (.int .i64 0) := by rw [Lib.cell_of_heap hR9]; rfl
    have s3 : W8.cell? ⟨w.heap.size, 3, none⟩ = some (.int .i64 0) := by rw [Lib.cell_of_heap hR9]; rfl
    have s4 : W8.cell? ⟨w.heap.size, 4, none⟩ = some (.int .i64 0) := by rw [Lib.cell_of_heap hR9]; rfl
    have s5 : W8.cell? ⟨w.heap.size, 5, none⟩ = some (.int .i64 0) := by rw [Lib.cell_of_heap hR9]; rfl
    have s6 : W8.cell? ⟨w.heap.size, 6, none⟩ = some (.int .i64 0) := by rw [Lib.cell_of_heap hR9]; rfl
    have s7 : W8.cell? ⟨w.heap.size, 7, none⟩ = some (.int .i64 0) := by rw [Lib.cell_of_heap hR9]; rfl
    have s8 : W8.cell? ⟨w.heap.size, 8, none⟩ = some (.bool false) := by rw [Lib.cell_of_heap hR9]; rfl
    exact bodyPost_ret (v := .tuple #[.agg #[.int .i64 0, .int .i64 0, .int .i64 0, .int .i64 0, .int .i64 0, .int .i64 0, .int .i64 0, .int .i64 0, .bool false], .int .i64 1]) (by simp [results, Tryd.results23, go_sem, s0, s1, s2, s3, s4, s5, s6, s7, s8]) rfl ⟨rfl, hE9⟩
  · simp only [if_true]
    exact rsummary_any l A c w hr hv
theorem suR_cells (l : List Nc.Mv) : ∃ (a b c d e f g h : Int) (k : Bool) (j : Int), suR l = (.agg #[.int .i64 a, .int .i64 b, .int .i64 c, .int .i64 d, .int .i64 e, .int .i64 f, .int .i64 g, .int .i64 h, .bool k], j) := by
  unfold suR
  split
  · exact ⟨_, _, _, _, _, _, _, _, _, _, rfl⟩
  · exact ⟨_, _, _, _, _, _, _, _, _, _, rfl⟩
theorem few_is (l : List Nc.Mv) (A : Option Addr) (c : Nat) (w : World) : Calls Tryd.prog 18 #[.slice A l.length c] w (Returns w (.bool (Nc.few l))) := by
  have e : Nc.few l = (decide ((l.length : Int) ≤ 60) || (decide ((2000 : Int) ≤ (l.length : Int)) && decide ((l.length : Int) ≤ 2002))) := by
    unfold Nc.few
    rw [Bool.eq_iff_iff]
    simp
    omega
  rw [e]
  clear e
  rcases (show (l.length : Int) ≤ 60 ∨ (60 < (l.length : Int) ∧ (l.length : Int) < 2000) ∨ (2000 ≤ (l.length : Int) ∧ (l.length : Int) ≤ 2002) ∨ 2002 < (l.length : Int) by omega) with h | h | h | h
  all_goals
    go_enter Tryd.func18, Tryd.ntmps18
    go_wp2
    go_ret
    refine ⟨ret_bool ?_, rfl⟩
    rw [Bool.eq_iff_iff]
    simp
    omega
end Go.Proofs.YtonpbomjjamphaaDoor.NcW
