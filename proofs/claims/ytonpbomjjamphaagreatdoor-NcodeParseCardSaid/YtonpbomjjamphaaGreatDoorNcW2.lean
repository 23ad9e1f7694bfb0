/- Walks: a valid move; a valid program, by the program. Conditions: none. -/
import Derived.Test.YtonpbomjjamphaaGreatDoorNcW1
import Derived.Test.YtonpbomjjamphaaGreatDoorRowK
namespace Go.Proofs.YtonpbomjjamphaaGreatDoor.NcW
open Go Go.RowKit Go.Proofs.YtonpbomjjamphaaGreatDoor.Mem

def mvCells (m : Nc.Mv) : List Value := [.int .i64 m.k, .int .i64 m.x, .int .i64 m.y]
theorem mv_len (m : Nc.Mv) : (mvCells m).length = 3 := rfl

theorem vec_eq (x y : Int) (w : World) : (binOp .eql 36 (.agg #[.int .i64 x, .int .i64 y]) (.agg #[.int .i64 0, .int .i64 0])).run Tryz.prog w = .ok (.bool ((x == 0) && (y == 0))) w := by
  have u3 := Tryz.underlying3
  have a3 := Tryz.isAgg3
  have z3 := Tryz.sizeOf3
  have hS : Tryz.prog.underlying 36 = some (.struct (Tryz.prog.fieldsOf 36)) := by kernel_rfl
  have hp : Tryz.prog.stoodInHeld 36 = false := by kernel_rfl
  rw [run_eql_struct, show (10000 : Nat) = 9999 + 1 from rfl, run_equalIn_agg w 9999 36 _ _ hS hp]
  simp only [Program.fieldsOf, Tryz.underlying36]
  go_simp
  by_cases h1 : x = 0 <;> by_cases h2 : y = 0 <;> simp [h1, h2]
theorem vec_neq (x y : Int) (w : World) : (binOp .neq 36 (.agg #[.int .i64 x, .int .i64 y]) (.agg #[.int .i64 0, .int .i64 0])).run Tryz.prog w = .ok (.bool (!((x == 0) && (y == 0)))) w := by
  have u3 := Tryz.underlying3
  have a3 := Tryz.isAgg3
  have z3 := Tryz.sizeOf3
  have hS : Tryz.prog.underlying 36 = some (.struct (Tryz.prog.fieldsOf 36)) := by kernel_rfl
  have hp : Tryz.prog.stoodInHeld 36 = false := by kernel_rfl
  rw [run_neq_struct, show (10000 : Nat) = 9999 + 1 from rfl, run_equalIn_agg w 9999 36 _ _ hS hp]
  simp only [Program.fieldsOf, Tryz.underlying36]
  go_simp
  by_cases h1 : x = 0 <;> by_cases h2 : y = 0 <;> simp [h1, h2]

set_option maxRecDepth 100000 in
theorem valid1_any (m : Nc.Mv) (w : World) : Calls Tryz.prog 32 #[.agg #[.int .i64 m.k, .int .i64 m.x, .int .i64 m.y]] w fun e w' => e = .returned (.bool (Nc.ok m)) ∧ Below w.heap.size w w' := by
  obtain ⟨k, x, y⟩ := m
  have hm : Tryz.prog.eqGuardType Tryz.prog.depth 36 = false := by kernel_rfl
  have heq := vec_eq x y
  have hb : Below w.heap.size w (w.alloc (.cells #[.int .i64 k, .int .i64 x, .int .i64 y] 38)) := (Below.refl _ _).alloc (Nat.le_refl _) _
  have HB := Lib.hid hb
  clear hb
  have e : Nc.ok ⟨k, x, y⟩ = if Nc.moving k then Nc.within x y 2000 else ((k == 3) || (k == 4) || (k == 6)) && ((x == 0) && (y == 0)) := rfl
  rw [e]
  clear e
  have HM := Lib.hid (fun W => moving_any k W)
  cases hk : Nc.moving k
  · rw [hk] at HM
    simp only [Bool.false_eq_true, if_false]
    cases h3 : (k == 3) <;> cases h4 : (k == 4) <;> cases h6 : (k == 6)
    all_goals
      have hk' := Lib.hid hk
      clear hk
      go_enter Tryz.func32, Tryz.ntmps32
      go_wp2_with fail
      refine (HM.out _).mono ?_
      rintro e w1 ⟨rfl, rfl⟩
      go_wp2
      go_ret
      exact ⟨rfl, HB.out⟩
  · rw [hk] at HM
    simp only [if_true]
    have hk' := Lib.hid hk
    clear hk
    go_enter Tryz.func32, Tryz.ntmps32
    go_wp2_with fail
    refine (HM.out _).mono ?_
    rintro e w1 ⟨rfl, rfl⟩
    go_wp2_with fail
    refine (vwithin_any x y 2000 (by omega) _).mono ?_
    rintro e w1 ⟨rfl, hb1⟩
    go_wp2
    go_ret
    exact ⟨rfl, HB.out.trans (hb1.mono HB.out.size)⟩
theorem notvalid_any (m : Nc.Mv) (w : World) : Calls Tryz.prog 40 #[.agg #[.int .i64 m.k, .int .i64 m.x, .int .i64 m.y]] w fun e w' => e = .returned (.bool (!Nc.ok m)) ∧ Below w.heap.size w w' := by
  have hb : Below w.heap.size w (w.alloc (.cells #[.int .i64 m.k, .int .i64 m.x, .int .i64 m.y] 38)) := (Below.refl _ _).alloc (Nat.le_refl _) _
  have HB := Lib.hid hb
  clear hb
  go_enter Tryz.func40, Tryz.ntmps40
  go_wp2_with fail
  refine (valid1_any m _).mono ?_
  rintro e w1 ⟨rfl, hb1⟩
  go_wp2
  go_ret
  exact ⟨rfl, HB.out.trans (hb1.mono HB.out.size)⟩
end Go.Proofs.YtonpbomjjamphaaGreatDoor.NcW
