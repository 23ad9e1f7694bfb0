/- Walks: the small functions of the chapter: kinds, bounds, a valid move. Conditions: none. -/
import Derived.Test.YtonpbomjjamphaaGreatDoorProg
import Derived.Test.YtonpbomjjamphaaGreatDoorNcPlain
import Derived.Test.YtonpbomjjamphaaGreatDoorMem
import Derived.WalkKit
import Derived.WalkLawsBesides
import Derived.WalkSpells
import Derived.Lib.Hide
import Derived.BigQuiet
import Derived.Deep.QuietTactic
import Derived.Laws.StructEq
namespace Go.Proofs.YtonpbomjjamphaaGreatDoor.NcW
open Go Go.RowKit Go.Proofs.YtonpbomjjamphaaGreatDoor.Mem

abbrev Returns (w : World) (v : Value) : Ending → World → Prop := fun e w' => e = .returned v ∧ w = w'
theorem ret_bool {a b : Bool} (h : a = b) : Ending.returned (.bool a) = .returned (.bool b) := by rw [h]

theorem moving_any (k : Int) (w : World) : Calls Tryz.prog 30 #[.int .i64 k] w (Returns w (.bool (Nc.moving k))) := by
  have e : Nc.moving k = ((k == 1) || (k == 2) || (k == 5)) := rfl
  rw [e]
  clear e
  cases h1 : (k == 1) <;> cases h2 : (k == 2) <;> cases h3 : (k == 5)
  all_goals
    go_enter Tryz.func30, Tryz.ntmps30
    go_wp2
    go_ret
    exact ⟨rfl, rfl⟩
theorem goes_any (k : Int) (w : World) : Calls Tryz.prog 36 #[.int .i64 k] w (Returns w (.bool (Nc.moving k))) := by
  have e : Nc.moving k = ((k == 1) || (k == 2) || (k == 5)) := rfl
  rw [e]
  clear e
  cases h1 : (k == 1) <;> cases h2 : (k == 2) <;> cases h3 : (k == 5)
  all_goals
    go_enter Tryz.func36, Tryz.ntmps36
    go_wp2
    go_ret
    exact ⟨rfl, rfl⟩

theorem vwithin_any (x y m : Int) (hm : 0 ≤ m ∧ m ≤ 1000000) (w : World) : Calls Tryz.prog 49 #[.agg #[.int .i64 x, .int .i64 y], .int .i64 m] w fun e w' => e = .returned (.bool (Nc.within x y m)) ∧ Below w.heap.size w w' := by
  have hb : Below w.heap.size w (w.alloc (.cells #[.int .i64 x, .int .i64 y] 36)) := (Below.refl _ _).alloc (Nat.le_refl _) _
  have HB := Lib.hid hb
  clear hb
  have n1 : IntKind.i64.wrap (-m) = -m := by rw [IntKind.wrap_i64]; omega
  have e : Nc.within x y m = (decide (-m ≤ x) && decide (x ≤ m) && decide (-m ≤ y) && decide (y ≤ m)) := rfl
  rw [e]
  clear e
  rcases (show x < -m ∨ (-m ≤ x ∧ m < x) ∨ (-m ≤ x ∧ x ≤ m ∧ y < -m) ∨ (-m ≤ x ∧ x ≤ m ∧ -m ≤ y ∧ m < y) ∨ (-m ≤ x ∧ x ≤ m ∧ -m ≤ y ∧ y ≤ m) by omega) with h | h | h | h | h
  all_goals
    go_enter Tryz.func49, Tryz.ntmps49
    go_wp2
    go_ret
    refine ⟨ret_bool ?_, HB.out⟩
    rw [Bool.eq_iff_iff]
    simp
    omega
end Go.Proofs.YtonpbomjjamphaaGreatDoor.NcW
