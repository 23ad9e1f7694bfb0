/- Walks: a valid program, by the reference. Conditions: the program lies in memory and has at most a million moves. -/
import Derived.Test.YtonpbomjjamphaaGreatDoorNcW4
namespace Go.Proofs.YtonpbomjjamphaaGreatDoor.NcW
open Go Go.RowKit Go.Proofs.YtonpbomjjamphaaGreatDoor.Mem

theorem rwithin_any (x y m : Int) (hm : 0 ≤ m ∧ m ≤ 1000000) (w : World) : Calls Tryz.prog 38 #[.agg #[.int .i64 x, .int .i64 y], .int .i64 m] w fun e w' => e = .returned (.bool (Nc.within x y m)) ∧ Below w.heap.size w w' := by
  have hb : Below w.heap.size w (w.alloc (.cells #[.int .i64 x, .int .i64 y] 36)) := (Below.refl _ _).alloc (Nat.le_refl _) _
  have HB := Lib.hid hb
  clear hb
  have n1 : IntKind.i64.wrap (-m) = -m := by rw [IntKind.wrap_i64]; omega
  have e : Nc.within x y m = (decide (-m ≤ x) && decide (x ≤ m) && decide (-m ≤ y) && decide (y ≤ m)) := rfl
  rw [e]
  clear e
  rcases (show x < -m ∨ (-m ≤ x ∧ m < x) ∨ (-m ≤ x ∧ x ≤ m ∧ y < -m) ∨ (-m ≤ x ∧ x ≤ m ∧ -m ≤ y ∧ m < y) ∨ (-m ≤ x ∧ x ≤ m ∧ -m ≤ y ∧ y ≤ m) by omega) with h | h | h | h | h
  all_goals
    go_enter Tryz.func38, Tryz.ntmps38
    go_wp2
    go_ret
    refine ⟨ret_bool ?_, HB.out⟩
    rw [Bool.eq_iff_iff]
    simp
    omega

/-- The five ways of a move. -/
theorem ok_ways (m : Nc.Mv) : (decide (m.k < 1) = true ∧ Nc.ok m = false) ∨ (decide (m.k < 1) = false ∧ decide ((6 : Int) < m.k) = true ∧ Nc.ok m = false) ∨
    (decide (m.k < 1) = false ∧ decide ((6 : Int) < m.k) = false ∧ Nc.within m.x m.y 2000 = false ∧ Nc.ok m = false) ∨
    (decide (m.k < 1) = false ∧ decide ((6 : Int) < m.k) = false ∧ Nc.within m.x m.y 2000 = true ∧ Nc.moving m.k = true ∧ Nc.ok m = true) ∨
    (decide (m.k < 1) = false ∧ decide ((6 : Int) < m.k) = false ∧ Nc.within m.x m.y 2000 = true ∧ Nc.moving m.k = false ∧ Nc.ok m = ((m.x == 0) && (m.y == 0))) := by
  obtain ⟨k, x, y⟩ := m
  simp only [Nc.ok]
  by_cases h1 : k < 1
  · left
    have : Nc.moving k = false := by simp [Nc.moving]; omega
    rw [this]
    simp [h1]; omega
  right
  by_cases h6 : 6 < k
  · left
    have : Nc.moving k = false := by simp [Nc.moving]; omega
    rw [this]
    simp [h1, h6]; omega
  right
  have d1 : decide (k < 1) = false := by simpa using h1
  have d6 : decide ((6 : Int) < k) = false := by simpa using h6
  cases hw : Nc.within x y 2000
  · left
    refine ⟨d1, d6, rfl, ?_⟩
    split
    · rfl
    · have : ((x == 0) && (y == 0)) = false := by
        rw [Bool.eq_false_iff]
        intro h
        simp at h
        obtain ⟨rfl, rfl⟩ := h
        simp [Nc.within] at hw
      rw [this]; simp
  · right
    cases hm : Nc.moving k
    · right
      refine ⟨d1, d6, rfl, rfl, ?_⟩
      have hk : ((k == 3) || (k == 4) || (k == 6)) = true := by
        simp [Nc.moving] at hm
        simp; omega
      rw [hk]; simp
    · left
      exact ⟨d1, d6, rfl, rfl, rfl⟩

end Go.Proofs.YtonpbomjjamphaaGreatDoor.NcW
