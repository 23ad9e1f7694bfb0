/- Walks: vectors: difference, norm. Conditions: the coordinates are small. -/
import Derived.Test.YtonpbomjjamphaaGreatDoorNcW7
import Derived.WalkLawsBesides
namespace Go.Proofs.YtonpbomjjamphaaGreatDoor.NcW
open Go Go.RowKit Go.Proofs.YtonpbomjjamphaaGreatDoor.Mem

def vecV (x y : Int) : Value := .agg #[.int .i64 x, .int .i64 y]
theorem sub_any (x y u v : Int) (w : World) (hx : -10000 ≤ x ∧ x ≤ 10000) (hy : -10000 ≤ y ∧ y ≤ 10000) (hu : -10000 ≤ u ∧ u ≤ 10000) (hv : -10000 ≤ v ∧ v ≤ 10000) :
    Calls Tryz.prog 21 #[.agg #[.int .i64 x, .int .i64 y], .agg #[.int .i64 u, .int .i64 v]] w fun e w' => e = .returned (vecV (x - u) (y - v)) ∧ Below w.heap.size w w' := by
  obtain ⟨hx1, hx2⟩ := hx
  obtain ⟨hy1, hy2⟩ := hy
  obtain ⟨hu1, hu2⟩ := hu
  obtain ⟨hv1, hv2⟩ := hv
  go_enter Tryz.func21, Tryz.ntmps21
  go_wp2
  refine bodyPost_ret (v := vecV (x - u) (y - v)) (by simp [results, Tryz.results21, go_sem, vecV]) rfl ⟨rfl, ?_⟩
  exact (((Below.refl _ _).alloc (Nat.le_refl _) _).alloc (by simp) _).alloc (by simp; omega) _
theorem abs_any (n : Int) (w : World) (hn : -100000 ≤ n ∧ n ≤ 100000) :
    Calls Tryz.prog 42 #[.int .i64 n] w (Returns w (.int .i64 (Nc.ab n))) := by
  obtain ⟨h1, h2⟩ := hn
  have e : Nc.ab n = if 0 ≤ n then n else -n := rfl
  rw [e]
  clear e
  by_cases h : 0 ≤ n
  · rw [if_pos h]
    go_enter Tryz.func42, Tryz.ntmps42
    go_wp2
    go_ret
    exact ⟨rfl, rfl⟩
  · rw [if_neg h]
    go_enter Tryz.func42, Tryz.ntmps42
    go_wp2
    go_ret
    exact ⟨rfl, rfl⟩
set_option maxRecDepth 100000 in
theorem maxNorm_any (x y : Int) (w : World) (hx : -100000 ≤ x ∧ x ≤ 100000) (hy : -100000 ≤ y ∧ y ≤ 100000) :
    Calls Tryz.prog 20 #[.agg #[.int .i64 x, .int .i64 y]] w fun e w' => e = .returned (.int .i64 (Nc.norm x y)) ∧ Below w.heap.size w w' := by
  have HX := Lib.hid (fun W => abs_any x W hx)
  have HY := Lib.hid (fun W => abs_any y W hy)
  have e : Nc.norm x y = max (Nc.ab x) (Nc.ab y) := rfl
  rw [e]
  clear e hx hy
  generalize Nc.ab x = a at *
  generalize Nc.ab y = b at *
  go_enter Tryz.func20, Tryz.ntmps20
  go_wp2
  go_quiet (first | ((go_at_call_of 42 (Value.int .i64 x)); exact Calls.quiet_of_same ((HX.out _).mono fun _ _ ⟨h1, h2⟩ => ⟨h1, h2.symm⟩)) | ((go_at_call_of 42 (Value.int .i64 y)); exact Calls.quiet_of_same ((HY.out _).mono fun _ _ ⟨h1, h2⟩ => ⟨h1, h2.symm⟩)))
  go_wp2
  go_ret
  exact ⟨rfl, below_drewN ((Below.refl _ _).alloc (Nat.le_refl _) _) _⟩
end Go.Proofs.YtonpbomjjamphaaGreatDoor.NcW
