/- Walks: the example that every statement checks first. Conditions: the library's table of powers of ten holds what its text lays. -/
import Derived.Test.YtonpbomjjamphaaGreatDoorNcS
import Derived.Test.YtonpbomjjamphaaGreatDoorNcW8
import Derived.Deep.QuietTactic
namespace Go.Proofs.YtonpbomjjamphaaGreatDoor.NcW
open Go Go.RowKit Go.Proofs.YtonpbomjjamphaaGreatDoor.Mem

def ex : List Nc.Mv := [⟨1, 3, -4⟩, ⟨3, 0, 0⟩, ⟨2, 3, 6⟩, ⟨4, 0, 0⟩, ⟨6, 0, 0⟩]
theorem ex_valid : Nc.valid ex = true := by decide
theorem ex_print : Nc.print ex = [78, 49, 48, 32, 71, 48, 48, 32, 88, 51, 32, 89, 45, 52, 10, 78, 50, 48, 32, 77, 48, 51, 10, 78, 51, 48, 32, 71, 48, 49, 32, 88, 51, 32, 89, 54, 10, 78, 52, 48, 32, 77, 48, 53, 10, 78, 53, 48, 32, 77, 51, 48, 10] := by
  simp [ex, Nc.print, Nc.prints, Nc.lineOf, Nc.number, Nc.text, Nc.code, Nc.moving, Lib.itoa, Lib.decDigits]
theorem ex_run : statV (Nc.run ex) = .agg #[.int .i64 4, .int .i64 10, .int .i64 1, .int .i64 0, .int .i64 3, .int .i64 (-4), .int .i64 3, .int .i64 6, .bool false] := by
  simp [ex, Nc.run, Nc.step, Nc.St.init, statV, Nc.norm, Nc.ab, Nc.box, Nc.bstep]
  decide

theorem row_of_block {w : World} {b : Nat} {xs : List Value} {T : TypeId} (h : w.heap[b]? = some (.cells xs.toArray T (0, 0))) : Row w (some ⟨b, 0, none⟩) xs := by
  intro _
  refine ⟨b, 0, rfl, block_lt h, fun j hj => ?_⟩
  rw [Nat.zero_add, Lib.cell_of_heap h]
  simp

set_option maxRecDepth 100000 in
set_option maxHeartbeats 1000000 in
theorem awake_any (w : World) (hL : Laid w) : Calls Tryz.prog 4 #[] w fun e w' => e = .returned (.bool true) ∧ Below w.heap.size w w' := by
  have HL := Lib.hid hL
  clear hL
  have HP := Lib.hid (fun A c W h1 h2 => print_any ex A c W h1 h2 ex_valid)
  have HS := Lib.hid (fun A c W h => summary_any ex A c W h ex_valid)
  rw [ex_print] at HP
  rw [ex_run] at HS
  have HW := Lib.hid (heap_alloc_new w (.cells #[.int .i64 1, .int .i64 3, .int .i64 (-4), .int .i64 3, .int .i64 0, .int .i64 0, .int .i64 2, .int .i64 3, .int .i64 6, .int .i64 4, .int .i64 0, .int .i64 0, .int .i64 6, .int .i64 0, .int .i64 0] 38))
  have HB := Lib.hid ((Below.refl w.heap.size w).alloc (Nat.le_refl _) (.cells #[.int .i64 1, .int .i64 3, .int .i64 (-4), .int .i64 3, .int .i64 0, .int .i64 0, .int .i64 2, .int .i64 3, .int .i64 6, .int .i64 4, .int .i64 0, .int .i64 0, .int .i64 6, .int .i64 0, .int .i64 0] 38))
  rw [show ex.length = 5 from rfl] at HP HS
  go_enter Tryz.func4, Tryz.ntmps4
  go_wp2_with fail
  generalize w.alloc (.cells #[.int .i64 1, .int .i64 3, .int .i64 (-4), .int .i64 3, .int .i64 0, .int .i64 0, .int .i64 2, .int .i64 3, .int .i64 6, .int .i64 4, .int .i64 0, .int .i64 0, .int .i64 6, .int .i64 0, .int .i64 0] 38) = W0 at *
  refine (HP.out _ _ _ (HL.out.below HB.out) (row_of_block HW.out)).mono ?_
  rintro e w1 ⟨rfl, hb1⟩
  go_wp2_with fail
  refine (HS.out _ _ _ ((row_of_block HW.out).below hb1)).mono ?_
  rintro e w2 ⟨rfl, hb2⟩
  go_wp2
  go_ret
  exact ⟨rfl, ((HB.out.trans (hb1.mono HB.out.size)).trans (hb2.mono (Nat.le_trans HB.out.size hb1.size))).alloc (Nat.le_trans HB.out.size (Nat.le_trans hb1.size hb2.size)) _⟩
end Go.Proofs.YtonpbomjjamphaaGreatDoor.NcW
