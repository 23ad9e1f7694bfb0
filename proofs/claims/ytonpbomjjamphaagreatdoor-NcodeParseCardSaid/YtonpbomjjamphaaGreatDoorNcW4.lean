/- Walks: a valid program, by the program and by the reference; a short program. Conditions: the program lies in memory and has at most a million moves. -/
import Derived.Test.YtonpbomjjamphaaGreatDoorNcW3
namespace Go.Proofs.YtonpbomjjamphaaGreatDoor.NcW
open Go Go.RowKit Go.Proofs.YtonpbomjjamphaaGreatDoor.Mem

theorem containsFunc_any (g : FuncId) (p : Nc.Mv → Bool) (eg : Enters Tryz.prog g)
    (hg : Hid (∀ (m : Nc.Mv) (w : World), Calls Tryz.prog g #[.agg #[.int .i64 m.k, .int .i64 m.x, .int .i64 m.y]] w fun e w' => e = .returned (.bool (p m)) ∧ Below w.heap.size w w'))
    (l : List Nc.Mv) (A : Option Addr) (c : Nat) (w : World) (hr : Row w A (l.flatMap mvCells)) (hl : l.length ≤ 1000000) :
    Calls Tryz.prog 39 #[.slice A l.length c, .func (.func g) #[] #[]] w fun e w' => e = .returned (.bool (l.any p)) ∧ Below w.heap.size w w' := by
  have hi := Lib.hid (indexFunc_any g p eg hg l A c w hr hl)
  have hq := Lib.hid (idx_ge p l 0)
  clear hr
  go_enter Tryz.func39, Tryz.ntmps39
  go_wp2_with fail
  refine hi.out.mono ?_
  rintro e w1 ⟨rfl, hb1⟩
  go_wp2
  go_ret
  rw [hq.out]
  exact ⟨rfl, hb1⟩

set_option maxRecDepth 100000 in
theorem valid_any (l : List Nc.Mv) (A : Option Addr) (c : Nat) (w : World) (hr : Row w A (l.flatMap mvCells)) (hl : l.length ≤ 1000000) :
    Calls Tryz.prog 16 #[.slice A l.length c] w fun e w' => e = .returned (.bool (Nc.valid l)) ∧ Below w.heap.size w w' := by
  have hi := Lib.hid (fun W h => containsFunc_any 40 (fun m => !Nc.ok m) (enters_of Tryz.func40 (by kernel_rfl) rfl) (Lib.hid notvalid_any) l A c W h hl)
  have hR := Lib.hid hr
  have hq : Hid (Nc.valid l = (decide ((l.length : Int) ≤ 2000) && !(l.any fun m => !Nc.ok m))) := Lib.hid (by
    unfold Nc.valid
    rw [show (decide ((l.length : Int) ≤ 2000)) = decide (l.length ≤ 2000) by rw [Bool.eq_iff_iff]; simp; omega]
    simp [List.all_eq_not_any_not])
  clear hr
  rw [hq.out]
  clear hq
  generalize (l.any fun m => !Nc.ok m) = b at hi ⊢
  by_cases h2 : l.length ≤ 2000
  · go_enter Tryz.func16, Tryz.ntmps16
    go_wp2_with fail
    refine (hi.out _ hR.out).mono ?_
    rintro e w1 ⟨rfl, hb1⟩
    go_wp2
    go_ret
    refine ⟨ret_bool ?_, hb1⟩
    rw [Bool.eq_iff_iff]
    simp
    omega
  · go_enter Tryz.func16, Tryz.ntmps16
    go_wp2
    go_ret
    refine ⟨ret_bool ?_, Below.refl _ _⟩
    rw [Bool.eq_iff_iff]
    simp
    omega
end Go.Proofs.YtonpbomjjamphaaGreatDoor.NcW
