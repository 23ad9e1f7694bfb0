/- Walks: the texts of moves, by the program. Conditions: the library's table of powers of ten holds what its text lays. -/
import Derived.Test.YtonpbomjjamphaaGreatDoorNcI
import Derived.Test.YtonpbomjjamphaaGreatDoorNcW2
import Derived.Deep.RegionWith
import Derived.Deep.RegionHeld3
namespace Go.Proofs.YtonpbomjjamphaaGreatDoor.NcW
open Go Go.RowKit Go.Proofs.YtonpbomjjamphaaGreatDoor.Mem

theorem itoa_len (n : Int) (h : I64 n) : (Lib.itoa n).length ≤ 20 := by
  have hd := dec_len 18 n.natAbs (by unfold I64 at h; omega)
  have hd' := dec_len 18 n.toNat (by unfold I64 at h; omega)
  unfold Lib.itoa
  split
  · simp only [List.length_cons]; omega
  · omega

theorem number_any (i : Nat) (w : World) (hL : Laid w) (hi : i ≤ 1000000) :
    Calls Tryz.prog 13 #[.int .i64 (i : Int)] w fun e w' => e = .returned (.string ⟨(Nc.number i).toArray⟩) ∧ Below w.heap.size w w' := by
  have HI := Lib.hid (fun W (h : Laid W) => itoa_any (10 * ((i : Int) + 1)) W h (by omega) (by omega))
  have hlen := itoa_len (10 * ((i : Int) + 1)) (by unfold I64; omega)
  have HL := Lib.hid hL
  have hn : Hid (Nc.number i = 78 :: (Lib.itoa (10 * ((i : Int) + 1)) ++ [32])) := Lib.hid rfl
  generalize Lib.itoa (10 * ((i : Int) + 1)) = l at *
  have z1 : (ByteArray.mk l.toArray).size = l.length := str_size l
  have z2 : (ByteArray.mk #[78]).size = 1 := rfl
  have z3 : (ByteArray.mk #[32]).size = 1 := rfl
  have z4 : (ByteArray.mk #[78] ++ ByteArray.mk l.toArray).size = 1 + l.length := by rw [str_append [78] l, str_size]; simp; omega
  clear hL
  go_enter Tryz.func13, Tryz.ntmps13
  go_wp2_with fail
  refine (HI.out _ HL.out).mono ?_
  rintro e w1 ⟨rfl, hb1⟩
  go_wp2
  go_ret
  refine ⟨?_, hb1⟩
  rw [hn.out]
  exact congrArg (fun x => Ending.returned (.string x)) ((congrArg (· ++ _) (str_append [78] l)).trans (str_append ([78] ++ l) [32]))
end Go.Proofs.YtonpbomjjamphaaGreatDoor.NcW
