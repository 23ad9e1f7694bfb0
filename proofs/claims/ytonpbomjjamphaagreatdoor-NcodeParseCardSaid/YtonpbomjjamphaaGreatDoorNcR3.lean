/- Walks: a program printed, by the reference. Conditions: the program lies in memory. -/
import Derived.Test.YtonpbomjjamphaaGreatDoorNcW8
import Derived.Test.YtonpbomjjamphaaGreatDoorNcW5
namespace Go.Proofs.YtonpbomjjamphaaGreatDoor.NcW
open Go Go.RowKit Go.Proofs.YtonpbomjjamphaaGreatDoor.Mem

theorem code_any (k : Int) (w : World) (h : 1 ≤ k ∧ k ≤ 6) : Calls Tryz.prog 35 #[.int .i64 k] w (Returns w (.string ⟨(Nc.code k).toArray⟩)) := by
  rcases (show k = 1 ∨ k = 2 ∨ k = 3 ∨ k = 4 ∨ k = 5 ∨ k = 6 by omega) with rfl | rfl | rfl | rfl | rfl | rfl
  all_goals
    go_enter Tryz.func35, Tryz.ntmps35
    go_wp2
    go_ret
    exact ⟨rfl, rfl⟩

def rlineOf (m : Nc.Mv) (i : Nat) : List UInt8 := Nc.number i ++ Nc.text m
theorem rline_short (n c : List UInt8) : (ByteArray.mk #[78] ++ ByteArray.mk n.toArray ++ ByteArray.mk #[32]) ++ ByteArray.mk c.toArray = ⟨((78 :: (n ++ [32])) ++ c).toArray⟩ := by
  rw [show (ByteArray.mk #[78]) = ⟨[78].toArray⟩ from rfl, show (ByteArray.mk #[32]) = ⟨[32].toArray⟩ from rfl, str_append, str_append, str_append]
  rfl
theorem rline_long (a x y : List UInt8) : ByteArray.mk a.toArray ++ ByteArray.mk #[32, 88] ++ ByteArray.mk x.toArray ++ ByteArray.mk #[32, 89] ++ ByteArray.mk y.toArray = ⟨(a ++ ([32, 88] ++ x ++ [32, 89] ++ y)).toArray⟩ := by
  rw [show (ByteArray.mk #[32, 88]) = ⟨[32, 88].toArray⟩ from rfl, show (ByteArray.mk #[32, 89]) = ⟨[32, 89].toArray⟩ from rfl, str_append, str_append, str_append, str_append]
  simp

theorem rprint_take (l : List Nc.Mv) (k : Nat) (h : k < l.length) : Nc.print (l.take (k + 1)) = Nc.print (l.take k) ++ rlineOf l[k] k ++ [10] := by
  rw [print_take l k h]
  unfold Nc.lineOf rlineOf
  simp

end Go.Proofs.YtonpbomjjamphaaGreatDoor.NcW
