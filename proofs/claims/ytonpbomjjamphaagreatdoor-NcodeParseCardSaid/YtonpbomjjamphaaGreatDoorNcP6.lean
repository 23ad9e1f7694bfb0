/- The law NcodeLines, walked. Conditions: the library's variables hold what a start lays. -/
import Derived.Test.YtonpbomjjamphaaGreatDoorNcP5
import Derived.Test.YtonpbomjjamphaaGreatDoorNcAw
namespace Go.Proofs.YtonpbomjjamphaaGreatDoor.NcW
open Go Go.RowKit Go.Proofs.YtonpbomjjamphaaGreatDoor.Mem

theorem str_take (s : List UInt8) (q : Nat) : (ByteArray.mk s.toArray).extract 0 q = ⟨(s.take q).toArray⟩ := by
  apply str_eq
  simp [ByteArray.data_extract]

theorem parse_run (s : List UInt8) (w : World) (hs : s.length ≤ 1000000) (hG : Glob w) :
    Calls Tryz.prog 5 #[.string ⟨s.toArray⟩] w fun e w' => (∃ A c, e = .returned (.tuple #[.slice A (runL s).1.length c, .int .i64 ((runL s).2.1 : Nat), .int .i64 (runL s).2.2])) ∧ Below w.heap.size w w' :=
  (parse_any s w hs hG).mono fun e w' ⟨⟨v, he, hrow⟩, hb⟩ => by
    obtain ⟨A, c, rfl, _⟩ := own_shape hrow
    exact ⟨⟨A, c, he⟩, hb⟩

end Go.Proofs.YtonpbomjjamphaaGreatDoor.NcW
