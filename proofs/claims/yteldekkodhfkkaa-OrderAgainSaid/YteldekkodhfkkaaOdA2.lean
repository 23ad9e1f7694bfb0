/- The law OrderAgain, walked: all ways. Conditions: the list lies in memory; the turn is a machine number. -/
import Derived.Test.YteldekkodhfkkaaOdA
import Derived.Test.YteldekkodhfkkaaOdOpen
namespace Go.Proofs.Yteldekkodhfkkaa.OdW
open Go Go.RowKit Go.Proofs.Yteldekkodhfkkaa.Mem

set_option maxRecDepth 100000 in
set_option maxHeartbeats 4000000 in
theorem orderAgain_walk (A : Option Addr) (len c : Nat) (l : List Od.It) (t : Int) (w : World) (hr : Arg w A len c l) (ht : (Lit.int .u8 t).wf = true) :
    Calls Try.prog 4 #[.slice A len c, .int .u8 t] w fun e w' => e = .returned (.bool true) ∧ Below w.heap.size w w' := by
  obtain ⟨rfl, _, hr, hlm, _⟩ := hr
  have hb := bounds_u8 ht
  obtain ⟨T, rfl⟩ : ∃ T : Nat, t = (T : Int) := ⟨t.toNat, by omega⟩
  have HFA := Lib.hid (fun A k W h => few_any l A k W h (max_i64 hlm))
  have HK0 := Lib.hid ((Kept.start w).add hr)
  cases hfl : few l
  · rw [hfl] at HFA
    clear hr hfl ht
    go_enter Try.func4, Try.ntmps4
    go_wp2_with fail
    refine (awake_any _).mono ?_
    rintro e w1 ⟨rfl, hb⟩
    have HK1 := Lib.hid (HK0.out.below hb)
    clear hb HK0
    go_wp2_with fail
    refine (HFA.out _ _ _ (HK1.out.r 0 rfl)).mono ?_
    rintro e wx ⟨rfl, rfl⟩
    have hf := Lib.hid HK1.out.bel
    go_wp2
    go_ret
    exact ⟨rfl, hf.out⟩
  · exact orderAgain_good l T A c w hr hfl (by omega)
end Go.Proofs.Yteldekkodhfkkaa.OdW
