/- The law NcodeJoin at any programs. Conditions: the library's table of powers of ten holds what its text lays; the programs lie in memory. -/
import Derived.Test.YtonpbomjjamphaaDoorNcL4
namespace Go.Proofs.YtonpbomjjamphaaDoor.NcW
open Go Go.RowKit Go.Proofs.YtonpbomjjamphaaDoor.Mem

set_option maxRecDepth 100000 in
set_option maxHeartbeats 2000000 in
theorem ncodeJoin_walk (A : Option Addr) (len ca : Nat) (a : List Nc.Mv) (B : Option Addr) (len2 cb : Nat) (b : List Nc.Mv) (C : Option Addr) (len3 cc : Nat) (c : List Nc.Mv) (w : World)
    (hx : a.length = len ∧ (∀ m ∈ a, True) ∧ Row w A (a.flatMap mvCells) ∧ len ≤ maxLen ∧ len ≤ ca) (hy : b.length = len2 ∧ (∀ m ∈ b, True) ∧ Row w B (b.flatMap mvCells) ∧ len2 ≤ maxLen ∧ len2 ≤ cb) (hz : c.length = len3 ∧ (∀ m ∈ c, True) ∧ Row w C (c.flatMap mvCells) ∧ len3 ≤ maxLen ∧ len3 ≤ cc) (hL : Laid w) :
    Calls Tryd.prog 4 #[.slice A len ca, .slice B len2 cb, .slice C len3 cc] w fun e w' => e = .returned (.bool true) ∧ Below w.heap.size w w' := by
  obtain ⟨rfl, _, hra, hma, _⟩ := hx
  obtain ⟨rfl, _, hrb, hmb, _⟩ := hy
  obtain ⟨rfl, _, hrc, hmc, _⟩ := hz
  unfold maxLen at hma hmb hmc
  have HL := Lib.hid hL
  by_cases hla : a.length ≤ 60
  case neg =>
    clear hra hrb hrc hL
    go_enter Tryd.func4, Tryd.ntmps4
    go_wp2_with fail
    refine (awake_any _ HL.out).mono ?_
    rintro e w1 ⟨rfl, hb1⟩
    go_wp2
    go_ret
    exact ⟨rfl, hb1⟩
  by_cases hlb : b.length ≤ 60
  case neg =>
    clear hra hrb hrc hL
    go_enter Tryd.func4, Tryd.ntmps4
    go_wp2_with fail
    refine (awake_any _ HL.out).mono ?_
    rintro e w1 ⟨rfl, hb1⟩
    go_wp2
    go_ret
    exact ⟨rfl, hb1⟩
  by_cases hlc : c.length ≤ 60
  case neg =>
    clear hra hrb hrc hL
    go_enter Tryd.func4, Tryd.ntmps4
    go_wp2_with fail
    refine (awake_any _ HL.out).mono ?_
    rintro e w1 ⟨rfl, hb1⟩
    go_wp2
    go_ret
    exact ⟨rfl, hb1⟩
  cases hva : Nc.valid a
  case false =>
    clear hL
    have HVA := Lib.hid (fun A k W h => rvalid_any a A k W h (by omega))
    rw [hva] at HVA
    have HRA := Lib.hid hra
    clear hra hrb hrc hva
    go_enter Tryd.func4, Tryd.ntmps4
    go_wp2_with fail
    refine (awake_any _ HL.out).mono ?_
    rintro e w1 ⟨rfl, hb1⟩
    go_wp2_with fail
    refine (HVA.out _ _ _ (HRA.out.below hb1)).mono ?_
    rintro e w2 ⟨rfl, hb2⟩
    have hc2 := hb1.trans (hb2.mono hb1.size)
    go_wp2
    go_ret
    exact ⟨rfl, hc2⟩
  cases hvb : Nc.valid b
  case false =>
    clear hL
    have HVA := Lib.hid (fun A k W h => rvalid_any a A k W h (by omega))
    rw [hva] at HVA
    have HRA := Lib.hid hra
    have HVB := Lib.hid (fun A k W h => rvalid_any b A k W h (by omega))
    rw [hvb] at HVB
    have HRB := Lib.hid hrb
    clear hra hrb hrc hva hvb
    go_enter Tryd.func4, Tryd.ntmps4
    go_wp2_with fail
    refine (awake_any _ HL.out).mono ?_
    rintro e w1 ⟨rfl, hb1⟩
    go_wp2_with fail
    refine (HVA.out _ _ _ (HRA.out.below hb1)).mono ?_
    rintro e w2 ⟨rfl, hb2⟩
    have hc2 := hb1.trans (hb2.mono hb1.size)
    go_wp2_with fail
    refine (HVB.out _ _ _ (HRB.out.below hc2)).mono ?_
    rintro e w3 ⟨rfl, hb3⟩
    have hc3 := hc2.trans (hb3.mono hc2.size)
    go_wp2
    go_ret
    exact ⟨rfl, hc3⟩
  cases hvc : Nc.valid c
  case false =>
    clear hL
    have HVA := Lib.hid (fun A k W h => rvalid_any a A k W h (by omega))
    rw [hva] at HVA
    have HRA := Lib.hid hra
    have HVB := Lib.hid (fun A k W h => rvalid_any b A k W h (by omega))
    rw [hvb] at HVB
    have HRB := Lib.hid hrb
    have HVC := Lib.hid (fun A k W h => rvalid_any c A k W h (by omega))
    rw [hvc] at HVC
    have HRC := Lib.hid hrc
    clear hra hrb hrc hva hvb hvc
    go_enter Tryd.func4, Tryd.ntmps4
    go_wp2_with fail
    refine (awake_any _ HL.out).mono ?_
    rintro e w1 ⟨rfl, hb1⟩
    go_wp2_with fail
    refine (HVA.out _ _ _ (HRA.out.below hb1)).mono ?_
    rintro e w2 ⟨rfl, hb2⟩
    have hc2 := hb1.trans (hb2.mono hb1.size)
    go_wp2_with fail
    refine (HVB.out _ _ _ (HRB.out.below hc2)).mono ?_
    rintro e w3 ⟨rfl, hb3⟩
    have hc3 := hc2.trans (hb3.mono hc2.size)
    go_wp2_with fail
    refine (HVC.out _ _ _ (HRC.out.below hc3)).mono ?_
    rintro e w4 ⟨rfl, hb4⟩
    have hc4 := hc3.trans (hb4.mono hc3.size)
    go_wp2
    go_ret
    exact ⟨rfl, hc4⟩
  exact ncodeJoin_good a b c A B C ca cb cc w hra hrb hrc hla hlb hlc hva hvb hvc hL
end Go.Proofs.YtonpbomjjamphaaDoor.NcW
