/- The law OrderNormal, walked. Conditions: the list lies in memory. -/
import Derived.Test.YteldekkodhfkkaaOdRN
import Derived.Test.YteldekkodhfkkaaOdRD
import Derived.Test.YteldekkodhfkkaaOdOpen
namespace Go.Proofs.Yteldekkodhfkkaa.OdW
open Go Go.RowKit Go.Proofs.Yteldekkodhfkkaa.Mem

theorem demand_len (l : List Od.It) : (demand l).length ≤ 100 := by
  unfold demand
  split
  · rename_i hv
    have := nf_len (lt := Od.sl) (l.map pq)
    rw [List.length_map] at this
    have := Od.valid_len hv
    omega
  · simp
set_option maxRecDepth 100000 in
set_option maxHeartbeats 4000000 in
theorem orderNormal_walk (A : Option Addr) (len c : Nat) (l : List Od.It) (w : World) (hr : Arg w A len c l) :
    Calls Try.prog 3 #[.slice A len c] w fun e w' => e = .returned (.bool true) ∧ Below w.heap.size w w' := by
  obtain ⟨rfl, _, hr, hlm, _⟩ := hr
  have HFA := Lib.hid (fun A k W h => few_any l A k W h (max_i64 hlm))
  have HK0 := Lib.hid ((Kept.start w).add hr)
  cases hfl : few l
  · rw [hfl] at HFA
    clear hr hfl
    go_enter Try.func3, Try.ntmps3
    go_wp2_with fail
    refine (awake_any _).mono ?_
    rintro e w1 ⟨rfl, hb⟩
    have HK1 := Lib.hid (HK0.out.below hb)
    clear hb HK0
    go_wp2_with fail
    refine (HFA.out _ _ _ (HK1.out.r 0 rfl)).mono ?_
    rintro e wx ⟨rfl, rfl⟩
    have hf := Lib.hid HK1.out.bel
    go_wp2
    go_ret
    exact ⟨rfl, hf.out⟩
  · have hl := (few_short hfl).1
    have HNL := Lib.hid (fun A k W h => normal_any l A k W h (by omega) (few_shorts hfl))
    have HNR := Lib.hid (fun A k W h => rnormal_any l A k W h (by omega) (few_shorts hfl))
    have HDL := Lib.hid (fun A k W h => demand_any l A k W h (by omega) (few_shorts hfl))
    have HDR := Lib.hid (fun A k W h => rdemand_any l A k W h (by omega) (few_shorts hfl))
    have HVL := Lib.hid (fun A k W h => valid_any l A k W h (by omega) (few_shorts hfl))
    have HVR := Lib.hid (fun A k W h => rvalid_any l A k W h (by omega) (few_shorts hfl))
    have hnl := normal_len l
    have hdl := demand_len l
    rw [hfl] at HFA
    clear hr hfl
    generalize demand l = D at *
    generalize Od.valid l = V at *
    generalize normal l = NN at *
    obtain ⟨N, E⟩ := NN
    have HTH := Lib.hid (fun A k W h => theirs_any D A k W h (by omega))
    have HSN := Lib.hid (fun A B j k W h1 h2 => rneeds_any D D A B j k W h1 h2 (by omega) (by omega))
    have HSM := Lib.hid (fun A B j k W h1 h2 => rsame_any N N A B j k W h1 h2 (by simp only at hnl; omega) (by simp only at hnl; omega))
    rw [decide_eq_true rfl] at HSN HSM
    have HEE := Lib.hid hnl
    clear hnl hdl
    go_enter Try.func3, Try.ntmps3
    go_wp2_with fail
    refine (awake_any _).mono ?_
    rintro e w1 ⟨rfl, hb⟩
    have HK1 := Lib.hid (HK0.out.below hb)
    clear hb HK0
    go_wp2_with fail
    refine (HFA.out _ _ _ (HK1.out.r 0 rfl)).mono ?_
    rintro e wx ⟨rfl, rfl⟩
    go_wp2_with fail
    refine (HNL.out _ _ _ (HK1.out.r 0 rfl)).mono ?_
    rintro e w2 ⟨A2, c2, rfl, hr2, hb⟩
    have HK2 := Lib.hid ((HK1.out.below hb).add hr2)
    clear hb hr2 HK1
    go_wp2_with fail
    refine (HNR.out _ _ _ (HK2.out.r 0 rfl)).mono ?_
    rintro e w3 ⟨A3, c3, rfl, hr3, hb⟩
    have HK3 := Lib.hid ((HK2.out.below hb).add hr3)
    clear hb hr3 HK2
    go_wp2_with fail
    refine (HSM.out _ _ _ _ _ (HK3.out.r 1 rfl) (HK3.out.r 2 rfl)).mono ?_
    rintro e w4 ⟨rfl, hb⟩
    have HK4 := Lib.hid (HK3.out.below hb)
    clear hb HK3
    go_wp2_with fail
    refine (HVL.out _ _ _ (HK4.out.r 0 rfl)).mono ?_
    rintro e w5 ⟨rfl, hb⟩
    have HK5 := Lib.hid (HK4.out.below hb)
    clear hb HK4
    go_wp2_with fail
    refine (HVR.out _ _ _ (HK5.out.r 0 rfl)).mono ?_
    rintro e w6 ⟨rfl, hb⟩
    have HK6 := Lib.hid (HK5.out.below hb)
    clear hb HK5
    go_wp2_with fail
    refine (HDL.out _ _ _ (HK6.out.r 0 rfl)).mono ?_
    rintro e w7 ⟨A7, c7, rfl, hr7, hb⟩
    have HK7 := Lib.hid ((HK6.out.below hb).add hr7)
    clear hb hr7 HK6
    go_wp2_with fail
    refine (HTH.out _ _ _ (HK7.out.r 3 rfl)).mono ?_
    rintro e w8 ⟨A8, c8, rfl, hr8, hb⟩
    have HK8 := Lib.hid ((HK7.out.below hb).add hr8)
    clear hb hr8 HK7
    go_wp2_with fail
    refine (HDR.out _ _ _ (HK8.out.r 0 rfl)).mono ?_
    rintro e w9 ⟨A9, c9, rfl, hr9, hb⟩
    have HK9 := Lib.hid ((HK8.out.below hb).add hr9)
    clear hb hr9 HK8
    go_wp2_with fail
    refine (HSN.out _ _ _ _ _ (HK9.out.r 4 rfl) (HK9.out.r 5 rfl)).mono ?_
    rintro e w10 ⟨rfl, hb⟩
    have hf := Lib.hid (HK9.out.below hb).bel
    clear hb HK9
    go_wp2
    go_ret
    exact ⟨rfl, hf.out⟩
end Go.Proofs.Yteldekkodhfkkaa.OdW
