/- The law NcodeParse, walked. Conditions: the library's variables hold what a start lays. -/
import Derived.Test.YtonpbomjjamphaaGreatDoorNcX3
import Derived.Test.YtonpbomjjamphaaGreatDoorNcAw
import Derived.Test.YtonpbomjjamphaaGreatDoorNcE
import Derived.Test.YtonpbomjjamphaaGreatDoorKept
namespace Go.Proofs.YtonpbomjjamphaaGreatDoor.NcW
open Go Go.RowKit Go.Proofs.YtonpbomjjamphaaGreatDoor.Mem
attribute [local go_sem ↓] Go.wp_at_zero Go.wp_at_succ

theorem run_valid (s : List UInt8) : Nc.valid (runL s).1 = true := by
  rcases Classical.em ((runL s).2.2 = 0) with h | h
  · exact (runL_text h).1
  · obtain ⟨_, _, _, _, _, h3, _, _⟩ := parseL_err (linesOf s) [] h
    unfold runL
    rw [h3]
    rfl
set_option maxRecDepth 100000 in
set_option maxHeartbeats 4000000 in
theorem ncodeParse_walk (s : List UInt8) (w : World) (hG : Glob w) :
    Calls Tryz.prog 3 #[.string ⟨s.toArray⟩] w fun e w' => e = .returned (.bool true) ∧ Below w.heap.size w w' := by
  have hss : (ByteArray.mk s.toArray).size = s.length := str_size s
  have HG := Lib.hid hG
  clear hG
  by_cases hl : s.length ≤ 2000
  case neg =>
    go_enter Tryz.func3, Tryz.ntmps3
    go_wp2_with fail
    refine (awake_any _ HG.out.laid).mono ?_
    rintro e w1 ⟨rfl, hb1⟩
    go_wp2
    go_ret
    exact ⟨rfl, hb1⟩
  have hv := run_valid s
  have hvl := Nc.valid_len hv
  have HPA := Lib.hid (fun W h => parse_any s W (by omega) h)
  have HPR := Lib.hid (fun W => rparse_any s W (by omega))
  unfold ParsePost at HPR
  have hpe : (runL s).2.2 = 0 ∧ Nc.print (runL s).1 = s ∨ (runL s).2.2 ≠ 0 := by
    rcases Classical.em ((runL s).2.2 = 0) with h | h
    · exact .inl ⟨h, (runL_text h).2⟩
    · exact .inr h
  have HPP := Lib.hid (fun A k W h1 h2 => print_any (runL s).1 A k W h1 h2 hv)
  rw [show parseL (linesOf s) [] = runL s from rfl] at HPA
  generalize runL s = R at *
  obtain ⟨l, n, er⟩ := R
  simp only at HPA HPR HPP hpe hvl
  have HT := Lib.hid (fun A k W h => theirs_any l A k W h (by omega))
  have HSM := Lib.hid (fun A B k j W h1 h2 => rsame_any l l A B k j W h1 h2 (by omega) (by omega))
  rw [same_iff.2 rfl] at HSM
  have HPE := Lib.hid hpe
  have HK0 := Lib.hid (Kept.start w)
  clear hv hpe
  go_enter Tryz.func3, Tryz.ntmps3
  go_wp2_with fail
  refine (awake_any _ HG.out.laid).mono ?_
  rintro e w1 ⟨rfl, hb⟩
  have HK1 := Lib.hid (HK0.out.below hb)
  clear hb
  go_wp2_with fail
  refine (HPA.out _ (HG.out.below HK1.out.bel)).mono ?_
  rintro e w2 ⟨⟨v, rfl, hown⟩, hb⟩
  obtain ⟨Apa, cpa, rfl, hcpa⟩ := own_shape hown
  have HK2 := Lib.hid ((HK1.out.below hb).add (Row.of_own hown))
  clear hown hb
  go_wp2_with fail
  refine (HPR.out _).mono ?_
  rintro e w3 ⟨⟨v, rfl, hown⟩, hb⟩
  obtain ⟨Apb, cpb, rfl, hcpb⟩ := own_shape hown
  have HK3 := Lib.hid ((HK2.out.below hb).add (Row.of_own hown))
  clear hown hb
  go_wp2_with fail
  refine (HT.out _ _ _ (HK3.out.r 0 rfl)).mono ?_
  rintro e w4 ⟨⟨v, rfl, hown⟩, hb⟩
  obtain ⟨Ath, cth, rfl, hcth⟩ := own_shape hown
  have HK4 := Lib.hid ((HK3.out.below hb).add (Row.of_own hown))
  clear hown hb
  go_wp2_with fail
  refine (HSM.out _ _ _ _ _ (HK4.out.r 2 rfl) (HK4.out.r 1 rfl)).mono ?_
  rintro e w5 ⟨rfl, hb⟩
  have HK5 := Lib.hid (HK4.out.below hb)
  clear hb
  go_wp2_with fail
  refine (HPP.out _ _ _ (HG.out.below HK5.out.bel).laid (HK5.out.r 0 rfl)).mono ?_
  rintro e w6 ⟨rfl, hb⟩
  have HK6 := Lib.hid (HK5.out.below hb)
  clear hb
  rcases HPE.out with ⟨h0, hp⟩ | h0
  · subst h0
    rw [hp]
    go_wp2
    go_ret
    exact ⟨rfl, HK6.out.bel⟩
  · have h0b : (er == 0) = false := by simpa using h0
    go_wp2
    go_ret
    exact ⟨rfl, HK6.out.bel⟩
theorem ncodeParse_bytes (x : ByteArray) (w : World) (hG : Glob w) :
    Calls Tryz.prog 3 #[.string x] w fun e w' => e = .returned (.bool true) ∧ Below w.heap.size w w' := by
  have h := ncodeParse_walk x.data.toList w hG
  rwa [show ByteArray.mk x.data.toList.toArray = x by cases x; simp] at h
end Go.Proofs.YtonpbomjjamphaaGreatDoor.NcW
