/- The law OrderDelivery, walked: all ways. Conditions: the list lies in memory; the number is a machine number. -/
import Derived.Test.YteldekkodhfkkaaOdF
namespace Go.Proofs.Yteldekkodhfkkaa.OdW
open Go Go.RowKit Go.Proofs.Yteldekkodhfkkaa.Mem

set_option maxRecDepth 100000 in
set_option maxHeartbeats 4000000 in
theorem orderDelivery_walk (A : Option Addr) (len c : Nat) (l : List Od.It) (s : ByteArray) (n : Int) (w : World) (hr : Arg w A len c l) (hn : (Lit.int .i64 n).wf = true) :
    Calls Try.prog 6 #[.slice A len c, .string s, .int .i64 n] w fun e w' => e = .returned (.bool true) ∧ Below w.heap.size w w' := by
  obtain ⟨rfl, _, hr, hlm, _⟩ := hr
  have hb := bounds_i64 hn
  clear hn
  obtain ⟨p, rfl⟩ := text_of s
  have HFA := Lib.hid (fun A k W h => few_any l A k W h (max_i64 hlm))
  have HK0 := Lib.hid ((Kept.start w).add hr)
  cases hfl : few l
  · rw [hfl] at HFA
    clear hr hfl
    generalize (ByteArray.mk p.toArray) = PB at *
    go_enter Try.func6, Try.ntmps6
    go_wp2_with fail
    refine (awake_any _).mono ?_
    rintro e w1 ⟨rfl, hb⟩
    have HK1 := Lib.hid (HK0.out.below hb)
    clear hb HK0
    go_wp2_with fail
    refine (HFA.out _ _ _ (HK1.out.r 0 rfl)).mono ?_
    rintro e wx ⟨rfl, rfl⟩
    have hf := Lib.hid HK1.out.bel
    go_wp2
    go_ret
    exact ⟨rfl, hf.out⟩
  · by_cases hneg : n < 0
    · have hz : decide (n < 0) = true := by simp; omega
      rw [hfl] at HFA
      clear hr hfl hneg
      generalize (ByteArray.mk p.toArray) = PB at *
      go_enter Try.func6, Try.ntmps6
      go_wp2_with fail
      refine (awake_any _).mono ?_
      rintro e w1 ⟨rfl, hb⟩
      have HK1 := Lib.hid (HK0.out.below hb)
      clear hb HK0
      go_wp2_with fail
      refine (HFA.out _ _ _ (HK1.out.r 0 rfl)).mono ?_
      rintro e wx ⟨rfl, rfl⟩
      have hf := Lib.hid HK1.out.bel
      go_wp2
      go_ret
      exact ⟨rfl, hf.out⟩
    · by_cases h0 : (normal l).2 = 0
      · exact orderDelivery_good l p n A c w hr hfl (by omega) hb.2 h0
      · have hl := (few_short hfl).1
        have hsl := few_shorts hfl
        have hz : decide (n < 0) = false := by simp; omega
        have HN := Lib.hid (fun A k W h => normal_any l A k W h (by omega) hsl)
        have HD := Lib.hid (fun A k W h => deliver_any l p n A k W h (by omega) hsl hb)
        rw [deliver_err h0] at HD
        rw [hfl] at HFA
        rcases (normal_two l).resolve_left h0 with h3 | h3
        all_goals
          rw [h3] at HD HN
          clear hr hfl h0 h3 hsl hneg
          generalize (ByteArray.mk p.toArray) = PB at *
          go_enter Try.func6, Try.ntmps6
          go_wp2_with fail
          refine (awake_any _).mono ?_
          rintro e w1 ⟨rfl, hb⟩
          have HK1 := Lib.hid (HK0.out.below hb)
          clear hb HK0
          go_wp2_with fail
          refine (HFA.out _ _ _ (HK1.out.r 0 rfl)).mono ?_
          rintro e wx ⟨rfl, rfl⟩
          go_wp2_with fail
          refine (HN.out _ _ _ (HK1.out.r 0 rfl)).mono ?_
          rintro e w2 ⟨A2, c2, rfl, hr2, hb⟩
          have HK2 := Lib.hid (HK1.out.below hb)
          clear hb hr2 HK1
          go_wp2_with fail
          refine (HD.out _ _ _ (HK2.out.r 0 rfl)).mono ?_
          rintro e w3 ⟨A3, c3, rfl, hr3, hb⟩
          have hf := Lib.hid (HK2.out.below hb).bel
          clear hb hr3 HK2
          go_wp2
          go_ret
          exact ⟨rfl, hf.out⟩
end Go.Proofs.Yteldekkodhfkkaa.OdW
