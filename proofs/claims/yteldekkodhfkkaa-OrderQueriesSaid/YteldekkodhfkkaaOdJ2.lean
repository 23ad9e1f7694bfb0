/- The law OrderJoined, walked: all ways. Conditions: the lists lie in memory. -/
import Derived.Test.YteldekkodhfkkaaOdJ
namespace Go.Proofs.Yteldekkodhfkkaa.OdW
open Go Go.RowKit Go.Proofs.Yteldekkodhfkkaa.Mem

/-- A list of items that came in. -/
def Arg (w : World) (A : Option Addr) (len c : Nat) (l : List Od.It) : Prop := l.length = len ∧ (∀ x ∈ l, (Lit.int .i64 x.q).wf = true ∧ (Lit.int .i64 x.d).wf = true) ∧ Row w A (l.flatMap itCells) ∧ len ≤ maxLen ∧ len ≤ c
theorem max_i64 {n : Nat} (h : n ≤ maxLen) : n ≤ 9223372036854775807 := by unfold maxLen at h; omega
set_option maxRecDepth 100000 in
set_option maxHeartbeats 4000000 in
theorem orderJoined_walk (A : Option Addr) (len c : Nat) (l : List Od.It) (B : Option Addr) (len2 d : Nat) (m : List Od.It) (w : World) (hr : Arg w A len c l) (hs : Arg w B len2 d m) :
    Calls Try.prog 5 #[.slice A len c, .slice B len2 d] w fun e w' => e = .returned (.bool true) ∧ Below w.heap.size w w' := by
  obtain ⟨rfl, _, hr, hlm, _⟩ := hr
  obtain ⟨rfl, _, hs, hlm2, _⟩ := hs
  have HFA := Lib.hid (fun A k W h => few_any l A k W h (max_i64 hlm))
  have HFB := Lib.hid (fun A k W h => few_any m A k W h (max_i64 hlm2))
  have HK0 := Lib.hid (((Kept.start w).add hr).add hs)
  cases hfl : few l
  · rw [hfl] at HFA
    clear hr hs hfl
    go_enter Try.func5, Try.ntmps5
    go_wp2_with fail
    refine (awake_any _).mono ?_
    rintro e w1 ⟨rfl, hb⟩
    have HK1 := Lib.hid (HK0.out.below hb)
    clear hb HK0
    go_wp2_with fail
    refine (HFA.out _ _ _ (HK1.out.r 0 rfl)).mono ?_
    rintro e wx ⟨rfl, rfl⟩
    have hf := Lib.hid HK1.out.bel
    go_wp2
    go_ret
    exact ⟨rfl, hf.out⟩
  · have hl := (few_short hfl).1
    cases hfm : few m
    · rw [hfl] at HFA
      rw [hfm] at HFB
      clear hr hs hfl hfm
      go_enter Try.func5, Try.ntmps5
      go_wp2_with fail
      refine (awake_any _).mono ?_
      rintro e w1 ⟨rfl, hb⟩
      have HK1 := Lib.hid (HK0.out.below hb)
      clear hb HK0
      go_wp2_with fail
      refine (HFA.out _ _ _ (HK1.out.r 0 rfl)).mono ?_
      rintro e wx ⟨rfl, rfl⟩
      go_wp2_with fail
      refine (HFB.out _ _ _ (HK1.out.r 1 rfl)).mono ?_
      rintro e wx ⟨rfl, rfl⟩
      have hf := Lib.hid HK1.out.bel
      go_wp2
      go_ret
      exact ⟨rfl, hf.out⟩
    · have hl2 := (few_short hfm).1
      by_cases hlen : l.length + m.length ≤ 60
      · by_cases h1 : (normal l).2 = 0
        · by_cases h2 : (normal m).2 = 0
          · exact orderJoined_good l m A B c d w hr hs hfl hfm hlen h1 h2
          · have HNL := Lib.hid (fun A k W h => normal_any l A k W h (by omega) (few_shorts hfl))
            have HNM := Lib.hid (fun A k W h => normal_any m A k W h (by omega) (few_shorts hfm))
            have d60 : decide ((60 : Int) < (l.length : Int) + (m.length : Int)) = false := by simp; omega
            rw [hfl] at HFA
            rw [hfm] at HFB
            rw [h1] at HNL
            rcases (normal_two m).resolve_left h2 with h3 | h3
            all_goals
              rw [h3] at HNM
              clear hr hs hfl hfm h1 h2 h3 hlen
              go_enter Try.func5, Try.ntmps5
              go_wp2_with fail
              refine (awake_any _).mono ?_
              rintro e w1 ⟨rfl, hb⟩
              have HK1 := Lib.hid (HK0.out.below hb)
              clear hb HK0
              go_wp2_with fail
              refine (HFA.out _ _ _ (HK1.out.r 0 rfl)).mono ?_
              rintro e wx ⟨rfl, rfl⟩
              go_wp2_with fail
              refine (HFB.out _ _ _ (HK1.out.r 1 rfl)).mono ?_
              rintro e wx ⟨rfl, rfl⟩
              go_wp2_with fail
              refine (HNL.out _ _ _ (HK1.out.r 0 rfl)).mono ?_
              rintro e w2 ⟨A2, c2, rfl, hr2, hb⟩
              have HK2 := Lib.hid (HK1.out.below hb)
              clear hb HK1 hr2
              go_wp2_with fail
              refine (HNM.out _ _ _ (HK2.out.r 1 rfl)).mono ?_
              rintro e w3 ⟨A3, c3, rfl, hr3, hb⟩
              have hf := Lib.hid (HK2.out.below hb).bel
              clear hb HK2 hr3
              go_wp2
              go_ret
              exact ⟨rfl, hf.out⟩
        · have HNL := Lib.hid (fun A k W h => normal_any l A k W h (by omega) (few_shorts hfl))
          have HNM := Lib.hid (fun A k W h => normal_any m A k W h (by omega) (few_shorts hfm))
          have d60 : decide ((60 : Int) < (l.length : Int) + (m.length : Int)) = false := by simp; omega
          rw [hfl] at HFA
          rw [hfm] at HFB
          rcases (normal_two l).resolve_left h1 with h3 | h3
          all_goals
            rw [h3] at HNL
            clear hr hs hfl hfm h1 h3 hlen
            go_enter Try.func5, Try.ntmps5
            go_wp2_with fail
            refine (awake_any _).mono ?_
            rintro e w1 ⟨rfl, hb⟩
            have HK1 := Lib.hid (HK0.out.below hb)
            clear hb HK0
            go_wp2_with fail
            refine (HFA.out _ _ _ (HK1.out.r 0 rfl)).mono ?_
            rintro e wx ⟨rfl, rfl⟩
            go_wp2_with fail
            refine (HFB.out _ _ _ (HK1.out.r 1 rfl)).mono ?_
            rintro e wx ⟨rfl, rfl⟩
            go_wp2_with fail
            refine (HNL.out _ _ _ (HK1.out.r 0 rfl)).mono ?_
            rintro e w2 ⟨A2, c2, rfl, hr2, hb⟩
            have HK2 := Lib.hid (HK1.out.below hb)
            clear hb HK1 hr2
            go_wp2_with fail
            refine (HNM.out _ _ _ (HK2.out.r 1 rfl)).mono ?_
            rintro e w3 ⟨A3, c3, rfl, hr3, hb⟩
            have hf := Lib.hid (HK2.out.below hb).bel
            clear hb HK2 hr3
            go_wp2
            go_ret
            exact ⟨rfl, hf.out⟩
      · have d60 : decide ((60 : Int) < (l.length : Int) + (m.length : Int)) = true := by simp; omega
        rw [hfl] at HFA
        rw [hfm] at HFB
        clear hr hs hfl hfm hlen
        go_enter Try.func5, Try.ntmps5
        go_wp2_with fail
        refine (awake_any _).mono ?_
        rintro e w1 ⟨rfl, hb⟩
        have HK1 := Lib.hid (HK0.out.below hb)
        clear hb HK0
        go_wp2_with fail
        refine (HFA.out _ _ _ (HK1.out.r 0 rfl)).mono ?_
        rintro e wx ⟨rfl, rfl⟩
        go_wp2_with fail
        refine (HFB.out _ _ _ (HK1.out.r 1 rfl)).mono ?_
        rintro e wx ⟨rfl, rfl⟩
        have hf := Lib.hid HK1.out.bel
        go_wp2
        go_ret
        exact ⟨rfl, hf.out⟩
end Go.Proofs.Yteldekkodhfkkaa.OdW
