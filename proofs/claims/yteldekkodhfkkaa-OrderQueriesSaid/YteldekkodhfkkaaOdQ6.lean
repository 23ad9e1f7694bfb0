/- Walks: two lists of texts that are one; the law OrderQueries. Conditions: the lists lie in memory. -/
import Derived.Test.YteldekkodhfkkaaOdQ2
import Derived.Test.YteldekkodhfkkaaOdQ5
import Derived.Test.YteldekkodhfkkaaOdRO
import Derived.Test.YteldekkodhfkkaaOdOpen
import Derived.Test.YteldekkodhfkkaaOdF
namespace Go.Proofs.Yteldekkodhfkkaa.OdW
open Go Go.RowKit Go.Proofs.Yteldekkodhfkkaa.Mem

set_option maxRecDepth 100000 in
set_option maxHeartbeats 1000000 in
theorem rtexts_one (l : List Nd) (A B : Option Addr) (c d : Nat) (w : World) (hr : Row w A (l.flatMap ocCells)) (hs : Row w B (l.flatMap ocCells)) (hl : l.length ≤ 1000000) :
    Calls Try.prog 26 #[.slice A l.length c, .slice B l.length d] w fun e w' => e = .returned (.bool true) ∧ Below w.heap.size w w' := by
  have HA := Lib.hid hr
  have HB := Lib.hid hs
  clear hr hs
  have hn : ((l.length : Int) != (l.length : Int)) = false := by simp
  go_enter Try.func26, Try.ntmps26
  go_wp2
  go_loopw [5] (fun t wr => ∃ k : Nat, k ≤ l.length ∧ t = .int .i64 k ∧ Below w.heap.size w wr) (fun t _ => l.length - (intOf t).toNat)
  case atStart => exact ⟨0, Nat.zero_le _, rfl, Below.refl _ _⟩
  case round =>
    obtain ⟨k, hk, rfl, hbel⟩ := hrel
    by_cases hlt : k < l.length
    · obtain ⟨g, off, rfl, hg, ca⟩ := row_get oc_len (by decide) HA.out (by omega)
      obtain ⟨g2, off2, rfl, hg2, cb⟩ := row_get oc_len (by decide) HB.out (by omega)
      have a0 := (hbel.cell (p := ⟨g, _, none⟩) hg).trans (ca k hlt 0 (by decide))
      have b0 := (hbel.cell (p := ⟨g2, _, none⟩) hg2).trans (cb k hlt 0 (by decide))
      have hk1 : (0 : Int) ≤ (k : Int) := by omega
      have hk2 : (k : Int) < (l.length : Int) := by omega
      have es := text_eq l[k].1 l[k].1
      rw [decide_eq_true rfl] at es
      clear ca cb
      generalize l[k] = m at *
      simp only [ocCells, List.getElem?_cons_zero, Nat.add_zero, Nat.mul_one] at a0 b0
      generalize (ByteArray.mk m.1.toArray) = OB at *
      have es2 : (OB.toList != OB.toList) = false := by unfold bne; rw [es]; rfl
      go_wp2
      go_region
      as_aux_lemma =>
        go_wp2
        go_roundw
        case rel => exact ⟨k + 1, by omega, by go_num, below_drew hbel⟩
        case measure => simp [intOf]; omega
    · obtain rfl : k = l.length := by omega
      go_wp2
      go_ret
      exact ⟨rfl, hbel⟩

theorem late_len (l : List Od.It) (now : Int) : (late l now).length ≤ l.length := List.length_filter_le _ _
set_option maxRecDepth 100000 in
set_option maxHeartbeats 4000000 in
theorem orderQueries_walk (A : Option Addr) (len c : Nat) (l : List Od.It) (s : ByteArray) (n : Int) (w : World) (hr : Arg w A len c l) (hn : (Lit.int .i64 n).wf = true) :
    Calls Try.prog 8 #[.slice A len c, .string s, .int .i64 n] w fun e w' => e = .returned (.bool true) ∧ Below w.heap.size w w' := by
  obtain ⟨rfl, _, hr, hlm, _⟩ := hr
  have hni := bounds_i64 hn
  obtain ⟨p, rfl⟩ := text_of s
  have HFA := Lib.hid (fun A k W h => few_any l A k W h (max_i64 hlm))
  have HK0 := Lib.hid ((Kept.start w).add hr)
  cases hfl : few l
  · rw [hfl] at HFA
    clear hr hfl hn
    generalize (ByteArray.mk p.toArray) = PB at *
    go_enter Try.func8, Try.ntmps8
    go_wp2_with fail
    refine (awake_any _).mono ?_
    rintro e w1 ⟨rfl, hb⟩
    have HK1 := Lib.hid (HK0.out.below hb)
    clear hb HK0
    go_wp2_with fail
    refine (HFA.out _ _ _ (HK1.out.r 0 rfl)).mono ?_
    rintro e wx ⟨rfl, rfl⟩
    have hf := Lib.hid HK1.out.bel
    go_wp2
    go_ret
    exact ⟨rfl, hf.out⟩
  · have hl := (few_short hfl).1
    have HDL := Lib.hid (fun A k W h => deliver_any l p n A k W h (by omega) (few_shorts hfl) hni)
    have HDR := Lib.hid (fun A k W h => rdeliver_any l p n A k W h (by omega) (few_shorts hfl) hni)
    have HLL := Lib.hid (fun A k W h => late_any l n A k W h (by omega) (few_shorts hfl))
    have HLR := Lib.hid (fun A k W h => rlate_any l n A k W h (by omega) (few_shorts hfl))
    have HOL := Lib.hid (fun A k W h => orders_any l A k W h (by omega) (few_shorts hfl))
    have HOR := Lib.hid (fun A k W h => rorders_any l A k W h (by omega) (few_shorts hfl))
    have hdl := deliver_len (l := l) (p := p) (n := n)
    have hll := late_len l n
    have hol := orders_len l
    rw [hfl] at HFA
    clear hr hfl hn hni
    by_cases hp : p.length ≤ 40
    · have hps : (ByteArray.mk p.toArray).size ≤ 40 := by simpa [ByteArray.size] using hp
      clear hp
      generalize late l n = L at *
      generalize orders l = O at *
      generalize deliver l p n = DD at *
      obtain ⟨D, S, E⟩ := DD
      have HSM := Lib.hid (fun A B j k W h1 h2 => rsame_any D D A B j k W h1 h2 (by simp only at hdl; omega) (by simp only at hdl; omega))
      have HSL := Lib.hid (fun A B j k W h1 h2 => rsame_any L L A B j k W h1 h2 (by omega) (by omega))
      have HTX := Lib.hid (fun A B j k W h1 h2 => rtexts_one O A B j k W h1 h2 (by omega))
      rw [decide_eq_true rfl] at HSM HSL
      have HEE := Lib.hid (And.intro hdl (And.intro hll hol))
      clear hdl hll hol
      generalize (ByteArray.mk p.toArray) = PB at *
      go_enter Try.func8, Try.ntmps8
      go_wp2_with fail
      refine (awake_any _).mono ?_
      rintro e w1 ⟨rfl, hb⟩
      have HK1 := Lib.hid (HK0.out.below hb)
      clear hb HK0
      go_wp2_with fail
      refine (HFA.out _ _ _ (HK1.out.r 0 rfl)).mono ?_
      rintro e wx ⟨rfl, rfl⟩
      go_wp2_with fail
      refine (HDL.out _ _ _ (HK1.out.r 0 rfl)).mono ?_
      rintro e w2 ⟨A2, c2, rfl, hr2, hb⟩
      have HK2 := Lib.hid ((HK1.out.below hb).add hr2)
      clear hb hr2 HK1
      go_wp2_with fail
      refine (HDR.out _ _ _ (HK2.out.r 0 rfl)).mono ?_
      rintro e w3 ⟨A3, c3, rfl, hr3, hb⟩
      have HK3 := Lib.hid ((HK2.out.below hb).add hr3)
      clear hb hr3 HK2
      go_wp2_with fail
      refine (HSM.out _ _ _ _ _ (HK3.out.r 1 rfl) (HK3.out.r 2 rfl)).mono ?_
      rintro e w4 ⟨rfl, hb⟩
      have HK4 := Lib.hid (HK3.out.below hb)
      clear hb HK3
      go_wp2_with fail
      refine (HLL.out _ _ _ (HK4.out.r 0 rfl)).mono ?_
      rintro e w5 ⟨A5, c5, rfl, hr5, hb⟩
      have HK5 := Lib.hid ((HK4.out.below hb).add hr5)
      clear hb hr5 HK4
      go_wp2_with fail
      refine (HLR.out _ _ _ (HK5.out.r 0 rfl)).mono ?_
      rintro e w6 ⟨A6, c6, rfl, hr6, hb⟩
      have HK6 := Lib.hid ((HK5.out.below hb).add hr6)
      clear hb hr6 HK5
      go_wp2_with fail
      refine (HSL.out _ _ _ _ _ (HK6.out.r 3 rfl) (HK6.out.r 4 rfl)).mono ?_
      rintro e w7 ⟨rfl, hb⟩
      have HK7 := Lib.hid (HK6.out.below hb)
      clear hb HK6
      go_wp2_with fail
      refine (HOL.out _ _ _ (HK7.out.r 0 rfl)).mono ?_
      rintro e w8 ⟨A8, c8, rfl, hr8, hb⟩
      have HK8 := Lib.hid ((HK7.out.below hb).add hr8)
      clear hb hr8 HK7
      go_wp2_with fail
      refine (HOR.out _ _ _ (HK8.out.r 0 rfl)).mono ?_
      rintro e w9 ⟨A9, c9, rfl, hr9, hb⟩
      have HK9 := Lib.hid ((HK8.out.below hb).add hr9)
      clear hb hr9 HK8
      go_wp2_with fail
      refine (HTX.out _ _ _ _ _ (HK9.out.r 5 rfl) (HK9.out.r 6 rfl)).mono ?_
      rintro e w10 ⟨rfl, hb⟩
      have hf := Lib.hid (HK9.out.below hb).bel
      clear hb HK9
      go_wp2
      go_ret
      exact ⟨rfl, hf.out⟩
    · have hps : 40 < (ByteArray.mk p.toArray).size := by have : (ByteArray.mk p.toArray).size = p.length := by simp [ByteArray.size]
                                                          omega
      clear hp hdl hll hol
      generalize (ByteArray.mk p.toArray) = PB at *
      go_enter Try.func8, Try.ntmps8
      go_wp2_with fail
      refine (awake_any _).mono ?_
      rintro e w1 ⟨rfl, hb⟩
      have HK1 := Lib.hid (HK0.out.below hb)
      clear hb HK0
      go_wp2_with fail
      refine (HFA.out _ _ _ (HK1.out.r 0 rfl)).mono ?_
      rintro e wx ⟨rfl, rfl⟩
      have hf := Lib.hid HK1.out.bel
      go_wp2
      go_ret
      exact ⟨rfl, hf.out⟩
end Go.Proofs.Yteldekkodhfkkaa.OdW
