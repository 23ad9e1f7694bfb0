/- OrderText: Parse and Print return the specified results for any text and list; the text of a list is parsed to the same items. Conditions: none beyond the card's own (the listed variables hold what the program's text lays). -/
import Derived.Test.YteldekkodhfkkaaGreatDoorRows
import Derived.Test.YteldekkodhfkkaaGreatDoorLexW14
import Derived.MakeChecks
import Derived.Stop.LaidErr
import Derived.Test.YteldekkodhfkkaaGreatDoorPqP3
import Derived.Test.YteldekkodhfkkaaGreatDoorPqP2
import Derived.Test.YteldekkodhfkkaaGreatDoorPqP5
import Derived.Test.YteldekkodhfkkaaGreatDoorPqW6
import Derived.Test.YteldekkodhfkkaaGreatDoorPqR6
import Derived.Test.YteldekkodhfkkaaGreatDoorOdOpen
import Derived.Test.YteldekkodhfkkaaGreatDoorOdAw
import Derived.Test.YteldekkodhfkkaaGreatDoorCards
import Derived.Test.YteldekkodhfkkaaGreatDoorTie
import Derived.ProofKit
import Derived.LaidMore
import Derived.OpenShut
import Derived.Stop.Joined

namespace Go.Proofs.YteldekkodhfkkaaGreatDoor.LexW
open Go Go.RowKit Go.Proofs.YteldekkodhfkkaaGreatDoor.Mem

theorem var?_lt {P : Program} {W : World} {n : String} {g : Nat} {cs : Array Value} (hg : P.globalNamed n = some g) (h : W.var? P n = some cs) : g < W.heap.size := by
  unfold World.var? at h
  rw [hg] at h
  by_cases hl : g < W.heap.size
  · exact hl
  · simp only [Option.bind_some, Array.getElem?_eq_none (Nat.le_of_not_lt hl)] at h
    cases h
set_option maxRecDepth 100000 in
theorem laid_of {W : World} (h : laidMetH Tryz.prog Rows.orderTextRow.laid W) : Laid W := by
  rw [MakeChecks.laidMetH_plain _ _ _ (by kernel_rfl)] at h
  have h3 : laidMet Tryz.prog (("internal/strconv.uint64pow10", Lib.tabData .u64 Lib.pow10Tab) :: [("strconv.ErrRange", Rows.laid_strconv_ErrRange), ("strconv.ErrSyntax", Rows.laid_strconv_ErrSyntax)]) W := laidMet.tail (laidMet.tail h)
  have ht : Lib.TabIs Tryz.prog W "internal/strconv.uint64pow10" .u64 Lib.pow10Tab := Lib.tabIs_of_head gPow (t := 138) (e := 86) (n := 20) (by kernel_rfl) (by kernel_rfl) (by kernel_rfl) (by kernel_rfl) (by kernel_rfl) h3
  exact ⟨ht, var?_lt gPow ht⟩
end Go.Proofs.YteldekkodhfkkaaGreatDoor.LexW

namespace Go.Proofs.YteldekkodhfkkaaGreatDoor.OdW
open Go Go.RowKit Go.Proofs.YteldekkodhfkkaaGreatDoor.Mem Go.Proofs.YteldekkodhfkkaaGreatDoor.LexW Go.Proofs.YteldekkodhfkkaaGreatDoor.PqW

theorem text_of (s : ByteArray) : ∃ p : List UInt8, s = ⟨p.toArray⟩ := ⟨s.data.toList, by cases s; simp⟩
theorem parse_len {b : Bool} {l : List UInt8} : (Pq.parse b l).1.length ≤ 100 := by
  unfold Pq.parse Pq.result
  split
  · simp
  · split
    · simp
    · split
      · simp
      · simp only; omega
theorem print_ways {l : List Od.It} : (Pq.print l).2 ≠ 0 ∨ ((Pq.print l).2 = 0 ∧ Pq.parse true (Pq.print l).1 = (l, 0, 0)) := by
  unfold Pq.print
  by_cases h : Od.valid l = true
  · rw [if_pos h]
    exact .inr ⟨rfl, Pq.text_back true h⟩
  · rw [if_neg h]
    exact .inl (by simp)
set_option maxRecDepth 100000 in
set_option maxHeartbeats 4000000 in
theorem orderText_walk (s : ByteArray) (A : Option Addr) (len c : Nat) (l : List Od.It) (w : World) (hr : Arg w A len c l) (hL : Laid w) :
    Calls Tryz.prog 3 #[.string s, .slice A len c] w fun e w' => e = .returned (.bool true) ∧ Below w.heap.size w w' := by
  obtain ⟨rfl, _, hr, hlm, _⟩ := hr
  have HFA := Lib.hid (fun A k W h => few_any l A k W h (max_i64 hlm))
  have HK0 := Lib.hid ((Kept.start w).add hr)
  have HL := Lib.hid hL
  clear hL
  by_cases hp : s.size ≤ 1500
  · cases hfl : few l
    · rw [hfl] at HFA
      clear hr hfl
      go_enter Tryz.func3, Tryz.ntmps3
      go_wp2_with fail
      refine (awake_any _).mono ?_
      rintro e w1 ⟨rfl, hb⟩
      have HK1 := Lib.hid (HK0.out.below hb)
      clear hb HK0
      go_wp2_with fail
      refine (HFA.out _ _ _ (HK1.out.r 0 rfl)).mono ?_
      rintro e wx ⟨rfl, rfl⟩
      have hf := Lib.hid HK1.out.bel
      go_wp2
      go_ret
      exact ⟨rfl, hf.out⟩
    · have hl := (few_short hfl).1
      have hpl := parse_len (b := true) (l := s.data.toList)
      have hways := print_ways (l := l)
      have HPA := Lib.hid (fun W => parse_any s W)
      have HPR := Lib.hid (fun W => rparse_any s W)
      rw [Pq.parse_like false true] at HPR
      have HTA := Lib.hid (fun A k W hL h => print_any l A k W hL h (by omega) (few_shorts hfl))
      have HTR := Lib.hid (fun A k W h => rprint_any l A k W h (by omega) (few_shorts hfl))
      have HSB := Lib.hid (fun A B j k W h1 h2 => rsame_any l l A B j k W h1 h2 (by omega) (by omega))
      rw [hfl] at HFA
      clear hr hfl
      generalize Pq.parse true s.data.toList = PP at *
      obtain ⟨D, pn, pe⟩ := PP
      generalize Pq.print l = TT at *
      obtain ⟨T, te⟩ := TT
      simp only at hpl hways
      have HPB := Lib.hid (fun W => parse_any ⟨T.toArray⟩ W)
      simp only at HPB
      have HSM := Lib.hid (fun A B j k W h1 h2 => rsame_any D D A B j k W h1 h2 (by omega) (by omega))
      rw [decide_eq_true rfl] at HSM HSB
      unfold ParsePost at HPA HPR HPB
      simp only at HPA HPR HTA HTR
      have tself : ((ByteArray.mk T.toArray).toList != (ByteArray.mk T.toArray).toList) = false := by
        have := text_eq T T
        rw [decide_eq_true rfl] at this
        unfold bne; rw [this]; rfl
      have hps : (s.size : Int) ≤ 1500 := by omega
      go_enter Tryz.func3, Tryz.ntmps3
      go_wp2_with fail
      refine (awake_any _).mono ?_
      rintro e w1 ⟨rfl, hb⟩
      have HK1 := Lib.hid (HK0.out.below hb)
      clear hb HK0
      go_wp2_with fail
      refine (HFA.out _ _ _ (HK1.out.r 0 rfl)).mono ?_
      rintro e wx ⟨rfl, rfl⟩
      go_wp2_with fail
      refine (HPA.out _).mono ?_
      rintro e w2 ⟨A2, c2, rfl, hr2, hb⟩
      have HK2 := Lib.hid ((HK1.out.below hb).add hr2)
      clear hb hr2 HK1
      go_wp2_with fail
      refine (HPR.out _).mono ?_
      rintro e w3 ⟨A3, c3, rfl, hr3, hb⟩
      have HK3 := Lib.hid ((HK2.out.below hb).add hr3)
      clear hb hr3 HK2
      go_wp2_with fail
      refine (HTA.out _ _ _ (HL.out.below HK3.out.bel) (HK3.out.r 0 rfl)).mono ?_
      rintro e w4 ⟨rfl, hb⟩
      have HK4 := Lib.hid (HK3.out.below hb)
      clear hb HK3
      go_wp2_with fail
      refine (HTR.out _ _ _ (HK4.out.r 0 rfl)).mono ?_
      rintro e w5 ⟨rfl, hb⟩
      have HK5 := Lib.hid (HK4.out.below hb)
      clear hb HK4
      go_wp2_with fail
      refine (HSM.out _ _ _ _ _ (HK5.out.r 1 rfl) (HK5.out.r 2 rfl)).mono ?_
      rintro e w6 ⟨rfl, hb⟩
      have HK6 := Lib.hid (HK5.out.below hb)
      clear hb HK5
      go_wp2_with fail
      refine (HPB.out _).mono ?_
      rintro e w7 ⟨A7, c7, rfl, hr7, hb⟩
      have HK7 := Lib.hid ((HK6.out.below hb).add hr7)
      clear hb hr7 HK6
      rcases hways with hne | ⟨rfl, hback⟩
      · have hf := Lib.hid HK7.out.bel
        have hne' : (te != 0) = true := by simpa using hne
        go_wp2
        go_ret
        exact ⟨rfl, hf.out⟩
      · rw [hback] at HK7 ⊢
        simp only at HK7 ⊢
        go_wp2_with fail
        refine (HSB.out _ _ _ _ _ (HK7.out.r 3 rfl) (HK7.out.r 0 rfl)).mono ?_
        rintro e w8 ⟨rfl, hb⟩
        have hf := Lib.hid (HK7.out.below hb).bel
        clear hb HK7
        go_wp2
        go_ret
        exact ⟨rfl, hf.out⟩
  · have hps : 1500 < s.size := by omega
    clear hp hr
    go_enter Tryz.func3, Tryz.ntmps3
    go_wp2_with fail
    refine (awake_any _).mono ?_
    rintro e w1 ⟨rfl, hb⟩
    have hf := Lib.hid (HK0.out.below hb).bel
    clear hb HK0
    go_wp2
    go_ret
    exact ⟨rfl, hf.out⟩
end Go.Proofs.YteldekkodhfkkaaGreatDoor.OdW

namespace Go.Proofs.YteldekkodhfkkaaGreatDoor.OrderTextDone
open Go.ChangeShapes Go.WideShapes Go.ChangeAt Go.RowKit
open Go.ChangeMaps (open_string shut_string)

theorem own : ownKnob Tryz.prog.godebug = none := by kernel_rfl
theorem laidOut : laidOutB Tryz.prog = true := by kernel_rfl
theorem door_met (os : Os) (args : Array Value) : laidMetH Tryz.prog Rows.orderTextRow.laid ((World.doorLaid Tryz.prog 4000 os).forCall (fun _ _ => 0) ⟨#[], args, []⟩).memory :=
  laidMetH_of_parts3 (fuel := 8) (laidMet_of_run' 8 (by kernel_rfl) (by kernel_rfl)) (by kernel_rfl) (by kernel_rfl)

set_option maxRecDepth 100000 in
theorem lifted (os : Os) (started : os.Started) (H : Type) (enc : TypeId × Value → H) :
    ReturnsInHanded {} Tryz.checked os 3 .any (fun w args => (Rows.orderTextSpec.pre enc Tryz.prog Tryz.f3 [] false w args ∧ laidMetH Tryz.prog Rows.orderTextRow.laid w) ∧ sizedMet enc Tryz.prog Tryz.f3 (OpenSpec.ofChange Rows.orderTextSpec) false w args)
      (Rows.orderTextSpec.post enc Tryz.prog Tryz.f3 false true false false) := by
  refine returnsInHanded_of_change_and (C := Tryz.checked) (X := fun w _ => laidMetH Tryz.prog Rows.orderTextRow.laid w) (fun _ _ _ hh h => h.of_heap hh) own started (by kernel_rfl) Tryz.func3
    (ChangeSpec.witness_shaped (enc := enc) (C := Tryz.checked) (os := os) (X := fun w _ => laidMetH Tryz.prog Rows.orderTextRow.laid w) false (World.doorLaid Tryz.prog 4000 os) #[.string ⟨#[]⟩, .slice none 0 0] 8 rfl (World.shaped_of_RefB (by kernel_rfl) (by kernel_rfl)) (by kernel_rfl) (by kernel_rfl) (by kernel_rfl) (door_met os _)) ?_
  intro W base args ds gs before hval0 hW _ _ hL _
  have hval : ∀ (j : Nat) t v, Tryz.f3.params[j]? = some t → args[j]? = some v → Value.okWide Tryz.prog W .any base t v := hval0
  have hW' := hW
  obtain ⟨p, q, hA0, hV, rfl, hfz, hnd⟩ := hW
  have hA : DataW.TrodAll enc Tryz.prog W 0 (fun _ => true) true Tryz.f3.params.toList args.toList ds p := hA0
  rw [Tryz.params3] at hA hval
  obtain ⟨v0, vs0, d0, ds0, p0, q0, hargs, rfl, rfl, h0, r0⟩ := trodAll_cons hA
  obtain ⟨v1, vs1, d1, ds1, p1, q1, rfl, rfl, rfl, h1, r1⟩ := trodAll_cons r0
  obtain ⟨rfl, rfl, rfl⟩ := trodAll_nil r1
  obtain rfl : args = #[v0, v1] := by cases args; simp_all
  obtain ⟨rfl, rfl⟩ := trodVars_none hV
  obtain ⟨x0, rfl, rfl, rfl, s0⟩ := open_string Tryz.underlying9 (hval 0 9 v0 rfl rfl) h0
  have k1 := h1
  have lt1 : ∀ x ∈ p1, x.block < W.heap.size := by obtain ⟨m, hm⟩ := k1; exact DataW.trod_lt m _ _ _ hm
  obtain ⟨A1, len1, cap1, rfl⟩ := okWide_slice Tryz.underlying22 (hval 1 22 v1 rfl rfl)
  obtain ⟨x1, s1⟩ := OdW.open_items h1
  clear hA0 hval0
  simp only [List.append_nil] at hW'
  refine (OdW.orderText_walk x0 A1 len1 cap1 x1 W s1 (LexW.laid_of hL)).mono fun e W' ⟨he, bel⟩ => ?_
  subst he
  exact ⟨_, rfl, _, _, _, [], _, [], hW', trodAll_mk1 (shut_bool Tryz.underlying4 _), (trodAll_cons_mk (shut_string Tryz.underlying9 s0) (trodAll_cons_mk (Below.trod laidOut (by kernel_rfl) (of_decide_eq_true (by kernel_rfl)) k1 bel lt1) trodAll_mk0)), rfl, bel.frame _, fun h => by cases h⟩

theorem said : Rows.OrderTextSaid :=
  OpenClaim.holds_of_wide 3 Tryz.f3 rfl rfl rfl rfl rfl rfl rfl ⟨rfl, rfl, rfl, rfl, rfl⟩ rfl rfl rfl rfl rfl (by kernel_rfl) Tryz.func3 (by kernel_rfl)
    (of_decide_eq_true (by kernel_rfl)) (by unfold Func.isWrapper; first | (rw [if_pos (by decide +kernel)]; kernel_rfl) | (rw [if_neg (by decide +kernel)]; exact ⟨rfl, rfl⟩))
    (fun os started H enc _ => lifted os started H enc)

theorem plain (f : FuncId) (fn : Func) (hf : Tryz.pinned.checked.prog.funcNamed "fretsaw/fretsawlaw24.OrderText" = some f) (hfn : Tryz.pinned.checked.prog.funcs[f]? = some fn) :
    true = Tryz.pinned.checked.prog.looks [] ∧ ∀ (j : Nat) t, fn.params[j]? = some t → Tryz.pinned.checked.prog.wantsStandIn t = false := by
  obtain rfl : f = 3 := Option.some.inj ((show Tryz.prog.funcNamed "fretsaw/fretsawlaw24.OrderText" = some 3 by kernel_rfl).symm.trans hf) |>.symm
  obtain rfl : fn = Tryz.f3 := (Option.some.inj (Tryz.func3.symm.trans hfn)).symm
  refine ⟨by kernel_rfl, fun j t ht => ?_⟩
  rw [Tryz.params3] at ht
  have hm : t ∈ [9, 22] := by simpa using Array.mem_of_getElem? ht
  have hall : ([9, 22].all fun u => !Tryz.prog.wantsStandIn u) = true := by kernel_rfl
  exact (show Tryz.prog.wantsStandIn t = false by simpa using List.all_eq_true.1 hall t hm)

theorem card : Rows.OrderTextCardSaid :=
  Claim7.holds_tied_plain_at .later [] _ _ _ _ said (fun _ h => by cases h) (by kernel_rfl) (fun _ h => by cases h) orderText_row_tie rfl ⟨rfl, rfl⟩ (by kernel_rfl) rfl plain (by kernel_rfl)
#print axioms card
end Go.Proofs.YteldekkodhfkkaaGreatDoor.OrderTextDone
