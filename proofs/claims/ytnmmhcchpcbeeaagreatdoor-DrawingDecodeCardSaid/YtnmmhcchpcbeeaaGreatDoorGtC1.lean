/- The law DrawingDecode of chapter 23 is proved. Conditions: none beyond the card's own (the listed variables hold what the program's text lays). -/
import Derived.Test.YtnmmhcchpcbeeaaGreatDoorGtEd
import Derived.Test.YtnmmhcchpcbeeaaGreatDoorGtRj
import Derived.Test.YtnmmhcchpcbeeaaGreatDoorGtNb
import Derived.Test.YtnmmhcchpcbeeaaGreatDoorAwk
import Derived.Test.YtnmmhcchpcbeeaaGreatDoorRows
import Derived.Test.YtnmmhcchpcbeeaaGreatDoorGtH
import Derived.MakeChecks
import Derived.OpenShut
import Derived.HandedShaped
import Derived.Handed
import Derived.Shelf.Vars
import Derived.Stop.LaidErr
import Derived.Test.YtnmmhcchpcbeeaaGreatDoorCards
import Derived.Test.YtnmmhcchpcbeeaaGreatDoorTie
import Derived.ProofKit
import Derived.Lay
import Derived.LaidMore
import Derived.Stop.Joined

namespace Go.Proofs.YtnmmhcchpcbeeaaGreatDoor.GtW
open Go Go.RowKit Go.Proofs.YtnmmhcchpcbeeaaGreatDoor.Mem Go.Proofs.YtnmmhcchpcbeeaaGreatDoor.Gt Go.Proofs.YtnmmhcchpcbeeaaGreatDoor.Ge
open Go.Proofs.YtnmmhcchpcbeeaaGreatDoor.GeW (EntV entVals PtsIn Ents)
attribute [local go_sem ↓] Go.wp_at_zero Go.wp_at_succ
theorem dec_len (t : List UInt8) : (dec t).1.length ≤ 200 := by
 by_cases h : (dec t).2.2 = 0
 ·have := (dec_back h).1
  unfold drawOk at this
  rw [Bool.and_eq_true, decide_eq_true_eq] at this
  exact this.1
 ·unfold dec at h ⊢
  split
  ·simp
  ·rename_i hc
   rw [if_neg hc] at h
   exact absurd rfl h
set_option maxRecDepth 100000 in
set_option maxHeartbeats 4000000 in
theorem decode_law (s : List UInt8) (w : World) (hG : Glob w) :
  Calls Tryz.prog 3 #[.string ⟨s.toArray⟩] w fun e w' => e = .returned (.bool true) ∧ Below w.heap.size w w' := by
 have HAW := Lib.hid (GeW.awake_any w)
 have hsz : (ByteArray.mk s.toArray).size = s.length := str_size s
 by_cases hs : s.length ≤ 2000
 ·have hd : decide ((2000 : Int) < (s.length : Int)) = false := decide_eq_false (by omega)
  have hd2 : decide (2000 < s.length) = false := decide_eq_false (by omega)
  have HD := Lib.hid (fun W hW => decode_any s (by omega) W hW)
  have HRD := Lib.hid (fun W => rdecode_any s (by omega) W)
  have HEN := Lib.hid (fun (xs : List EntV) A c W hW hx h1 => encode_any xs A c W hW hx h1)
  have HDL := Lib.hid (dec_len s)
  have HBK := Lib.hid (fun h => @dec_back s h)
  generalize dec s = DE at *
  obtain ⟨es, pn, er⟩ := DE
  simp only at HD HRD HDL HBK
  have HGG := Lib.hid hG
  have n1 : (er != er) = false := bne_self_eq_false er
  have n2 : ((pn : Int) != (pn : Int)) = false := bne_self_eq_false _
  clear hG
  obtain ⟨SB, HSB⟩ : ∃ SB, Hid (ByteArray.mk s.toArray = SB) := ⟨_, Lib.hid rfl⟩
  rw [HSB.out] at HD HRD hsz ⊢
  have b1 : (SB == SB) = true := ba_self SB
  go_enter Tryz.func3, Tryz.ntmps3
  go_wp2_with fail
  refine HAW.out.mono ?_
  rintro e w1 ⟨rfl, hb1⟩
  have HB1 := Lib.hid hb1
  have HG1 := Lib.hid (HGG.out.below hb1)
  clear hb1 HAW
  go_wp2_with fail
  refine (HD.out w1 HG1.out).mono ?_
  rintro e w2 ⟨A, d, xs, rfl, hm, hx, hb2⟩
  have HB2 := Lib.hid (HB1.out.trans (hb2.mono HB1.out.size))
  have HX := Lib.hid hx
  have HM := Lib.hid hm
  clear hb2 hx hm HD
  go_wp2_with fail
  refine (HRD.out w2).mono ?_
  rintro e w3 ⟨A3, d3, ys, rfl, hm, hy, hb3⟩
  have HB3 := Lib.hid (HB2.out.trans (hb3.mono HB2.out.size))
  have HX3 := Lib.hid (HX.out.below hb3)
  have HY := Lib.hid hy
  have HMY := Lib.hid hm
  have hl1 : xs.length ≤ 1000 := by have h1 := congrArg List.length HM.out; have h2 := HDL.out; rw [List.length_map] at h1; omega
  clear hb3 hy hm HRD HX
  go_wp2_with fail
  refine (theirs_all xs A d w3 HX3.out hl1).mono ?_
  rintro e w4 ⟨A4, d4, rfl, hx4, hb4⟩
  have HB4 := Lib.hid (HB3.out.trans (hb4.mono HB3.out.size))
  have HX4 := Lib.hid hx4
  have HY4 := Lib.hid (HY.out.below hb4)
  have HP4 := Lib.hid (HX3.out.below hb4)
  clear hb4 hx4
  go_wp2_with fail
  refine (sameEnts_eq xs ys A4 A3 d4 d3 w4 HX4.out HY4.out (HM.out.trans HMY.out.symm)).mono ?_
  rintro e w5 ⟨rfl, hb5⟩
  have HB5 := Lib.hid (HB4.out.trans (hb5.mono HB4.out.size))
  have HP5 := Lib.hid (HP4.out.below hb5)
  clear hb5
  have HEN5 := Lib.hid (HEN.out xs A d w5 (HGG.out.below HB5.out) HP5.out hl1)
  rw [HM.out] at HEN5
  clear HEN
  by_cases he : er = 0
  ·have hbk := HBK.out he
   have HE5 := HEN5
   rw [if_pos hbk.1, if_pos hbk.1, hbk.2.1, HSB.out] at HE5
   subst he
   go_wp2_with fail
   refine HE5.out.mono ?_
   rintro e w6 ⟨rfl, hb6⟩
   go_wp2
   go_ret
   exact ⟨rfl, HB5.out.trans (hb6.mono HB5.out.size)⟩
  ·have m1 : (er != 0) = true := bne_iff_ne.2 he
   go_wp2_with fail
   refine HEN5.out.mono ?_
   rintro e w6 ⟨rfl, hb6⟩
   go_wp2
   all_goals
    go_ret
    exact ⟨rfl, HB5.out.trans (hb6.mono HB5.out.size)⟩
 ·have hd : decide ((2000 : Int) < (s.length : Int)) = true := decide_eq_true (by omega)
  have hd2 : decide (2000 < s.length) = true := decide_eq_true (by omega)
  generalize (ByteArray.mk s.toArray) = SB at *
  go_enter Tryz.func3, Tryz.ntmps3
  go_wp2_with fail
  refine HAW.out.mono ?_
  rintro e w1 ⟨rfl, hb1⟩
  go_wp2
  go_ret
  exact ⟨rfl, hb1⟩
theorem decode_bytes (x : ByteArray) (w : World) (hG : Glob w) :
  Calls Tryz.prog 3 #[.string x] w fun e w' => e = .returned (.bool true) ∧ Below w.heap.size w w' := by
 have := decode_law x.data.toList w hG
 simpa using this
end Go.Proofs.YtnmmhcchpcbeeaaGreatDoor.GtW

namespace Go.Proofs.YtnmmhcchpcbeeaaGreatDoor.GtW
open Go Go.RowKit Go.Proofs.YtnmmhcchpcbeeaaGreatDoor.Mem

theorem var?_lt {P : Program} {W : World} {n : String} {g : Nat} {cs : Array Value} (hg : P.globalNamed n = some g) (h : W.var? P n = some cs) : g < W.heap.size := by
 unfold World.var? at h
 rw [hg] at h
 by_cases hl : g < W.heap.size
 ·exact hl
 ·simp only [Option.bind_some, Array.getElem?_eq_none (Nat.le_of_not_lt hl)] at h
  cases h
theorem gRange : Tryz.prog.globalNamed "strconv.ErrRange" = some 6 := by kernel_rfl
theorem gSyntax : Tryz.prog.globalNamed "strconv.ErrSyntax" = some 5 := by kernel_rfl
theorem star_err : "*" ++ "errors.errorString" = "*errors.errorString" := by decide
theorem row_err (u : TypeId) (h : Tryz.prog.typeName? 3 u = some "*errors.errorString") : u = 243 :=
 typeName_ptr_named (nm := "errors.errorString") (by rw [star_err]; kernel_rfl) (by kernel_rfl) (by decide) u (by rw [star_err]; exact h)
set_option maxRecDepth 100000 in
theorem glob_of {W : World} (h : laidMetH Tryz.prog Rows.drawingDecodeRow.laid W) (hs : W.ShapedOpen Tryz.prog) : Glob W := by
 rw [MakeChecks.laidMetH_plain _ _ _ (by kernel_rfl)] at h
 have h3 : laidMet Tryz.prog (("internal/strconv.uint64pow10", Lib.tabData .u64 Lib.pow10Tab) :: _) W := laidMet.tail (laidMet.tail h)
 have ht : Lib.TabIs Tryz.prog W "internal/strconv.uint64pow10" .u64 Lib.pow10Tab := Lib.tabIs_of_head gPow (t := 213) (e := 122) (n := 20) (by kernel_rfl) (by kernel_rfl) (by kernel_rfl) (by kernel_rfl) (by kernel_rfl) h3
 obtain ⟨a1, s1, hv1, _⟩ := laid_sentinel (laidMet.tail (laidMet.tail h3)) gRange (by kernel_rfl) Tryz.underlying79 row_err Tryz.underlying243 Tryz.underlying245 rfl rfl Tryz.underlying9 (by kernel_rfl) (by kernel_rfl)
 obtain ⟨a2, s2, hv2, _⟩ := laid_sentinel (laidMet.tail (laidMet.tail (laidMet.tail h3))) gSyntax (by kernel_rfl) Tryz.underlying79 row_err Tryz.underlying243 Tryz.underlying245 rfl rfl Tryz.underlying9 (by kernel_rfl) (by kernel_rfl)
 have hc1 := World.var?_cell gRange hv1 0
 have hc2 := World.var?_cell gSyntax hv2 0
 have hlt1 := var?_lt gRange hv1
 have hlt2 := var?_lt gSyntax hv2
 exact ⟨ht, cell_of_shapedOpen_int (zero := #[.int .i64 0]) (t := 3) hs (of_decide_eq_true (by kernel_rfl)) (by kernel_rfl) rfl (by kernel_rfl) (by kernel_rfl) Tryz.underlying3, ⟨_, hc2.trans rfl, .inr ⟨_, _, rfl⟩⟩, ⟨_, hc1.trans rfl, .inr ⟨_, _, rfl⟩⟩, by omega⟩

/-- The wrap of a row whose walk wants the laid variables and the world's shape. -/
theorem handed_shaped {H : Type} {enc : TypeId × Value → H} {a : Assume} {C : Checked} {os : Os} {f : FuncId} {fn : Func} {s : ChangeSpec} {conds : List PathCond} {apart fresh handsOn again : Bool} {X : World → Array Value → Prop}
  (hX : ∀ (w w' : World) (args : Array Value), w.heap = w'.heap → X w args → X w' args)
  (own : ownKnob C.prog.godebug = none) (started : os.Started) (noInit : C.prog.inits.idxOf? f = none) (hfn : C.prog.funcs[f]? = some fn)
  (witness : ∃ (w : World) (tape : Tape) (i : Input), w.os = os ∧ (w.forCall tape i).Shaped C.prog ∧ i.vars = [] ∧ Input.okWide C.prog (w.forCall tape i) .any w.heap.size f i ∧
   ((s.pre enc C.prog fn conds apart (w.forCall tape i).memory i.args ∧ X (w.forCall tape i).memory i.args) ∧ sizedMet enc C.prog fn (OpenSpec.ofChange s) apart (w.forCall tape i).memory i.args) ∧ a.holds C.prog (lone (Frame.enter C.prog f i.args .normal) [] (w.forCall tape i)))
  (contract : ∀ (W : World) (base : Nat) (args : Array Value) (ds gs : List (DataW H)) (before : List MemPlace),
   (∀ (j : Nat) t v, fn.params[j]? = some t → args[j]? = some v → Value.okWide C.prog W .any base t v) →
   DataW.Whole enc C.prog fn.params.toList s.vars apart W args.toList ds gs before → X W args → W.ShapedOpen C.prog →
   Calls C.prog f args W fun e W' => ∃ v, e = .returned v ∧ s.post enc C.prog fn apart fresh handsOn again W args v W') :
  ReturnsInHanded a C os f .any (fun w args => (s.pre enc C.prog fn conds apart w args ∧ X w args) ∧ sizedMet enc C.prog fn (OpenSpec.ofChange s) apart w args) (s.post enc C.prog fn apart fresh handsOn again) := by
 refine returnsInHanded_of_calls own started noInit witness ?_
 intro w tape i _ hsh _ hok hpre _
 obtain ⟨_, _, _, fn', hfn', _, _, _, _, hval⟩ := hok
 obtain rfl : fn' = fn := Option.some.inj (hfn'.symm.trans hfn)
 obtain ⟨⟨⟨ds, gs, before, hw, _⟩, hx⟩, _⟩ := hpre
 refine (contract (w.forCall tape i) w.heap.size i.args ds gs before hval (DataW.Whole.of_heap (w' := w.forCall tape i) (by rfl) hw) (hX _ _ _ (by rfl) hx) hsh).mono fun e W' ⟨v, he, hp⟩ => ?_
 subst he
 exact ChangeSpec.post_blind hp
end Go.Proofs.YtnmmhcchpcbeeaaGreatDoor.GtW

namespace Go.Proofs.YtnmmhcchpcbeeaaGreatDoor.DrawingDecodeDone
open Go.ChangeShapes Go.WideShapes Go.ChangeAt Go.RowKit
open Go.ChangeMaps (open_string shut_string)

theorem own : ownKnob Tryz.prog.godebug = none := by kernel_rfl
theorem laidOut : laidOutB Tryz.prog = true := by kernel_rfl
theorem door_met (os : Os) (args : Array Value) : laidMetH Tryz.prog Rows.drawingDecodeRow.laid ((World.laidAll Tryz.prog os Rows.drawingDecodeRow.laid).forCall (fun _ _ => 0) ⟨#[], args, []⟩).memory := by
 rw [MakeChecks.laidMetH_plain _ _ _ (by kernel_rfl)]
 exact laidMet_laidAll _ (by kernel_rfl) (by kernel_rfl)

set_option maxRecDepth 100000 in
theorem lifted (os : Os) (started : os.Started) (H : Type) (enc : TypeId × Value → H) :
  ReturnsInHanded {} Tryz.checked os 3 .any (fun w args => (Rows.drawingDecodeSpec.pre enc Tryz.prog Tryz.f3 [] false w args ∧ laidMetH Tryz.prog Rows.drawingDecodeRow.laid w) ∧ sizedMet enc Tryz.prog Tryz.f3 (OpenSpec.ofChange Rows.drawingDecodeSpec) false w args)
   (Rows.drawingDecodeSpec.post enc Tryz.prog Tryz.f3 false true false false) := by
 refine GtW.handed_shaped (C := Tryz.checked) (X := fun w _ => laidMetH Tryz.prog Rows.drawingDecodeRow.laid w) (fun _ _ _ hh h => h.of_heap hh) own started (by kernel_rfl) Tryz.func3
  (ChangeSpec.witness_shaped (enc := enc) (C := Tryz.checked) (os := os) (X := fun w _ => laidMetH Tryz.prog Rows.drawingDecodeRow.laid w) false (World.laidAll Tryz.prog os Rows.drawingDecodeRow.laid) #[.string ⟨#[]⟩] 8 (World.laidAll_os _ _ _) (World.shaped_of_ZipB (by kernel_rfl) (by kernel_rfl)) (by kernel_rfl) (by kernel_rfl) (by kernel_rfl) (door_met os _)) ?_
 intro W base args ds gs before hval0 hW hL hSh
 have hval : ∀ (j : Nat) t v, Tryz.f3.params[j]? = some t → args[j]? = some v → Value.okWide Tryz.prog W .any base t v := hval0
 have hW' := hW
 obtain ⟨p, q, hA0, hV, rfl, hfz, hnd⟩ := hW
 have hA : DataW.TrodAll enc Tryz.prog W 0 (fun _ => true) true Tryz.f3.params.toList args.toList ds p := hA0
 rw [Tryz.params3] at hA hval
 obtain ⟨v0, vs0, d0, ds0, p0, q0, hargs, rfl, rfl, h0, r0⟩ := trodAll_cons hA
 obtain ⟨rfl, rfl, rfl⟩ := trodAll_nil r0
 obtain rfl : args = #[v0] := by cases args; simp_all
 obtain ⟨rfl, rfl⟩ := trodVars_none hV
 obtain ⟨x0, rfl, rfl, rfl, s0⟩ := open_string Tryz.underlying9 (hval 0 9 v0 rfl rfl) h0
 clear hA0 hval0
 simp only [List.append_nil] at hW'
 refine (GtW.decode_bytes x0  W  (GtW.glob_of hL hSh)).mono fun e W' ⟨he, bel⟩ => ?_
 subst he
 exact ⟨_, rfl, _, _, _, [], _, [], hW', trodAll_mk1 (shut_bool Tryz.underlying4 _), (trodAll_cons_mk (shut_string Tryz.underlying9 s0) trodAll_mk0), rfl, bel.frame _, fun h => by cases h⟩

theorem said : Rows.DrawingDecodeSaid :=
 OpenClaim.holds_of_wide 3 Tryz.f3 rfl rfl rfl rfl rfl rfl rfl ⟨rfl, rfl, rfl, rfl, rfl⟩ rfl rfl rfl rfl rfl (by kernel_rfl) Tryz.func3 (by kernel_rfl)
  (of_decide_eq_true (by kernel_rfl)) (by unfold Func.isWrapper; first | (rw [if_pos (by decide +kernel)]; kernel_rfl) | (rw [if_neg (by decide +kernel)]; exact ⟨rfl, rfl⟩))
  (fun os started H enc _ => lifted os started H enc)

theorem plain (f : FuncId) (fn : Func) (hf : Tryz.pinned.checked.prog.funcNamed "fretsaw/fretsawlaw23.DrawingDecode" = some f) (hfn : Tryz.pinned.checked.prog.funcs[f]? = some fn) :
  true = Tryz.pinned.checked.prog.looks [] ∧ ∀ (j : Nat) t, fn.params[j]? = some t → Tryz.pinned.checked.prog.wantsStandIn t = false := by
 obtain rfl : f = 3 := Option.some.inj ((show Tryz.prog.funcNamed "fretsaw/fretsawlaw23.DrawingDecode" = some 3 by kernel_rfl).symm.trans hf) |>.symm
 obtain rfl : fn = Tryz.f3 := (Option.some.inj (Tryz.func3.symm.trans hfn)).symm
 refine ⟨by kernel_rfl, fun j t ht => ?_⟩
 rw [Tryz.params3] at ht
 have hm : t ∈ [9] := by simpa using Array.mem_of_getElem? ht
 have hall : ([9].all fun u => !Tryz.prog.wantsStandIn u) = true := by kernel_rfl
 exact (show Tryz.prog.wantsStandIn t = false by simpa using List.all_eq_true.1 hall t hm)

theorem card : Rows.DrawingDecodeCardSaid :=
 Claim7.holds_tied_plain_at .later [] _ _ _ _ said (fun _ h => by cases h) (by kernel_rfl) (fun _ h => by cases h) drawingDecode_row_tie rfl ⟨rfl, rfl⟩ (by kernel_rfl) rfl plain (by kernel_rfl)
#print axioms card
end Go.Proofs.YtnmmhcchpcbeeaaGreatDoor.DrawingDecodeDone
