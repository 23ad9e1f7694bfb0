/- The library's table at PartPrint's row; the wrap with the laid variables and the weights. Conditions: none. -/
import Derived.Test.YtnkkcknogkgdkaaGreatDoorPwC
import Derived.Test.YtnkkcknogkgdkaaGreatDoorPsB
import Derived.Test.YtnkkcknogkgdkaaGreatDoorPoB
import Derived.Test.YtnkkcknogkgdkaaGreatDoorPpD
import Derived.Test.YtnkkcknogkgdkaaGreatDoorPtD
import Derived.Test.YtnkkcknogkgdkaaGreatDoorPcH
import Derived.Test.YtnkkcknogkgdkaaGreatDoorPaSize
import Derived.Test.YtnkkcknogkgdkaaGreatDoorRows
import Derived.MakeChecks
import Derived.Stop.LaidErr
import Derived.OpenShut
import Derived.HandedShaped
import Derived.Handed

namespace Go.Proofs.YtnkkcknogkgdkaaGreatDoor.PaW
open Lib (hid)
open Go Go.RowKit Go.Proofs.YtnkkcknogkgdkaaGreatDoor.Mem Go.Proofs.YtnkkcknogkgdkaaGreatDoor.Pa
open Go.Proofs.YtnkkcknogkgdkaaGreatDoor.Ge (V)
open Go.Proofs.YtnkkcknogkgdkaaGreatDoor.Lex (Tok)
open Go.Proofs.YtnkkcknogkgdkaaGreatDoor.LexW (tokCells)
attribute [local go_sem ↓] Go.wp_at_zero Go.wp_at_succ

open Go.Proofs.YtnkkcknogkgdkaaGreatDoor.Ge (within)
open Go.Proofs.YtnkkcknogkgdkaaGreatDoor.PqW (writeString_k strCells_mk byteCells_app isBuilder_below b_new)
theorem names_map {os ms:List SrcM} (h:os.map SrcM.src=ms.map SrcM.src) {K:Nat} (hn:∀ m∈ms,m.name.length≤K∧m.grade.length≤K):∀ m∈os,m.name.length≤K∧m.grade.length≤K:=fun m hm=>by
 have h1:m.src∈os.map SrcM.src:=List.mem_map_of_mem hm
 rw [h] at h1
 obtain ⟨x,hx,e⟩:=List.mem_map.1 h1
 have h2:=hn x hx
 have e1:x.name=m.name:=congrArg Pa.Source.name e
 have e2:x.grade=m.grade:=congrArg Pa.Source.grade e
 rwa [e1,e2] at h2
set_option maxRecDepth 100000 in
set_option maxHeartbeats 8000000 in
theorem partPrint_walk (haw:Awake) (ms:List SrcM) (A:Option Addr) (c:Nat) (w:World) (hG:Glob w) (h:SrcsRaw w A ms) :
  Calls Tryz.prog 9 #[.slice A ms.length c] w fun e w'=>e=.returned (.bool true)∧Below w.heap.size w w':=by
 have HAW:=hid haw
 have HG:=hid hG
 have HRAW:=hid h
 have HF:=hid (fun W (hb:Below w.heap.size w W)=>few_any 21 ms A c W (h.below hb))
 clear haw hG h
 obtain ⟨fq,HFQ⟩:∃ q,Hid (fewB 21 ms=q):=⟨_,hid rfl⟩
 rw [HFQ.out] at HF
 go_enter Tryz.func9,Tryz.ntmps9
 go_wp2_with fail
 refine (HAW.out _).mono ?_
 rintro e w1 ⟨rfl,hb1⟩
 have HF1:=hid (HF.out w1 hb1)
 have HB1:=hid hb1
 clear HAW HF hb1
 go_wp2_with fail
 refine HF1.out.mono ?_
 rintro e w2 ⟨rfl,hb2⟩
 have HB2:=hid (HB1.out.trans (hb2.mono HB1.out.size))
 clear hb2 HF1 HB1
 cases fq
 ·skip
  go_wp2
  go_ret
  exact ⟨rfl,HB2.out⟩
 have HFI:=hid (fun W (hb:Below w.heap.size w W)=>few_in (n:=21) (TT := 41) (TO := 38) (TS := 140) HFQ.out HRAW.out hb)
 have hl21:ms.length≤21:=(HFI.out w2 HB2.out).2.1
 have HNM:Hid (∀ m∈ms,m.name.length≤1000000∧m.grade.length≤1000000):=hid (fun m hm=>by have:=(HFI.out w2 HB2.out).2.2 m hm;omega)
 have HSI:=hid (fun W (hb:Below w.heap.size w W)=>(HFI.out W hb).1)
 clear HFI HRAW HFQ
 by_cases h4:4 < ms.length∧ms.length≠21
 case pos =>
  have f1:((4:Int) < (ms.length:Int))=True:=eq_true (by omega)
  have f2:((ms.length:Int) != 21)=true:=by rw [bne_iff_ne];omega
  clear h4
  go_wp2
  go_ret
  exact ⟨rfl,HB2.out⟩
 case neg =>
 have HM1:Hid (ms.length≤21):=hid hl21
 have HOWN:=hid (fun W (hb:Below w.heap.size w W)=>ownS_any ms A c W (HSI.out W hb) (by omega) hb.size)
 have HRP:=hid (fun W (hb:Below w.heap.size w W)=>rprint_any ms A c W (HSI.out W hb) (by omega) HNM.out)
 have HRV:=hid (fun W (hb:Below w.heap.size w W)=>rvalid_any ms A c W (HSI.out W hb) (by omega) HNM.out)
 have HPP:=hid (fun (h:sourcesOk (ms.map SrcM.src)=true) (hs:(printT (ms.map SrcM.src)).length≤20000)=>parse_print h hs)
 have HPA:=hid (fun W=>parse_any (printT (ms.map SrcM.src)) W)
 have HPRD:Hid (printR (ms.map SrcM.src)=if sourcesOk (ms.map SrcM.src)=true then (if 20000 < (printT (ms.map SrcM.src)).length then ([],9) else (printT (ms.map SrcM.src),0)) else ([],1)):=hid rfl
 obtain ⟨PR,HPR⟩:∃ PR,Hid (printR (ms.map SrcM.src)=PR):=⟨_,hid rfl⟩
 rw [HPR.out] at HPRD HRP
 obtain ⟨OK,HOK⟩:∃ q,Hid (sourcesOk (ms.map SrcM.src)=q):=⟨_,hid rfl⟩
 rw [HOK.out] at HPRD HRV HPP
 have HW3:Hid (Calls Tryz.prog 20 #[.slice A ms.length c] w2 _):=hid (HOWN.out w2 HB2.out)
 have hcond:(decide ((4:Int) < (ms.length:Int))&&((ms.length:Int) != 21))=false:=by
  rw [Bool.and_eq_false_iff]
  by_cases h5:4 < ms.length
  ·right
   have:ms.length=21:=by omega
   rw [this]
   rfl
  ·left
   exact decide_eq_false (by omega)
 by_cases h5:4 < ms.length
 case' pos =>
  have f1:((4:Int) < (ms.length:Int))=True:=eq_true (by omega)
  have f2:((ms.length:Int) != 21)=false:=by rw [show ms.length=21 by omega];rfl
 case' neg =>
  have f1:((4:Int) < (ms.length:Int))=False:=eq_false (by omega)
 all_goals
  clear h4 h5 hcond
  go_wp2_with fail
  refine HW3.out.mono ?_
  rintro e w3 ⟨⟨os,BO,co,hos,rfl,hown,hsrc⟩,hb⟩
  have HB3:=hid (HB2.out.trans (hb.mono HB2.out.size))
  have HOS:=hid hos
  have HLO:Hid (os.length=ms.length):=hid (by simpa using congrArg List.length hos)
  have HOI:=hid (show SrcsIn 58 55 153 w.heap.size w3 BO os from ⟨At.of_own hown,hsrc⟩)
  have HON:Hid (∀ m∈os,m.name.length≤1000000∧m.grade.length≤1000000):=hid (fun m hm=>names_map hos HNM.out m hm)
  clear hb hos hown hsrc HW3 HB2
  have HE4:=hid (print_any os BO co w3 (HG.out.below HB3.out) HOI.out (by have:=HLO.out;omega) HON.out)
  rw [HOS.out,HPR.out,HLO.out] at HE4
  go_wp2_with fail
  refine HE4.out.mono ?_
  rintro e w4 ⟨rfl,hb⟩
  have HB4:=hid (HB3.out.trans (hb.mono HB3.out.size))
  clear hb HE4 HB3 HOI HON HOS HLO
  have HE5:=hid (HRP.out w4 HB4.out)
  go_wp2_with fail
  refine HE5.out.mono ?_
  rintro e w5 ⟨rfl,hb⟩
  have HB5:=hid (HB4.out.trans (hb.mono HB4.out.size))
  clear hb HE5 HB4 HRP
  have HE6:=hid (HOWN.out w5 HB5.out)
  obtain ⟨PB,HPB⟩:∃ B,Hid (ByteArray.mk PR.1.toArray=B):=⟨_,hid rfl⟩
  obtain ⟨pe,HPE⟩:∃ e,Hid (PR.2=e):=⟨_,hid rfl⟩
  rw [HPB.out,HPE.out]
  have n1:(pe != pe)=false:=bne_self_eq_false pe
  have n2:(PB != PB)=false:=str_ne_self PB
  go_wp2_with fail
  refine HE6.out.mono ?_
  rintro e w6 ⟨⟨os,BO,co,hos,rfl,hown,hsrc⟩,hb⟩
  have HB6:=hid (HB5.out.trans (hb.mono HB5.out.size))
  have HOS:=hid hos
  have HLO:Hid (os.length=ms.length):=hid (by simpa using congrArg List.length hos)
  have HOI:=hid (show SrcsIn 58 55 153 w.heap.size w6 BO os from ⟨At.of_own hown,hsrc⟩)
  have HON:Hid (∀ m∈os,m.name.length≤1000000∧m.grade.length≤1000000):=hid (fun m hm=>names_map hos HNM.out m hm)
  clear hb hos hown hsrc HE6 HB5 HOWN
  have HE7:=hid (valid_any os BO co w6 HOI.out (by have:=HLO.out;omega) HON.out)
  rw [HOS.out,HOK.out,HLO.out] at HE7
  go_wp2_with fail
  refine HE7.out.mono ?_
  rintro e w7 ⟨rfl,hb⟩
  have HB7:=hid (HB6.out.trans (hb.mono HB6.out.size))
  clear hb HE7 HB6 HOI HON HOS HLO
  have HE8:=hid (HRV.out w7 HB7.out)
  have n3:(OK != OK)=false:=bne_self_eq_false OK
  go_wp2_with fail
  refine HE8.out.mono ?_
  rintro e w8 ⟨rfl,hb⟩
  have HB8:=hid (HB7.out.trans (hb.mono HB7.out.size))
  clear hb HE8 HB7 HRV HNM
  by_cases he:pe=0
  case neg =>
   have n4:(pe != 0)=true:=bne_iff_ne.2 he
   clear he
   go_wp2
   go_ret
   exact ⟨rfl,HB8.out⟩
  case pos =>
  subst he
  have n4:((0:Int) != 0)=false:=rfl
  have HT:Hid (OK=true∧(printT (ms.map SrcM.src)).length≤20000∧PR.1=printT (ms.map SrcM.src)):=hid (by
   have h1:=HPRD.out
   have h2:=HPE.out
   cases OK with
   | false=>rw [if_neg (by decide)] at h1;rw [h1] at h2;exact absurd h2 (by decide)
   | true =>
    rw [if_pos rfl] at h1
    split at h1
    ·rw [h1] at h2;exact absurd h2 (by decide)
    ·rename_i hh
     rw [h1]
     exact ⟨rfl,by omega,rfl⟩)
  rw [HPP.out HT.out.1 HT.out.2.1] at HPA
  rw [← HT.out.2.2,HPB.out] at HPA
  clear HPP HPRD HT HPR HOK HPE HPB n1 n2 n3
  go_wp2_with fail
  refine (HPA.out w8).mono ?_
  rintro e w9 ⟨us,A9,d9,hus,rfl,hd9,hm9,hin9,hb⟩
  have HB9:=hid (HB8.out.trans (hb.mono HB8.out.size))
  have HUS:=hid hus
  have HU9:=hid hin9
  have HMus:=hid hm9
  clear hb HPA HB8 hus hin9 hd9 hm9
  have n5:((0:Int) == 0)=true:=rfl
  have HT10:=hid (theirs_any us A9 d9 w9 HU9.out (by have:=HMus.out;omega) (Nat.zero_le _))
  go_wp2_with fail
  refine HT10.out.mono ?_
  rintro e w10 ⟨⟨t10,B10,c10,hk,rfl,hown,hsrc⟩,hb⟩
  have HB10:=hid (HB9.out.trans (hb.mono HB9.out.size))
  have HI10:=hid (show SrcsIn 41 38 140 0 w10 B10 t10 from ⟨At.of_own hown,hsrc⟩)
  have HK10:=hid hk
  have HLK10:Hid (t10.length=us.length):=hid (by simpa using congrArg List.length hk)
  clear hk hown hsrc hb HT10 HB9
  have HSX:=hid (refSame_any (TT := 41) (TO := 38) (TS := 140) (TT' := 41) (TO' := 38) (TS' := 140) (base:=0) (base':=w.heap.size) t10 ms B10 A c10 c w10 HI10.out (HSI.out w10 HB10.out) (by have:=HLK10.out;have:=HMus.out;omega) (by rw [HK10.out,HUS.out]))
  rw [HLK10.out] at HSX
  go_wp2_with fail
  refine HSX.out.mono ?_
  rintro e w11 ⟨rfl,hb⟩
  have HB11:=hid (HB10.out.trans (hb.mono HB10.out.size))
  clear hb
  go_wp2
  go_ret
  exact ⟨rfl,HB11.out⟩
end Go.Proofs.YtnkkcknogkgdkaaGreatDoor.PaW

namespace Go.Proofs.YtnkkcknogkgdkaaGreatDoor.PaW
open Lib (hid)
open Go Go.RowKit Go.Proofs.YtnkkcknogkgdkaaGreatDoor.Mem Go.Proofs.YtnkkcknogkgdkaaGreatDoor.Pa
theorem var?_lt {P:Program} {W:World} {n:String} {g:Nat} {cs:Array Value} (hg:P.globalNamed n=some g) (h:W.var? P n=some cs):g < W.heap.size:=by
 unfold World.var? at h
 rw [hg] at h
 by_cases hl:g < W.heap.size
 ·exact hl
 ·simp only [Option.bind_some,Array.getElem?_eq_none (Nat.le_of_not_lt hl)] at h
  cases h
set_option maxRecDepth 100000 in
theorem glob_of {W:World} (h:laidMetH Tryz.prog Rows.partPrintRow.laid W):Glob W:=by
 rw [MakeChecks.laidMetH_plain _ _ _ (by kernel_rfl)] at h
 have h3:laidMet Tryz.prog (("internal/strconv.uint64pow10",Lib.tabData .u64 Lib.pow10Tab)::[("strconv.ErrRange",Rows.laid_strconv_ErrRange),("strconv.ErrSyntax",Rows.laid_strconv_ErrSyntax)]) W:=laidMet.tail (laidMet.tail h)
 have ht:Lib.TabIs Tryz.prog W "internal/strconv.uint64pow10" .u64 Lib.pow10Tab:=Lib.tabIs_of_head gPow (t := 271) (e := 211) (n:=20) (by kernel_rfl) (by kernel_rfl) (by kernel_rfl) (by kernel_rfl) (by kernel_rfl) h3
 exact ⟨ht,var?_lt gPow ht⟩
theorem handed_all {H:Type} {enc:TypeId×Value→H} {a:Assume} {C:Checked} {os:Os} {f:FuncId} {fn:Func} {s:ChangeSpec} {conds:List PathCond} {apart fresh handsOn again:Bool} {X:World→Array Value→Prop}
  (hX:∀ (w w':World) (args:Array Value),w.heap=w'.heap→X w args→X w' args)
  (own:ownKnob C.prog.godebug=none) (started:os.Started) (noInit:C.prog.inits.idxOf? f=none) (hfn:C.prog.funcs[f]? = some fn)
  (witness:∃ (w:World) (tape:Tape) (i:Input),w.os=os∧(w.forCall tape i).Shaped C.prog∧i.vars=[]∧Input.okWide C.prog (w.forCall tape i) .any w.heap.size f i ∧
   ((s.pre enc C.prog fn conds apart (w.forCall tape i).memory i.args∧X (w.forCall tape i).memory i.args)∧sizedMet enc C.prog fn (OpenSpec.ofChange s) apart (w.forCall tape i).memory i.args)∧a.holds C.prog (lone (Frame.enter C.prog f i.args .normal) [] (w.forCall tape i)))
  (contract:∀ (W:World) (base:Nat) (args:Array Value) (ds gs:List (DataW H)) (before:List MemPlace),
   (∀ (j:Nat) t v,fn.params[j]? = some t→args[j]? = some v→Value.okWide C.prog W .any base t v) →
   DataW.Whole enc C.prog fn.params.toList s.vars apart W args.toList ds gs before→X W args→W.ShapedOpen C.prog →
   (DataW.weightsEach C.prog (fn.params.toList++s.plain.varTypes C.prog) (ds++gs)).all (·≤reachBytes)=true →
   Calls C.prog f args W fun e W'=>∃ v,e=.returned v∧s.post enc C.prog fn apart fresh handsOn again W args v W') :
  ReturnsInHanded a C os f .any (fun w args=>(s.pre enc C.prog fn conds apart w args∧X w args)∧sizedMet enc C.prog fn (OpenSpec.ofChange s) apart w args) (s.post enc C.prog fn apart fresh handsOn again):=by
 refine returnsInHanded_of_calls own started noInit witness ?_
 intro w tape i _ hsh _ hok hpre _
 obtain ⟨_,_,_,fn',hfn',_,_,_,_,hval⟩:=hok
 obtain rfl:fn'=fn:=Option.some.inj (hfn'.symm.trans hfn)
 obtain ⟨⟨⟨ds,gs,before,hw,_⟩,hx⟩,hz⟩:=hpre
 refine (contract (w.forCall tape i) w.heap.size i.args ds gs before hval (DataW.Whole.of_heap (w':=w.forCall tape i) (by rfl) hw) (hX _ _ _ (by rfl) hx) hsh (hz.weights hw)).mono fun e W' ⟨v,he,hp⟩=>?_
 subst he
 exact ChangeSpec.post_blind hp
theorem partPrint_at (ms:List SrcM) (A:Option Addr) (c:Nat) (W:World) (hG:Glob W) (h:SrcsRaw W A ms) :
  Calls Tryz.prog 9 #[.slice A ms.length c] W fun e w'=>e=.returned (.bool true)∧Below W.heap.size W w':=partPrint_walk awake_any ms A c W hG h
end Go.Proofs.YtnkkcknogkgdkaaGreatDoor.PaW
