/- Walk: the part language's Print. Conditions: the library's table and the sources lie in memory. -/
import Derived.Test.YtnkkcknogkgdkaaGreatDoorPpC
import Derived.Deep.DeepCutAuto
import Derived.Deep.CutBlock

namespace Go.Proofs.YtnkkcknogkgdkaaGreatDoor.PaW
open Lib (hid)
open Go Go.RowKit Go.Proofs.YtnkkcknogkgdkaaGreatDoor.Mem Go.Proofs.YtnkkcknogkgdkaaGreatDoor.Pa
open Go.Proofs.YtnkkcknogkgdkaaGreatDoor.Ge (V)
open Go.Proofs.YtnkkcknogkgdkaaGreatDoor.Lex (Tok)
open Go.Proofs.YtnkkcknogkgdkaaGreatDoor.LexW (tokCells)
attribute [local go_sem ↓] Go.wp_at_zero Go.wp_at_succ

open Go.Proofs.YtnkkcknogkgdkaaGreatDoor.Ge (within)
open Go.Proofs.YtnkkcknogkgdkaaGreatDoor.PqW (writeString_k strCells_mk byteCells_app isBuilder_below b_new)
set_option maxRecDepth 100000 in
set_option maxHeartbeats 8000000 in
theorem print_any {TT TO TS:TypeId} {base:Nat} (ms:List SrcM) (A:Option Addr) (c:Nat) (w:World) (hG:Glob w) (h:SrcsIn TT TO TS base w A ms) (hl:ms.length≤1000000) (hn:∀ m∈ms,m.name.length≤1000000∧m.grade.length≤1000000) :
  Calls Tryz.prog 31 #[.slice A ms.length c] w fun e w'=>e=.returned (.tuple #[.string ⟨(printR (ms.map SrcM.src)).1.toArray⟩,.int .i64 (printR (ms.map SrcM.src)).2])∧Below w.heap.size w w':=by
 have HV:=hid (valid_any ms A c w h hl hn)
 have HS:=hid h
 have HG:=hid hG
 have HRR:Hid (printR (ms.map SrcM.src)=if sourcesOk (ms.map SrcM.src)=true then (if 20000 < (printT (ms.map SrcM.src)).length then ([],9) else (printT (ms.map SrcM.src),0)) else ([],1)):=hid rfl
 obtain ⟨PR,HPR⟩:∃ PR,Hid (printR (ms.map SrcM.src)=PR):=⟨_,hid rfl⟩
 rw [HPR.out] at HRR ⊢
 clear HPR h hG hn hl
 cases hok:sourcesOk (ms.map SrcM.src) with
 | false =>
  rw [hok] at HV HRR
  have HRE:Hid (PR=([],1)):=hid (HRR.out.trans (if_neg (by decide)))
  clear HRR
  clear HS HG
  go_enter Tryz.func31,Tryz.ntmps31
  go_wp2_with fail
  refine HV.out.mono ?_
  rintro e w1 ⟨rfl,hb⟩
  go_wp2
  refine bodyPost_ret (v:=.tuple #[.string ⟨#[]⟩,.int .i64 1]) (by simp [results,Tryz.results31,go_sem]) rfl ?_
  exact ⟨by rw [HRE.out],hb⟩
 | true =>
 rw [hok] at HV HRR
 have HRE:Hid (PR=if 20000 < (printT (ms.map SrcM.src)).length then ([],9) else (printT (ms.map SrcM.src),0)):=hid (HRR.out.trans (if_pos rfl))
 clear HRR
 have HAL:Hid ((∀ m∈ms,SOk m.src)∧ms.length≤20):=hid (by
  unfold sourcesOk at hok
  simp only [Bool.and_eq_true,decide_eq_true_eq,List.all_eq_true,List.length_map] at hok
  exact ⟨fun m hm=>source_parts (hok.1 _ (List.mem_map_of_mem hm)),hok.2⟩)
 have HTL:Hid (∀ q,(printT ((ms.map SrcM.src).take q)).length≤500000000):=hid (fun q=>by
  have h1:=print_tlen ((ms.map SrcM.src).take q) (fun x hx=>by
   obtain ⟨m,hm,rfl⟩:=List.mem_map.1 (List.mem_of_mem_take hx)
   exact source_tlen (HAL.out.1 m hm) (HS.out.2 m hm).2.2.2.2.1)
  have h2:((ms.map SrcM.src).take q).length≤20:=by rw [List.length_take,List.length_map];have:=HAL.out.2;omega
  exact Nat.le_trans h1 (Nat.mul_le_mul_left 25000000 h2))
 clear hok
 have hmf:∀ (fn:Fn) (first cap:Array Value) (W:World),(Instr.makeFunc fn first cap).run Tryz.prog W=.ok (.func fn first cap) W:=fun _ _ _ _=>rfl
 go_enter Tryz.func31,Tryz.ntmps31
 go_wp2_with fail
 refine HV.out.mono ?_
 rintro e w1 ⟨rfl,hb⟩
 have HBN:Hid (Bd w.heap.size w1.heap.size (printT ((ms.map SrcM.src).take 0)) w (w1.alloc (.cells #[.pointer none,.slice none 0 0] 124))):=hid (by
  have h1:=hb.trans ((bel1 w1 (.cells #[.pointer none,.slice none 0 0] 124)).mono hb.size)
  exact ⟨b_new w1 w.heap.size hb.size,h1,kept_below h1⟩)
 clear hb HV
 go_upto_region 4 with fail
 generalize w1.alloc (.cells #[.pointer none,.slice none 0 0] 124)=W1 at *
 generalize w1.heap.size=b at *
 go_wp2_with fail
 go_loopw [19] (fun t wr=>∃ k:Nat,t=.int .i64 (k:Int)∧k≤ms.length∧Hid (Bd w.heap.size b (printT ((ms.map SrcM.src).take k)) w wr)) (fun t _=>ms.length - (intOf t).toNat)
 case atStart=>exact ⟨0,rfl,Nat.zero_le _,HBN⟩
 case round =>
  obtain ⟨k,rfl,hk,HBR⟩:=hrel
  have hmx:=HAL.out.2
  clear HBN
  by_cases hkl:k < ms.length
  ·obtain ⟨g,off,hAe,hg,ca⟩:=row_get src_len (by decide) (HS.out.1.1.below HBR.out.bel) (by omega)
   have a0:=ca k hkl 0 (by decide)
   have a1:=ca k hkl 1 (by decide)
   have a2:=ca k hkl 2 (by decide)
   have a3:=ca k hkl 3 (by decide)
   have a4:=ca k hkl 4 (by decide)
   have a5:=ca k hkl 5 (by decide)
   have a6:=ca k hkl 6 (by decide)
   have a7:=ca k hkl 7 (by decide)
   have a8:=ca k hkl 8 (by decide)
   have a9:=ca k hkl 9 (by decide)
   have a10:=ca k hkl 10 (by decide)
   have HSI:=hid (HS.out.2 ms[k] (List.getElem_mem hkl))
   have HSO:=hid (HAL.out.1 ms[k] (List.getElem_mem hkl))
   have HKL:=hid hkl
   have hk1:(0:Int)≤(k:Int):=by omega
   have hk2:(k:Int) < (ms.length:Int):=by omega
   have HPK:Hid (printT ((ms.map SrcM.src).take (k+1))=printT ((ms.map SrcM.src).take k)++sourceT ms[k].src):=hid (by
    have e:=List.take_succ_eq_append_getElem (l:=ms.map SrcM.src) (i:=k) (by rw [List.length_map];exact hkl)
    rw [e,print_snoc,List.getElem_map]
    rfl)
   clear ca hk
   rw [hAe]
   generalize ms[k]=m at *
   simp only [srcCells,strV,List.getElem?_cons_zero,List.getElem?_cons_succ,Nat.add_zero] at a0 a1 a2 a3 a4 a5 a6 a7 a8 a9 a10
   clear hkl
   have HNL:Hid (m.name.length≤16):=hid HSO.out.name
   have HGL:Hid (m.grade.length≤16):=hid HSO.out.grade
   obtain ⟨o0,HOO⟩:∃ o,Hid (printT ((ms.map SrcM.src).take k)=o):=⟨_,hid rfl⟩
   have HL0:=hid (HTL.out k)
   rw [HOO.out] at HBR HL0
   have hbx:=bel1 wr (.cells #[.string ⟨m.name.toArray⟩,.string ⟨m.grade.toArray⟩,.int .i64 m.grain,.slice m.tA m.turns.length m.tc,.int .i64 m.tol,.bool m.outer.o.circle,.int .i64 m.outer.o.center.1,.int .i64 m.outer.o.center.2,.int .i64 m.outer.o.radius,.slice m.outer.A m.outer.o.steps.length m.outer.d,.slice m.hA m.holes.length m.hc] 58)
   have HX0:=hid (heap_new wr (.cells #[.string ⟨m.name.toArray⟩,.string ⟨m.grade.toArray⟩,.int .i64 m.grain,.slice m.tA m.turns.length m.tc,.int .i64 m.tol,.bool m.outer.o.circle,.int .i64 m.outer.o.center.1,.int .i64 m.outer.o.center.2,.int .i64 m.outer.o.radius,.slice m.outer.A m.outer.o.steps.length m.outer.d,.slice m.hA m.holes.length m.hc] 58))
   have HB0:=hid (HBR.out.below hbx HBR.out.bel.size)
   have HXB:Hid (wr.heap.size≠b):=hid (by have:=HBR.out.lt;omega)
   go_upto_region 8 with fail
   clear a0 a1 a2 a3 a4 a5 a6 a7 a8 a9 a10 hbx HBR
   generalize wr.alloc (.cells #[.string ⟨m.name.toArray⟩,.string ⟨m.grade.toArray⟩,.int .i64 m.grain,.slice m.tA m.turns.length m.tc,.int .i64 m.tol,.bool m.outer.o.circle,.int .i64 m.outer.o.center.1,.int .i64 m.outer.o.center.2,.int .i64 m.outer.o.radius,.slice m.outer.A m.outer.o.steps.length m.outer.d,.slice m.hA m.holes.length m.hc] 58)=W0 at *
   generalize wr.heap.size=xb at *
   have x0:=cell_of HX0.out 0 _ rfl
   have HT1:Hid (((ByteArray.mk #[112,97,114,116,32])++ByteArray.mk m.name.toArray)++(ByteArray.mk #[32,123,10])=ByteArray.mk (kPart++(32::(m.name++[32,123,10]))).toArray):=hid (by
    rw [show (ByteArray.mk #[112,97,114,116,32])=ByteArray.mk ([112,97,114,116,32]:List UInt8).toArray from rfl,show (ByteArray.mk #[32,123,10])=ByteArray.mk ([32,123,10]:List UInt8).toArray from rfl,str_app,str_app]
    simp [kPart])
   have HE1:=hid (write_bd w.heap.size b o0 (kPart++(32::(m.name++[32,123,10]))) W0 HB0.out.bld HB0.out.bel.size (by have:=HL0.out;have:(kPart++(32::(m.name++[32,123,10]))).length=m.name.length+8:=(by simp [kPart];try omega);have:=HNL.out;omega))
   rw [← HT1.out] at HE1
   have hns:=str_size m.name
   have hnl:=HNL.out
   obtain ⟨NB,HNB⟩:∃ B,Hid (ByteArray.mk m.name.toArray=B):=⟨_,hid rfl⟩
   rw [HNB.out] at HE1 x0 hns
   have z1:(9223372036854775807 < 5+NB.size)=False:=eq_false (by omega)
   have z2:(9223372036854775807 < 5+NB.size+3)=False:=eq_false (by omega)
   clear hns hnl
   go_wp2_with fail
   refine HE1.out.mono ?_
   rintro e w1 ⟨rfl,hbd⟩
   clear z1 z2 x0 HT1
   have HB1:=hid (HB0.out.wr hbd)
   have HX1:=hid (kept_blk hbd.kept HX0.out HXB.out (by decide))
   clear hbd HX0 HB0 HE1
   obtain ⟨o1,HO1⟩:∃ o,Hid (o0++(kPart++(32::(m.name++[32,123,10])))=o):=⟨_,hid rfl⟩
   rw [HO1.out] at HB1
   have HL1:Hid (o1.length≤500000024):=hid (by rw [← HO1.out,List.length_append];have:=HL0.out;have:(kPart++(32::(m.name++[32,123,10]))).length=m.name.length+8:=(by simp [kPart];try omega);have:=HNL.out;omega)
   have x1:=cell_of HX1.out 1 _ rfl
   have HE2:Hid (Calls Tryz.prog 67 #[.slice (some ⟨w1.heap.size,0,none⟩) 2 2,.pointer (some ⟨b,0,none⟩)] (w1.alloc (.cells #[.string ⟨#[103,114,97,100,101]⟩,.string ⟨m.grade.toArray⟩] 9)) fun e w'=>e=.returned (.tuple #[])∧Bd w.heap.size b (o1++lineT kGrade m.grade) w1 w'):=hid (line_new w.heap.size b o1 kGrade m.grade w1 HB1.out.bld HB1.out.bel.size (by have:=HL1.out;have:=HGL.out;have:kGrade.length≤9:=(by decide);omega))
   go_wp2_with fail
   refine HE2.out.mono ?_
   rintro e w2 ⟨rfl,hbd⟩
   have HB2:=hid (HB1.out.wr hbd)
   have HX2:=hid (kept_blk hbd.kept HX1.out HXB.out (by decide))
   clear hbd HX1 HB1 HE2
   obtain ⟨o2,HO2⟩:∃ o,Hid (o1++lineT kGrade m.grade=o):=⟨_,hid rfl⟩
   rw [HO2.out] at HB2
   have HL2:Hid (o2.length≤500000053):=hid (by rw [← HO2.out,List.length_append];have:=HL1.out;rw [line_len];have:=HGL.out;have:kGrade.length≤9:=(by decide);omega)
   clear x1
   have x2:=cell_of HX2.out 2 _ rfl
   have hgr:0≤m.grain∧m.grain≤2:=HSO.out.grain
   obtain ⟨g,HGG⟩:∃ g,Hid (m.grain=g):=⟨_,hid rfl⟩
   rw [HGG.out] at x2 hgr
   go_upto_block 2 with fail
   go_cut [] (fun wc=>Hid (Bd w.heap.size b (o2++grainT g) w wc)∧Hid (wc.heap[xb]? = some (.cells #[.string ⟨m.name.toArray⟩,.string ⟨m.grade.toArray⟩,.int .i64 m.grain,.slice m.tA m.turns.length m.tc,.int .i64 m.tol,.bool m.outer.o.circle,.int .i64 m.outer.o.center.1,.int .i64 m.outer.o.center.2,.int .i64 m.outer.o.radius,.slice m.outer.A m.outer.o.steps.length m.outer.d,.slice m.hA m.holes.length m.hc] 58 (0,0))))
   case first =>
    rcases (show g=0∨g=1∨g=2 by omega) with rfl | rfl | rfl
    ·go_wp2_with fail
     go_meet
     exact ⟨hid (by rw [show grainT 0=[] from rfl,List.append_nil];exact HB2.out),HX2⟩
    ·skip
     have HE8:Hid (Calls Tryz.prog 67 #[.slice (some ⟨w2.heap.size,0,none⟩) 2 2,.pointer (some ⟨b,0,none⟩)] (w2.alloc (.cells #[.string ⟨#[103,114,97,105,110]⟩,.string ⟨#[120]⟩] 9)) fun e w'=>e=.returned (.tuple #[])∧Bd w.heap.size b (o2++lineT kGrain kX) w2 w'):=hid (line_new w.heap.size b o2 kGrain kX w2 HB2.out.bld HB2.out.bel.size (by have:=HL2.out;have:kGrain.length=5:=rfl;have:kX.length=1:=rfl;omega))
     go_wp2_with fail
     refine HE8.out.mono ?_
     rintro e w8 ⟨rfl,hbd⟩
     go_wp2_with fail
     go_meet
     exact ⟨hid (HB2.out.wr hbd),hid (kept_blk hbd.kept HX2.out HXB.out (by decide))⟩
    ·skip
     have HE8:Hid (Calls Tryz.prog 67 #[.slice (some ⟨w2.heap.size,0,none⟩) 2 2,.pointer (some ⟨b,0,none⟩)] (w2.alloc (.cells #[.string ⟨#[103,114,97,105,110]⟩,.string ⟨#[121]⟩] 9)) fun e w'=>e=.returned (.tuple #[])∧Bd w.heap.size b (o2++lineT kGrain kY) w2 w'):=hid (line_new w.heap.size b o2 kGrain kY w2 HB2.out.bld HB2.out.bel.size (by have:=HL2.out;have:kGrain.length=5:=rfl;have:kY.length=1:=rfl;omega))
     go_wp2_with fail
     refine HE8.out.mono ?_
     rintro e w8 ⟨rfl,hbd⟩
     go_wp2_with fail
     go_meet
     exact ⟨hid (HB2.out.wr hbd),hid (kept_blk hbd.kept HX2.out HXB.out (by decide))⟩
   obtain ⟨HBc,HXc⟩:=hcut
   clear HB2 HX2 hgr
   obtain ⟨oc,HOc⟩:∃ o,Hid (o2++grainT g=o):=⟨_,hid rfl⟩
   rw [HOc.out] at HBc
   have HLc:Hid (oc.length≤500000063):=hid (by rw [← HOc.out,List.length_append];have:=HL2.out;have:=grain_len g;omega)
   have x3:=cell_of HXc.out 3 _ rfl
   obtain ⟨i0,ia,ib,ic,id⟩:=info_parts info_str
   have HTR:=hid HSI.out.1.1
   have HTL:=hid HSI.out.2.2.2.2.1
   have HTS:Hid (∀ t∈m.turns,0≤t∧t≤7):=hid HSO.out.turns
   go_wp2_with fail
   clear x3
   go_loopw [8,48] (fun v t wn=>∃ q:Nat,t=.int .i64 (q:Int)∧q≤m.turns.length∧∃ (A':Option Addr) (c':Nat),v=.slice A' q c'∧Hid (wn.ownsRow wc.heap.size 9 1 (.slice A' q c') q (numsV (m.turns.take q)))∧Hid (Below wc.heap.size wc wn)) (fun _ t _=>m.turns.length - (intOf t).toNat)
   case atStart=>exact ⟨0,rfl,Nat.zero_le _,none,0,rfl,hid (World.ownsRow_nil _ _ _ _),hid (Below.refl _ _)⟩
   case round =>
    obtain ⟨q,rfl,hq,A',c',rfl,HOW,HBN⟩:=hrel
    have hmx:=HTL.out
    by_cases hqt:q < m.turns.length
    ·have HBW:=hid (HBc.out.bel.trans (HBN.out.mono HBc.out.bel.size))
     obtain ⟨tg,toff,hta,htg,ca⟩:=row_get (f:=fun t:Int=>[Value.int .i64 t]) (fun _=>rfl) (by decide) (show Row wr m.tA (m.turns.flatMap fun t=>[Value.int .i64 t]) by have:=HTR.out.below HBW.out;rwa [show (m.turns.flatMap fun t=>[Value.int .i64 t])=m.turns.map (Value.int .i64) from (List.map_eq_flatMap).symm]) (by omega)
     have a0:=ca q hqt 0 (by decide)
     simp only [List.getElem?_cons_zero,Nat.mul_one,Nat.add_zero] at a0
     have hsm:=HTS.out m.turns[q] (List.getElem_mem hqt)
     have HQT:=hid hqt
     have hk1:(0:Int)≤(q:Int):=by omega
     have hk2:(q:Int) < (m.turns.length:Int):=by omega
     have HTK:Hid (m.turns.take (q+1)=m.turns.take q++[m.turns[q]]):=hid (List.take_succ_eq_append_getElem hqt)
     have HE:=hid (itoa_any m.turns[q] wr (HG.out.below HBW.out) (by omega) (by omega))
     rw [hta]
     clear ca hsm
     generalize m.turns[q]=tv at *
     obtain ⟨TB,HTB⟩:∃ T,Hid (ByteArray.mk (Lib.itoa tv).toArray=T):=⟨_,hid rfl⟩
     rw [HTB.out] at HE
     go_wp2_with fail
     refine HE.out.mono ?_
     rintro e wm ⟨rfl,hb⟩
     have HBM:=hid (HBN.out.trans (hb.mono HBN.out.size))
     have HOM:=hid (own_below HOW.out hb)
     clear hb a0 HE
     have hb6:=bel1 wm (.cells #[.string TB] 9)
     have HBS:=hid (HBM.out.trans (hb6.mono HBM.out.size))
     have HSZ:=hid (HOM.out.alloc (.cells #[.string TB] 9))
     have CN:=hid (World.news_of_block (cs:=#[.string TB]) (t := 9) (fr:=(0,0)) (heap_new wm _))
     have C2:Hid (∀ uu∈([.string TB]:List Value),uu.oneCell'=true):=hid (by intro uu hu;simp at hu;rcases hu with rfl;rfl)
     have C3:Hid (q+1≤maxLen∧(q+1)*16≤140737488355328):=hid (by have:=HTL.out;unfold maxLen;omega)
     have C5:Hid (wc.heap.size≤(wm.alloc (.cells #[.string TB] 9)).heap.size):=hid HBS.out.size
     clear hb6
     go_wp2_with (at_builtin;refine wpList_append_own _ rfl _ _ 125 rfl wc.heap.size 9 i0 _ 1 16 Tryz.underlying125 ia ib ic id rfl (by omega) _ _ _ rfl HSZ.out ⟨wm.heap.size,0,none⟩ 1 1 [.string TB] rfl rfl CN.out C2.out C3.out.1 C3.out.2 C5.out ?_)
     intro v7 w7 hown7 hg7 _
     obtain ⟨B7,d7,rfl,_⟩:=own_shape hown7
     have HB7:=hid (below_grown HBS.out hg7 (fun r hr=>(HSZ.out.lt r hr).1) HBS.out.size)
     have HO7:Hid (w7.ownsRow wc.heap.size 9 1 (.slice B7 (q+1) d7) (q+1) (numsV (m.turns.take (q+1)))):=hid (by
      rw [HTK.out,numsV_snoc]
      rw [← HTB.out] at hown7
      exact hown7)
     clear hown7 hg7
     go_wp2
     go_roundw
     case rel=>exact ⟨q+1,by go_num,by have:=HQT.out;omega,B7,d7,rfl,HO7,HB7⟩
     case measure=>simp [intOf];have:=HQT.out;omega
    ·obtain rfl:q=m.turns.length:=by omega
     have HJ:=hid (join_own [44,32] (m.turns.map Lib.itoa) wc.heap.size m.turns.length A' c' wr (by rw [List.length_map]) (by have:=HOW.out;rw [List.take_length] at this;exact this) (by have:=turns_tlen HTS.out HTL.out;omega) (by rw [List.length_map];exact HTL.out))
     have HJL:=hid (turns_tlen HTS.out HTL.out)
     have HBj:=hid (HBc.out.below HBN.out HBc.out.bel.size)
     have HXj:=hid (p_below HXc.out HBN.out)
     obtain ⟨jt,HJT⟩:∃ j,Hid (joinB [44,32] (m.turns.map Lib.itoa)=j):=⟨_,hid rfl⟩
     rw [HJT.out] at HJ HJL
     clear HOW HBN HBc HXc i0 ia ib ic id hq hqt
     go_wp2_with fail
     refine HJ.out.mono ?_
     rintro e w31 ⟨rfl,hb⟩
     have HB31:=hid (HBj.out.below hb HBj.out.bel.size)
     have HX31:=hid (p_below HXj.out hb)
     clear hb HBj HXj HJ
     have HE32:Hid (Calls Tryz.prog 67 #[.slice (some ⟨w31.heap.size,0,none⟩) 2 2,.pointer (some ⟨b,0,none⟩)] (w31.alloc (.cells #[.string ⟨#[116,117,114,110,115]⟩,.string ⟨jt.toArray⟩] 9)) fun e w'=>e=.returned (.tuple #[])∧Bd w.heap.size b (oc++lineT kTurns jt) w31 w'):=hid (line_new w.heap.size b oc kTurns jt w31 HB31.out.bld HB31.out.bel.size (by have:=HLc.out;have:=HJL.out;have:kTurns.length≤9:=(by decide);omega))
     go_wp2_with fail
     refine HE32.out.mono ?_
     rintro e w32 ⟨rfl,hbd⟩
     have HB32:=hid (HB31.out.wr hbd)
     have HX32:=hid (kept_blk hbd.kept HX31.out HXB.out (by decide))
     clear hbd HX31 HB31 HE32
     obtain ⟨o32,HO32⟩:∃ o,Hid (oc++lineT kTurns jt=o):=⟨_,hid rfl⟩
     rw [HO32.out] at HB32
     have HL32:Hid (o32.length≤523000076):=hid (by rw [← HO32.out,List.length_append];have:=HLc.out;rw [line_len];have:=HJL.out;have:kTurns.length≤9:=(by decide);omega)
     have x4:=cell_of HX32.out 4 _ rfl
     have htl:1≤m.tol∧m.tol≤50:=HSO.out.tol
     obtain ⟨tl,HTT⟩:∃ t,Hid (m.tol=t):=⟨_,hid rfl⟩
     rw [HTT.out] at x4 htl
     go_upto_if 65 with (fail)
     go_cut [] (fun wc=>Hid (Bd w.heap.size b (o32++tolT tl) w wc)∧Hid (wc.heap[xb]? = some (.cells #[.string ⟨m.name.toArray⟩,.string ⟨m.grade.toArray⟩,.int .i64 m.grain,.slice m.tA m.turns.length m.tc,.int .i64 m.tol,.bool m.outer.o.circle,.int .i64 m.outer.o.center.1,.int .i64 m.outer.o.center.2,.int .i64 m.outer.o.radius,.slice m.outer.A m.outer.o.steps.length m.outer.d,.slice m.hA m.holes.length m.hc] 58 (0,0))))
     case first =>
      by_cases ht1:tl=1
      ·subst ht1
       have n1:((1:Int) != 1)=false:=rfl
       go_wp2_with fail
       go_meet
       exact ⟨hid (by rw [show tolT 1=[] from rfl,List.append_nil];exact HB32.out),HX32⟩
      ·have n1:(tl != 1)=true:=bne_iff_ne.2 ht1
       have HTE:Hid (tolT tl=lineT kTol (Lib.itoa tl)):=hid (by unfold tolT;rw [if_neg ht1])
       clear ht1
       have hil:=Lib.itoa_length_le tl (by omega) (by omega)
       have HE:=hid (itoa_any tl w32 (HG.out.below HB32.out.bel) (by omega) (by omega))
       have HIL:=hid hil
       obtain ⟨il,HII⟩:∃ i,Hid (Lib.itoa tl=i):=⟨_,hid rfl⟩
       rw [HII.out] at HE HIL
       clear hil htl
       go_wp2_with fail
       refine HE.out.mono ?_
       rintro e wi ⟨rfl,hb⟩
       have HBi:=hid (HB32.out.below hb HB32.out.bel.size)
       have HXi:=hid (p_below HX32.out hb)
       clear hb HE HB32 HX32 x4
       have HEl:Hid (Calls Tryz.prog 67 #[.slice (some ⟨wi.heap.size,0,none⟩) 2 2,.pointer (some ⟨b,0,none⟩)] (wi.alloc (.cells #[.string ⟨#[116,111,108,101,114,97,110,99,101]⟩,.string ⟨il.toArray⟩] 9)) fun e w'=>e=.returned (.tuple #[])∧Bd w.heap.size b (o32++lineT kTol il) wi w'):=hid (line_new w.heap.size b o32 kTol il wi HBi.out.bld HBi.out.bel.size (by have:=HL32.out;have:=HIL.out;have:kTol.length=9:=rfl;omega))
       go_wp2_with fail
       refine HEl.out.mono ?_
       rintro e wl ⟨rfl,hbd⟩
       go_wp2_with fail
       go_meet
       exact ⟨hid (by rw [HTE.out,HII.out];exact HBi.out.wr hbd),hid (kept_blk hbd.kept HXi.out HXB.out (by decide))⟩
     obtain ⟨HBd,HXd⟩:=hcut
     clear HB32 HX32
     have HLt:=hid (tol_len htl)
     clear htl
     obtain ⟨od,HOd⟩:∃ o,Hid (o32++tolT tl=o):=⟨_,hid rfl⟩
     rw [HOd.out] at HBd
     have HLd:Hid (od.length≤523000116):=hid (by rw [← HOd.out,List.length_append];have:=HL32.out;have:=HLt.out;omega)
     have x5:=cell_of HXd.out 5 _ rfl
     have x6:=cell_of HXd.out 6 _ rfl
     have x7:=cell_of HXd.out 7 _ rfl
     have x8:=cell_of HXd.out 8 _ rfl
     have x9:=cell_of HXd.out 9 _ rfl
     have HOB:=hid (HSI.out.2.1.below HBd.out.bel)
     have HE41:=hid (outlineText_any m.outer wc (HG.out.below HBd.out.bel) HOB.out HSO.out.outer)
     unfold outV at HE41
     go_wp2_with fail
     refine HE41.out.mono ?_
     rintro e w41 ⟨rfl,hb⟩
     have HB41:=hid (HBd.out.below hb HBd.out.bel.size)
     have HX41:=hid (p_below HXd.out hb)
     have HOL:=hid (outline_len HSO.out.outer)
     clear hb HBd HXd HE41 x5 x6 x7 x8 x9 HOB
     obtain ⟨ot,HOT⟩:∃ o,Hid (outlineT m.src.outer=o):=⟨_,hid rfl⟩
     rw [HOT.out] at HOL
     rw [show outlineT m.outer.o=ot from HOT.out]
     have HE42:Hid (Calls Tryz.prog 67 #[.slice (some ⟨w41.heap.size,0,none⟩) 2 2,.pointer (some ⟨b,0,none⟩)] (w41.alloc (.cells #[.string ⟨#[114,105,110,103]⟩,.string ⟨ot.toArray⟩] 9)) fun e w'=>e=.returned (.tuple #[])∧Bd w.heap.size b (od++lineT kRing ot) w41 w'):=hid (line_new w.heap.size b od kRing ot w41 HB41.out.bld HB41.out.bel.size (by have:=HLd.out;have:=HOL.out;have:kRing.length≤9:=(by decide);omega))
     go_wp2_with fail
     refine HE42.out.mono ?_
     rintro e w42 ⟨rfl,hbd⟩
     have HB42:=hid (HB41.out.wr hbd)
     have HX42:=hid (kept_blk hbd.kept HX41.out HXB.out (by decide))
     clear hbd HX41 HB41 HE42
     obtain ⟨o42,HO42⟩:∃ o,Hid (od++lineT kRing ot=o):=⟨_,hid rfl⟩
     rw [HO42.out] at HB42
     have HL42:Hid (o42.length≤523006129):=hid (by rw [← HO42.out,List.length_append];have:=HLd.out;rw [line_len];have:=HOL.out;have:kRing.length≤9:=(by decide);omega)
     have x10:=cell_of HX42.out 10 _ rfl
     have HHR:=hid HSI.out.2.2.1.1
     have HHI:=hid HSI.out.2.2.2.1
     have HHO:Hid (∀ h∈m.holes,outlineOk h.o=true):=hid (fun h hh=>HSO.out.hole h.o (List.mem_map_of_mem hh))
     have HHL:Hid (m.holes.length≤6):=hid (by have:=HSO.out.holes;simpa [SrcM.src] using this)
     go_wp2_with fail
     clear x10 HX42
     go_loopw [81] (fun t wh=>∃ q:Nat,t=.int .i64 (q:Int)∧q≤m.holes.length∧Hid (Bd w.heap.size b (o42++((m.holes.take q).flatMap fun h=>lineT kHole (outlineT h.o))) w wh)) (fun t _=>m.holes.length - (intOf t).toNat)
     case atStart=>exact ⟨0,rfl,Nat.zero_le _,hid (by rw [List.take_zero,List.flatMap_nil,List.append_nil];exact HB42.out)⟩
     case round =>
      obtain ⟨q,rfl,hq,HBh⟩:=hrel
      have hmx:=HHL.out
      by_cases hqt:q < m.holes.length
      ·obtain ⟨tg,toff,hta,htg,ca⟩:=row_get out_len (by decide) (HHR.out.below HBh.out.bel) (by omega)
       have a0:=ca q hqt 0 (by decide)
       have a1:=ca q hqt 1 (by decide)
       have a2:=ca q hqt 2 (by decide)
       have a3:=ca q hqt 3 (by decide)
       have a4:=ca q hqt 4 (by decide)
       have HQT:=hid hqt
       have hk1:(0:Int)≤(q:Int):=by omega
       have hk2:(q:Int) < (m.holes.length:Int):=by omega
       have HTK:Hid (((m.holes.take (q+1)).flatMap fun h=>lineT kHole (outlineT h.o))=((m.holes.take q).flatMap fun h=>lineT kHole (outlineT h.o))++lineT kHole (outlineT m.holes[q].o)):=hid (by rw [List.take_succ_eq_append_getElem hqt,List.flatMap_append,List.flatMap_singleton];rfl)
       have HLF:Hid (((m.holes.take q).flatMap fun h=>lineT kHole (outlineT h.o)).length≤36060):=hid (by
        have h1:=holes_len ((m.holes.take q).map OutM.o) (fun o ho=>by
         obtain ⟨h,hh,rfl⟩:=List.mem_map.1 ho
         exact HHO.out h (List.mem_of_mem_take hh))
        rw [List.flatMap_map,List.length_map] at h1
        have h2:=List.length_take_le q m.holes
        have h3:=HHL.out
        have h4:(m.holes.take q).length≤6:=by rw [List.length_take];omega
        exact Nat.le_trans h1 (Nat.mul_le_mul_left 6010 h4))
       have HOK:=hid (HHO.out _ (List.getElem_mem hqt))
       have HIN:=hid ((HHI.out _ (List.getElem_mem hqt)).below HBh.out.bel)
       rw [hta]
       clear ca
       generalize m.holes[q]=h at *
       simp only [outCells,List.getElem?_cons_zero,List.getElem?_cons_succ,Nat.add_zero] at a0 a1 a2 a3 a4
       obtain ⟨oh,HOH⟩:∃ o,Hid (o42++((m.holes.take q).flatMap fun h=>lineT kHole (outlineT h.o))=o):=⟨_,hid rfl⟩
       rw [HOH.out] at HBh
       have HLh:Hid (oh.length≤523042189):=hid (by rw [← HOH.out,List.length_append];have:=HL42.out;have:=HLF.out;omega)
       have hbx:=bel1 wr (.cells #[.bool h.o.circle,.int .i64 h.o.center.1,.int .i64 h.o.center.2,.int .i64 h.o.radius,.slice h.A h.o.steps.length h.d] 55)
       have HY0:=hid (heap_new wr (.cells #[.bool h.o.circle,.int .i64 h.o.center.1,.int .i64 h.o.center.2,.int .i64 h.o.radius,.slice h.A h.o.steps.length h.d] 55))
       have HB0:=hid (HBh.out.below hbx HBh.out.bel.size)
       have HIN0:=hid (HIN.out.below hbx)
       go_upto_region 28 with fail
       clear a0 a1 a2 a3 a4 hbx HBh HIN
       generalize wr.alloc (.cells #[.bool h.o.circle,.int .i64 h.o.center.1,.int .i64 h.o.center.2,.int .i64 h.o.radius,.slice h.A h.o.steps.length h.d] 55)=W0 at *
       have y0:=cell_of HY0.out 0 _ rfl
       have y1:=cell_of HY0.out 1 _ rfl
       have y2:=cell_of HY0.out 2 _ rfl
       have y3:=cell_of HY0.out 3 _ rfl
       have y4:=cell_of HY0.out 4 _ rfl
       have HE:=hid (outlineText_any h W0 (HG.out.below HB0.out.bel) HIN0.out HOK.out)
       unfold outV at HE
       have HOL:=hid (outline_len HOK.out)
       obtain ⟨ot2,HOT2⟩:∃ o,Hid (outlineT h.o=o):=⟨_,hid rfl⟩
       rw [HOT2.out] at HOL HE HTK
       go_wp2_with fail
       refine HE.out.mono ?_
       rintro e w1 ⟨rfl,hb⟩
       have HB1:=hid (HB0.out.below hb HB0.out.bel.size)
       clear hb HE y0 y1 y2 y3 y4 HY0 HB0 HIN0
       have HEl:Hid (Calls Tryz.prog 67 #[.slice (some ⟨w1.heap.size,0,none⟩) 2 2,.pointer (some ⟨b,0,none⟩)] (w1.alloc (.cells #[.string ⟨#[104,111,108,101]⟩,.string ⟨ot2.toArray⟩] 9)) fun e w'=>e=.returned (.tuple #[])∧Bd w.heap.size b (oh++lineT kHole ot2) w1 w'):=hid (line_new w.heap.size b oh kHole ot2 w1 HB1.out.bld HB1.out.bel.size (by have:=HLh.out;have:=HOL.out;have:kHole.length=4:=rfl;omega))
       go_wp2_with fail
       refine HEl.out.mono ?_
       rintro e w2 ⟨rfl,hbd⟩
       have HB2:Hid (Bd w.heap.size b (o42++((m.holes.take (q+1)).flatMap fun h=>lineT kHole (outlineT h.o))) w w2):=hid (by rw [HTK.out,← List.append_assoc,HOH.out];exact HB1.out.wr hbd)
       clear hbd HEl HB1
       go_wp2
       go_roundw
       case rel=>exact ⟨q+1,by go_num,by have:=HQT.out;omega,HB2⟩
       case measure=>simp [intOf];have:=HQT.out;omega
      ·obtain rfl:q=m.holes.length:=by omega
       rw [List.take_length] at HBh
       have HLF:Hid ((m.holes.flatMap fun h=>lineT kHole (outlineT h.o)).length≤36060):=hid (by
        have h1:=holes_len (m.holes.map OutM.o) (fun o ho=>by
         obtain ⟨h,hh,rfl⟩:=List.mem_map.1 ho
         exact HHO.out h hh)
        rw [List.flatMap_map,List.length_map] at h1
        exact Nat.le_trans h1 (Nat.mul_le_mul_left 6010 HHL.out))
       have HLe:Hid ((o42++m.holes.flatMap fun h=>lineT kHole (outlineT h.o)).length≤523042189):=hid (by rw [List.length_append];have:=HL42.out;have:=HLF.out;omega)
       obtain ⟨oe,HOE⟩:∃ o,Hid ((o42++m.holes.flatMap fun h=>lineT kHole (outlineT h.o))=o):=⟨_,hid rfl⟩
       rw [HOE.out] at HBh HLe
       have HEe:Hid (Calls Tryz.prog 68 #[.pointer (some ⟨b,0,none⟩),.string ⟨#[125,10]⟩] wr fun e w'=>e=.returned (.tuple #[.int .i64 (ByteArray.mk #[125,10]).size,.nilIface])∧Bd w.heap.size b (oe++[125,10]) wr w'):=hid (write_bd w.heap.size b oe [125,10] wr HBh.out.bld HBh.out.bel.size (by have:=HLe.out;simp only [List.length_cons,List.length_nil];omega))
       clear hq hqt
       go_wp2_with fail
       refine HEe.out.mono ?_
       rintro e wz ⟨rfl,hbd⟩
       have HBZ:Hid (Bd w.heap.size b (printT ((ms.map SrcM.src).take (k+1))) w wz):=hid (by
        have e1:oe++[125,10]=printT ((ms.map SrcM.src).take (k+1)):=by
         rw [HPK.out,← HOE.out,← HO42.out,← HOT.out,← HOd.out,← HTT.out,← HO32.out,← HJT.out,← HOc.out,← HGG.out,← HO2.out,← HO1.out,HOO.out]
         simp only [sourceT,List.append_assoc,List.cons_append,List.nil_append,SrcM.src,List.flatMap_map]
        rw [← e1]
        exact HBh.out.wr hbd)
       clear hbd HEe HBh
       go_wp2
       go_roundw
       case rel=>exact ⟨k+1,by go_num,by have:=HKL.out;omega,HBZ⟩
       case measure=>simp [intOf];have:=HKL.out;omega
  ·obtain rfl:k=ms.length:=by omega
   have hlp:=HTL.out ms.length
   rw [List.take_of_length_le (by rw [List.length_map];exact Nat.le_refl _)] at HBR hlp
   obtain ⟨pt,HPT⟩:∃ pt,Hid (printT (ms.map SrcM.src)=pt):=⟨_,hid rfl⟩
   rw [HPT.out] at HBR hlp HRE
   clear HTL HAL HS hk hkl HPT
   have HLN:=hid (blen_any w.heap.size b pt wr HBR.out.bld)
   go_wp2_with fail
   refine HLN.out.mono ?_
   rintro e w2 ⟨rfl,hb⟩
   have HB2:=hid (HBR.out.below hb HBR.out.bel.size)
   clear hb HLN HBR
   by_cases hp:20000 < pt.length
   ·have d1:((20000:Int) < (pt.length:Int))=True:=eq_true (by omega)
    have HRF:Hid (PR=([],9)):=hid (HRE.out.trans (if_pos hp))
    clear hp
    go_wp2
    refine bodyPost_ret (v:=.tuple #[.string ⟨#[]⟩,.int .i64 9]) (by simp [results,Tryz.results31,go_sem]) rfl ?_
    exact ⟨by rw [HRF.out],HB2.out.bel⟩
   ·have d1:((20000:Int) < (pt.length:Int))=False:=eq_false (by omega)
    have HRF:Hid (PR=(pt,0)):=hid (HRE.out.trans (if_neg hp))
    clear hp
    have HST:=hid (Tryz.Builder_String_any w.heap.size b pt w2 HB2.out.bld HB2.out.bel.size)
    obtain ⟨PB,HPB⟩:∃ P,Hid (ByteArray.mk pt.toArray=P):=⟨_,hid rfl⟩
    rw [HPB.out] at HST
    go_wp2_with fail
    refine HST.out.mono ?_
    rintro e w3 ⟨rfl,hb⟩
    have HB3:=hid (HB2.out.bel.trans hb)
    clear hb
    go_wp2
    refine bodyPost_ret (v:=.tuple #[.string PB,.int .i64 0]) (by simp [results,Tryz.results31,go_sem]) rfl ?_
    exact ⟨by rw [HRF.out,← HPB.out],HB3.out⟩
end Go.Proofs.YtnkkcknogkgdkaaGreatDoor.PaW
