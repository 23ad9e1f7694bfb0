/- DrawingDrawn: the shapes of the drawing of valid shapes that lie apart are these shapes, canonical and in order. Conditions: none. -/
import Derived.Test.YtnmmhcchpcbeeaaGreatDqP
import Derived.Test.YtnmmhcchpcbeeaaGreatDpF
import Derived.Test.YtnmmhcchpcbeeaaGreatDpN
import Derived.Test.YtnmmhcchpcbeeaaGreatAwk
import Derived.HandedShaped
import Derived.Handed
import Derived.ProofKit
import Derived.Test.YtnmmhcchpcbeeaaGreatRows
import Derived.OpenShut

namespace Go.Proofs.YtnmmhcchpcbeeaaGreat.GeW
open Lib (hid)
open Go Go.RowKit Go.Proofs.YtnmmhcchpcbeeaaGreat.Mem Go.Proofs.YtnmmhcchpcbeeaaGreat.Ge
attribute [local go_sem ↓] Go.wp_at_zero Go.wp_at_succ
theorem pair_snoc {α:Type} {R:α→α→Prop} {l:List α} {k:Nat} (hk:k < l.length) (h:(l.take k).Pairwise R) (hn:∀ j (hj:j < k),R (l[j]'(Nat.lt_trans hj hk)) l[k]):(l.take (k+1)).Pairwise R:=by
 rw [List.take_succ_eq_append_getElem hk,List.pairwise_append]
 refine ⟨h,List.pairwise_singleton _ _,fun a ha b hb=>?_⟩
 rw [List.mem_singleton.1 hb]
 obtain ⟨j,hj,rfl⟩:=List.mem_take_iff_getElem.1 ha
 exact hn j (by omega)
/-- What the law finds of a shape ahead. -/
def okS (m:ShapeM):Prop:=fewB m=true∧m.hs.length≤2∧shapeB m.o.l (holesL m)=true
set_option maxRecDepth 100000 in
set_option maxHeartbeats 8000000 in
theorem drawnLaw_walk (A:Option Addr) (len cap:Nat) (ms:List ShapeM) (w:World) (h:ShapesRaw w A len cap ms) :
  Calls Tryz.prog 7 #[.slice A len cap] w fun e w'=>e=.returned (.bool true)∧Below w.heap.size w w':=by
 obtain ⟨rfl,heach,hrow⟩:=h
 have HRW:=hid hrow
 have HEA:=hid heach
 have HAW:=hid (awake_any w)
 clear hrow heach
 by_cases h3:ms.length≤3
 case neg =>
  have d3:decide (3 < (ms.length:Int))=true:=decide_eq_true (by omega)
  clear h3
  go_enter Tryz.func7,Tryz.ntmps7
  go_wp2_with fail
  refine HAW.out.mono ?_
  rintro e w1 ⟨rfl,hb1⟩
  go_wp2
  go_ret
  exact ⟨rfl,hb1⟩
 case pos =>
  have d3:decide (3 < (ms.length:Int))=false:=decide_eq_false (by omega)
  go_enter Tryz.func7,Tryz.ntmps7
  go_wp2_with fail
  refine HAW.out.mono ?_
  rintro e w1 ⟨rfl,hb1⟩
  have HB1:=hid hb1
  clear hb1 HAW
  go_wp2_with fail
  clear d3
  go_loopw [3,4] (fun i _ wr=>∃ k:Nat,i=.int .i64 (k:Int)∧k≤ms.length∧Hid (∀ m∈ms.take k,okS m)∧Hid ((ms.take k).Pairwise fun a b=>lapartB b.o.l a.o.l=true)∧Hid (Below w.heap.size w wr)) (fun i _ _=>ms.length - (intOf i).toNat)
  case atStart=>exact ⟨0,rfl,Nat.zero_le _,hid (by simp),hid (by simp),HB1⟩
  case round =>
   clear HB1
   obtain ⟨i,rfl,hi,HOK,HPW,HB⟩:=hrel
   by_cases hlt:i < ms.length
   ·have HFN:Hid (okS ms[i]→∀ m∈ms.take (i+1),okS m):=hid (fun hf m hm=>by
     rw [List.take_succ_eq_append_getElem hlt] at hm
     rcases List.mem_append.1 hm with hm | hm
     ·exact HOK.out m hm
     ·simp at hm
      subst hm
      exact hf)
    obtain ⟨g,off,rfl,hg,ca⟩:=row_get shapeL_len (by decide) HRW.out (by omega)
    have HCA:Hid (∀ j (hj:j < ms.length),w.cell? ⟨g,off+j*2,none⟩=some (rowVal ms[j].o)∧w.cell? ⟨g,off+j*2+1,none⟩=some (holesVal ms[j])):=hid (fun j hj=>⟨ca j hj 0 (by decide),ca j hj 1 (by decide)⟩)
    have a0:=(HB.out.cell (p:=⟨g,off+i*2,none⟩) hg).trans (HCA.out i hlt).1
    have a1:=(HB.out.cell (p:=⟨g,off+i*2+1,none⟩) hg).trans (HCA.out i hlt).2
    have HRA:=hid (HEA.out _ (List.getElem_mem hlt))
    have HFA:=hid (few_any ms[i] wr (HRA.out.below HB.out))
    have HVA:=hid (fun (hf:fewB ms[i]=true) W (hW:Below w.heap.size w W)=>rshapeOk_any ms[i] W ((HRA.out.below hW).few hf))
    have hk1:(0:Int)≤(i:Int):=by omega
    have hk2:(i:Int) < (ms.length:Int):=by omega
    clear ca
    obtain ⟨m,hm⟩:∃ m,ms[i]=m:=⟨_,rfl⟩
    have HMI:=hid hm
    rw [hm] at a0 a1 HFA HVA HFN HRA
    clear hm
    unfold shapeVals at HVA
    unfold rowVal at a0 HVA
    unfold holesVal at a1 HVA
    rw [shape_same] at HVA
    cases hf:fewB m
    ·rw [hf] at HFA
     clear HVA
     go_wp2_with fail
     refine HFA.out.mono ?_
     rintro e w2 ⟨rfl,hb2⟩
     have HB2:=hid (HB.out.trans (hb2.mono HB.out.size))
     clear hb2
     go_wp2
     go_ret
     exact ⟨rfl,HB2.out⟩
    rw [hf] at HFA
    go_wp2_with fail
    refine HFA.out.mono ?_
    rintro e w2 ⟨rfl,hb2⟩
    have HB2:=hid (HB.out.trans (hb2.mono HB.out.size))
    have HV2:=hid (HVA.out hf w2 HB2.out)
    have HHF:=hid hf
    have a0:=(hb2.cell (p:=⟨g,off+i*2,none⟩) (Nat.lt_of_lt_of_le hg HB.out.size)).trans a0
    have a1:=(hb2.cell (p:=⟨g,off+i*2+1,none⟩) (Nat.lt_of_lt_of_le hg HB.out.size)).trans a1
    clear hb2 HFA HVA hf
    by_cases h12:m.o.l.length≤12
    case neg =>
     have d12:decide (12 < (m.o.l.length:Int))=true:=decide_eq_true (by omega)
     clear HV2
     go_wp2
     go_ret
     exact ⟨rfl,HB2.out⟩
    have d12:decide (12 < (m.o.l.length:Int))=false:=decide_eq_false (by omega)
    by_cases h22:m.hs.length≤2
    case neg =>
     have d22:decide (2 < (m.hs.length:Int))=true:=decide_eq_true (by omega)
     clear HV2
     go_wp2
     go_ret
     exact ⟨rfl,HB2.out⟩
    have d22:decide (2 < (m.hs.length:Int))=false:=decide_eq_false (by omega)
    cases hv:shapeB m.o.l (holesL m)
    ·rw [hv] at HV2
     go_wp2_with fail
     refine HV2.out.mono ?_
     rintro e w3 ⟨rfl,hb3⟩
     have HB3:=hid (HB2.out.trans (hb3.mono HB2.out.size))
     clear hb3
     go_wp2
     go_ret
     exact ⟨rfl,HB3.out⟩
    rw [hv] at HV2
    go_wp2_with fail
    refine HV2.out.mono ?_
    rintro e w3 ⟨rfl,hb3⟩
    have HB3:=hid (HB2.out.trans (hb3.mono HB2.out.size))
    have HON:=hid (HFN.out ⟨HHF.out,h22,hv⟩)
    have HVV:=hid hv
    clear hb3 HV2 a0 a1 d12 d22 h12 h22 hv HFN HB2
    go_wp2_with fail
    go_loopw [4] (fun k wr=>∃ q:Nat,k=.int .i64 (q:Int)∧q≤i∧Hid (∀ j (hj:j < q) (hq:j < ms.length),lapartB m.o.l ms[j].o.l=true)∧Hid (Below w.heap.size w wr)) (fun k _=>i - (intOf k).toNat)
    case atStart=>exact ⟨0,rfl,Nat.zero_le _,hid (fun j hj=>absurd hj (Nat.not_lt_zero _)),HB3⟩
    case round =>
     clear HB HB3
     obtain ⟨q,rfl,hq,HAP,HB⟩:=hrel
     by_cases hql:q < i
     ·have hqm:q < ms.length:=by omega
      have c0:=(HB.out.cell (p:=⟨g,off+q*2,none⟩) hg).trans (HCA.out q hqm).1
      have b0:=(HB.out.cell (p:=⟨g,off+i*2,none⟩) hg).trans (HCA.out i hlt).1
      rw [HMI.out] at b0
      have HQO:=hid (HOK.out ms[q] (by rw [List.mem_take_iff_getElem];exact ⟨q,by omega,rfl⟩))
      have HQR:=hid (HEA.out _ (List.getElem_mem hqm))
      have HQ1:Hid (∀ j (hj:j < q+1) (hqq:j < ms.length),lapartB m.o.l ms[q].o.l=true→lapartB m.o.l ms[j].o.l=true):=hid (fun j hj hqq hh=>by
       rcases Nat.lt_or_ge j q with c | c
       ·exact HAP.out j c hqq
       ·obtain rfl:j=q:=by omega
        exact hh)
      obtain ⟨s,hs⟩:∃ s,ms[q]=s:=⟨_,rfl⟩
      rw [hs] at c0 HQO HQR HQ1
      clear hs
      have HRI:Hid (∀ W,Below w.heap.size w W→RgIn W m.o∧RgIn W s.o):=hid (fun W hW=>by
       have f1:=(HRA.out.below hW).few HHF.out
       have f2:=(HQR.out.below hW).few HQO.out.1
       exact ⟨⟨f1.ro,shape_rings HVV.out _ List.mem_cons_self,(f1.short _ List.mem_cons_self).2⟩,⟨f2.ro,shape_rings HQO.out.2.2 _ List.mem_cons_self,(f2.short _ List.mem_cons_self).2⟩⟩)
      have HLA:=hid (fun p:Later wr=>lapart_any m.o s.o p.w (HRI.out p.w (HB.out.trans (p.h.mono HB.out.size))).1 (HRI.out p.w (HB.out.trans (p.h.mono HB.out.size))).2)
      obtain ⟨b,hb⟩:∃ b,lapartB m.o.l s.o.l=b:=⟨_,rfl⟩
      rw [hb] at HLA HQ1
      unfold rowVal at HLA c0 b0
      have hgw:g < wr.heap.size:=Nat.lt_of_lt_of_le hg HB.out.size
      have hq1:(0:Int)≤(q:Int):=by omega
      have hq2:(q:Int) < (ms.length:Int):=by omega
      have hq3:(q:Int) < (i:Int):=by omega
      clear hb
      go_upto_region 13 with fail
      have P0:=fun p:Later wr=>(p.h.cell (p:=⟨g,off+i*2,none⟩) hgw).trans b0
      have P1:=fun p:Later wr=>(p.h.cell (p:=⟨g,off+q*2,none⟩) hgw).trans c0
      clear b0 c0
      refine wp_region_later wr (by kernel_rfl) (by kernel_rfl) (Below.refl _ _) ?_
      repeat (go_big_quiet_step (first | (go_at_call 24;with_reducible exact Calls.later (HLA.out _))))
      refine wpQuiet_nil ?_
      rintro w9 hex;have hb9:=later_of hex;clear hex
      have HB9:=hid (HB.out.trans (hb9.mono HB.out.size))
      clear P0 P1 hb9 HLA
      cases b
      ·go_wp2
       go_ret
       exact ⟨rfl,HB9.out⟩
      ·go_wp2_with fail
       go_roundw
       case rel=>exact ⟨q+1,by go_num,hql,hid (fun j hj hqq=>HQ1.out j hj hqq rfl),HB9⟩
       case measure=>simp [intOf];omega
     ·obtain rfl:q=i:=by omega
      have HPN:Hid ((ms.take (q+1)).Pairwise fun a b=>lapartB b.o.l a.o.l=true):=hid (pair_snoc hlt HPW.out (fun j hj=>by rw [HMI.out];exact HAP.out j hj (Nat.lt_trans hj hlt)))
      go_wp2_with fail
      go_roundw
      case rel=>exact ⟨q+1,by go_num,hlt,HON,HPN,HB⟩
      case measure=>simp [intOf];omega

   ·obtain rfl:i=ms.length:=by omega
    have HOA:Hid (∀ m∈ms,okS m):=hid (by have h:=HOK.out;rwa [List.take_length] at h)
    have HPA:Hid (ms.Pairwise fun a b=>lapartB b.o.l a.o.l=true):=hid (by have h:=HPW.out;rwa [List.take_length] at h)
    have HGD:Hid (∀ s∈ms.map shapeOf,Ge.Good s):=hid (fun s hs=>by
     obtain ⟨m,hm,rfl⟩:=List.mem_map.1 hs
     exact good_iff.1 (HOA.out m hm).2.2)
    have HFR:Hid ((ms.map shapeOf).Pairwise Far):=hid (by
     rw [List.pairwise_map]
     refine List.Pairwise.imp_of_mem ?_ HPA.out
     intro a b ha hb hh
     exact (far_of (HGD.out _ (List.mem_map_of_mem hb)) (HGD.out _ (List.mem_map_of_mem ha)) hh).symm)
    have HSI:Hid (∀ W,Below w.heap.size w W→ShapesIn W A ms):=hid (fun W hW=>by
     refine ⟨HRW.out.below hW,fun m hm=>((HEA.out m hm).below hW).few (HOA.out m hm).1,by omega,fun m hm=>?_⟩
     have:=(HOA.out m hm).2.1
     omega)
    have HDP:=hid (drawP_ok (ms:=ms) fun m hm=>(HOA.out m hm).2.2)
    have HD1:=hid (draw_any ms A cap [120] wr (HSI.out wr HB.out) (by decide))
    rw [HDP.out] at HD1
    clear HOK HPW HPA HDP
    by_cases h200:(allEdges ms).length≤200
    case neg =>
     rw [if_neg h200] at HD1
     simp only at HD1
     go_wp2_with fail
     refine HD1.out.mono ?_
     rintro e w2 ⟨⟨v2,rfl,_⟩,hb2⟩
     have HB2:=hid (HB.out.trans (hb2.mono HB.out.size))
     clear hb2
     go_wp2
     go_ret
     exact ⟨rfl,HB2.out⟩
    rw [if_pos h200] at HD1
    simp only at HD1
    have HSH:=hid (fun (B:Option Addr) (d:Nat) (W:World) (hr:Ents W B (drawnV ms))=>shapes_any (drawnV ms) B d W [120] 1 (fun _=>[]) hr (fun x hx hk2=>by
     obtain ⟨e,_,rfl⟩:=List.mem_map.1 hx
     exact absurd hk2 (show (1:Int)≠2 by decide)))
    have HEN:Hid (∀ (B:Option Addr) (W:World),Row W B ((allEdges ms).flatMap (lineCells ⟨[120].toArray⟩))→Ents W B (drawnV ms)):=hid (fun B W hr=>by
     refine ⟨?_,fun x hx=>?_,?_⟩
     ·unfold drawnV
      rw [drawnV_vals]
      exact hr
     ·obtain ⟨e,_,rfl⟩:=List.mem_map.1 hx
      exact ⟨Row.nil _ _,Nat.zero_le _,Nat.le_refl _,by show (1:Nat)≤1000000;decide⟩
     ·unfold drawnV
      rw [List.length_map]
      omega)
    have HDL:Hid ((drawnV ms).length=(allEdges ms).length):=hid (List.length_map _)
    rw [HDL.out] at HSH
    have HLW:=hid (fun (ns:List ShapeM) (e:Int)=>drawn_law (ns:=ns) (e:=e) HGD.out HFR.out h200)
    have hbx:(ByteArray.mk [120].toArray)=ByteArray.mk #[120]:=rfl
    rw [hbx] at HD1 HEN HSH
    clear hbx
    generalize allEdges ms=es at *
    go_wp2_with fail
    refine HD1.out.mono ?_
    rintro e w2 ⟨⟨v2,rfl,hown2⟩,hb2⟩
    obtain ⟨A2,k2,rfl,_⟩:=own_shape hown2
    have HB2:=hid (HB.out.trans (hb2.mono HB.out.size))
    have HS2:=hid (HSH.out A2 k2 w2 (HEN.out A2 w2 (Row.of_own hown2)))
    clear hown2 hb2 HD1 HSH HEN HB
    go_wp2_with fail
    refine HS2.out.mono ?_
    rintro e w5 ⟨⟨v5,er,ns,rfl,⟨A5,c5,rfl,hrow5,hin5,hl5⟩,_,hs5⟩,hb5⟩
    obtain ⟨z1,z2,z3,z4⟩:=HLW.out ns er hs5
    subst z1
    have HB5:=hid (HB2.out.trans (hb5.mono HB2.out.size))
    have HR5:=hid hrow5
    have HI5:=hid hin5
    have HNL:=hid z2
    have HNA:=hid z3
    have HNP:=hid z4
    have n1:((ns.length:Int) != (ms.length:Int))=false:=bne_eq_false_iff_eq.2 (by omega)
    clear hrow5 hin5 hs5 hb5 HS2 HLW z2 z3 z4 HB2
    go_wp2_with fail
    clear n1
    go_loopw [9,10,11] (fun i _ _ wr=>∃ k:Nat,i=.int .i64 (k:Int)∧k≤ns.length∧Hid (Below w5.heap.size w5 wr)) (fun i _ _ _=>ns.length - (intOf i).toNat)
    case atStart=>exact ⟨0,rfl,Nat.zero_le _,hid (Below.refl _ _)⟩
    case round =>
     obtain ⟨i,rfl,hi,HB⟩:=hrel
     by_cases hlt:i < ns.length
     ·obtain ⟨g5,o5,rfl,hg5,ca5⟩:=row_get shapeC_len (by decide) HR5.out (by omega)
      have HC5:Hid (∀ W,Below w5.heap.size w5 W→∀ j (hj:j < ns.length),W.cell? ⟨g5,o5+j*2,none⟩=some (rowVal ns[j].o)∧W.cell? ⟨g5,o5+j*2+1,none⟩=some (holesVal ns[j])):=hid (fun W hW j hj=>⟨(hW.cell (p:=⟨g5,o5+j*2,none⟩) hg5).trans (ca5 j hj 0 (by decide)),(hW.cell (p:=⟨g5,o5+j*2+1,none⟩) hg5).trans (ca5 j hj 1 (by decide))⟩)
      have HM:=hid (HI5.out _ (List.getElem_mem hlt))
      have HMA:=hid (HNA.out _ (List.getElem_mem hlt))
      have HMR:Hid (ringB ns[i].o.l=true):=hid (shape_rings HMA.out.1 _ List.mem_cons_self)
      have HPV:Hid (∀ (hp:0 < i),less (hd (ns[i - 1]'(by omega)).o.l) (hd ns[i].o.l)=true∧ringB (ns[i - 1]'(by omega)).o.l=true):=hid (fun hp=>⟨List.pairwise_iff_getElem.1 HNP.out (i - 1) i (by omega) hlt (by omega),shape_rings (HNA.out _ (List.getElem_mem (by omega))).1 _ List.mem_cons_self⟩)
      have HCI:=hid (fun W hW=>HC5.out W hW i hlt)
      have hk1:(0:Int)≤(i:Int):=by omega
      have hk2:(i:Int) < (ns.length:Int):=by omega
      clear ca5
      obtain ⟨n,hn⟩:∃ n,ns[i]=n:=⟨_,rfl⟩
      rw [hn] at HM HMA HMR HPV HCI
      clear hn
      have HBX:Hid (∀ W,Below wr.heap.size wr W→Below w5.heap.size w5 W):=hid (fun W hW=>HB.out.trans (hW.mono HB.out.size))
      have HVA:=hid (fun W (hW:Below wr.heap.size wr W)=>shapeOk_any n W (HM.out.below (HBX.out W hW)))
      have HCN:=hid (fun W (hW:Below wr.heap.size wr W)=>canonS_any n W (HM.out.below (HBX.out W hW)) HMA.out.1)
      rw [HMA.out.1] at HVA
      have HSA:=hid (fun (m2:ShapeM) (W:World) (hW:Below wr.heap.size wr W) (hat:ShapeAt W m2) (ho:m2.o.l=beginL n.o.l) (hh:holesL m2=sortH ((holesL n).map beginL))=>(shapeSame_any m2 n W hat.sin (HM.out.below (HBX.out W hW))).mono (R':=fun e w'=>e=.returned (.bool true)∧Below W.heap.size W w') (by
       rintro e w' ⟨rfl,hb⟩
       refine ⟨?_,hb⟩
       have h1:=HMA.out.2.1
       unfold canonS shapeOf at h1
       injection h1 with h1 h2
       rw [ho,hh,h1,h2,decide_eq_true rfl,decide_eq_true rfl]
       rfl))
      obtain ⟨mA,mn,mk,hmA⟩:∃ a n' b,rowVal n.o=.slice a n' b:=⟨_,_,_,rfl⟩
      obtain ⟨nA,nn,nk,hnA⟩:∃ a n' b,holesVal n=.slice a n' b:=⟨_,_,_,rfl⟩
      have HSV:Hid (shapeVals n=#[.slice mA mn mk,.slice nA nn nk]):=hid (by unfold shapeVals;rw [hmA,hnA])
      rw [hmA,hnA] at HCI
      rw [HSV.out] at HVA HCN HSA
      have HMV:=hid hmA
      have HSN:=HSV
      clear hmA hnA HSV
      obtain ⟨a0,a1⟩:=HCI.out wr HB.out
      rcases Nat.eq_zero_or_pos i with hi0 | hi0
      ·have di:decide ((0:Int) < (i:Int))=false:=decide_eq_false (by omega)
       have dn:(0 < i)=False:=eq_false (by omega)
       clear hi0
       have CS:Hid (∀ w',Below wr.heap.size wr w'→w'.cell? ⟨g5,o5+i*2,none⟩=some (.slice mA mn mk)∧w'.cell? ⟨g5,o5+i*2+1,none⟩=some (.slice nA nn nk)∧Below wr.heap.size wr w'):=hid (fun w' hb=>by
        obtain ⟨x,y⟩:=HCI.out w' (HBX.out w' hb)
        exact ⟨x,y,hb⟩)
       clear a0 a1
       go_upto_region 24 with fail
       refine wp_region_held_drew (S:=fun w'=>w'.cell? ⟨g5,o5+i*2,none⟩=some (.slice mA mn mk)∧w'.cell? ⟨g5,o5+i*2+1,none⟩=some (.slice nA nn nk)∧Below wr.heap.size wr w') (by kernel_rfl) ?_ (fun hHeld=>?_)
       ·exact CS.out _ (below_drew (Below.refl _ _))
       refine wpAnyH_take (i:=0) (oi:=⟨some 101,.move (.tmp 7),22,"law.go:221",#[],none⟩) (v:=?_) rfl (by kernel_rfl) (by kernel_rfl) (by kernel_rfl) (fun _ _ _ h=>h) (Or.inl ⟨by rfl,?_⟩) (by assumption) ?_
       rotate_left
       ·intro w' hSw
        (try dsimp only at hSw)
        first | (go_simp;done) | (go_simp;with_reducible rfl)
       try simp only [Act.put,List.setIfInBounds_toArray,List.set_cons_zero,List.set_cons_succ]
       refine wpAnyH_take (i:=1) (oi:=⟨some 102,.move (.tmp 9),3,"law.go:221",#[],none⟩) (v:=?_) rfl (by kernel_rfl) (by kernel_rfl) (by kernel_rfl) (fun _ _ _ h=>h) (Or.inl ⟨by rfl,?_⟩) (by assumption) ?_
       rotate_left
       ·intro w' hSw
        (try dsimp only at hSw)
        first | (go_simp;done) | (go_simp;with_reducible rfl)
       try simp only [Act.put,List.setIfInBounds_toArray,List.set_cons_zero,List.set_cons_succ]
       refine wpAnyH_take (i:=2) (oi:=⟨some 103,.indexAddr 22 (.tmp 101) (.tmp 102),0,"law.go:221",#[⟨0,.data⟩,⟨1,.data⟩],none⟩) (v:=?_) rfl (by kernel_rfl) (by kernel_rfl) (by kernel_rfl) (fun _ _ _ h=>h) (Or.inl ⟨by rfl,?_⟩) (by assumption) ?_
       rotate_left
       ·intro w' hSw
        (try dsimp only at hSw)
        first | (go_simp;done) | (go_simp;with_reducible rfl)
       try simp only [Act.put,List.setIfInBounds_toArray,List.set_cons_zero,List.set_cons_succ]
       refine wpAnyH_take (i:=3) (oi:=⟨some 104,.load 29 (.tmp 103),29,"law.go:221",#[⟨2,.data⟩],none⟩) (v:=?_) rfl (by kernel_rfl) (by kernel_rfl) (by kernel_rfl) (fun _ _ _ h=>h) (Or.inl ⟨by rfl,?_⟩) (by assumption) ?_
       rotate_left
       ·intro w' hSw
        (try dsimp only at hSw)
        first | (go_simp;done) | (go_simp;with_reducible rfl)
       try simp only [Act.put,List.setIfInBounds_toArray,List.set_cons_zero,List.set_cons_succ]
       refine wpAnyH_ready (rs:=[4]) (by kernel_rfl) (by simp) ?_
       refine AllReadyH.cons (o:=⟨some 105,.call { callee:=Callee.value (.func 25),args:=#[.tmp 104],argTypes:=#[29] },4,"law.go:221",#[⟨3,.data⟩],none⟩) rfl (fun K hK=>?_) AllReadyH.nil
       go_simp
       go_at_call 25
       have hbx:Below wr.heap.size wr wr.drew:=below_drew (Below.refl _ _)
       refine (HVA.out _ hbx).mono ?_
       rintro e w10 ⟨rfl,hb10a⟩
       have hb10:Below wr.heap.size wr w10:=hbx.trans (hb10a.mono (Below.size hbx))
       refine hK.out _ _ ?_ (fun hHeld=>?_)
       ·exact CS.out _ hb10
       clear hK K
       try simp only [Act.put,List.setIfInBounds_toArray,List.set_cons_zero,List.set_cons_succ]
       refine wpAnyH_take (i:=5) (oi:=⟨some 106,.unOp UnOp.not 4 (.tmp 105),4,"law.go:221",#[⟨4,.data⟩],none⟩) (v:=?_) rfl (by kernel_rfl) (by kernel_rfl) (by kernel_rfl) (fun _ _ _ h=>h) (Or.inl ⟨by rfl,?_⟩) (by assumption) ?_
       rotate_left
       ·intro w' hSw
        (try dsimp only at hSw)
        first | (go_simp;done) | (go_simp;with_reducible rfl)
       try simp only [Act.put,List.setIfInBounds_toArray,List.set_cons_zero,List.set_cons_succ]
       refine wpAnyH_take (i:=6) (oi:=⟨some 107,.move (.tmp 106),4,"law.go:221",#[⟨5,.data⟩,⟨4,.chain⟩],none⟩) (v:=?_) rfl (by kernel_rfl) (by kernel_rfl) (by kernel_rfl) (fun _ _ _ h=>h) (Or.inl ⟨by rfl,?_⟩) (by assumption) ?_
       rotate_left
       ·intro w' hSw
        (try dsimp only at hSw)
        first | (go_simp;done) | (go_simp;with_reducible rfl)
       try simp only [Act.put,List.setIfInBounds_toArray,List.set_cons_zero,List.set_cons_succ]
       refine wpAnyH_take (i:=7) (oi:=⟨some 108,.move (.tmp 7),22,"law.go:221",#[⟨6,.guard⟩],some (6,false)⟩) (v:=?_) rfl (by kernel_rfl) (by kernel_rfl) (by kernel_rfl) (fun _ _ _ h=>h) (Or.inl ⟨by rfl,?_⟩) (by assumption) ?_
       rotate_left
       ·intro w' hSw
        (try dsimp only at hSw)
        first | (go_simp;done) | (go_simp;with_reducible rfl)
       try simp only [Act.put,List.setIfInBounds_toArray,List.set_cons_zero,List.set_cons_succ]
       refine wpAnyH_take (i:=8) (oi:=⟨some 109,.move (.tmp 9),3,"law.go:221",#[⟨6,.guard⟩],some (6,false)⟩) (v:=?_) rfl (by kernel_rfl) (by kernel_rfl) (by kernel_rfl) (fun _ _ _ h=>h) (Or.inl ⟨by rfl,?_⟩) (by assumption) ?_
       rotate_left
       ·intro w' hSw
        (try dsimp only at hSw)
        first | (go_simp;done) | (go_simp;with_reducible rfl)
       try simp only [Act.put,List.setIfInBounds_toArray,List.set_cons_zero,List.set_cons_succ]
       refine wpAnyH_take (i:=9) (oi:=⟨some 110,.indexAddr 22 (.tmp 108) (.tmp 109),0,"law.go:221",#[⟨7,.data⟩,⟨8,.data⟩,⟨6,.guard⟩],some (6,false)⟩) (v:=?_) rfl (by kernel_rfl) (by kernel_rfl) (by kernel_rfl) (fun _ _ _ h=>h) (Or.inl ⟨by rfl,?_⟩) (by assumption) ?_
       rotate_left
       ·intro w' hSw
        (try dsimp only at hSw)
        first | (go_simp;done) | (go_simp;with_reducible rfl)
       try simp only [Act.put,List.setIfInBounds_toArray,List.set_cons_zero,List.set_cons_succ]
       refine wpAnyH_take (i:=10) (oi:=⟨some 111,.load 29 (.tmp 110),29,"law.go:221",#[⟨9,.data⟩,⟨6,.guard⟩],some (6,false)⟩) (v:=?_) rfl (by kernel_rfl) (by kernel_rfl) (by kernel_rfl) (fun _ _ _ h=>h) (Or.inl ⟨by rfl,?_⟩) (by assumption) ?_
       rotate_left
       ·intro w' hSw
        (try dsimp only at hSw)
        first | (go_simp;done) | (go_simp;with_reducible rfl)
       try simp only [Act.put,List.setIfInBounds_toArray,List.set_cons_zero,List.set_cons_succ]
       refine wpAnyH_take (i:=12) (oi:=⟨some 113,.move (.tmp 7),22,"law.go:221",#[⟨6,.guard⟩],some (6,false)⟩) (v:=?_) rfl (by kernel_rfl) (by kernel_rfl) (by kernel_rfl) (fun _ _ _ h=>h) (Or.inl ⟨by rfl,?_⟩) (by assumption) ?_
       rotate_left
       ·intro w' hSw
        (try dsimp only at hSw)
        first | (go_simp;done) | (go_simp;with_reducible rfl)
       try simp only [Act.put,List.setIfInBounds_toArray,List.set_cons_zero,List.set_cons_succ]
       refine wpAnyH_take (i:=13) (oi:=⟨some 114,.move (.tmp 9),3,"law.go:221",#[⟨6,.guard⟩],some (6,false)⟩) (v:=?_) rfl (by kernel_rfl) (by kernel_rfl) (by kernel_rfl) (fun _ _ _ h=>h) (Or.inl ⟨by rfl,?_⟩) (by assumption) ?_
       rotate_left
       ·intro w' hSw
        (try dsimp only at hSw)
        first | (go_simp;done) | (go_simp;with_reducible rfl)
       try simp only [Act.put,List.setIfInBounds_toArray,List.set_cons_zero,List.set_cons_succ]
       refine wpAnyH_take (i:=14) (oi:=⟨some 115,.indexAddr 22 (.tmp 113) (.tmp 114),0,"law.go:221",#[⟨12,.data⟩,⟨13,.data⟩,⟨6,.guard⟩],some (6,false)⟩) (v:=?_) rfl (by kernel_rfl) (by kernel_rfl) (by kernel_rfl) (fun _ _ _ h=>h) (Or.inl ⟨by rfl,?_⟩) (by assumption) ?_
       rotate_left
       ·intro w' hSw
        (try dsimp only at hSw)
        first | (go_simp;done) | (go_simp;with_reducible rfl)
       try simp only [Act.put,List.setIfInBounds_toArray,List.set_cons_zero,List.set_cons_succ]
       refine wpAnyH_take (i:=15) (oi:=⟨some 116,.load 29 (.tmp 115),29,"law.go:221",#[⟨14,.data⟩,⟨6,.guard⟩],some (6,false)⟩) (v:=?_) rfl (by kernel_rfl) (by kernel_rfl) (by kernel_rfl) (fun _ _ _ h=>h) (Or.inl ⟨by rfl,?_⟩) (by assumption) ?_
       rotate_left
       ·intro w' hSw
        (try dsimp only at hSw)
        first | (go_simp;done) | (go_simp;with_reducible rfl)
       try simp only [Act.put,List.setIfInBounds_toArray,List.set_cons_zero,List.set_cons_succ]
       refine wpAnyH_ready (rs:=[11]) (by kernel_rfl) (by simp) ?_
       refine AllReadyH.cons (o:=⟨some 112,.call { callee:=Callee.value (.func 27),args:=#[.tmp 111],argTypes:=#[29] },29,"law.go:221",#[⟨10,.data⟩,⟨6,.chain⟩,⟨6,.guard⟩],some (6,false)⟩) rfl (fun K hK=>?_) AllReadyH.nil
       go_simp
       go_at_call 27
       refine (HCN.out _ hb10).mono ?_
       rintro e w11 ⟨⟨m2,rfl,hat2,ho2,hh2⟩,hb11a⟩
       have hb11:Below wr.heap.size wr w11:=hb10.trans (hb11a.mono (Below.size hb10))
       have HSM:=hid (HSA.out m2 w11 hb11 hat2 ho2 hh2)
       obtain ⟨aA,an,ak,haA⟩:∃ a n b,rowVal m2.o=.slice a n b:=⟨_,_,_,rfl⟩
       obtain ⟨bA,bn,bk,hbA⟩:∃ a n b,holesVal m2=.slice a n b:=⟨_,_,_,rfl⟩
       have HMV:Hid (shapeVals m2=#[.slice aA an ak,.slice bA bn bk]):=hid (by unfold shapeVals;rw [haA,hbA])
       rw [HMV.out] at HSM ⊢
       clear haA hbA
       refine hK.out _ _ ?_ (fun hHeld=>?_)
       ·exact CS.out _ hb11
       clear hK K
       try simp only [Act.put,List.setIfInBounds_toArray,List.set_cons_zero,List.set_cons_succ]
       refine wpAnyH_ready (rs:=[16]) (by kernel_rfl) (by simp) ?_
       refine AllReadyH.cons (o:=⟨some 117,.call { callee:=Callee.value (.func 26),args:=#[.tmp 112,.tmp 116],argTypes:=#[29,29] },4,"law.go:221",#[⟨11,.data⟩,⟨15,.data⟩,⟨11,.chain⟩,⟨6,.guard⟩],some (6,false)⟩) rfl (fun K hK=>?_) AllReadyH.nil
       go_simp
       go_at_call 26
       refine HSM.out.mono ?_
       rintro e w12 ⟨rfl,hb12a⟩
       have hb12:Below wr.heap.size wr w12:=hb11.trans (hb12a.mono (Below.size hb11))
       refine hK.out _ _ ?_ (fun hHeld=>?_)
       ·exact CS.out _ hb12
       clear hK K
       try simp only [Act.put,List.setIfInBounds_toArray,List.set_cons_zero,List.set_cons_succ]
       refine wpAnyH_take (i:=17) (oi:=⟨some 118,.unOp UnOp.not 4 (.tmp 117),4,"law.go:221",#[⟨16,.data⟩,⟨6,.guard⟩],some (6,false)⟩) (v:=?_) rfl (by kernel_rfl) (by kernel_rfl) (by kernel_rfl) (fun _ _ _ h=>h) (Or.inl ⟨by rfl,?_⟩) (by assumption) ?_
       rotate_left
       ·intro w' hSw
        (try dsimp only at hSw)
        first | (go_simp;done) | (go_simp;with_reducible rfl)
       try simp only [Act.put,List.setIfInBounds_toArray,List.set_cons_zero,List.set_cons_succ]
       refine wpAnyH_take (i:=18) (oi:=⟨some 119,.pick (.tmp 107) (.const (Value.bool true)) (.tmp 118),4,"law.go:221",#[⟨6,.data⟩,⟨17,.data⟩],none⟩) (v:=?_) rfl (by kernel_rfl) (by kernel_rfl) (by kernel_rfl) (fun _ _ _ h=>h) (Or.inl ⟨by rfl,?_⟩) (by assumption) ?_
       rotate_left
       ·intro w' hSw
        (try dsimp only at hSw)
        first | (go_simp;done) | (go_simp;with_reducible rfl)
       try simp only [Act.put,List.setIfInBounds_toArray,List.set_cons_zero,List.set_cons_succ]
       refine wpAnyH_take (i:=19) (oi:=⟨some 120,.move (.tmp 119),4,"law.go:221",#[⟨18,.data⟩,⟨16,.chain⟩],none⟩) (v:=?_) rfl (by kernel_rfl) (by kernel_rfl) (by kernel_rfl) (fun _ _ _ h=>h) (Or.inl ⟨by rfl,?_⟩) (by assumption) ?_
       rotate_left
       ·intro w' hSw
        (try dsimp only at hSw)
        first | (go_simp;done) | (go_simp;with_reducible rfl)
       try simp only [Act.put,List.setIfInBounds_toArray,List.set_cons_zero,List.set_cons_succ]
       refine wpAnyH_take (i:=20) (oi:=⟨some 121,.move (.tmp 9),3,"law.go:221",#[⟨19,.guard⟩],some (19,false)⟩) (v:=?_) rfl (by kernel_rfl) (by kernel_rfl) (by kernel_rfl) (fun _ _ _ h=>h) (Or.inl ⟨by rfl,?_⟩) (by assumption) ?_
       rotate_left
       ·intro w' hSw
        (try dsimp only at hSw)
        first | (go_simp;done) | (go_simp;with_reducible rfl)
       try simp only [Act.put,List.setIfInBounds_toArray,List.set_cons_zero,List.set_cons_succ]
       refine wpAnyH_take (i:=21) (oi:=⟨some 122,.binOp BinOp.gtr 3 (.tmp 121) (.const (Value.int IntKind.i64 0)) 3,4,"law.go:221",#[⟨20,.data⟩,⟨19,.guard⟩],some (19,false)⟩) (v:=?_) rfl (by kernel_rfl) (by kernel_rfl) (by kernel_rfl) (fun _ _ _ h=>h) (Or.inl ⟨by rfl,?_⟩) (by assumption) ?_
       rotate_left
       ·intro w' hSw
        (try dsimp only at hSw)
        first | (go_simp;done) | (go_simp;with_reducible rfl)
       try simp only [Act.put,List.setIfInBounds_toArray,List.set_cons_zero,List.set_cons_succ]
       refine wpAnyH_take (i:=22) (oi:=⟨some 123,.move (.tmp 122),4,"law.go:221",#[⟨21,.data⟩,⟨19,.chain⟩,⟨19,.guard⟩],some (19,false)⟩) (v:=?_) rfl (by kernel_rfl) (by kernel_rfl) (by kernel_rfl) (fun _ _ _ h=>h) (Or.inl ⟨by rfl,?_⟩) (by assumption) ?_
       rotate_left
       ·intro w' hSw
        (try dsimp only at hSw)
        first | (go_simp;done) | (go_simp;with_reducible rfl)
       try simp only [Act.put,List.setIfInBounds_toArray,List.set_cons_zero,List.set_cons_succ]
       refine wpAnyH_take (i:=23) (oi:=⟨some 124,.move (.tmp 7),22,"law.go:221",#[⟨22,.guard⟩],some (22,true)⟩) (v:=undef) rfl (by kernel_rfl) (by kernel_rfl) (by kernel_rfl) (fun _ _ _ h=>h) (Or.inr ⟨by rfl,rfl⟩) (by assumption) ?_
       try simp only [Act.put,List.setIfInBounds_toArray,List.set_cons_zero,List.set_cons_succ]
       refine wpAnyH_take (i:=24) (oi:=⟨some 125,.move (.tmp 9),3,"law.go:221",#[⟨22,.guard⟩],some (22,true)⟩) (v:=undef) rfl (by kernel_rfl) (by kernel_rfl) (by kernel_rfl) (fun _ _ _ h=>h) (Or.inr ⟨by rfl,rfl⟩) (by assumption) ?_
       try simp only [Act.put,List.setIfInBounds_toArray,List.set_cons_zero,List.set_cons_succ]
       refine wpAnyH_take (i:=25) (oi:=⟨some 126,.binOp BinOp.sub 3 (.tmp 125) (.const (Value.int IntKind.i64 1)) 3,3,"law.go:221",#[⟨24,.data⟩,⟨22,.guard⟩],some (22,true)⟩) (v:=undef) rfl (by kernel_rfl) (by kernel_rfl) (by kernel_rfl) (fun _ _ _ h=>h) (Or.inr ⟨by rfl,rfl⟩) (by assumption) ?_
       try simp only [Act.put,List.setIfInBounds_toArray,List.set_cons_zero,List.set_cons_succ]
       refine wpAnyH_take (i:=26) (oi:=⟨some 127,.indexAddr 22 (.tmp 124) (.tmp 126),0,"law.go:221",#[⟨23,.data⟩,⟨25,.data⟩,⟨22,.guard⟩],some (22,true)⟩) (v:=undef) rfl (by kernel_rfl) (by kernel_rfl) (by kernel_rfl) (fun _ _ _ h=>h) (Or.inr ⟨by rfl,rfl⟩) (by assumption) ?_
       try simp only [Act.put,List.setIfInBounds_toArray,List.set_cons_zero,List.set_cons_succ]
       refine wpAnyH_take (i:=27) (oi:=⟨some 128,.fieldAddr 29 (.tmp 127) 0,0,"law.go:221",#[⟨26,.data⟩,⟨22,.guard⟩],some (22,true)⟩) (v:=undef) rfl (by kernel_rfl) (by kernel_rfl) (by kernel_rfl) (fun _ _ _ h=>h) (Or.inr ⟨by rfl,rfl⟩) (by assumption) ?_
       try simp only [Act.put,List.setIfInBounds_toArray,List.set_cons_zero,List.set_cons_succ]
       refine wpAnyH_take (i:=28) (oi:=⟨some 129,.load 26 (.tmp 128),26,"law.go:221",#[⟨27,.data⟩,⟨22,.guard⟩],some (22,true)⟩) (v:=undef) rfl (by kernel_rfl) (by kernel_rfl) (by kernel_rfl) (fun _ _ _ h=>h) (Or.inr ⟨by rfl,rfl⟩) (by assumption) ?_
       try simp only [Act.put,List.setIfInBounds_toArray,List.set_cons_zero,List.set_cons_succ]
       refine wpAnyH_take (i:=29) (oi:=⟨some 130,.indexAddr 26 (.tmp 129) (.const (Value.int IntKind.i64 0)),0,"law.go:221",#[⟨28,.data⟩,⟨22,.guard⟩],some (22,true)⟩) (v:=undef) rfl (by kernel_rfl) (by kernel_rfl) (by kernel_rfl) (fun _ _ _ h=>h) (Or.inr ⟨by rfl,rfl⟩) (by assumption) ?_
       try simp only [Act.put,List.setIfInBounds_toArray,List.set_cons_zero,List.set_cons_succ]
       refine wpAnyH_take (i:=30) (oi:=⟨some 131,.load 53 (.tmp 130),53,"law.go:221",#[⟨29,.data⟩,⟨22,.guard⟩],some (22,true)⟩) (v:=undef) rfl (by kernel_rfl) (by kernel_rfl) (by kernel_rfl) (fun _ _ _ h=>h) (Or.inr ⟨by rfl,rfl⟩) (by assumption) ?_
       try simp only [Act.put,List.setIfInBounds_toArray,List.set_cons_zero,List.set_cons_succ]
       refine wpAnyH_take (i:=31) (oi:=⟨some 132,.move (.tmp 7),22,"law.go:221",#[⟨22,.guard⟩],some (22,true)⟩) (v:=undef) rfl (by kernel_rfl) (by kernel_rfl) (by kernel_rfl) (fun _ _ _ h=>h) (Or.inr ⟨by rfl,rfl⟩) (by assumption) ?_
       try simp only [Act.put,List.setIfInBounds_toArray,List.set_cons_zero,List.set_cons_succ]
       refine wpAnyH_take (i:=32) (oi:=⟨some 133,.move (.tmp 9),3,"law.go:221",#[⟨22,.guard⟩],some (22,true)⟩) (v:=undef) rfl (by kernel_rfl) (by kernel_rfl) (by kernel_rfl) (fun _ _ _ h=>h) (Or.inr ⟨by rfl,rfl⟩) (by assumption) ?_
       try simp only [Act.put,List.setIfInBounds_toArray,List.set_cons_zero,List.set_cons_succ]
       refine wpAnyH_take (i:=33) (oi:=⟨some 134,.indexAddr 22 (.tmp 132) (.tmp 133),0,"law.go:221",#[⟨31,.data⟩,⟨32,.data⟩,⟨22,.guard⟩],some (22,true)⟩) (v:=undef) rfl (by kernel_rfl) (by kernel_rfl) (by kernel_rfl) (fun _ _ _ h=>h) (Or.inr ⟨by rfl,rfl⟩) (by assumption) ?_
       try simp only [Act.put,List.setIfInBounds_toArray,List.set_cons_zero,List.set_cons_succ]
       refine wpAnyH_take (i:=34) (oi:=⟨some 135,.fieldAddr 29 (.tmp 134) 0,0,"law.go:221",#[⟨33,.data⟩,⟨22,.guard⟩],some (22,true)⟩) (v:=undef) rfl (by kernel_rfl) (by kernel_rfl) (by kernel_rfl) (fun _ _ _ h=>h) (Or.inr ⟨by rfl,rfl⟩) (by assumption) ?_
       try simp only [Act.put,List.setIfInBounds_toArray,List.set_cons_zero,List.set_cons_succ]
       refine wpAnyH_take (i:=35) (oi:=⟨some 136,.load 26 (.tmp 135),26,"law.go:221",#[⟨34,.data⟩,⟨22,.guard⟩],some (22,true)⟩) (v:=undef) rfl (by kernel_rfl) (by kernel_rfl) (by kernel_rfl) (fun _ _ _ h=>h) (Or.inr ⟨by rfl,rfl⟩) (by assumption) ?_
       try simp only [Act.put,List.setIfInBounds_toArray,List.set_cons_zero,List.set_cons_succ]
       refine wpAnyH_take (i:=36) (oi:=⟨some 137,.indexAddr 26 (.tmp 136) (.const (Value.int IntKind.i64 0)),0,"law.go:221",#[⟨35,.data⟩,⟨22,.guard⟩],some (22,true)⟩) (v:=undef) rfl (by kernel_rfl) (by kernel_rfl) (by kernel_rfl) (fun _ _ _ h=>h) (Or.inr ⟨by rfl,rfl⟩) (by assumption) ?_
       try simp only [Act.put,List.setIfInBounds_toArray,List.set_cons_zero,List.set_cons_succ]
       refine wpAnyH_take (i:=37) (oi:=⟨some 138,.load 53 (.tmp 137),53,"law.go:221",#[⟨36,.data⟩,⟨22,.guard⟩],some (22,true)⟩) (v:=undef) rfl (by kernel_rfl) (by kernel_rfl) (by kernel_rfl) (fun _ _ _ h=>h) (Or.inr ⟨by rfl,rfl⟩) (by assumption) ?_
       try simp only [Act.put,List.setIfInBounds_toArray,List.set_cons_zero,List.set_cons_succ]
       refine wpAnyH_take (i:=38) (oi:=⟨some 139,.call { callee:=Callee.value (.func 28),args:=#[.tmp 131,.tmp 138],argTypes:=#[53,53] },4,"law.go:221",#[⟨30,.data⟩,⟨37,.data⟩,⟨22,.chain⟩,⟨22,.guard⟩],some (22,true)⟩) (v:=undef) rfl (by kernel_rfl) (by kernel_rfl) (by kernel_rfl) (fun _ _ _ h=>h) (Or.inr ⟨by rfl,rfl⟩) (by assumption) ?_
       try simp only [Act.put,List.setIfInBounds_toArray,List.set_cons_zero,List.set_cons_succ]
       refine wpAnyH_take (i:=39) (oi:=⟨some 140,.unOp UnOp.not 4 (.tmp 139),4,"law.go:221",#[⟨38,.data⟩,⟨22,.guard⟩],some (22,true)⟩) (v:=undef) rfl (by kernel_rfl) (by kernel_rfl) (by kernel_rfl) (fun _ _ _ h=>h) (Or.inr ⟨by rfl,rfl⟩) (by assumption) ?_
       try simp only [Act.put,List.setIfInBounds_toArray,List.set_cons_zero,List.set_cons_succ]
       refine wpAnyH_take (i:=40) (oi:=⟨some 141,.pick (.tmp 123) (.tmp 140) (.const (Value.bool false)),4,"law.go:221",#[⟨22,.data⟩,⟨39,.data⟩,⟨19,.guard⟩],some (19,false)⟩) (v:=?_) rfl (by kernel_rfl) (by kernel_rfl) (by kernel_rfl) (fun _ _ _ h=>h) (Or.inl ⟨by rfl,?_⟩) (by assumption) ?_
       rotate_left
       ·intro w' hSw
        (try dsimp only at hSw)
        first | (go_simp;done) | (go_simp;with_reducible rfl)
       try simp only [Act.put,List.setIfInBounds_toArray,List.set_cons_zero,List.set_cons_succ]
       refine wpAnyH_take (i:=41) (oi:=⟨some 142,.pick (.tmp 120) (.const (Value.bool true)) (.tmp 141),4,"law.go:221",#[⟨19,.data⟩,⟨40,.data⟩],none⟩) (v:=?_) rfl (by kernel_rfl) (by kernel_rfl) (by kernel_rfl) (fun _ _ _ h=>h) (Or.inl ⟨by rfl,?_⟩) (by assumption) ?_
       rotate_left
       ·intro w' hSw
        (try dsimp only at hSw)
        first | (go_simp;done) | (go_simp;with_reducible rfl)
       try simp only [Act.put,List.setIfInBounds_toArray,List.set_cons_zero,List.set_cons_succ]
       refine wpAnyH_done (by kernel_rfl) ?_ _
       obtain ⟨_,_,hb9⟩:=hHeld
       generalize w12=w9 at *
       have HB9:=hid (HBX.out _ hb9)
       clear hb9 hb10 hb11 hb12 hb10a hb11a hb12a HSM HMV hHeld
       go_wp2_with fail
       go_loopw [10,11] (fun f k wr=>∃ (q:Nat) (b:Bool),f=.bool b∧k=.int .i64 (q:Int)∧q≤ms.length∧Hid (b=(ms.take q).any fun m=>decide (canonS (shapeOf m)=shapeOf n))∧Hid (Below w5.heap.size w5 wr)) (fun _ k _=>ms.length - (intOf k).toNat)
       case atStart=>exact ⟨0,false,rfl,rfl,Nat.zero_le _,hid rfl,HB9⟩
       case round =>
        clear HB HB9 HBX CS HVA HCN HSA
        obtain ⟨k,b,rfl,rfl,hk,HFD,HB⟩:=hrel
        by_cases hkl:k < ms.length
        ·obtain ⟨g,off,rfl,hg,ca⟩:=row_get shapeL_len (by decide) HRW.out (by omega)
         have HBX:Hid (∀ W,Below wr.heap.size wr W→Below w5.heap.size w5 W∧Below w.heap.size w W):=hid (fun W hW=>have h1:=HB.out.trans (hW.mono HB.out.size);⟨h1,HB5.out.trans (h1.mono HB5.out.size)⟩)
         have a0:=ca k hkl 0 (by decide)
         have a1:=ca k hkl 1 (by decide)
         have HFN:Hid ((ms.take (k+1)).any (fun m=>decide (canonS (shapeOf m)=shapeOf n))=(b || decide (canonS (shapeOf ms[k])=shapeOf n))):=hid (by
          rw [List.take_succ_eq_append_getElem hkl,List.any_append,HFD.out]
          simp)
         have HKA:=hid (HOA.out _ (List.getElem_mem hkl))
         have HKI:Hid (∀ W,Below w.heap.size w W→ShapeIn W ms[k]):=hid (fun W hW=>(HSI.out W hW).each _ (List.getElem_mem hkl))
         have hq1:(0:Int)≤(k:Int):=by omega
         have hq2:(k:Int) < (ms.length:Int):=by omega
         clear ca
         obtain ⟨m,hm⟩:∃ m,ms[k]=m:=⟨_,rfl⟩
         rw [hm] at a0 a1 HFN HKA HKI
         clear hm
         have HRC:=hid (fun W (hW:Below wr.heap.size wr W)=>rcanonS_any m W (HKI.out W (HBX.out W hW).2) HKA.out.2.2)
         have HRS:=hid (fun (m2:ShapeM) (W:World) (hW:Below wr.heap.size wr W) (hat:ShapeAt W m2) (ho:m2.o.l=beginL m.o.l) (hh:holesL m2=sortH ((holesL m).map beginL))=>(rsameS_any m2 n W hat.sin (HM.out.below (HBX.out W hW).1)).mono (R':=fun e w'=>e=.returned (.bool (decide (canonS (shapeOf m)=shapeOf n)))∧Below W.heap.size W w') (by
          rintro e w' ⟨rfl,hb⟩
          refine ⟨?_,hb⟩
          congr 2
          unfold canonS shapeOf
          rw [ho,hh,Bool.eq_iff_iff,Bool.and_eq_true,decide_eq_true_eq,decide_eq_true_eq,decide_eq_true_eq,Prod.mk.injEq]))
         obtain ⟨sA,sn,sk,hsA⟩:∃ a n' b,rowVal m.o=.slice a n' b:=⟨_,_,_,rfl⟩
         obtain ⟨tA,tn,tk,htA⟩:∃ a n' b,holesVal m=.slice a n' b:=⟨_,_,_,rfl⟩
         have HSV:Hid (shapeVals m=#[.slice sA sn sk,.slice tA tn tk]):=hid (by unfold shapeVals;rw [hsA,htA])
         have a0:w.cell? ⟨g,off+k*2,none⟩=some (.slice sA sn sk):=a0.trans (congrArg some hsA)
         have a1:w.cell? ⟨g,off+k*2+1,none⟩=some (.slice tA tn tk):=a1.trans (congrArg some htA)
         have HNV:Hid (shapeVals n=#[.slice mA mn mk,.slice nA nn nk]):=HSN
         rw [HSV.out] at HRC
         rw [HNV.out] at HRS
         have CS:Hid (∀ w',Below wr.heap.size wr w'→w'.cell? ⟨g,off+k*2,none⟩=some (.slice sA sn sk)∧w'.cell? ⟨g,off+k*2+1,none⟩=some (.slice tA tn tk)∧w'.cell? ⟨g5,o5+i*2,none⟩=some (.slice mA mn mk)∧w'.cell? ⟨g5,o5+i*2+1,none⟩=some (.slice nA nn nk)∧Below wr.heap.size wr w'):=hid (fun w' hb=>by
          obtain ⟨x,y⟩:=HCI.out w' (HBX.out w' hb).1
          exact ⟨((HBX.out w' hb).2.cell (p:=⟨g,off+k*2,none⟩) hg).trans a0,((HBX.out w' hb).2.cell (p:=⟨g,off+k*2+1,none⟩) hg).trans a1,x,y,hb⟩)
         clear a0 a1 hsA htA HSV
         generalize decide (canonS (shapeOf m)=shapeOf n)=b2 at *
         go_upto_region 30 with fail
         cases b
         ·skip
          refine wp_region_held_drew (S:=fun w'=>w'.cell? ⟨g,off+k*2,none⟩=some (.slice sA sn sk)∧w'.cell? ⟨g,off+k*2+1,none⟩=some (.slice tA tn tk)∧w'.cell? ⟨g5,o5+i*2,none⟩=some (.slice mA mn mk)∧w'.cell? ⟨g5,o5+i*2+1,none⟩=some (.slice nA nn nk)∧Below wr.heap.size wr w') (by kernel_rfl) ?_ (fun hHeld=>?_)
          ·exact CS.out _ (below_drew (Below.refl _ _))
          refine wpAnyH_take (i:=0) (oi:=⟨some 149,.move (.tmp 10),4,"law.go:226",#[],none⟩) (v:=?_) rfl (by kernel_rfl) (by kernel_rfl) (by kernel_rfl) (fun _ _ _ h=>h) (Or.inl ⟨by rfl,?_⟩) (by assumption) ?_
          rotate_left
          ·intro w' hSw
           (try dsimp only at hSw)
           first | (go_simp;done) | (go_simp;with_reducible rfl)
          try simp only [Act.put,List.setIfInBounds_toArray,List.set_cons_zero,List.set_cons_succ]
          refine wpAnyH_take (i:=1) (oi:=⟨some 150,.move (.tmp 149),4,"law.go:226",#[⟨0,.data⟩],none⟩) (v:=?_) rfl (by kernel_rfl) (by kernel_rfl) (by kernel_rfl) (fun _ _ _ h=>h) (Or.inl ⟨by rfl,?_⟩) (by assumption) ?_
          rotate_left
          ·intro w' hSw
           (try dsimp only at hSw)
           first | (go_simp;done) | (go_simp;with_reducible rfl)
          try simp only [Act.put,List.setIfInBounds_toArray,List.set_cons_zero,List.set_cons_succ]
          refine wpAnyH_take (i:=2) (oi:=⟨some 151,.move (.tmp 0),22,"law.go:226",#[⟨1,.guard⟩],some (1,false)⟩) (v:=?_) rfl (by kernel_rfl) (by kernel_rfl) (by kernel_rfl) (fun _ _ _ h=>h) (Or.inl ⟨by rfl,?_⟩) (by assumption) ?_
          rotate_left
          ·intro w' hSw
           (try dsimp only at hSw)
           first | (go_simp;done) | (go_simp;with_reducible rfl)
          try simp only [Act.put,List.setIfInBounds_toArray,List.set_cons_zero,List.set_cons_succ]
          refine wpAnyH_take (i:=3) (oi:=⟨some 152,.move (.tmp 11),3,"law.go:226",#[⟨1,.guard⟩],some (1,false)⟩) (v:=?_) rfl (by kernel_rfl) (by kernel_rfl) (by kernel_rfl) (fun _ _ _ h=>h) (Or.inl ⟨by rfl,?_⟩) (by assumption) ?_
          rotate_left
          ·intro w' hSw
           (try dsimp only at hSw)
           first | (go_simp;done) | (go_simp;with_reducible rfl)
          try simp only [Act.put,List.setIfInBounds_toArray,List.set_cons_zero,List.set_cons_succ]
          refine wpAnyH_take (i:=4) (oi:=⟨some 153,.indexAddr 22 (.tmp 151) (.tmp 152),0,"law.go:226",#[⟨2,.data⟩,⟨3,.data⟩,⟨1,.guard⟩],some (1,false)⟩) (v:=?_) rfl (by kernel_rfl) (by kernel_rfl) (by kernel_rfl) (fun _ _ _ h=>h) (Or.inl ⟨by rfl,?_⟩) (by assumption) ?_
          rotate_left
          ·intro w' hSw
           (try dsimp only at hSw)
           first | (go_simp;done) | (go_simp;with_reducible rfl)
          try simp only [Act.put,List.setIfInBounds_toArray,List.set_cons_zero,List.set_cons_succ]
          refine wpAnyH_take (i:=5) (oi:=⟨some 154,.load 29 (.tmp 153),29,"law.go:226",#[⟨4,.data⟩,⟨1,.guard⟩],some (1,false)⟩) (v:=?_) rfl (by kernel_rfl) (by kernel_rfl) (by kernel_rfl) (fun _ _ _ h=>h) (Or.inl ⟨by rfl,?_⟩) (by assumption) ?_
          rotate_left
          ·intro w' hSw
           (try dsimp only at hSw)
           first | (go_simp;done) | (go_simp;with_reducible rfl)
          try simp only [Act.put,List.setIfInBounds_toArray,List.set_cons_zero,List.set_cons_succ]
          refine wpAnyH_take (i:=7) (oi:=⟨some 156,.move (.tmp 7),22,"law.go:226",#[⟨1,.guard⟩],some (1,false)⟩) (v:=?_) rfl (by kernel_rfl) (by kernel_rfl) (by kernel_rfl) (fun _ _ _ h=>h) (Or.inl ⟨by rfl,?_⟩) (by assumption) ?_
          rotate_left
          ·intro w' hSw
           (try dsimp only at hSw)
           first | (go_simp;done) | (go_simp;with_reducible rfl)
          try simp only [Act.put,List.setIfInBounds_toArray,List.set_cons_zero,List.set_cons_succ]
          refine wpAnyH_take (i:=8) (oi:=⟨some 157,.move (.tmp 9),3,"law.go:226",#[⟨1,.guard⟩],some (1,false)⟩) (v:=?_) rfl (by kernel_rfl) (by kernel_rfl) (by kernel_rfl) (fun _ _ _ h=>h) (Or.inl ⟨by rfl,?_⟩) (by assumption) ?_
          rotate_left
          ·intro w' hSw
           (try dsimp only at hSw)
           first | (go_simp;done) | (go_simp;with_reducible rfl)
          try simp only [Act.put,List.setIfInBounds_toArray,List.set_cons_zero,List.set_cons_succ]
          refine wpAnyH_take (i:=9) (oi:=⟨some 158,.indexAddr 22 (.tmp 156) (.tmp 157),0,"law.go:226",#[⟨7,.data⟩,⟨8,.data⟩,⟨1,.guard⟩],some (1,false)⟩) (v:=?_) rfl (by kernel_rfl) (by kernel_rfl) (by kernel_rfl) (fun _ _ _ h=>h) (Or.inl ⟨by rfl,?_⟩) (by assumption) ?_
          rotate_left
          ·intro w' hSw
           (try dsimp only at hSw)
           first | (go_simp;done) | (go_simp;with_reducible rfl)
          try simp only [Act.put,List.setIfInBounds_toArray,List.set_cons_zero,List.set_cons_succ]
          refine wpAnyH_take (i:=10) (oi:=⟨some 159,.load 29 (.tmp 158),29,"law.go:226",#[⟨9,.data⟩,⟨1,.guard⟩],some (1,false)⟩) (v:=?_) rfl (by kernel_rfl) (by kernel_rfl) (by kernel_rfl) (fun _ _ _ h=>h) (Or.inl ⟨by rfl,?_⟩) (by assumption) ?_
          rotate_left
          ·intro w' hSw
           (try dsimp only at hSw)
           first | (go_simp;done) | (go_simp;with_reducible rfl)
          try simp only [Act.put,List.setIfInBounds_toArray,List.set_cons_zero,List.set_cons_succ]
          refine wpAnyH_ready (rs:=[6]) (by kernel_rfl) (by simp) ?_
          refine AllReadyH.cons (o:=⟨some 155,.call { callee:=Callee.value (.func 30),args:=#[.tmp 154],argTypes:=#[29] },29,"law.go:226",#[⟨5,.data⟩,⟨1,.chain⟩,⟨1,.guard⟩],some (1,false)⟩) rfl (fun K hK=>?_) AllReadyH.nil
          go_simp
          go_at_call 30
          have hbx:Below wr.heap.size wr wr.drew:=below_drew (Below.refl _ _)
          refine (HRC.out _ hbx).mono ?_
          rintro e w10 ⟨⟨m2,rfl,hat2,ho2,hh2⟩,hb10a⟩
          have hb10:Below wr.heap.size wr w10:=hbx.trans (hb10a.mono (Below.size hbx))
          have HSM:=hid (HRS.out m2 w10 hb10 hat2 ho2 hh2)
          obtain ⟨aA,an,ak,haA⟩:∃ a n b,rowVal m2.o=.slice a n b:=⟨_,_,_,rfl⟩
          obtain ⟨bA,bn,bk,hbA⟩:∃ a n b,holesVal m2=.slice a n b:=⟨_,_,_,rfl⟩
          have HMV:Hid (shapeVals m2=#[.slice aA an ak,.slice bA bn bk]):=hid (by unfold shapeVals;rw [haA,hbA])
          rw [HMV.out] at HSM ⊢
          clear haA hbA
          refine hK.out _ _ ?_ (fun hHeld=>?_)
          ·exact CS.out _ hb10
          clear hK K
          try simp only [Act.put,List.setIfInBounds_toArray,List.set_cons_zero,List.set_cons_succ]
          refine wpAnyH_ready (rs:=[11]) (by kernel_rfl) (by simp) ?_
          refine AllReadyH.cons (o:=⟨some 160,.call { callee:=Callee.value (.func 29),args:=#[.tmp 155,.tmp 159],argTypes:=#[29,29] },4,"law.go:226",#[⟨6,.data⟩,⟨10,.data⟩,⟨6,.chain⟩,⟨1,.guard⟩],some (1,false)⟩) rfl (fun K hK=>?_) AllReadyH.nil
          go_simp
          go_at_call 29
          refine HSM.out.mono ?_
          rintro e w11 ⟨rfl,hb11a⟩
          have hb11:Below wr.heap.size wr w11:=hb10.trans (hb11a.mono (Below.size hb10))
          refine hK.out _ _ ?_ (fun hHeld=>?_)
          ·exact CS.out _ hb11
          clear hK K
          try simp only [Act.put,List.setIfInBounds_toArray,List.set_cons_zero,List.set_cons_succ]
          refine wpAnyH_take (i:=12) (oi:=⟨some 161,.pick (.tmp 150) (.const (Value.bool true)) (.tmp 160),4,"law.go:226",#[⟨1,.data⟩,⟨11,.data⟩],none⟩) (v:=?_) rfl (by kernel_rfl) (by kernel_rfl) (by kernel_rfl) (fun _ _ _ h=>h) (Or.inl ⟨by rfl,?_⟩) (by assumption) ?_
          rotate_left
          ·intro w' hSw
           (try dsimp only at hSw)
           first | (go_simp;done) | (go_simp;with_reducible rfl)
          try simp only [Act.put,List.setIfInBounds_toArray,List.set_cons_zero,List.set_cons_succ]
          refine wpAnyH_take (i:=13) (oi:=⟨some 10,.assign (.tmp 161),4,"law.go:226",#[⟨12,.data⟩,⟨11,.chain⟩,⟨0,.phase⟩,⟨1,.phase⟩,⟨2,.phase⟩,⟨3,.phase⟩,⟨4,.phase⟩,⟨5,.phase⟩,⟨6,.phase⟩,⟨7,.phase⟩,⟨8,.phase⟩,⟨9,.phase⟩,⟨10,.phase⟩,⟨11,.phase⟩,⟨12,.phase⟩],none⟩) (v:=?_) rfl (by kernel_rfl) (by kernel_rfl) (by kernel_rfl) (fun _ _ _ h=>h) (Or.inl ⟨by rfl,?_⟩) (by assumption) ?_
          rotate_left
          ·intro w' hSw
           (try dsimp only at hSw)
           first | (go_simp;done) | (go_simp;with_reducible rfl)
          try simp only [Act.put,List.setIfInBounds_toArray,List.set_cons_zero,List.set_cons_succ]
          refine wpAnyH_done (by kernel_rfl) ?_ _
          obtain ⟨_,_,_,_,hb9⟩:=hHeld
          have HB9:=hid (HBX.out _ hb9).1
          clear hb9 hb10 hb11 hb10a hb11a HSM
          go_wp2_with fail
          go_roundw
          case rel=>exact ⟨k+1,b2,rfl,by go_num,hkl,hid (by rw [HFN.out];rfl),HB9⟩
          case measure=>simp [intOf];omega
         ·skip
          refine wp_region_held_drew (S:=fun w'=>w'.cell? ⟨g,off+k*2,none⟩=some (.slice sA sn sk)∧w'.cell? ⟨g,off+k*2+1,none⟩=some (.slice tA tn tk)∧w'.cell? ⟨g5,o5+i*2,none⟩=some (.slice mA mn mk)∧w'.cell? ⟨g5,o5+i*2+1,none⟩=some (.slice nA nn nk)∧Below wr.heap.size wr w') (by kernel_rfl) ?_ (fun hHeld=>?_)
          ·exact CS.out _ (below_drew (Below.refl _ _))
          refine wpAnyH_take (i:=0) (oi:=⟨some 149,.move (.tmp 10),4,"law.go:226",#[],none⟩) (v:=?_) rfl (by kernel_rfl) (by kernel_rfl) (by kernel_rfl) (fun _ _ _ h=>h) (Or.inl ⟨by rfl,?_⟩) (by assumption) ?_
          rotate_left
          ·intro w' hSw
           (try dsimp only at hSw)
           first | (go_simp;done) | (go_simp;with_reducible rfl)
          try simp only [Act.put,List.setIfInBounds_toArray,List.set_cons_zero,List.set_cons_succ]
          refine wpAnyH_take (i:=1) (oi:=⟨some 150,.move (.tmp 149),4,"law.go:226",#[⟨0,.data⟩],none⟩) (v:=?_) rfl (by kernel_rfl) (by kernel_rfl) (by kernel_rfl) (fun _ _ _ h=>h) (Or.inl ⟨by rfl,?_⟩) (by assumption) ?_
          rotate_left
          ·intro w' hSw
           (try dsimp only at hSw)
           first | (go_simp;done) | (go_simp;with_reducible rfl)
          try simp only [Act.put,List.setIfInBounds_toArray,List.set_cons_zero,List.set_cons_succ]
          refine wpAnyH_take (i:=2) (oi:=⟨some 151,.move (.tmp 0),22,"law.go:226",#[⟨1,.guard⟩],some (1,false)⟩) (v:=undef) rfl (by kernel_rfl) (by kernel_rfl) (by kernel_rfl) (fun _ _ _ h=>h) (Or.inr ⟨by rfl,rfl⟩) (by assumption) ?_
          try simp only [Act.put,List.setIfInBounds_toArray,List.set_cons_zero,List.set_cons_succ]
          refine wpAnyH_take (i:=3) (oi:=⟨some 152,.move (.tmp 11),3,"law.go:226",#[⟨1,.guard⟩],some (1,false)⟩) (v:=undef) rfl (by kernel_rfl) (by kernel_rfl) (by kernel_rfl) (fun _ _ _ h=>h) (Or.inr ⟨by rfl,rfl⟩) (by assumption) ?_
          try simp only [Act.put,List.setIfInBounds_toArray,List.set_cons_zero,List.set_cons_succ]
          refine wpAnyH_take (i:=4) (oi:=⟨some 153,.indexAddr 22 (.tmp 151) (.tmp 152),0,"law.go:226",#[⟨2,.data⟩,⟨3,.data⟩,⟨1,.guard⟩],some (1,false)⟩) (v:=undef) rfl (by kernel_rfl) (by kernel_rfl) (by kernel_rfl) (fun _ _ _ h=>h) (Or.inr ⟨by rfl,rfl⟩) (by assumption) ?_
          try simp only [Act.put,List.setIfInBounds_toArray,List.set_cons_zero,List.set_cons_succ]
          refine wpAnyH_take (i:=5) (oi:=⟨some 154,.load 29 (.tmp 153),29,"law.go:226",#[⟨4,.data⟩,⟨1,.guard⟩],some (1,false)⟩) (v:=undef) rfl (by kernel_rfl) (by kernel_rfl) (by kernel_rfl) (fun _ _ _ h=>h) (Or.inr ⟨by rfl,rfl⟩) (by assumption) ?_
          try simp only [Act.put,List.setIfInBounds_toArray,List.set_cons_zero,List.set_cons_succ]
          refine wpAnyH_take (i:=6) (oi:=⟨some 155,.call { callee:=Callee.value (.func 30),args:=#[.tmp 154],argTypes:=#[29] },29,"law.go:226",#[⟨5,.data⟩,⟨1,.chain⟩,⟨1,.guard⟩],some (1,false)⟩) (v:=undef) rfl (by kernel_rfl) (by kernel_rfl) (by kernel_rfl) (fun _ _ _ h=>h) (Or.inr ⟨by rfl,rfl⟩) (by assumption) ?_
          try simp only [Act.put,List.setIfInBounds_toArray,List.set_cons_zero,List.set_cons_succ]
          refine wpAnyH_take (i:=7) (oi:=⟨some 156,.move (.tmp 7),22,"law.go:226",#[⟨1,.guard⟩],some (1,false)⟩) (v:=undef) rfl (by kernel_rfl) (by kernel_rfl) (by kernel_rfl) (fun _ _ _ h=>h) (Or.inr ⟨by rfl,rfl⟩) (by assumption) ?_
          try simp only [Act.put,List.setIfInBounds_toArray,List.set_cons_zero,List.set_cons_succ]
          refine wpAnyH_take (i:=8) (oi:=⟨some 157,.move (.tmp 9),3,"law.go:226",#[⟨1,.guard⟩],some (1,false)⟩) (v:=undef) rfl (by kernel_rfl) (by kernel_rfl) (by kernel_rfl) (fun _ _ _ h=>h) (Or.inr ⟨by rfl,rfl⟩) (by assumption) ?_
          try simp only [Act.put,List.setIfInBounds_toArray,List.set_cons_zero,List.set_cons_succ]
          refine wpAnyH_take (i:=9) (oi:=⟨some 158,.indexAddr 22 (.tmp 156) (.tmp 157),0,"law.go:226",#[⟨7,.data⟩,⟨8,.data⟩,⟨1,.guard⟩],some (1,false)⟩) (v:=undef) rfl (by kernel_rfl) (by kernel_rfl) (by kernel_rfl) (fun _ _ _ h=>h) (Or.inr ⟨by rfl,rfl⟩) (by assumption) ?_
          try simp only [Act.put,List.setIfInBounds_toArray,List.set_cons_zero,List.set_cons_succ]
          refine wpAnyH_take (i:=10) (oi:=⟨some 159,.load 29 (.tmp 158),29,"law.go:226",#[⟨9,.data⟩,⟨1,.guard⟩],some (1,false)⟩) (v:=undef) rfl (by kernel_rfl) (by kernel_rfl) (by kernel_rfl) (fun _ _ _ h=>h) (Or.inr ⟨by rfl,rfl⟩) (by assumption) ?_
          try simp only [Act.put,List.setIfInBounds_toArray,List.set_cons_zero,List.set_cons_succ]
          refine wpAnyH_take (i:=11) (oi:=⟨some 160,.call { callee:=Callee.value (.func 29),args:=#[.tmp 155,.tmp 159],argTypes:=#[29,29] },4,"law.go:226",#[⟨6,.data⟩,⟨10,.data⟩,⟨6,.chain⟩,⟨1,.guard⟩],some (1,false)⟩) (v:=undef) rfl (by kernel_rfl) (by kernel_rfl) (by kernel_rfl) (fun _ _ _ h=>h) (Or.inr ⟨by rfl,rfl⟩) (by assumption) ?_
          try simp only [Act.put,List.setIfInBounds_toArray,List.set_cons_zero,List.set_cons_succ]
          refine wpAnyH_take (i:=12) (oi:=⟨some 161,.pick (.tmp 150) (.const (Value.bool true)) (.tmp 160),4,"law.go:226",#[⟨1,.data⟩,⟨11,.data⟩],none⟩) (v:=?_) rfl (by kernel_rfl) (by kernel_rfl) (by kernel_rfl) (fun _ _ _ h=>h) (Or.inl ⟨by rfl,?_⟩) (by assumption) ?_
          rotate_left
          ·intro w' hSw
           (try dsimp only at hSw)
           first | (go_simp;done) | (go_simp;with_reducible rfl)
          try simp only [Act.put,List.setIfInBounds_toArray,List.set_cons_zero,List.set_cons_succ]
          refine wpAnyH_take (i:=13) (oi:=⟨some 10,.assign (.tmp 161),4,"law.go:226",#[⟨12,.data⟩,⟨11,.chain⟩,⟨0,.phase⟩,⟨1,.phase⟩,⟨2,.phase⟩,⟨3,.phase⟩,⟨4,.phase⟩,⟨5,.phase⟩,⟨6,.phase⟩,⟨7,.phase⟩,⟨8,.phase⟩,⟨9,.phase⟩,⟨10,.phase⟩,⟨11,.phase⟩,⟨12,.phase⟩],none⟩) (v:=?_) rfl (by kernel_rfl) (by kernel_rfl) (by kernel_rfl) (fun _ _ _ h=>h) (Or.inl ⟨by rfl,?_⟩) (by assumption) ?_
          rotate_left
          ·intro w' hSw
           (try dsimp only at hSw)
           first | (go_simp;done) | (go_simp;with_reducible rfl)
          try simp only [Act.put,List.setIfInBounds_toArray,List.set_cons_zero,List.set_cons_succ]
          refine wpAnyH_done (by kernel_rfl) ?_ _
          obtain ⟨_,_,_,_,hb9⟩:=hHeld
          have HB9:=hid (HBX.out _ hb9).1
          clear hb9
          go_wp2_with fail
          go_roundw
          case rel=>exact ⟨k+1,true,rfl,by go_num,hkl,hid (by rw [HFN.out];rfl),HB9⟩
          case measure=>simp [intOf];omega
        ·obtain rfl:k=ms.length:=by omega
         have hbt:b=true:=by
          rw [HFD.out,List.take_length,List.any_eq_true]
          obtain ⟨m,hm,hh⟩:=HMA.out.2.2
          exact ⟨m,hm,decide_eq_true hh⟩
         subst hbt
         go_wp2_with fail
         go_roundw
         case rel=>exact ⟨i+1,by go_num,hlt,HB⟩
         case measure=>simp [intOf];omega

      ·have di:decide ((0:Int) < (i:Int))=true:=decide_eq_true (by omega)
       have dn:(0 < i)=True:=eq_true hi0
       obtain ⟨hless,hpr⟩:=HPV.out hi0
       have hpl:i - 1 < ns.length:=by omega
       obtain ⟨p,hp⟩:∃ p,(ns[i - 1]'hpl)=p:=⟨_,rfl⟩
       have HPC:=hid (fun W hW=>(HC5.out W hW (i - 1) hpl).1)
       have HPI:=hid (HI5.out _ (List.getElem_mem hpl))
       rw [hp] at hless hpr HPC HPI
       clear hp
       obtain ⟨gp,op,hpA,hgp,cp⟩:=row_get pt_len (by decide) HPI.out.ro (show 0 < p.o.l.length by have:=two_of hpr;omega)
       obtain ⟨gm,om,hmA2,hgm,cm⟩:=row_get pt_len (by decide) HM.out.ro (show 0 < n.o.l.length by have:=two_of HMR.out;omega)
       have p0:=cp 0 (by have:=two_of hpr;omega) 0 (by decide)
       have p1:=cp 0 (by have:=two_of hpr;omega) 1 (by decide)
       have m0:=cm 0 (by have:=two_of HMR.out;omega) 0 (by decide)
       have m1:=cm 0 (by have:=two_of HMR.out;omega) 1 (by decide)
       rw [← hd_get (by have:=two_of hpr;omega)] at p0 p1
       rw [← hd_get (by have:=two_of HMR.out;omega)] at m0 m1
       obtain ⟨⟨px,py⟩,hpx⟩:∃ v,hd p.o.l=v:=⟨_,rfl⟩
       obtain ⟨⟨qx,qy⟩,hqx⟩:∃ v,hd n.o.l=v:=⟨_,rfl⟩
       rw [hpx] at p0 p1 hless
       rw [hqx] at m0 m1 hless
       simp only [ptCells,List.getElem?_cons_zero,List.getElem?_cons_succ,Nat.zero_mul,Nat.add_zero] at p0 p1 m0 m1
       have HLS:=hid (fun W=>rless_any px py qx qy W)
       rw [hless] at HLS
       obtain ⟨pn,hpn⟩:∃ pn,p.o.l.length=pn:=⟨_,rfl⟩
       obtain ⟨pk,hpk⟩:∃ pk,p.o.k=pk:=⟨_,rfl⟩
       have dp:(0 < pn)=True:=eq_true (by have:=two_of hpr;omega)
       have hmv:=HMV.out
       unfold rowVal at hmv
       injection hmv with e1 e2 e3
       rw [hmA2] at e1
       subst e1
       have dm:(0 < mn)=True:=eq_true (by have:=two_of HMR.out;omega)
       have CS:Hid (∀ w',Below wr.heap.size wr w'→w'.cell? ⟨g5,o5+i*2,none⟩=some (.slice (some ⟨gm,om,none⟩) mn mk)∧w'.cell? ⟨g5,o5+i*2+1,none⟩=some (.slice nA nn nk)∧w'.cell? ⟨g5,o5+(i - 1)*2,none⟩=some (.slice (some ⟨gp,op,none⟩) pn pk)∧w'.cell? ⟨gp,op,none⟩=some (.int .i64 px)∧w'.cell? ⟨gp,op+1,none⟩=some (.int .i64 py)∧w'.cell? ⟨gm,om,none⟩=some (.int .i64 qx)∧w'.cell? ⟨gm,om+1,none⟩=some (.int .i64 qy)∧Below wr.heap.size wr w'):=hid (fun w' hb=>by
        have hw:=HBX.out w' hb
        obtain ⟨x,y⟩:=HCI.out w' hw
        have z:=HPC.out w' hw
        unfold rowVal at z
        rw [hpA,hpn,hpk] at z
        exact ⟨x,y,z,(hw.cell (p:=⟨gp,op,none⟩) hgp).trans p0,(hw.cell (p:=⟨gp,op+1,none⟩) hgp).trans p1,(hw.cell (p:=⟨gm,om,none⟩) hgm).trans m0,(hw.cell (p:=⟨gm,om+1,none⟩) hgm).trans m1,hb⟩)
       have hi1:IntKind.i64.wrap ((i:Int) - 1)=((i - 1:Nat):Int):=by rw [IntKind.wrap_i64];omega
       have hi2:((i - 1:Nat):Int) < (ns.length:Int):=by omega
       have hi3:(0:Int)≤((i - 1:Nat):Int):=by omega
       clear a0 a1 cp cm p0 p1 m0 m1 hpx hqx hpA hmA2 hpn hpk e2 e3 HPC HPI hpr hless
       go_upto_region 24 with fail
       refine wp_region_held_drew (S:=fun w'=>w'.cell? ⟨g5,o5+i*2,none⟩=some (.slice (some ⟨gm,om,none⟩) mn mk)∧w'.cell? ⟨g5,o5+i*2+1,none⟩=some (.slice nA nn nk)∧w'.cell? ⟨g5,o5+(i - 1)*2,none⟩=some (.slice (some ⟨gp,op,none⟩) pn pk)∧w'.cell? ⟨gp,op,none⟩=some (.int .i64 px)∧w'.cell? ⟨gp,op+1,none⟩=some (.int .i64 py)∧w'.cell? ⟨gm,om,none⟩=some (.int .i64 qx)∧w'.cell? ⟨gm,om+1,none⟩=some (.int .i64 qy)∧Below wr.heap.size wr w') (by kernel_rfl) ?_ (fun hHeld=>?_)
       ·exact CS.out _ (below_drew (Below.refl _ _))
       refine wpAnyH_take (i:=0) (oi:=⟨some 101,.move (.tmp 7),22,"law.go:221",#[],none⟩) (v:=?_) rfl (by kernel_rfl) (by kernel_rfl) (by kernel_rfl) (fun _ _ _ h=>h) (Or.inl ⟨by rfl,?_⟩) (by assumption) ?_
       rotate_left
       ·intro w' hSw
        (try dsimp only at hSw)
        first | (go_simp;done) | (go_simp;with_reducible rfl)
       try simp only [Act.put,List.setIfInBounds_toArray,List.set_cons_zero,List.set_cons_succ]
       refine wpAnyH_take (i:=1) (oi:=⟨some 102,.move (.tmp 9),3,"law.go:221",#[],none⟩) (v:=?_) rfl (by kernel_rfl) (by kernel_rfl) (by kernel_rfl) (fun _ _ _ h=>h) (Or.inl ⟨by rfl,?_⟩) (by assumption) ?_
       rotate_left
       ·intro w' hSw
        (try dsimp only at hSw)
        first | (go_simp;done) | (go_simp;with_reducible rfl)
       try simp only [Act.put,List.setIfInBounds_toArray,List.set_cons_zero,List.set_cons_succ]
       refine wpAnyH_take (i:=2) (oi:=⟨some 103,.indexAddr 22 (.tmp 101) (.tmp 102),0,"law.go:221",#[⟨0,.data⟩,⟨1,.data⟩],none⟩) (v:=?_) rfl (by kernel_rfl) (by kernel_rfl) (by kernel_rfl) (fun _ _ _ h=>h) (Or.inl ⟨by rfl,?_⟩) (by assumption) ?_
       rotate_left
       ·intro w' hSw
        (try dsimp only at hSw)
        first | (go_simp;done) | (go_simp;with_reducible rfl)
       try simp only [Act.put,List.setIfInBounds_toArray,List.set_cons_zero,List.set_cons_succ]
       refine wpAnyH_take (i:=3) (oi:=⟨some 104,.load 29 (.tmp 103),29,"law.go:221",#[⟨2,.data⟩],none⟩) (v:=?_) rfl (by kernel_rfl) (by kernel_rfl) (by kernel_rfl) (fun _ _ _ h=>h) (Or.inl ⟨by rfl,?_⟩) (by assumption) ?_
       rotate_left
       ·intro w' hSw
        (try dsimp only at hSw)
        first | (go_simp;done) | (go_simp;with_reducible rfl)
       try simp only [Act.put,List.setIfInBounds_toArray,List.set_cons_zero,List.set_cons_succ]
       refine wpAnyH_ready (rs:=[4]) (by kernel_rfl) (by simp) ?_
       refine AllReadyH.cons (o:=⟨some 105,.call { callee:=Callee.value (.func 25),args:=#[.tmp 104],argTypes:=#[29] },4,"law.go:221",#[⟨3,.data⟩],none⟩) rfl (fun K hK=>?_) AllReadyH.nil
       go_simp
       go_at_call 25
       have hbx:Below wr.heap.size wr wr.drew:=below_drew (Below.refl _ _)
       refine (HVA.out _ hbx).mono ?_
       rintro e w10 ⟨rfl,hb10a⟩
       have hb10:Below wr.heap.size wr w10:=hbx.trans (hb10a.mono (Below.size hbx))
       refine hK.out _ _ ?_ (fun hHeld=>?_)
       ·exact CS.out _ hb10
       clear hK K
       try simp only [Act.put,List.setIfInBounds_toArray,List.set_cons_zero,List.set_cons_succ]
       refine wpAnyH_take (i:=5) (oi:=⟨some 106,.unOp UnOp.not 4 (.tmp 105),4,"law.go:221",#[⟨4,.data⟩],none⟩) (v:=?_) rfl (by kernel_rfl) (by kernel_rfl) (by kernel_rfl) (fun _ _ _ h=>h) (Or.inl ⟨by rfl,?_⟩) (by assumption) ?_
       rotate_left
       ·intro w' hSw
        (try dsimp only at hSw)
        first | (go_simp;done) | (go_simp;with_reducible rfl)
       try simp only [Act.put,List.setIfInBounds_toArray,List.set_cons_zero,List.set_cons_succ]
       refine wpAnyH_take (i:=6) (oi:=⟨some 107,.move (.tmp 106),4,"law.go:221",#[⟨5,.data⟩,⟨4,.chain⟩],none⟩) (v:=?_) rfl (by kernel_rfl) (by kernel_rfl) (by kernel_rfl) (fun _ _ _ h=>h) (Or.inl ⟨by rfl,?_⟩) (by assumption) ?_
       rotate_left
       ·intro w' hSw
        (try dsimp only at hSw)
        first | (go_simp;done) | (go_simp;with_reducible rfl)
       try simp only [Act.put,List.setIfInBounds_toArray,List.set_cons_zero,List.set_cons_succ]
       refine wpAnyH_take (i:=7) (oi:=⟨some 108,.move (.tmp 7),22,"law.go:221",#[⟨6,.guard⟩],some (6,false)⟩) (v:=?_) rfl (by kernel_rfl) (by kernel_rfl) (by kernel_rfl) (fun _ _ _ h=>h) (Or.inl ⟨by rfl,?_⟩) (by assumption) ?_
       rotate_left
       ·intro w' hSw
        (try dsimp only at hSw)
        first | (go_simp;done) | (go_simp;with_reducible rfl)
       try simp only [Act.put,List.setIfInBounds_toArray,List.set_cons_zero,List.set_cons_succ]
       refine wpAnyH_take (i:=8) (oi:=⟨some 109,.move (.tmp 9),3,"law.go:221",#[⟨6,.guard⟩],some (6,false)⟩) (v:=?_) rfl (by kernel_rfl) (by kernel_rfl) (by kernel_rfl) (fun _ _ _ h=>h) (Or.inl ⟨by rfl,?_⟩) (by assumption) ?_
       rotate_left
       ·intro w' hSw
        (try dsimp only at hSw)
        first | (go_simp;done) | (go_simp;with_reducible rfl)
       try simp only [Act.put,List.setIfInBounds_toArray,List.set_cons_zero,List.set_cons_succ]
       refine wpAnyH_take (i:=9) (oi:=⟨some 110,.indexAddr 22 (.tmp 108) (.tmp 109),0,"law.go:221",#[⟨7,.data⟩,⟨8,.data⟩,⟨6,.guard⟩],some (6,false)⟩) (v:=?_) rfl (by kernel_rfl) (by kernel_rfl) (by kernel_rfl) (fun _ _ _ h=>h) (Or.inl ⟨by rfl,?_⟩) (by assumption) ?_
       rotate_left
       ·intro w' hSw
        (try dsimp only at hSw)
        first | (go_simp;done) | (go_simp;with_reducible rfl)
       try simp only [Act.put,List.setIfInBounds_toArray,List.set_cons_zero,List.set_cons_succ]
       refine wpAnyH_take (i:=10) (oi:=⟨some 111,.load 29 (.tmp 110),29,"law.go:221",#[⟨9,.data⟩,⟨6,.guard⟩],some (6,false)⟩) (v:=?_) rfl (by kernel_rfl) (by kernel_rfl) (by kernel_rfl) (fun _ _ _ h=>h) (Or.inl ⟨by rfl,?_⟩) (by assumption) ?_
       rotate_left
       ·intro w' hSw
        (try dsimp only at hSw)
        first | (go_simp;done) | (go_simp;with_reducible rfl)
       try simp only [Act.put,List.setIfInBounds_toArray,List.set_cons_zero,List.set_cons_succ]
       refine wpAnyH_take (i:=12) (oi:=⟨some 113,.move (.tmp 7),22,"law.go:221",#[⟨6,.guard⟩],some (6,false)⟩) (v:=?_) rfl (by kernel_rfl) (by kernel_rfl) (by kernel_rfl) (fun _ _ _ h=>h) (Or.inl ⟨by rfl,?_⟩) (by assumption) ?_
       rotate_left
       ·intro w' hSw
        (try dsimp only at hSw)
        first | (go_simp;done) | (go_simp;with_reducible rfl)
       try simp only [Act.put,List.setIfInBounds_toArray,List.set_cons_zero,List.set_cons_succ]
       refine wpAnyH_take (i:=13) (oi:=⟨some 114,.move (.tmp 9),3,"law.go:221",#[⟨6,.guard⟩],some (6,false)⟩) (v:=?_) rfl (by kernel_rfl) (by kernel_rfl) (by kernel_rfl) (fun _ _ _ h=>h) (Or.inl ⟨by rfl,?_⟩) (by assumption) ?_
       rotate_left
       ·intro w' hSw
        (try dsimp only at hSw)
        first | (go_simp;done) | (go_simp;with_reducible rfl)
       try simp only [Act.put,List.setIfInBounds_toArray,List.set_cons_zero,List.set_cons_succ]
       refine wpAnyH_take (i:=14) (oi:=⟨some 115,.indexAddr 22 (.tmp 113) (.tmp 114),0,"law.go:221",#[⟨12,.data⟩,⟨13,.data⟩,⟨6,.guard⟩],some (6,false)⟩) (v:=?_) rfl (by kernel_rfl) (by kernel_rfl) (by kernel_rfl) (fun _ _ _ h=>h) (Or.inl ⟨by rfl,?_⟩) (by assumption) ?_
       rotate_left
       ·intro w' hSw
        (try dsimp only at hSw)
        first | (go_simp;done) | (go_simp;with_reducible rfl)
       try simp only [Act.put,List.setIfInBounds_toArray,List.set_cons_zero,List.set_cons_succ]
       refine wpAnyH_take (i:=15) (oi:=⟨some 116,.load 29 (.tmp 115),29,"law.go:221",#[⟨14,.data⟩,⟨6,.guard⟩],some (6,false)⟩) (v:=?_) rfl (by kernel_rfl) (by kernel_rfl) (by kernel_rfl) (fun _ _ _ h=>h) (Or.inl ⟨by rfl,?_⟩) (by assumption) ?_
       rotate_left
       ·intro w' hSw
        (try dsimp only at hSw)
        first | (go_simp;done) | (go_simp;with_reducible rfl)
       try simp only [Act.put,List.setIfInBounds_toArray,List.set_cons_zero,List.set_cons_succ]
       refine wpAnyH_ready (rs:=[11]) (by kernel_rfl) (by simp) ?_
       refine AllReadyH.cons (o:=⟨some 112,.call { callee:=Callee.value (.func 27),args:=#[.tmp 111],argTypes:=#[29] },29,"law.go:221",#[⟨10,.data⟩,⟨6,.chain⟩,⟨6,.guard⟩],some (6,false)⟩) rfl (fun K hK=>?_) AllReadyH.nil
       go_simp
       go_at_call 27
       refine (HCN.out _ hb10).mono ?_
       rintro e w11 ⟨⟨m2,rfl,hat2,ho2,hh2⟩,hb11a⟩
       have hb11:Below wr.heap.size wr w11:=hb10.trans (hb11a.mono (Below.size hb10))
       have HSM:=hid (HSA.out m2 w11 hb11 hat2 ho2 hh2)
       obtain ⟨aA,an,ak,haA⟩:∃ a n b,rowVal m2.o=.slice a n b:=⟨_,_,_,rfl⟩
       obtain ⟨bA,bn,bk,hbA⟩:∃ a n b,holesVal m2=.slice a n b:=⟨_,_,_,rfl⟩
       have HMV:Hid (shapeVals m2=#[.slice aA an ak,.slice bA bn bk]):=hid (by unfold shapeVals;rw [haA,hbA])
       rw [HMV.out] at HSM ⊢
       clear haA hbA
       refine hK.out _ _ ?_ (fun hHeld=>?_)
       ·exact CS.out _ hb11
       clear hK K
       try simp only [Act.put,List.setIfInBounds_toArray,List.set_cons_zero,List.set_cons_succ]
       refine wpAnyH_ready (rs:=[16]) (by kernel_rfl) (by simp) ?_
       refine AllReadyH.cons (o:=⟨some 117,.call { callee:=Callee.value (.func 26),args:=#[.tmp 112,.tmp 116],argTypes:=#[29,29] },4,"law.go:221",#[⟨11,.data⟩,⟨15,.data⟩,⟨11,.chain⟩,⟨6,.guard⟩],some (6,false)⟩) rfl (fun K hK=>?_) AllReadyH.nil
       go_simp
       go_at_call 26
       refine HSM.out.mono ?_
       rintro e w12 ⟨rfl,hb12a⟩
       have hb12:Below wr.heap.size wr w12:=hb11.trans (hb12a.mono (Below.size hb11))
       refine hK.out _ _ ?_ (fun hHeld=>?_)
       ·exact CS.out _ hb12
       clear hK K
       try simp only [Act.put,List.setIfInBounds_toArray,List.set_cons_zero,List.set_cons_succ]
       refine wpAnyH_take (i:=17) (oi:=⟨some 118,.unOp UnOp.not 4 (.tmp 117),4,"law.go:221",#[⟨16,.data⟩,⟨6,.guard⟩],some (6,false)⟩) (v:=?_) rfl (by kernel_rfl) (by kernel_rfl) (by kernel_rfl) (fun _ _ _ h=>h) (Or.inl ⟨by rfl,?_⟩) (by assumption) ?_
       rotate_left
       ·intro w' hSw
        (try dsimp only at hSw)
        first | (go_simp;done) | (go_simp;with_reducible rfl)
       try simp only [Act.put,List.setIfInBounds_toArray,List.set_cons_zero,List.set_cons_succ]
       refine wpAnyH_take (i:=18) (oi:=⟨some 119,.pick (.tmp 107) (.const (Value.bool true)) (.tmp 118),4,"law.go:221",#[⟨6,.data⟩,⟨17,.data⟩],none⟩) (v:=?_) rfl (by kernel_rfl) (by kernel_rfl) (by kernel_rfl) (fun _ _ _ h=>h) (Or.inl ⟨by rfl,?_⟩) (by assumption) ?_
       rotate_left
       ·intro w' hSw
        (try dsimp only at hSw)
        first | (go_simp;done) | (go_simp;with_reducible rfl)
       try simp only [Act.put,List.setIfInBounds_toArray,List.set_cons_zero,List.set_cons_succ]
       refine wpAnyH_take (i:=19) (oi:=⟨some 120,.move (.tmp 119),4,"law.go:221",#[⟨18,.data⟩,⟨16,.chain⟩],none⟩) (v:=?_) rfl (by kernel_rfl) (by kernel_rfl) (by kernel_rfl) (fun _ _ _ h=>h) (Or.inl ⟨by rfl,?_⟩) (by assumption) ?_
       rotate_left
       ·intro w' hSw
        (try dsimp only at hSw)
        first | (go_simp;done) | (go_simp;with_reducible rfl)
       try simp only [Act.put,List.setIfInBounds_toArray,List.set_cons_zero,List.set_cons_succ]
       refine wpAnyH_take (i:=20) (oi:=⟨some 121,.move (.tmp 9),3,"law.go:221",#[⟨19,.guard⟩],some (19,false)⟩) (v:=?_) rfl (by kernel_rfl) (by kernel_rfl) (by kernel_rfl) (fun _ _ _ h=>h) (Or.inl ⟨by rfl,?_⟩) (by assumption) ?_
       rotate_left
       ·intro w' hSw
        (try dsimp only at hSw)
        first | (go_simp;done) | (go_simp;with_reducible rfl)
       try simp only [Act.put,List.setIfInBounds_toArray,List.set_cons_zero,List.set_cons_succ]
       refine wpAnyH_take (i:=21) (oi:=⟨some 122,.binOp BinOp.gtr 3 (.tmp 121) (.const (Value.int IntKind.i64 0)) 3,4,"law.go:221",#[⟨20,.data⟩,⟨19,.guard⟩],some (19,false)⟩) (v:=?_) rfl (by kernel_rfl) (by kernel_rfl) (by kernel_rfl) (fun _ _ _ h=>h) (Or.inl ⟨by rfl,?_⟩) (by assumption) ?_
       rotate_left
       ·intro w' hSw
        (try dsimp only at hSw)
        first | (go_simp;done) | (go_simp;with_reducible rfl)
       try simp only [Act.put,List.setIfInBounds_toArray,List.set_cons_zero,List.set_cons_succ]
       refine wpAnyH_take (i:=22) (oi:=⟨some 123,.move (.tmp 122),4,"law.go:221",#[⟨21,.data⟩,⟨19,.chain⟩,⟨19,.guard⟩],some (19,false)⟩) (v:=?_) rfl (by kernel_rfl) (by kernel_rfl) (by kernel_rfl) (fun _ _ _ h=>h) (Or.inl ⟨by rfl,?_⟩) (by assumption) ?_
       rotate_left
       ·intro w' hSw
        (try dsimp only at hSw)
        first | (go_simp;done) | (go_simp;with_reducible rfl)
       try simp only [Act.put,List.setIfInBounds_toArray,List.set_cons_zero,List.set_cons_succ]
       refine wpAnyH_take (i:=23) (oi:=⟨some 124,.move (.tmp 7),22,"law.go:221",#[⟨22,.guard⟩],some (22,true)⟩) (v:=?_) rfl (by kernel_rfl) (by kernel_rfl) (by kernel_rfl) (fun _ _ _ h=>h) (Or.inl ⟨by rfl,?_⟩) (by assumption) ?_
       rotate_left
       ·intro w' hSw
        (try dsimp only at hSw)
        first | (go_simp;done) | (go_simp;with_reducible rfl)
       try simp only [Act.put,List.setIfInBounds_toArray,List.set_cons_zero,List.set_cons_succ]
       refine wpAnyH_take (i:=24) (oi:=⟨some 125,.move (.tmp 9),3,"law.go:221",#[⟨22,.guard⟩],some (22,true)⟩) (v:=?_) rfl (by kernel_rfl) (by kernel_rfl) (by kernel_rfl) (fun _ _ _ h=>h) (Or.inl ⟨by rfl,?_⟩) (by assumption) ?_
       rotate_left
       ·intro w' hSw
        (try dsimp only at hSw)
        first | (go_simp;done) | (go_simp;with_reducible rfl)
       try simp only [Act.put,List.setIfInBounds_toArray,List.set_cons_zero,List.set_cons_succ]
       refine wpAnyH_take (i:=25) (oi:=⟨some 126,.binOp BinOp.sub 3 (.tmp 125) (.const (Value.int IntKind.i64 1)) 3,3,"law.go:221",#[⟨24,.data⟩,⟨22,.guard⟩],some (22,true)⟩) (v:=?_) rfl (by kernel_rfl) (by kernel_rfl) (by kernel_rfl) (fun _ _ _ h=>h) (Or.inl ⟨by rfl,?_⟩) (by assumption) ?_
       rotate_left
       ·intro w' hSw
        (try dsimp only at hSw)
        first | (go_simp;done) | (go_simp;with_reducible rfl)
       try simp only [Act.put,List.setIfInBounds_toArray,List.set_cons_zero,List.set_cons_succ]
       refine wpAnyH_take (i:=26) (oi:=⟨some 127,.indexAddr 22 (.tmp 124) (.tmp 126),0,"law.go:221",#[⟨23,.data⟩,⟨25,.data⟩,⟨22,.guard⟩],some (22,true)⟩) (v:=?_) rfl (by kernel_rfl) (by kernel_rfl) (by kernel_rfl) (fun _ _ _ h=>h) (Or.inl ⟨by rfl,?_⟩) (by assumption) ?_
       rotate_left
       ·intro w' hSw
        (try dsimp only at hSw)
        first | (go_simp;done) | (go_simp;with_reducible rfl)
       try simp only [Act.put,List.setIfInBounds_toArray,List.set_cons_zero,List.set_cons_succ]
       refine wpAnyH_take (i:=27) (oi:=⟨some 128,.fieldAddr 29 (.tmp 127) 0,0,"law.go:221",#[⟨26,.data⟩,⟨22,.guard⟩],some (22,true)⟩) (v:=?_) rfl (by kernel_rfl) (by kernel_rfl) (by kernel_rfl) (fun _ _ _ h=>h) (Or.inl ⟨by rfl,?_⟩) (by assumption) ?_
       rotate_left
       ·intro w' hSw
        (try dsimp only at hSw)
        first | (go_simp;done) | (go_simp;with_reducible rfl)
       try simp only [Act.put,List.setIfInBounds_toArray,List.set_cons_zero,List.set_cons_succ]
       refine wpAnyH_take (i:=28) (oi:=⟨some 129,.load 26 (.tmp 128),26,"law.go:221",#[⟨27,.data⟩,⟨22,.guard⟩],some (22,true)⟩) (v:=?_) rfl (by kernel_rfl) (by kernel_rfl) (by kernel_rfl) (fun _ _ _ h=>h) (Or.inl ⟨by rfl,?_⟩) (by assumption) ?_
       rotate_left
       ·intro w' hSw
        (try dsimp only at hSw)
        first | (go_simp;done) | (go_simp;with_reducible rfl)
       try simp only [Act.put,List.setIfInBounds_toArray,List.set_cons_zero,List.set_cons_succ]
       refine wpAnyH_take (i:=29) (oi:=⟨some 130,.indexAddr 26 (.tmp 129) (.const (Value.int IntKind.i64 0)),0,"law.go:221",#[⟨28,.data⟩,⟨22,.guard⟩],some (22,true)⟩) (v:=?_) rfl (by kernel_rfl) (by kernel_rfl) (by kernel_rfl) (fun _ _ _ h=>h) (Or.inl ⟨by rfl,?_⟩) (by assumption) ?_
       rotate_left
       ·intro w' hSw
        (try dsimp only at hSw)
        first | (go_simp;done) | (go_simp;with_reducible rfl)
       try simp only [Act.put,List.setIfInBounds_toArray,List.set_cons_zero,List.set_cons_succ]
       refine wpAnyH_take (i:=30) (oi:=⟨some 131,.load 53 (.tmp 130),53,"law.go:221",#[⟨29,.data⟩,⟨22,.guard⟩],some (22,true)⟩) (v:=?_) rfl (by kernel_rfl) (by kernel_rfl) (by kernel_rfl) (fun _ _ _ h=>h) (Or.inl ⟨by rfl,?_⟩) (by assumption) ?_
       rotate_left
       ·intro w' hSw
        (try dsimp only at hSw)
        first | (go_simp;done) | (go_simp;with_reducible rfl)
       try simp only [Act.put,List.setIfInBounds_toArray,List.set_cons_zero,List.set_cons_succ]
       refine wpAnyH_take (i:=31) (oi:=⟨some 132,.move (.tmp 7),22,"law.go:221",#[⟨22,.guard⟩],some (22,true)⟩) (v:=?_) rfl (by kernel_rfl) (by kernel_rfl) (by kernel_rfl) (fun _ _ _ h=>h) (Or.inl ⟨by rfl,?_⟩) (by assumption) ?_
       rotate_left
       ·intro w' hSw
        (try dsimp only at hSw)
        first | (go_simp;done) | (go_simp;with_reducible rfl)
       try simp only [Act.put,List.setIfInBounds_toArray,List.set_cons_zero,List.set_cons_succ]
       refine wpAnyH_take (i:=32) (oi:=⟨some 133,.move (.tmp 9),3,"law.go:221",#[⟨22,.guard⟩],some (22,true)⟩) (v:=?_) rfl (by kernel_rfl) (by kernel_rfl) (by kernel_rfl) (fun _ _ _ h=>h) (Or.inl ⟨by rfl,?_⟩) (by assumption) ?_
       rotate_left
       ·intro w' hSw
        (try dsimp only at hSw)
        first | (go_simp;done) | (go_simp;with_reducible rfl)
       try simp only [Act.put,List.setIfInBounds_toArray,List.set_cons_zero,List.set_cons_succ]
       refine wpAnyH_take (i:=33) (oi:=⟨some 134,.indexAddr 22 (.tmp 132) (.tmp 133),0,"law.go:221",#[⟨31,.data⟩,⟨32,.data⟩,⟨22,.guard⟩],some (22,true)⟩) (v:=?_) rfl (by kernel_rfl) (by kernel_rfl) (by kernel_rfl) (fun _ _ _ h=>h) (Or.inl ⟨by rfl,?_⟩) (by assumption) ?_
       rotate_left
       ·intro w' hSw
        (try dsimp only at hSw)
        first | (go_simp;done) | (go_simp;with_reducible rfl)
       try simp only [Act.put,List.setIfInBounds_toArray,List.set_cons_zero,List.set_cons_succ]
       refine wpAnyH_take (i:=34) (oi:=⟨some 135,.fieldAddr 29 (.tmp 134) 0,0,"law.go:221",#[⟨33,.data⟩,⟨22,.guard⟩],some (22,true)⟩) (v:=?_) rfl (by kernel_rfl) (by kernel_rfl) (by kernel_rfl) (fun _ _ _ h=>h) (Or.inl ⟨by rfl,?_⟩) (by assumption) ?_
       rotate_left
       ·intro w' hSw
        (try dsimp only at hSw)
        first | (go_simp;done) | (go_simp;with_reducible rfl)
       try simp only [Act.put,List.setIfInBounds_toArray,List.set_cons_zero,List.set_cons_succ]
       refine wpAnyH_take (i:=35) (oi:=⟨some 136,.load 26 (.tmp 135),26,"law.go:221",#[⟨34,.data⟩,⟨22,.guard⟩],some (22,true)⟩) (v:=?_) rfl (by kernel_rfl) (by kernel_rfl) (by kernel_rfl) (fun _ _ _ h=>h) (Or.inl ⟨by rfl,?_⟩) (by assumption) ?_
       rotate_left
       ·intro w' hSw
        (try dsimp only at hSw)
        first | (go_simp;done) | (go_simp;with_reducible rfl)
       try simp only [Act.put,List.setIfInBounds_toArray,List.set_cons_zero,List.set_cons_succ]
       refine wpAnyH_take (i:=36) (oi:=⟨some 137,.indexAddr 26 (.tmp 136) (.const (Value.int IntKind.i64 0)),0,"law.go:221",#[⟨35,.data⟩,⟨22,.guard⟩],some (22,true)⟩) (v:=?_) rfl (by kernel_rfl) (by kernel_rfl) (by kernel_rfl) (fun _ _ _ h=>h) (Or.inl ⟨by rfl,?_⟩) (by assumption) ?_
       rotate_left
       ·intro w' hSw
        (try dsimp only at hSw)
        first | (go_simp;done) | (go_simp;with_reducible rfl)
       try simp only [Act.put,List.setIfInBounds_toArray,List.set_cons_zero,List.set_cons_succ]
       refine wpAnyH_take (i:=37) (oi:=⟨some 138,.load 53 (.tmp 137),53,"law.go:221",#[⟨36,.data⟩,⟨22,.guard⟩],some (22,true)⟩) (v:=?_) rfl (by kernel_rfl) (by kernel_rfl) (by kernel_rfl) (fun _ _ _ h=>h) (Or.inl ⟨by rfl,?_⟩) (by assumption) ?_
       rotate_left
       ·intro w' hSw
        (try dsimp only at hSw)
        first | (go_simp;done) | (go_simp;with_reducible rfl)
       try simp only [Act.put,List.setIfInBounds_toArray,List.set_cons_zero,List.set_cons_succ]
       refine wpAnyH_ready (rs:=[38]) (by kernel_rfl) (by simp) ?_
       refine AllReadyH.cons (o:=⟨some 139,.call { callee:=Callee.value (.func 28),args:=#[.tmp 131,.tmp 138],argTypes:=#[53,53] },4,"law.go:221",#[⟨30,.data⟩,⟨37,.data⟩,⟨22,.chain⟩,⟨22,.guard⟩],some (22,true)⟩) rfl (fun K hK=>?_) AllReadyH.nil
       go_simp
       go_at_call 28
       refine (HLS.out w12).mono ?_
       rintro e w13 ⟨rfl,hb13a⟩
       have hb13:Below wr.heap.size wr w13:=hb12.trans (hb13a.mono (Below.size hb12))
       refine hK.out _ _ ?_ (fun hHeld=>?_)
       ·exact CS.out _ hb13
       clear hK K
       try simp only [Act.put,List.setIfInBounds_toArray,List.set_cons_zero,List.set_cons_succ]
       refine wpAnyH_take (i:=39) (oi:=⟨some 140,.unOp UnOp.not 4 (.tmp 139),4,"law.go:221",#[⟨38,.data⟩,⟨22,.guard⟩],some (22,true)⟩) (v:=?_) rfl (by kernel_rfl) (by kernel_rfl) (by kernel_rfl) (fun _ _ _ h=>h) (Or.inl ⟨by rfl,?_⟩) (by assumption) ?_
       rotate_left
       ·intro w' hSw
        (try dsimp only at hSw)
        first | (go_simp;done) | (go_simp;with_reducible rfl)
       try simp only [Act.put,List.setIfInBounds_toArray,List.set_cons_zero,List.set_cons_succ]
       refine wpAnyH_take (i:=40) (oi:=⟨some 141,.pick (.tmp 123) (.tmp 140) (.const (Value.bool false)),4,"law.go:221",#[⟨22,.data⟩,⟨39,.data⟩,⟨19,.guard⟩],some (19,false)⟩) (v:=?_) rfl (by kernel_rfl) (by kernel_rfl) (by kernel_rfl) (fun _ _ _ h=>h) (Or.inl ⟨by rfl,?_⟩) (by assumption) ?_
       rotate_left
       ·intro w' hSw
        (try dsimp only at hSw)
        first | (go_simp;done) | (go_simp;with_reducible rfl)
       try simp only [Act.put,List.setIfInBounds_toArray,List.set_cons_zero,List.set_cons_succ]
       refine wpAnyH_take (i:=41) (oi:=⟨some 142,.pick (.tmp 120) (.const (Value.bool true)) (.tmp 141),4,"law.go:221",#[⟨19,.data⟩,⟨40,.data⟩],none⟩) (v:=?_) rfl (by kernel_rfl) (by kernel_rfl) (by kernel_rfl) (fun _ _ _ h=>h) (Or.inl ⟨by rfl,?_⟩) (by assumption) ?_
       rotate_left
       ·intro w' hSw
        (try dsimp only at hSw)
        first | (go_simp;done) | (go_simp;with_reducible rfl)
       try simp only [Act.put,List.setIfInBounds_toArray,List.set_cons_zero,List.set_cons_succ]
       refine wpAnyH_done (by kernel_rfl) ?_ _
       obtain ⟨_,_,_,_,_,_,_,hb9⟩:=hHeld
       generalize w13=w9 at *
       have HB9:=hid (HBX.out _ hb9)
       clear hb9 hb10 hb11 hb12 hb13 hb10a hb11a hb12a hb13a HSM HMV hHeld dp dm hi1 hi2 hi3
       go_wp2_with fail
       go_loopw [10,11] (fun f k wr=>∃ (q:Nat) (b:Bool),f=.bool b∧k=.int .i64 (q:Int)∧q≤ms.length∧Hid (b=(ms.take q).any fun m=>decide (canonS (shapeOf m)=shapeOf n))∧Hid (Below w5.heap.size w5 wr)) (fun _ k _=>ms.length - (intOf k).toNat)
       case atStart=>exact ⟨0,false,rfl,rfl,Nat.zero_le _,hid rfl,HB9⟩
       case round =>
        clear HB HB9 HBX CS HVA HCN HSA
        obtain ⟨k,b,rfl,rfl,hk,HFD,HB⟩:=hrel
        by_cases hkl:k < ms.length
        ·obtain ⟨g,off,rfl,hg,ca⟩:=row_get shapeL_len (by decide) HRW.out (by omega)
         have HBX:Hid (∀ W,Below wr.heap.size wr W→Below w5.heap.size w5 W∧Below w.heap.size w W):=hid (fun W hW=>have h1:=HB.out.trans (hW.mono HB.out.size);⟨h1,HB5.out.trans (h1.mono HB5.out.size)⟩)
         have a0:=ca k hkl 0 (by decide)
         have a1:=ca k hkl 1 (by decide)
         have HFN:Hid ((ms.take (k+1)).any (fun m=>decide (canonS (shapeOf m)=shapeOf n))=(b || decide (canonS (shapeOf ms[k])=shapeOf n))):=hid (by
          rw [List.take_succ_eq_append_getElem hkl,List.any_append,HFD.out]
          simp)
         have HKA:=hid (HOA.out _ (List.getElem_mem hkl))
         have HKI:Hid (∀ W,Below w.heap.size w W→ShapeIn W ms[k]):=hid (fun W hW=>(HSI.out W hW).each _ (List.getElem_mem hkl))
         have hq1:(0:Int)≤(k:Int):=by omega
         have hq2:(k:Int) < (ms.length:Int):=by omega
         clear ca
         obtain ⟨m,hm⟩:∃ m,ms[k]=m:=⟨_,rfl⟩
         rw [hm] at a0 a1 HFN HKA HKI
         clear hm
         have HRC:=hid (fun W (hW:Below wr.heap.size wr W)=>rcanonS_any m W (HKI.out W (HBX.out W hW).2) HKA.out.2.2)
         have HRS:=hid (fun (m2:ShapeM) (W:World) (hW:Below wr.heap.size wr W) (hat:ShapeAt W m2) (ho:m2.o.l=beginL m.o.l) (hh:holesL m2=sortH ((holesL m).map beginL))=>(rsameS_any m2 n W hat.sin (HM.out.below (HBX.out W hW).1)).mono (R':=fun e w'=>e=.returned (.bool (decide (canonS (shapeOf m)=shapeOf n)))∧Below W.heap.size W w') (by
          rintro e w' ⟨rfl,hb⟩
          refine ⟨?_,hb⟩
          congr 2
          unfold canonS shapeOf
          rw [ho,hh,Bool.eq_iff_iff,Bool.and_eq_true,decide_eq_true_eq,decide_eq_true_eq,decide_eq_true_eq,Prod.mk.injEq]))
         obtain ⟨sA,sn,sk,hsA⟩:∃ a n' b,rowVal m.o=.slice a n' b:=⟨_,_,_,rfl⟩
         obtain ⟨tA,tn,tk,htA⟩:∃ a n' b,holesVal m=.slice a n' b:=⟨_,_,_,rfl⟩
         have HSV:Hid (shapeVals m=#[.slice sA sn sk,.slice tA tn tk]):=hid (by unfold shapeVals;rw [hsA,htA])
         have a0:w.cell? ⟨g,off+k*2,none⟩=some (.slice sA sn sk):=a0.trans (congrArg some hsA)
         have a1:w.cell? ⟨g,off+k*2+1,none⟩=some (.slice tA tn tk):=a1.trans (congrArg some htA)
         have HNV:Hid (shapeVals n=#[.slice (some ⟨gm,om,none⟩) mn mk,.slice nA nn nk]):=HSN
         rw [HSV.out] at HRC
         rw [HNV.out] at HRS
         have CS:Hid (∀ w',Below wr.heap.size wr w'→w'.cell? ⟨g,off+k*2,none⟩=some (.slice sA sn sk)∧w'.cell? ⟨g,off+k*2+1,none⟩=some (.slice tA tn tk)∧w'.cell? ⟨g5,o5+i*2,none⟩=some (.slice (some ⟨gm,om,none⟩) mn mk)∧w'.cell? ⟨g5,o5+i*2+1,none⟩=some (.slice nA nn nk)∧Below wr.heap.size wr w'):=hid (fun w' hb=>by
          obtain ⟨x,y⟩:=HCI.out w' (HBX.out w' hb).1
          exact ⟨((HBX.out w' hb).2.cell (p:=⟨g,off+k*2,none⟩) hg).trans a0,((HBX.out w' hb).2.cell (p:=⟨g,off+k*2+1,none⟩) hg).trans a1,x,y,hb⟩)
         clear a0 a1 hsA htA HSV
         generalize decide (canonS (shapeOf m)=shapeOf n)=b2 at *
         go_upto_region 30 with fail
         cases b
         ·skip
          refine wp_region_held_drew (S:=fun w'=>w'.cell? ⟨g,off+k*2,none⟩=some (.slice sA sn sk)∧w'.cell? ⟨g,off+k*2+1,none⟩=some (.slice tA tn tk)∧w'.cell? ⟨g5,o5+i*2,none⟩=some (.slice (some ⟨gm,om,none⟩) mn mk)∧w'.cell? ⟨g5,o5+i*2+1,none⟩=some (.slice nA nn nk)∧Below wr.heap.size wr w') (by kernel_rfl) ?_ (fun hHeld=>?_)
          ·exact CS.out _ (below_drew (Below.refl _ _))
          refine wpAnyH_take (i:=0) (oi:=⟨some 149,.move (.tmp 10),4,"law.go:226",#[],none⟩) (v:=?_) rfl (by kernel_rfl) (by kernel_rfl) (by kernel_rfl) (fun _ _ _ h=>h) (Or.inl ⟨by rfl,?_⟩) (by assumption) ?_
          rotate_left
          ·intro w' hSw
           (try dsimp only at hSw)
           first | (go_simp;done) | (go_simp;with_reducible rfl)
          try simp only [Act.put,List.setIfInBounds_toArray,List.set_cons_zero,List.set_cons_succ]
          refine wpAnyH_take (i:=1) (oi:=⟨some 150,.move (.tmp 149),4,"law.go:226",#[⟨0,.data⟩],none⟩) (v:=?_) rfl (by kernel_rfl) (by kernel_rfl) (by kernel_rfl) (fun _ _ _ h=>h) (Or.inl ⟨by rfl,?_⟩) (by assumption) ?_
          rotate_left
          ·intro w' hSw
           (try dsimp only at hSw)
           first | (go_simp;done) | (go_simp;with_reducible rfl)
          try simp only [Act.put,List.setIfInBounds_toArray,List.set_cons_zero,List.set_cons_succ]
          refine wpAnyH_take (i:=2) (oi:=⟨some 151,.move (.tmp 0),22,"law.go:226",#[⟨1,.guard⟩],some (1,false)⟩) (v:=?_) rfl (by kernel_rfl) (by kernel_rfl) (by kernel_rfl) (fun _ _ _ h=>h) (Or.inl ⟨by rfl,?_⟩) (by assumption) ?_
          rotate_left
          ·intro w' hSw
           (try dsimp only at hSw)
           first | (go_simp;done) | (go_simp;with_reducible rfl)
          try simp only [Act.put,List.setIfInBounds_toArray,List.set_cons_zero,List.set_cons_succ]
          refine wpAnyH_take (i:=3) (oi:=⟨some 152,.move (.tmp 11),3,"law.go:226",#[⟨1,.guard⟩],some (1,false)⟩) (v:=?_) rfl (by kernel_rfl) (by kernel_rfl) (by kernel_rfl) (fun _ _ _ h=>h) (Or.inl ⟨by rfl,?_⟩) (by assumption) ?_
          rotate_left
          ·intro w' hSw
           (try dsimp only at hSw)
           first | (go_simp;done) | (go_simp;with_reducible rfl)
          try simp only [Act.put,List.setIfInBounds_toArray,List.set_cons_zero,List.set_cons_succ]
          refine wpAnyH_take (i:=4) (oi:=⟨some 153,.indexAddr 22 (.tmp 151) (.tmp 152),0,"law.go:226",#[⟨2,.data⟩,⟨3,.data⟩,⟨1,.guard⟩],some (1,false)⟩) (v:=?_) rfl (by kernel_rfl) (by kernel_rfl) (by kernel_rfl) (fun _ _ _ h=>h) (Or.inl ⟨by rfl,?_⟩) (by assumption) ?_
          rotate_left
          ·intro w' hSw
           (try dsimp only at hSw)
           first | (go_simp;done) | (go_simp;with_reducible rfl)
          try simp only [Act.put,List.setIfInBounds_toArray,List.set_cons_zero,List.set_cons_succ]
          refine wpAnyH_take (i:=5) (oi:=⟨some 154,.load 29 (.tmp 153),29,"law.go:226",#[⟨4,.data⟩,⟨1,.guard⟩],some (1,false)⟩) (v:=?_) rfl (by kernel_rfl) (by kernel_rfl) (by kernel_rfl) (fun _ _ _ h=>h) (Or.inl ⟨by rfl,?_⟩) (by assumption) ?_
          rotate_left
          ·intro w' hSw
           (try dsimp only at hSw)
           first | (go_simp;done) | (go_simp;with_reducible rfl)
          try simp only [Act.put,List.setIfInBounds_toArray,List.set_cons_zero,List.set_cons_succ]
          refine wpAnyH_take (i:=7) (oi:=⟨some 156,.move (.tmp 7),22,"law.go:226",#[⟨1,.guard⟩],some (1,false)⟩) (v:=?_) rfl (by kernel_rfl) (by kernel_rfl) (by kernel_rfl) (fun _ _ _ h=>h) (Or.inl ⟨by rfl,?_⟩) (by assumption) ?_
          rotate_left
          ·intro w' hSw
           (try dsimp only at hSw)
           first | (go_simp;done) | (go_simp;with_reducible rfl)
          try simp only [Act.put,List.setIfInBounds_toArray,List.set_cons_zero,List.set_cons_succ]
          refine wpAnyH_take (i:=8) (oi:=⟨some 157,.move (.tmp 9),3,"law.go:226",#[⟨1,.guard⟩],some (1,false)⟩) (v:=?_) rfl (by kernel_rfl) (by kernel_rfl) (by kernel_rfl) (fun _ _ _ h=>h) (Or.inl ⟨by rfl,?_⟩) (by assumption) ?_
          rotate_left
          ·intro w' hSw
           (try dsimp only at hSw)
           first | (go_simp;done) | (go_simp;with_reducible rfl)
          try simp only [Act.put,List.setIfInBounds_toArray,List.set_cons_zero,List.set_cons_succ]
          refine wpAnyH_take (i:=9) (oi:=⟨some 158,.indexAddr 22 (.tmp 156) (.tmp 157),0,"law.go:226",#[⟨7,.data⟩,⟨8,.data⟩,⟨1,.guard⟩],some (1,false)⟩) (v:=?_) rfl (by kernel_rfl) (by kernel_rfl) (by kernel_rfl) (fun _ _ _ h=>h) (Or.inl ⟨by rfl,?_⟩) (by assumption) ?_
          rotate_left
          ·intro w' hSw
           (try dsimp only at hSw)
           first | (go_simp;done) | (go_simp;with_reducible rfl)
          try simp only [Act.put,List.setIfInBounds_toArray,List.set_cons_zero,List.set_cons_succ]
          refine wpAnyH_take (i:=10) (oi:=⟨some 159,.load 29 (.tmp 158),29,"law.go:226",#[⟨9,.data⟩,⟨1,.guard⟩],some (1,false)⟩) (v:=?_) rfl (by kernel_rfl) (by kernel_rfl) (by kernel_rfl) (fun _ _ _ h=>h) (Or.inl ⟨by rfl,?_⟩) (by assumption) ?_
          rotate_left
          ·intro w' hSw
           (try dsimp only at hSw)
           first | (go_simp;done) | (go_simp;with_reducible rfl)
          try simp only [Act.put,List.setIfInBounds_toArray,List.set_cons_zero,List.set_cons_succ]
          refine wpAnyH_ready (rs:=[6]) (by kernel_rfl) (by simp) ?_
          refine AllReadyH.cons (o:=⟨some 155,.call { callee:=Callee.value (.func 30),args:=#[.tmp 154],argTypes:=#[29] },29,"law.go:226",#[⟨5,.data⟩,⟨1,.chain⟩,⟨1,.guard⟩],some (1,false)⟩) rfl (fun K hK=>?_) AllReadyH.nil
          go_simp
          go_at_call 30
          have hbx:Below wr.heap.size wr wr.drew:=below_drew (Below.refl _ _)
          refine (HRC.out _ hbx).mono ?_
          rintro e w10 ⟨⟨m2,rfl,hat2,ho2,hh2⟩,hb10a⟩
          have hb10:Below wr.heap.size wr w10:=hbx.trans (hb10a.mono (Below.size hbx))
          have HSM:=hid (HRS.out m2 w10 hb10 hat2 ho2 hh2)
          obtain ⟨aA,an,ak,haA⟩:∃ a n b,rowVal m2.o=.slice a n b:=⟨_,_,_,rfl⟩
          obtain ⟨bA,bn,bk,hbA⟩:∃ a n b,holesVal m2=.slice a n b:=⟨_,_,_,rfl⟩
          have HMV:Hid (shapeVals m2=#[.slice aA an ak,.slice bA bn bk]):=hid (by unfold shapeVals;rw [haA,hbA])
          rw [HMV.out] at HSM ⊢
          clear haA hbA
          refine hK.out _ _ ?_ (fun hHeld=>?_)
          ·exact CS.out _ hb10
          clear hK K
          try simp only [Act.put,List.setIfInBounds_toArray,List.set_cons_zero,List.set_cons_succ]
          refine wpAnyH_ready (rs:=[11]) (by kernel_rfl) (by simp) ?_
          refine AllReadyH.cons (o:=⟨some 160,.call { callee:=Callee.value (.func 29),args:=#[.tmp 155,.tmp 159],argTypes:=#[29,29] },4,"law.go:226",#[⟨6,.data⟩,⟨10,.data⟩,⟨6,.chain⟩,⟨1,.guard⟩],some (1,false)⟩) rfl (fun K hK=>?_) AllReadyH.nil
          go_simp
          go_at_call 29
          refine HSM.out.mono ?_
          rintro e w11 ⟨rfl,hb11a⟩
          have hb11:Below wr.heap.size wr w11:=hb10.trans (hb11a.mono (Below.size hb10))
          refine hK.out _ _ ?_ (fun hHeld=>?_)
          ·exact CS.out _ hb11
          clear hK K
          try simp only [Act.put,List.setIfInBounds_toArray,List.set_cons_zero,List.set_cons_succ]
          refine wpAnyH_take (i:=12) (oi:=⟨some 161,.pick (.tmp 150) (.const (Value.bool true)) (.tmp 160),4,"law.go:226",#[⟨1,.data⟩,⟨11,.data⟩],none⟩) (v:=?_) rfl (by kernel_rfl) (by kernel_rfl) (by kernel_rfl) (fun _ _ _ h=>h) (Or.inl ⟨by rfl,?_⟩) (by assumption) ?_
          rotate_left
          ·intro w' hSw
           (try dsimp only at hSw)
           first | (go_simp;done) | (go_simp;with_reducible rfl)
          try simp only [Act.put,List.setIfInBounds_toArray,List.set_cons_zero,List.set_cons_succ]
          refine wpAnyH_take (i:=13) (oi:=⟨some 10,.assign (.tmp 161),4,"law.go:226",#[⟨12,.data⟩,⟨11,.chain⟩,⟨0,.phase⟩,⟨1,.phase⟩,⟨2,.phase⟩,⟨3,.phase⟩,⟨4,.phase⟩,⟨5,.phase⟩,⟨6,.phase⟩,⟨7,.phase⟩,⟨8,.phase⟩,⟨9,.phase⟩,⟨10,.phase⟩,⟨11,.phase⟩,⟨12,.phase⟩],none⟩) (v:=?_) rfl (by kernel_rfl) (by kernel_rfl) (by kernel_rfl) (fun _ _ _ h=>h) (Or.inl ⟨by rfl,?_⟩) (by assumption) ?_
          rotate_left
          ·intro w' hSw
           (try dsimp only at hSw)
           first | (go_simp;done) | (go_simp;with_reducible rfl)
          try simp only [Act.put,List.setIfInBounds_toArray,List.set_cons_zero,List.set_cons_succ]
          refine wpAnyH_done (by kernel_rfl) ?_ _
          obtain ⟨_,_,_,_,hb9⟩:=hHeld
          have HB9:=hid (HBX.out _ hb9).1
          clear hb9 hb10 hb11 hb10a hb11a HSM
          go_wp2_with fail
          go_roundw
          case rel=>exact ⟨k+1,b2,rfl,by go_num,hkl,hid (by rw [HFN.out];rfl),HB9⟩
          case measure=>simp [intOf];omega
         ·skip
          refine wp_region_held_drew (S:=fun w'=>w'.cell? ⟨g,off+k*2,none⟩=some (.slice sA sn sk)∧w'.cell? ⟨g,off+k*2+1,none⟩=some (.slice tA tn tk)∧w'.cell? ⟨g5,o5+i*2,none⟩=some (.slice (some ⟨gm,om,none⟩) mn mk)∧w'.cell? ⟨g5,o5+i*2+1,none⟩=some (.slice nA nn nk)∧Below wr.heap.size wr w') (by kernel_rfl) ?_ (fun hHeld=>?_)
          ·exact CS.out _ (below_drew (Below.refl _ _))
          refine wpAnyH_take (i:=0) (oi:=⟨some 149,.move (.tmp 10),4,"law.go:226",#[],none⟩) (v:=?_) rfl (by kernel_rfl) (by kernel_rfl) (by kernel_rfl) (fun _ _ _ h=>h) (Or.inl ⟨by rfl,?_⟩) (by assumption) ?_
          rotate_left
          ·intro w' hSw
           (try dsimp only at hSw)
           first | (go_simp;done) | (go_simp;with_reducible rfl)
          try simp only [Act.put,List.setIfInBounds_toArray,List.set_cons_zero,List.set_cons_succ]
          refine wpAnyH_take (i:=1) (oi:=⟨some 150,.move (.tmp 149),4,"law.go:226",#[⟨0,.data⟩],none⟩) (v:=?_) rfl (by kernel_rfl) (by kernel_rfl) (by kernel_rfl) (fun _ _ _ h=>h) (Or.inl ⟨by rfl,?_⟩) (by assumption) ?_
          rotate_left
          ·intro w' hSw
           (try dsimp only at hSw)
           first | (go_simp;done) | (go_simp;with_reducible rfl)
          try simp only [Act.put,List.setIfInBounds_toArray,List.set_cons_zero,List.set_cons_succ]
          refine wpAnyH_take (i:=2) (oi:=⟨some 151,.move (.tmp 0),22,"law.go:226",#[⟨1,.guard⟩],some (1,false)⟩) (v:=undef) rfl (by kernel_rfl) (by kernel_rfl) (by kernel_rfl) (fun _ _ _ h=>h) (Or.inr ⟨by rfl,rfl⟩) (by assumption) ?_
          try simp only [Act.put,List.setIfInBounds_toArray,List.set_cons_zero,List.set_cons_succ]
          refine wpAnyH_take (i:=3) (oi:=⟨some 152,.move (.tmp 11),3,"law.go:226",#[⟨1,.guard⟩],some (1,false)⟩) (v:=undef) rfl (by kernel_rfl) (by kernel_rfl) (by kernel_rfl) (fun _ _ _ h=>h) (Or.inr ⟨by rfl,rfl⟩) (by assumption) ?_
          try simp only [Act.put,List.setIfInBounds_toArray,List.set_cons_zero,List.set_cons_succ]
          refine wpAnyH_take (i:=4) (oi:=⟨some 153,.indexAddr 22 (.tmp 151) (.tmp 152),0,"law.go:226",#[⟨2,.data⟩,⟨3,.data⟩,⟨1,.guard⟩],some (1,false)⟩) (v:=undef) rfl (by kernel_rfl) (by kernel_rfl) (by kernel_rfl) (fun _ _ _ h=>h) (Or.inr ⟨by rfl,rfl⟩) (by assumption) ?_
          try simp only [Act.put,List.setIfInBounds_toArray,List.set_cons_zero,List.set_cons_succ]
          refine wpAnyH_take (i:=5) (oi:=⟨some 154,.load 29 (.tmp 153),29,"law.go:226",#[⟨4,.data⟩,⟨1,.guard⟩],some (1,false)⟩) (v:=undef) rfl (by kernel_rfl) (by kernel_rfl) (by kernel_rfl) (fun _ _ _ h=>h) (Or.inr ⟨by rfl,rfl⟩) (by assumption) ?_
          try simp only [Act.put,List.setIfInBounds_toArray,List.set_cons_zero,List.set_cons_succ]
          refine wpAnyH_take (i:=6) (oi:=⟨some 155,.call { callee:=Callee.value (.func 30),args:=#[.tmp 154],argTypes:=#[29] },29,"law.go:226",#[⟨5,.data⟩,⟨1,.chain⟩,⟨1,.guard⟩],some (1,false)⟩) (v:=undef) rfl (by kernel_rfl) (by kernel_rfl) (by kernel_rfl) (fun _ _ _ h=>h) (Or.inr ⟨by rfl,rfl⟩) (by assumption) ?_
          try simp only [Act.put,List.setIfInBounds_toArray,List.set_cons_zero,List.set_cons_succ]
          refine wpAnyH_take (i:=7) (oi:=⟨some 156,.move (.tmp 7),22,"law.go:226",#[⟨1,.guard⟩],some (1,false)⟩) (v:=undef) rfl (by kernel_rfl) (by kernel_rfl) (by kernel_rfl) (fun _ _ _ h=>h) (Or.inr ⟨by rfl,rfl⟩) (by assumption) ?_
          try simp only [Act.put,List.setIfInBounds_toArray,List.set_cons_zero,List.set_cons_succ]
          refine wpAnyH_take (i:=8) (oi:=⟨some 157,.move (.tmp 9),3,"law.go:226",#[⟨1,.guard⟩],some (1,false)⟩) (v:=undef) rfl (by kernel_rfl) (by kernel_rfl) (by kernel_rfl) (fun _ _ _ h=>h) (Or.inr ⟨by rfl,rfl⟩) (by assumption) ?_
          try simp only [Act.put,List.setIfInBounds_toArray,List.set_cons_zero,List.set_cons_succ]
          refine wpAnyH_take (i:=9) (oi:=⟨some 158,.indexAddr 22 (.tmp 156) (.tmp 157),0,"law.go:226",#[⟨7,.data⟩,⟨8,.data⟩,⟨1,.guard⟩],some (1,false)⟩) (v:=undef) rfl (by kernel_rfl) (by kernel_rfl) (by kernel_rfl) (fun _ _ _ h=>h) (Or.inr ⟨by rfl,rfl⟩) (by assumption) ?_
          try simp only [Act.put,List.setIfInBounds_toArray,List.set_cons_zero,List.set_cons_succ]
          refine wpAnyH_take (i:=10) (oi:=⟨some 159,.load 29 (.tmp 158),29,"law.go:226",#[⟨9,.data⟩,⟨1,.guard⟩],some (1,false)⟩) (v:=undef) rfl (by kernel_rfl) (by kernel_rfl) (by kernel_rfl) (fun _ _ _ h=>h) (Or.inr ⟨by rfl,rfl⟩) (by assumption) ?_
          try simp only [Act.put,List.setIfInBounds_toArray,List.set_cons_zero,List.set_cons_succ]
          refine wpAnyH_take (i:=11) (oi:=⟨some 160,.call { callee:=Callee.value (.func 29),args:=#[.tmp 155,.tmp 159],argTypes:=#[29,29] },4,"law.go:226",#[⟨6,.data⟩,⟨10,.data⟩,⟨6,.chain⟩,⟨1,.guard⟩],some (1,false)⟩) (v:=undef) rfl (by kernel_rfl) (by kernel_rfl) (by kernel_rfl) (fun _ _ _ h=>h) (Or.inr ⟨by rfl,rfl⟩) (by assumption) ?_
          try simp only [Act.put,List.setIfInBounds_toArray,List.set_cons_zero,List.set_cons_succ]
          refine wpAnyH_take (i:=12) (oi:=⟨some 161,.pick (.tmp 150) (.const (Value.bool true)) (.tmp 160),4,"law.go:226",#[⟨1,.data⟩,⟨11,.data⟩],none⟩) (v:=?_) rfl (by kernel_rfl) (by kernel_rfl) (by kernel_rfl) (fun _ _ _ h=>h) (Or.inl ⟨by rfl,?_⟩) (by assumption) ?_
          rotate_left
          ·intro w' hSw
           (try dsimp only at hSw)
           first | (go_simp;done) | (go_simp;with_reducible rfl)
          try simp only [Act.put,List.setIfInBounds_toArray,List.set_cons_zero,List.set_cons_succ]
          refine wpAnyH_take (i:=13) (oi:=⟨some 10,.assign (.tmp 161),4,"law.go:226",#[⟨12,.data⟩,⟨11,.chain⟩,⟨0,.phase⟩,⟨1,.phase⟩,⟨2,.phase⟩,⟨3,.phase⟩,⟨4,.phase⟩,⟨5,.phase⟩,⟨6,.phase⟩,⟨7,.phase⟩,⟨8,.phase⟩,⟨9,.phase⟩,⟨10,.phase⟩,⟨11,.phase⟩,⟨12,.phase⟩],none⟩) (v:=?_) rfl (by kernel_rfl) (by kernel_rfl) (by kernel_rfl) (fun _ _ _ h=>h) (Or.inl ⟨by rfl,?_⟩) (by assumption) ?_
          rotate_left
          ·intro w' hSw
           (try dsimp only at hSw)
           first | (go_simp;done) | (go_simp;with_reducible rfl)
          try simp only [Act.put,List.setIfInBounds_toArray,List.set_cons_zero,List.set_cons_succ]
          refine wpAnyH_done (by kernel_rfl) ?_ _
          obtain ⟨_,_,_,_,hb9⟩:=hHeld
          have HB9:=hid (HBX.out _ hb9).1
          clear hb9
          go_wp2_with fail
          go_roundw
          case rel=>exact ⟨k+1,true,rfl,by go_num,hkl,hid (by rw [HFN.out];rfl),HB9⟩
          case measure=>simp [intOf];omega
        ·obtain rfl:k=ms.length:=by omega
         have hbt:b=true:=by
          rw [HFD.out,List.take_length,List.any_eq_true]
          obtain ⟨m,hm,hh⟩:=HMA.out.2.2
          exact ⟨m,hm,decide_eq_true hh⟩
         subst hbt
         go_wp2_with fail
         go_roundw
         case rel=>exact ⟨i+1,by go_num,hlt,HB⟩
         case measure=>simp [intOf];omega

     ·obtain rfl:i=ns.length:=by omega
      go_wp2
      go_ret
      exact ⟨rfl,HB5.out.trans (HB.out.mono HB5.out.size)⟩

end Go.Proofs.YtnmmhcchpcbeeaaGreat.GeW

namespace Go.Proofs.YtnmmhcchpcbeeaaGreat.GeW
open Lib (hid)
open Go Go.RowKit
theorem handed6 {H:Type} {enc:TypeId×Value→H} {a:Assume} {C:Checked} {os:Os} {f:FuncId} {fn:Func} {s:ChangeSpec} {conds:List PathCond} {apart fresh handsOn again:Bool}
  (own:ownKnob C.prog.godebug=none) (started:os.Started) (noInit:C.prog.inits.idxOf? f=none) (hfn:C.prog.funcs[f]? = some fn)
  (witness:∃ (w:World) (tape:Tape) (i:Input),w.os=os∧(w.forCall tape i).Shaped C.prog∧i.vars=[]∧Input.okWide C.prog (w.forCall tape i) .any w.heap.size f i ∧
   s.pre6 enc C.prog fn conds apart (w.forCall tape i).memory i.args∧a.holds C.prog (lone (Frame.enter C.prog f i.args .normal) [] (w.forCall tape i)))
  (contract:∀ (W:World) (base:Nat) (args:Array Value) (ds gs:List (DataW H)) (before:List MemPlace),
   (∀ (j:Nat) t v,fn.params[j]? = some t→args[j]? = some v→Value.okWide C.prog W .any base t v) →
   DataW.Whole enc C.prog fn.params.toList s.vars apart W args.toList ds gs before →
   (DataW.weightsEach C.prog (fn.params.toList++s.plain.varTypes C.prog) (ds++gs)).all (·≤reachBytes)=true →
   Calls C.prog f args W fun e W'=>∃ v,e=.returned v∧s.post enc C.prog fn apart fresh handsOn again W args v W') :
  ReturnsInHanded a C os f .any (s.pre6 enc C.prog fn conds apart) (s.post enc C.prog fn apart fresh handsOn again):=by
 refine returnsInHanded_of_calls own started noInit witness ?_
 intro w tape i _ hsh _ hok hpre _
 obtain ⟨_,_,_,fn',hfn',_,_,_,_,hval⟩:=hok
 obtain rfl:fn'=fn:=Option.some.inj (hfn'.symm.trans hfn)
 obtain ⟨⟨ds,gs,before,hw,_⟩,hz⟩:=hpre
 refine (contract (w.forCall tape i) w.heap.size i.args ds gs before hval (DataW.Whole.of_heap (w':=w.forCall tape i) (by rfl) hw) (hz.weights hw)).mono fun e W' ⟨v,he,hp⟩=>?_
 subst he
 exact ChangeSpec.post_blind hp
end Go.Proofs.YtnmmhcchpcbeeaaGreat.GeW

namespace Go.Proofs.YtnmmhcchpcbeeaaGreat.DrawingDrawnDone
open Lib (hid)
open Go.ChangeShapes Go.WideShapes Go.ChangeAt Go.RowKit
open Go.ChangeMaps (open_string shut_string)

theorem own:ownKnob Tryz.prog.godebug=none:=by kernel_rfl
theorem laidOut:laidOutB Tryz.prog=true:=by kernel_rfl

set_option maxRecDepth 100000 in
theorem lifted (os:Os) (started:os.Started) (H:Type) (enc:TypeId×Value→H) :
  ReturnsInHanded {} Tryz.checked os 7 .any (Rows.drawingDrawnSpec.pre6 enc Tryz.prog Tryz.f7 Rows.drawingDrawnRow.domain false) (Rows.drawingDrawnSpec.post enc Tryz.prog Tryz.f7 false true false false):=by
 refine GeW.handed6 (C:=Tryz.checked) own started (by kernel_rfl) Tryz.func7
  (ChangeSpec.witness6 (enc:=enc) (C:=Tryz.checked) false ⟨#[],#[.slice none 0 0],[]⟩ 8 (by kernel_rfl) (by kernel_rfl) (by kernel_rfl) (by kernel_rfl)) ?_
 intro W base args ds gs before hval0 hW hz0
 have hz:(DataW.weightsEach Tryz.prog (Tryz.f7.params.toList++Rows.drawingDrawnSpec.plain.varTypes Tryz.prog) (ds++gs)).all (·≤reachBytes)=true:=hz0
 have hval:∀ (j:Nat) t v,Tryz.f7.params[j]? = some t→args[j]? = some v→Value.okWide Tryz.prog W .any base t v:=hval0
 have hW':=hW
 obtain ⟨p,q,hA0,hV,rfl,hfz,hnd⟩:=hW
 have hA:DataW.TrodAll enc Tryz.prog W 0 (fun _=>true) true Tryz.f7.params.toList args.toList ds p:=hA0
 rw [Tryz.params7] at hA hval hz
 obtain ⟨v0,vs0,d0,ds0,p0,q0,hargs,rfl,rfl,h0,r0⟩:=trodAll_cons hA
 obtain ⟨rfl,rfl,rfl⟩:=trodAll_nil r0
 obtain rfl:args=#[v0]:=by cases args;simp_all
 obtain ⟨rfl,rfl⟩:=trodVars_none hV
 have k0:=h0
 have lt0:∀ x∈p0,x.block < W.heap.size:=by obtain ⟨m,hm⟩:=k0;exact DataW.trod_lt m _ _ _ hm
 obtain ⟨A0,len0,cap0,rfl⟩:=okWide_slice Tryz.underlying22 (hval 0 22 v0 rfl rfl)
 obtain ⟨x0,s0⟩:=GeW.open_shapes h0 (fun k hk=>by simpa using List.all_eq_true.1 hz k (DataW.weights_mem_each (j:=0) rfl rfl k hk))
 clear hA0 hval0 hz0
 simp only [List.append_nil] at hW'
 refine (GeW.drawnLaw_walk A0 len0 cap0 x0 W s0).mono fun e W' ⟨he,bel⟩=>?_
 subst he
 exact ⟨_,rfl,_,_,_,[],_,[],hW',trodAll_mk1 (shut_bool Tryz.underlying4 _),(trodAll_cons_mk (Below.trod laidOut (by kernel_rfl) (of_decide_eq_true (by kernel_rfl)) k0 bel lt0) trodAll_mk0),rfl,bel.frame _,fun h=>by cases h⟩

theorem said:Rows.DrawingDrawnSaid :=
 OpenClaim.holds_of_wide 7 Tryz.f7 rfl rfl rfl rfl rfl rfl rfl ⟨rfl,rfl,rfl,rfl,rfl⟩ rfl rfl rfl rfl rfl (by kernel_rfl) Tryz.func7 (by kernel_rfl)
  (of_decide_eq_true (by kernel_rfl)) (by unfold Func.isWrapper;first | (rw [if_pos (by decide +kernel)];kernel_rfl) | (rw [if_neg (by decide +kernel)];exact ⟨rfl,rfl⟩))
  (fun os started H enc _=>lifted os started H enc)
#print axioms said
end Go.Proofs.YtnmmhcchpcbeeaaGreat.DrawingDrawnDone
