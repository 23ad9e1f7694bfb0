/- Walks: of the reference: the canonical shape; whether shapes are the same. Conditions: the shapes lie in memory. -/
import Derived.Test.YtnmmhcchpcbeeaaGreatDpM
import Derived.Test.YtnmmhcchpcbeeaaGreatSh7
import Derived.Test.YtnmmhcchpcbeeaaGreatRf6
import Derived.Test.YtnmmhcchpcbeeaaGreatGeR

namespace Go.Proofs.YtnmmhcchpcbeeaaGreat.GeW
open Lib (hid)
open Go Go.RowKit Go.Proofs.YtnmmhcchpcbeeaaGreat.Mem Go.Proofs.YtnmmhcchpcbeeaaGreat.Ge
attribute [local go_sem ↓] Go.wp_at_zero Go.wp_at_succ
attribute [local go_sem ↓] Go.wp_at_zero Go.wp_at_succ

set_option maxRecDepth 100000 in
set_option maxHeartbeats 1000000 in
theorem rcanonS_any (m:ShapeM) (w:World) (h:ShapeIn w m) (hv:shapeB m.o.l (holesL m)=true) :
  Calls Tryz.prog 30 #[.agg (shapeVals m)] w fun e w'=>(∃ m':ShapeM,e=.returned (.agg (shapeVals m'))∧ShapeAt w' m'∧m'.o.l=beginL m.o.l∧holesL m'=sortH ((holesL m).map beginL))∧Below w.heap.size w w':=by
 have HVA:=hid (fun W (hW:ShapeIn W m)=>rshapeOk_any m W hW)
 rw [shape_same,hv] at HVA
 have HSO:=hid (fun W (hW:ShapeIn W m)=>rsortedS_any m W hW hv)
 clear hv
 obtain ⟨bl,hbl⟩:∃ x,x=beginL m.o.l:=⟨_,rfl⟩
 obtain ⟨sl,hsl⟩:∃ x,x=sortH ((holesL m).map beginL):=⟨_,rfl⟩
 rw [← hbl,← hsl] at HSO ⊢
 clear hbl hsl
 have HIN:=hid h
 clear h
 obtain ⟨⟨ol,oA,ok⟩,hs,mB,mk⟩:=m
 unfold shapeVals holesVal rowVal at HVA HSO ⊢
 dsimp only at HVA HSO ⊢
 have hb1:=GeW.bel1 w (.cells #[.slice oA ol.length ok,.slice mB hs.length mk] 29)
 have hb2:=GeW.bel1 (w.alloc (.cells #[.slice oA ol.length ok,.slice mB hs.length mk] 29)) (.cells #[.slice none 0 0,.slice none 0 0] 29)
 have hz:(w.alloc (.cells #[.slice oA ol.length ok,.slice mB hs.length mk] 29)).heap.size=w.heap.size+1:=by simp
 have HN1:=hid (p_below (heap_new w (.cells #[.slice oA ol.length ok,.slice mB hs.length mk] 29)) hb2)
 have HN2:Hid (((w.alloc (.cells #[.slice oA ol.length ok,.slice mB hs.length mk] 29)).alloc (.cells #[.slice none 0 0,.slice none 0 0] 29)).heap[w.heap.size+1]? = some (.cells #[.slice none 0 0,.slice none 0 0] 29)):=hid (by have:=heap_new (w.alloc (.cells #[.slice oA ol.length ok,.slice mB hs.length mk] 29)) (.cells #[.slice none 0 0,.slice none 0 0] 29);rw [hz] at this;exact this)
 have HBB:=hid (hb1.trans (hb2.mono (by omega)))
 clear hb1 hb2 hz
 go_enter Tryz.func30,Tryz.ntmps30
 go_upto_region 1 with fail
 generalize (w.alloc (.cells #[.slice oA ol.length ok,.slice mB hs.length mk] 29)).alloc (.cells #[.slice none 0 0,.slice none 0 0] 29)=W at *
 have x0:=cell_of HN1.out 0 _ rfl
 have x1:=cell_of HN1.out 1 _ rfl
 go_wp2_with fail
 refine (HVA.out _ (HIN.out.below HBB.out)).mono ?_
 rintro e w2 ⟨rfl,hb2⟩
 have HB2:=hid (HBB.out.trans (hb2.mono HBB.out.size))
 have HC1:=hid (p_below HN1.out hb2)
 have HC2:=hid (p_below HN2.out hb2)
 clear hb2 x0 x1 HVA
 have x0:=cell_of HC1.out 0 _ rfl
 have x1:=cell_of HC1.out 1 _ rfl
 go_wp2_with fail
 refine (HSO.out _ (HIN.out.below HB2.out)).mono ?_
 rintro e w3 ⟨⟨m',rfl,hin,ho,hh⟩,hb3⟩
 have HB3:=hid (HB2.out.trans (hb3.mono HB2.out.size))
 have HD2:=hid (p_below HC2.out hb3)
 have HIN3:=hid hin
 clear hb3 x0 x1 hin
 have z0:=cell_of HD2.out 0 _ rfl
 have z1:=cell_of HD2.out 1 _ rfl
 have q0:=free_of HD2.out 0
 have q1:=free_of HD2.out 1
 have HWF:=hid (block_set (block_set HD2.out 0 (.slice m'.o.A m'.o.l.length m'.o.k)) 1 (.slice m'.B m'.hs.length m'.k))
 have HGF:=hid (grown_set (grown_set (grown_refl w3 (some (w.heap.size+1))) 0 (.slice m'.o.A m'.o.l.length m'.o.k)) 1 (.slice m'.B m'.hs.length m'.k))
 have hbf:Below w.heap.size w ((w3.setCell ⟨w.heap.size+1,0,none⟩ (.slice m'.o.A m'.o.l.length m'.o.k)).setCell ⟨w.heap.size+1,1,none⟩ (.slice m'.B m'.hs.length m'.k)):=below_grown2 HB3.out HGF.out (fun q hq=>by cases hq;omega) HB3.out.size
 have HBF:=hid hbf
 have HIF:=hid (HIN3.out.keep HGF.out (RowW.at HD2.out (Nat.zero_le (w.heap.size+1))) (by decide) (by decide))
 have HOO:=hid ho
 have HHH:=hid hh
 clear hbf ho hh HGF
 go_wp2_with fail
 clear z0 z1 q0 q1
 generalize (w3.setCell ⟨w.heap.size+1,0,none⟩ (.slice m'.o.A m'.o.l.length m'.o.k)).setCell ⟨w.heap.size+1,1,none⟩ (.slice m'.B m'.hs.length m'.k)=WF at *
 have z0:=cell_of HWF.out 0 _ rfl
 have z1:=cell_of HWF.out 1 _ rfl
 refine bodyPost_ret (v:=.agg #[.slice m'.o.A m'.o.l.length m'.o.k,.slice m'.B m'.hs.length m'.k]) (by simp [results,Tryz.results30,go_sem,z0,z1]) rfl ?_
 exact ⟨⟨m',rfl,HIF.out,HOO.out,HHH.out⟩,HBF.out⟩
theorem map_rings (m:ShapeM):(ringsM m).map RowV.l=m.o.l::holesL m:=rfl
set_option maxRecDepth 100000 in
theorem rsame8_any (l m:List V) (A B:Option Addr) (c d:Nat) (w:World) (hr:Row w A (l.flatMap ptCells)) (hs:Row w B (m.flatMap ptCells)) (hl:l.length≤17592186043904) (hm:m.length≤17592186043904) :
  Calls Tryz.prog 80 #[.slice A l.length c,.slice B m.length d] w fun e w'=>e=.returned (.bool (decide (l=m)))∧Below w.heap.size w w':=by
 have HE:=hid (same6_any l m A B c d w hr hs hl hm)
 generalize decide (l=m)=b at *
 clear hr hs
 go_enter Tryz.func80,Tryz.ntmps80
 go_wp2_with (go_at_call 31;refine HE.out.mono ?_;rintro e w1 ⟨rfl,hb⟩)
 go_ret
 exact ⟨rfl,hb⟩
theorem len_rings (m:ShapeM):(ringsM m).length=m.hs.length+1:=rfl
theorem take_grow2 {α:Type} {l m:List α} {k:Nat} (h:l.take k=m.take k) (h1:k < l.length) (h2:k < m.length) (he:l[k]=m[k]):l.take (k+1)=m.take (k+1):=by
 rw [List.take_succ_eq_append_getElem h1,List.take_succ_eq_append_getElem h2,h,he]
set_option maxRecDepth 100000 in
set_option maxHeartbeats 2000000 in
theorem rsameS_any (m n:ShapeM) (w:World) (h:ShapeIn w m) (k:ShapeIn w n) :
  Calls Tryz.prog 29 #[.agg (shapeVals m),.agg (shapeVals n)] w fun e w'=>e=.returned (.bool (decide (m.o.l=n.o.l)&&decide (holesL m=holesL n)))∧Below w.heap.size w w':=by
 have HBO:Hid ((decide (m.o.l=n.o.l)&&decide (holesL m=holesL n))=decide ((ringsM m).map RowV.l=(ringsM n).map RowV.l)):=hid (by rw [map_rings,map_rings,Bool.eq_iff_iff];simp)
 rw [HBO.out]
 clear HBO
 have HB0:=hid (((Below.refl w.heap.size w).alloc (Nat.le_refl _) (.cells (shapeVals m) 29)).alloc (by simp) (.cells (shapeVals n) 29))
 have HX:Hid (((w.alloc (.cells (shapeVals m) 29)).alloc (.cells (shapeVals n) 29)).heap[w.heap.size]? = some (.cells (shapeVals m) 29)∧((w.alloc (.cells (shapeVals m) 29)).alloc (.cells (shapeVals n) 29)).heap[w.heap.size+1]? = some (.cells (shapeVals n) 29)):=hid (two_vecs w _ _)
 have HR1:=hid (fun W (hb:Below w.heap.size w W)=>GeW.rRings_any m W (h.below hb))
 have HR2:=hid (fun W (hb:Below w.heap.size w W)=>GeW.rRings_any n W (k.below hb))
 have HM1:Hid (∀ W,Below w.heap.size w W→∀ r∈ringsM m,Row W r.A (r.l.flatMap ptCells)∧r.l.length≤1000):=hid (fun W hb r hr=>⟨(h.row hr).below hb,(h.short r hr).1⟩)
 have HM2:Hid (∀ W,Below w.heap.size w W→∀ r∈ringsM n,Row W r.A (r.l.flatMap ptCells)∧r.l.length≤1000):=hid (fun W hb r hr=>⟨(k.row hr).below hb,(k.short r hr).1⟩)
 have hl1:(ringsM m).length≤1001:=by have:=h.few;rw [len_rings];omega
 have hl2:(ringsM n).length≤1001:=by have:=k.few;rw [len_rings];omega
 have E1:shapeVals m=#[.slice m.o.A m.o.l.length m.o.k,.slice m.B m.hs.length m.k]:=rfl
 have E2:shapeVals n=#[.slice n.o.A n.o.l.length n.o.k,.slice n.B n.hs.length n.k]:=rfl
 rw [E1] at HB0 HX HR1 ⊢
 rw [E2] at HB0 HX HR2 ⊢
 clear E1 E2 h k
 generalize ringsM m=rs1 at *
 generalize ringsM n=rs2 at *
 generalize Value.slice m.o.A m.o.l.length m.o.k=va at *
 generalize Value.slice m.B m.hs.length m.k=vb at *
 generalize Value.slice n.o.A n.o.l.length n.o.k=vc at *
 generalize Value.slice n.B n.hs.length n.k=vd at *
 go_enter Tryz.func29,Tryz.ntmps29
 go_upto_region 1 with fail
 generalize hWW:(w.alloc (.cells #[va,vb] 29)).alloc (.cells #[vc,vd] 29)=W at *
 clear hWW
 have CS:Hid (∀ w',Below W.heap.size W w'→(w'.cell? ⟨w.heap.size,0,none⟩=some va∧w'.cell? ⟨w.heap.size,1,none⟩=some vb∧w'.cell? ⟨w.heap.size+1,0,none⟩=some vc∧w'.cell? ⟨w.heap.size+1,1,none⟩=some vd)∧Below W.heap.size W w'):=hid (fun w' hb=>by
  have e1:=(hb.block _ (blk_lt HX.out.1)).trans HX.out.1
  have e2:=(hb.block _ (blk_lt HX.out.2)).trans HX.out.2
  exact ⟨⟨cell_of e1 0 _ rfl,cell_of e1 1 _ rfl,cell_of e2 0 _ rfl,cell_of e2 1 _ rfl⟩,hb⟩)
 have HR1b:=hid (fun W1 (hb:Below W.heap.size W W1)=>HR1.out W1 (HB0.out.trans (hb.mono HB0.out.size)))
 have HR2b:=hid (fun W1 (hb:Below W.heap.size W W1)=>HR2.out W1 (HB0.out.trans (hb.mono HB0.out.size)))
 clear HR1 HR2
 refine wp_region_held_drew (S:=fun w'=>(w'.cell? ⟨w.heap.size,0,none⟩=some va∧w'.cell? ⟨w.heap.size,1,none⟩=some vb∧w'.cell? ⟨w.heap.size+1,0,none⟩=some vc∧w'.cell? ⟨w.heap.size+1,1,none⟩=some vd)∧Below W.heap.size W w') (by kernel_rfl) ?_ (fun hHeld=>?_)
 ·exact CS.out _ (below_drewN (Below.refl _ _) 1)
 refine wpAnyH_take (i:=0) (oi:=_) (v:=?_) rfl (by kernel_rfl) (by kernel_rfl) (by kernel_rfl) (fun _ _ _ h=>h) (Or.inl ⟨by rfl,?_⟩) (by assumption) ?_
 rotate_left
 ·intro w' hSw
  (try dsimp only at hSw)
  go_simp<;>with_reducible rfl
 try simp only [Act.put,sA]
 refine wpAnyH_take (i:=2) (oi:=_) (v:=?_) rfl (by kernel_rfl) (by kernel_rfl) (by kernel_rfl) (fun _ _ _ h=>h) (Or.inl ⟨by rfl,?_⟩) (by assumption) ?_
 rotate_left
 ·intro w' hSw
  (try dsimp only at hSw)
  go_simp<;>with_reducible rfl
 try simp only [Act.put]
 refine wpAnyH_ready (rs:=[1]) (by kernel_rfl) (by simp) ?_
 refine AllReadyH.cons (o := { dst:=some 9,op:=Op.call { callee:=Callee.value (Operand.func 79),args:=#[Operand.tmp 8],argTypes:=#[29] },type:=27,pos := "ref.go:184",after:=#[{ on:=0,ground:=Ground.data }],guard:=none }) rfl (fun K hK=>?_) AllReadyH.nil
 have hbx:=hHeld.2
 clear hHeld
 go_simp
 go_at_call 79
 refine (HR1b.out _ hbx).mono ?_
 rintro e w1 ⟨⟨v,rfl,hown⟩,hbd⟩
 obtain ⟨A1,c1,rfl,_⟩:=own_shape hown
 have hb1:Below W.heap.size W w1:=hbx.trans (hbd.mono (Below.size hbx))
 have HRO1:=hid (Row.of_own hown)

 clear hown hbd hbx
 refine hK.out _ _ ?_ (fun hHeld=>?_)
 ·exact CS.out _ hb1
 clear hK K
 try simp only [Act.put,sA,sB,sC]
 refine wpAnyH_ready (rs:=[3]) (by kernel_rfl) (by simp) ?_
 refine AllReadyH.cons (o := { dst:=some 11,op:=Op.call { callee:=Callee.value (Operand.func 79),args:=#[Operand.tmp 10],argTypes:=#[29] },type:=27,pos := "ref.go:184",after:=#[{ on:=2,ground:=Ground.data },{ on:=1,ground:=Ground.chain }],guard:=none }) rfl (fun K hK=>?_) AllReadyH.nil
 have hbx:=hHeld.2
 clear hHeld
 go_simp
 go_at_call 79
 refine (HR2b.out _ hbx).mono ?_
 rintro e w2 ⟨⟨v,rfl,hown⟩,hbd⟩
 obtain ⟨A2,c2,rfl,_⟩:=own_shape hown
 have hb2:Below W.heap.size W w2:=hbx.trans (hbd.mono (Below.size hbx))
 have HRO2:=hid (Row.of_own hown)
 have HRO1b:=hid (HRO1.out.below hbd)
 clear hown hbd hbx
 refine hK.out _ _ ?_ (fun hHeld=>?_)
 ·exact CS.out _ hb2
 clear hK K
 try simp only [Act.put,sA,sB,sC]
 refine wpAnyH_take (i:=4) (oi:=_) (v:=?_) rfl (by kernel_rfl) (by kernel_rfl) (by kernel_rfl) (fun _ _ _ h=>h) (Or.inl ⟨by rfl,?_⟩) (by assumption) ?_
 rotate_left
 ·intro w' hSw
  (try dsimp only at hSw)
  go_simp<;>with_reducible rfl
 try simp only [Act.put,sA]
 refine wpAnyH_take (i:=5) (oi:=_) (v:=?_) rfl (by kernel_rfl) (by kernel_rfl) (by kernel_rfl) (fun _ _ _ h=>h) (Or.inl ⟨by rfl,?_⟩) (by assumption) ?_
 rotate_left
 ·intro w' hSw
  (try dsimp only at hSw)
  go_simp<;>with_reducible rfl
 try simp only [Act.put]
 refine wpAnyH_done (by kernel_rfl) ?_ _
 clear hHeld
 have HB2:=hid (HB0.out.trans (hb2.mono HB0.out.size))
 have HRA:=HRO1b
 have HRB:=HRO2
 clear hb1 hb2 HRO1 HRO1b HRO2 HR1b HR2b CS HX
 by_cases hlen:rs1.length=rs2.length
 ·have HT0:=hid (show (rs1.map RowV.l).take 0=(rs2.map RowV.l).take 0 by simp)
  have HLM:=hid hlen
  rw [← hlen]
  clear hlen
  go_wp2_with fail
  go_loopw [7] (fun i wr=>∃ k:Nat,k≤rs1.length∧i=.int .i64 k∧Hid ((rs1.map RowV.l).take k=(rs2.map RowV.l).take k)∧Hid (Below w2.heap.size w2 wr)) (fun i _=>rs1.length - (intOf i).toNat)
  case atStart=>exact ⟨0,Nat.zero_le _,rfl,HT0,hid (Below.refl _ _)⟩
  case round =>
   obtain ⟨k,hk,rfl,HT,HB⟩:=hrel
   by_cases hlt:k < rs1.length
   ·have hlt2:k < rs2.length:=by have:=HLM.out;omega
    obtain ⟨g,off,rfl,hg,ca⟩:=row_one HRA.out (k:=k) (by rw [List.length_map];exact hlt)
    obtain ⟨g2,off2,rfl,hg2,cb⟩:=row_one HRB.out (k:=k) (by rw [List.length_map];exact hlt2)
    have a0:=(HB.out.cell (p:=⟨g,off+k,none⟩) hg).trans (ca k (by rw [List.length_map];exact hlt))
    have b0:=(HB.out.cell (p:=⟨g2,off2+k,none⟩) hg2).trans (cb k (by rw [List.length_map];exact hlt2))
    have hk1:(0:Int)≤(k:Int):=by omega
    have hk2:(k:Int) < (rs1.length:Int):=by omega
    have d1:decide ((k:Int) < (rs1.length:Int))=true:=decide_eq_true hk2
    have HBW:=hid (HB2.out.trans (HB.out.mono HB2.out.size))
    have m1:=HM1.out wr HBW.out _ (List.getElem_mem hlt)
    have m2:=HM2.out wr HBW.out _ (List.getElem_mem hlt2)
    have HMO:=hid (fun h=>take_grow2 HT.out (by rw [List.length_map];exact hlt) (by rw [List.length_map];exact hlt2) h)
    have HNO:Hid ((rs1[k]).l≠(rs2[k]).l→rs1.map RowV.l≠rs2.map RowV.l):=hid (fun h e=>h (by
     have e1:(rs1.map RowV.l)[k]? = (rs2.map RowV.l)[k]?:=by rw [e]
     rw [List.getElem?_map,List.getElem?_map,List.getElem?_eq_getElem hlt,List.getElem?_eq_getElem hlt2] at e1
     exact Option.some.inj e1))
    simp only [List.getElem_map] at a0 b0 HMO
    have HMO2:Hid ((rs1[k]).l=(rs2[k]).l→(rs1.map RowV.l).take (k+1)=(rs2.map RowV.l).take (k+1)):=hid (fun h=>HMO.out h)
    have HE:=hid (fun W1 (hb:Below wr.heap.size wr W1)=>rsame8_any (rs1[k]).l (rs2[k]).l (rs1[k]).A (rs2[k]).A (rs1[k]).k (rs2[k]).k W1 (m1.1.below hb) (m2.1.below hb) (by omega) (by omega))
    clear ca cb HMO m1 m2
    generalize rs1[k]=p at *
    generalize rs2[k]=q at *
    clear hlt2
    obtain ⟨pl,pA,pk⟩:=p
    obtain ⟨ql,qA,qk⟩:=q
    simp only [rowVal] at a0 b0 HE HMO2 HNO
    generalize pl.length=n1 at *
    generalize ql.length=n2 at *
    have E1:∀ p:Later wr,p.w.cell? ⟨g,off+k,none⟩=some (.slice pA n1 pk):=later_cell (Nat.lt_of_lt_of_le hg HB.out.size) a0
    have E2:∀ p:Later wr,p.w.cell? ⟨g2,off2+k,none⟩=some (.slice qA n2 qk):=later_cell (Nat.lt_of_lt_of_le hg2 HB.out.size) b0
    clear a0 b0
    by_cases he:pl=ql
    ·rw [decide_eq_true he] at HE
     have HT2:=hid (HMO2.out he)
     clear he HMO2 HNO
     go_wp2_with fail
     refine wp_region_later wr (by kernel_rfl) (by kernel_rfl) (Below.refl _ _) ?_
     repeat (go_big_quiet_step ((go_at_call 80;exact Calls.later (HE.out _ (by first | exact Later.h _ | assumption)))))
     refine wpQuiet_nil ?_
     rintro w8 hex
     have hb8:=later_of hex
     clear hex
     have HB8:=hid (HB.out.trans (hb8.mono HB.out.size))
     clear E1 E2 hb8
     go_wp2_with fail
     go_roundw
     case rel=>exact ⟨k+1,hlt,by go_num,HT2,HB8⟩
     case measure=>simp [intOf];omega
    ·rw [decide_eq_false he] at HE
     have HF:Hid (decide (rs1.map RowV.l=rs2.map RowV.l)=false):=hid (decide_eq_false (HNO.out he))
     clear he HMO2 HNO
     go_wp2_with fail
     refine wp_region_later wr (by kernel_rfl) (by kernel_rfl) (Below.refl _ _) ?_
     repeat (go_big_quiet_step ((go_at_call 80;exact Calls.later (HE.out _ (by first | exact Later.h _ | assumption)))))
     refine wpQuiet_nil ?_
     rintro w8 hex
     have hb8:=later_of hex
     clear hex
     have HB8:=hid (HB2.out.trans ((HB.out.trans (hb8.mono HB.out.size)).mono HB2.out.size))
     clear E1 E2 hb8
     go_wp2_with fail
     go_ret
     rw [HF.out]
     exact ⟨rfl,HB8.out⟩
   ·obtain rfl:k=rs1.length:=by omega
    have HF:Hid (decide (rs1.map RowV.l=rs2.map RowV.l)=true):=hid (decide_eq_true (by
     have h:=HT.out
     rw [List.take_of_length_le (by simp),HLM.out,List.take_of_length_le (by simp)] at h
     exact h))
    have HB8:=hid (HB2.out.trans (HB.out.mono HB2.out.size))
    go_wp2_with fail
    go_ret
    rw [HF.out]
    exact ⟨rfl,HB8.out⟩
 ·have d1:((rs1.length:Int) != (rs2.length:Int))=true:=bne_iff_ne.2 (by omega)
  have HF:Hid (decide (rs1.map RowV.l=rs2.map RowV.l)=false):=hid (decide_eq_false (fun h=>hlen (by simpa using congrArg List.length h)))
  clear hlen
  go_wp2_with fail
  go_ret
  rw [HF.out]
  exact ⟨rfl,HB2.out⟩
end Go.Proofs.YtnmmhcchpcbeeaaGreat.GeW
