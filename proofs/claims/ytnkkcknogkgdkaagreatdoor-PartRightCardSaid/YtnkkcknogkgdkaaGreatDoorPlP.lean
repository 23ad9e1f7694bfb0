/- Walk: of the reference: whether any part is right. Conditions: the part lies in memory. -/
import Derived.Test.YtnkkcknogkgdkaaGreatDoorPlM
import Derived.Test.YtnkkcknogkgdkaaGreatDoorSh6
import Derived.Test.YtnkkcknogkgdkaaGreatDoorRf8
import Derived.Test.YtnkkcknogkgdkaaGreatDoorGeR
import Derived.Test.YtnkkcknogkgdkaaGreatDoorPlK
import Derived.Test.YtnkkcknogkgdkaaGreatDoorPcE
import Derived.Test.YtnkkcknogkgdkaaGreatDoorPvC

namespace Go.Proofs.YtnkkcknogkgdkaaGreatDoor.GeW
open Lib (hid)
open Go Go.RowKit Go.Proofs.YtnkkcknogkgdkaaGreatDoor.Mem Go.Proofs.YtnkkcknogkgdkaaGreatDoor.Ge
attribute [local go_sem ↓] Go.wp_at_zero Go.wp_at_succ
theorem info_ring:(Tryz.prog.info? 45).map (fun i=>(i.zero,i.size,i.bytes))=some (some (.slice none 0 0),1,24):=by kernel_rfl
theorem own_new (w:World) (T:TypeId) (size base n:Nat) (xs:List Value) (hb:base≤w.heap.size) (hx:xs.length=n*size) (hn:n≤maxLen):(w.alloc (.cells xs.toArray T)).ownsRow base T size (.slice (some ⟨w.heap.size,0,none⟩) n n) n xs :=
 ⟨hx,.inr ⟨w.heap.size,n,xs.toArray,rfl,hb,heap_alloc_new w _,Nat.le_refl _,hn,by simpa using hx,by rw [← hx];simp⟩⟩
theorem ring_one (hs:List RowV):∀ u∈hs.map rowVal,u.oneCell'=true:=by
 intro u hu
 obtain ⟨x,_,rfl⟩:=List.mem_map.1 hu
 rfl
set_option maxRecDepth 100000 in
set_option maxHeartbeats 1000000 in
theorem rRings_any (m:ShapeM) (w:World) (h:ShapeIn w m) :
  Calls Tryz.prog 78 #[.agg (shapeVals m)] w fun e w'=>(∃ v,e=.returned v∧w'.ownsRow w.heap.size 45 1 v (ringsM m).length ((ringsM m).map rowVal))∧Below w.heap.size w w':=by
 have HS:=hid h
 have hfew:=h.few
 have HRB:=hid h.rB
 obtain ⟨i0,ia,ib,ic,id⟩:=info_parts info_ring
 have HL:Hid ((ringsM m).length=1+m.hs.length∧(ringsM m).map rowVal=[.slice m.o.A m.o.l.length m.o.k]++m.hs.map rowVal):=hid (by simp [ringsM,rowVal];omega)
 have HUN:Hid (shapeVals m=#[.slice m.o.A m.o.l.length m.o.k,.slice m.B m.hs.length m.k]):=hid rfl
 rw [HUN.out,HL.out.1,HL.out.2]
 have HO:=hid (one_vec w (.cells #[.slice m.o.A m.o.l.length m.o.k,.slice m.B m.hs.length m.k] 48))
 have HO1:Hid (((w.alloc (.cells #[.slice m.o.A m.o.l.length m.o.k,.slice m.B m.hs.length m.k] 48)).alloc (.cells #[.slice m.o.A m.o.l.length m.o.k] 45)).ownsRow w.heap.size 45 1 (.slice (some ⟨(w.alloc (.cells #[.slice m.o.A m.o.l.length m.o.k,.slice m.B m.hs.length m.k] 48)).heap.size,0,none⟩) 1 1) 1 [.slice m.o.A m.o.l.length m.o.k]):=hid (own_new (w.alloc (.cells #[.slice m.o.A m.o.l.length m.o.k,.slice m.B m.hs.length m.k] 48)) 45 1 w.heap.size 1 [.slice m.o.A m.o.l.length m.o.k] HO.out.1.size rfl (by unfold maxLen;omega))
 have HBB:=hid (HO.out.1.alloc HO.out.1.size (.cells #[.slice m.o.A m.o.l.length m.o.k] 45))
 have HRR:=hid (HRB.out.below HBB.out)
 have c0:(w.alloc (.cells #[.slice m.o.A m.o.l.length m.o.k,.slice m.B m.hs.length m.k] 48)).cell? ⟨w.heap.size,0,none⟩=some (.slice m.o.A m.o.l.length m.o.k):=by rw [Lib.cell_of_heap HO.out.2];rfl
 have c1:(w.alloc (.cells #[.slice m.o.A m.o.l.length m.o.k,.slice m.B m.hs.length m.k] 48)).cell? ⟨w.heap.size,1,none⟩=some (.slice m.B m.hs.length m.k):=by rw [Lib.cell_of_heap HO.out.2];rfl
 have hz:(w.alloc (.cells #[.slice m.o.A m.o.l.length m.o.k,.slice m.B m.hs.length m.k] 48)).heap.size=w.heap.size+1:=by simp
 rw [hz] at HO1
 clear h hz HL HUN
 go_enter Tryz.func78,Tryz.ntmps78
 go_wp2_with (at_builtin;refine wpList_append_row _ rfl _ _ 46 rfl w.heap.size 45 i0 _ 1 24 Tryz.underlying46 ia ib ic id rfl (by omega) _ _ _ rfl HO1.out m.B m.hs.length m.k (m.hs.map rowVal) rfl HRR.out (by simp) (ring_one _) (by unfold maxLen;omega) (by omega) HBB.out.size ?_;intro v' w2 hown2 hg2;have HB2:=hid (below_append HBB.out HBB.out.size HO1.out hg2 (Nat.le_refl _));have HO2:=hid hown2;clear hown2 hg2)
 go_wp2
 go_ret
 exact ⟨⟨_,rfl,HO2.out⟩,HB2.out⟩
end Go.Proofs.YtnkkcknogkgdkaaGreatDoor.GeW
namespace Go.Proofs.YtnkkcknogkgdkaaGreatDoor.PaW
open Lib (hid)
open Go Go.RowKit Go.Proofs.YtnkkcknogkgdkaaGreatDoor.Mem Go.Proofs.YtnkkcknogkgdkaaGreatDoor.Pa
open Go.Proofs.YtnkkcknogkgdkaaGreatDoor.Ge (V)
open Go.Proofs.YtnkkcknogkgdkaaGreatDoor.Lex (Tok)
open Go.Proofs.YtnkkcknogkgdkaaGreatDoor.LexW (tokCells)
attribute [local go_sem ↓] Go.wp_at_zero Go.wp_at_succ

open Go.Proofs.YtnkkcknogkgdkaaGreatDoor.GeW (ptCells pt_len RowV rowVal ShapeM ShapeIn shapeVals holesL holesVal row_one ringsM rshapeOk_any same6_any two_vecs)
open Go.Proofs.YtnkkcknogkgdkaaGreatDoor.Ge (shapeB rshapeB shape_same beginL sortH)
set_option maxRecDepth 100000 in
set_option maxHeartbeats 1000000 in
theorem rcanonS_any (m:ShapeM) (w:World) (h:ShapeIn w m) (hv:shapeB m.o.l (holesL m)=true) :
  Calls Tryz.prog 54 #[.agg (shapeVals m)] w fun e w'=>(∃ m':ShapeM,e=.returned (.agg (shapeVals m'))∧ShapeAt w' m'∧m'.o.l=beginL m.o.l∧holesL m'=sortH ((holesL m).map beginL))∧Below w.heap.size w w':=by
 have HVA:=hid (fun W (hW:ShapeIn W m)=>rshapeOk_any m W hW)
 rw [shape_same,hv] at HVA
 have HSO:=hid (fun W (hW:ShapeIn W m)=>rsortedS_any m W hW hv)
 clear hv
 obtain ⟨bl,hbl⟩:∃ x,x=beginL m.o.l:=⟨_,rfl⟩
 obtain ⟨sl,hsl⟩:∃ x,x=sortH ((holesL m).map beginL):=⟨_,rfl⟩
 rw [← hbl,← hsl] at HSO ⊢
 clear hbl hsl
 have HIN:=hid h
 clear h
 obtain ⟨⟨ol,oA,ok⟩,hs,mB,mk⟩:=m
 unfold shapeVals holesVal rowVal at HVA HSO ⊢
 dsimp only at HVA HSO ⊢
 have hb1:=GeW.bel1 w (.cells #[.slice oA ol.length ok,.slice mB hs.length mk] 48)
 have hb2:=GeW.bel1 (w.alloc (.cells #[.slice oA ol.length ok,.slice mB hs.length mk] 48)) (.cells #[.slice none 0 0,.slice none 0 0] 48)
 have hz:(w.alloc (.cells #[.slice oA ol.length ok,.slice mB hs.length mk] 48)).heap.size=w.heap.size+1:=by simp
 have HN1:=hid (p_below (heap_new w (.cells #[.slice oA ol.length ok,.slice mB hs.length mk] 48)) hb2)
 have HN2:Hid (((w.alloc (.cells #[.slice oA ol.length ok,.slice mB hs.length mk] 48)).alloc (.cells #[.slice none 0 0,.slice none 0 0] 48)).heap[w.heap.size+1]? = some (.cells #[.slice none 0 0,.slice none 0 0] 48)):=hid (by have:=heap_new (w.alloc (.cells #[.slice oA ol.length ok,.slice mB hs.length mk] 48)) (.cells #[.slice none 0 0,.slice none 0 0] 48);rw [hz] at this;exact this)
 have HBB:=hid (hb1.trans (hb2.mono (by omega)))
 clear hb1 hb2 hz
 go_enter Tryz.func54,Tryz.ntmps54
 go_upto_region 1 with fail
 generalize (w.alloc (.cells #[.slice oA ol.length ok,.slice mB hs.length mk] 48)).alloc (.cells #[.slice none 0 0,.slice none 0 0] 48)=W at *
 have x0:=cell_of HN1.out 0 _ rfl
 have x1:=cell_of HN1.out 1 _ rfl
 go_wp2_with fail
 refine (HVA.out _ (HIN.out.below HBB.out)).mono ?_
 rintro e w2 ⟨rfl,hb2⟩
 have HB2:=hid (HBB.out.trans (hb2.mono HBB.out.size))
 have HC1:=hid (p_below HN1.out hb2)
 have HC2:=hid (p_below HN2.out hb2)
 clear hb2 x0 x1 HVA
 have x0:=cell_of HC1.out 0 _ rfl
 have x1:=cell_of HC1.out 1 _ rfl
 go_wp2_with fail
 refine (HSO.out _ (HIN.out.below HB2.out)).mono ?_
 rintro e w3 ⟨⟨m',rfl,hin,ho,hh⟩,hb3⟩
 have HB3:=hid (HB2.out.trans (hb3.mono HB2.out.size))
 have HD2:=hid (p_below HC2.out hb3)
 have HIN3:=hid hin
 clear hb3 x0 x1 hin
 have z0:=cell_of HD2.out 0 _ rfl
 have z1:=cell_of HD2.out 1 _ rfl
 have q0:=free_of HD2.out 0
 have q1:=free_of HD2.out 1
 have HWF:=hid (block_set (block_set HD2.out 0 (.slice m'.o.A m'.o.l.length m'.o.k)) 1 (.slice m'.B m'.hs.length m'.k))
 have HGF:=hid (grown_set (grown_set (grown_refl w3 (some (w.heap.size+1))) 0 (.slice m'.o.A m'.o.l.length m'.o.k)) 1 (.slice m'.B m'.hs.length m'.k))
 have hbf:Below w.heap.size w ((w3.setCell ⟨w.heap.size+1,0,none⟩ (.slice m'.o.A m'.o.l.length m'.o.k)).setCell ⟨w.heap.size+1,1,none⟩ (.slice m'.B m'.hs.length m'.k)):=below_grown2 HB3.out HGF.out (fun q hq=>by cases hq;omega) HB3.out.size
 have HBF:=hid hbf
 have HIF:=hid (HIN3.out.keep HGF.out (RowW.at HD2.out (Nat.zero_le (w.heap.size+1))) (by decide) (by decide))
 have HOO:=hid ho
 have HHH:=hid hh
 clear hbf ho hh HGF
 go_wp2_with fail
 clear z0 z1 q0 q1
 generalize (w3.setCell ⟨w.heap.size+1,0,none⟩ (.slice m'.o.A m'.o.l.length m'.o.k)).setCell ⟨w.heap.size+1,1,none⟩ (.slice m'.B m'.hs.length m'.k)=WF at *
 have z0:=cell_of HWF.out 0 _ rfl
 have z1:=cell_of HWF.out 1 _ rfl
 refine bodyPost_ret (v:=.agg #[.slice m'.o.A m'.o.l.length m'.o.k,.slice m'.B m'.hs.length m'.k]) (by simp [results,Tryz.results54,go_sem,z0,z1]) rfl ?_
 exact ⟨⟨m',rfl,HIF.out,HOO.out,HHH.out⟩,HBF.out⟩
theorem map_rings (m:ShapeM):(ringsM m).map RowV.l=m.o.l::holesL m:=rfl
set_option maxRecDepth 100000 in
theorem rsame8_any (l m:List V) (A B:Option Addr) (c d:Nat) (w:World) (hr:Row w A (l.flatMap ptCells)) (hs:Row w B (m.flatMap ptCells)) (hl:l.length≤17592186043904) (hm:m.length≤17592186043904) :
  Calls Tryz.prog 111 #[.slice A l.length c,.slice B m.length d] w fun e w'=>e=.returned (.bool (decide (l=m)))∧Below w.heap.size w w':=by
 have HE:=hid (same6_any l m A B c d w hr hs hl hm)
 generalize decide (l=m)=b at *
 clear hr hs
 go_enter Tryz.func111,Tryz.ntmps111
 go_wp2_with (go_at_call 180;refine HE.out.mono ?_;rintro e w1 ⟨rfl,hb⟩)
 go_ret
 exact ⟨rfl,hb⟩
theorem len_rings (m:ShapeM):(ringsM m).length=m.hs.length+1:=rfl
theorem take_grow2 {α:Type} {l m:List α} {k:Nat} (h:l.take k=m.take k) (h1:k < l.length) (h2:k < m.length) (he:l[k]=m[k]):l.take (k+1)=m.take (k+1):=by
 rw [List.take_succ_eq_append_getElem h1,List.take_succ_eq_append_getElem h2,h,he]
set_option maxRecDepth 100000 in
set_option maxHeartbeats 2000000 in
theorem rsameS_any (m n:ShapeM) (w:World) (h:ShapeIn w m) (k:ShapeIn w n) :
  Calls Tryz.prog 55 #[.agg (shapeVals m),.agg (shapeVals n)] w fun e w'=>e=.returned (.bool (decide (m.o.l=n.o.l)&&decide (holesL m=holesL n)))∧Below w.heap.size w w':=by
 have HBO:Hid ((decide (m.o.l=n.o.l)&&decide (holesL m=holesL n))=decide ((ringsM m).map RowV.l=(ringsM n).map RowV.l)):=hid (by rw [map_rings,map_rings,Bool.eq_iff_iff];simp)
 rw [HBO.out]
 clear HBO
 have HB0:=hid (((Below.refl w.heap.size w).alloc (Nat.le_refl _) (.cells (shapeVals m) 48)).alloc (by simp) (.cells (shapeVals n) 48))
 have HX:Hid (((w.alloc (.cells (shapeVals m) 48)).alloc (.cells (shapeVals n) 48)).heap[w.heap.size]? = some (.cells (shapeVals m) 48)∧((w.alloc (.cells (shapeVals m) 48)).alloc (.cells (shapeVals n) 48)).heap[w.heap.size+1]? = some (.cells (shapeVals n) 48)):=hid (two_vecs w _ _)
 have HR1:=hid (fun W (hb:Below w.heap.size w W)=>GeW.rRings_any m W (h.below hb))
 have HR2:=hid (fun W (hb:Below w.heap.size w W)=>GeW.rRings_any n W (k.below hb))
 have HM1:Hid (∀ W,Below w.heap.size w W→∀ r∈ringsM m,Row W r.A (r.l.flatMap ptCells)∧r.l.length≤1000):=hid (fun W hb r hr=>⟨(h.row hr).below hb,(h.short r hr).1⟩)
 have HM2:Hid (∀ W,Below w.heap.size w W→∀ r∈ringsM n,Row W r.A (r.l.flatMap ptCells)∧r.l.length≤1000):=hid (fun W hb r hr=>⟨(k.row hr).below hb,(k.short r hr).1⟩)
 have hl1:(ringsM m).length≤1001:=by have:=h.few;rw [len_rings];omega
 have hl2:(ringsM n).length≤1001:=by have:=k.few;rw [len_rings];omega
 have E1:shapeVals m=#[.slice m.o.A m.o.l.length m.o.k,.slice m.B m.hs.length m.k]:=rfl
 have E2:shapeVals n=#[.slice n.o.A n.o.l.length n.o.k,.slice n.B n.hs.length n.k]:=rfl
 rw [E1] at HB0 HX HR1 ⊢
 rw [E2] at HB0 HX HR2 ⊢
 clear E1 E2 h k
 generalize ringsM m=rs1 at *
 generalize ringsM n=rs2 at *
 generalize Value.slice m.o.A m.o.l.length m.o.k=va at *
 generalize Value.slice m.B m.hs.length m.k=vb at *
 generalize Value.slice n.o.A n.o.l.length n.o.k=vc at *
 generalize Value.slice n.B n.hs.length n.k=vd at *
 go_enter Tryz.func55,Tryz.ntmps55
 go_upto_region 1 with fail
 generalize hWW:(w.alloc (.cells #[va,vb] 48)).alloc (.cells #[vc,vd] 48)=W at *
 clear hWW
 have CS:Hid (∀ w',Below W.heap.size W w'→(w'.cell? ⟨w.heap.size,0,none⟩=some va∧w'.cell? ⟨w.heap.size,1,none⟩=some vb∧w'.cell? ⟨w.heap.size+1,0,none⟩=some vc∧w'.cell? ⟨w.heap.size+1,1,none⟩=some vd)∧Below W.heap.size W w'):=hid (fun w' hb=>by
  have e1:=(hb.block _ (blk_lt HX.out.1)).trans HX.out.1
  have e2:=(hb.block _ (blk_lt HX.out.2)).trans HX.out.2
  exact ⟨⟨cell_of e1 0 _ rfl,cell_of e1 1 _ rfl,cell_of e2 0 _ rfl,cell_of e2 1 _ rfl⟩,hb⟩)
 have HR1b:=hid (fun W1 (hb:Below W.heap.size W W1)=>HR1.out W1 (HB0.out.trans (hb.mono HB0.out.size)))
 have HR2b:=hid (fun W1 (hb:Below W.heap.size W W1)=>HR2.out W1 (HB0.out.trans (hb.mono HB0.out.size)))
 clear HR1 HR2
 refine wp_region_held_drew (S:=fun w'=>(w'.cell? ⟨w.heap.size,0,none⟩=some va∧w'.cell? ⟨w.heap.size,1,none⟩=some vb∧w'.cell? ⟨w.heap.size+1,0,none⟩=some vc∧w'.cell? ⟨w.heap.size+1,1,none⟩=some vd)∧Below W.heap.size W w') (by kernel_rfl) ?_ (fun hHeld=>?_)
 ·exact CS.out _ (below_drewN (Below.refl _ _) 1)
 refine wpAnyH_take (i:=0) (oi := { dst:=some 8,op:=Op.load 48 (Operand.tmp 2),type:=48,pos := "ref.go:184",after:=#[],guard:=none }) (v:=?_) rfl (by kernel_rfl) (by kernel_rfl) (by kernel_rfl) (fun _ _ _ h=>h) (Or.inl ⟨by rfl,?_⟩) (by assumption) ?_
 rotate_left
 ·intro w' hSw
  (try dsimp only at hSw)
  first | (go_simp;done) | (go_simp;with_reducible rfl)
 try simp only [Act.put,List.setIfInBounds_toArray,List.set_cons_zero,List.set_cons_succ]
 refine wpAnyH_take (i:=2) (oi := { dst:=some 10,op:=Op.load 48 (Operand.tmp 3),type:=48,pos := "ref.go:184",after:=#[],guard:=none }) (v:=?_) rfl (by kernel_rfl) (by kernel_rfl) (by kernel_rfl) (fun _ _ _ h=>h) (Or.inl ⟨by rfl,?_⟩) (by assumption) ?_
 rotate_left
 ·intro w' hSw
  (try dsimp only at hSw)
  first | (go_simp;done) | (go_simp;with_reducible rfl)
 try simp only [Act.put,List.setIfInBounds_toArray,List.set_cons_zero,List.set_cons_succ]
 refine wpAnyH_ready (rs:=[1]) (by kernel_rfl) (by simp) ?_
 refine AllReadyH.cons (o := { dst:=some 9,op:=Op.call { callee:=Callee.value (Operand.func 78),args:=#[Operand.tmp 8],argTypes:=#[48] },type:=46,pos := "ref.go:184",after:=#[{ on:=0,ground:=Ground.data }],guard:=none }) rfl (fun K hK=>?_) AllReadyH.nil
 have hbx:=hHeld.2
 clear hHeld
 go_simp
 go_at_call 78
 refine (HR1b.out _ hbx).mono ?_
 rintro e w1 ⟨⟨v,rfl,hown⟩,hbd⟩
 obtain ⟨A1,c1,rfl,_⟩:=own_shape hown
 have hb1:Below W.heap.size W w1:=hbx.trans (hbd.mono (Below.size hbx))
 have HRO1:=hid (Row.of_own hown)

 clear hown hbd hbx
 refine hK.out _ _ ?_ (fun hHeld=>?_)
 ·exact CS.out _ hb1
 clear hK K
 try simp only [Act.put,List.setIfInBounds_toArray,List.set_cons_zero,List.set_cons_succ]
 refine wpAnyH_ready (rs:=[3]) (by kernel_rfl) (by simp) ?_
 refine AllReadyH.cons (o := { dst:=some 11,op:=Op.call { callee:=Callee.value (Operand.func 78),args:=#[Operand.tmp 10],argTypes:=#[48] },type:=46,pos := "ref.go:184",after:=#[{ on:=2,ground:=Ground.data },{ on:=1,ground:=Ground.chain }],guard:=none }) rfl (fun K hK=>?_) AllReadyH.nil
 have hbx:=hHeld.2
 clear hHeld
 go_simp
 go_at_call 78
 refine (HR2b.out _ hbx).mono ?_
 rintro e w2 ⟨⟨v,rfl,hown⟩,hbd⟩
 obtain ⟨A2,c2,rfl,_⟩:=own_shape hown
 have hb2:Below W.heap.size W w2:=hbx.trans (hbd.mono (Below.size hbx))
 have HRO2:=hid (Row.of_own hown)
 have HRO1b:=hid (HRO1.out.below hbd)
 clear hown hbd hbx
 refine hK.out _ _ ?_ (fun hHeld=>?_)
 ·exact CS.out _ hb2
 clear hK K
 try simp only [Act.put,List.setIfInBounds_toArray,List.set_cons_zero,List.set_cons_succ]
 refine wpAnyH_take (i:=4) (oi := { dst:=some 5,op:=Op.assign (Operand.tmp 9),type:=46,pos := "ref.go:184",after:=#[{ on:=1,ground:=Ground.data },{ on:=3,ground:=Ground.chain },{ on:=0,ground:=Ground.phase },{ on:=1,ground:=Ground.phase },{ on:=2,ground:=Ground.textOnly Departure.lateStores },{ on:=3,ground:=Ground.textOnly Departure.lateStoresUnsure }],guard:=none }) (v:=?_) rfl (by kernel_rfl) (by kernel_rfl) (by kernel_rfl) (fun _ _ _ h=>h) (Or.inl ⟨by rfl,?_⟩) (by assumption) ?_
 rotate_left
 ·intro w' hSw
  (try dsimp only at hSw)
  first | (go_simp;done) | (go_simp;with_reducible rfl)
 try simp only [Act.put,List.setIfInBounds_toArray,List.set_cons_zero,List.set_cons_succ]
 refine wpAnyH_take (i:=5) (oi := { dst:=some 6,op:=Op.assign (Operand.tmp 11),type:=46,pos := "ref.go:184",after:=#[{ on:=3,ground:=Ground.data },{ on:=4,ground:=Ground.chain },{ on:=0,ground:=Ground.phase },{ on:=1,ground:=Ground.phase },{ on:=2,ground:=Ground.phase },{ on:=3,ground:=Ground.phase },{ on:=4,ground:=Ground.phase }],guard:=none }) (v:=?_) rfl (by kernel_rfl) (by kernel_rfl) (by kernel_rfl) (fun _ _ _ h=>h) (Or.inl ⟨by rfl,?_⟩) (by assumption) ?_
 rotate_left
 ·intro w' hSw
  (try dsimp only at hSw)
  first | (go_simp;done) | (go_simp;with_reducible rfl)
 try simp only [Act.put,List.setIfInBounds_toArray,List.set_cons_zero,List.set_cons_succ]
 refine wpAnyH_done (by kernel_rfl) ?_ _
 clear hHeld
 have HB2:=hid (HB0.out.trans (hb2.mono HB0.out.size))
 have HRA:=HRO1b
 have HRB:=HRO2
 clear hb1 hb2 HRO1 HRO1b HRO2 HR1b HR2b CS HX
 by_cases hlen:rs1.length=rs2.length
 ·have HT0:=hid (show (rs1.map RowV.l).take 0=(rs2.map RowV.l).take 0 by simp)
  have HLM:=hid hlen
  rw [← hlen]
  clear hlen
  go_wp2_with fail
  go_loopw [7] (fun i wr=>∃ k:Nat,k≤rs1.length∧i=.int .i64 k∧Hid ((rs1.map RowV.l).take k=(rs2.map RowV.l).take k)∧Hid (Below w2.heap.size w2 wr)) (fun i _=>rs1.length - (intOf i).toNat)
  case atStart=>exact ⟨0,Nat.zero_le _,rfl,HT0,hid (Below.refl _ _)⟩
  case round =>
   obtain ⟨k,hk,rfl,HT,HB⟩:=hrel
   by_cases hlt:k < rs1.length
   ·have hlt2:k < rs2.length:=by have:=HLM.out;omega
    obtain ⟨g,off,rfl,hg,ca⟩:=row_one HRA.out (k:=k) (by rw [List.length_map];exact hlt)
    obtain ⟨g2,off2,rfl,hg2,cb⟩:=row_one HRB.out (k:=k) (by rw [List.length_map];exact hlt2)
    have a0:=(HB.out.cell (p:=⟨g,off+k,none⟩) hg).trans (ca k (by rw [List.length_map];exact hlt))
    have b0:=(HB.out.cell (p:=⟨g2,off2+k,none⟩) hg2).trans (cb k (by rw [List.length_map];exact hlt2))
    have hk1:(0:Int)≤(k:Int):=by omega
    have hk2:(k:Int) < (rs1.length:Int):=by omega
    have d1:decide ((k:Int) < (rs1.length:Int))=true:=decide_eq_true hk2
    have HBW:=hid (HB2.out.trans (HB.out.mono HB2.out.size))
    have m1:=HM1.out wr HBW.out _ (List.getElem_mem hlt)
    have m2:=HM2.out wr HBW.out _ (List.getElem_mem hlt2)
    have HMO:=hid (fun h=>take_grow2 HT.out (by rw [List.length_map];exact hlt) (by rw [List.length_map];exact hlt2) h)
    have HNO:Hid ((rs1[k]).l≠(rs2[k]).l→rs1.map RowV.l≠rs2.map RowV.l):=hid (fun h e=>h (by
     have e1:(rs1.map RowV.l)[k]? = (rs2.map RowV.l)[k]?:=by rw [e]
     rw [List.getElem?_map,List.getElem?_map,List.getElem?_eq_getElem hlt,List.getElem?_eq_getElem hlt2] at e1
     exact Option.some.inj e1))
    simp only [List.getElem_map] at a0 b0 HMO
    have HMO2:Hid ((rs1[k]).l=(rs2[k]).l→(rs1.map RowV.l).take (k+1)=(rs2.map RowV.l).take (k+1)):=hid (fun h=>HMO.out h)
    have HE:=hid (fun W1 (hb:Below wr.heap.size wr W1)=>rsame8_any (rs1[k]).l (rs2[k]).l (rs1[k]).A (rs2[k]).A (rs1[k]).k (rs2[k]).k W1 (m1.1.below hb) (m2.1.below hb) (by omega) (by omega))
    clear ca cb HMO m1 m2
    generalize rs1[k]=p at *
    generalize rs2[k]=q at *
    clear hlt2
    obtain ⟨pl,pA,pk⟩:=p
    obtain ⟨ql,qA,qk⟩:=q
    simp only [rowVal] at a0 b0 HE HMO2 HNO
    generalize pl.length=n1 at *
    generalize ql.length=n2 at *
    have E1:∀ p:Later wr,p.w.cell? ⟨g,off+k,none⟩=some (.slice pA n1 pk):=later_cell (Nat.lt_of_lt_of_le hg HB.out.size) a0
    have E2:∀ p:Later wr,p.w.cell? ⟨g2,off2+k,none⟩=some (.slice qA n2 qk):=later_cell (Nat.lt_of_lt_of_le hg2 HB.out.size) b0
    clear a0 b0
    by_cases he:pl=ql
    ·rw [decide_eq_true he] at HE
     have HT2:=hid (HMO2.out he)
     clear he HMO2 HNO
     go_wp2_with fail
     refine wp_region_later wr (by kernel_rfl) (by kernel_rfl) (Below.refl _ _) ?_
     repeat (go_big_quiet_step ((go_at_call 111;exact Calls.later (HE.out _ (by first | exact Later.h _ | assumption)))))
     refine wpQuiet_nil ?_
     rintro w8 hex
     have hb8:=later_of hex
     clear hex
     have HB8:=hid (HB.out.trans (hb8.mono HB.out.size))
     clear E1 E2 hb8
     go_wp2_with fail
     go_roundw
     case rel=>exact ⟨k+1,hlt,by go_num,HT2,HB8⟩
     case measure=>simp [intOf];omega
    ·rw [decide_eq_false he] at HE
     have HF:Hid (decide (rs1.map RowV.l=rs2.map RowV.l)=false):=hid (decide_eq_false (HNO.out he))
     clear he HMO2 HNO
     go_wp2_with fail
     refine wp_region_later wr (by kernel_rfl) (by kernel_rfl) (Below.refl _ _) ?_
     repeat (go_big_quiet_step ((go_at_call 111;exact Calls.later (HE.out _ (by first | exact Later.h _ | assumption)))))
     refine wpQuiet_nil ?_
     rintro w8 hex
     have hb8:=later_of hex
     clear hex
     have HB8:=hid (HB2.out.trans ((HB.out.trans (hb8.mono HB.out.size)).mono HB2.out.size))
     clear E1 E2 hb8
     go_wp2_with fail
     go_ret
     rw [HF.out]
     exact ⟨rfl,HB8.out⟩
   ·obtain rfl:k=rs1.length:=by omega
    have HF:Hid (decide (rs1.map RowV.l=rs2.map RowV.l)=true):=hid (decide_eq_true (by
     have h:=HT.out
     rw [List.take_of_length_le (by simp),HLM.out,List.take_of_length_le (by simp)] at h
     exact h))
    have HB8:=hid (HB2.out.trans (HB.out.mono HB2.out.size))
    go_wp2_with fail
    go_ret
    rw [HF.out]
    exact ⟨rfl,HB8.out⟩
 ·have d1:((rs1.length:Int) != (rs2.length:Int))=true:=bne_iff_ne.2 (by omega)
  have HF:Hid (decide (rs1.map RowV.l=rs2.map RowV.l)=false):=hid (decide_eq_false (fun h=>hlen (by simpa using congrArg List.length h)))
  clear hlen
  go_wp2_with fail
  go_ret
  rw [HF.out]
  exact ⟨rfl,HB2.out⟩
end Go.Proofs.YtnkkcknogkgdkaaGreatDoor.PaW

namespace Go.Proofs.YtnkkcknogkgdkaaGreatDoor.PaW
open Lib (hid)
open Go Go.RowKit Go.Proofs.YtnkkcknogkgdkaaGreatDoor.Mem Go.Proofs.YtnkkcknogkgdkaaGreatDoor.Pa
open Go.Proofs.YtnkkcknogkgdkaaGreatDoor.Ge (V)
open Go.Proofs.YtnkkcknogkgdkaaGreatDoor.Lex (Tok)
open Go.Proofs.YtnkkcknogkgdkaaGreatDoor.LexW (tokCells)
attribute [local go_sem ↓] Go.wp_at_zero Go.wp_at_succ

open Go.Proofs.YtnkkcknogkgdkaaGreatDoor.GeW (ptCells pt_len RowV rowVal ShapeM ShapeIn shapeVals holesL holesVal shapeOk_any)
open Go.Proofs.YtnkkcknogkgdkaaGreatDoor.Ge (beginL sortH shapeB rightB shape_same rshapeB)
set_option maxRecDepth 100000 in
set_option maxHeartbeats 4000000 in
theorem right_any (p:PartM) (w:World) (h:PartIn w p) :
  Calls Tryz.prog 23 #[.agg (partCells p).toArray] w fun e w'=>e=.returned (.bool (namedOk p.name p.grade p.grain p.turns&&rightB p.sh.o.l (holesL p.sh)))∧Below w.heap.size w w':=by
 have hb1:=bel1 w (.cells #[.string ⟨p.name.toArray⟩,.string ⟨p.grade.toArray⟩,.int .i64 p.grain,.slice p.tA p.turns.length p.tc,.slice p.sh.o.A p.sh.o.l.length p.sh.o.k,.slice p.sh.B p.sh.hs.length p.sh.k] 50)
 have HBA:=hid hb1
 have HX1:Hid ((w.alloc (.cells #[.string ⟨p.name.toArray⟩,.string ⟨p.grade.toArray⟩,.int .i64 p.grain,.slice p.tA p.turns.length p.tc,.slice p.sh.o.A p.sh.o.l.length p.sh.o.k,.slice p.sh.B p.sh.hs.length p.sh.k] 50)).drew.heap[w.heap.size]? = some (.cells #[.string ⟨p.name.toArray⟩,.string ⟨p.grade.toArray⟩,.int .i64 p.grain,.slice p.tA p.turns.length p.tc,.slice p.sh.o.A p.sh.o.l.length p.sh.o.k,.slice p.sh.B p.sh.hs.length p.sh.k] 50 (0,0))):=hid (heap_new w (.cells #[.string ⟨p.name.toArray⟩,.string ⟨p.grade.toArray⟩,.int .i64 p.grain,.slice p.tA p.turns.length p.tc,.slice p.sh.o.A p.sh.o.l.length p.sh.o.k,.slice p.sh.B p.sh.hs.length p.sh.k] 50))
 have hb1d:Below w.heap.size w (w.alloc (.cells #[.string ⟨p.name.toArray⟩,.string ⟨p.grade.toArray⟩,.int .i64 p.grain,.slice p.tA p.turns.length p.tc,.slice p.sh.o.A p.sh.o.l.length p.sh.o.k,.slice p.sh.B p.sh.hs.length p.sh.k] 50)).drew:=below_drewN hb1 1
 have HB1:=hid hb1d
 have HI1:=hid (h.below hb1d)
 have KS:Hid (((w.alloc (.cells #[.string ⟨p.name.toArray⟩,.string ⟨p.grade.toArray⟩,.int .i64 p.grain,.slice p.tA p.turns.length p.tc,.slice p.sh.o.A p.sh.o.l.length p.sh.o.k,.slice p.sh.B p.sh.hs.length p.sh.k] 50)).drew.cell? ⟨w.heap.size,0,none⟩=some (.string ⟨p.name.toArray⟩)∧(w.alloc (.cells #[.string ⟨p.name.toArray⟩,.string ⟨p.grade.toArray⟩,.int .i64 p.grain,.slice p.tA p.turns.length p.tc,.slice p.sh.o.A p.sh.o.l.length p.sh.o.k,.slice p.sh.B p.sh.hs.length p.sh.k] 50)).drew.cell? ⟨w.heap.size,1,none⟩=some (.string ⟨p.grade.toArray⟩)∧(w.alloc (.cells #[.string ⟨p.name.toArray⟩,.string ⟨p.grade.toArray⟩,.int .i64 p.grain,.slice p.tA p.turns.length p.tc,.slice p.sh.o.A p.sh.o.l.length p.sh.o.k,.slice p.sh.B p.sh.hs.length p.sh.k] 50)).drew.cell? ⟨w.heap.size,2,none⟩=some (.int .i64 p.grain)∧(w.alloc (.cells #[.string ⟨p.name.toArray⟩,.string ⟨p.grade.toArray⟩,.int .i64 p.grain,.slice p.tA p.turns.length p.tc,.slice p.sh.o.A p.sh.o.l.length p.sh.o.k,.slice p.sh.B p.sh.hs.length p.sh.k] 50)).drew.cell? ⟨w.heap.size,3,none⟩=some (.slice p.tA p.turns.length p.tc)∧(w.alloc (.cells #[.string ⟨p.name.toArray⟩,.string ⟨p.grade.toArray⟩,.int .i64 p.grain,.slice p.tA p.turns.length p.tc,.slice p.sh.o.A p.sh.o.l.length p.sh.o.k,.slice p.sh.B p.sh.hs.length p.sh.k] 50)).drew.cell? ⟨w.heap.size,4,none⟩=some (.slice p.sh.o.A p.sh.o.l.length p.sh.o.k)∧(w.alloc (.cells #[.string ⟨p.name.toArray⟩,.string ⟨p.grade.toArray⟩,.int .i64 p.grain,.slice p.tA p.turns.length p.tc,.slice p.sh.o.A p.sh.o.l.length p.sh.o.k,.slice p.sh.B p.sh.hs.length p.sh.k] 50)).drew.cell? ⟨w.heap.size,5,none⟩=some (.slice p.sh.B p.sh.hs.length p.sh.k))):=hid ⟨cell_of HX1.out 0 _ rfl,cell_of HX1.out 1 _ rfl,cell_of HX1.out 2 _ rfl,cell_of HX1.out 3 _ rfl,cell_of HX1.out 4 _ rfl,cell_of HX1.out 5 _ rfl⟩
 have HSV:=hid (fun W (hW:ShapeIn W p.sh)=>shapeOk_any p.sh W hW)
 have HNM:=hid (fun W (hW:Below w.heap.size w W)=>named_any p.name p.grade p.grain p.turns p.tA p.tc W (h.below hW).1 h.2.2.1 h.2.2.2.1 h.2.2.2.2)
 have HIW:=hid (fun W (hW:Below w.heap.size w W)=>(h.below hW).2.1)
 unfold partCells strV rowVal holesVal
 unfold rightB
 cases hn:namedOk p.name p.grade p.grain p.turns
 ·rw [hn] at HNM
  simp only [Bool.false_and]
  clear h hb1 hb1d hn HSV HI1 KS
  go_enter Tryz.func23,Tryz.ntmps23
  go_upto_region 1 with fail
  have HX0:Hid ((w.alloc (.cells #[.string ⟨p.name.toArray⟩,.string ⟨p.grade.toArray⟩,.int .i64 p.grain,.slice p.tA p.turns.length p.tc,.slice p.sh.o.A p.sh.o.l.length p.sh.o.k,.slice p.sh.B p.sh.hs.length p.sh.k] 50)).heap[w.heap.size]? = some (.cells #[.string ⟨p.name.toArray⟩,.string ⟨p.grade.toArray⟩,.int .i64 p.grain,.slice p.tA p.turns.length p.tc,.slice p.sh.o.A p.sh.o.l.length p.sh.o.k,.slice p.sh.B p.sh.hs.length p.sh.k] 50 (0,0))):=hid (heap_new w (.cells #[.string ⟨p.name.toArray⟩,.string ⟨p.grade.toArray⟩,.int .i64 p.grain,.slice p.tA p.turns.length p.tc,.slice p.sh.o.A p.sh.o.l.length p.sh.o.k,.slice p.sh.B p.sh.hs.length p.sh.k] 50))
  generalize w.alloc (.cells #[.string ⟨p.name.toArray⟩,.string ⟨p.grade.toArray⟩,.int .i64 p.grain,.slice p.tA p.turns.length p.tc,.slice p.sh.o.A p.sh.o.l.length p.sh.o.k,.slice p.sh.B p.sh.hs.length p.sh.k] 50)=W1 at *
  have E0:∀ p0:Later W1,p0.w.cell? ⟨w.heap.size,0,none⟩=some (.string ⟨p.name.toArray⟩):=later_cell (blk_lt HX0.out) (cell_of HX0.out 0 _ rfl)
  have E1:∀ p0:Later W1,p0.w.cell? ⟨w.heap.size,1,none⟩=some (.string ⟨p.grade.toArray⟩):=later_cell (blk_lt HX0.out) (cell_of HX0.out 1 _ rfl)
  have E2:∀ p0:Later W1,p0.w.cell? ⟨w.heap.size,2,none⟩=some (.int .i64 p.grain):=later_cell (blk_lt HX0.out) (cell_of HX0.out 2 _ rfl)
  have E3:∀ p0:Later W1,p0.w.cell? ⟨w.heap.size,3,none⟩=some (.slice p.tA p.turns.length p.tc):=later_cell (blk_lt HX0.out) (cell_of HX0.out 3 _ rfl)
  have E4:∀ p0:Later W1,p0.w.cell? ⟨w.heap.size,4,none⟩=some (.slice p.sh.o.A p.sh.o.l.length p.sh.o.k):=later_cell (blk_lt HX0.out) (cell_of HX0.out 4 _ rfl)
  have E5:∀ p0:Later W1,p0.w.cell? ⟨w.heap.size,5,none⟩=some (.slice p.sh.B p.sh.hs.length p.sh.k):=later_cell (blk_lt HX0.out) (cell_of HX0.out 5 _ rfl)
  refine wp_region_later W1 (by kernel_rfl) (by kernel_rfl) (Below.refl _ _) ?_
  repeat (go_big_quiet_step ((go_at_call 56;exact Calls.later (HNM.out _ (HBA.out.trans ((Later.h _).mono HBA.out.size))))))
  refine wpQuiet_nil ?_
  rintro w8 hex
  have hb8:=later_of hex
  clear hex
  have HB8:=hid (HBA.out.trans (hb8.mono HBA.out.size))
  clear hb8 E0 E1 E2 E3 E4 E5
  go_wp2_with fail
  go_ret
  exact ⟨rfl,HB8.out⟩
 ·rw [hn] at HNM
  cases hv:shapeB p.sh.o.l (holesL p.sh)
  ·rw [hv] at HSV
   unfold shapeVals rowVal holesVal at HSV
   simp only [Bool.false_and,Bool.and_false]
   clear h hb1 hb1d hn hv HI1 KS
   go_enter Tryz.func23,Tryz.ntmps23
   go_upto_region 1 with fail
   have HX0:Hid ((w.alloc (.cells #[.string ⟨p.name.toArray⟩,.string ⟨p.grade.toArray⟩,.int .i64 p.grain,.slice p.tA p.turns.length p.tc,.slice p.sh.o.A p.sh.o.l.length p.sh.o.k,.slice p.sh.B p.sh.hs.length p.sh.k] 50)).heap[w.heap.size]? = some (.cells #[.string ⟨p.name.toArray⟩,.string ⟨p.grade.toArray⟩,.int .i64 p.grain,.slice p.tA p.turns.length p.tc,.slice p.sh.o.A p.sh.o.l.length p.sh.o.k,.slice p.sh.B p.sh.hs.length p.sh.k] 50 (0,0))):=hid (heap_new w (.cells #[.string ⟨p.name.toArray⟩,.string ⟨p.grade.toArray⟩,.int .i64 p.grain,.slice p.tA p.turns.length p.tc,.slice p.sh.o.A p.sh.o.l.length p.sh.o.k,.slice p.sh.B p.sh.hs.length p.sh.k] 50))
   generalize w.alloc (.cells #[.string ⟨p.name.toArray⟩,.string ⟨p.grade.toArray⟩,.int .i64 p.grain,.slice p.tA p.turns.length p.tc,.slice p.sh.o.A p.sh.o.l.length p.sh.o.k,.slice p.sh.B p.sh.hs.length p.sh.k] 50)=W1 at *
   have E0:∀ p0:Later W1,p0.w.cell? ⟨w.heap.size,0,none⟩=some (.string ⟨p.name.toArray⟩):=later_cell (blk_lt HX0.out) (cell_of HX0.out 0 _ rfl)
   have E1:∀ p0:Later W1,p0.w.cell? ⟨w.heap.size,1,none⟩=some (.string ⟨p.grade.toArray⟩):=later_cell (blk_lt HX0.out) (cell_of HX0.out 1 _ rfl)
   have E2:∀ p0:Later W1,p0.w.cell? ⟨w.heap.size,2,none⟩=some (.int .i64 p.grain):=later_cell (blk_lt HX0.out) (cell_of HX0.out 2 _ rfl)
   have E3:∀ p0:Later W1,p0.w.cell? ⟨w.heap.size,3,none⟩=some (.slice p.tA p.turns.length p.tc):=later_cell (blk_lt HX0.out) (cell_of HX0.out 3 _ rfl)
   have E4:∀ p0:Later W1,p0.w.cell? ⟨w.heap.size,4,none⟩=some (.slice p.sh.o.A p.sh.o.l.length p.sh.o.k):=later_cell (blk_lt HX0.out) (cell_of HX0.out 4 _ rfl)
   have E5:∀ p0:Later W1,p0.w.cell? ⟨w.heap.size,5,none⟩=some (.slice p.sh.B p.sh.hs.length p.sh.k):=later_cell (blk_lt HX0.out) (cell_of HX0.out 5 _ rfl)
   refine wp_region_later W1 (by kernel_rfl) (by kernel_rfl) (Below.refl _ _) ?_
   repeat (go_big_quiet_step (first | (go_at_call 56;exact Calls.later (HNM.out _ (HBA.out.trans ((Later.h _).mono HBA.out.size)))) | (go_at_call 48;exact Calls.later (HSV.out _ (HIW.out _ (HBA.out.trans ((Later.h _).mono HBA.out.size)))))))
   refine wpQuiet_nil ?_
   rintro w8 hex
   have hb8:=later_of hex
   clear hex
   have HB8:=hid (HBA.out.trans (hb8.mono HBA.out.size))
   clear hb8 E0 E1 E2 E3 E4 E5
   go_wp2_with fail
   go_ret
   exact ⟨rfl,HB8.out⟩
  ·have HCN:=hid (fun W (hW:ShapeIn W p.sh)=>canonS_any p.sh W hW hv)
   rw [hv] at HSV
   unfold shapeVals rowVal holesVal at HSV
   unfold shapeVals rowVal holesVal at HCN
   simp only [Bool.true_and]
   obtain ⟨rb,HRB⟩:∃ rb,Hid (rb=(decide (p.sh.o.l=beginL p.sh.o.l)&&decide (holesL p.sh=sortH ((holesL p.sh).map beginL)))):=⟨_,hid rfl⟩
   rw [← HRB.out]
   clear h hn hv hb1 hb1d HIW
   go_enter Tryz.func23,Tryz.ntmps23
   go_upto_region 1 with fail
   have HX0:Hid ((w.alloc (.cells #[.string ⟨p.name.toArray⟩,.string ⟨p.grade.toArray⟩,.int .i64 p.grain,.slice p.tA p.turns.length p.tc,.slice p.sh.o.A p.sh.o.l.length p.sh.o.k,.slice p.sh.B p.sh.hs.length p.sh.k] 50)).heap[w.heap.size]? = some (.cells #[.string ⟨p.name.toArray⟩,.string ⟨p.grade.toArray⟩,.int .i64 p.grain,.slice p.tA p.turns.length p.tc,.slice p.sh.o.A p.sh.o.l.length p.sh.o.k,.slice p.sh.B p.sh.hs.length p.sh.k] 50 (0,0))):=hid (heap_new w (.cells #[.string ⟨p.name.toArray⟩,.string ⟨p.grade.toArray⟩,.int .i64 p.grain,.slice p.tA p.turns.length p.tc,.slice p.sh.o.A p.sh.o.l.length p.sh.o.k,.slice p.sh.B p.sh.hs.length p.sh.k] 50))
   generalize w.alloc (.cells #[.string ⟨p.name.toArray⟩,.string ⟨p.grade.toArray⟩,.int .i64 p.grain,.slice p.tA p.turns.length p.tc,.slice p.sh.o.A p.sh.o.l.length p.sh.o.k,.slice p.sh.B p.sh.hs.length p.sh.k] 50)=W1 at *
   clear HX0
   refine wp_region_tillK (k:=22) (S1:=fun w'=>True) (S2:=fun w'=>(w'.cell? ⟨w.heap.size,0,none⟩=some (.string ⟨p.name.toArray⟩)∧w'.cell? ⟨w.heap.size,1,none⟩=some (.string ⟨p.grade.toArray⟩)∧w'.cell? ⟨w.heap.size,2,none⟩=some (.int .i64 p.grain)∧w'.cell? ⟨w.heap.size,3,none⟩=some (.slice p.tA p.turns.length p.tc)∧w'.cell? ⟨w.heap.size,4,none⟩=some (.slice p.sh.o.A p.sh.o.l.length p.sh.o.k)∧w'.cell? ⟨w.heap.size,5,none⟩=some (.slice p.sh.B p.sh.hs.length p.sh.k))) (by kernel_rfl) ?_ (fun hHeld=>?_)
   ·exact ⟨trivial,KS.out⟩
   refine wpAnyK_take (i:=0) (oi := { dst:=some 3,op:=Op.fieldAddr 50 (Operand.tmp 1) 0,type:=0,pos := "part.go:357",after:=#[],guard:=none }) (v:=?_) rfl (by kernel_rfl) (by kernel_rfl) (by kernel_rfl) (by kernel_rfl) (fun _ _ _ h=>h) (Or.inl ⟨by rfl,?_⟩) (by assumption) ?_
   rotate_left
   ·intro w' hSw
    (try dsimp only at hSw)
    first | (go_simp;done) | (go_simp;with_reducible rfl)
   try simp only [Act.put,List.setIfInBounds_toArray,List.set_cons_zero,List.set_cons_succ]
   refine wpAnyK_take (i:=1) (oi := { dst:=some 4,op:=Op.load 9 (Operand.tmp 3),type:=9,pos := "part.go:357",after:=#[{ on:=0,ground:=Ground.data }],guard:=none }) (v:=?_) rfl (by kernel_rfl) (by kernel_rfl) (by kernel_rfl) (by kernel_rfl) (fun _ _ _ h=>h) (Or.inl ⟨by rfl,?_⟩) (by assumption) ?_
   rotate_left
   ·intro w' hSw
    (try dsimp only at hSw)
    first | (go_simp;done) | (go_simp;with_reducible rfl)
   try simp only [Act.put,List.setIfInBounds_toArray,List.set_cons_zero,List.set_cons_succ]
   refine wpAnyK_take (i:=2) (oi := { dst:=some 5,op:=Op.fieldAddr 50 (Operand.tmp 1) 1,type:=0,pos := "part.go:357",after:=#[],guard:=none }) (v:=?_) rfl (by kernel_rfl) (by kernel_rfl) (by kernel_rfl) (by kernel_rfl) (fun _ _ _ h=>h) (Or.inl ⟨by rfl,?_⟩) (by assumption) ?_
   rotate_left
   ·intro w' hSw
    (try dsimp only at hSw)
    first | (go_simp;done) | (go_simp;with_reducible rfl)
   try simp only [Act.put,List.setIfInBounds_toArray,List.set_cons_zero,List.set_cons_succ]
   refine wpAnyK_take (i:=3) (oi := { dst:=some 6,op:=Op.load 9 (Operand.tmp 5),type:=9,pos := "part.go:357",after:=#[{ on:=2,ground:=Ground.data }],guard:=none }) (v:=?_) rfl (by kernel_rfl) (by kernel_rfl) (by kernel_rfl) (by kernel_rfl) (fun _ _ _ h=>h) (Or.inl ⟨by rfl,?_⟩) (by assumption) ?_
   rotate_left
   ·intro w' hSw
    (try dsimp only at hSw)
    first | (go_simp;done) | (go_simp;with_reducible rfl)
   try simp only [Act.put,List.setIfInBounds_toArray,List.set_cons_zero,List.set_cons_succ]
   refine wpAnyK_take (i:=4) (oi := { dst:=some 7,op:=Op.fieldAddr 50 (Operand.tmp 1) 2,type:=0,pos := "part.go:357",after:=#[],guard:=none }) (v:=?_) rfl (by kernel_rfl) (by kernel_rfl) (by kernel_rfl) (by kernel_rfl) (fun _ _ _ h=>h) (Or.inl ⟨by rfl,?_⟩) (by assumption) ?_
   rotate_left
   ·intro w' hSw
    (try dsimp only at hSw)
    first | (go_simp;done) | (go_simp;with_reducible rfl)
   try simp only [Act.put,List.setIfInBounds_toArray,List.set_cons_zero,List.set_cons_succ]
   refine wpAnyK_take (i:=5) (oi := { dst:=some 8,op:=Op.load 3 (Operand.tmp 7),type:=3,pos := "part.go:357",after:=#[{ on:=4,ground:=Ground.data }],guard:=none }) (v:=?_) rfl (by kernel_rfl) (by kernel_rfl) (by kernel_rfl) (by kernel_rfl) (fun _ _ _ h=>h) (Or.inl ⟨by rfl,?_⟩) (by assumption) ?_
   rotate_left
   ·intro w' hSw
    (try dsimp only at hSw)
    first | (go_simp;done) | (go_simp;with_reducible rfl)
   try simp only [Act.put,List.setIfInBounds_toArray,List.set_cons_zero,List.set_cons_succ]
   refine wpAnyK_take (i:=6) (oi := { dst:=some 9,op:=Op.fieldAddr 50 (Operand.tmp 1) 3,type:=0,pos := "part.go:357",after:=#[],guard:=none }) (v:=?_) rfl (by kernel_rfl) (by kernel_rfl) (by kernel_rfl) (by kernel_rfl) (fun _ _ _ h=>h) (Or.inl ⟨by rfl,?_⟩) (by assumption) ?_
   rotate_left
   ·intro w' hSw
    (try dsimp only at hSw)
    first | (go_simp;done) | (go_simp;with_reducible rfl)
   try simp only [Act.put,List.setIfInBounds_toArray,List.set_cons_zero,List.set_cons_succ]
   refine wpAnyK_take (i:=7) (oi := { dst:=some 10,op:=Op.load 33 (Operand.tmp 9),type:=33,pos := "part.go:357",after:=#[{ on:=6,ground:=Ground.data }],guard:=none }) (v:=?_) rfl (by kernel_rfl) (by kernel_rfl) (by kernel_rfl) (by kernel_rfl) (fun _ _ _ h=>h) (Or.inl ⟨by rfl,?_⟩) (by assumption) ?_
   rotate_left
   ·intro w' hSw
    (try dsimp only at hSw)
    first | (go_simp;done) | (go_simp;with_reducible rfl)
   try simp only [Act.put,List.setIfInBounds_toArray,List.set_cons_zero,List.set_cons_succ]
   refine wpAnyK_one (i:=8) (o := { dst:=some 11,op:=Op.call { callee:=Callee.value (Operand.func 56),args:=#[Operand.tmp 4,Operand.tmp 6,Operand.tmp 8,Operand.tmp 10],argTypes:=#[9,9,3,33] },type:=4,pos := "part.go:357",after:=#[{ on:=1,ground:=Ground.data },{ on:=3,ground:=Ground.data },{ on:=5,ground:=Ground.data },{ on:=7,ground:=Ground.data }],guard:=none }) (by kernel_rfl) rfl (fun K hK=>?_)
   go_simp
   go_at_call 56
   refine (HNM.out _ HB1.out).mono ?_
   rintro e w2 ⟨rfl,hbn⟩
   have HX2:=hid (p_below HX1.out hbn)
   have HB2:=hid (HB1.out.trans (hbn.mono HB1.out.size))
   have HI2:=hid (HI1.out.below hbn)
   clear hbn
   refine hK.out _ _ ?_ (fun _=>?_) (fun hHeld=>?_)
   ·trivial
   ·exact ⟨cell_of HX2.out 0 _ rfl,cell_of HX2.out 1 _ rfl,cell_of HX2.out 2 _ rfl,cell_of HX2.out 3 _ rfl,cell_of HX2.out 4 _ rfl,cell_of HX2.out 5 _ rfl⟩
   replace hHeld:=And.intro hHeld.1 (hHeld.2 (by decide))
   clear hK K
   try simp only [Act.put,List.setIfInBounds_toArray,List.set_cons_zero,List.set_cons_succ]
   refine wpAnyK_take (i:=9) (oi := { dst:=some 12,op:=Op.move (Operand.tmp 11),type:=4,pos := "part.go:357",after:=#[{ on:=8,ground:=Ground.data },{ on:=8,ground:=Ground.chain }],guard:=none }) (v:=?_) rfl (by kernel_rfl) (by kernel_rfl) (by kernel_rfl) (by kernel_rfl) (fun _ _ _ h=>h) (Or.inl ⟨by rfl,?_⟩) (by assumption) ?_
   rotate_left
   ·intro w' hSw
    (try dsimp only at hSw)
    first | (go_simp;done) | (go_simp;with_reducible rfl)
   try simp only [Act.put,List.setIfInBounds_toArray,List.set_cons_zero,List.set_cons_succ]
   refine wpAnyK_take (i:=10) (oi := { dst:=some 13,op:=Op.fieldAddr 50 (Operand.tmp 1) 4,type:=0,pos := "part.go:357",after:=#[{ on:=9,ground:=Ground.guard }],guard:=some (9,true) }) (v:=?_) rfl (by kernel_rfl) (by kernel_rfl) (by kernel_rfl) (by kernel_rfl) (fun _ _ _ h=>h) (Or.inl ⟨by rfl,?_⟩) (by assumption) ?_
   rotate_left
   ·intro w' hSw
    (try dsimp only at hSw)
    first | (go_simp;done) | (go_simp;with_reducible rfl)
   try simp only [Act.put,List.setIfInBounds_toArray,List.set_cons_zero,List.set_cons_succ]
   refine wpAnyK_take (i:=11) (oi := { dst:=some 14,op:=Op.load 48 (Operand.tmp 13),type:=48,pos := "part.go:357",after:=#[{ on:=10,ground:=Ground.data },{ on:=9,ground:=Ground.guard }],guard:=some (9,true) }) (v:=?_) rfl (by kernel_rfl) (by kernel_rfl) (by kernel_rfl) (by kernel_rfl) (fun _ _ _ h=>h) (Or.inl ⟨by rfl,?_⟩) (by assumption) ?_
   rotate_left
   ·intro w' hSw
    (try dsimp only at hSw)
    first | (go_simp;done) | (go_simp;with_reducible rfl)
   try simp only [Act.put,List.setIfInBounds_toArray,List.set_cons_zero,List.set_cons_succ]
   refine wpAnyK_one (i:=12) (o := { dst:=some 15,op:=Op.call { callee:=Callee.value (Operand.func 48),args:=#[Operand.tmp 14],argTypes:=#[48] },type:=4,pos := "part.go:357",after:=#[{ on:=11,ground:=Ground.data },{ on:=9,ground:=Ground.chain },{ on:=9,ground:=Ground.guard }],guard:=some (9,true) }) (by kernel_rfl) rfl (fun K hK=>?_)
   go_simp
   go_at_call 48
   refine (HSV.out w2 HI2.out.2.1).mono ?_
   rintro e w3 ⟨rfl,hbn⟩
   have HX3:=hid (p_below HX2.out hbn)
   have HB3:=hid (HB2.out.trans (hbn.mono HB2.out.size))
   have HI3:=hid (HI2.out.below hbn)
   clear hbn
   refine hK.out _ _ ?_ (fun _=>?_) (fun hHeld=>?_)
   ·trivial
   ·exact ⟨cell_of HX3.out 0 _ rfl,cell_of HX3.out 1 _ rfl,cell_of HX3.out 2 _ rfl,cell_of HX3.out 3 _ rfl,cell_of HX3.out 4 _ rfl,cell_of HX3.out 5 _ rfl⟩
   replace hHeld:=And.intro hHeld.1 (hHeld.2 (by decide))
   clear hK K
   try simp only [Act.put,List.setIfInBounds_toArray,List.set_cons_zero,List.set_cons_succ]
   refine wpAnyK_take (i:=13) (oi := { dst:=some 16,op:=Op.pick (Operand.tmp 12) (Operand.tmp 15) (Operand.const (Value.bool false)),type:=4,pos := "part.go:357",after:=#[{ on:=9,ground:=Ground.data },{ on:=12,ground:=Ground.data }],guard:=none }) (v:=?_) rfl (by kernel_rfl) (by kernel_rfl) (by kernel_rfl) (by kernel_rfl) (fun _ _ _ h=>h) (Or.inl ⟨by rfl,?_⟩) (by assumption) ?_
   rotate_left
   ·intro w' hSw
    (try dsimp only at hSw)
    first | (go_simp;done) | (go_simp;with_reducible rfl)
   try simp only [Act.put,List.setIfInBounds_toArray,List.set_cons_zero,List.set_cons_succ]
   refine wpAnyK_take (i:=14) (oi := { dst:=some 17,op:=Op.move (Operand.tmp 16),type:=4,pos := "part.go:357",after:=#[{ on:=13,ground:=Ground.data },{ on:=12,ground:=Ground.chain }],guard:=none }) (v:=?_) rfl (by kernel_rfl) (by kernel_rfl) (by kernel_rfl) (by kernel_rfl) (fun _ _ _ h=>h) (Or.inl ⟨by rfl,?_⟩) (by assumption) ?_
   rotate_left
   ·intro w' hSw
    (try dsimp only at hSw)
    first | (go_simp;done) | (go_simp;with_reducible rfl)
   try simp only [Act.put,List.setIfInBounds_toArray,List.set_cons_zero,List.set_cons_succ]
   refine wpAnyK_take (i:=15) (oi := { dst:=some 18,op:=Op.fieldAddr 50 (Operand.tmp 1) 4,type:=0,pos := "part.go:357",after:=#[{ on:=14,ground:=Ground.guard }],guard:=some (14,true) }) (v:=?_) rfl (by kernel_rfl) (by kernel_rfl) (by kernel_rfl) (by kernel_rfl) (fun _ _ _ h=>h) (Or.inl ⟨by rfl,?_⟩) (by assumption) ?_
   rotate_left
   ·intro w' hSw
    (try dsimp only at hSw)
    first | (go_simp;done) | (go_simp;with_reducible rfl)
   try simp only [Act.put,List.setIfInBounds_toArray,List.set_cons_zero,List.set_cons_succ]
   refine wpAnyK_take (i:=16) (oi := { dst:=some 19,op:=Op.load 48 (Operand.tmp 18),type:=48,pos := "part.go:357",after:=#[{ on:=15,ground:=Ground.data },{ on:=14,ground:=Ground.guard }],guard:=some (14,true) }) (v:=?_) rfl (by kernel_rfl) (by kernel_rfl) (by kernel_rfl) (by kernel_rfl) (fun _ _ _ h=>h) (Or.inl ⟨by rfl,?_⟩) (by assumption) ?_
   rotate_left
   ·intro w' hSw
    (try dsimp only at hSw)
    first | (go_simp;done) | (go_simp;with_reducible rfl)
   try simp only [Act.put,List.setIfInBounds_toArray,List.set_cons_zero,List.set_cons_succ]
   refine wpAnyK_take (i:=17) (oi := { dst:=some 20,op:=Op.fieldAddr 50 (Operand.tmp 1) 4,type:=0,pos := "part.go:357",after:=#[{ on:=14,ground:=Ground.guard }],guard:=some (14,true) }) (v:=?_) rfl (by kernel_rfl) (by kernel_rfl) (by kernel_rfl) (by kernel_rfl) (fun _ _ _ h=>h) (Or.inl ⟨by rfl,?_⟩) (by assumption) ?_
   rotate_left
   ·intro w' hSw
    (try dsimp only at hSw)
    first | (go_simp;done) | (go_simp;with_reducible rfl)
   try simp only [Act.put,List.setIfInBounds_toArray,List.set_cons_zero,List.set_cons_succ]
   refine wpAnyK_take (i:=18) (oi := { dst:=some 21,op:=Op.load 48 (Operand.tmp 20),type:=48,pos := "part.go:357",after:=#[{ on:=17,ground:=Ground.data },{ on:=14,ground:=Ground.guard }],guard:=some (14,true) }) (v:=?_) rfl (by kernel_rfl) (by kernel_rfl) (by kernel_rfl) (by kernel_rfl) (fun _ _ _ h=>h) (Or.inl ⟨by rfl,?_⟩) (by assumption) ?_
   rotate_left
   ·intro w' hSw
    (try dsimp only at hSw)
    first | (go_simp;done) | (go_simp;with_reducible rfl)
   try simp only [Act.put,List.setIfInBounds_toArray,List.set_cons_zero,List.set_cons_succ]
   refine wpAnyK_one (i:=19) (o := { dst:=some 22,op:=Op.call { callee:=Callee.value (Operand.func 50),args:=#[Operand.tmp 21],argTypes:=#[48] },type:=48,pos := "part.go:357",after:=#[{ on:=18,ground:=Ground.data },{ on:=14,ground:=Ground.chain },{ on:=14,ground:=Ground.guard }],guard:=some (14,true) }) (by kernel_rfl) rfl (fun K hK=>?_)
   go_simp
   go_at_call 50
   refine (HCN.out w3 HI3.out.2.1).mono ?_
   rintro e w4 ⟨⟨m',rfl,hin,ho,hh⟩,hbn⟩
   have HX4:=hid (p_below HX3.out hbn)
   have HB4:=hid (HB3.out.trans (hbn.mono HB3.out.size))
   have HI4:=hid (HI3.out.below hbn)
   have HSM:=hid (shapeSame_any p.sh m' w4 HI4.out.2.1 hin.sin)
   rw [ho,hh] at HSM
   rw [← HRB.out] at HSM
   unfold shapeVals rowVal holesVal at HSM
   clear hbn hin ho hh
   refine hK.out _ _ ?_ (fun _=>?_) (fun hHeld=>?_)
   ·trivial
   ·exact ⟨cell_of HX4.out 0 _ rfl,cell_of HX4.out 1 _ rfl,cell_of HX4.out 2 _ rfl,cell_of HX4.out 3 _ rfl,cell_of HX4.out 4 _ rfl,cell_of HX4.out 5 _ rfl⟩
   replace hHeld:=And.intro hHeld.1 (hHeld.2 (by decide))
   clear hK K
   try simp only [Act.put,List.setIfInBounds_toArray,List.set_cons_zero,List.set_cons_succ]
   refine wpAnyK_one (i:=20) (o := { dst:=some 23,op:=Op.call { callee:=Callee.value (Operand.func 57),args:=#[Operand.tmp 19,Operand.tmp 22],argTypes:=#[48,48] },type:=4,pos := "part.go:357",after:=#[{ on:=16,ground:=Ground.data },{ on:=19,ground:=Ground.data },{ on:=19,ground:=Ground.chain },{ on:=14,ground:=Ground.guard }],guard:=some (14,true) }) (by kernel_rfl) rfl (fun K hK=>?_)
   go_simp
   go_at_call 57
   refine (HSM.out).mono ?_
   rintro e w5 ⟨rfl,hbn⟩
   have HX5:=hid (p_below HX4.out hbn)
   have HB5:=hid (HB4.out.trans (hbn.mono HB4.out.size))
   have HI5:=hid (HI4.out.below hbn)
   clear hbn
   refine hK.out _ _ ?_ (fun _=>?_) (fun hHeld=>?_)
   ·trivial
   ·exact ⟨cell_of HX5.out 0 _ rfl,cell_of HX5.out 1 _ rfl,cell_of HX5.out 2 _ rfl,cell_of HX5.out 3 _ rfl,cell_of HX5.out 4 _ rfl,cell_of HX5.out 5 _ rfl⟩
   replace hHeld:=And.intro hHeld.1 (hHeld.2 (by decide))
   clear hK K
   try simp only [Act.put,List.setIfInBounds_toArray,List.set_cons_zero,List.set_cons_succ]
   refine wpAnyK_take (i:=21) (oi := { dst:=some 24,op:=Op.pick (Operand.tmp 17) (Operand.tmp 23) (Operand.const (Value.bool false)),type:=4,pos := "part.go:357",after:=#[{ on:=14,ground:=Ground.data },{ on:=20,ground:=Ground.data }],guard:=none }) (v:=?_) rfl (by kernel_rfl) (by kernel_rfl) (by kernel_rfl) (by kernel_rfl) (fun _ _ _ h=>h) (Or.inl ⟨by rfl,?_⟩) (by assumption) ?_
   rotate_left
   ·intro w' hSw
    (try dsimp only at hSw)
    first | (go_simp;done) | (go_simp;with_reducible rfl)
   try simp only [Act.put,List.setIfInBounds_toArray,List.set_cons_zero,List.set_cons_succ]
   refine wpAnyK_one (i:=22) (o := { dst:=some 2,op:=Op.assign (Operand.tmp 24),type:=4,pos := "part.go:357",after:=#[{ on:=21,ground:=Ground.data },{ on:=20,ground:=Ground.chain },{ on:=0,ground:=Ground.phase },{ on:=1,ground:=Ground.phase },{ on:=2,ground:=Ground.phase },{ on:=3,ground:=Ground.phase },{ on:=4,ground:=Ground.phase },{ on:=5,ground:=Ground.phase },{ on:=6,ground:=Ground.phase },{ on:=7,ground:=Ground.phase },{ on:=8,ground:=Ground.phase },{ on:=9,ground:=Ground.phase },{ on:=10,ground:=Ground.phase },{ on:=11,ground:=Ground.phase },{ on:=12,ground:=Ground.phase },{ on:=13,ground:=Ground.phase },{ on:=14,ground:=Ground.phase },{ on:=15,ground:=Ground.phase },{ on:=16,ground:=Ground.phase },{ on:=17,ground:=Ground.phase },{ on:=18,ground:=Ground.phase },{ on:=19,ground:=Ground.phase },{ on:=20,ground:=Ground.phase },{ on:=21,ground:=Ground.phase }],guard:=none }) (by kernel_rfl) rfl (fun K hK=>?_)
   go_simp
   refine hK.out _ _ ?_ (fun hne=>?_) (fun hHeld=>?_)
   ·trivial
   ·exact absurd rfl hne
   clear hK K
   try simp only [Act.put,List.setIfInBounds_toArray,List.set_cons_zero,List.set_cons_succ]
   refine wpAnyK_done (by kernel_rfl) ?_ _
   go_wp2
   go_ret
   exact ⟨rfl,HB5.out⟩
end Go.Proofs.YtnkkcknogkgdkaaGreatDoor.PaW

namespace Go.Proofs.YtnkkcknogkgdkaaGreatDoor.PaW
open Lib (hid)
open Go Go.RowKit Go.Proofs.YtnkkcknogkgdkaaGreatDoor.Mem Go.Proofs.YtnkkcknogkgdkaaGreatDoor.Pa
open Go.Proofs.YtnkkcknogkgdkaaGreatDoor.Ge (V)
open Go.Proofs.YtnkkcknogkgdkaaGreatDoor.Lex (Tok)
open Go.Proofs.YtnkkcknogkgdkaaGreatDoor.LexW (tokCells)
attribute [local go_sem ↓] Go.wp_at_zero Go.wp_at_succ

open Go.Proofs.YtnkkcknogkgdkaaGreatDoor.GeW (ptCells pt_len RowV rowVal ShapeM ShapeIn shapeVals holesL holesVal shapeOk_any rshapeOk_any)
open Go.Proofs.YtnkkcknogkgdkaaGreatDoor.Ge (beginL sortH shapeB rightB shape_same rshapeB)
theorem named_parts (nm gr:List UInt8) (g:Int) (ts:List Int):namedOk nm gr g ts=(Lex.isName nm&&(Lex.isName gr&&(decide (0≤g)&&(decide (g≤2)&&turnsOk ts)))):=by
 unfold namedOk
 rfl
set_option maxRecDepth 100000 in
set_option maxHeartbeats 8000000 in
theorem rright_any (p:PartM) (w:World) (h:PartIn w p) :
  Calls Tryz.prog 25 #[.agg (partCells p).toArray] w fun e w'=>e=.returned (.bool (namedOk p.name p.grade p.grain p.turns&&rightB p.sh.o.l (holesL p.sh)))∧Below w.heap.size w w':=by
 have hb1:=bel1 w (.cells #[.string ⟨p.name.toArray⟩,.string ⟨p.grade.toArray⟩,.int .i64 p.grain,.slice p.tA p.turns.length p.tc,.slice p.sh.o.A p.sh.o.l.length p.sh.o.k,.slice p.sh.B p.sh.hs.length p.sh.k] 50)
 have HBA:=hid hb1
 have HX1:Hid ((w.alloc (.cells #[.string ⟨p.name.toArray⟩,.string ⟨p.grade.toArray⟩,.int .i64 p.grain,.slice p.tA p.turns.length p.tc,.slice p.sh.o.A p.sh.o.l.length p.sh.o.k,.slice p.sh.B p.sh.hs.length p.sh.k] 50)).drew.heap[w.heap.size]? = some (.cells #[.string ⟨p.name.toArray⟩,.string ⟨p.grade.toArray⟩,.int .i64 p.grain,.slice p.tA p.turns.length p.tc,.slice p.sh.o.A p.sh.o.l.length p.sh.o.k,.slice p.sh.B p.sh.hs.length p.sh.k] 50 (0,0))):=hid (heap_new w (.cells #[.string ⟨p.name.toArray⟩,.string ⟨p.grade.toArray⟩,.int .i64 p.grain,.slice p.tA p.turns.length p.tc,.slice p.sh.o.A p.sh.o.l.length p.sh.o.k,.slice p.sh.B p.sh.hs.length p.sh.k] 50))
 have hb1d:Below w.heap.size w (w.alloc (.cells #[.string ⟨p.name.toArray⟩,.string ⟨p.grade.toArray⟩,.int .i64 p.grain,.slice p.tA p.turns.length p.tc,.slice p.sh.o.A p.sh.o.l.length p.sh.o.k,.slice p.sh.B p.sh.hs.length p.sh.k] 50)).drew:=below_drewN hb1 1
 have HB1:=hid hb1d
 have HI1:=hid (h.below hb1d)
 have KS:Hid (((w.alloc (.cells #[.string ⟨p.name.toArray⟩,.string ⟨p.grade.toArray⟩,.int .i64 p.grain,.slice p.tA p.turns.length p.tc,.slice p.sh.o.A p.sh.o.l.length p.sh.o.k,.slice p.sh.B p.sh.hs.length p.sh.k] 50)).drew.cell? ⟨w.heap.size,0,none⟩=some (.string ⟨p.name.toArray⟩)∧(w.alloc (.cells #[.string ⟨p.name.toArray⟩,.string ⟨p.grade.toArray⟩,.int .i64 p.grain,.slice p.tA p.turns.length p.tc,.slice p.sh.o.A p.sh.o.l.length p.sh.o.k,.slice p.sh.B p.sh.hs.length p.sh.k] 50)).drew.cell? ⟨w.heap.size,1,none⟩=some (.string ⟨p.grade.toArray⟩)∧(w.alloc (.cells #[.string ⟨p.name.toArray⟩,.string ⟨p.grade.toArray⟩,.int .i64 p.grain,.slice p.tA p.turns.length p.tc,.slice p.sh.o.A p.sh.o.l.length p.sh.o.k,.slice p.sh.B p.sh.hs.length p.sh.k] 50)).drew.cell? ⟨w.heap.size,2,none⟩=some (.int .i64 p.grain)∧(w.alloc (.cells #[.string ⟨p.name.toArray⟩,.string ⟨p.grade.toArray⟩,.int .i64 p.grain,.slice p.tA p.turns.length p.tc,.slice p.sh.o.A p.sh.o.l.length p.sh.o.k,.slice p.sh.B p.sh.hs.length p.sh.k] 50)).drew.cell? ⟨w.heap.size,3,none⟩=some (.slice p.tA p.turns.length p.tc)∧(w.alloc (.cells #[.string ⟨p.name.toArray⟩,.string ⟨p.grade.toArray⟩,.int .i64 p.grain,.slice p.tA p.turns.length p.tc,.slice p.sh.o.A p.sh.o.l.length p.sh.o.k,.slice p.sh.B p.sh.hs.length p.sh.k] 50)).drew.cell? ⟨w.heap.size,4,none⟩=some (.slice p.sh.o.A p.sh.o.l.length p.sh.o.k)∧(w.alloc (.cells #[.string ⟨p.name.toArray⟩,.string ⟨p.grade.toArray⟩,.int .i64 p.grain,.slice p.tA p.turns.length p.tc,.slice p.sh.o.A p.sh.o.l.length p.sh.o.k,.slice p.sh.B p.sh.hs.length p.sh.k] 50)).drew.cell? ⟨w.heap.size,5,none⟩=some (.slice p.sh.B p.sh.hs.length p.sh.k))):=hid ⟨cell_of HX1.out 0 _ rfl,cell_of HX1.out 1 _ rfl,cell_of HX1.out 2 _ rfl,cell_of HX1.out 3 _ rfl,cell_of HX1.out 4 _ rfl,cell_of HX1.out 5 _ rfl⟩
 have HSV:=hid (fun W (hW:ShapeIn W p.sh)=>rshapeOk_any p.sh W hW)
 rw [shape_same] at HSV
 have HN1:=hid (fun W=>rname_of p.name h.2.2.2.1 W)
 have HN2:=hid (fun W=>rname_of p.grade h.2.2.2.2 W)
 have HTU:=hid (fun W (hW:Row W p.tA (p.turns.map (Value.int .i64)))=>rturns_any p.turns p.tA p.tc W hW h.2.2.1)
 have HIW:=hid (fun W (hW:Below w.heap.size w W)=>h.below hW)
 unfold partCells strV rowVal holesVal
 unfold shapeVals rowVal holesVal at HSV
 rw [named_parts]
 unfold rightB
 obtain ⟨b1,hb1e⟩:∃ b,Lex.isName p.name=b:=⟨_,rfl⟩
 obtain ⟨b2,hb2e⟩:∃ b,Lex.isName p.grade=b:=⟨_,rfl⟩
 obtain ⟨b3,hb3e⟩:∃ b,decide (0≤p.grain)=b:=⟨_,rfl⟩
 obtain ⟨b4,hb4e⟩:∃ b,decide (p.grain≤2)=b:=⟨_,rfl⟩
 obtain ⟨b5,hb5e⟩:∃ b,turnsOk p.turns=b:=⟨_,rfl⟩
 obtain ⟨b6,hb6e⟩:∃ b,shapeB p.sh.o.l (holesL p.sh)=b:=⟨_,rfl⟩
 have HVE:=hid hb6e
 rw [hb1e] at HN1
 rw [hb2e] at HN2
 rw [hb5e] at HTU
 rw [hb6e] at HSV
 rw [hb1e,hb2e,hb3e,hb4e,hb5e,hb6e]
 clear h hb1 hb1d hb1e hb2e hb5e hb6e
 by_cases hall:(b1&&(b2&&(b3&&(b4&&(b5&&b6)))))=true
 ·simp only [Bool.and_eq_true] at hall
  obtain ⟨rfl,rfl,rfl,rfl,rfl,rfl⟩:=hall
  have HCN:=hid (fun W (hW:ShapeIn W p.sh)=>rcanonS_any p.sh W hW HVE.out)
  unfold shapeVals rowVal holesVal at HCN
  simp only [Bool.true_and]
  obtain ⟨rb,HRB⟩:∃ rb,Hid (rb=(decide (beginL p.sh.o.l=p.sh.o.l)&&decide (sortH ((holesL p.sh).map beginL)=holesL p.sh))):=⟨_,hid rfl⟩
  have HRV:Hid ((decide (p.sh.o.l=beginL p.sh.o.l)&&decide (holesL p.sh=sortH ((holesL p.sh).map beginL)))=rb):=hid (by rw [HRB.out,Bool.eq_iff_iff];simp only [Bool.and_eq_true,decide_eq_true_eq];exact ⟨fun h=>⟨h.1.symm,h.2.symm⟩,fun h=>⟨h.1.symm,h.2.symm⟩⟩)
  rw [HRV.out]
  clear HIW
  go_enter Tryz.func25,Tryz.ntmps25
  go_upto_region 1 with fail
  have HX0:Hid ((w.alloc (.cells #[.string ⟨p.name.toArray⟩,.string ⟨p.grade.toArray⟩,.int .i64 p.grain,.slice p.tA p.turns.length p.tc,.slice p.sh.o.A p.sh.o.l.length p.sh.o.k,.slice p.sh.B p.sh.hs.length p.sh.k] 50)).heap[w.heap.size]? = some (.cells #[.string ⟨p.name.toArray⟩,.string ⟨p.grade.toArray⟩,.int .i64 p.grain,.slice p.tA p.turns.length p.tc,.slice p.sh.o.A p.sh.o.l.length p.sh.o.k,.slice p.sh.B p.sh.hs.length p.sh.k] 50 (0,0))):=hid (heap_new w (.cells #[.string ⟨p.name.toArray⟩,.string ⟨p.grade.toArray⟩,.int .i64 p.grain,.slice p.tA p.turns.length p.tc,.slice p.sh.o.A p.sh.o.l.length p.sh.o.k,.slice p.sh.B p.sh.hs.length p.sh.k] 50))
  generalize w.alloc (.cells #[.string ⟨p.name.toArray⟩,.string ⟨p.grade.toArray⟩,.int .i64 p.grain,.slice p.tA p.turns.length p.tc,.slice p.sh.o.A p.sh.o.l.length p.sh.o.k,.slice p.sh.B p.sh.hs.length p.sh.k] 50)=W1 at *
  clear HX0
  refine wp_region_tillK (k:=36) (S1:=fun w'=>True) (S2:=fun w'=>(w'.cell? ⟨w.heap.size,0,none⟩=some (.string ⟨p.name.toArray⟩)∧w'.cell? ⟨w.heap.size,1,none⟩=some (.string ⟨p.grade.toArray⟩)∧w'.cell? ⟨w.heap.size,2,none⟩=some (.int .i64 p.grain)∧w'.cell? ⟨w.heap.size,3,none⟩=some (.slice p.tA p.turns.length p.tc)∧w'.cell? ⟨w.heap.size,4,none⟩=some (.slice p.sh.o.A p.sh.o.l.length p.sh.o.k)∧w'.cell? ⟨w.heap.size,5,none⟩=some (.slice p.sh.B p.sh.hs.length p.sh.k))) (by kernel_rfl) ?_ (fun hHeld=>?_)
  ·exact ⟨trivial,KS.out⟩
  refine wpAnyK_take (i:=0) (oi := { dst:=some 3,op:=Op.fieldAddr 50 (Operand.tmp 1) 0,type:=0,pos := "ref.go:375",after:=#[],guard:=none }) (v:=?_) rfl (by kernel_rfl) (by kernel_rfl) (by kernel_rfl) (by kernel_rfl) (fun _ _ _ h=>h) (Or.inl ⟨by rfl,?_⟩) (by assumption) ?_
  rotate_left
  ·intro w' hSw
   (try dsimp only at hSw)
   first | (go_simp;done) | (go_simp;with_reducible rfl)
  try simp only [Act.put,List.setIfInBounds_toArray,List.set_cons_zero,List.set_cons_succ]
  refine wpAnyK_take (i:=1) (oi := { dst:=some 4,op:=Op.load 9 (Operand.tmp 3),type:=9,pos := "ref.go:375",after:=#[{ on:=0,ground:=Ground.data }],guard:=none }) (v:=?_) rfl (by kernel_rfl) (by kernel_rfl) (by kernel_rfl) (by kernel_rfl) (fun _ _ _ h=>h) (Or.inl ⟨by rfl,?_⟩) (by assumption) ?_
  rotate_left
  ·intro w' hSw
   (try dsimp only at hSw)
   first | (go_simp;done) | (go_simp;with_reducible rfl)
  try simp only [Act.put,List.setIfInBounds_toArray,List.set_cons_zero,List.set_cons_succ]
  refine wpAnyK_one (i:=2) (o := { dst:=some 5,op:=Op.call { callee:=Callee.value (Operand.func 58),args:=#[Operand.tmp 4],argTypes:=#[9] },type:=4,pos := "ref.go:375",after:=#[{ on:=1,ground:=Ground.data }],guard:=none }) (by kernel_rfl) rfl (fun K hK=>?_)
  go_simp
  go_at_call 58
  refine (HN1.out _).mono ?_
  rintro e w2 ⟨rfl,hbn⟩
  have HX2:=hid (p_below HX1.out hbn)
  have HB2:=hid (HB1.out.trans (hbn.mono HB1.out.size))
  have HI2:=hid (HI1.out.below hbn)
  clear hbn
  refine hK.out _ _ ?_ (fun _=>?_) (fun hHeld=>?_)
  ·trivial
  ·exact ⟨cell_of HX2.out 0 _ rfl,cell_of HX2.out 1 _ rfl,cell_of HX2.out 2 _ rfl,cell_of HX2.out 3 _ rfl,cell_of HX2.out 4 _ rfl,cell_of HX2.out 5 _ rfl⟩
  replace hHeld:=And.intro hHeld.1 (hHeld.2 (by decide))
  clear hK K
  try simp only [Act.put,List.setIfInBounds_toArray,List.set_cons_zero,List.set_cons_succ]
  refine wpAnyK_take (i:=3) (oi := { dst:=some 6,op:=Op.move (Operand.tmp 5),type:=4,pos := "ref.go:375",after:=#[{ on:=2,ground:=Ground.data },{ on:=2,ground:=Ground.chain }],guard:=none }) (v:=?_) rfl (by kernel_rfl) (by kernel_rfl) (by kernel_rfl) (by kernel_rfl) (fun _ _ _ h=>h) (Or.inl ⟨by rfl,?_⟩) (by assumption) ?_
  rotate_left
  ·intro w' hSw
   (try dsimp only at hSw)
   first | (go_simp;done) | (go_simp;with_reducible rfl)
  try simp only [Act.put,List.setIfInBounds_toArray,List.set_cons_zero,List.set_cons_succ]
  refine wpAnyK_take (i:=4) (oi := { dst:=some 7,op:=Op.fieldAddr 50 (Operand.tmp 1) 1,type:=0,pos := "ref.go:375",after:=#[{ on:=3,ground:=Ground.guard }],guard:=some (3,true) }) (v:=?_) rfl (by kernel_rfl) (by kernel_rfl) (by kernel_rfl) (by kernel_rfl) (fun _ _ _ h=>h) (Or.inl ⟨by rfl,?_⟩) (by assumption) ?_
  rotate_left
  ·intro w' hSw
   (try dsimp only at hSw)
   first | (go_simp;done) | (go_simp;with_reducible rfl)
  try simp only [Act.put,List.setIfInBounds_toArray,List.set_cons_zero,List.set_cons_succ]
  refine wpAnyK_take (i:=5) (oi := { dst:=some 8,op:=Op.load 9 (Operand.tmp 7),type:=9,pos := "ref.go:375",after:=#[{ on:=4,ground:=Ground.data },{ on:=3,ground:=Ground.guard }],guard:=some (3,true) }) (v:=?_) rfl (by kernel_rfl) (by kernel_rfl) (by kernel_rfl) (by kernel_rfl) (fun _ _ _ h=>h) (Or.inl ⟨by rfl,?_⟩) (by assumption) ?_
  rotate_left
  ·intro w' hSw
   (try dsimp only at hSw)
   first | (go_simp;done) | (go_simp;with_reducible rfl)
  try simp only [Act.put,List.setIfInBounds_toArray,List.set_cons_zero,List.set_cons_succ]
  refine wpAnyK_one (i:=6) (o := { dst:=some 9,op:=Op.call { callee:=Callee.value (Operand.func 58),args:=#[Operand.tmp 8],argTypes:=#[9] },type:=4,pos := "ref.go:375",after:=#[{ on:=5,ground:=Ground.data },{ on:=3,ground:=Ground.chain },{ on:=3,ground:=Ground.guard }],guard:=some (3,true) }) (by kernel_rfl) rfl (fun K hK=>?_)
  go_simp
  go_at_call 58
  refine (HN2.out _).mono ?_
  rintro e w3 ⟨rfl,hbn⟩
  have HX3:=hid (p_below HX2.out hbn)
  have HB3:=hid (HB2.out.trans (hbn.mono HB2.out.size))
  have HI3:=hid (HI2.out.below hbn)
  clear hbn
  refine hK.out _ _ ?_ (fun _=>?_) (fun hHeld=>?_)
  ·trivial
  ·exact ⟨cell_of HX3.out 0 _ rfl,cell_of HX3.out 1 _ rfl,cell_of HX3.out 2 _ rfl,cell_of HX3.out 3 _ rfl,cell_of HX3.out 4 _ rfl,cell_of HX3.out 5 _ rfl⟩
  replace hHeld:=And.intro hHeld.1 (hHeld.2 (by decide))
  clear hK K
  try simp only [Act.put,List.setIfInBounds_toArray,List.set_cons_zero,List.set_cons_succ]
  refine wpAnyK_take (i:=7) (oi := { dst:=some 10,op:=Op.pick (Operand.tmp 6) (Operand.tmp 9) (Operand.const (Value.bool false)),type:=4,pos := "ref.go:375",after:=#[{ on:=3,ground:=Ground.data },{ on:=6,ground:=Ground.data }],guard:=none }) (v:=?_) rfl (by kernel_rfl) (by kernel_rfl) (by kernel_rfl) (by kernel_rfl) (fun _ _ _ h=>h) (Or.inl ⟨by rfl,?_⟩) (by assumption) ?_
  rotate_left
  ·intro w' hSw
   (try dsimp only at hSw)
   first | (go_simp;done) | (go_simp;with_reducible rfl)
  try simp only [Act.put,List.setIfInBounds_toArray,List.set_cons_zero,List.set_cons_succ]
  refine wpAnyK_take (i:=8) (oi := { dst:=some 11,op:=Op.move (Operand.tmp 10),type:=4,pos := "ref.go:375",after:=#[{ on:=7,ground:=Ground.data },{ on:=6,ground:=Ground.chain }],guard:=none }) (v:=?_) rfl (by kernel_rfl) (by kernel_rfl) (by kernel_rfl) (by kernel_rfl) (fun _ _ _ h=>h) (Or.inl ⟨by rfl,?_⟩) (by assumption) ?_
  rotate_left
  ·intro w' hSw
   (try dsimp only at hSw)
   first | (go_simp;done) | (go_simp;with_reducible rfl)
  try simp only [Act.put,List.setIfInBounds_toArray,List.set_cons_zero,List.set_cons_succ]
  refine wpAnyK_take (i:=9) (oi := { dst:=some 12,op:=Op.fieldAddr 50 (Operand.tmp 1) 2,type:=0,pos := "ref.go:375",after:=#[{ on:=8,ground:=Ground.guard }],guard:=some (8,true) }) (v:=?_) rfl (by kernel_rfl) (by kernel_rfl) (by kernel_rfl) (by kernel_rfl) (fun _ _ _ h=>h) (Or.inl ⟨by rfl,?_⟩) (by assumption) ?_
  rotate_left
  ·intro w' hSw
   (try dsimp only at hSw)
   first | (go_simp;done) | (go_simp;with_reducible rfl)
  try simp only [Act.put,List.setIfInBounds_toArray,List.set_cons_zero,List.set_cons_succ]
  refine wpAnyK_take (i:=10) (oi := { dst:=some 13,op:=Op.load 3 (Operand.tmp 12),type:=3,pos := "ref.go:375",after:=#[{ on:=9,ground:=Ground.data },{ on:=8,ground:=Ground.guard }],guard:=some (8,true) }) (v:=?_) rfl (by kernel_rfl) (by kernel_rfl) (by kernel_rfl) (by kernel_rfl) (fun _ _ _ h=>h) (Or.inl ⟨by rfl,?_⟩) (by assumption) ?_
  rotate_left
  ·intro w' hSw
   (try dsimp only at hSw)
   first | (go_simp;done) | (go_simp;with_reducible rfl)
  try simp only [Act.put,List.setIfInBounds_toArray,List.set_cons_zero,List.set_cons_succ]
  refine wpAnyK_take (i:=11) (oi := { dst:=some 14,op:=Op.binOp BinOp.geq 3 (Operand.tmp 13) (Operand.const (Value.int IntKind.i64 0)) 3,type:=4,pos := "ref.go:375",after:=#[{ on:=10,ground:=Ground.data },{ on:=8,ground:=Ground.guard }],guard:=some (8,true) }) (v:=?_) rfl (by kernel_rfl) (by kernel_rfl) (by kernel_rfl) (by kernel_rfl) (fun _ _ _ h=>h) (Or.inl ⟨by rfl,?_⟩) (by assumption) ?_
  rotate_left
  ·intro w' hSw
   (try dsimp only at hSw)
   first | (go_simp;done) | (go_simp;with_reducible rfl)
  try simp only [Act.put,List.setIfInBounds_toArray,List.set_cons_zero,List.set_cons_succ]
  refine wpAnyK_take (i:=12) (oi := { dst:=some 15,op:=Op.pick (Operand.tmp 11) (Operand.tmp 14) (Operand.const (Value.bool false)),type:=4,pos := "ref.go:375",after:=#[{ on:=8,ground:=Ground.data },{ on:=11,ground:=Ground.data }],guard:=none }) (v:=?_) rfl (by kernel_rfl) (by kernel_rfl) (by kernel_rfl) (by kernel_rfl) (fun _ _ _ h=>h) (Or.inl ⟨by rfl,?_⟩) (by assumption) ?_
  rotate_left
  ·intro w' hSw
   (try dsimp only at hSw)
   first | (go_simp;done) | (go_simp;with_reducible rfl)
  try simp only [Act.put,List.setIfInBounds_toArray,List.set_cons_zero,List.set_cons_succ]
  refine wpAnyK_take (i:=13) (oi := { dst:=some 16,op:=Op.move (Operand.tmp 15),type:=4,pos := "ref.go:375",after:=#[{ on:=12,ground:=Ground.data },{ on:=8,ground:=Ground.chain }],guard:=none }) (v:=?_) rfl (by kernel_rfl) (by kernel_rfl) (by kernel_rfl) (by kernel_rfl) (fun _ _ _ h=>h) (Or.inl ⟨by rfl,?_⟩) (by assumption) ?_
  rotate_left
  ·intro w' hSw
   (try dsimp only at hSw)
   first | (go_simp;done) | (go_simp;with_reducible rfl)
  try simp only [Act.put,List.setIfInBounds_toArray,List.set_cons_zero,List.set_cons_succ]
  refine wpAnyK_take (i:=14) (oi := { dst:=some 17,op:=Op.fieldAddr 50 (Operand.tmp 1) 2,type:=0,pos := "ref.go:375",after:=#[{ on:=13,ground:=Ground.guard }],guard:=some (13,true) }) (v:=?_) rfl (by kernel_rfl) (by kernel_rfl) (by kernel_rfl) (by kernel_rfl) (fun _ _ _ h=>h) (Or.inl ⟨by rfl,?_⟩) (by assumption) ?_
  rotate_left
  ·intro w' hSw
   (try dsimp only at hSw)
   first | (go_simp;done) | (go_simp;with_reducible rfl)
  try simp only [Act.put,List.setIfInBounds_toArray,List.set_cons_zero,List.set_cons_succ]
  refine wpAnyK_take (i:=15) (oi := { dst:=some 18,op:=Op.load 3 (Operand.tmp 17),type:=3,pos := "ref.go:375",after:=#[{ on:=14,ground:=Ground.data },{ on:=13,ground:=Ground.guard }],guard:=some (13,true) }) (v:=?_) rfl (by kernel_rfl) (by kernel_rfl) (by kernel_rfl) (by kernel_rfl) (fun _ _ _ h=>h) (Or.inl ⟨by rfl,?_⟩) (by assumption) ?_
  rotate_left
  ·intro w' hSw
   (try dsimp only at hSw)
   first | (go_simp;done) | (go_simp;with_reducible rfl)
  try simp only [Act.put,List.setIfInBounds_toArray,List.set_cons_zero,List.set_cons_succ]
  refine wpAnyK_take (i:=16) (oi := { dst:=some 19,op:=Op.binOp BinOp.leq 3 (Operand.tmp 18) (Operand.const (Value.int IntKind.i64 2)) 3,type:=4,pos := "ref.go:375",after:=#[{ on:=15,ground:=Ground.data },{ on:=13,ground:=Ground.guard }],guard:=some (13,true) }) (v:=?_) rfl (by kernel_rfl) (by kernel_rfl) (by kernel_rfl) (by kernel_rfl) (fun _ _ _ h=>h) (Or.inl ⟨by rfl,?_⟩) (by assumption) ?_
  rotate_left
  ·intro w' hSw
   (try dsimp only at hSw)
   first | (go_simp;done) | (go_simp;with_reducible rfl)
  try simp only [Act.put,List.setIfInBounds_toArray,List.set_cons_zero,List.set_cons_succ]
  refine wpAnyK_take (i:=17) (oi := { dst:=some 20,op:=Op.pick (Operand.tmp 16) (Operand.tmp 19) (Operand.const (Value.bool false)),type:=4,pos := "ref.go:375",after:=#[{ on:=13,ground:=Ground.data },{ on:=16,ground:=Ground.data }],guard:=none }) (v:=?_) rfl (by kernel_rfl) (by kernel_rfl) (by kernel_rfl) (by kernel_rfl) (fun _ _ _ h=>h) (Or.inl ⟨by rfl,?_⟩) (by assumption) ?_
  rotate_left
  ·intro w' hSw
   (try dsimp only at hSw)
   first | (go_simp;done) | (go_simp;with_reducible rfl)
  try simp only [Act.put,List.setIfInBounds_toArray,List.set_cons_zero,List.set_cons_succ]
  refine wpAnyK_take (i:=18) (oi := { dst:=some 21,op:=Op.move (Operand.tmp 20),type:=4,pos := "ref.go:375",after:=#[{ on:=17,ground:=Ground.data },{ on:=13,ground:=Ground.chain }],guard:=none }) (v:=?_) rfl (by kernel_rfl) (by kernel_rfl) (by kernel_rfl) (by kernel_rfl) (fun _ _ _ h=>h) (Or.inl ⟨by rfl,?_⟩) (by assumption) ?_
  rotate_left
  ·intro w' hSw
   (try dsimp only at hSw)
   first | (go_simp;done) | (go_simp;with_reducible rfl)
  try simp only [Act.put,List.setIfInBounds_toArray,List.set_cons_zero,List.set_cons_succ]
  refine wpAnyK_take (i:=19) (oi := { dst:=some 22,op:=Op.fieldAddr 50 (Operand.tmp 1) 3,type:=0,pos := "ref.go:375",after:=#[{ on:=18,ground:=Ground.guard }],guard:=some (18,true) }) (v:=?_) rfl (by kernel_rfl) (by kernel_rfl) (by kernel_rfl) (by kernel_rfl) (fun _ _ _ h=>h) (Or.inl ⟨by rfl,?_⟩) (by assumption) ?_
  rotate_left
  ·intro w' hSw
   (try dsimp only at hSw)
   first | (go_simp;done) | (go_simp;with_reducible rfl)
  try simp only [Act.put,List.setIfInBounds_toArray,List.set_cons_zero,List.set_cons_succ]
  refine wpAnyK_take (i:=20) (oi := { dst:=some 23,op:=Op.load 33 (Operand.tmp 22),type:=33,pos := "ref.go:375",after:=#[{ on:=19,ground:=Ground.data },{ on:=18,ground:=Ground.guard }],guard:=some (18,true) }) (v:=?_) rfl (by kernel_rfl) (by kernel_rfl) (by kernel_rfl) (by kernel_rfl) (fun _ _ _ h=>h) (Or.inl ⟨by rfl,?_⟩) (by assumption) ?_
  rotate_left
  ·intro w' hSw
   (try dsimp only at hSw)
   first | (go_simp;done) | (go_simp;with_reducible rfl)
  try simp only [Act.put,List.setIfInBounds_toArray,List.set_cons_zero,List.set_cons_succ]
  refine wpAnyK_one (i:=21) (o := { dst:=some 24,op:=Op.call { callee:=Callee.value (Operand.func 59),args:=#[Operand.tmp 23],argTypes:=#[33] },type:=4,pos := "ref.go:375",after:=#[{ on:=20,ground:=Ground.data },{ on:=18,ground:=Ground.chain },{ on:=18,ground:=Ground.guard }],guard:=some (18,true) }) (by kernel_rfl) rfl (fun K hK=>?_)
  go_simp
  go_at_call 59
  refine (HTU.out _ HI3.out.1).mono ?_
  rintro e w4 ⟨rfl,hbn⟩
  have HX4:=hid (p_below HX3.out hbn)
  have HB4:=hid (HB3.out.trans (hbn.mono HB3.out.size))
  have HI4:=hid (HI3.out.below hbn)
  clear hbn
  refine hK.out _ _ ?_ (fun _=>?_) (fun hHeld=>?_)
  ·trivial
  ·exact ⟨cell_of HX4.out 0 _ rfl,cell_of HX4.out 1 _ rfl,cell_of HX4.out 2 _ rfl,cell_of HX4.out 3 _ rfl,cell_of HX4.out 4 _ rfl,cell_of HX4.out 5 _ rfl⟩
  replace hHeld:=And.intro hHeld.1 (hHeld.2 (by decide))
  clear hK K
  try simp only [Act.put,List.setIfInBounds_toArray,List.set_cons_zero,List.set_cons_succ]
  refine wpAnyK_take (i:=22) (oi := { dst:=some 25,op:=Op.pick (Operand.tmp 21) (Operand.tmp 24) (Operand.const (Value.bool false)),type:=4,pos := "ref.go:375",after:=#[{ on:=18,ground:=Ground.data },{ on:=21,ground:=Ground.data }],guard:=none }) (v:=?_) rfl (by kernel_rfl) (by kernel_rfl) (by kernel_rfl) (by kernel_rfl) (fun _ _ _ h=>h) (Or.inl ⟨by rfl,?_⟩) (by assumption) ?_
  rotate_left
  ·intro w' hSw
   (try dsimp only at hSw)
   first | (go_simp;done) | (go_simp;with_reducible rfl)
  try simp only [Act.put,List.setIfInBounds_toArray,List.set_cons_zero,List.set_cons_succ]
  refine wpAnyK_take (i:=23) (oi := { dst:=some 26,op:=Op.move (Operand.tmp 25),type:=4,pos := "ref.go:375",after:=#[{ on:=22,ground:=Ground.data },{ on:=21,ground:=Ground.chain }],guard:=none }) (v:=?_) rfl (by kernel_rfl) (by kernel_rfl) (by kernel_rfl) (by kernel_rfl) (fun _ _ _ h=>h) (Or.inl ⟨by rfl,?_⟩) (by assumption) ?_
  rotate_left
  ·intro w' hSw
   (try dsimp only at hSw)
   first | (go_simp;done) | (go_simp;with_reducible rfl)
  try simp only [Act.put,List.setIfInBounds_toArray,List.set_cons_zero,List.set_cons_succ]
  refine wpAnyK_take (i:=24) (oi := { dst:=some 27,op:=Op.fieldAddr 50 (Operand.tmp 1) 4,type:=0,pos := "ref.go:375",after:=#[{ on:=23,ground:=Ground.guard }],guard:=some (23,true) }) (v:=?_) rfl (by kernel_rfl) (by kernel_rfl) (by kernel_rfl) (by kernel_rfl) (fun _ _ _ h=>h) (Or.inl ⟨by rfl,?_⟩) (by assumption) ?_
  rotate_left
  ·intro w' hSw
   (try dsimp only at hSw)
   first | (go_simp;done) | (go_simp;with_reducible rfl)
  try simp only [Act.put,List.setIfInBounds_toArray,List.set_cons_zero,List.set_cons_succ]
  refine wpAnyK_take (i:=25) (oi := { dst:=some 28,op:=Op.load 48 (Operand.tmp 27),type:=48,pos := "ref.go:375",after:=#[{ on:=24,ground:=Ground.data },{ on:=23,ground:=Ground.guard }],guard:=some (23,true) }) (v:=?_) rfl (by kernel_rfl) (by kernel_rfl) (by kernel_rfl) (by kernel_rfl) (fun _ _ _ h=>h) (Or.inl ⟨by rfl,?_⟩) (by assumption) ?_
  rotate_left
  ·intro w' hSw
   (try dsimp only at hSw)
   first | (go_simp;done) | (go_simp;with_reducible rfl)
  try simp only [Act.put,List.setIfInBounds_toArray,List.set_cons_zero,List.set_cons_succ]
  refine wpAnyK_one (i:=26) (o := { dst:=some 29,op:=Op.call { callee:=Callee.value (Operand.func 53),args:=#[Operand.tmp 28],argTypes:=#[48] },type:=4,pos := "ref.go:375",after:=#[{ on:=25,ground:=Ground.data },{ on:=23,ground:=Ground.chain },{ on:=23,ground:=Ground.guard }],guard:=some (23,true) }) (by kernel_rfl) rfl (fun K hK=>?_)
  go_simp
  go_at_call 53
  refine (HSV.out w4 HI4.out.2.1).mono ?_
  rintro e w5 ⟨rfl,hbn⟩
  have HX5:=hid (p_below HX4.out hbn)
  have HB5:=hid (HB4.out.trans (hbn.mono HB4.out.size))
  have HI5:=hid (HI4.out.below hbn)
  clear hbn
  refine hK.out _ _ ?_ (fun _=>?_) (fun hHeld=>?_)
  ·trivial
  ·exact ⟨cell_of HX5.out 0 _ rfl,cell_of HX5.out 1 _ rfl,cell_of HX5.out 2 _ rfl,cell_of HX5.out 3 _ rfl,cell_of HX5.out 4 _ rfl,cell_of HX5.out 5 _ rfl⟩
  replace hHeld:=And.intro hHeld.1 (hHeld.2 (by decide))
  clear hK K
  try simp only [Act.put,List.setIfInBounds_toArray,List.set_cons_zero,List.set_cons_succ]
  refine wpAnyK_take (i:=27) (oi := { dst:=some 30,op:=Op.pick (Operand.tmp 26) (Operand.tmp 29) (Operand.const (Value.bool false)),type:=4,pos := "ref.go:375",after:=#[{ on:=23,ground:=Ground.data },{ on:=26,ground:=Ground.data }],guard:=none }) (v:=?_) rfl (by kernel_rfl) (by kernel_rfl) (by kernel_rfl) (by kernel_rfl) (fun _ _ _ h=>h) (Or.inl ⟨by rfl,?_⟩) (by assumption) ?_
  rotate_left
  ·intro w' hSw
   (try dsimp only at hSw)
   first | (go_simp;done) | (go_simp;with_reducible rfl)
  try simp only [Act.put,List.setIfInBounds_toArray,List.set_cons_zero,List.set_cons_succ]
  refine wpAnyK_take (i:=28) (oi := { dst:=some 31,op:=Op.move (Operand.tmp 30),type:=4,pos := "ref.go:375",after:=#[{ on:=27,ground:=Ground.data },{ on:=26,ground:=Ground.chain }],guard:=none }) (v:=?_) rfl (by kernel_rfl) (by kernel_rfl) (by kernel_rfl) (by kernel_rfl) (fun _ _ _ h=>h) (Or.inl ⟨by rfl,?_⟩) (by assumption) ?_
  rotate_left
  ·intro w' hSw
   (try dsimp only at hSw)
   first | (go_simp;done) | (go_simp;with_reducible rfl)
  try simp only [Act.put,List.setIfInBounds_toArray,List.set_cons_zero,List.set_cons_succ]
  refine wpAnyK_take (i:=29) (oi := { dst:=some 32,op:=Op.fieldAddr 50 (Operand.tmp 1) 4,type:=0,pos := "ref.go:375",after:=#[{ on:=28,ground:=Ground.guard }],guard:=some (28,true) }) (v:=?_) rfl (by kernel_rfl) (by kernel_rfl) (by kernel_rfl) (by kernel_rfl) (fun _ _ _ h=>h) (Or.inl ⟨by rfl,?_⟩) (by assumption) ?_
  rotate_left
  ·intro w' hSw
   (try dsimp only at hSw)
   first | (go_simp;done) | (go_simp;with_reducible rfl)
  try simp only [Act.put,List.setIfInBounds_toArray,List.set_cons_zero,List.set_cons_succ]
  refine wpAnyK_take (i:=30) (oi := { dst:=some 33,op:=Op.load 48 (Operand.tmp 32),type:=48,pos := "ref.go:375",after:=#[{ on:=29,ground:=Ground.data },{ on:=28,ground:=Ground.guard }],guard:=some (28,true) }) (v:=?_) rfl (by kernel_rfl) (by kernel_rfl) (by kernel_rfl) (by kernel_rfl) (fun _ _ _ h=>h) (Or.inl ⟨by rfl,?_⟩) (by assumption) ?_
  rotate_left
  ·intro w' hSw
   (try dsimp only at hSw)
   first | (go_simp;done) | (go_simp;with_reducible rfl)
  try simp only [Act.put,List.setIfInBounds_toArray,List.set_cons_zero,List.set_cons_succ]
  refine wpAnyK_take (i:=32) (oi := { dst:=some 35,op:=Op.fieldAddr 50 (Operand.tmp 1) 4,type:=0,pos := "ref.go:375",after:=#[{ on:=28,ground:=Ground.guard }],guard:=some (28,true) }) (v:=?_) rfl (by kernel_rfl) (by kernel_rfl) (by kernel_rfl) (by kernel_rfl) (fun _ _ _ h=>h) (Or.inl ⟨by rfl,?_⟩) (by assumption) ?_
  rotate_left
  ·intro w' hSw
   (try dsimp only at hSw)
   first | (go_simp;done) | (go_simp;with_reducible rfl)
  try simp only [Act.put,List.setIfInBounds_toArray,List.set_cons_zero,List.set_cons_succ]
  refine wpAnyK_take (i:=33) (oi := { dst:=some 36,op:=Op.load 48 (Operand.tmp 35),type:=48,pos := "ref.go:375",after:=#[{ on:=32,ground:=Ground.data },{ on:=28,ground:=Ground.guard }],guard:=some (28,true) }) (v:=?_) rfl (by kernel_rfl) (by kernel_rfl) (by kernel_rfl) (by kernel_rfl) (fun _ _ _ h=>h) (Or.inl ⟨by rfl,?_⟩) (by assumption) ?_
  rotate_left
  ·intro w' hSw
   (try dsimp only at hSw)
   first | (go_simp;done) | (go_simp;with_reducible rfl)
  try simp only [Act.put,List.setIfInBounds_toArray,List.set_cons_zero,List.set_cons_succ]
  refine wpAnyK_one (i:=31) (o := { dst:=some 34,op:=Op.call { callee:=Callee.value (Operand.func 54),args:=#[Operand.tmp 33],argTypes:=#[48] },type:=48,pos := "ref.go:375",after:=#[{ on:=30,ground:=Ground.data },{ on:=28,ground:=Ground.chain },{ on:=28,ground:=Ground.guard }],guard:=some (28,true) }) (by kernel_rfl) rfl (fun K hK=>?_)
  go_simp
  go_at_call 54
  refine (HCN.out w5 HI5.out.2.1).mono ?_
  rintro e w6 ⟨⟨m',rfl,hin,ho,hh⟩,hbn⟩
  have HX6:=hid (p_below HX5.out hbn)
  have HB6:=hid (HB5.out.trans (hbn.mono HB5.out.size))
  have HI6:=hid (HI5.out.below hbn)
  have HSM:=hid (rsameS_any m' p.sh w6 hin.sin HI6.out.2.1)
  rw [ho,hh] at HSM
  rw [← HRB.out] at HSM
  unfold shapeVals rowVal holesVal at HSM
  clear hbn hin ho hh
  refine hK.out _ _ ?_ (fun _=>?_) (fun hHeld=>?_)
  ·trivial
  ·exact ⟨cell_of HX6.out 0 _ rfl,cell_of HX6.out 1 _ rfl,cell_of HX6.out 2 _ rfl,cell_of HX6.out 3 _ rfl,cell_of HX6.out 4 _ rfl,cell_of HX6.out 5 _ rfl⟩
  replace hHeld:=And.intro hHeld.1 (hHeld.2 (by decide))
  clear hK K
  try simp only [Act.put,List.setIfInBounds_toArray,List.set_cons_zero,List.set_cons_succ]
  refine wpAnyK_one (i:=34) (o := { dst:=some 37,op:=Op.call { callee:=Callee.value (Operand.func 55),args:=#[Operand.tmp 34,Operand.tmp 36],argTypes:=#[48,48] },type:=4,pos := "ref.go:375",after:=#[{ on:=31,ground:=Ground.data },{ on:=33,ground:=Ground.data },{ on:=31,ground:=Ground.chain },{ on:=28,ground:=Ground.guard }],guard:=some (28,true) }) (by kernel_rfl) rfl (fun K hK=>?_)
  go_simp
  go_at_call 55
  refine (HSM.out).mono ?_
  rintro e w7 ⟨rfl,hbn⟩
  have HX7:=hid (p_below HX6.out hbn)
  have HB7:=hid (HB6.out.trans (hbn.mono HB6.out.size))
  have HI7:=hid (HI6.out.below hbn)
  clear hbn
  refine hK.out _ _ ?_ (fun _=>?_) (fun hHeld=>?_)
  ·trivial
  ·exact ⟨cell_of HX7.out 0 _ rfl,cell_of HX7.out 1 _ rfl,cell_of HX7.out 2 _ rfl,cell_of HX7.out 3 _ rfl,cell_of HX7.out 4 _ rfl,cell_of HX7.out 5 _ rfl⟩
  replace hHeld:=And.intro hHeld.1 (hHeld.2 (by decide))
  clear hK K
  try simp only [Act.put,List.setIfInBounds_toArray,List.set_cons_zero,List.set_cons_succ]
  refine wpAnyK_take (i:=35) (oi := { dst:=some 38,op:=Op.pick (Operand.tmp 31) (Operand.tmp 37) (Operand.const (Value.bool false)),type:=4,pos := "ref.go:375",after:=#[{ on:=28,ground:=Ground.data },{ on:=34,ground:=Ground.data }],guard:=none }) (v:=?_) rfl (by kernel_rfl) (by kernel_rfl) (by kernel_rfl) (by kernel_rfl) (fun _ _ _ h=>h) (Or.inl ⟨by rfl,?_⟩) (by assumption) ?_
  rotate_left
  ·intro w' hSw
   (try dsimp only at hSw)
   first | (go_simp;done) | (go_simp;with_reducible rfl)
  try simp only [Act.put,List.setIfInBounds_toArray,List.set_cons_zero,List.set_cons_succ]
  refine wpAnyK_one (i:=36) (o := { dst:=some 2,op:=Op.assign (Operand.tmp 38),type:=4,pos := "ref.go:375",after:=#[{ on:=35,ground:=Ground.data },{ on:=34,ground:=Ground.chain },{ on:=0,ground:=Ground.phase },{ on:=1,ground:=Ground.phase },{ on:=2,ground:=Ground.phase },{ on:=3,ground:=Ground.phase },{ on:=4,ground:=Ground.phase },{ on:=5,ground:=Ground.phase },{ on:=6,ground:=Ground.phase },{ on:=7,ground:=Ground.phase },{ on:=8,ground:=Ground.phase },{ on:=9,ground:=Ground.phase },{ on:=10,ground:=Ground.phase },{ on:=11,ground:=Ground.phase },{ on:=12,ground:=Ground.phase },{ on:=13,ground:=Ground.phase },{ on:=14,ground:=Ground.phase },{ on:=15,ground:=Ground.phase },{ on:=16,ground:=Ground.phase },{ on:=17,ground:=Ground.phase },{ on:=18,ground:=Ground.phase },{ on:=19,ground:=Ground.phase },{ on:=20,ground:=Ground.phase },{ on:=21,ground:=Ground.phase },{ on:=22,ground:=Ground.phase },{ on:=23,ground:=Ground.phase },{ on:=24,ground:=Ground.phase },{ on:=25,ground:=Ground.phase },{ on:=26,ground:=Ground.phase },{ on:=27,ground:=Ground.phase },{ on:=28,ground:=Ground.phase },{ on:=29,ground:=Ground.phase },{ on:=30,ground:=Ground.phase },{ on:=31,ground:=Ground.phase },{ on:=32,ground:=Ground.phase },{ on:=33,ground:=Ground.phase },{ on:=34,ground:=Ground.phase },{ on:=35,ground:=Ground.phase }],guard:=none }) (by kernel_rfl) rfl (fun K hK=>?_)
  go_simp
  refine hK.out _ _ ?_ (fun hne=>?_) (fun hHeld=>?_)
  ·trivial
  ·exact absurd rfl hne
  clear hK K
  try simp only [Act.put,List.setIfInBounds_toArray,List.set_cons_zero,List.set_cons_succ]
  refine wpAnyK_done (by kernel_rfl) ?_ _
  go_wp2
  go_ret
  exact ⟨rfl,HB7.out⟩
 ·have hres:((b1&&(b2&&(b3&&(b4&&b5))))&&(b6&&(decide (p.sh.o.l=beginL p.sh.o.l)&&decide (holesL p.sh=sortH ((holesL p.sh).map beginL)))))=false:=by
   cases b1<;>cases b2<;>cases b3<;>cases b4<;>cases b5<;>cases b6<;>simp_all
  rw [hres]
  clear hres HVE KS HI1
  go_enter Tryz.func25,Tryz.ntmps25
  go_upto_region 1 with fail
  have HX0:Hid ((w.alloc (.cells #[.string ⟨p.name.toArray⟩,.string ⟨p.grade.toArray⟩,.int .i64 p.grain,.slice p.tA p.turns.length p.tc,.slice p.sh.o.A p.sh.o.l.length p.sh.o.k,.slice p.sh.B p.sh.hs.length p.sh.k] 50)).heap[w.heap.size]? = some (.cells #[.string ⟨p.name.toArray⟩,.string ⟨p.grade.toArray⟩,.int .i64 p.grain,.slice p.tA p.turns.length p.tc,.slice p.sh.o.A p.sh.o.l.length p.sh.o.k,.slice p.sh.B p.sh.hs.length p.sh.k] 50 (0,0))):=hid (heap_new w (.cells #[.string ⟨p.name.toArray⟩,.string ⟨p.grade.toArray⟩,.int .i64 p.grain,.slice p.tA p.turns.length p.tc,.slice p.sh.o.A p.sh.o.l.length p.sh.o.k,.slice p.sh.B p.sh.hs.length p.sh.k] 50))
  generalize w.alloc (.cells #[.string ⟨p.name.toArray⟩,.string ⟨p.grade.toArray⟩,.int .i64 p.grain,.slice p.tA p.turns.length p.tc,.slice p.sh.o.A p.sh.o.l.length p.sh.o.k,.slice p.sh.B p.sh.hs.length p.sh.k] 50)=W1 at *
  have E0:∀ p0:Later W1,p0.w.cell? ⟨w.heap.size,0,none⟩=some (.string ⟨p.name.toArray⟩):=later_cell (blk_lt HX0.out) (cell_of HX0.out 0 _ rfl)
  have E1:∀ p0:Later W1,p0.w.cell? ⟨w.heap.size,1,none⟩=some (.string ⟨p.grade.toArray⟩):=later_cell (blk_lt HX0.out) (cell_of HX0.out 1 _ rfl)
  have E2:∀ p0:Later W1,p0.w.cell? ⟨w.heap.size,2,none⟩=some (.int .i64 p.grain):=later_cell (blk_lt HX0.out) (cell_of HX0.out 2 _ rfl)
  have E3:∀ p0:Later W1,p0.w.cell? ⟨w.heap.size,3,none⟩=some (.slice p.tA p.turns.length p.tc):=later_cell (blk_lt HX0.out) (cell_of HX0.out 3 _ rfl)
  have E4:∀ p0:Later W1,p0.w.cell? ⟨w.heap.size,4,none⟩=some (.slice p.sh.o.A p.sh.o.l.length p.sh.o.k):=later_cell (blk_lt HX0.out) (cell_of HX0.out 4 _ rfl)
  have E5:∀ p0:Later W1,p0.w.cell? ⟨w.heap.size,5,none⟩=some (.slice p.sh.B p.sh.hs.length p.sh.k):=later_cell (blk_lt HX0.out) (cell_of HX0.out 5 _ rfl)
  cases b1
  ·clear hall
   refine wp_region_later W1 (by kernel_rfl) (by kernel_rfl) (Below.refl _ _) ?_
   repeat (go_big_quiet_step (first | (go_at_call 58;with_reducible exact Calls.later (HN1.out _)) | (go_at_call 58;with_reducible exact Calls.later (HN2.out _)) | (go_at_call 59;exact Calls.later (HTU.out _ (HIW.out _ (HBA.out.trans ((Later.h _).mono HBA.out.size))).1)) | (go_at_call 53;exact Calls.later (HSV.out _ (HIW.out _ (HBA.out.trans ((Later.h _).mono HBA.out.size))).2.1))))
   refine wpQuiet_nil ?_
   rintro w8 hex
   have hb8:=later_of hex
   clear hex
   have HB8:=hid (HBA.out.trans (hb8.mono HBA.out.size))
   clear hb8 E0 E1 E2 E3 E4 E5
   go_wp2_with fail
   go_ret
   exact ⟨rfl,HB8.out⟩
  cases b2
  ·clear hall
   refine wp_region_later W1 (by kernel_rfl) (by kernel_rfl) (Below.refl _ _) ?_
   repeat (go_big_quiet_step (first | (go_at_call 58;with_reducible exact Calls.later (HN1.out _)) | (go_at_call 58;with_reducible exact Calls.later (HN2.out _)) | (go_at_call 59;exact Calls.later (HTU.out _ (HIW.out _ (HBA.out.trans ((Later.h _).mono HBA.out.size))).1)) | (go_at_call 53;exact Calls.later (HSV.out _ (HIW.out _ (HBA.out.trans ((Later.h _).mono HBA.out.size))).2.1))))
   refine wpQuiet_nil ?_
   rintro w8 hex
   have hb8:=later_of hex
   clear hex
   have HB8:=hid (HBA.out.trans (hb8.mono HBA.out.size))
   clear hb8 E0 E1 E2 E3 E4 E5
   go_wp2_with fail
   go_ret
   exact ⟨rfl,HB8.out⟩
  cases b3
  ·clear hall
   refine wp_region_later W1 (by kernel_rfl) (by kernel_rfl) (Below.refl _ _) ?_
   repeat (go_big_quiet_step (first | (go_at_call 58;with_reducible exact Calls.later (HN1.out _)) | (go_at_call 58;with_reducible exact Calls.later (HN2.out _)) | (go_at_call 59;exact Calls.later (HTU.out _ (HIW.out _ (HBA.out.trans ((Later.h _).mono HBA.out.size))).1)) | (go_at_call 53;exact Calls.later (HSV.out _ (HIW.out _ (HBA.out.trans ((Later.h _).mono HBA.out.size))).2.1))))
   refine wpQuiet_nil ?_
   rintro w8 hex
   have hb8:=later_of hex
   clear hex
   have HB8:=hid (HBA.out.trans (hb8.mono HBA.out.size))
   clear hb8 E0 E1 E2 E3 E4 E5
   go_wp2_with fail
   go_ret
   exact ⟨rfl,HB8.out⟩
  cases b4
  ·clear hall
   refine wp_region_later W1 (by kernel_rfl) (by kernel_rfl) (Below.refl _ _) ?_
   repeat (go_big_quiet_step (first | (go_at_call 58;with_reducible exact Calls.later (HN1.out _)) | (go_at_call 58;with_reducible exact Calls.later (HN2.out _)) | (go_at_call 59;exact Calls.later (HTU.out _ (HIW.out _ (HBA.out.trans ((Later.h _).mono HBA.out.size))).1)) | (go_at_call 53;exact Calls.later (HSV.out _ (HIW.out _ (HBA.out.trans ((Later.h _).mono HBA.out.size))).2.1))))
   refine wpQuiet_nil ?_
   rintro w8 hex
   have hb8:=later_of hex
   clear hex
   have HB8:=hid (HBA.out.trans (hb8.mono HBA.out.size))
   clear hb8 E0 E1 E2 E3 E4 E5
   go_wp2_with fail
   go_ret
   exact ⟨rfl,HB8.out⟩
  cases b5
  ·clear hall
   refine wp_region_later W1 (by kernel_rfl) (by kernel_rfl) (Below.refl _ _) ?_
   repeat (go_big_quiet_step (first | (go_at_call 58;with_reducible exact Calls.later (HN1.out _)) | (go_at_call 58;with_reducible exact Calls.later (HN2.out _)) | (go_at_call 59;exact Calls.later (HTU.out _ (HIW.out _ (HBA.out.trans ((Later.h _).mono HBA.out.size))).1)) | (go_at_call 53;exact Calls.later (HSV.out _ (HIW.out _ (HBA.out.trans ((Later.h _).mono HBA.out.size))).2.1))))
   refine wpQuiet_nil ?_
   rintro w8 hex
   have hb8:=later_of hex
   clear hex
   have HB8:=hid (HBA.out.trans (hb8.mono HBA.out.size))
   clear hb8 E0 E1 E2 E3 E4 E5
   go_wp2_with fail
   go_ret
   exact ⟨rfl,HB8.out⟩
  cases b6
  ·clear hall
   refine wp_region_later W1 (by kernel_rfl) (by kernel_rfl) (Below.refl _ _) ?_
   repeat (go_big_quiet_step (first | (go_at_call 58;with_reducible exact Calls.later (HN1.out _)) | (go_at_call 58;with_reducible exact Calls.later (HN2.out _)) | (go_at_call 59;exact Calls.later (HTU.out _ (HIW.out _ (HBA.out.trans ((Later.h _).mono HBA.out.size))).1)) | (go_at_call 53;exact Calls.later (HSV.out _ (HIW.out _ (HBA.out.trans ((Later.h _).mono HBA.out.size))).2.1))))
   refine wpQuiet_nil ?_
   rintro w8 hex
   have hb8:=later_of hex
   clear hex
   have HB8:=hid (HBA.out.trans (hb8.mono HBA.out.size))
   clear hb8 E0 E1 E2 E3 E4 E5
   go_wp2_with fail
   go_ret
   exact ⟨rfl,HB8.out⟩
  exact absurd rfl hall
end Go.Proofs.YtnkkcknogkgdkaaGreatDoor.PaW
