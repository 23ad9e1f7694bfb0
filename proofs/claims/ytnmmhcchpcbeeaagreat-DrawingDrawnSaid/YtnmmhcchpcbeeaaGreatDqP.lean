/- Plain: what the law DrawingDrawn asks of shapes, and what it is answered. No function is in sight. Conditions: none. -/
import Derived.Test.YtnmmhcchpcbeeaaGreatOgW
import Derived.Test.YtnmmhcchpcbeeaaGreatWh3
import Derived.Test.YtnmmhcchpcbeeaaGreatDgL
import Derived.Test.YtnmmhcchpcbeeaaGreatDr4

namespace Go.Proofs.YtnmmhcchpcbeeaaGreat.GeW
open Lib (hid)
open Go Go.RowKit Go.Proofs.YtnmmhcchpcbeeaaGreat.Mem Go.Proofs.YtnmmhcchpcbeeaaGreat.Ge
attribute [local go_sem ↓] Go.wp_at_zero Go.wp_at_succ
def lapartB (a b:List V):Bool:=apartB a b&&(decide (whereB a (hd b)=0)&&decide (whereB b (hd a)=0))
theorem rapart_eq {a b:List V} (ha:ringB a=true) (hb:ringB b=true):apartB a b=(edgesN a a.length).all fun x=>(edgesN b b.length).all fun y=>decide (rmeetK x y=0):=by
 unfold apartB
 rw [edges_get (two_of ha),edges_get (two_of hb)]
 show ((edgesN a a.length).all fun x=>(edgesN b b.length).all fun y=>decide (meetK x y=0))=_
 congr 1
 funext x
 congr 1
 funext y
 exact decide_eq_decide.2 (meet_zero x y)
theorem edgesN_seg {a:List V} (ha:ringB a=true):∀ x∈edgesN a a.length,segOk x=true:=by
 intro x hx
 refine edge_near (ring_near ha).1 ?_
 rw [edges_get (two_of ha)]
 exact hx
set_option maxRecDepth 100000 in
set_option maxHeartbeats 4000000 in
theorem lapart_any (r s:RowV) (w:World) (hr:RgIn w r) (hs:RgIn w s) :
  Calls Tryz.prog 24 #[rowVal r,rowVal s] w fun e w'=>e=.returned (.bool (lapartB r.l s.l))∧Below w.heap.size w w':=by
 have n1:=ring_near hr.2.1
 have n2:=ring_near hs.2.1
 have h0:0 < r.l.length:=by omega
 have h0s:0 < s.l.length:=by omega
 have h40:r.l.length≤40:=n1.2.2
 have h40s:s.l.length≤40:=n2.2.2
 have HEA:=hid (redges_any r.l r.A r.k w hr.1 (by omega) (by omega))
 have HEB:=hid (fun W (hW:Below w.heap.size w W)=>redges_any s.l s.A s.k W (hs.1.below hW) (by omega) (by omega))
 have hnr:within (hd r.l) 2000=true:=by
  rw [hd_get h0]
  exact List.all_eq_true.1 n1.1 _ (List.getElem_mem h0)
 have hns:within (hd s.l) 2000=true:=by
  rw [hd_get h0s]
  exact List.all_eq_true.1 n2.1 _ (List.getElem_mem h0s)
 have HW1:=hid (fun W (hW:Below w.heap.size w W)=>rwhere_any r.l (hd s.l).1 (hd s.l).2 r.A r.k W (hr.1.below hW) hr.2.1 hns)
 have HW2:=hid (fun W (hW:Below w.heap.size w W)=>rwhere_any s.l (hd r.l).1 (hd r.l).2 s.A s.k W (hs.1.below hW) hs.2.1 hnr)
 have HX1:Hid (whereB r.l (hd s.l)=rwhereL (edges r.l) ((hd s.l).1,(hd s.l).2) false):=hid (by rw [where_ring hr.2.1 (within_more hns (by omega)),whereL_same])
 have HX2:Hid (whereB s.l (hd r.l)=rwhereL (edges s.l) ((hd r.l).1,(hd r.l).2) false):=hid (by rw [where_ring hs.2.1 (within_more hnr (by omega)),whereL_same])
 have HQ:=hid (rapart_eq hr.2.1 hs.2.1)
 have HOA:=hid (edgesN_seg hr.2.1)
 have HOB:=hid (edgesN_seg hs.2.1)
 obtain ⟨ga0,oa0,hA,hga0,ca0⟩:=row_get pt_len (by decide) hr.1 h0
 obtain ⟨gb0,ob0,hB,hgb0,cb0⟩:=row_get pt_len (by decide) hs.1 h0s
 have p0:=ca0 0 h0 0 (by decide)
 have p1:=ca0 0 h0 1 (by decide)
 have q0:=cb0 0 h0s 0 (by decide)
 have q1:=cb0 0 h0s 1 (by decide)
 rw [← hd_get h0] at p0 p1
 rw [← hd_get h0s] at q0 q1
 have hla:=edgesN_len r.l r.l.length
 have hlb:=edgesN_len s.l s.l.length
 unfold lapartB
 unfold rowVal
 rw [HX1.out,HX2.out]
 rw [hA] at HEA HW1 ⊢
 rw [hB] at HEB HW2 ⊢
 clear hr hs ca0 cb0 n1 n2 HX1 HX2 hA hB hnr hns
 generalize hd r.l=pa at *
 generalize hd s.l=pb at *
 obtain ⟨pax,pay⟩:=pa
 obtain ⟨pbx,pby⟩:=pb
 simp only [ptCells,List.getElem?_cons_zero,List.getElem?_cons_succ,Nat.zero_mul,Nat.add_zero] at p0 p1 q0 q1 HW1 HW2 ⊢
 generalize rwhereL (edges r.l) (pbx,pby) false=wv1 at *
 generalize rwhereL (edges s.l) (pax,pay) false=wv2 at *
 generalize apartB r.l s.l=ab at *
 obtain ⟨RB,hRB⟩:∃ RB,RB=(ab&&(decide (wv1=0)&&decide (wv2=0))):=⟨_,rfl⟩
 rw [← hRB]
 have HRB:=hid hRB
 clear hRB
 generalize edgesN r.l r.l.length=ea at *
 generalize edgesN s.l s.l.length=eb at *
 generalize r.l.length=n at *
 generalize s.l.length=mn at *
 generalize r.k=rk at *
 generalize s.k=sk at *
 have HPQ:Hid (w.cell? ⟨ga0,oa0,none⟩=some (.int .i64 pax)∧w.cell? ⟨ga0,oa0+1,none⟩=some (.int .i64 pay)∧w.cell? ⟨gb0,ob0,none⟩=some (.int .i64 pbx)∧w.cell? ⟨gb0,ob0+1,none⟩=some (.int .i64 pby)):=hid ⟨p0,p1,q0,q1⟩
 clear p0 p1 q0 q1
 subst hla
 subst hlb
 go_enter Tryz.func24,Tryz.ntmps24
 go_wp2_with fail
 refine HEA.out.mono ?_
 rintro e w1 ⟨v,rfl,hown,hb1⟩
 obtain ⟨ga,ka,rfl,hca,hga,hgaw,hcell⟩:=own_get seg_len rfl hown (by omega)
 have HCga:=hid hcell
 have HB1:=hid hb1
 clear hcell hown hb1 hga
 go_wp2_with fail
 refine (HEB.out _ HB1.out).mono ?_
 rintro e w2 ⟨v,rfl,hown,hb2⟩
 obtain ⟨gb,kb,rfl,hcb,hgb,hgbw,hcell⟩:=own_get seg_len rfl hown (by omega)
 have HCgb:=hid hcell
 have HB2:=hid hb2
 have HBW:=hid (HB1.out.trans (hb2.mono HB1.out.size))
 clear hcell hown hb2 hgb
 go_wp2_with fail
 go_loopw [7,8] (fun i _ wr=>∃ k:Nat,i=.int .i64 (k:Int)∧k≤ea.length∧Hid (ab=(ea.drop k).all fun x=>eb.all fun y=>decide (rmeetK x y=0))∧Hid (Below w2.heap.size w2 wr)) (fun i _ _=>ea.length - (intOf i).toNat)
 case atStart=>exact ⟨0,rfl,Nat.zero_le _,HQ,hid (Below.refl _ _)⟩
 case round =>
  obtain ⟨k,rfl,hk,HD,HBA⟩:=hrel
  by_cases hltA:k < ea.length
  ·have HD1:Hid (ab=((eb.all fun y=>decide (rmeetK ea[k] y=0))&&(ea.drop (k+1)).all fun x=>eb.all fun y=>decide (rmeetK x y=0))):=hid (by rw [HD.out,List.drop_eq_getElem_cons hltA,List.all_cons])
   have HC0:Hid (∀ W,Below w2.heap.size w2 W→∀ a,a < 4→W.cell? ⟨ga,k*4+a,none⟩=(segCells ea[k])[a]?):=hid (fun W hW a ha=>((HB2.out.trans (hW.mono HB2.out.size)).cell (p:=⟨ga,k*4+a,none⟩) hgaw).trans (HCga.out k hltA a ha))
   have HSO:=hid (HOA.out _ (List.getElem_mem hltA))
   generalize ea[k]=e at *
   obtain ⟨⟨ax,ay⟩,bx,b_y⟩:=e
   have hk1:(0:Int)≤(k:Int):=by omega
   have hk2:(k:Int) < (ea.length:Int):=by omega
   go_wp2_with fail
   go_loopw [8] (fun i wr=>∃ j:Nat,i=.int .i64 (j:Int)∧j≤eb.length∧Hid ((eb.all fun y=>decide (rmeetK ((ax,ay),bx,b_y) y=0))=((eb.drop j).all fun y=>decide (rmeetK ((ax,ay),bx,b_y) y=0)))∧Hid (Below w2.heap.size w2 wr)) (fun i _=>eb.length - (intOf i).toNat)
   case atStart=>exact ⟨0,rfl,Nat.zero_le _,hid rfl,HBA⟩
   case round =>
    clear HBA
    obtain ⟨j,rfl,hj,HDJ,HBB⟩:=hrel
    by_cases hltB:j < eb.length
    ·have HD2:Hid ((eb.all fun y=>decide (rmeetK ((ax,ay),bx,b_y) y=0))=(decide (rmeetK ((ax,ay),bx,b_y) eb[j]=0)&&((eb.drop (j+1)).all fun y=>decide (rmeetK ((ax,ay),bx,b_y) y=0)))):=hid (by rw [HDJ.out,List.drop_eq_getElem_cons hltB,List.all_cons])
     have HSB:=hid (HOB.out _ (List.getElem_mem hltB))
     have d0:=HCgb.out j hltB 0 (by decide)
     have d1:=HCgb.out j hltB 1 (by decide)
     have d2:=HCgb.out j hltB 2 (by decide)
     have d3:=HCgb.out j hltB 3 (by decide)
     have c0:=HC0.out wr HBB.out 0 (by decide)
     have c1:=HC0.out wr HBB.out 1 (by decide)
     have c2:=HC0.out wr HBB.out 2 (by decide)
     have c3:=HC0.out wr HBB.out 3 (by decide)
     generalize eb[j]=e at *
     obtain ⟨⟨cx,cy⟩,dx,dy⟩:=e
     simp only [segCells,List.getElem?_cons_zero,List.getElem?_cons_succ,Nat.add_zero] at d0 d1 d2 d3 c0 c1 c2 c3
     have hj1:(0:Int)≤(j:Int):=by omega
     have hj2:(j:Int) < (eb.length:Int):=by omega
     have hgaw2:ga < wr.heap.size:=Nat.lt_of_lt_of_le hgaw (Nat.le_trans HB2.out.size HBB.out.size)
     have hgbw2:gb < wr.heap.size:=Nat.lt_of_lt_of_le hgbw HBB.out.size
     have HME:=hid (fun p:Later wr=>rMeet_any ax ay bx b_y cx cy dx dy p.w HSO.out HSB.out)
     generalize rmeetK ((ax,ay),bx,b_y) ((cx,cy),dx,dy)=mk at *
     go_upto_region 8 with fail
     have P0:=fun p:Later wr=>(p.h.cell (p:=⟨ga,k*4,none⟩) hgaw2).trans c0
     have P1:=fun p:Later wr=>(p.h.cell (p:=⟨ga,k*4+1,none⟩) hgaw2).trans c1
     have P2:=fun p:Later wr=>(p.h.cell (p:=⟨ga,k*4+2,none⟩) hgaw2).trans c2
     have P3:=fun p:Later wr=>(p.h.cell (p:=⟨ga,k*4+3,none⟩) hgaw2).trans c3
     have Q0:=fun p:Later wr=>(p.h.cell (p:=⟨gb,j*4,none⟩) hgbw2).trans ((HBB.out.cell (p:=⟨gb,j*4,none⟩) hgbw).trans d0)
     have Q1:=fun p:Later wr=>(p.h.cell (p:=⟨gb,j*4+1,none⟩) hgbw2).trans ((HBB.out.cell (p:=⟨gb,j*4+1,none⟩) hgbw).trans d1)
     have Q2:=fun p:Later wr=>(p.h.cell (p:=⟨gb,j*4+2,none⟩) hgbw2).trans ((HBB.out.cell (p:=⟨gb,j*4+2,none⟩) hgbw).trans d2)
     have Q3:=fun p:Later wr=>(p.h.cell (p:=⟨gb,j*4+3,none⟩) hgbw2).trans ((HBB.out.cell (p:=⟨gb,j*4+3,none⟩) hgbw).trans d3)
     clear c0 c1 c2 c3 d0 d1 d2 d3
     refine wp_region_later wr (by kernel_rfl) (by kernel_rfl) (Below.refl _ _) ?_
     repeat (go_big_quiet_step (first | (go_at_call 68;with_reducible exact Calls.later (HME.out _))))
     refine wpQuiet_nil ?_
     rintro w9 hex;have hb9:=later_of hex;clear hex
     have HB9:=hid (HBB.out.trans (hb9.mono HBB.out.size))
     clear P0 P1 P2 P3 Q0 Q1 Q2 Q3 hb9 HME
     by_cases hmk:mk=0
     ·have m1:(mk != 0)=false:=bne_eq_false_iff_eq.2 hmk
      have HD3:Hid ((eb.all fun y=>decide (rmeetK ((ax,ay),bx,b_y) y=0))=((eb.drop (j+1)).all fun y=>decide (rmeetK ((ax,ay),bx,b_y) y=0))):=hid (by rw [HD2.out,hmk];rfl)
      clear hmk
      go_wp2
      go_roundw
      case rel=>exact ⟨j+1,by go_num,by omega,HD3,HB9⟩
      case measure=>simp [intOf];omega
     ·have m1:(mk != 0)=true:=bne_iff_ne.2 hmk
      have HF:Hid (ab=false):=hid (by rw [HD1.out,HD2.out,decide_eq_false hmk];rfl)
      clear hmk
      have HRR:Hid (RB=false):=hid (by rw [HRB.out,HF.out];rfl)
      go_wp2
      go_ret
      rw [HRR.out]
      exact ⟨rfl,HBW.out.trans (HB9.out.mono HBW.out.size)⟩
    ·obtain rfl:j=eb.length:=by omega
     have HD3:Hid (ab=(ea.drop (k+1)).all fun x=>eb.all fun y=>decide (rmeetK x y=0)):=hid (by rw [HD1.out,HDJ.out,List.drop_length];rfl)
     go_wp2
     go_roundw
     case rel=>exact ⟨k+1,by go_num,by omega,HD3,HBB⟩
     case measure=>simp [intOf];omega
  ·obtain rfl:k=ea.length:=by omega
   have HF:Hid (ab=true):=hid (by rw [HD.out,List.drop_length];rfl)
   have HBR:=hid (HBW.out.trans (HBA.out.mono HBW.out.size))
   obtain ⟨p0,p1,q0,q1⟩:=HPQ.out
   have q0:=(HBR.out.cell (p:=⟨gb0,ob0,none⟩) hgb0).trans q0
   have q1:=(HBR.out.cell (p:=⟨gb0,ob0+1,none⟩) hgb0).trans q1
   clear p0 p1
   have d1:(0 < ea.length)=True:=eq_true h0
   have d2:(0 < eb.length)=True:=eq_true h0s
   clear HD HQ
   go_wp2_with fail
   refine (HW1.out _ HBR.out).mono ?_
   rintro e w3 ⟨rfl,hb3⟩
   have HB3:=hid (HBR.out.trans (hb3.mono HBR.out.size))
   clear q0 q1 hb3
   by_cases hz1:wv1=0
   ·have m1:(wv1 == 0)=true:=beq_iff_eq.2 hz1
    obtain ⟨p0,p1,_,_⟩:=HPQ.out
    have p0:=(HB3.out.cell (p:=⟨ga0,oa0,none⟩) hga0).trans p0
    have p1:=(HB3.out.cell (p:=⟨ga0,oa0+1,none⟩) hga0).trans p1
    have HRR:Hid (RB=(wv2 == 0)):=hid (by rw [HRB.out,HF.out,decide_eq_true hz1,Bool.true_and,Bool.true_and,Bool.eq_iff_iff,beq_iff_eq,decide_eq_true_eq])
    clear hz1
    go_wp2_with fail
    refine (HW2.out _ HB3.out).mono ?_
    rintro e w4 ⟨rfl,hb4⟩
    have HB4:=hid (HB3.out.trans (hb4.mono HB3.out.size))
    clear p0 p1 hb4
    go_wp2
    go_ret
    rw [HRR.out]
    exact ⟨rfl,HB4.out⟩
   ·have m1:(wv1 == 0)=false:=beq_eq_false_iff_ne.2 hz1
    have HRR:Hid (RB=false):=hid (by rw [HRB.out,HF.out,decide_eq_false hz1];rfl)
    clear hz1
    go_wp2
    go_ret
    rw [HRR.out]
    exact ⟨rfl,HB3.out⟩
theorem far_of {a b:Shp} (ha:Ge.Good a) (hb:Ge.Good b) (h:lapartB a.1 b.1=true):Far a b:=by
 unfold lapartB at h
 simp only [Bool.and_eq_true,decide_eq_true_eq] at h
 obtain ⟨h1,h2,h3⟩:=h
 have ro:=ha.outer
 have so:=hb.outer
 have off:=(apart_off' (ring_near ro).1 (ring_near so).1).1 h1
 have side:∀ {a b:List V},ringB a=true→ringB b=true→Off a b→whereB b (hd a)=0→Ins a b=false:=by
  intro a b ra rb o hw
  rw [where_is rb (hd_near ra) (vert_free (two_of ra) o _ (hd_mem' (by have:=two_of ra;omega)))] at hw
  unfold Ins
  cases c:In b (hd a)
  ·rfl
  ·rw [c] at hw;cases hw
 exact ⟨off,side ro so off h3,side so ro off.symm h2⟩
def entOf (e:S):EntV:=⟨lineEnt [120] e,none,0⟩
def drawnV (ms:List ShapeM):List EntV:=(allEdges ms).map entOf
theorem drawnV_vals (es:List S):(es.map entOf).flatMap entVals=es.flatMap (lineCells ⟨[120].toArray⟩):=by
 rw [List.flatMap_map]
 rfl
theorem all_edges {ms:List ShapeM} (hG:∀ s∈ms.map shapeOf,Ge.Good s):allEdges ms=(allRings (ms.map shapeOf)).flatMap edges:=by
 have key:∀ m∈ms,edgesAll (ringsM m)=(ringsL (shapeOf m)).flatMap edges:=by
  intro m hm
  have hg:=hG _ (List.mem_map_of_mem hm)
  have e:ringsL (shapeOf m)=(ringsM m).map RowV.l:=rfl
  have hr:=hg.rings
  rw [show (shapeOf m).1::(shapeOf m).2=(ringsM m).map RowV.l from rfl] at hr
  rw [e,List.flatMap_map]
  unfold edgesAll
  generalize ringsM m=rs at hr
  induction rs with
  | nil=>rfl
  | cons r rs ih =>
   rw [List.flatMap_cons,List.flatMap_cons,ih fun x hx=>hr x (by rw [List.map_cons];exact List.mem_cons_of_mem _ hx)]
   congr 1
   have h2:=two_of (hr r.l (by rw [List.map_cons];exact List.mem_cons_self))
   rw [edges_get h2]
   rfl
 unfold allEdges allRings
 rw [List.flatMap_assoc,List.flatMap_map]
 induction ms with
 | nil=>rfl
 | cons m ms ih =>
  rw [List.flatMap_cons,List.flatMap_cons,key m List.mem_cons_self]
  congr 1
  exact ih (fun s hs=>hG s (by rw [List.map_cons];exact List.mem_cons_of_mem _ hs)) (fun x hx=>key x (List.mem_cons_of_mem _ hx))
theorem drawnV_ents {ms:List ShapeM} (hG:∀ s∈ms.map shapeOf,Ge.Good s):ents (drawnV ms)=drawnEnts [120] (allRings (ms.map shapeOf)):=by
 unfold ents drawnV drawnEnts
 rw [List.map_map,all_edges hG]
 rfl
theorem name_x:Lex.isName [120]=true:=by kernel_rfl
/-- What Draw answers of valid shapes. -/
theorem drawP_ok {ms:List ShapeM} (h:∀ m∈ms,shapeB m.o.l (holesL m)=true):drawP ms [120]=if (allEdges ms).length≤200 then (allEdges ms,0) else ([],9):=by
 unfold drawP okAll
 rw [List.all_eq_true.2 h,if_pos rfl,name_x,if_pos rfl]
/-- All that the law looks at. -/
theorem drawn_law {ms ns:List ShapeM} {e:Int} (hG:∀ s∈ms.map shapeOf,Ge.Good s) (hF:(ms.map shapeOf).Pairwise Far) (hn:(allEdges ms).length≤200)
  (h2:(ringsP (fun _=>[]) (ents (drawnV ms)) [120] 1).1=0→ShapesR (ringsP (fun _=>[]) (ents (drawnV ms)) [120] 1).2 e (ns.map shapeOf)) :
  e=0∧ns.length=ms.length∧(∀ n∈ns,shapeB n.o.l (holesL n)=true∧canonS (shapeOf n)=shapeOf n∧∃ m∈ms,canonS (shapeOf m)=shapeOf n)∧ns.Pairwise fun x y=>less (hd x.o.l) (hd y.o.l)=true:=by
 rw [drawnV_ents hG] at h2
 rw [all_edges hG] at hn
 have hd:=drawn_all (fun _=>[]) hG hF name_x hn
 obtain ⟨a1,a2,a3⟩:=hd.2 e _ (h2 hd.1)
 refine ⟨a1,?_,fun n hm=>?_,?_⟩
 ·have:=a2.length_eq
  simpa using this
 ·have h3:=a2.mem_iff.1 (List.mem_map_of_mem hm)
  obtain ⟨s,hs,he⟩:=List.mem_map.1 h3
  have hg:=hG s hs
  have h4:=canonS_ok hg
  have h5:=canonS_twice hg
  rw [he] at h4 h5
  obtain ⟨m,hmm,rfl⟩:=List.mem_map.1 hs
  exact ⟨h4,h5,m,hmm,he⟩
 ·have h6:=asc_strict (((a2.map fun s=>Ge.hd s.1).nodup_iff).2 (heads_far hG hF)) a3
  rw [List.pairwise_map] at h6
  exact h6
end Go.Proofs.YtnmmhcchpcbeeaaGreat.GeW
