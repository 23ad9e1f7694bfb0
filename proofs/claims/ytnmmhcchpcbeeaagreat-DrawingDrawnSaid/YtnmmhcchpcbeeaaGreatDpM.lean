/- Walk: of the reference: the shape with rings begun at their least points and holes in ascending order. Conditions: the shape lies in memory and is valid. -/
import Derived.Test.YtnmmhcchpcbeeaaGreatDpF
import Derived.Test.YtnmmhcchpcbeeaaGreatGeR
import Derived.Deep.DeepCutAuto

namespace Go.Proofs.YtnmmhcchpcbeeaaGreat.GeW
open Lib (hid)
open Go Go.RowKit Go.Proofs.YtnmmhcchpcbeeaaGreat.Mem Go.Proofs.YtnmmhcchpcbeeaaGreat.Ge
attribute [local go_sem ↓] Go.wp_at_zero Go.wp_at_succ

theorem own_emptyD (w:World) (o:Obj) (e:TypeId) (size:Nat):((w.alloc o).alloc (.cells #[] e)).ownsRow w.heap.size e size (.slice (some ⟨w.heap.size+1,0,none⟩) 0 0) 0 []:=by
 have:=own_none (w.alloc o) e size w.heap.size (by simp)
 rw [World.size_alloc] at this
 exact this
theorem newN_rowD (w:World) (o:Obj) (xs:List Value) (T:TypeId):Row ((w.alloc o).alloc (.cells xs.toArray T)) (some ⟨w.heap.size+1,0,none⟩) xs:=by
 have:=newN_row (w.alloc o) xs T
 rw [World.size_alloc] at this
 exact this
theorem slice_head {w:World} {A:Option Addr} {xs ys:List Value} (h:Row w A (xs++ys)):Row w A xs:=by
 intro hne
 obtain ⟨g,off,e,hg,hc⟩:=h (by cases xs<;>simp_all)
 refine ⟨g,off,e,hg,fun j hj=>?_⟩
 rw [hc j (by rw [List.length_append];omega),List.getElem?_append_left hj]
theorem slice_rest {w:World} {A:Option Addr} {xs ys:List Value} {c q:Nat} (h:Row w A (xs++ys)) (hq:xs.length=q) (hc:0 < ys.length→q < c):Row w (if c=q then A else A.map (fun x=>x.add q)) ys:=by
 intro hne
 have hy:0 < ys.length:=List.length_pos_iff.2 hne
 rw [if_neg (by have:=hc hy;omega)]
 obtain ⟨g,off,e,hg,hcell⟩:=h (by cases ys<;>simp_all)
 subst e
 refine ⟨g,off+q,?_,hg,fun j hj=>?_⟩
 ·show some (Addr.add _ q)=_
  unfold Addr.add
  split
  ·rename_i h0;subst h0;rfl
  ·rfl
 ·have:=hcell (xs.length+j) (by rw [List.length_append];omega)
  rw [List.getElem?_append_right (by omega),show xs.length+j - xs.length=j by omega,hq] at this
  rw [Nat.add_assoc]
  exact this
theorem hd_getM {l:List V} (h:0 < l.length):hd l=l[0]:=by
 cases l with
 | nil=>exact absurd h (by decide)
 | cons p t=>rfl
set_option maxRecDepth 100000 in
set_option maxHeartbeats 4000000 in
theorem rsortedS_any (m:ShapeM) (w:World) (h:ShapeIn w m) (hv:shapeB m.o.l (holesL m)=true) :
  Calls Tryz.prog 81 #[.agg (shapeVals m)] w fun e w'=>(∃ m':ShapeM,e=.returned (.agg (shapeVals m'))∧ShapeAt w' m'∧m'.o.l=beginL m.o.l∧holesL m'=sortH ((holesL m).map beginL))∧Below w.heap.size w w':=by
 obtain ⟨i0,ia,ib,ic,id⟩:=info_parts info_ring1
 obtain ⟨⟨ol,oA,ok⟩,hs,mB,mk⟩:=m
 have hb1:=bel1 w (.cells #[.slice oA ol.length ok,.slice mB hs.length mk] 29)
 have hb2:=bel1 (w.alloc (.cells #[.slice oA ol.length ok,.slice mB hs.length mk] 29)) (.cells #[.slice none 0 0,.slice none 0 0] 29)
 have hz:(w.alloc (.cells #[.slice oA ol.length ok,.slice mB hs.length mk] 29)).heap.size=w.heap.size+1:=by simp
 have HN1:=hid (p_below (heap_new w (.cells #[.slice oA ol.length ok,.slice mB hs.length mk] 29)) hb2)
 have HN2:Hid (((w.alloc (.cells #[.slice oA ol.length ok,.slice mB hs.length mk] 29)).alloc (.cells #[.slice none 0 0,.slice none 0 0] 29)).heap[w.heap.size+1]? = some (.cells #[.slice none 0 0,.slice none 0 0] 29)):=hid (by have:=heap_new (w.alloc (.cells #[.slice oA ol.length ok,.slice mB hs.length mk] 29)) (.cells #[.slice none 0 0,.slice none 0 0] 29);rw [hz] at this;exact this)
 have HBB:=hid (hb1.trans (hb2.mono (by omega)))
 have HIN:=hid h
 have HVL:=hid hv
 clear h hb1 hb2 hz hv
 unfold shapeVals holesVal rowVal
 dsimp only
 have HRH:Hid (∀ r∈hs,3≤r.l.length∧r.l.length≤1000∧r.l.length≤r.k):=hid (fun r hr=>by
  have h1:=shape_rings HVL.out r.l (List.mem_cons_of_mem _ (List.mem_map_of_mem hr))
  have h2:=HIN.out.short r (List.mem_cons_of_mem _ hr)
  exact ⟨(ring_facts h1).1,h2.1,h2.2⟩)
 have HFW:Hid (hs.length≤1000∧ol.length≤1000∧ol.length≤ok∧3≤ol.length):=hid ⟨HIN.out.few,(HIN.out.short _ List.mem_cons_self).1,(HIN.out.short _ List.mem_cons_self).2,(ring_facts (shape_rings HVL.out _ List.mem_cons_self)).1⟩
 go_enter Tryz.func81,Tryz.ntmps81
 go_upto_region 1 with fail
 generalize (w.alloc (.cells #[.slice oA ol.length ok,.slice mB hs.length mk] 29)).alloc (.cells #[.slice none 0 0,.slice none 0 0] 29)=W at *
 have x0:=cell_of HN1.out 0 _ rfl
 have HCN:=hid (rbegin_any ol oA ok W (HIN.out.ro.below HBB.out) (by have:=HFW.out.2.1;omega) HFW.out.2.2.1 (by have:=HFW.out.2.2.2;omega))
 go_wp2_with fail
 refine HCN.out.mono ?_
 rintro e w3 ⟨⟨v,rfl,hown⟩,hb3⟩
 obtain ⟨B,d,rfl,hnd⟩:=own_shape hown
 have HND:=hid hnd
 have HOW3:Hid (At 53 0 w3 B ((beginL ol).flatMap ptCells)):=hid (At.of_own hown)
 have HB3:=hid (HBB.out.trans (hb3.mono HBB.out.size))
 have HD1:=hid (p_below HN1.out hb3)
 have HD2:=hid (p_below HN2.out hb3)
 clear hown hb3 x0 HCN hnd
 have hb4:=bel1 w3 (.cells #[.slice B ol.length d,.slice none 0 0] 29)
 have HN4:=hid (heap_new w3 (.cells #[.slice B ol.length d,.slice none 0 0] 29))
 have HB4:=hid (HB3.out.trans (hb4.mono HB3.out.size))
 have HE1:=hid (p_below HD1.out hb4)
 have HE2:=hid (p_below HD2.out hb4)
 have HOW4:=hid (HOW3.out.below hb4)
 have hob:w.heap.size+2≤w3.heap.size:=blk_lt HD2.out
 have HOS:Hid (∀ w',Below w3.heap.size (w3.alloc (.cells #[.slice B ol.length d,.slice none 0 0] 29)) w'→w3.heap.size≤w'.heap.size):=hid (fun w' hb=>Nat.le_trans (by simp) hb.size)
 clear hb4
 go_upto_region 2 with fail
 generalize w3.alloc (.cells #[.slice B ol.length d,.slice none 0 0] 29)=W4 at *
 generalize w3.heap.size=ob at *
 go_wp2_with fail
 go_loopw [4,5,6] (fun i _ _ wr=>∃ (k:Nat) (rs:List RowV) (hA:Option Addr) (hc:Nat),i=.int .i64 (k:Int)∧k≤hs.length∧Hid (rs.length=k)∧Hid (rs.map RowV.l=sortH ((hs.take k).map (fun r=>beginL r.l)))∧Hid (wr.heap[ob]? = some (.cells #[.slice B ol.length d,.slice hA rs.length hc] 29))∧Hid (∀ r∈rs,At 53 0 wr r.A (r.l.flatMap ptCells)∧3≤r.l.length∧r.l.length≤1000∧r.l.length≤r.k)∧Hid (wr.ownsRow (ob+1) 26 1 (.slice hA rs.length hc) rs.length (rs.map rowVal))∧Hid (At 53 0 wr B ((beginL ol).flatMap ptCells))∧Hid (Below ob W4 wr)) (fun i _ _ _=>hs.length - (intOf i).toNat)
 case atStart=>exact ⟨0,[],none,0,rfl,Nat.zero_le _,hid rfl,hid rfl,HN4,hid (fun r hr=>by cases hr),hid (World.ownsRow_nil _ _ _ _),HOW4,hid (Below.refl _ _)⟩
 case round =>
  obtain ⟨k,rs,hA,hc,rfl,hk,HLK,HMS,HX,HRS,HOW,HOB,HBO⟩:=hrel
  have HBR:=hid (HB4.out.trans (HBO.out.mono (show w.heap.size≤ob by omega)))
  have x1:=cell_of ((HBO.out.block w.heap.size (by omega)).trans HE1.out) 1 _ rfl
  by_cases hlt:k < hs.length
  ·obtain ⟨g,off,rfl,hg,ca⟩:=row_one HIN.out.rB (k:=k) (by rw [List.length_map];exact hlt)
   have ck:=(HBR.out.cell (p:=⟨g,off+k,none⟩) hg).trans (ca k (by rw [List.length_map];exact hlt))
   rw [List.getElem_map] at ck
   have HTK:Hid (sortH ((hs.take (k+1)).map (fun r=>beginL r.l))=insH (beginL (hs[k]).l) (sortH ((hs.take k).map (fun r=>beginL r.l)))):=hid (by rw [List.take_succ_eq_append_getElem hlt,List.map_append,List.map_cons,List.map_nil,sortH_snoc])
   have hmem:=List.getElem_mem hlt
   have hsh:=HRH.out _ hmem
   have HPL:=hid hsh
   have hfw:=HFW.out.1
   have HBG:=hid (rbegin_any (hs[k]).l (hs[k]).A (hs[k]).k wr ((HIN.out.rh _ hmem).below HBR.out) (by omega) hsh.2.2 (by omega))
   have hk1:(0:Int)≤(k:Int):=by omega
   have hk2:(k:Int) < (hs.length:Int):=by omega
   clear ca hmem hsh
   generalize hs[k]=p at *
   obtain ⟨pl,pA,pk⟩:=p
   unfold rowVal at ck
   dsimp only at ck HBG HTK HPL
   go_wp2_with fail
   refine HBG.out.mono ?_
   rintro e w9 ⟨⟨v,rfl,hown⟩,hb9⟩
   obtain ⟨bA,bc,rfl,hbn⟩:=own_shape hown
   have HBN:=hid hbn
   have HNA:Hid (At 53 0 w9 bA ((beginL pl).flatMap ptCells)):=hid (At.of_own hown)
   have HBO9:=hid (HBO.out.trans (hb9.mono (HOS.out _ HBO.out)))
   have HX9:=hid (p_below HX.out hb9)
   have HRS9:=hid (fun r hr=>And.intro ((HRS.out r hr).1.below hb9) (HRS.out r hr).2)
   have HOW9:=hid (own_below HOW.out hb9)
   have HOB9:=hid (HOB.out.below hb9)
   clear HX HRS HOW HOB HBO HBR ck x1 hown hb9 HBG hbn
   have HBL:Hid ((beginL pl).length=pl.length):=hid (begin_len pl)
   generalize pl.length=bn at *
   generalize hbp:beginL pl=bl at *
   clear hbp
   have HPQ:=hid (pos_len (hd bl) ((rs.map RowV.l).map hd))
   obtain ⟨wo,rfl⟩:∃ wo,wo=wr:=⟨_,rfl⟩
   go_wp2_with fail
   go_loopw [6] (fun j wr=>∃ q:Nat,j=.int .i64 (q:Int)∧q≤pos ((rs.map RowV.l).map hd) (hd bl)∧Hid (Below w9.heap.size w9 wr)) (fun j _=>rs.length - (intOf j).toNat)
   case atStart=>exact ⟨0,rfl,Nat.zero_le _,hid (Below.refl _ _)⟩
   case round =>
    obtain ⟨q,rfl,hq,HBI⟩:=hrel
    go_upto_region 7 with fail
    go_cut [41] from 24 to 43 (fun t wc=>∃ gb:Bool,t=.bool gb∧(gb=true→q+1≤pos ((rs.map RowV.l).map hd) (hd bl))∧(gb=false→q=pos ((rs.map RowV.l).map hd) (hd bl))∧Hid (Below w9.heap.size w9 wc))
    case first =>
     have hobw:ob < wr.heap.size:=Nat.lt_of_lt_of_le (blk_lt HX9.out) HBI.out.size
     have E1:∀ p:Later wr,p.w.cell? ⟨ob,1,none⟩=some (.slice hA rs.length hc):=later_cell hobw (cell_of (p_below HX9.out HBI.out) 1 _ rfl)
     by_cases hql:q < rs.length
     ·have hm:=List.getElem_mem hql
      have hrq:=HRS9.out _ hm
      obtain ⟨g2,off2,rfl,hg2,cb⟩:=row_one (Row.of_own HOW9.out) (k:=q) (by rw [List.length_map];exact hql)
      have cq:=(HBI.out.cell (p:=⟨g2,off2+q,none⟩) hg2).trans (cb q (by rw [List.length_map];exact hql))
      rw [List.getElem_map] at cq
      obtain ⟨g3,off3,e3,hg3,cc⟩:=row_get pt_len (by decide) (hrq.1.1) (by omega)
      obtain ⟨g4,off4,rfl,hg4,cd⟩:=row_get pt_len (by decide) HNA.out.1 (by have:=HPL.out.1;have:=HBL.out;omega)
      have f0:=(HBI.out.cell (p:=⟨g3,off3+0*2+0,none⟩) hg3).trans (cc 0 (by omega) 0 (by decide))
      have f1:=(HBI.out.cell (p:=⟨g3,off3+0*2+1,none⟩) hg3).trans (cc 0 (by omega) 1 (by decide))
      have h0:=(HBI.out.cell (p:=⟨g4,off4+0*2+0,none⟩) hg4).trans (cd 0 (by have:=HPL.out.1;have:=HBL.out;omega) 0 (by decide))
      have h1:=(HBI.out.cell (p:=⟨g4,off4+0*2+1,none⟩) hg4).trans (cd 0 (by have:=HPL.out.1;have:=HBL.out;omega) 1 (by decide))
      have HST:=hid (fun hh=>pos_step (v:=hd bl) (l:=(rs.map RowV.l).map hd) hq (by simpa using hql) hh)
      have HSP:=hid (fun hh=>pos_stop (v:=hd bl) (l:=(rs.map RowV.l).map hd) hq (by simpa using hql) hh)
      simp only [List.getElem_map] at HST HSP
      rw [hd_getM (l:=(rs[q]).l) (by omega),hd_getM (l:=bl) (by have:=HPL.out.1;have:=HBL.out;omega)] at HST HSP
      have l1:(0:Int) < ((rs[q]).l.length:Int):=by omega
      have l2:(0:Int) < (bn:Int):=by have:=HPL.out.1;omega
      have hq1:(0:Int)≤(q:Int):=by omega
      have hq2:(q:Int) < (rs.length:Int):=by omega
      have d1:decide ((q:Int) < (rs.length:Int))=true:=decide_eq_true hq2
      have l1':(0 < (rs[q]).l.length)=True:=eq_true (by omega)
      have l2':(0 < bn)=True:=eq_true (by omega)
      unfold rowVal at cq
      rw [e3] at cq
      have l0:0 < (rs[q]).l.length:=by omega
      have l3:0 < bl.length:=by have:=HPL.out.1;have:=HBL.out;omega
      have HHD:Hid (hd bl=bl[0]):=hid (hd_getM l3)
      clear cb cc cd hm e3
      generalize (rs[q]).l[0]=u at *
      generalize bl[0]=v at *
      generalize (rs[q]).l.length=rl at *
      generalize (rs[q]).k=rk at *
      clear hrq
      obtain ⟨ux,uy⟩:=u
      obtain ⟨x,y⟩:=v
      simp only [ptCells,List.getElem?_cons_zero,List.getElem?_cons_succ,Nat.zero_mul,Nat.add_zero] at f0 f1 h0 h1
      have E2:∀ p:Later wr,p.w.cell? ⟨g2,off2+q,none⟩=some (.slice (some ⟨g3,off3,none⟩) rl rk):=later_cell (Nat.lt_of_lt_of_le hg2 HBI.out.size) cq
      have E3:∀ p:Later wr,p.w.cell? ⟨g3,off3,none⟩=some (.int .i64 ux):=later_cell (Nat.lt_of_lt_of_le hg3 HBI.out.size) f0
      have E4:∀ p:Later wr,p.w.cell? ⟨g3,off3+1,none⟩=some (.int .i64 uy):=later_cell (Nat.lt_of_lt_of_le hg3 HBI.out.size) f1
      have E5:∀ p:Later wr,p.w.cell? ⟨g4,off4,none⟩=some (.int .i64 x):=later_cell (Nat.lt_of_lt_of_le hg4 HBI.out.size) h0
      have E6:∀ p:Later wr,p.w.cell? ⟨g4,off4+1,none⟩=some (.int .i64 y):=later_cell (Nat.lt_of_lt_of_le hg4 HBI.out.size) h1
      have HLE:=hid (fun W=>rless_any ux uy x y W)
      clear cq f0 f1 h0 h1
      cases hle:less (ux,uy) (x,y)
      ·rw [hle] at HLE
       have HQE:=hid (HSP.out hle)
       clear hle HST HSP
       refine wp_region_later wr (by kernel_rfl) (by kernel_rfl) (Below.refl _ _) ?_
       repeat (go_big_quiet_step ((go_at_call 28;exact Calls.later (HLE.out _))))
       refine wpQuiet_nil ?_
       rintro w8 hex
       have hb8:=later_of hex
       clear hex
       have HB8:=hid (HBI.out.trans (hb8.mono HBI.out.size))
       clear E1 E2 E3 E4 E5 E6 hb8
       go_wp2_with fail
       go_meet
       exact ⟨false,rfl,fun h=>(by cases h),fun _=>by rw [HHD.out];exact HQE.out,HB8⟩
      ·rw [hle] at HLE
       have hq3:=HST.out hle
       clear hle HST HSP
       refine wp_region_later wr (by kernel_rfl) (by kernel_rfl) (Below.refl _ _) ?_
       repeat (go_big_quiet_step ((go_at_call 28;exact Calls.later (HLE.out _))))
       refine wpQuiet_nil ?_
       rintro w8 hex
       have hb8:=later_of hex
       clear hex
       have HB8:=hid (HBI.out.trans (hb8.mono HBI.out.size))
       clear E1 E2 E3 E4 E5 E6 hb8
       go_wp2_with fail
       go_meet
       exact ⟨true,rfl,fun _=>by rw [HHD.out];exact hq3,fun h=>(by cases h),HB8⟩
     ·have hqe:q=rs.length:=by have:=HPQ.out;rw [List.length_map,List.length_map] at this;omega
      have HQE:Hid (q=pos ((rs.map RowV.l).map hd) (hd bl)):=hid (by have:=HPQ.out;rw [List.length_map,List.length_map] at this;omega)
      have d1:decide ((q:Int) < (rs.length:Int))=false:=decide_eq_false (by omega)
      clear hqe
      refine wp_region_later wr (by kernel_rfl) (by kernel_rfl) (Below.refl _ _) ?_
      repeat (go_big_quiet_step (fail))
      refine wpQuiet_nil ?_
      rintro w8 hex
      have hb8:=later_of hex
      clear hex
      have HB8:=hid (HBI.out.trans (hb8.mono HBI.out.size))
      clear E1 hb8
      go_wp2_with fail
      go_meet
      exact ⟨false,rfl,fun h=>(by cases h),fun _=>HQE.out,HB8⟩
    case rest =>
     obtain ⟨gb,rfl,hgt,hgf,HBC⟩:=hcut
     cases gb
     case true =>
      have hq3:=hgt rfl
      have hpq:=HPQ.out
      rw [List.length_map,List.length_map] at hpq
      have hlk:=HLK.out
      go_wp2_with fail
      go_roundw
      case rel=>exact ⟨q+1,by go_num,hq3,HBC⟩
      case measure=>simp [intOf];omega
     case false =>
      have HQE:=hid (hgf rfl)
      clear hgt hgf
      have hbd:Below w9.heap.size w9 wc.drew:=below_drewN HBC.out 1
      have HX:=hid (p_below HX9.out hbd)
      have HOW:=hid (own_below HOW9.out HBC.out)
      have HRS:=hid (fun r hr=>(HRS9.out r hr).1.below hbd)
      have HNB:=hid (HNA.out.below hbd)
      have HOB:=hid (HOB9.out.below hbd)
      have HBO:=hid (HBO9.out.trans (hbd.mono (HOS.out _ HBO9.out)))
      have hqn:q≤rs.length:=by
       have:=HPQ.out
       rw [← HQE.out] at this
       simpa using this
      have HOG:Hid (ob < wc.heap.size):=hid (blk_lt HX.out)
      have HTD:Hid (rs.map rowVal=((rs.take q).map rowVal)++((rs.drop q).map rowVal)):=hid (by rw [← List.map_append,List.take_append_drop])
      have HRW:=hid (show Row wc.drew hA (((rs.take q).map rowVal)++((rs.drop q).map rowVal)) by rw [← HTD.out];exact Row.of_own HOW.out)
      have HTK2:=hid (slice_head HRW.out)
      have HDR2:=hid (slice_rest (c:=hc) (q:=q) HRW.out (by rw [List.length_map,List.length_take];omega) (by
       obtain ⟨A2,c2,e2,h2⟩:=own_shape HOW.out
       injection e2 with _ _ e2
       intro hne
       rw [List.length_map,List.length_drop] at hne
       omega))
      have C1:Hid (0+q≤maxLen∧(0+q)*24≤140737488355328∧(((rs.take q).map rowVal):List Value).length=q*1∧∀ u∈(((rs.take q).map rowVal):List Value),u.oneCell'=true):=hid (by
       have:=HLK.out
       have:=HFW.out.1
       refine ⟨by unfold maxLen;omega,by omega,by rw [List.length_map,List.length_take];omega,fun u hu=>?_⟩
       obtain ⟨r,_,rfl⟩:=List.mem_map.1 hu
       rfl)
      have C2:Hid (0+q+1≤maxLen∧(0+q+1)*24≤140737488355328∧([.slice bA bn bc]:List Value).length=1*1∧∀ u∈([.slice bA bn bc]:List Value),u.oneCell'=true):=hid (by
       have:=HLK.out
       have:=HFW.out.1
       exact ⟨by unfold maxLen;omega,by omega,rfl,by intro u hu;simp at hu;subst hu;rfl⟩)
      have C3:Hid (0+q+1+(rs.length - q)≤maxLen∧(0+q+1+(rs.length - q))*24≤140737488355328∧(((rs.drop q).map rowVal):List Value).length=(rs.length - q)*1∧∀ u∈(((rs.drop q).map rowVal):List Value),u.oneCell'=true):=hid (by
       have:=HLK.out
       have:=HFW.out.1
       refine ⟨by unfold maxLen;omega,by omega,by rw [List.length_map,List.length_drop];omega,fun u hu=>?_⟩
       obtain ⟨r,_,rfl⟩:=List.mem_map.1 hu
       rfl)
      have HREL:Hid (∀ (C:Option Addr) (d3:Nat) (wd:World),wd.ownsRow wc.drew.heap.size 26 1 (.slice C (q+1+(rs.length - q)) d3) (q+1+(rs.length - q)) ([]++((rs.take q).map rowVal)++[.slice bA bn bc]++((rs.drop q).map rowVal))→Below wc.drew.heap.size wc.drew wd→∃ rs2:List RowV,Hid (rs2.length=k+1)∧Hid (rs2.map RowV.l=sortH ((hs.take (k+1)).map (fun r=>beginL r.l)))∧Hid ((wd.setCell ⟨ob,1,none⟩ (.slice C (q+1+(rs.length - q)) d3)).heap[ob]? = some (.cells #[.slice B ol.length d,.slice C rs2.length d3] 29))∧Hid (∀ r∈rs2,At 53 0 (wd.setCell ⟨ob,1,none⟩ (.slice C (q+1+(rs.length - q)) d3)) r.A (r.l.flatMap ptCells)∧3≤r.l.length∧r.l.length≤1000∧r.l.length≤r.k)∧Hid ((wd.setCell ⟨ob,1,none⟩ (.slice C (q+1+(rs.length - q)) d3)).ownsRow (ob+1) 26 1 (.slice C rs2.length d3) rs2.length (rs2.map rowVal))∧Hid (At 53 0 (wd.setCell ⟨ob,1,none⟩ (.slice C (q+1+(rs.length - q)) d3)) B ((beginL ol).flatMap ptCells))∧Hid (Below ob W4 (wd.setCell ⟨ob,1,none⟩ (.slice C (q+1+(rs.length - q)) d3)))):=hid (by
       intro C d3 wd ho hb
       have el:q+1+(rs.length - q)=(rs.take q++⟨bl,bA,bc⟩::rs.drop q:List RowV).length:=by simp;omega
       have ec:[]++((rs.take q).map rowVal)++[.slice bA bn bc]++((rs.drop q).map rowVal)=(rs.take q++⟨bl,bA,bc⟩::rs.drop q:List RowV).map rowVal:=by
        rw [List.map_append,List.map_cons]
        show _=_++Value.slice bA bl.length bc::_
        rw [HBL.out]
        simp
       rw [ec,el] at ho
       rw [el]
       have hxd:=p_below HX.out hb
       have hG:=grown_set (grown_refl wd (some ob)) 1 (.slice C (rs.take q++⟨bl,bA,bc⟩::rs.drop q:List RowV).length d3)
       have hat:∀ (A3:Option Addr) (xs:List Value),At 53 0 wc.drew A3 xs→At 53 0 (wd.setCell ⟨ob,1,none⟩ (.slice C (rs.take q++⟨bl,bA,bc⟩::rs.drop q:List RowV).length d3)) A3 xs:=fun A3 xs h=>(h.below hb).keep hG (RowW.at hxd (Nat.zero_le _)) (by decide)
       refine ⟨rs.take q++⟨bl,bA,bc⟩::rs.drop q,hid (by have:=HLK.out;simp;omega),hid ?_,hid (by simpa using block_set hxd 1 (.slice C (rs.take q++⟨bl,bA,bc⟩::rs.drop q:List RowV).length d3)),hid (fun r hr=>?_),hid (own_keep hG (RowW.at hxd (Nat.zero_le _)) (by decide) (own_more2 ho HOG.out)),hid (hat _ _ HOB.out),hid ((HBO.out.trans (hb.mono (HOS.out _ HBO.out))).setCell (p:=⟨ob,1,none⟩) (Nat.le_refl _) _)⟩
       ·rw [HTK.out,← HMS.out,insH_pos,← HQE.out]
        simp [List.map_take,List.map_drop]
       ·have h3:=HRS9.out
        rcases List.mem_append.1 hr with hr | hr
        ·exact ⟨hat _ _ (HRS.out r (List.mem_of_mem_take hr)),(h3 r (List.mem_of_mem_take hr)).2⟩
        ·rcases List.mem_cons.1 hr with rfl | hr
         ·refine ⟨hat _ _ HNB.out,?_⟩
          show 3≤bl.length∧bl.length≤1000∧bl.length≤bc
          rw [HBL.out]
          exact ⟨HPL.out.1,HPL.out.2.1,HBN.out⟩
         ·exact ⟨hat _ _ (HRS.out r (List.mem_of_mem_drop hr)),(h3 r (List.mem_of_mem_drop hr)).2⟩)
      have hq1:(0:Int)≤(q:Int):=by omega
      have hq2:(q:Int)≤(rs.length:Int):=by omega
      have hq3:(q:Int)≤(hc:Int):=by
       obtain ⟨A2,c2,e2,h2⟩:=own_shape HOW.out
       injection e2 with _ _ e2
       omega
      have z1:=cell_of HX.out 1 (.slice hA rs.length hc) rfl
      go_upto_region 9 with fail
      refine wp_region_tillK (k:=15) (S1:=fun w'=>True) (S2:=fun w'=>w'.cell? ⟨ob,1,none⟩=some (.slice hA rs.length hc)) (by kernel_rfl) ?_ (fun hHeld=>?_)
      ·exact ⟨trivial,z1⟩
      refine wpAnyK_take (i:=1) (oi := { dst:=some 45,op:=Op.fieldAddr 29 (Operand.tmp 3) 1,type:=0,pos := "ref.go:117",after:=#[],guard:=none }) (v:=?_) rfl (by kernel_rfl) (by kernel_rfl) (by kernel_rfl) (by kernel_rfl) (fun _ _ _ h=>h) (Or.inl ⟨by rfl,?_⟩) (by assumption) ?_
      rotate_left
      ·intro w' hSw
       (try dsimp only at hSw)
       first | (go_simp;done) | (go_simp;with_reducible rfl)
      try simp only [Act.put,List.setIfInBounds_toArray,List.set_cons_zero,List.set_cons_succ]
      refine wpAnyK_take (i:=2) (oi := { dst:=some 46,op:=Op.load 27 (Operand.tmp 45),type:=27,pos := "ref.go:117",after:=#[{ on:=1,ground:=Ground.data }],guard:=none }) (v:=?_) rfl (by kernel_rfl) (by kernel_rfl) (by kernel_rfl) (by kernel_rfl) (fun _ _ _ h=>h) (Or.inl ⟨by rfl,?_⟩) (by assumption) ?_
      rotate_left
      ·intro w' hSw
       (try dsimp only at hSw)
       first | (go_simp;done) | (go_simp;with_reducible rfl)
      try simp only [Act.put,List.setIfInBounds_toArray,List.set_cons_zero,List.set_cons_succ]
      refine wpAnyK_take (i:=3) (oi := { dst:=some 47,op:=Op.move (Operand.tmp 6),type:=3,pos := "ref.go:117",after:=#[],guard:=none }) (v:=?_) rfl (by kernel_rfl) (by kernel_rfl) (by kernel_rfl) (by kernel_rfl) (fun _ _ _ h=>h) (Or.inl ⟨by rfl,?_⟩) (by assumption) ?_
      rotate_left
      ·intro w' hSw
       (try dsimp only at hSw)
       first | (go_simp;done) | (go_simp;with_reducible rfl)
      try simp only [Act.put,List.setIfInBounds_toArray,List.set_cons_zero,List.set_cons_succ]
      refine wpAnyK_take (i:=4) (oi := { dst:=some 48,op:=Op.slice 27 (Operand.tmp 46) none (some (Operand.tmp 47)) none,type:=27,pos := "ref.go:117",after:=#[{ on:=2,ground:=Ground.data },{ on:=3,ground:=Ground.data }],guard:=none }) (v:=?_) rfl (by kernel_rfl) (by kernel_rfl) (by kernel_rfl) (by kernel_rfl) (fun _ _ _ h=>h) (Or.inl ⟨by rfl,?_⟩) (by assumption) ?_
      rotate_left
      ·intro w' hSw
       (try dsimp only at hSw)
       first | (go_simp;done) | (go_simp;with_reducible rfl)
      try simp only [Act.put,List.setIfInBounds_toArray,List.set_cons_zero,List.set_cons_succ]
      refine wpAnyK_take (i:=6) (oi := { dst:=some 50,op:=Op.move (Operand.tmp 5),type:=25,pos := "ref.go:117",after:=#[],guard:=none }) (v:=?_) rfl (by kernel_rfl) (by kernel_rfl) (by kernel_rfl) (by kernel_rfl) (fun _ _ _ h=>h) (Or.inl ⟨by rfl,?_⟩) (by assumption) ?_
      rotate_left
      ·intro w' hSw
       (try dsimp only at hSw)
       first | (go_simp;done) | (go_simp;with_reducible rfl)
      try simp only [Act.put,List.setIfInBounds_toArray,List.set_cons_zero,List.set_cons_succ]
      refine wpAnyK_take (i:=9) (oi := { dst:=some 53,op:=Op.fieldAddr 29 (Operand.tmp 3) 1,type:=0,pos := "ref.go:117",after:=#[],guard:=none }) (v:=?_) rfl (by kernel_rfl) (by kernel_rfl) (by kernel_rfl) (by kernel_rfl) (fun _ _ _ h=>h) (Or.inl ⟨by rfl,?_⟩) (by assumption) ?_
      rotate_left
      ·intro w' hSw
       (try dsimp only at hSw)
       first | (go_simp;done) | (go_simp;with_reducible rfl)
      try simp only [Act.put,List.setIfInBounds_toArray,List.set_cons_zero,List.set_cons_succ]
      refine wpAnyK_take (i:=10) (oi := { dst:=some 54,op:=Op.load 27 (Operand.tmp 53),type:=27,pos := "ref.go:117",after:=#[{ on:=9,ground:=Ground.data }],guard:=none }) (v:=?_) rfl (by kernel_rfl) (by kernel_rfl) (by kernel_rfl) (by kernel_rfl) (fun _ _ _ h=>h) (Or.inl ⟨by rfl,?_⟩) (by assumption) ?_
      rotate_left
      ·intro w' hSw
       (try dsimp only at hSw)
       first | (go_simp;done) | (go_simp;with_reducible rfl)
      try simp only [Act.put,List.setIfInBounds_toArray,List.set_cons_zero,List.set_cons_succ]
      refine wpAnyK_take (i:=11) (oi := { dst:=some 55,op:=Op.move (Operand.tmp 6),type:=3,pos := "ref.go:117",after:=#[],guard:=none }) (v:=?_) rfl (by kernel_rfl) (by kernel_rfl) (by kernel_rfl) (by kernel_rfl) (fun _ _ _ h=>h) (Or.inl ⟨by rfl,?_⟩) (by assumption) ?_
      rotate_left
      ·intro w' hSw
       (try dsimp only at hSw)
       first | (go_simp;done) | (go_simp;with_reducible rfl)
      try simp only [Act.put,List.setIfInBounds_toArray,List.set_cons_zero,List.set_cons_succ]
      refine wpAnyK_take (i:=12) (oi := { dst:=some 56,op:=Op.slice 27 (Operand.tmp 54) (some (Operand.tmp 55)) none none,type:=27,pos := "ref.go:117",after:=#[{ on:=10,ground:=Ground.data },{ on:=11,ground:=Ground.data }],guard:=none }) (v:=?_) rfl (by kernel_rfl) (by kernel_rfl) (by kernel_rfl) (by kernel_rfl) (fun _ _ _ h=>h) (Or.inl ⟨by rfl,?_⟩) (by assumption) ?_
      rotate_left
      ·intro w' hSw
       (try dsimp only at hSw)
       first | (go_simp;done) | (go_simp;with_reducible rfl)
      try simp only [Act.put,List.setIfInBounds_toArray,List.set_cons_zero,List.set_cons_succ]
      refine wpAnyK_two (i:=0) (j:=7) (oi := { dst:=some 44,op:=Op.buildSlice 27 0 #[],type:=27,pos := "ref.go:117",after:=#[],guard:=none }) (oj := { dst:=some 51,op:=Op.buildSlice 27 1 #[(0,Operand.tmp 50)],type:=27,pos := "ref.go:117",after:=#[{ on:=6,ground:=Ground.data }],guard:=none }) (by kernel_rfl) rfl rfl (fun K hK=>?_) (fun K hK=>?_)
      ·clear hHeld
       go_simp
       refine hK.out _ _ ?_ (fun _=>?_) (fun hHeld=>?_)
       ·exact trivial
       ·exact keepC (bel1 wc.drew (.cells #[] 26)) HOG.out z1
       replace hHeld:=And.intro hHeld.1 (hHeld.2 (by decide))
       clear hK K
       try simp only [Act.put,List.setIfInBounds_toArray,List.set_cons_zero,List.set_cons_succ]
       refine wpAnyK_two (i:=5) (j:=7) (oi := { dst:=some 49,op:=Op.call { callee:=Callee.builtin Builtin.append,args:=#[Operand.tmp 44,Operand.tmp 48],argTypes:=#[27,27] },type:=27,pos := "ref.go:117",after:=#[{ on:=0,ground:=Ground.data },{ on:=4,ground:=Ground.data }],guard:=none }) (oj := { dst:=some 51,op:=Op.buildSlice 27 1 #[(0,Operand.tmp 50)],type:=27,pos := "ref.go:117",after:=#[{ on:=6,ground:=Ground.data }],guard:=none }) (by kernel_rfl) rfl rfl (fun K hK=>?_) (fun K hK=>?_)
       ·refine step_append_row (by rfl) _ _ _ (by rfl) wc.drew.heap.size 26 i0 _ 1 24 Tryz.underlying27 ia ib ic id rfl (by omega) _ 0 [] (by rfl) (own_none wc.drew 26 1 wc.drew.heap.size (Nat.le_refl _)) _ _ _ ((rs.take q).map rowVal) (by rfl) (HTK2.out.below (bel1 wc.drew (.cells #[] 26))) C1.out.2.2.1 C1.out.2.2.2 C1.out.1 C1.out.2.1 (by simp<;>omega) ?_
        intro v1 wa ho1 hg1
        have hF1:=hid (below_append (bel1 wc.drew (.cells #[] 26)) (by simp<;>omega) (own_none wc.drew 26 1 wc.drew.heap.size (Nat.le_refl _)) hg1 (Nat.le_refl _))
        have hP:=hid ho1
        clear ho1 hg1
        refine hK.out _ _ ?_ (fun _=>?_) (fun hHeld=>?_)
        ·exact trivial
        ·exact keepC hF1.out HOG.out z1
        replace hHeld:=And.intro hHeld.1 (hHeld.2 (by decide))
        clear hK K
        try simp only [Act.put,List.setIfInBounds_toArray,List.set_cons_zero,List.set_cons_succ]
        refine wpAnyK_one (i:=7) (o := { dst:=some 51,op:=Op.buildSlice 27 1 #[(0,Operand.tmp 50)],type:=27,pos := "ref.go:117",after:=#[{ on:=6,ground:=Ground.data }],guard:=none }) (by kernel_rfl) rfl (fun K hK=>?_)
        go_simp
        refine hK.out _ _ ?_ (fun _=>?_) (fun hHeld=>?_)
        ·exact trivial
        ·exact keepC (hF1.out.alloc hF1.out.size (.cells #[.slice bA bn bc] 26)) HOG.out z1
        replace hHeld:=And.intro hHeld.1 (hHeld.2 (by decide))
        clear hK K
        try simp only [Act.put,List.setIfInBounds_toArray,List.set_cons_zero,List.set_cons_succ]
        refine wpAnyK_one (i:=8) (o := { dst:=some 52,op:=Op.call { callee:=Callee.builtin Builtin.append,args:=#[Operand.tmp 49,Operand.tmp 51],argTypes:=#[27,27] },type:=27,pos := "ref.go:117",after:=#[{ on:=5,ground:=Ground.data },{ on:=7,ground:=Ground.data },{ on:=5,ground:=Ground.chain }],guard:=none }) (by kernel_rfl) rfl (fun K hK=>?_)
        refine step_append_row (by rfl) _ _ _ (by rfl) wc.drew.heap.size 26 i0 _ 1 24 Tryz.underlying27 ia ib ic id rfl (by omega) _ _ _ (by rfl) (hP.out.alloc _) _ 1 _ [.slice bA bn bc] (by rfl) (newN_row _ [.slice bA bn bc] _) C2.out.2.2.1 C2.out.2.2.2 C2.out.1 C2.out.2.1 (Below.size (hF1.out.alloc hF1.out.size (.cells #[.slice bA bn bc] 26))) ?_
        intro v2 wb ho2 hg2
        have hF2:=hid (below_append (hF1.out.alloc hF1.out.size (.cells #[.slice bA bn bc] 26)) (Below.size (hF1.out.alloc hF1.out.size (.cells #[.slice bA bn bc] 26))) (hP.out.alloc _) hg2 (Nat.le_refl _))
        have hQ:=hid ho2
        clear ho2 hg2
        refine hK.out _ _ ?_ (fun _=>?_) (fun hHeld=>?_)
        ·exact trivial
        ·exact keepC hF2.out HOG.out z1
        replace hHeld:=And.intro hHeld.1 (hHeld.2 (by decide))
        clear hK K
        try simp only [Act.put,List.setIfInBounds_toArray,List.set_cons_zero,List.set_cons_succ]
        refine wpAnyK_one (i:=13) (o := { dst:=some 57,op:=Op.call { callee:=Callee.builtin Builtin.append,args:=#[Operand.tmp 52,Operand.tmp 56],argTypes:=#[27,27] },type:=27,pos := "ref.go:117",after:=#[{ on:=8,ground:=Ground.data },{ on:=12,ground:=Ground.data },{ on:=8,ground:=Ground.chain }],guard:=none }) (by kernel_rfl) rfl (fun K hK=>?_)
        refine step_append_row (by rfl) _ _ _ (by rfl) wc.drew.heap.size 26 i0 _ 1 24 Tryz.underlying27 ia ib ic id rfl (by omega) _ _ _ (by rfl) hQ.out _ _ _ ((rs.drop q).map rowVal) (by rfl) (HDR2.out.below hF2.out) C3.out.2.2.1 C3.out.2.2.2 C3.out.1 C3.out.2.1 (Below.size hF2.out) ?_
        intro v3 wd ho3 hg3
        have hF3:=hid (below_append hF2.out (Below.size hF2.out) hQ.out hg3 (Nat.le_refl _))
        have hS:=hid ho3
        clear ho3 hg3
        refine hK.out _ _ ?_ (fun _=>?_) (fun hHeld=>?_)
        ·exact trivial
        ·exact keepC hF3.out HOG.out z1
        replace hHeld:=And.intro hHeld.1 (hHeld.2 (by decide))
        clear hK K
        try simp only [Act.put,List.setIfInBounds_toArray,List.set_cons_zero,List.set_cons_succ]
        refine wpAnyK_take (i:=14) (oi := { dst:=some 58,op:=Op.fieldAddr 29 (Operand.tmp 3) 1,type:=0,pos := "ref.go:117",after:=#[{ on:=0,ground:=Ground.phase },{ on:=1,ground:=Ground.phase },{ on:=2,ground:=Ground.phase },{ on:=3,ground:=Ground.phase },{ on:=4,ground:=Ground.phase },{ on:=5,ground:=Ground.phase },{ on:=6,ground:=Ground.phase },{ on:=7,ground:=Ground.phase },{ on:=8,ground:=Ground.phase },{ on:=9,ground:=Ground.phase },{ on:=10,ground:=Ground.phase },{ on:=11,ground:=Ground.phase },{ on:=12,ground:=Ground.phase },{ on:=13,ground:=Ground.phase }],guard:=none }) (v:=?_) rfl (by kernel_rfl) (by kernel_rfl) (by kernel_rfl) (by kernel_rfl) (fun _ _ _ h=>h) (Or.inl ⟨by rfl,?_⟩) (by assumption) ?_
        rotate_left
        ·intro w' hSw
         (try dsimp only at hSw)
         first | (go_simp;done) | (go_simp;with_reducible rfl)
        try simp only [Act.put,List.setIfInBounds_toArray,List.set_cons_zero,List.set_cons_succ]
        refine wpAnyK_one (i:=15) (o := { dst:=none,op:=Op.store 27 (Operand.tmp 58) (Operand.tmp 57),type:=0,pos := "ref.go:117",after:=#[{ on:=14,ground:=Ground.data },{ on:=13,ground:=Ground.data },{ on:=13,ground:=Ground.chain },{ on:=0,ground:=Ground.phase },{ on:=1,ground:=Ground.phase },{ on:=2,ground:=Ground.phase },{ on:=3,ground:=Ground.phase },{ on:=4,ground:=Ground.phase },{ on:=5,ground:=Ground.phase },{ on:=6,ground:=Ground.phase },{ on:=7,ground:=Ground.phase },{ on:=8,ground:=Ground.phase },{ on:=9,ground:=Ground.phase },{ on:=10,ground:=Ground.phase },{ on:=11,ground:=Ground.phase },{ on:=12,ground:=Ground.phase },{ on:=13,ground:=Ground.phase }],guard:=none }) (by kernel_rfl) rfl (fun K hK=>?_)
        obtain ⟨C,d3,rfl,_⟩:=own_shape hS.out
        have x3:=free_of (p_below HX.out hF3.out) 1
        go_simp
        refine hK.out _ _ ?_ (fun hne=>?_) (fun hHeld=>?_)
        ·exact trivial
        ·exact absurd rfl hne
        clear hK K
        try simp only [Act.put,List.setIfInBounds_toArray,List.set_cons_zero,List.set_cons_succ]
        refine wpAnyK_done (by kernel_rfl) ?_ _
        clear hHeld x3 z1
        obtain ⟨rs2,r1,r2,r3,r4,r5,r6,r7⟩:=HREL.out C d3 wd (by have h:=hS.out;rw [Nat.zero_add] at h;exact h) hF3.out
        clear hS hF3 hF2 hQ hF1 hP
        go_wp2_with fail
        go_roundw
        case rel=>exact ⟨k+1,rs2,C,d3,by go_num,hlt,r1,r2,r3,r4,r5,r6,r7⟩
        case measure=>simp [intOf];omega
       ·go_simp
        refine hK.out _ _ ?_ (fun _=>?_) (fun hHeld=>?_)
        ·exact trivial
        ·exact keepC ((bel1 wc.drew (.cells #[] 26)).alloc (by simp) (.cells #[.slice bA bn bc] 26)) HOG.out z1
        replace hHeld:=And.intro hHeld.1 (hHeld.2 (by decide))
        clear hK K
        try simp only [Act.put,List.setIfInBounds_toArray,List.set_cons_zero,List.set_cons_succ]
        refine wpAnyK_one (i:=5) (o := { dst:=some 49,op:=Op.call { callee:=Callee.builtin Builtin.append,args:=#[Operand.tmp 44,Operand.tmp 48],argTypes:=#[27,27] },type:=27,pos := "ref.go:117",after:=#[{ on:=0,ground:=Ground.data },{ on:=4,ground:=Ground.data }],guard:=none }) (by kernel_rfl) rfl (fun K hK=>?_)
        refine step_append_row (by rfl) _ _ _ (by rfl) wc.drew.heap.size 26 i0 _ 1 24 Tryz.underlying27 ia ib ic id rfl (by omega) _ 0 [] (by rfl) ((own_none wc.drew 26 1 wc.drew.heap.size (Nat.le_refl _)).alloc (.cells #[.slice bA bn bc] 26)) _ _ _ ((rs.take q).map rowVal) (by rfl) (HTK2.out.below ((bel1 wc.drew (.cells #[] 26)).alloc (by simp) (.cells #[.slice bA bn bc] 26))) C1.out.2.2.1 C1.out.2.2.2 C1.out.1 C1.out.2.1 (by simp<;>omega) ?_
        intro v1 wa ho1 hg1
        have hF1:=hid (below_append ((bel1 wc.drew (.cells #[] 26)).alloc (by simp) (.cells #[.slice bA bn bc] 26)) (by simp<;>omega) ((own_none wc.drew 26 1 wc.drew.heap.size (Nat.le_refl _)).alloc (.cells #[.slice bA bn bc] 26)) hg1 (Nat.le_refl _))
        have hP:=hid ho1
        have HN:=hid (GeW.row_grown (newN_rowD wc.drew (.cells #[] 26) [.slice bA bn bc] 26) hg1 (by simp [Value.ownBlock]))
        clear ho1 hg1
        refine hK.out _ _ ?_ (fun _=>?_) (fun hHeld=>?_)
        ·exact trivial
        ·exact keepC hF1.out HOG.out z1
        replace hHeld:=And.intro hHeld.1 (hHeld.2 (by decide))
        clear hK K
        try simp only [Act.put,List.setIfInBounds_toArray,List.set_cons_zero,List.set_cons_succ]
        refine wpAnyK_one (i:=8) (o := { dst:=some 52,op:=Op.call { callee:=Callee.builtin Builtin.append,args:=#[Operand.tmp 49,Operand.tmp 51],argTypes:=#[27,27] },type:=27,pos := "ref.go:117",after:=#[{ on:=5,ground:=Ground.data },{ on:=7,ground:=Ground.data },{ on:=5,ground:=Ground.chain }],guard:=none }) (by kernel_rfl) rfl (fun K hK=>?_)
        refine step_append_row (by rfl) _ _ _ (by rfl) wc.drew.heap.size 26 i0 _ 1 24 Tryz.underlying27 ia ib ic id rfl (by omega) _ _ _ (by rfl) hP.out _ 1 _ [.slice bA bn bc] (by rfl) HN.out C2.out.2.2.1 C2.out.2.2.2 C2.out.1 C2.out.2.1 (Below.size hF1.out) ?_
        intro v2 wb ho2 hg2
        have hF2:=hid (below_append hF1.out (Below.size hF1.out) hP.out hg2 (Nat.le_refl _))
        have hQ:=hid ho2
        clear ho2 hg2
        refine hK.out _ _ ?_ (fun _=>?_) (fun hHeld=>?_)
        ·exact trivial
        ·exact keepC hF2.out HOG.out z1
        replace hHeld:=And.intro hHeld.1 (hHeld.2 (by decide))
        clear hK K
        try simp only [Act.put,List.setIfInBounds_toArray,List.set_cons_zero,List.set_cons_succ]
        refine wpAnyK_one (i:=13) (o := { dst:=some 57,op:=Op.call { callee:=Callee.builtin Builtin.append,args:=#[Operand.tmp 52,Operand.tmp 56],argTypes:=#[27,27] },type:=27,pos := "ref.go:117",after:=#[{ on:=8,ground:=Ground.data },{ on:=12,ground:=Ground.data },{ on:=8,ground:=Ground.chain }],guard:=none }) (by kernel_rfl) rfl (fun K hK=>?_)
        refine step_append_row (by rfl) _ _ _ (by rfl) wc.drew.heap.size 26 i0 _ 1 24 Tryz.underlying27 ia ib ic id rfl (by omega) _ _ _ (by rfl) hQ.out _ _ _ ((rs.drop q).map rowVal) (by rfl) (HDR2.out.below hF2.out) C3.out.2.2.1 C3.out.2.2.2 C3.out.1 C3.out.2.1 (Below.size hF2.out) ?_
        intro v3 wd ho3 hg3
        have hF3:=hid (below_append hF2.out (Below.size hF2.out) hQ.out hg3 (Nat.le_refl _))
        have hS:=hid ho3
        clear ho3 hg3
        refine hK.out _ _ ?_ (fun _=>?_) (fun hHeld=>?_)
        ·exact trivial
        ·exact keepC hF3.out HOG.out z1
        replace hHeld:=And.intro hHeld.1 (hHeld.2 (by decide))
        clear hK K
        try simp only [Act.put,List.setIfInBounds_toArray,List.set_cons_zero,List.set_cons_succ]
        refine wpAnyK_take (i:=14) (oi := { dst:=some 58,op:=Op.fieldAddr 29 (Operand.tmp 3) 1,type:=0,pos := "ref.go:117",after:=#[{ on:=0,ground:=Ground.phase },{ on:=1,ground:=Ground.phase },{ on:=2,ground:=Ground.phase },{ on:=3,ground:=Ground.phase },{ on:=4,ground:=Ground.phase },{ on:=5,ground:=Ground.phase },{ on:=6,ground:=Ground.phase },{ on:=7,ground:=Ground.phase },{ on:=8,ground:=Ground.phase },{ on:=9,ground:=Ground.phase },{ on:=10,ground:=Ground.phase },{ on:=11,ground:=Ground.phase },{ on:=12,ground:=Ground.phase },{ on:=13,ground:=Ground.phase }],guard:=none }) (v:=?_) rfl (by kernel_rfl) (by kernel_rfl) (by kernel_rfl) (by kernel_rfl) (fun _ _ _ h=>h) (Or.inl ⟨by rfl,?_⟩) (by assumption) ?_
        rotate_left
        ·intro w' hSw
         (try dsimp only at hSw)
         first | (go_simp;done) | (go_simp;with_reducible rfl)
        try simp only [Act.put,List.setIfInBounds_toArray,List.set_cons_zero,List.set_cons_succ]
        refine wpAnyK_one (i:=15) (o := { dst:=none,op:=Op.store 27 (Operand.tmp 58) (Operand.tmp 57),type:=0,pos := "ref.go:117",after:=#[{ on:=14,ground:=Ground.data },{ on:=13,ground:=Ground.data },{ on:=13,ground:=Ground.chain },{ on:=0,ground:=Ground.phase },{ on:=1,ground:=Ground.phase },{ on:=2,ground:=Ground.phase },{ on:=3,ground:=Ground.phase },{ on:=4,ground:=Ground.phase },{ on:=5,ground:=Ground.phase },{ on:=6,ground:=Ground.phase },{ on:=7,ground:=Ground.phase },{ on:=8,ground:=Ground.phase },{ on:=9,ground:=Ground.phase },{ on:=10,ground:=Ground.phase },{ on:=11,ground:=Ground.phase },{ on:=12,ground:=Ground.phase },{ on:=13,ground:=Ground.phase }],guard:=none }) (by kernel_rfl) rfl (fun K hK=>?_)
        obtain ⟨C,d3,rfl,_⟩:=own_shape hS.out
        have x3:=free_of (p_below HX.out hF3.out) 1
        go_simp
        refine hK.out _ _ ?_ (fun hne=>?_) (fun hHeld=>?_)
        ·exact trivial
        ·exact absurd rfl hne
        clear hK K
        try simp only [Act.put,List.setIfInBounds_toArray,List.set_cons_zero,List.set_cons_succ]
        refine wpAnyK_done (by kernel_rfl) ?_ _
        clear hHeld x3 z1
        obtain ⟨rs2,r1,r2,r3,r4,r5,r6,r7⟩:=HREL.out C d3 wd (by have h:=hS.out;rw [Nat.zero_add] at h;exact h) hF3.out
        clear hS hF3 hF2 hQ hF1 hP
        go_wp2_with fail
        go_roundw
        case rel=>exact ⟨k+1,rs2,C,d3,by go_num,hlt,r1,r2,r3,r4,r5,r6,r7⟩
        case measure=>simp [intOf];omega
      ·clear hHeld
       go_simp
       refine hK.out _ _ ?_ (fun _=>?_) (fun hHeld=>?_)
       ·exact trivial
       ·exact keepC (bel1 wc.drew (.cells #[.slice bA bn bc] 26)) HOG.out z1
       replace hHeld:=And.intro hHeld.1 (hHeld.2 (by decide))
       clear hK K
       try simp only [Act.put,List.setIfInBounds_toArray,List.set_cons_zero,List.set_cons_succ]
       refine wpAnyK_one (i:=0) (o := { dst:=some 44,op:=Op.buildSlice 27 0 #[],type:=27,pos := "ref.go:117",after:=#[],guard:=none }) (by kernel_rfl) rfl (fun K hK=>?_)
       go_simp
       refine hK.out _ _ ?_ (fun _=>?_) (fun hHeld=>?_)
       ·exact trivial
       ·exact keepC ((bel1 wc.drew (.cells #[.slice bA bn bc] 26)).alloc (by simp) (.cells #[] 26)) HOG.out z1
       replace hHeld:=And.intro hHeld.1 (hHeld.2 (by decide))
       clear hK K
       try simp only [Act.put,List.setIfInBounds_toArray,List.set_cons_zero,List.set_cons_succ]
       refine wpAnyK_one (i:=5) (o := { dst:=some 49,op:=Op.call { callee:=Callee.builtin Builtin.append,args:=#[Operand.tmp 44,Operand.tmp 48],argTypes:=#[27,27] },type:=27,pos := "ref.go:117",after:=#[{ on:=0,ground:=Ground.data },{ on:=4,ground:=Ground.data }],guard:=none }) (by kernel_rfl) rfl (fun K hK=>?_)
       refine step_append_row (by rfl) _ _ _ (by rfl) wc.drew.heap.size 26 i0 _ 1 24 Tryz.underlying27 ia ib ic id rfl (by omega) _ 0 [] (by rfl) (own_emptyD wc.drew (.cells #[.slice bA bn bc] 26) 26 1) _ _ _ ((rs.take q).map rowVal) (by rfl) (HTK2.out.below ((bel1 wc.drew (.cells #[.slice bA bn bc] 26)).alloc (by simp) (.cells #[] 26))) C1.out.2.2.1 C1.out.2.2.2 C1.out.1 C1.out.2.1 (by simp<;>omega) ?_
       intro v1 wa ho1 hg1
       have hF1:=hid (below_append ((bel1 wc.drew (.cells #[.slice bA bn bc] 26)).alloc (by simp) (.cells #[] 26)) (by simp<;>omega) (own_emptyD wc.drew (.cells #[.slice bA bn bc] 26) 26 1) hg1 (Nat.le_refl _))
       have hP:=hid ho1
       have HN:=hid (GeW.row_grown (GeW.Row.alloc (newN_row wc.drew [.slice bA bn bc] 26) (.cells #[] 26)) hg1 (by simp [Value.ownBlock]))
       clear ho1 hg1
       refine hK.out _ _ ?_ (fun _=>?_) (fun hHeld=>?_)
       ·exact trivial
       ·exact keepC hF1.out HOG.out z1
       replace hHeld:=And.intro hHeld.1 (hHeld.2 (by decide))
       clear hK K
       try simp only [Act.put,List.setIfInBounds_toArray,List.set_cons_zero,List.set_cons_succ]
       refine wpAnyK_one (i:=8) (o := { dst:=some 52,op:=Op.call { callee:=Callee.builtin Builtin.append,args:=#[Operand.tmp 49,Operand.tmp 51],argTypes:=#[27,27] },type:=27,pos := "ref.go:117",after:=#[{ on:=5,ground:=Ground.data },{ on:=7,ground:=Ground.data },{ on:=5,ground:=Ground.chain }],guard:=none }) (by kernel_rfl) rfl (fun K hK=>?_)
       refine step_append_row (by rfl) _ _ _ (by rfl) wc.drew.heap.size 26 i0 _ 1 24 Tryz.underlying27 ia ib ic id rfl (by omega) _ _ _ (by rfl) hP.out _ 1 _ [.slice bA bn bc] (by rfl) HN.out C2.out.2.2.1 C2.out.2.2.2 C2.out.1 C2.out.2.1 (Below.size hF1.out) ?_
       intro v2 wb ho2 hg2
       have hF2:=hid (below_append hF1.out (Below.size hF1.out) hP.out hg2 (Nat.le_refl _))
       have hQ:=hid ho2
       clear ho2 hg2
       refine hK.out _ _ ?_ (fun _=>?_) (fun hHeld=>?_)
       ·exact trivial
       ·exact keepC hF2.out HOG.out z1
       replace hHeld:=And.intro hHeld.1 (hHeld.2 (by decide))
       clear hK K
       try simp only [Act.put,List.setIfInBounds_toArray,List.set_cons_zero,List.set_cons_succ]
       refine wpAnyK_one (i:=13) (o := { dst:=some 57,op:=Op.call { callee:=Callee.builtin Builtin.append,args:=#[Operand.tmp 52,Operand.tmp 56],argTypes:=#[27,27] },type:=27,pos := "ref.go:117",after:=#[{ on:=8,ground:=Ground.data },{ on:=12,ground:=Ground.data },{ on:=8,ground:=Ground.chain }],guard:=none }) (by kernel_rfl) rfl (fun K hK=>?_)
       refine step_append_row (by rfl) _ _ _ (by rfl) wc.drew.heap.size 26 i0 _ 1 24 Tryz.underlying27 ia ib ic id rfl (by omega) _ _ _ (by rfl) hQ.out _ _ _ ((rs.drop q).map rowVal) (by rfl) (HDR2.out.below hF2.out) C3.out.2.2.1 C3.out.2.2.2 C3.out.1 C3.out.2.1 (Below.size hF2.out) ?_
       intro v3 wd ho3 hg3
       have hF3:=hid (below_append hF2.out (Below.size hF2.out) hQ.out hg3 (Nat.le_refl _))
       have hS:=hid ho3
       clear ho3 hg3
       refine hK.out _ _ ?_ (fun _=>?_) (fun hHeld=>?_)
       ·exact trivial
       ·exact keepC hF3.out HOG.out z1
       replace hHeld:=And.intro hHeld.1 (hHeld.2 (by decide))
       clear hK K
       try simp only [Act.put,List.setIfInBounds_toArray,List.set_cons_zero,List.set_cons_succ]
       refine wpAnyK_take (i:=14) (oi := { dst:=some 58,op:=Op.fieldAddr 29 (Operand.tmp 3) 1,type:=0,pos := "ref.go:117",after:=#[{ on:=0,ground:=Ground.phase },{ on:=1,ground:=Ground.phase },{ on:=2,ground:=Ground.phase },{ on:=3,ground:=Ground.phase },{ on:=4,ground:=Ground.phase },{ on:=5,ground:=Ground.phase },{ on:=6,ground:=Ground.phase },{ on:=7,ground:=Ground.phase },{ on:=8,ground:=Ground.phase },{ on:=9,ground:=Ground.phase },{ on:=10,ground:=Ground.phase },{ on:=11,ground:=Ground.phase },{ on:=12,ground:=Ground.phase },{ on:=13,ground:=Ground.phase }],guard:=none }) (v:=?_) rfl (by kernel_rfl) (by kernel_rfl) (by kernel_rfl) (by kernel_rfl) (fun _ _ _ h=>h) (Or.inl ⟨by rfl,?_⟩) (by assumption) ?_
       rotate_left
       ·intro w' hSw
        (try dsimp only at hSw)
        first | (go_simp;done) | (go_simp;with_reducible rfl)
       try simp only [Act.put,List.setIfInBounds_toArray,List.set_cons_zero,List.set_cons_succ]
       refine wpAnyK_one (i:=15) (o := { dst:=none,op:=Op.store 27 (Operand.tmp 58) (Operand.tmp 57),type:=0,pos := "ref.go:117",after:=#[{ on:=14,ground:=Ground.data },{ on:=13,ground:=Ground.data },{ on:=13,ground:=Ground.chain },{ on:=0,ground:=Ground.phase },{ on:=1,ground:=Ground.phase },{ on:=2,ground:=Ground.phase },{ on:=3,ground:=Ground.phase },{ on:=4,ground:=Ground.phase },{ on:=5,ground:=Ground.phase },{ on:=6,ground:=Ground.phase },{ on:=7,ground:=Ground.phase },{ on:=8,ground:=Ground.phase },{ on:=9,ground:=Ground.phase },{ on:=10,ground:=Ground.phase },{ on:=11,ground:=Ground.phase },{ on:=12,ground:=Ground.phase },{ on:=13,ground:=Ground.phase }],guard:=none }) (by kernel_rfl) rfl (fun K hK=>?_)
       obtain ⟨C,d3,rfl,_⟩:=own_shape hS.out
       have x3:=free_of (p_below HX.out hF3.out) 1
       go_simp
       refine hK.out _ _ ?_ (fun hne=>?_) (fun hHeld=>?_)
       ·exact trivial
       ·exact absurd rfl hne
       clear hK K
       try simp only [Act.put,List.setIfInBounds_toArray,List.set_cons_zero,List.set_cons_succ]
       refine wpAnyK_done (by kernel_rfl) ?_ _
       clear hHeld x3 z1
       obtain ⟨rs2,r1,r2,r3,r4,r5,r6,r7⟩:=HREL.out C d3 wd (by have h:=hS.out;rw [Nat.zero_add] at h;exact h) hF3.out
       clear hS hF3 hF2 hQ hF1 hP
       go_wp2_with fail
       go_roundw
       case rel=>exact ⟨k+1,rs2,C,d3,by go_num,hlt,r1,r2,r3,r4,r5,r6,r7⟩
       case measure=>simp [intOf];omega
  ·obtain rfl:k=hs.length:=by omega
   have hbx:Below w.heap.size w wr:=HBR.out
   have HE5:=hid ((HBO.out.block (w.heap.size+1) (by omega)).trans HE2.out)
   have o0:=cell_of HX.out 0 _ rfl
   have o1:=cell_of HX.out 1 _ rfl
   have z0:=cell_of HE5.out 0 _ rfl
   have z1:=cell_of HE5.out 1 _ rfl
   have q0:=free_of HE5.out 0
   have q1:=free_of HE5.out 1
   have HWF:=hid (block_set (block_set HE5.out 0 (.slice B ol.length d)) 1 (.slice hA rs.length hc))
   have HGF:=hid (grown_set (grown_set (grown_refl wr (some (w.heap.size+1))) 0 (.slice B ol.length d)) 1 (.slice hA rs.length hc))
   go_wp2_with fail
   clear o0 o1 z0 z1 q0 q1 x1
   generalize (wr.setCell ⟨w.heap.size+1,0,none⟩ (.slice B ol.length d)).setCell ⟨w.heap.size+1,1,none⟩ (.slice hA rs.length hc)=WF at *
   have z0:=cell_of HWF.out 0 _ rfl
   have z1:=cell_of HWF.out 1 _ rfl
   have hbf:Below w.heap.size w WF:=below_grown2 hbx HGF.out (fun q hq=>by cases hq;omega) hbx.size
   have hw5:=RowW.at HE5.out (Nat.zero_le (w.heap.size+1))
   refine bodyPost_ret (v:=.agg #[.slice B ol.length d,.slice hA rs.length hc]) (by simp [results,Tryz.results81,go_sem,z0,z1]) rfl ?_
   refine ⟨⟨⟨⟨beginL ol,B,d⟩,rs,hA,hc⟩,?_,⟨HOB.out.keep HGF.out hw5 (by decide),(At.of_own HOW.out).keep HGF.out hw5 (by decide),fun r hr=>(HRS.out r hr).1.keep HGF.out hw5 (by decide),?_,fun r hr=>?_,?_⟩,rfl,?_⟩,hbf⟩
   ·show _=Ending.returned (Value.agg #[.slice B (beginL ol).length d,.slice hA rs.length hc])
    rw [begin_len]
   ·show rs.length≤1000
    rw [HLK.out];exact HFW.out.1
   ·rcases List.mem_cons.1 hr with rfl | hr
    ·exact ⟨by show (beginL ol).length≤1000;rw [begin_len];exact HFW.out.2.1,by show (beginL ol).length≤d;rw [begin_len];exact HND.out⟩
    ·exact (HRS.out r hr).2.2
   ·show rs.length≤hc
    obtain ⟨A2,c2,e2,h2⟩:=own_shape HOW.out
    injection e2 with _ _ e2
    omega
   ·show rs.map RowV.l=sortH ((hs.map RowV.l).map beginL)
    rw [HMS.out,List.take_length,List.map_map]
    rfl
end Go.Proofs.YtnmmhcchpcbeeaaGreat.GeW
