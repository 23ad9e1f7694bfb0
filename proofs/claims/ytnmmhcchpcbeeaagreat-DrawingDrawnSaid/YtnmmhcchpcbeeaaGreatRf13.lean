/- Walk: of the reference: whether a ring is valid. Conditions: the points lie in memory. -/
import Derived.Test.YtnmmhcchpcbeeaaGreatApR
import Derived.Test.YtnmmhcchpcbeeaaGreatGeE
import Derived.Test.YtnmmhcchpcbeeaaGreatGeR
import Derived.Deep.CutRange
import Derived.Test.YtnmmhcchpcbeeaaGreatRf8

namespace Go.Proofs.YtnmmhcchpcbeeaaGreat.GeW
open Lib (hid)
open Go Go.RowKit Go.Proofs.YtnmmhcchpcbeeaaGreat.Mem Go.Proofs.YtnmmhcchpcbeeaaGreat.Ge
attribute [local go_sem ↓] Go.wp_at_zero Go.wp_at_succ
set_option maxRecDepth 100000 in
set_option maxHeartbeats 1000000 in
theorem rnear_any (l:List V) (A:Option Addr) (c:Nat) (w:World) (hr:Row w A (l.flatMap ptCells)) (hl:l.length≤17592186043904) :
  Calls Tryz.prog 106 #[.slice A l.length c] w fun e w'=>e=.returned (.bool (near l))∧Below w.heap.size w w':=by
 have HR:=hid hr
 clear hr
 go_enter Tryz.func106,Tryz.ntmps106
 go_wp2
 go_loopw [3] (fun i wr=>∃ k:Nat,i=.int .i64 (k:Int)∧k≤l.length∧Hid (near l=near (l.drop k))∧Hid (Below w.heap.size w wr)) (fun i _=>l.length - (intOf i).toNat)
 case atStart=>exact ⟨0,rfl,Nat.zero_le _,hid rfl,hid (Below.refl _ _)⟩
 case round =>
  obtain ⟨k,rfl,hk,HN,HB⟩:=hrel
  by_cases hlt:k < l.length
  ·obtain ⟨g,off,rfl,hg,hc⟩:=row_get pt_len (by decide) HR.out (by omega)
   have a0:=(HB.out.cell (p:=⟨g,off+k*2,none⟩) hg).trans (hc k hlt 0 (by decide))
   have a1:=(HB.out.cell (p:=⟨g,off+k*2+1,none⟩) hg).trans (hc k hlt 1 (by decide))
   have HS:Hid (near l=(within l[k] 2000&&near (l.drop (k+1)))):=hid (by rw [HN.out,List.drop_eq_getElem_cons hlt];rfl)
   clear hc
   generalize l[k]=q at *
   obtain ⟨qx,qy⟩:=q
   simp only [ptCells,List.getElem?_cons_zero,List.getElem?_cons_succ] at a0 a1
   have HW:=hid (fun W=>rwithin_any qx qy 2000 W (by omega))
   generalize within (qx,qy) 2000=b at *
   go_wp2_with fail
   refine (HW.out _).mono ?_
   rintro e w9 ⟨rfl,hb9⟩
   have HB9:=hid (HB.out.trans (hb9.mono HB.out.size))
   clear a0 a1 hb9
   cases b
   ·go_wp2
    go_ret
    rw [HS.out]
    exact ⟨rfl,HB9.out⟩
   ·go_wp2
    go_roundw
    case rel=>exact ⟨k+1,by go_num,by omega,hid (by rw [HS.out];rfl),HB9⟩
    case measure=>simp [intOf];omega
  ·obtain rfl:k=l.length:=by omega
   have HF:Hid (near l=true):=hid (by rw [HN.out,List.drop_length];rfl)
   go_wp2
   go_ret
   rw [HF.out]
   exact ⟨rfl,HB.out⟩
set_option maxRecDepth 100000 in
set_option maxHeartbeats 4000000 in
theorem rarea_any (l:List V) (A:Option Addr) (c:Nat) (w:World) (hr:Row w A (l.flatMap ptCells)) (hl:l.length≤200) (hn:near l=true) :
  Calls Tryz.prog 108 #[.slice A l.length c] w fun e w'=>e=.returned (.int .i64 (area l))∧Below w.heap.size w w':=by
 have HR:=hid hr
 have HN:=hid hn
 clear hr hn
 go_enter Tryz.func108,Tryz.ntmps108
 go_wp2
 go_loopw [3,4] (fun n i wr=>∃ k:Nat,i=.int .i64 (k:Int)∧k≤l.length∧n=.int .i64 (areaFrom l k)∧Hid (Below w.heap.size w wr)) (fun _ i _=>l.length - (intOf i).toNat)
 case atStart=>exact ⟨0,rfl,Nat.zero_le _,rfl,hid (Below.refl _ _)⟩
 case round =>
  obtain ⟨k,rfl,hk,rfl,HB⟩:=hrel
  have hAB:=areaFrom_le HN.out k hk
  by_cases hlt:k < l.length
  ·have HAX:=hid (areaFrom_le HN.out (k+1) hlt)
   have HXN:=hid (cross_near HN.out hlt)
   obtain ⟨g,off,rfl,hg,hc⟩:=row_get pt_len (by decide) HR.out (by omega)
   obtain ⟨j,hj⟩:∃ j,j=(k+1) % l.length:=⟨_,rfl⟩
   have hjl:j < l.length:=by rw [hj];exact Nat.mod_lt _ (by omega)
   have hm:((k:Int)+1) % (l.length:Int)=(j:Int):=by rw [hj,Int.natCast_emod,show (((k+1):Nat):Int)=((k:Int)+1) by omega]
   have hgr:g < wr.heap.size:=Nat.lt_of_lt_of_le hg HB.out.size
   have A0:∀ p:Later wr,p.w.cell? ⟨g,off+k*2,none⟩=some (.int .i64 l[k].1):=later_cell hgr ((HB.out.cell (p:=⟨g,off+k*2,none⟩) hg).trans (hc k hlt 0 (by decide)))
   have A1:∀ p:Later wr,p.w.cell? ⟨g,off+k*2+1,none⟩=some (.int .i64 l[k].2):=later_cell hgr ((HB.out.cell (p:=⟨g,off+k*2+1,none⟩) hg).trans (hc k hlt 1 (by decide)))
   have B0:∀ p:Later wr,p.w.cell? ⟨g,off+j*2,none⟩=some (.int .i64 l[j].1):=later_cell hgr ((HB.out.cell (p:=⟨g,off+j*2,none⟩) hg).trans (hc j hjl 0 (by decide)))
   have B1:∀ p:Later wr,p.w.cell? ⟨g,off+j*2+1,none⟩=some (.int .i64 l[j].2):=later_cell hgr ((HB.out.cell (p:=⟨g,off+j*2+1,none⟩) hg).trans (hc j hjl 1 (by decide)))
   have HV:Hid (nxt l k=l[j]):=hid (by unfold nxt;rw [← hj];simp [List.getD,List.getElem?_eq_getElem hjl])
   have HS:Hid (areaFrom l (k+1)=areaFrom l k+(l[k].1*(nxt l k).2 - l[k].2*(nxt l k).1)):=hid (by rw [areaFrom,List.getD_eq_getElem?_getD,List.getElem?_eq_getElem hlt];rfl)
   rw [HV.out] at HS HXN
   clear hc HV hj
   generalize l[k]=q at *
   generalize l[j]=p at *
   obtain ⟨qx,qy⟩:=q
   obtain ⟨px,py⟩:=p
   simp only at HXN HS A0 A1 B0 B1
   have HCR:=hid (fun W=>rcross_any qx qy px py W (by have:=HXN.out.1;omega) (by have:=HXN.out.2;omega))
   generalize areaFrom l k=s1 at *
   have hsum:=HS.out
   have hax:=HAX.out
   have hxn:=HXN.out
   have WW:IntKind.i64.wrap (s1+(qx*py - qy*px))=s1+(qx*py - qy*px):=by rw [IntKind.wrap_i64];omega
   have hk1:(0:Int)≤(k:Int):=by omega
   have hl0:((l.length:Int)=0)=False:=eq_false (by omega)
   have hl1:((l.length:Int) == 0)=false:=beq_eq_false_iff_ne.2 (by omega)
   clear hsum hax hxn
   go_wp2
   refine wp_region_later wr (by kernel_rfl) (by kernel_rfl) (Below.refl _ _) ?_
   repeat (go_big_quiet_step (first | fail | (go_at_call 157;exact Calls.later (HCR.out _))))
   refine wpQuiet_nil ?_
   rintro w9 hex;have hb9:=later_of hex;clear hex
   have HB9:=hid (HB.out.trans (hb9.mono HB.out.size))
   clear WW A0 A1 B0 B1 hb9 hl0 hl1
   go_wp2
   go_roundw
   case rel=>exact ⟨k+1,by go_num,by omega,by rw [HS.out],HB9⟩
   case measure=>simp [intOf];omega
  ·have hk2:k=l.length:=by omega
   subst hk2
   go_wp2
   go_ret
   exact ⟨rfl,HB.out⟩
theorem seg_one (l:List S):∀ u∈l.flatMap segCells,u.oneCell'=true:=by
 intro u hu
 obtain ⟨x,_,hx⟩:=List.mem_flatMap.1 hu
 unfold segCells at hx
 simp at hx
 rcases hx with rfl | rfl | rfl | rfl<;>rfl
set_option maxRecDepth 100000 in
set_option maxHeartbeats 4000000 in
theorem redges_any (l:List V) (A:Option Addr) (c:Nat) (w:World) (hr:Row w A (l.flatMap ptCells)) (hl:l.length≤200) (h2:2≤l.length) :
  Calls Tryz.prog 67 #[.slice A l.length c] w fun e w'=>∃ v,e=.returned v∧w'.ownsRow w.heap.size 74 4 v l.length ((edgesN l l.length).flatMap segCells)∧Below w.heap.size w w':=by
 have HR:=hid hr
 obtain ⟨i0,ia,ib,ic,id⟩:=info_parts info_seg
 have d2:decide ((l.length:Int) < 2)=false:=decide_eq_false (by omega)
 clear hr
 go_enter Tryz.func67,Tryz.ntmps67
 go_wp2
 go_loopw [3,4] (fun t i wr=>∃ k:Nat,i=.int .i64 (k:Int)∧k≤l.length∧Hid (wr.ownsRow w.heap.size 74 4 t k ((edgesN l k).flatMap segCells))∧Hid (Below w.heap.size w wr)) (fun _ i _=>l.length - (intOf i).toNat)
 case atStart=>exact ⟨0,rfl,Nat.zero_le _,hid (World.ownsRow_nil _ _ _ _),hid (Below.refl _ _)⟩
 case round =>
  obtain ⟨k,rfl,hk,HO,HB⟩:=hrel
  obtain ⟨vA,vc,rfl,hvc⟩:=own_shape HO.out
  by_cases hlt:k < l.length
  ·obtain ⟨g,off,rfl,hg,hc⟩:=row_get pt_len (by decide) HR.out (by omega)
   obtain ⟨j,hj⟩:∃ j,j=(k+1) % l.length:=⟨_,rfl⟩
   have hjl:j < l.length:=by rw [hj];exact Nat.mod_lt _ (by omega)
   have hm:((k:Int)+1) % (l.length:Int)=(j:Int):=by rw [hj,Int.natCast_emod,show (((k+1):Nat):Int)=((k:Int)+1) by omega]
   have a0:=(HB.out.cell (p:=⟨g,off+k*2,none⟩) hg).trans (hc k hlt 0 (by decide))
   have a1:=(HB.out.cell (p:=⟨g,off+k*2+1,none⟩) hg).trans (hc k hlt 1 (by decide))
   have b0:=(HB.out.cell (p:=⟨g,off+j*2,none⟩) hg).trans (hc j hjl 0 (by decide))
   have b1:=(HB.out.cell (p:=⟨g,off+j*2+1,none⟩) hg).trans (hc j hjl 1 (by decide))
   have hgr:g < wr.heap.size:=Nat.lt_of_lt_of_le hg HB.out.size
   have HV:Hid (nxt l k=l[j]):=hid (by unfold nxt;rw [← hj];simp [List.getD,List.getElem?_eq_getElem hjl])
   have HS:Hid (edgesN l (k+1)=edgesN l k++[(l[k],nxt l k)]):=hid (by rw [edgesN_succ,List.getD_eq_getElem?_getD,List.getElem?_eq_getElem hlt];rfl)
   rw [HV.out] at HS
   have HC4:Hid (w.cell? ⟨g,off+k*2,none⟩=(ptCells l[k])[0]?∧w.cell? ⟨g,off+k*2+1,none⟩=(ptCells l[k])[1]?∧w.cell? ⟨g,off+j*2,none⟩=(ptCells l[j])[0]?∧w.cell? ⟨g,off+j*2+1,none⟩=(ptCells l[j])[1]?):=hid ⟨hc k hlt 0 (by decide),hc k hlt 1 (by decide),hc j hjl 0 (by decide),hc j hjl 1 (by decide)⟩
   clear hc HV hj
   generalize l[k]=q at *
   generalize l[j]=p at *
   obtain ⟨qx,qy⟩:=q
   obtain ⟨px,py⟩:=p
   simp only [ptCells,List.getElem?_cons_zero,List.getElem?_cons_succ] at a0 a1 b0 b1
   have hz:=Below.size HB.out
   have C2:Hid (k+1≤maxLen∧(k+1)*32≤140737488355328∧([.int .i64 qx,.int .i64 qy,.int .i64 px,.int .i64 py]:List Value).length=1*4∧∀ u∈([.int .i64 qx,.int .i64 qy,.int .i64 px,.int .i64 py]:List Value),u.oneCell'=true):=hid ⟨by unfold maxLen;omega,by omega,rfl,by intro u hu;simp at hu;rcases hu with rfl | rfl | rfl | rfl<;>rfl⟩
   have hk1:(0:Int)≤(k:Int):=by omega
   have hl0:((l.length:Int)=0)=False:=eq_false (by omega)
   have hl1:((l.length:Int) == 0)=false:=beq_eq_false_iff_ne.2 (by omega)
   have hm2:Int.tmod ((k:Int)+1) (l.length:Int)=(j:Int):=by rw [← hm];exact Int.tmod_eq_emod_of_nonneg (by omega)
   have hk2:(k:Int) < (l.length:Int):=by omega
   have hj1:(0:Int)≤(j:Int):=by omega
   have hj2:(j:Int) < (l.length:Int):=by omega
   have hk3:(0:Int)≤(k:Int)+1:=by omega
   have x1:IntKind.i64.wrap ((k:Int)+1)=(k:Int)+1:=by rw [IntKind.wrap_i64];omega
   have hl3:(l=[])=False:=eq_false (fun h=>by rw [h] at hlt;simp at hlt)
   have hl4:(l.length=0)=False:=eq_false (by omega)
   go_wp2_with fail
   go_region_held3 (fun w'=>w'.cell? ⟨g,off+k*2,none⟩=some (.int .i64 qx)∧w'.cell? ⟨g,off+k*2+1,none⟩=some (.int .i64 qy)∧w'.cell? ⟨g,off+j*2,none⟩=some (.int .i64 px)∧w'.cell? ⟨g,off+j*2+1,none⟩=some (.int .i64 py)) (first | go_keep | exact ⟨(hF1.out.cell (p:=⟨g,_,none⟩) hg).trans HC4.out.1,(hF1.out.cell (p:=⟨g,_,none⟩) hg).trans HC4.out.2.1,(hF1.out.cell (p:=⟨g,_,none⟩) hg).trans HC4.out.2.2.1,(hF1.out.cell (p:=⟨g,_,none⟩) hg).trans HC4.out.2.2.2⟩)
    (first | (refine step_append_row (by rfl) _ _ _ (by rfl) w.heap.size 74 i0 _ 4 32 Tryz.underlying71 ia ib ic id rfl (by omega) _ _ _ (by rfl) ((HO.out.drew).alloc (.cells #[.int .i64 qx,.int .i64 qy,.int .i64 px,.int .i64 py] 74)) _ 1 _ [.int .i64 qx,.int .i64 qy,.int .i64 px,.int .i64 py] (by rfl) (newN_row _ [.int .i64 qx,.int .i64 qy,.int .i64 px,.int .i64 py] _) C2.out.2.2.1 C2.out.2.2.2 C2.out.1 C2.out.2.1 (by simp<;>omega) ?_;intro v1 wa ho1 hg1;have hF1:=hid (below_append ((below_drew HB.out).alloc hz (.cells #[.int .i64 qx,.int .i64 qy,.int .i64 px,.int .i64 py] 74)) (by simp<;>omega) ((HO.out.drew).alloc (.cells #[.int .i64 qx,.int .i64 qy,.int .i64 px,.int .i64 py] 74)) hg1 (Nat.le_refl _));have hP:=hid ho1;clear ho1 hg1))
   all_goals
    have HB9:Hid (Below w.heap.size w wa):=hid hF1.out
    clear hF1
    go_wp2
    go_roundw
    case rel=>exact ⟨k+1,by go_num,by omega,hid (by rw [HS.out,List.flatMap_append];exact hP.out),HB9⟩
    case measure=>simp [intOf];omega
  ·obtain rfl:k=l.length:=by omega
   go_wp2
   go_ret
   exact ⟨_,rfl,HO.out,HB.out⟩
theorem filter_more {α:Type} (p:α→Bool) (l:List α) (k:Nat) (h:k < l.length):(l.take (k+1)).filter p=(l.take k).filter p++if p l[k] then [l[k]] else []:=by
 rw [List.take_succ_eq_append_getElem h,List.filter_append]
 cases hp:p l[k]<;>simp [hp]
set_option maxRecDepth 100000 in
set_option maxHeartbeats 4000000 in
theorem rcommon_any (ax ay bx b_y cx cy dx dy:Int) (w:World) :
  Calls Tryz.prog 124 #[.agg #[.int .i64 ax,.int .i64 ay,.int .i64 bx,.int .i64 b_y],.agg #[.int .i64 cx,.int .i64 cy,.int .i64 dx,.int .i64 dy]] w fun e w'=>(∃ v,e=.returned v∧w'.ownsRow w.heap.size 53 2 v (sortedV (commonL ((ax,ay),(bx,b_y)) ((cx,cy),(dx,dy)))).length ((sortedV (commonL ((ax,ay),(bx,b_y)) ((cx,cy),(dx,dy)))).flatMap ptCells))∧Below w.heap.size w w':=by
 have HX:=hid (two_vecs w (.cells #[.int .i64 ax,.int .i64 ay,.int .i64 bx,.int .i64 b_y] 74) (.cells #[.int .i64 cx,.int .i64 cy,.int .i64 dx,.int .i64 dy] 74))
 have HB0:=hid (((bel1 w (.cells #[.int .i64 ax,.int .i64 ay,.int .i64 bx,.int .i64 b_y] 74)).alloc (by simp) (.cells #[.int .i64 cx,.int .i64 cy,.int .i64 dx,.int .i64 dy] 74)).alloc (by simp<;>omega) (.cells #[.int .i64 ax,.int .i64 ay,.int .i64 bx,.int .i64 b_y,.int .i64 cx,.int .i64 cy,.int .i64 dx,.int .i64 dy] 53))
 have HE0:=hid (newN_row ((w.alloc (.cells #[.int .i64 ax,.int .i64 ay,.int .i64 bx,.int .i64 b_y] 74)).alloc (.cells #[.int .i64 cx,.int .i64 cy,.int .i64 dx,.int .i64 dy] 74)) [.int .i64 ax,.int .i64 ay,.int .i64 bx,.int .i64 b_y,.int .i64 cx,.int .i64 cy,.int .i64 dx,.int .i64 dy] 53)
 obtain ⟨i0,ia,ib,ic,id⟩:=info_parts info_vec
 have HL:Hid (∃ l:List V,l=[(ax,ay),(bx,b_y),(cx,cy),(dx,dy)]∧l.length=4∧commonL ((ax,ay),(bx,b_y)) ((cx,cy),(dx,dy))=l.filter (both ((ax,ay),(bx,b_y)) ((cx,cy),(dx,dy)))∧l.flatMap ptCells=[.int .i64 ax,.int .i64 ay,.int .i64 bx,.int .i64 b_y,.int .i64 cx,.int .i64 cy,.int .i64 dx,.int .i64 dy]):=hid ⟨_,rfl,rfl,rfl,rfl⟩
 obtain ⟨l,hl0,hl4,hlc,hlf⟩:=HL.out
 have HLC:=hid hlc
 have HE0:Hid (Row (((w.alloc (.cells #[.int .i64 ax,.int .i64 ay,.int .i64 bx,.int .i64 b_y] 74)).alloc (.cells #[.int .i64 cx,.int .i64 cy,.int .i64 dx,.int .i64 dy] 74)).alloc (.cells #[.int .i64 ax,.int .i64 ay,.int .i64 bx,.int .i64 b_y,.int .i64 cx,.int .i64 cy,.int .i64 dx,.int .i64 dy] 53)) (some ⟨((w.alloc (.cells #[.int .i64 ax,.int .i64 ay,.int .i64 bx,.int .i64 b_y] 74)).alloc (.cells #[.int .i64 cx,.int .i64 cy,.int .i64 dx,.int .i64 dy] 74)).heap.size,0,none⟩) (l.flatMap ptCells)):=hid (by rw [hlf];exact HE0.out)
 clear hlf HL hl0 hlc
 obtain ⟨s0,s1,s2,s3⟩:=quad_at HX.out.1 (Below.refl _ _)
 obtain ⟨t0,t1,t2,t3⟩:=quad_at HX.out.2 (Below.refl _ _)
 go_enter Tryz.func124,Tryz.ntmps124
 go_upto_region 4 with fail
 clear s0 s1 s2 s3 t0 t1 t2 t3
 have HXS:=hid ((heap_alloc_old ((w.alloc (.cells #[.int .i64 ax,.int .i64 ay,.int .i64 bx,.int .i64 b_y] 74)).alloc (.cells #[.int .i64 cx,.int .i64 cy,.int .i64 dx,.int .i64 dy] 74)) (.cells #[.int .i64 ax,.int .i64 ay,.int .i64 bx,.int .i64 b_y,.int .i64 cx,.int .i64 cy,.int .i64 dx,.int .i64 dy] 53) (lt_of_block HX.out.1)).trans HX.out.1)
 have HXT:=hid ((heap_alloc_old ((w.alloc (.cells #[.int .i64 ax,.int .i64 ay,.int .i64 bx,.int .i64 b_y] 74)).alloc (.cells #[.int .i64 cx,.int .i64 cy,.int .i64 dx,.int .i64 dy] 74)) (.cells #[.int .i64 ax,.int .i64 ay,.int .i64 bx,.int .i64 b_y,.int .i64 cx,.int .i64 cy,.int .i64 dx,.int .i64 dy] 53) (lt_of_block HX.out.2)).trans HX.out.2)
 have hsz:((w.alloc (.cells #[.int .i64 ax,.int .i64 ay,.int .i64 bx,.int .i64 b_y] 74)).alloc (.cells #[.int .i64 cx,.int .i64 cy,.int .i64 dx,.int .i64 dy] 74)).heap.size=w.heap.size+1+1:=by simp
 rw [hsz] at HE0
 clear hsz HX
 generalize hW:((w.alloc (.cells #[.int .i64 ax,.int .i64 ay,.int .i64 bx,.int .i64 b_y] 74)).alloc (.cells #[.int .i64 cx,.int .i64 cy,.int .i64 dx,.int .i64 dy] 74)).alloc (.cells #[.int .i64 ax,.int .i64 ay,.int .i64 bx,.int .i64 b_y,.int .i64 cx,.int .i64 cy,.int .i64 dx,.int .i64 dy] 53)=W at *
 clear hW
 go_loopw [6,7] (fun o i wr=>∃ k:Nat,i=.int .i64 (k:Int)∧k≤4∧Hid (wr.ownsRow W.heap.size 53 2 o ((l.take k).filter (both ((ax,ay),(bx,b_y)) ((cx,cy),(dx,dy)))).length (((l.take k).filter (both ((ax,ay),(bx,b_y)) ((cx,cy),(dx,dy)))).flatMap ptCells))∧Hid (Below W.heap.size W wr)) (fun _ i _=>4 - (intOf i).toNat)
 case atStart=>exact ⟨0,rfl,by decide,hid (World.ownsRow_nil _ _ _ _),hid (Below.refl _ _)⟩
 case round =>
  obtain ⟨k,rfl,hk,HOW,HB⟩:=hrel
  obtain ⟨oA,oc,rfl,hoc⟩:=own_shape HOW.out
  have hWs:w.heap.size≤W.heap.size:=HB0.out.size
  by_cases hlt:k < 4
  ·have hkl:k < l.length:=by omega
   have HFM:=hid (filter_more (both ((ax,ay),(bx,b_y)) ((cx,cy),(dx,dy))) l k hkl)
   obtain ⟨g,off,he,hg,hc⟩:=row_get pt_len (by decide) HE0.out (by omega)
   simp only [Option.some.injEq,Addr.mk.injEq] at he
   obtain ⟨he1,he2,_⟩:=he
   subst he1 he2
   simp only [Nat.zero_add] at hc
   have hgr:w.heap.size+1+1 < wr.heap.size:=Nat.lt_of_lt_of_le hg HB.out.size
   have A0:∀ p:Later wr,p.w.cell? ⟨w.heap.size+1+1,k*2,none⟩=some (.int .i64 l[k].1):=later_cell hgr ((HB.out.cell (p:=⟨_,k*2,none⟩) hg).trans (hc k hkl 0 (by decide)))
   have A1:∀ p:Later wr,p.w.cell? ⟨w.heap.size+1+1,k*2+1,none⟩=some (.int .i64 l[k].2):=later_cell hgr ((HB.out.cell (p:=⟨_,k*2+1,none⟩) hg).trans (hc k hkl 1 (by decide)))
   have SS:=fun p:Later wr=>quad_at HXS.out (HB.out.trans (p.h.mono HB.out.size))
   have TT:=fun p:Later wr=>quad_at HXT.out (HB.out.trans (p.h.mono HB.out.size))
   have S0:=fun p=>(SS p).1
   have S1:=fun p=>(SS p).2.1
   have S2:=fun p=>(SS p).2.2.1
   have S3:=fun p=>(SS p).2.2.2
   have T0:=fun p=>(TT p).1
   have T1:=fun p=>(TT p).2.1
   have T2:=fun p=>(TT p).2.2.1
   have T3:=fun p=>(TT p).2.2.2
   clear SS TT hc
   have HBO:Hid (both ((ax,ay),(bx,b_y)) ((cx,cy),(dx,dy)) l[k]=(on ((ax,ay),(bx,b_y)) l[k]&&on ((cx,cy),(dx,dy)) l[k])):=hid rfl
   rw [HBO.out] at HFM
   clear HBO
   generalize hq:l[k]=q at *
   obtain ⟨qx,qy⟩:=q
   clear hq
   simp only at A0 A1
   generalize hF:(l.take k).filter (both ((ax,ay),(bx,b_y)) ((cx,cy),(dx,dy)))=F at *
   obtain ⟨F2,HF2⟩:∃ F2,Hid (F2=(l.take (k+1)).filter (both ((ax,ay),(bx,b_y)) ((cx,cy),(dx,dy)))):=⟨_,hid rfl⟩
   rw [← HF2.out] at HFM
   have hFl:F.length≤4:=by rw [← hF];exact Nat.le_trans (List.length_filter_le _ _) (by rw [List.length_take];omega)
   clear hF
   have hk1:(0:Int)≤(k:Int):=by omega
   have hk2:(k:Int) < 4:=by omega
   have HON1:=hid (fun W=>ron_any ax ay bx b_y qx qy W)
   have HON2:=hid (fun W=>ron_any cx cy dx dy qx qy W)
   generalize on ((ax,ay),(bx,b_y)) (qx,qy)=b1 at *
   generalize on ((cx,cy),(dx,dy)) (qx,qy)=b2 at *
   cases b1
   ·have HF:Hid (F2=F):=hid (by rw [HFM.out];simp)
    go_wp2
    refine wp_region_later wr (by kernel_rfl) (by kernel_rfl) (Below.refl _ _) ?_
    repeat (go_big_quiet_step (first | (go_at_call 174;with_reducible exact Calls.later (HON1.out _)) | (go_at_call 174;with_reducible exact Calls.later (HON2.out _))))
    refine wpQuiet_nil ?_
    rintro w9 hex;have hb9:=later_of hex;clear hex
    have HB9:=hid (HB.out.trans (hb9.mono HB.out.size))
    clear A0 A1 S0 S1 S2 S3 T0 T1 T2 T3
    go_wp2
    go_roundw
    case rel=>exact ⟨k+1,by go_num,by omega,hid (by rw [← HF2.out,HF.out];exact own_below HOW.out hb9),HB9⟩
    case measure=>simp [intOf];omega
   ·cases b2
    ·have HF:Hid (F2=F):=hid (by rw [HFM.out];simp)
     go_wp2
     refine wp_region_later wr (by kernel_rfl) (by kernel_rfl) (Below.refl _ _) ?_
     repeat (go_big_quiet_step (first | (go_at_call 174;with_reducible exact Calls.later (HON1.out _)) | (go_at_call 174;with_reducible exact Calls.later (HON2.out _))))
     refine wpQuiet_nil ?_
     rintro w9 hex;have hb9:=later_of hex;clear hex
     have HB9:=hid (HB.out.trans (hb9.mono HB.out.size))
     clear A0 A1 S0 S1 S2 S3 T0 T1 T2 T3
     go_wp2
     go_roundw
     case rel=>exact ⟨k+1,by go_num,by omega,hid (by rw [← HF2.out,HF.out];exact own_below HOW.out hb9),HB9⟩
     case measure=>simp [intOf];omega
    ·have HF:Hid (F2=F++[(qx,qy)]):=hid (by rw [HFM.out];simp)
     go_wp2
     refine wp_region_later wr (by kernel_rfl) (by kernel_rfl) (Below.refl _ _) ?_
     repeat (go_big_quiet_step (first | (go_at_call 174;with_reducible exact Calls.later (HON1.out _)) | (go_at_call 174;with_reducible exact Calls.later (HON2.out _))))
     refine wpQuiet_nil ?_
     rintro w9 hex;have hb9:=later_of hex;clear hex
     have HB9:=hid (HB.out.trans (hb9.mono HB.out.size))
     have a0:=A0 ⟨w9,hb9⟩
     have a1:=A1 ⟨w9,hb9⟩
     simp only at a0 a1
     have HO9:=hid (own_below HOW.out hb9)
     have hz9:W.heap.size≤w9.heap.size:=HB9.out.size
     have C2:Hid (F.length+1≤maxLen∧(F.length+1)*16≤140737488355328∧∀ u∈([.int .i64 qx,.int .i64 qy]:List Value),u.oneCell'=true):=hid ⟨by unfold maxLen;omega,by omega,by intro u hu;simp at hu;rcases hu with rfl | rfl<;>rfl⟩
     clear A0 A1 S0 S1 S2 S3 T0 T1 T2 T3
     go_wp2_with (at_builtin;refine wpList_append_row _ rfl _ _ 25 rfl W.heap.size 53 i0 _ 2 16 Tryz.underlying25 ia ib ic id rfl (by omega) _ _ _ rfl (HO9.out.alloc (.cells #[.int .i64 qx,.int .i64 qy] 53)) (some ⟨w9.heap.size,0,none⟩) 1 1 [.int .i64 qx,.int .i64 qy] rfl (newN_row w9 [.int .i64 qx,.int .i64 qy] 53) rfl C2.out.2.2 C2.out.1 C2.out.2.1 (by simp<;>omega) ?_;intro v' wa hown hg1;have HF1:=hid (below_append (B:=W.heap.size) (HB9.out.alloc hz9 (.cells #[.int .i64 qx,.int .i64 qy] 53)) (by simp<;>omega) (HO9.out.alloc (.cells #[.int .i64 qx,.int .i64 qy] 53)) hg1 (Nat.le_refl _));have HP:=hid hown;clear hown hg1)
     clear a0 a1
     go_wp2
     go_roundw
     case rel=>exact ⟨k+1,by go_num,by omega,hid (by rw [← HF2.out,HF.out];simpa [List.flatMap_append,ptCells] using HP.out),HF1⟩
     case measure=>simp [intOf];omega
  ·obtain rfl:k=4:=by omega
   have HT:Hid ((l.take 4).filter (both ((ax,ay),(bx,b_y)) ((cx,cy),(dx,dy)))=commonL ((ax,ay),(bx,b_y)) ((cx,cy),(dx,dy))):=hid (by rw [HLC.out,← hl4,List.take_length])
   have hcl:((l.take 4).filter (both ((ax,ay),(bx,b_y)) ((cx,cy),(dx,dy)))).length≤1000:=Nat.le_trans (List.length_filter_le _ _) (by rw [List.length_take];omega)
   have HSO:=hid (rsorted_any ((l.take 4).filter (both ((ax,ay),(bx,b_y)) ((cx,cy),(dx,dy)))) oA oc wr (Row.of_own HOW.out) hcl)
   clear hcl
   go_wp2_with fail
   refine HSO.out.mono ?_
   rintro e w9 ⟨⟨v,rfl,hown⟩,hb9⟩
   have HO9:=hid (own_more hown (Nat.le_trans hWs HB.out.size))
   have HB9:=hid (HB0.out.trans ((HB.out.trans (hb9.mono HB.out.size)).mono hWs))
   clear hown hb9
   go_wp2
   go_ret
   rw [← HT.out]
   exact ⟨⟨v,rfl,HO9.out⟩,HB9.out⟩
theorem rside_le (s:S) (p:V) : -1≤rside s p∧rside s p≤1:=by
 unfold rside turn sgn
 split
 ·split
  ·decide
  ·split<;>decide
 ·decide
theorem mul_one_le {a b:Int} (ha : -1≤a∧a≤1) (hb : -1≤b∧b≤1) : -1≤a*b∧a*b≤1:=by
 have h1:a = -1∨a=0∨a=1:=by omega
 rcases h1 with rfl | rfl | rfl<;>omega
set_option maxRecDepth 100000 in
set_option maxHeartbeats 4000000 in
theorem rMeet_any (ax ay bx b_y cx cy dx dy:Int) (w:World) (hs:segOk ((ax,ay),(bx,b_y))=true) (ht:segOk ((cx,cy),(dx,dy))=true) :
  Calls Tryz.prog 68 #[.agg #[.int .i64 ax,.int .i64 ay,.int .i64 bx,.int .i64 b_y],.agg #[.int .i64 cx,.int .i64 cy,.int .i64 dx,.int .i64 dy]] w fun e w'=>e=.returned (.int .i64 (rmeetK ((ax,ay),(bx,b_y)) ((cx,cy),(dx,dy))))∧Below w.heap.size w w':=by
 have HX:=hid (two_vecs w (.cells #[.int .i64 ax,.int .i64 ay,.int .i64 bx,.int .i64 b_y] 74) (.cells #[.int .i64 cx,.int .i64 cy,.int .i64 dx,.int .i64 dy] 74))
 have HB:=hid ((bel1 w (.cells #[.int .i64 ax,.int .i64 ay,.int .i64 bx,.int .i64 b_y] 74)).alloc (by simp) (.cells #[.int .i64 cx,.int .i64 cy,.int .i64 dx,.int .i64 dy] 74))
 have HE:Hid (rmeetK ((ax,ay),(bx,b_y)) ((cx,cy),(dx,dy))=if 1 < (sortedV (commonL ((ax,ay),(bx,b_y)) ((cx,cy),(dx,dy)))).length then 3 else if (sortedV (commonL ((ax,ay),(bx,b_y)) ((cx,cy),(dx,dy)))).length=1 then 1 else if rside ((ax,ay),(bx,b_y)) (cx,cy)*rside ((ax,ay),(bx,b_y)) (dx,dy) < 0∧rside ((cx,cy),(dx,dy)) (ax,ay)*rside ((cx,cy),(dx,dy)) (bx,b_y) < 0 then 2 else 0):=hid (by unfold rmeetK;rw [hs,ht];rfl)
 have HV1:=hid (fun W=>rsegok_any ax ay bx b_y W)
 have HV2:=hid (fun W=>rsegok_any cx cy dx dy W)
 rw [hs] at HV1
 rw [ht] at HV2
 have HCO:=hid (fun W=>rcommon_any ax ay bx b_y cx cy dx dy W)
 have HD1:=hid (fun W=>rside_any ax ay bx b_y cx cy W)
 have HD2:=hid (fun W=>rside_any ax ay bx b_y dx dy W)
 have HD3:=hid (fun W=>rside_any cx cy dx dy ax ay W)
 have HD4:=hid (fun W=>rside_any cx cy dx dy bx b_y W)
 have HL1:=hid (mul_one_le (rside_le ((ax,ay),(bx,b_y)) (cx,cy)) (rside_le ((ax,ay),(bx,b_y)) (dx,dy)))
 have HL2:=hid (mul_one_le (rside_le ((cx,cy),(dx,dy)) (ax,ay)) (rside_le ((cx,cy),(dx,dy)) (bx,b_y)))
 have HCL:Hid ((sortedV (commonL ((ax,ay),(bx,b_y)) ((cx,cy),(dx,dy)))).length≤4):=hid (Nat.le_trans (sortedV_len _) (Nat.le_trans (List.length_filter_le _ _) (by simp [endsOf])))
 generalize rmeetK ((ax,ay),(bx,b_y)) ((cx,cy),(dx,dy))=mk at *
 clear hs ht
 generalize sortedV (commonL ((ax,ay),(bx,b_y)) ((cx,cy),(dx,dy)))=cl at *
 generalize rside ((ax,ay),(bx,b_y)) (cx,cy)=r1 at *
 generalize rside ((ax,ay),(bx,b_y)) (dx,dy)=r2 at *
 generalize rside ((cx,cy),(dx,dy)) (ax,ay)=r3 at *
 generalize rside ((cx,cy),(dx,dy)) (bx,b_y)=r4 at *
 obtain ⟨s0,s1,s2,s3⟩:=quad_at HX.out.1 (Below.refl _ _)
 obtain ⟨t0,t1,t2,t3⟩:=quad_at HX.out.2 (Below.refl _ _)
 go_enter Tryz.func68,Tryz.ntmps68
 go_upto_region 1 with fail
 generalize (w.alloc (.cells #[.int .i64 ax,.int .i64 ay,.int .i64 bx,.int .i64 b_y] 74)).alloc (.cells #[.int .i64 cx,.int .i64 cy,.int .i64 dx,.int .i64 dy] 74)=W at *
 go_wp2_with fail
 refine (HV1.out _).mono ?_
 rintro e w1 ⟨rfl,hb1⟩
 clear s0 s1 s2 s3 t0 t1 t2 t3
 obtain ⟨t0,t1,t2,t3⟩:=quad_at HX.out.2 hb1
 go_wp2_with fail
 refine (HV2.out _).mono ?_
 rintro e w2 ⟨rfl,hb20⟩
 have hb2:=hb1.trans (hb20.mono hb1.size)
 clear t0 t1 t2 t3
 obtain ⟨s0,s1,s2,s3⟩:=quad_at HX.out.1 hb2
 obtain ⟨t0,t1,t2,t3⟩:=quad_at HX.out.2 hb2
 go_wp2_with fail
 refine (HCO.out _).mono ?_
 rintro e wr ⟨⟨v,rfl,hown⟩,hb30⟩
 have hb3:=hb2.trans (hb30.mono hb2.size)
 have HB4:=hid (HB.out.trans (hb3.mono HB.out.size))
 obtain ⟨vA,vc,rfl,hvc⟩:=own_shape hown
 have HCV:=hid hvc
 have S0:∀ p:Later wr,_:=fun p=>(quad_at HX.out.1 (hb3.trans (p.h.mono hb3.size))).1
 have S1:∀ p:Later wr,_:=fun p=>(quad_at HX.out.1 (hb3.trans (p.h.mono hb3.size))).2.1
 have S2:∀ p:Later wr,_:=fun p=>(quad_at HX.out.1 (hb3.trans (p.h.mono hb3.size))).2.2.1
 have S3:∀ p:Later wr,_:=fun p=>(quad_at HX.out.1 (hb3.trans (p.h.mono hb3.size))).2.2.2
 have T0:∀ p:Later wr,_:=fun p=>(quad_at HX.out.2 (hb3.trans (p.h.mono hb3.size))).1
 have T1:∀ p:Later wr,_:=fun p=>(quad_at HX.out.2 (hb3.trans (p.h.mono hb3.size))).2.1
 have T2:∀ p:Later wr,_:=fun p=>(quad_at HX.out.2 (hb3.trans (p.h.mono hb3.size))).2.2.1
 have T3:∀ p:Later wr,_:=fun p=>(quad_at HX.out.2 (hb3.trans (p.h.mono hb3.size))).2.2.2
 clear hown hb1 hb20 hb2 hb30 hb3 hvc s0 s1 s2 s3 t0 t1 t2 t3
 by_cases c1:1 < cl.length
 ·have HM:Hid (mk=3):=hid (by rw [HE.out,if_pos c1])
  have d1:decide (1 < (cl.length:Int))=true:=decide_eq_true (by omega)
  clear c1 S0 S1 S2 S3 T0 T1 T2 T3
  go_wp2
  go_ret
  rw [HM.out]
  exact ⟨rfl,HB4.out⟩
 ·have HE2:=hid HE.out
  rw [if_neg c1] at HE2
  have d1:decide (1 < (cl.length:Int))=false:=decide_eq_false (by omega)
  by_cases c2:cl.length=1
  ·have HM:Hid (mk=1):=hid (by rw [HE2.out,if_pos c2])
   have d2:((cl.length:Int) == 1)=true:=beq_iff_eq.2 (by omega)
   clear c1 S0 S1 S2 S3 T0 T1 T2 T3
   generalize cl.length=cn at *
   clear c2
   go_wp2
   go_ret
   rw [HM.out]
   exact ⟨rfl,HB4.out⟩
  ·rw [if_neg c2] at HE2
   have d2:((cl.length:Int) == 1)=false:=beq_eq_false_iff_ne.2 (by omega)
   clear c1 c2
   have x1:IntKind.i64.wrap (r1*r2)=r1*r2:=by have:=HL1.out;rw [IntKind.wrap_i64];omega
   by_cases c3:r1*r2 < 0
   ·have d3:decide (r1*r2 < 0)=true:=decide_eq_true c3
    have x2:IntKind.i64.wrap (r3*r4)=r3*r4:=by have:=HL2.out;rw [IntKind.wrap_i64];omega
    by_cases c4:r3*r4 < 0
    ·have d4:decide (r3*r4 < 0)=true:=decide_eq_true c4
     have HM:Hid (mk=2):=hid (by rw [HE2.out,if_pos ⟨c3,c4⟩])
     clear c3 c4
     go_wp2
     refine wp_region_later wr (by kernel_rfl) (by kernel_rfl) (Below.refl _ _) ?_
     repeat (go_big_quiet_step (first | (go_at_call 125;with_reducible exact Calls.later (HD1.out _)) | (go_at_call 125;with_reducible exact Calls.later (HD2.out _)) | (go_at_call 125;with_reducible exact Calls.later (HD3.out _)) | (go_at_call 125;with_reducible exact Calls.later (HD4.out _))))
     refine wpQuiet_nil ?_
     rintro w9 hex;have hb9:=later_of hex;clear hex
     have HB9:=hid (HB4.out.trans (hb9.mono HB4.out.size))
     clear S0 S1 S2 S3 T0 T1 T2 T3 hb9 x1
     go_wp2
     go_ret
     rw [HM.out]
     exact ⟨rfl,HB9.out⟩
    ·have d4:decide (r3*r4 < 0)=false:=decide_eq_false c4
     have HM:Hid (mk=0):=hid (by rw [HE2.out,if_neg (fun h=>c4 h.2)])
     clear c3 c4
     go_wp2
     refine wp_region_later wr (by kernel_rfl) (by kernel_rfl) (Below.refl _ _) ?_
     repeat (go_big_quiet_step (first | (go_at_call 125;with_reducible exact Calls.later (HD1.out _)) | (go_at_call 125;with_reducible exact Calls.later (HD2.out _)) | (go_at_call 125;with_reducible exact Calls.later (HD3.out _)) | (go_at_call 125;with_reducible exact Calls.later (HD4.out _))))
     refine wpQuiet_nil ?_
     rintro w9 hex;have hb9:=later_of hex;clear hex
     have HB9:=hid (HB4.out.trans (hb9.mono HB4.out.size))
     clear S0 S1 S2 S3 T0 T1 T2 T3 hb9 x1
     go_wp2
     go_ret
     rw [HM.out]
     exact ⟨rfl,HB9.out⟩
   ·have d3:decide (r1*r2 < 0)=false:=decide_eq_false c3
    have HM:Hid (mk=0):=hid (by rw [HE2.out,if_neg (fun h=>c3 h.1)])
    clear c3
    go_wp2
    refine wp_region_later wr (by kernel_rfl) (by kernel_rfl) (Below.refl _ _) ?_
    repeat (go_big_quiet_step (first | (go_at_call 125;with_reducible exact Calls.later (HD1.out _)) | (go_at_call 125;with_reducible exact Calls.later (HD2.out _)) | (go_at_call 125;with_reducible exact Calls.later (HD3.out _)) | (go_at_call 125;with_reducible exact Calls.later (HD4.out _))))
    refine wpQuiet_nil ?_
    rintro w9 hex;have hb9:=later_of hex;clear hex
    have HB9:=hid (HB4.out.trans (hb9.mono HB4.out.size))
    clear S0 S1 S2 S3 T0 T1 T2 T3 hb9 x1
    go_wp2
    go_ret
    rw [HM.out]
    exact ⟨rfl,HB9.out⟩
end Go.Proofs.YtnmmhcchpcbeeaaGreat.GeW

namespace Go.Proofs.YtnmmhcchpcbeeaaGreat.Ge
open Lib (hid)
def rbentAt (r:List V) (i:Nat):Bool:=decide (turn (at' r i) (nxt r i) (at' r ((i+2) % r.length))≠0)
def rpairAt (r:List V) (i:Nat):Bool:=allFrom (rloose r i) (r.length - (i+1)) (i+1)
theorem rringB_from (r:List V):rringB r=(decide (3≤r.length)&&(decide (r.length≤40)&&(near r&&(allFrom (rbentAt r) r.length 0&&(allFrom (rpairAt r) r.length 0&&decide (0 < area r)))))):=by
 unfold rringB rbent
 rw [all_range,all_range]
 have h:allFrom (fun i=>(List.range r.length).all fun k => !decide (i < k) || rloose r i k) r.length 0=allFrom (rpairAt r) r.length 0:=by
  refine allFrom_congr (fun i _ hi=>?_)
  unfold rpairAt
  rw [Bool.eq_iff_iff,all_range,allFrom_iff,allFrom_iff]
  constructor
  ·intro h k h1 h2
   have:=h k (Nat.zero_le _) (by omega)
   simpa [show i < k by omega] using this
  ·intro h k _ h2
   by_cases c:i < k
   ·have:=h k (by omega) (by omega)
    simp [this]
   ·simp [c]
 rw [h]
 rfl
end Go.Proofs.YtnmmhcchpcbeeaaGreat.Ge
namespace Go.Proofs.YtnmmhcchpcbeeaaGreat.GeW
open Lib (hid)
open Go Go.RowKit Go.Proofs.YtnmmhcchpcbeeaaGreat.Mem Go.Proofs.YtnmmhcchpcbeeaaGreat.Ge
attribute [local go_sem ↓] Go.wp_at_zero Go.wp_at_succ
set_option maxRecDepth 100000 in
set_option maxHeartbeats 8000000 in
theorem rring_any (l:List V) (A:Option Addr) (c:Nat) (w:World) (hr:Row w A (l.flatMap ptCells)) (hl:l.length≤17592186043904) :
  Calls Tryz.prog 64 #[.slice A l.length c] w fun e w'=>e=.returned (.bool (rringB l))∧Below w.heap.size w w':=by
 have HR:=hid hr
 have HNR:=hid (rnear_any l A c w hr hl)
 clear hr
 by_cases h3:3≤l.length
 case neg =>
  have HV:Hid (rringB l=false):=hid (by rw [rringB_from];simp [h3])
  have d1:decide ((l.length:Int) < 3)=true:=decide_eq_true (by omega)
  clear h3 HNR
  go_enter Tryz.func64,Tryz.ntmps64
  go_wp2
  go_ret
  rw [HV.out]
  exact ⟨rfl,Below.refl _ _⟩
 have d1:decide ((l.length:Int) < 3)=false:=decide_eq_false (by omega)
 by_cases h40:l.length≤40
 case neg =>
  have HV:Hid (rringB l=false):=hid (by rw [rringB_from];simp [h40])
  have d2:decide (40 < (l.length:Int))=true:=decide_eq_true (by omega)
  clear h3 h40 HNR
  go_enter Tryz.func64,Tryz.ntmps64
  go_wp2
  go_ret
  rw [HV.out]
  exact ⟨rfl,Below.refl _ _⟩
 have d2:decide (40 < (l.length:Int))=false:=decide_eq_false (by omega)
 cases hn:near l
 case false =>
  have HV:Hid (rringB l=false):=hid (by rw [rringB_from,hn];simp)
  rw [hn] at HNR
  clear h3 h40 hn
  go_enter Tryz.func64,Tryz.ntmps64
  go_wp2_with fail
  refine (HNR.out).mono ?_
  rintro en1 w1 ⟨rfl,hb1⟩
  go_wp2
  go_ret
  rw [HV.out]
  exact ⟨rfl,hb1⟩
 have HN:=hid hn
 have HAR:=hid (fun W (hW:Below w.heap.size w W)=>rarea_any l A c W (HR.out.below hW) (by omega) hn)
 rw [hn] at HNR
 clear hn
 have HV:Hid (rringB l=(allFrom (rbentAt l) l.length 0&&(allFrom (rpairAt l) l.length 0&&decide (0 < area l)))):=hid (by rw [rringB_from,HN.out];simp [h3,h40])
 have HED:=hid (fun W (hW:Below w.heap.size w W)=>redges_any l A c W (HR.out.below hW) (by omega) (by omega))
 generalize area l=a at *
 go_enter Tryz.func64,Tryz.ntmps64
 go_wp2_with fail
 refine (HNR.out).mono ?_
 rintro en1 w1 ⟨rfl,hb1⟩
 have HB1:=hid hb1
 clear hb1 HNR
 go_wp2
 go_loopw [4] (fun i wr=>∃ k:Nat,i=.int .i64 (k:Int)∧k≤l.length∧Hid (allFrom (rbentAt l) l.length 0=allFrom (rbentAt l) (l.length - k) k)∧Hid (Below w.heap.size w wr)) (fun i _=>l.length - (intOf i).toNat)
 case atStart=>exact ⟨0,rfl,Nat.zero_le _,hid rfl,HB1⟩
 case round =>
  obtain ⟨k,rfl,hk,HD,HB⟩:=hrel
  by_cases hlt:k < l.length
  ·have HD1:Hid (allFrom (rbentAt l) l.length 0=(rbentAt l k&&allFrom (rbentAt l) (l.length - (k+1)) (k+1))):=hid (by rw [HD.out,allFrom_step hlt])
   obtain ⟨g,off,rfl,hg,hc⟩:=row_get pt_len (by decide) HR.out (by omega)
   have hgr:g < wr.heap.size:=Nat.lt_of_lt_of_le hg HB.out.size
   have hat:∀ i (h:i < l.length),at' l i=l[i]:=fun i h=>by unfold at';rw [List.getD_eq_getElem?_getD,List.getElem?_eq_getElem h];rfl
   obtain ⟨j,hj⟩:∃ j,j=(k+1) % l.length:=⟨_,rfl⟩
   have hjl:j < l.length:=by rw [hj];exact Nat.mod_lt _ (by omega)
   have hmj:((k:Int)+1) % (l.length:Int)=(j:Int):=by rw [hj,Int.natCast_emod,show (((k+1):Nat):Int)=((k:Int)+1) by omega]
   obtain ⟨m,hm⟩:∃ m,m=(k+2) % l.length:=⟨_,rfl⟩
   have hml:m < l.length:=by rw [hm];exact Nat.mod_lt _ (by omega)
   have hmm:((k:Int)+2) % (l.length:Int)=(m:Int):=by rw [hm,Int.natCast_emod,show (((k+2):Nat):Int)=((k:Int)+2) by omega]
   have A0:∀ p:Later wr,p.w.cell? ⟨g,off+k*2,none⟩=some (.int .i64 (at' l k).1):=later_cell hgr (by rw [hat k (by assumption)];exact (HB.out.cell (p:=⟨g,off+k*2,none⟩) hg).trans (hc k (by assumption) 0 (by decide)))
   have A1:∀ p:Later wr,p.w.cell? ⟨g,off+k*2+1,none⟩=some (.int .i64 (at' l k).2):=later_cell hgr (by rw [hat k (by assumption)];exact (HB.out.cell (p:=⟨g,off+k*2+1,none⟩) hg).trans (hc k (by assumption) 1 (by decide)))
   have B0:∀ p:Later wr,p.w.cell? ⟨g,off+j*2,none⟩=some (.int .i64 (at' l j).1):=later_cell hgr (by rw [hat j (by assumption)];exact (HB.out.cell (p:=⟨g,off+j*2,none⟩) hg).trans (hc j (by assumption) 0 (by decide)))
   have B1:∀ p:Later wr,p.w.cell? ⟨g,off+j*2+1,none⟩=some (.int .i64 (at' l j).2):=later_cell hgr (by rw [hat j (by assumption)];exact (HB.out.cell (p:=⟨g,off+j*2+1,none⟩) hg).trans (hc j (by assumption) 1 (by decide)))
   have C0:∀ p:Later wr,p.w.cell? ⟨g,off+m*2,none⟩=some (.int .i64 (at' l m).1):=later_cell hgr (by rw [hat m (by assumption)];exact (HB.out.cell (p:=⟨g,off+m*2,none⟩) hg).trans (hc m (by assumption) 0 (by decide)))
   have C1:∀ p:Later wr,p.w.cell? ⟨g,off+m*2+1,none⟩=some (.int .i64 (at' l m).2):=later_cell hgr (by rw [hat m (by assumption)];exact (HB.out.cell (p:=⟨g,off+m*2+1,none⟩) hg).trans (hc m (by assumption) 1 (by decide)))
   have HQ:Hid (rbentAt l k=decide (turn (at' l k) (at' l j) (at' l m)≠0)):=hid (by unfold rbentAt nxt;rw [← hj,← hm];rfl)
   have n1:=within_in (near_at HN.out k)
   have n2:=within_in (near_at HN.out j)
   have n3:=within_in (near_at HN.out m)
   clear hc hat hj hm
   generalize at' l k=q at *
   generalize at' l j=r at *
   generalize at' l m=s at *
   obtain ⟨qx,qy⟩:=q
   obtain ⟨rx,ry⟩:=r
   obtain ⟨sx,sy⟩:=s
   simp only at A0 A1 B0 B1 C0 C1 n1 n2 n3
   have HTU:=hid (fun W=>rturn_any qx qy rx ry sx sy W (by omega) (by omega) (by omega) (by omega) (by omega) (by omega))
   clear n1 n2 n3
   generalize rbentAt l k=nb at *
   generalize turn (qx,qy) (rx,ry) (sx,sy)=tn at *
   have hk1:(0:Int)≤(k:Int):=by omega
   have hl0:((l.length:Int)=0)=False:=eq_false (by omega)
   have hl1:((l.length:Int) == 0)=false:=beq_eq_false_iff_ne.2 (by omega)
   go_wp2
   refine wp_region_later wr (by kernel_rfl) (by kernel_rfl) (Below.refl _ _) ?_
   repeat (go_big_quiet_step (first | (go_at_call 122;with_reducible exact Calls.later (HTU.out _))))
   refine wpQuiet_nil ?_
   rintro w9 hex;have hb9:=later_of hex;clear hex
   have HB9:=hid (HB.out.trans (hb9.mono HB.out.size))
   clear A0 A1 B0 B1 C0 C1 hb9 hl0 hl1
   by_cases ht:tn=0
   ·have t1:(tn == 0)=true:=beq_iff_eq.2 ht
    have HNB:Hid (nb=false):=hid (by rw [HQ.out,ht];rfl)
    clear ht
    go_wp2
    go_ret
    rw [HV.out,HD1.out,HNB.out]
    exact ⟨rfl,HB9.out⟩
   ·have t1:(tn == 0)=false:=beq_eq_false_iff_ne.2 ht
    have HNB:Hid (nb=true):=hid (by rw [HQ.out];simp [ht])
    clear ht
    go_wp2
    go_roundw
    case rel=>exact ⟨k+1,by go_num,by omega,hid (by rw [HD1.out,HNB.out];rfl),HB9⟩
    case measure=>simp [intOf];omega
  ·have hk2:k=l.length:=by omega
   subst hk2
   have HV2:Hid (rringB l=(allFrom (rpairAt l) l.length 0&&decide (0 < a))):=hid (by rw [HV.out,HD.out,allFrom_end];rfl)
   clear HV HD
   go_wp2_with fail
   refine (HED.out _ HB.out).mono ?_
   rintro en8 w8 ⟨v,rfl,hown,hb8⟩
   have HB8:=hid (HB.out.trans (hb8.mono (Below.size HB.out)))
   have HOW:=hid hown
   have hz8:=Below.size HB8.out
   clear hown hb8 HED
   obtain ⟨ge,ce,rfl,hce,hge,hgw,hcell⟩:=own_get seg_len (edgesN_len l l.length).symm HOW.out (by omega)
   have HCE:=hid hcell
   clear hcell
   go_wp2
   go_loopw [6,7,8,9] (fun i _ _ _ wr=>∃ k:Nat,i=.int .i64 (k:Int)∧k≤l.length∧Hid (allFrom (rpairAt l) l.length 0=allFrom (rpairAt l) (l.length - k) k)∧Hid (Below w8.heap.size w8 wr)) (fun i _ _ _ _=>l.length - (intOf i).toNat)
   case atStart=>exact ⟨0,rfl,Nat.zero_le _,hid rfl,hid (Below.refl _ _)⟩
   case round =>
    obtain ⟨i,rfl,hi,HDI,HBI⟩:=hrel
    by_cases hlt:i < l.length
    ·have HD2:Hid (allFrom (rpairAt l) l.length 0=(rpairAt l i&&allFrom (rpairAt l) (l.length - (i+1)) (i+1))):=hid (by rw [HDI.out,allFrom_step hlt])
     go_wp2
     go_loopw [7,8,9] (fun k _ _ wr=>∃ j:Nat,k=.int .i64 (j:Int)∧i+1≤j∧j≤l.length∧Hid (rpairAt l i=allFrom (rloose l i) (l.length - j) j)∧Hid (Below w8.heap.size w8 wr)) (fun k _ _ _=>l.length - (intOf k).toNat)
     case atStart=>exact ⟨i+1,by go_num,Nat.le_refl _,hlt,hid rfl,HBI⟩
     case round =>
      obtain ⟨j,rfl,hij,hj,HDJ,HBJ⟩:=hrel
      by_cases hjl:j < l.length
      ·have HD3:Hid (rpairAt l i=(rloose l i j&&allFrom (rloose l i) (l.length - (j+1)) (j+1))):=hid (by rw [HDJ.out,allFrom_step hjl])
       have EI:∀ p:Later wr,p.w.cell? ⟨ge,i*4,none⟩=some (.int .i64 (edgeAt l i).1.1)∧p.w.cell? ⟨ge,i*4+1,none⟩=some (.int .i64 (edgeAt l i).1.2)∧p.w.cell? ⟨ge,i*4+2,none⟩=some (.int .i64 (edgeAt l i).2.1)∧p.w.cell? ⟨ge,i*4+3,none⟩=some (.int .i64 (edgeAt l i).2.2):=fun p=>by
        have hb:=HBJ.out.trans (p.h.mono HBJ.out.size)
        have h:=fun a ha=>(hb.cell (p:=⟨ge,i*4+a,none⟩) hgw).trans (HCE.out i (by rw [edgesN_len];exact hlt) a ha)
        rw [edgesN_get hlt] at h
        exact ⟨h 0 (by decide),h 1 (by decide),h 2 (by decide),h 3 (by decide)⟩
       have EJ:∀ p:Later wr,p.w.cell? ⟨ge,j*4,none⟩=some (.int .i64 (edgeAt l j).1.1)∧p.w.cell? ⟨ge,j*4+1,none⟩=some (.int .i64 (edgeAt l j).1.2)∧p.w.cell? ⟨ge,j*4+2,none⟩=some (.int .i64 (edgeAt l j).2.1)∧p.w.cell? ⟨ge,j*4+3,none⟩=some (.int .i64 (edgeAt l j).2.2):=fun p=>by
        have hb:=HBJ.out.trans (p.h.mono HBJ.out.size)
        have h:=fun a ha=>(hb.cell (p:=⟨ge,j*4+a,none⟩) hgw).trans (HCE.out j (by rw [edgesN_len];exact hjl) a ha)
        rw [edgesN_get hjl] at h
        exact ⟨h 0 (by decide),h 1 (by decide),h 2 (by decide),h 3 (by decide)⟩
       have HL:Hid (rloose l i j=if j=i+1∨(i=0∧j+1=l.length) then decide (rmeetK (edgeAt l i) (edgeAt l j)=1) else decide (rmeetK (edgeAt l i) (edgeAt l j)=0)):=hid rfl
       have HSI:Hid (segOk (edgeAt l i)=true∧segOk (edgeAt l j)=true):=hid ⟨seg_near HN.out i ((i+1) % l.length),seg_near HN.out j ((j+1) % l.length)⟩
       generalize edgeAt l i=u at *
       generalize edgeAt l j=v at *
       obtain ⟨⟨ux,uy⟩,uz,ut⟩:=u
       obtain ⟨⟨vx,vy⟩,vz,vt⟩:=v
       simp only at EI EJ
       have HME:=hid (fun W=>rMeet_any ux uy uz ut vx vy vz vt W HSI.out.1 HSI.out.2)
       generalize rmeetK ((ux,uy),(uz,ut)) ((vx,vy),(vz,vt))=mk at *
       have E0:=fun p=>(EI p).1
       have E1:=fun p=>(EI p).2.1
       have E2:=fun p=>(EI p).2.2.1
       have E3:=fun p=>(EI p).2.2.2
       have F0:=fun p=>(EJ p).1
       have F1:=fun p=>(EJ p).2.1
       have F2:=fun p=>(EJ p).2.2.1
       have F3:=fun p=>(EJ p).2.2.2
       clear EI EJ HSI
       by_cases c1:j=i+1
       ·rw [if_pos (Or.inl c1)] at HL
        have e1:((j:Int) == (i:Int)+1)=true:=beq_iff_eq.2 (by omega)
        clear c1
        go_wp2
        refine wp_region_later wr (by kernel_rfl) (by kernel_rfl) (Below.refl _ _) ?_
        repeat (go_big_quiet_step (first | (go_at_call 68;with_reducible exact Calls.later (HME.out _))))
        refine wpQuiet_nil ?_
        rintro w9 hex;have hb9:=later_of hex;clear hex
        have HB9:=hid (HBJ.out.trans (hb9.mono HBJ.out.size))
        clear E0 E1 E2 E3 F0 F1 F2 F3 hb9
        by_cases hm:mk=1
        ·have m1:(mk != 1)=false:=bne_eq_false_iff_eq.2 hm
         have m0:(mk != 0)=true:=bne_iff_ne.2 (by omega)
         have HLT:Hid (rloose l i j=true):=hid (by rw [HL.out];exact decide_eq_true hm)
         clear hm HL
         go_wp2
         go_roundw
         case rel=>exact ⟨j+1,by go_num,by omega,by omega,hid (by rw [HD3.out,HLT.out];rfl),HB9⟩
         case measure=>simp [intOf];omega
        ·have m1:(mk != 1)=true:=bne_iff_ne.2 hm
         have HLF:Hid (rloose l i j=false):=hid (by rw [HL.out];exact decide_eq_false hm)
         clear hm HL
         go_wp2
         go_ret
         rw [HV2.out,HD2.out,HD3.out,HLF.out]
         exact ⟨rfl,HB8.out.trans (HB9.out.mono hz8)⟩
       ·have e1:((j:Int) == (i:Int)+1)=false:=beq_eq_false_iff_ne.2 (by omega)
        by_cases c2:i=0
        ·have g1:((i:Int) == 0)=true:=beq_iff_eq.2 (by omega)
         by_cases c3:j+1=l.length
         ·rw [if_pos (Or.inr ⟨c2,c3⟩)] at HL
          have g2:((j:Int) == (l.length:Int) - 1)=true:=beq_iff_eq.2 (by omega)
          clear c1 c2 c3
          go_wp2
          refine wp_region_later wr (by kernel_rfl) (by kernel_rfl) (Below.refl _ _) ?_
          repeat (go_big_quiet_step (first | (go_at_call 68;with_reducible exact Calls.later (HME.out _))))
          refine wpQuiet_nil ?_
          rintro w9 hex;have hb9:=later_of hex;clear hex
          have HB9:=hid (HBJ.out.trans (hb9.mono HBJ.out.size))
          clear E0 E1 E2 E3 F0 F1 F2 F3 hb9
          by_cases hm:mk=1
          ·have m1:(mk != 1)=false:=bne_eq_false_iff_eq.2 hm
           have m0:(mk != 0)=true:=bne_iff_ne.2 (by omega)
           have HLT:Hid (rloose l i j=true):=hid (by rw [HL.out];exact decide_eq_true hm)
           clear hm HL
           go_wp2
           go_roundw
           case rel=>exact ⟨j+1,by go_num,by omega,by omega,hid (by rw [HD3.out,HLT.out];rfl),HB9⟩
           case measure=>simp [intOf];omega
          ·have m1:(mk != 1)=true:=bne_iff_ne.2 hm
           have HLF:Hid (rloose l i j=false):=hid (by rw [HL.out];exact decide_eq_false hm)
           clear hm HL
           go_wp2
           go_ret
           rw [HV2.out,HD2.out,HD3.out,HLF.out]
           exact ⟨rfl,HB8.out.trans (HB9.out.mono hz8)⟩
         ·rw [if_neg (by rintro (h | h)<;>omega)] at HL
          have g2:((j:Int) == (l.length:Int) - 1)=false:=beq_eq_false_iff_ne.2 (by omega)
          clear c1 c2 c3
          go_wp2
          refine wp_region_later wr (by kernel_rfl) (by kernel_rfl) (Below.refl _ _) ?_
          repeat (go_big_quiet_step (first | (go_at_call 68;with_reducible exact Calls.later (HME.out _))))
          refine wpQuiet_nil ?_
          rintro w9 hex;have hb9:=later_of hex;clear hex
          have HB9:=hid (HBJ.out.trans (hb9.mono HBJ.out.size))
          clear E0 E1 E2 E3 F0 F1 F2 F3 hb9
          by_cases hm:mk=0
          ·have m1:(mk != 1)=true:=bne_iff_ne.2 (by omega)
           have m0:(mk != 0)=false:=bne_eq_false_iff_eq.2 hm
           have HLT:Hid (rloose l i j=true):=hid (by rw [HL.out];exact decide_eq_true hm)
           clear hm HL
           go_wp2
           go_roundw
           case rel=>exact ⟨j+1,by go_num,by omega,by omega,hid (by rw [HD3.out,HLT.out];rfl),HB9⟩
           case measure=>simp [intOf];omega
          ·have m1:(mk != 0)=true:=bne_iff_ne.2 hm
           have HLF:Hid (rloose l i j=false):=hid (by rw [HL.out];exact decide_eq_false hm)
           clear hm HL
           go_wp2
           go_ret
           rw [HV2.out,HD2.out,HD3.out,HLF.out]
           exact ⟨rfl,HB8.out.trans (HB9.out.mono hz8)⟩
        ·have g1:((i:Int) == 0)=false:=beq_eq_false_iff_ne.2 (by omega)
         rw [if_neg (by rintro (h | h)<;>omega)] at HL
         clear c1 c2
         go_wp2
         refine wp_region_later wr (by kernel_rfl) (by kernel_rfl) (Below.refl _ _) ?_
         repeat (go_big_quiet_step (first | (go_at_call 68;with_reducible exact Calls.later (HME.out _))))
         refine wpQuiet_nil ?_
         rintro w9 hex;have hb9:=later_of hex;clear hex
         have HB9:=hid (HBJ.out.trans (hb9.mono HBJ.out.size))
         clear E0 E1 E2 E3 F0 F1 F2 F3 hb9
         by_cases hm:mk=0
         ·have m1:(mk != 1)=true:=bne_iff_ne.2 (by omega)
          have m0:(mk != 0)=false:=bne_eq_false_iff_eq.2 hm
          have HLT:Hid (rloose l i j=true):=hid (by rw [HL.out];exact decide_eq_true hm)
          clear hm HL
          go_wp2
          go_roundw
          case rel=>exact ⟨j+1,by go_num,by omega,by omega,hid (by rw [HD3.out,HLT.out];rfl),HB9⟩
          case measure=>simp [intOf];omega
         ·have m1:(mk != 0)=true:=bne_iff_ne.2 hm
          have HLF:Hid (rloose l i j=false):=hid (by rw [HL.out];exact decide_eq_false hm)
          clear hm HL
          go_wp2
          go_ret
          rw [HV2.out,HD2.out,HD3.out,HLF.out]
          exact ⟨rfl,HB8.out.trans (HB9.out.mono hz8)⟩
      ·obtain rfl:j=l.length:=by omega
       go_wp2
       go_roundw
       case rel=>exact ⟨i+1,by go_num,by omega,hid (by rw [HD2.out,HDJ.out,allFrom_end];rfl),HBJ⟩
       case measure=>simp [intOf];omega
    ·obtain rfl:i=l.length:=by omega
     have HBE:=hid (HB8.out.trans (HBI.out.mono hz8))
     go_wp2_with fail
     refine (HAR.out _ HBE.out).mono ?_
     rintro en9 w9 ⟨rfl,hb9⟩
     go_wp2
     go_ret
     rw [HV2.out,HDI.out,allFrom_end]
     exact ⟨rfl,HBE.out.trans (hb9.mono HBE.out.size)⟩
end Go.Proofs.YtnmmhcchpcbeeaaGreat.GeW
