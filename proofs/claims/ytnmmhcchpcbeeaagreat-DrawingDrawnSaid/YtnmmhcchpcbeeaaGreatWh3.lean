/- Walks: of the reference: where a whole point lies with regard to a ring. Conditions: the ring is valid; the point is near. -/
import Derived.Test.YtnmmhcchpcbeeaaGreatWh2
import Derived.Test.YtnmmhcchpcbeeaaGreatRf13
import Derived.Laws.Small

namespace Go.Proofs.YtnmmhcchpcbeeaaGreat.GeW
open Lib (hid)
open Go Go.RowKit Go.Proofs.YtnmmhcchpcbeeaaGreat.Mem Go.Proofs.YtnmmhcchpcbeeaaGreat.Ge
attribute [local go_sem ↓] Go.wp_at_zero Go.wp_at_succ
set_option maxRecDepth 100000 in
set_option maxHeartbeats 2000000 in
theorem rside3_any (ax ay bx b_y x y:Int) (w:World) (hax : -2000≤ax∧ax≤2000) (hay : -2000≤ay∧ay≤2000) (hbx : -2000≤bx∧bx≤2000) (hby : -2000≤b_y∧b_y≤2000) (hx : -2000≤x∧x≤2000) (hy : -2000≤y∧y≤2000) :
  Calls Tryz.prog 178 #[.agg #[.int .i64 ax,.int .i64 ay],.agg #[.int .i64 bx,.int .i64 b_y],.agg #[.int .i64 x,.int .i64 y,.int .i64 1]] w fun e w'=>e=.returned (.int .i64 (sgn (cross (sub (bx,b_y) (ax,ay)) (sub (x,y) (ax,ay)))))∧Below w.heap.size w w':=by
 have HX:=hid (three_vecs w (.cells #[.int .i64 ax,.int .i64 ay] 53) (.cells #[.int .i64 bx,.int .i64 b_y] 53) (.cells #[.int .i64 x,.int .i64 y,.int .i64 1] 138))
 have HSU:=hid (fun W=>rsub_any bx b_y ax ay W (by omega) (by omega) (by omega) (by omega))
 have hm1:=mul8 (x:=bx - ax) (y:=y - ay) (by omega) (by omega)
 have hm2:=mul8 (x:=b_y - ay) (y:=x - ax) (by omega) (by omega)
 have HSG:=hid (fun W=>sign_any ((bx - ax)*(y - ay) - (b_y - ay)*(x - ax)) W)
 have w1:IntKind.i64.wrap (ay)=ay:=by rw [IntKind.wrap_i64];omega
 have w2:IntKind.i64.wrap (ax)=ax:=by rw [IntKind.wrap_i64];omega
 have w3:IntKind.i64.wrap (y - ay)=y - ay:=by rw [IntKind.wrap_i64];omega
 have w4:IntKind.i64.wrap (x - ax)=x - ax:=by rw [IntKind.wrap_i64];omega
 have w5:IntKind.i64.wrap ((bx - ax)*(y - ay))=(bx - ax)*(y - ay):=by rw [IntKind.wrap_i64];omega
 have w6:IntKind.i64.wrap ((b_y - ay)*(x - ax))=(b_y - ay)*(x - ax):=by rw [IntKind.wrap_i64];omega
 have w7:IntKind.i64.wrap ((bx - ax)*(y - ay) - (b_y - ay)*(x - ax))=(bx - ax)*(y - ay) - (b_y - ay)*(x - ax):=by rw [IntKind.wrap_i64];omega
 have HE:Hid (sgn (cross (sub (bx,b_y) (ax,ay)) (sub (x,y) (ax,ay)))=sgn ((bx - ax)*(y - ay) - (b_y - ay)*(x - ax))):=hid rfl
 rw [HE.out]
 clear HE hm1 hm2 hax hay hbx hby hx hy
 generalize sgn ((bx - ax)*(y - ay) - (b_y - ay)*(x - ax))=sv at *
 obtain ⟨a0,a1⟩:=pair_at HX.out.1 (Below.refl _ _)
 obtain ⟨b0,b1⟩:=pair_at HX.out.2.1 (Below.refl _ _)
 go_enter Tryz.func178,Tryz.ntmps178
 go_upto_region 1 with fail
 generalize ((w.alloc (.cells #[.int .i64 ax,.int .i64 ay] 53)).alloc (.cells #[.int .i64 bx,.int .i64 b_y] 53)).alloc (.cells #[.int .i64 x,.int .i64 y,.int .i64 1] 138)=W0 at *
 go_wp2_with fail
 refine (HSU.out _).mono ?_
 rintro e w1' ⟨rfl,hb1⟩
 clear a0 a1 b0 b1
 have HO:=hid (one_vec w1' (.cells #[.int .i64 (bx - ax),.int .i64 (b_y - ay)] 53))
 have hbo:=hb1.trans (HO.out.1.mono hb1.size)
 have HB:=hid (HX.out.2.2.2.trans (hbo.mono HX.out.2.2.2.size))
 obtain ⟨a0,a1⟩:=pair_at HX.out.1 hbo
 obtain ⟨p0,p1,p2⟩:=three_at HX.out.2.2.1 hbo
 obtain ⟨d0,d1⟩:=pair_at HO.out.2 (Below.refl _ _)
 clear hb1 hbo
 go_upto_region 2 with fail
 generalize w1'.alloc (.cells #[.int .i64 (bx - ax),.int .i64 (b_y - ay)] 53)=W1 at *
 go_wp2_with fail
 refine (HSG.out _).mono ?_
 rintro e w9 ⟨rfl,rfl⟩
 go_wp2
 go_ret
 exact ⟨rfl,HB.out⟩
set_option maxRecDepth 100000 in
set_option maxHeartbeats 2000000 in
theorem ron3_any (ax ay bx b_y x y:Int) (w:World) (hax : -2000≤ax∧ax≤2000) (hay : -2000≤ay∧ay≤2000) (hbx : -2000≤bx∧bx≤2000) (hby : -2000≤b_y∧b_y≤2000) (hx : -2000≤x∧x≤2000) (hy : -2000≤y∧y≤2000) :
  Calls Tryz.prog 177 #[.agg #[.int .i64 ax,.int .i64 ay,.int .i64 bx,.int .i64 b_y],.agg #[.int .i64 x,.int .i64 y,.int .i64 1]] w fun e w'=>e=.returned (.bool (redgeOn ((ax,ay),bx,b_y) (x,y)))∧Below w.heap.size w w':=by
 have HX:=hid (two_vecs w (.cells #[.int .i64 ax,.int .i64 ay,.int .i64 bx,.int .i64 b_y] 74) (.cells #[.int .i64 x,.int .i64 y,.int .i64 1] 138))
 have HB:=hid ((bel1 w (.cells #[.int .i64 ax,.int .i64 ay,.int .i64 bx,.int .i64 b_y] 74)).alloc (by simp) (.cells #[.int .i64 x,.int .i64 y,.int .i64 1] 138))
 have HSI:=hid (fun W=>rside3_any ax ay bx b_y x y W hax hay hbx hby hx hy)
 have HE:Hid (redgeOn ((ax,ay),bx,b_y) (x,y)=((decide (min ax bx≤x)&&(decide (x≤max ax bx)&&(decide (min ay b_y≤y)&&decide (y≤max ay b_y))))&&decide (sgn (cross (sub (bx,b_y) (ax,ay)) (sub (x,y) (ax,ay)))=0))):=hid rfl
 generalize redgeOn ((ax,ay),bx,b_y) (x,y)=ro at *
 generalize sgn (cross (sub (bx,b_y) (ax,ay)) (sub (x,y) (ax,ay)))=sv at *
 have w1:IntKind.i64.wrap (min ax bx)=min ax bx:=by rw [IntKind.wrap_i64];omega
 have w2:IntKind.i64.wrap (max ax bx)=max ax bx:=by rw [IntKind.wrap_i64];omega
 have w3:IntKind.i64.wrap (min ay b_y)=min ay b_y:=by rw [IntKind.wrap_i64];omega
 have w4:IntKind.i64.wrap (max ay b_y)=max ay b_y:=by rw [IntKind.wrap_i64];omega
 obtain ⟨mn1,hn1⟩:∃ m,m=min ax bx:=⟨_,rfl⟩
 obtain ⟨mx1,hx1⟩:∃ m,m=max ax bx:=⟨_,rfl⟩
 obtain ⟨mn2,hn2⟩:∃ m,m=min ay b_y:=⟨_,rfl⟩
 obtain ⟨mx2,hx2⟩:∃ m,m=max ay b_y:=⟨_,rfl⟩
 rw [← hn1,← hx1,← hn2,← hx2] at HE
 rw [← hn1] at w1
 rw [← hx1] at w2
 rw [← hn2] at w3
 rw [← hx2] at w4
 have m1:=hn1.symm
 have m2:=hx1.symm
 have m3:=hn2.symm
 have m4:=hx2.symm
 clear hn1 hx1 hn2 hx2 hax hay hbx hby hx hy
 obtain ⟨e0,e1,e2,e3⟩:=quad_at HX.out.1 (Below.refl _ _)
 obtain ⟨p0,p1,p2⟩:=three_at HX.out.2 (Below.refl _ _)
 go_enter Tryz.func177,Tryz.ntmps177
 go_upto_region 1 with fail
 generalize (w.alloc (.cells #[.int .i64 ax,.int .i64 ay,.int .i64 bx,.int .i64 b_y] 74)).alloc (.cells #[.int .i64 x,.int .i64 y,.int .i64 1] 138)=W0 at *
 cases d0:decide (mn1≤x)
 ·skip
  go_wp2
  go_ret
  rw [HE.out,d0]
  exact ⟨rfl,HB.out⟩
 ·skip
  cases d1:decide (x≤mx1)
  ·skip
   go_wp2
   go_ret
   rw [HE.out,d0,d1]
   exact ⟨rfl,HB.out⟩
  ·skip
   cases d2:decide (mn2≤y)
   ·skip
    go_wp2
    go_ret
    rw [HE.out,d0,d1,d2]
    exact ⟨rfl,HB.out⟩
   ·skip
    cases d3:decide (y≤mx2)
    ·skip
     go_wp2
     go_ret
     rw [HE.out,d0,d1,d2,d3]
     exact ⟨rfl,HB.out⟩
    ·skip
     by_cases hs:sv=0
     ·have t1:(sv == 0)=true:=beq_iff_eq.2 hs
      have HSV:Hid (decide (sv=0)=true):=hid (decide_eq_true hs)
      clear hs
      go_wp2_with fail
      refine (HSI.out _).mono ?_
      rintro e w9 ⟨rfl,hb9⟩
      have HB9:=hid (HB.out.trans (hb9.mono HB.out.size))
      go_wp2
      go_ret
      rw [HE.out,d0,d1,d2,d3,HSV.out]
      exact ⟨rfl,HB9.out⟩
     ·have t1:(sv == 0)=false:=beq_eq_false_iff_ne.2 hs
      have HSV:Hid (decide (sv=0)=false):=hid (decide_eq_false hs)
      clear hs
      go_wp2_with fail
      refine (HSI.out _).mono ?_
      rintro e w9 ⟨rfl,hb9⟩
      have HB9:=hid (HB.out.trans (hb9.mono HB.out.size))
      go_wp2
      go_ret
      rw [HE.out,d0,d1,d2,d3,HSV.out]
      exact ⟨rfl,HB9.out⟩
set_option maxRecDepth 100000 in
set_option maxHeartbeats 8000000 in
theorem rwherePoint_any (l:List V) (x y:Int) (A:Option Addr) (c:Nat) (w:World) (hr:Row w A (l.flatMap ptCells)) (hv:ringB l=true) (hp:within (x,y) 2000=true) :
  Calls Tryz.prog 127 #[.slice A l.length c,.agg #[.int .i64 x,.int .i64 y,.int .i64 1]] w fun e w'=>e=.returned (.int .i64 (rwhereL (edges l) (x,y) false))∧Below w.heap.size w w':=by
 have HR:=hid hr
 have HP:=hid hp
 have hn:=(ring_near hv).1
 have hl3:=(ring_near hv).2.1
 have hl40:=(ring_near hv).2.2
 have HVR:=hid (fun W (hW:Below w.heap.size w W)=>rring_any l A c W (HR.out.below hW) (by omega))
 rw [ring_same,hv] at HVR
 have HED:=hid (fun W (hW:Below w.heap.size w W)=>redges_any l A c W (HR.out.below hW) (by omega) (by omega))
 obtain ⟨⟨px1,px2⟩,py1,py2⟩:=within_in hp
 simp only at px1 px2 py1 py2
 have HVP:=hid (fun W=>rvalidPoint_any x y W (by omega) (by omega))
 have HO:=hid (one_vec w (.cells #[.int .i64 x,.int .i64 y,.int .i64 1] 138))
 obtain ⟨rv,HRV⟩:∃ rv,Hid (rv=rwhereL (edges l) (x,y) false):=⟨_,hid rfl⟩
 rw [← HRV.out]
 have HEL:Hid (rwhereL (edges l) (x,y) false=rwhereL (edgesN l l.length) (x,y) false):=hid (by rw [edges_get (by omega)];rfl)
 rw [HEL.out] at HRV
 clear HEL
 have HES:=hid (edgesN_len l l.length)
 have HSG:Hid (∀ e∈edgesN l l.length,within e.1 2000=true∧within e.2 2000=true):=hid (fun e he=>by
  unfold edgesN at he
  obtain ⟨i,hi,rfl⟩:=List.mem_map.1 he
  exact ⟨near_at hn i,near_at hn ((i+1) % l.length)⟩)
 clear hr hn hv px1 px2 py1 py2 hp
 obtain ⟨a0,a1,a2⟩:=three_at HO.out.2 (Below.refl _ _)
 go_enter Tryz.func127,Tryz.ntmps127
 go_upto_region 1 with fail
 generalize w.alloc (.cells #[.int .i64 x,.int .i64 y,.int .i64 1] 138)=W0 at *
 clear a0 a1 a2
 go_wp2_with fail
 refine (HVR.out _ HO.out.1).mono ?_
 rintro e w1 ⟨rfl,hb1⟩
 obtain ⟨a0,a1,a2⟩:=three_at HO.out.2 hb1
 go_wp2_with fail
 refine (HVP.out _).mono ?_
 rintro e w2 ⟨rfl,hb20⟩
 have hb2:=hb1.trans (hb20.mono hb1.size)
 have HB2:=hid (HO.out.1.trans (hb2.mono HO.out.1.size))
 clear a0 a1 a2
 go_wp2_with fail
 refine (HED.out _ HB2.out).mono ?_
 rintro e w3 ⟨v,rfl,hown,hb30⟩
 have HB3:=hid (hb2.trans (hb30.mono hb2.size))
 clear hb1 hb20 hb2 hb30 HB2 HVR HVP HED
 obtain ⟨ge,ce,rfl,hce,hge,hgw,hcell⟩:=own_get seg_len HES.out.symm hown (by omega)
 have HCE:=hid hcell
 clear hcell hown hge
 generalize edgesN l l.length=es at *
 have hlen:=HES.out
 rw [← hlen] at hl3 hl40
 generalize hL:l.length=n at *
 subst hlen
 go_wp2
 go_loopw [6,7,8,9,10,11] (fun b i _ _ _ _ wr=>∃ (k:Nat) (ins:Bool),i=.int .i64 (k:Int)∧b=.bool ins∧k≤es.length∧Hid (rwhereL es (x,y) false=rwhereL (es.drop k) (x,y) ins)∧Hid (Below w3.heap.size w3 wr)) (fun _ i _ _ _ _ _=>es.length - (intOf i).toNat)
 case atStart=>exact ⟨0,false,rfl,rfl,Nat.zero_le _,hid rfl,hid (Below.refl _ _)⟩
 case round =>
  obtain ⟨k,ins,rfl,rfl,hk,HD,HB⟩:=hrel
  by_cases hlt:k < es.length
  ·have HD1:Hid (rwhereL es (x,y) false=if redgeOn es[k] (x,y) then 1 else rwhereL (es.drop (k+1)) (x,y) (if redgeTurns es[k] (x,y) then !ins else ins)):=hid (by rw [HD.out,List.drop_eq_getElem_cons hlt];rfl)
   have HM:=HSG.out es[k] (List.getElem_mem hlt)
   have hgr:ge < wr.heap.size:=Nat.lt_of_lt_of_le hgw HB.out.size
   have c0:=(HB.out.cell (p:=⟨ge,k*4+0,none⟩) hgw).trans (HCE.out k hlt 0 (by decide))
   have c1:=(HB.out.cell (p:=⟨ge,k*4+1,none⟩) hgw).trans (HCE.out k hlt 1 (by decide))
   have c2:=(HB.out.cell (p:=⟨ge,k*4+2,none⟩) hgw).trans (HCE.out k hlt 2 (by decide))
   have c3:=(HB.out.cell (p:=⟨ge,k*4+3,none⟩) hgw).trans (HCE.out k hlt 3 (by decide))
   generalize es[k]=e at *
   obtain ⟨⟨ax,ay⟩,bx,b_y⟩:=e
   simp only [segCells,List.getElem?_cons_zero,List.getElem?_cons_succ,Nat.add_zero] at c0 c1 c2 c3
   obtain ⟨s1,s2⟩:=within_in HM.1
   obtain ⟨t1,t2⟩:=within_in HM.2
   obtain ⟨p1,p2⟩:=within_in HP.out
   simp only at s1 s2 t1 t2 p1 p2
   have HON:=hid (fun W=>ron3_any ax ay bx b_y x y W s1 s2 t1 t2 p1 p2)
   have HSI:=hid (fun W=>rside3_any ax ay bx b_y x y W s1 s2 t1 t2 p1 p2)
   have HTU:Hid (redgeTurns ((ax,ay),bx,b_y) (x,y)=((decide (ay≤y)&&decide (y < b_y)&&decide (0 < sgn (cross (sub (bx,b_y) (ax,ay)) (sub (x,y) (ax,ay))))) || (decide (b_y≤y)&&decide (y < ay)&&decide (sgn (cross (sub (bx,b_y) (ax,ay)) (sub (x,y) (ax,ay))) < 0)))):=hid rfl
   have w1':IntKind.i64.wrap (ay)=ay:=by rw [IntKind.wrap_i64];omega
   have w2':IntKind.i64.wrap (b_y)=b_y:=by rw [IntKind.wrap_i64];omega
   clear s1 s2 t1 t2 p1 p2 HM
   generalize redgeOn ((ax,ay),bx,b_y) (x,y)=eo at *
   generalize redgeTurns ((ax,ay),bx,b_y) (x,y)=et at *
   generalize sgn (cross (sub (bx,b_y) (ax,ay)) (sub (x,y) (ax,ay)))=sv at *
   have HBE:=hid (HB3.out.trans (HB.out.mono HB3.out.size))
   have HP0:=hid ((HBE.out.block _ (lt_of_block HO.out.2)).trans HO.out.2)
   have E0:∀ p:Later wr,_:=later_cell hgr c0
   have E1:∀ p:Later wr,_:=later_cell hgr c1
   have E2:∀ p:Later wr,_:=later_cell hgr c2
   have E3:∀ p:Later wr,_:=later_cell hgr c3
   have P0:=fun p:Later wr=>(three_at HP0.out p.h).1
   have P1:=fun p:Later wr=>(three_at HP0.out p.h).2.1
   have P2:=fun p:Later wr=>(three_at HP0.out p.h).2.2
   have hk1:(0:Int)≤(k:Int):=by omega
   have hk2:(k:Int) < (es.length:Int):=by omega
   clear c0 c1 c2 c3
   go_wp2
   refine wp_region_later wr (by kernel_rfl) (by kernel_rfl) (Below.refl _ _) ?_
   repeat (go_big_quiet_step (first | (go_at_call 177;with_reducible exact Calls.later (HON.out _))))
   refine wpQuiet_nil ?_
   rintro w9 hex;have hb9:=later_of hex;clear hex
   have HBB:=hid (HB.out.trans (hb9.mono HB.out.size))
   have HP0:=hid ((hb9.block _ (lt_of_block HP0.out)).trans HP0.out)
   have c0:=E0 ⟨w9,hb9⟩
   have c1:=E1 ⟨w9,hb9⟩
   have c2:=E2 ⟨w9,hb9⟩
   have c3:=E3 ⟨w9,hb9⟩
   simp only at c0 c1 c2 c3
   have hgr9:ge < w9.heap.size:=Nat.lt_of_lt_of_le hgr hb9.size
   clear E0 E1 E2 E3 P0 P1 P2 hb9 HB HBE
   cases eo
   case true =>
    have HD2:Hid (rwhereL es (x,y) false=1):=hid (by rw [HD1.out,if_pos rfl])
    clear c0 c1 c2 c3
    go_wp2
    go_ret
    rw [HRV.out,HD2.out]
    exact ⟨rfl,HO.out.1.trans ((HB3.out.trans (HBB.out.mono HB3.out.size)).mono HO.out.1.size)⟩
   case false =>
    have HD2:=HD1.out
    rw [if_neg Bool.false_ne_true] at HD2
    have HD3:=hid HD2
    clear HD2 HD1
    go_upto_region 10 with fail
    generalize w9=W at *
    have CS:Hid (∀ w',Below W.heap.size W w'→w'.cell? ⟨ge,k*4,none⟩=some (.int .i64 ax)∧w'.cell? ⟨ge,k*4+1,none⟩=some (.int .i64 ay)∧w'.cell? ⟨ge,k*4+2,none⟩=some (.int .i64 bx)∧w'.cell? ⟨ge,k*4+3,none⟩=some (.int .i64 b_y)∧Below W.heap.size W w'):=hid (fun w' hb=>⟨(hb.cell (p:=⟨ge,_,none⟩) hgr9).trans c0,(hb.cell (p:=⟨ge,_,none⟩) hgr9).trans c1,(hb.cell (p:=⟨ge,_,none⟩) hgr9).trans c2,(hb.cell (p:=⟨ge,_,none⟩) hgr9).trans c3,hb⟩)
    have q4:=Below.refl W.heap.size W
    go_cut [8,9] from 34 to 43 (fun p q wc=>∃ b1 b2,p=.pointer (some ⟨b1,0,none⟩)∧q=.pointer (some ⟨b2,0,none⟩)∧(wc.cell? ⟨b1,0,none⟩=some (.int .i64 ax)∧wc.cell? ⟨b1,1,none⟩=some (.int .i64 ay)∧b1 < wc.heap.size)∧(wc.cell? ⟨b2,0,none⟩=some (.int .i64 bx)∧wc.cell? ⟨b2,1,none⟩=some (.int .i64 b_y)∧b2 < wc.heap.size)∧Below W.heap.size W wc)
    case first =>
     go_wp2_with fail
     go_region_held3 (fun w'=>w'.cell? ⟨ge,k*4,none⟩=some (.int .i64 ax)∧w'.cell? ⟨ge,k*4+1,none⟩=some (.int .i64 ay)∧w'.cell? ⟨ge,k*4+2,none⟩=some (.int .i64 bx)∧w'.cell? ⟨ge,k*4+3,none⟩=some (.int .i64 b_y)∧Below W.heap.size W w')
      (first | assumption | exact CS.out _ (by (repeat (with_reducible first | assumption | exact Below.refl _ _ | refine below_drew ?_ | refine bel_alloc ?_ _ | (refine bel_set ?_ (by simp<;>omega) _)))))
      (first | fail | fail)
     all_goals
      go_wp2_with fail
      go_meet
     all_goals first
      | exact ⟨_,_,rfl,rfl,⟨(two_facts (two_vecs W _ _).1).1,(two_facts (two_vecs W _ _).1).2.1,(two_facts (two_vecs W _ _).1).2.2.2.2⟩,⟨(two_facts (two_vecs W _ _).2).1,(two_facts (two_vecs W _ _).2).2.1,(two_facts (two_vecs W _ _).2).2.2.2.2⟩,by (repeat (with_reducible first | assumption | exact Below.refl _ _ | refine below_drew ?_ | refine bel_alloc ?_ _ | (refine bel_set ?_ (by simp<;>omega) _)))⟩
      | exact ⟨_,_,rfl,rfl,⟨(two_facts (two_vecs W _ _).2).1,(two_facts (two_vecs W _ _).2).2.1,(two_facts (two_vecs W _ _).2).2.2.2.2⟩,⟨(two_facts (two_vecs W _ _).1).1,(two_facts (two_vecs W _ _).1).2.1,(two_facts (two_vecs W _ _).1).2.2.2.2⟩,by (repeat (with_reducible first | assumption | exact Below.refl _ _ | refine below_drew ?_ | refine bel_alloc ?_ _ | (refine bel_set ?_ (by simp<;>omega) _)))⟩
    case rest =>
     obtain ⟨g1,g2,rfl,rfl,ua,va,HBC0⟩:=hcut
     have HBC:=hid HBC0
     have UV:=hid (And.intro ua va)
     have HPC:=hid ((HBC0.block _ (lt_of_block HP0.out)).trans HP0.out)
     clear HBC0 ua va CS q4 c0 c1 c2 c3
     have G0:=fun p:Later wc=>(pairs_on UV.out p.h).1.1
     have G1:=fun p:Later wc=>(pairs_on UV.out p.h).1.2.1
     have H0:=fun p:Later wc=>(pairs_on UV.out p.h).2.1
     have H1:=fun p:Later wc=>(pairs_on UV.out p.h).2.2.1
     have P0:=fun p:Later wc=>(three_at HPC.out p.h).1
     have P1:=fun p:Later wc=>(three_at HPC.out p.h).2.1
     have P2:=fun p:Later wc=>(three_at HPC.out p.h).2.2
     cases d1:decide (ay≤y)
     ·cases d2:decide (b_y≤y)
      ·skip
       have x1:decide (ay≤y)=false:=d1
       have x2:decide (y < b_y)=true:=by simpa using d2
       have x3:decide (b_y≤y)=false:=d2
       have x4:decide (y < ay)=true:=by simpa using d1
       have y1:=hid x1
       have y2:=hid x2
       have y3:=hid x3
       have y4:=hid x4
       clear d1 d2
       go_wp2
       refine wp_region_later wc (by kernel_rfl) (by kernel_rfl) (Below.refl _ _) ?_
       repeat (go_big_quiet_step (fail))
       refine wpQuiet_nil ?_
       rintro w9 hex;have hb9:=later_of hex;clear hex
       have HB9:=hid (HBC.out.trans (hb9.mono HBC.out.size))
       have UV9:=hid (pairs_on UV.out hb9)
       clear G0 G1 H0 H1 P0 P1 P2 hb9 x1 x2 x3 x4
       have HB10:=HB9
       have HBR:=hid (HBB.out.trans (HB10.out.mono HBB.out.size))
       have HET:Hid (et=false):=hid (by rw [HTU.out,y1.out,y2.out,y3.out,y4.out];simp)
       rw [HET.out] at HD3
       clear HET
       go_wp2
       go_roundw
       case rel=>exact ⟨k+1,ins,by go_num,rfl,by omega,hid HD3.out,HBR⟩
       case measure=>simp [intOf];omega
      ·skip
       have x1:decide (ay≤y)=false:=d1
       have x2:decide (y < b_y)=false:=by simpa using d2
       have x3:decide (b_y≤y)=true:=d2
       have x4:decide (y < ay)=true:=by simpa using d1
       have y1:=hid x1
       have y2:=hid x2
       have y3:=hid x3
       have y4:=hid x4
       clear d1 d2
       go_wp2
       refine wp_region_later wc (by kernel_rfl) (by kernel_rfl) (Below.refl _ _) ?_
       repeat (go_big_quiet_step (fail))
       refine wpQuiet_nil ?_
       rintro w9 hex;have hb9:=later_of hex;clear hex
       have HB9:=hid (HBC.out.trans (hb9.mono HBC.out.size))
       have UV9:=hid (pairs_on UV.out hb9)
       clear G0 G1 H0 H1 P0 P1 P2 hb9 x1 x2 x3 x4
       obtain ⟨⟨k0,k1,_⟩,k2,k3,_⟩:=UV9.out
       obtain ⟨p0,p1,p2⟩:=three_at HP0.out HB9.out
       cases e3:decide (sv < 0)
       ·go_wp2_with fail
        refine (HSI.out _).mono ?_
        rintro e w10 ⟨rfl,hb10⟩
        have HB10:=hid (HB9.out.trans (hb10.mono HB9.out.size))
        have HBR:=hid (HBB.out.trans (HB10.out.mono HBB.out.size))
        have HET:Hid (et=false):=hid (by rw [HTU.out,y1.out,y2.out,y3.out,y4.out,e3];simp)
        rw [HET.out] at HD3
        clear HET
        go_wp2
        go_roundw
        case rel=>exact ⟨k+1,ins,by go_num,rfl,by omega,hid HD3.out,HBR⟩
        case measure=>simp [intOf];omega
       ·go_wp2_with fail
        refine (HSI.out _).mono ?_
        rintro e w10 ⟨rfl,hb10⟩
        have HB10:=hid (HB9.out.trans (hb10.mono HB9.out.size))
        have HBR:=hid (HBB.out.trans (HB10.out.mono HBB.out.size))
        have HET:Hid (et=true):=hid (by rw [HTU.out,y1.out,y2.out,y3.out,y4.out,e3];simp)
        rw [HET.out] at HD3
        clear HET
        go_wp2
        go_roundw
        case rel=>exact ⟨k+1,!ins,by go_num,rfl,by omega,hid HD3.out,HBR⟩
        case measure=>simp [intOf];omega
     ·cases d2:decide (b_y≤y)
      ·skip
       have x1:decide (ay≤y)=true:=d1
       have x2:decide (y < b_y)=true:=by simpa using d2
       have x3:decide (b_y≤y)=false:=d2
       have x4:decide (y < ay)=false:=by simpa using d1
       have y1:=hid x1
       have y2:=hid x2
       have y3:=hid x3
       have y4:=hid x4
       clear d1 d2
       go_wp2
       refine wp_region_later wc (by kernel_rfl) (by kernel_rfl) (Below.refl _ _) ?_
       repeat (go_big_quiet_step (fail))
       refine wpQuiet_nil ?_
       rintro w9 hex;have hb9:=later_of hex;clear hex
       have HB9:=hid (HBC.out.trans (hb9.mono HBC.out.size))
       have UV9:=hid (pairs_on UV.out hb9)
       clear G0 G1 H0 H1 P0 P1 P2 hb9 x1 x2 x3 x4
       obtain ⟨⟨k0,k1,_⟩,k2,k3,_⟩:=UV9.out
       obtain ⟨p0,p1,p2⟩:=three_at HP0.out HB9.out
       cases e3:decide (0 < sv)
       ·go_wp2_with fail
        refine (HSI.out _).mono ?_
        rintro e w10 ⟨rfl,hb10⟩
        have HB10:=hid (HB9.out.trans (hb10.mono HB9.out.size))
        have HBR:=hid (HBB.out.trans (HB10.out.mono HBB.out.size))
        have HET:Hid (et=false):=hid (by rw [HTU.out,y1.out,y2.out,y3.out,y4.out,e3];simp)
        rw [HET.out] at HD3
        clear HET
        go_wp2
        go_roundw
        case rel=>exact ⟨k+1,ins,by go_num,rfl,by omega,hid HD3.out,HBR⟩
        case measure=>simp [intOf];omega
       ·go_wp2_with fail
        refine (HSI.out _).mono ?_
        rintro e w10 ⟨rfl,hb10⟩
        have HB10:=hid (HB9.out.trans (hb10.mono HB9.out.size))
        have HBR:=hid (HBB.out.trans (HB10.out.mono HBB.out.size))
        have HET:Hid (et=true):=hid (by rw [HTU.out,y1.out,y2.out,y3.out,y4.out,e3];simp)
        rw [HET.out] at HD3
        clear HET
        go_wp2
        go_roundw
        case rel=>exact ⟨k+1,!ins,by go_num,rfl,by omega,hid HD3.out,HBR⟩
        case measure=>simp [intOf];omega
      ·skip
       have x1:decide (ay≤y)=true:=d1
       have x2:decide (y < b_y)=false:=by simpa using d2
       have x3:decide (b_y≤y)=true:=d2
       have x4:decide (y < ay)=false:=by simpa using d1
       have y1:=hid x1
       have y2:=hid x2
       have y3:=hid x3
       have y4:=hid x4
       clear d1 d2
       go_wp2
       refine wp_region_later wc (by kernel_rfl) (by kernel_rfl) (Below.refl _ _) ?_
       repeat (go_big_quiet_step (fail))
       refine wpQuiet_nil ?_
       rintro w9 hex;have hb9:=later_of hex;clear hex
       have HB9:=hid (HBC.out.trans (hb9.mono HBC.out.size))
       have UV9:=hid (pairs_on UV.out hb9)
       clear G0 G1 H0 H1 P0 P1 P2 hb9 x1 x2 x3 x4
       have HB10:=HB9
       have HBR:=hid (HBB.out.trans (HB10.out.mono HBB.out.size))
       have HET:Hid (et=false):=hid (by rw [HTU.out,y1.out,y2.out,y3.out,y4.out];simp)
       rw [HET.out] at HD3
       clear HET
       go_wp2
       go_roundw
       case rel=>exact ⟨k+1,ins,by go_num,rfl,by omega,hid HD3.out,HBR⟩
       case measure=>simp [intOf];omega
  ·obtain rfl:k=es.length:=by omega
   rw [List.drop_length] at HD
   have HBF:=hid (HO.out.1.trans ((HB3.out.trans (HB.out.mono HB3.out.size)).mono HO.out.1.size))
   cases ins
   ·go_wp2
    go_ret
    rw [HRV.out,HD.out]
    exact ⟨rfl,HBF.out⟩
   ·go_wp2
    go_ret
    rw [HRV.out,HD.out]
    exact ⟨rfl,HBF.out⟩
set_option maxRecDepth 100000 in
theorem rwhere_any (l:List V) (x y:Int) (A:Option Addr) (c:Nat) (w:World) (hr:Row w A (l.flatMap ptCells)) (hv:ringB l=true) (hp:within (x,y) 2000=true) :
  Calls Tryz.prog 69 #[.slice A l.length c,.agg #[.int .i64 x,.int .i64 y]] w fun e w'=>e=.returned (.int .i64 (rwhereL (edges l) (x,y) false))∧Below w.heap.size w w':=by
 have HO:=hid (one_vec w (.cells #[.int .i64 x,.int .i64 y] 53))
 have HWI:=hid (fun W=>rwithin_any x y 8000 W (by omega))
 rw [within_more hp (by omega)] at HWI
 have HPO:=hid (fun W=>rpointOf_any x y W)
 have HWP:=hid (fun W (hW:Below w.heap.size w W)=>rwherePoint_any l x y A c W (hr.below hW) hv hp)
 obtain ⟨a0,a1⟩:=pair_at HO.out.2 (Below.refl _ _)
 generalize rwhereL (edges l) (x,y) false=rv at *
 clear hr hv hp
 go_enter Tryz.func69,Tryz.ntmps69
 go_wp2_with fail
 generalize w.alloc (.cells #[.int .i64 x,.int .i64 y] 53)=W0 at *
 refine (HWI.out _).mono ?_
 rintro e w1 ⟨rfl,hb1⟩
 clear a0 a1
 obtain ⟨a0,a1⟩:=pair_at HO.out.2 hb1
 go_wp2_with fail
 refine (HPO.out _).mono ?_
 rintro e w2 ⟨rfl,hb20⟩
 have HB2:=hid (HO.out.1.trans ((hb1.trans (hb20.mono hb1.size)).mono HO.out.1.size))
 clear a0 a1 hb1 hb20
 go_wp2_with fail
 refine (HWP.out _ HB2.out).mono ?_
 rintro e w3 ⟨rfl,hb3⟩
 go_wp2
 go_ret
 exact ⟨rfl,HB2.out.trans (hb3.mono HB2.out.size)⟩
end Go.Proofs.YtnmmhcchpcbeeaaGreat.GeW
