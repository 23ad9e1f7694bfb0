/- Walk: the edges of a ring. Conditions: the points lie in memory; at most 200. -/
import Derived.Test.YtnmmhcchpcbeeaaGreatGeD
import Derived.Shelf.Abstract
import Derived.Deep.AppendLies
import Derived.Deep.RegionLaw

namespace Go.Proofs.YtnmmhcchpcbeeaaGreat.GeW
open Lib (hid)
open Go Go.RowKit Go.Proofs.YtnmmhcchpcbeeaaGreat.Mem Go.Proofs.YtnmmhcchpcbeeaaGreat.Ge
attribute [local go_sem ↓] Go.wp_at_zero Go.wp_at_succ
set_option maxRecDepth 100000 in
theorem next_any (l:List V) (i:Nat) (A:Option Addr) (c:Nat) (w:World) (hr:Row w A (l.flatMap ptCells)) (hi:i < l.length) (hl:l.length≤1000000) :
  Calls Tryz.prog 132 #[.slice A l.length c,.int .i64 (i:Int)] w fun e w'=>e=.returned (.agg #[.int .i64 (nxt l i).1,.int .i64 (nxt l i).2])∧Below w.heap.size w w':=by
 obtain ⟨g,off,rfl,hg,hc⟩:=row_get pt_len (by decide) hr (by omega)
 obtain ⟨j,hj⟩:∃ j,j=(i+1) % l.length:=⟨_,rfl⟩
 have hjl:j < l.length:=by rw [hj];exact Nat.mod_lt _ (by omega)
 have HV:Hid (nxt l i=l[j]):=hid (by unfold nxt;rw [← hj];simp [List.getD,List.getElem?_eq_getElem hjl])
 have hm:(((i:Int)+1)) % (l.length:Int)=(j:Int):=by rw [hj,Int.natCast_emod,show ((i+1:Nat):Int)=((i:Int)+1) by omega]
 rw [HV.out]
 have hb:=(Below.refl w.heap.size w).alloc (Nat.le_refl _) (.cells #[.int .i64 0,.int .i64 0] 53)
 have a0:=(hb.cell (p:=⟨g,off+j*2,none⟩) hg).trans (hc j hjl 0 (by decide))
 have a1:=(hb.cell (p:=⟨g,off+j*2+1,none⟩) hg).trans (hc j hjl 1 (by decide))
 clear hb hc hr hj HV
 generalize l[j]=q at *
 obtain ⟨qx,qy⟩:=q
 simp only [ptCells,List.getElem?_cons_zero,List.getElem?_cons_succ] at a0 a1
 go_enter Tryz.func132,Tryz.ntmps132
 go_wp2
 refine bodyPost_ret (v:=.agg #[.int .i64 qx,.int .i64 qy]) (by simp [results,Tryz.results132,go_sem]) rfl ⟨rfl,?_⟩
 exact (Below.refl _ _).alloc (Nat.le_refl _) _
set_option maxRecDepth 100000 in
theorem last_any (l:List V) (i:Nat) (A:Option Addr) (c:Nat) (w:World) (hr:Row w A (l.flatMap ptCells)) (hi:i < l.length) (hl:l.length≤1000000) :
  Calls Tryz.prog 131 #[.slice A l.length c,.int .i64 (i:Int)] w fun e w'=>e=.returned (.agg #[.int .i64 (lst l i).1,.int .i64 (lst l i).2])∧Below w.heap.size w w':=by
 obtain ⟨g,off,rfl,hg,hc⟩:=row_get pt_len (by decide) hr (by omega)
 obtain ⟨j,hj⟩:∃ j,j=(i+l.length - 1) % l.length:=⟨_,rfl⟩
 have hjl:j < l.length:=by rw [hj];exact Nat.mod_lt _ (by omega)
 have HV:Hid (lst l i=l[j]):=hid (by unfold lst;rw [← hj];simp [List.getD,List.getElem?_eq_getElem hjl])
 have hm:(((i:Int)+(l.length:Int) - 1)) % (l.length:Int)=(j:Int):=by rw [hj,Int.natCast_emod,show ((i+l.length - 1:Nat):Int)=((i:Int)+(l.length:Int) - 1) by omega]
 rw [HV.out]
 have hb:=(Below.refl w.heap.size w).alloc (Nat.le_refl _) (.cells #[.int .i64 0,.int .i64 0] 53)
 have a0:=(hb.cell (p:=⟨g,off+j*2,none⟩) hg).trans (hc j hjl 0 (by decide))
 have a1:=(hb.cell (p:=⟨g,off+j*2+1,none⟩) hg).trans (hc j hjl 1 (by decide))
 clear hb hc hr hj HV
 generalize l[j]=q at *
 obtain ⟨qx,qy⟩:=q
 simp only [ptCells,List.getElem?_cons_zero,List.getElem?_cons_succ] at a0 a1
 go_enter Tryz.func131,Tryz.ntmps131
 go_wp2
 refine bodyPost_ret (v:=.agg #[.int .i64 qx,.int .i64 qy]) (by simp [results,Tryz.results131,go_sem]) rfl ⟨rfl,?_⟩
 exact (Below.refl _ _).alloc (Nat.le_refl _) _
end Go.Proofs.YtnmmhcchpcbeeaaGreat.GeW

namespace Go.Proofs.YtnmmhcchpcbeeaaGreat.Ge
open Lib (hid)
open Go
theorem near_get {l:List V} (h:near l=true) {i:Nat} (hi:i < l.length):(-2000≤l[i].1∧l[i].1≤2000)∧(-2000≤l[i].2∧l[i].2≤2000):=by
 unfold near at h
 exact within_in (List.all_eq_true.1 h _ (List.getElem_mem hi))
theorem nxt_get {l:List V} {i:Nat} (h:0 < l.length):nxt l i=l[(i+1) % l.length]'(Nat.mod_lt _ h):=by
 unfold nxt
 rw [List.getD_eq_getElem?_getD,List.getElem?_eq_getElem (Nat.mod_lt _ h)]
 rfl
theorem mul_near {a b:Int} (ha : -2000≤a∧a≤2000) (hb : -2000≤b∧b≤2000) : -4000000≤a*b∧a*b≤4000000:=by
 have h1:(a*b).natAbs≤2000*2000:=by
  rw [Int.natAbs_mul]
  exact Nat.mul_le_mul (by omega) (by omega)
 omega
theorem cross_near {l:List V} (h:near l=true) {i:Nat} (hi:i < l.length):(-4000000≤l[i].1*(nxt l i).2∧l[i].1*(nxt l i).2≤4000000)∧(-4000000≤l[i].2*(nxt l i).1∧l[i].2*(nxt l i).1≤4000000):=by
 have h1:=near_get h hi
 have h2:=near_get h (Nat.mod_lt (i+1) (show 0 < l.length by omega))
 rw [← nxt_get (show 0 < l.length by omega)] at h2
 exact ⟨mul_near h1.1 h2.2,mul_near h1.2 h2.1⟩
theorem areaFrom_le {l:List V} (h:near l=true):∀ k:Nat,k≤l.length→-8000000*(k:Int)≤areaFrom l k∧areaFrom l k≤8000000*(k:Int)
 | 0,_=>by simp [areaFrom]
 | k+1,hk=>by
  have h1:=areaFrom_le h k (by omega)
  have h2:=cross_near h (show k < l.length by omega)
  unfold areaFrom
  rw [List.getD_eq_getElem?_getD,List.getElem?_eq_getElem (show k < l.length by omega),Option.getD_some]
  unfold cross
  omega
end Go.Proofs.YtnmmhcchpcbeeaaGreat.Ge
namespace Go.Proofs.YtnmmhcchpcbeeaaGreat.GeW
open Lib (hid)
open Go Go.RowKit Go.Proofs.YtnmmhcchpcbeeaaGreat.Mem Go.Proofs.YtnmmhcchpcbeeaaGreat.Ge
attribute [local go_sem ↓] Go.wp_at_zero Go.wp_at_succ
set_option maxRecDepth 100000 in
set_option maxHeartbeats 4000000 in
theorem area_any (l:List V) (A:Option Addr) (c:Nat) (w:World) (hr:Row w A (l.flatMap ptCells)) (hl:l.length≤200) (hn:near l=true) :
  Calls Tryz.prog 103 #[.slice A l.length c] w fun e w'=>e=.returned (.int .i64 (area l))∧Below w.heap.size w w':=by
 have HR:=hid hr
 have HN:=hid hn
 clear hr hn
 go_enter Tryz.func103,Tryz.ntmps103
 go_wp2
 go_loopw [3,4,5,8] (fun n _ _ i wr=>∃ k:Nat,i=.int .i64 (k:Int)∧k≤l.length∧n=.int .i64 (areaFrom l k)∧Below w.heap.size w wr) (fun _ _ _ i _=>l.length - (intOf i).toNat)
 case atStart=>exact ⟨0,rfl,Nat.zero_le _,rfl,Below.refl _ _⟩
 case round =>
  obtain ⟨k,rfl,hk,rfl,hb⟩:=hrel
  have hAB:=areaFrom_le HN.out k hk
  by_cases hlt:k < l.length
  ·have HAX:=hid (areaFrom_le HN.out (k+1) hlt)
   have HXN:=hid (cross_near HN.out hlt)
   obtain ⟨g,off,rfl,hg,hc⟩:=row_get pt_len (by decide) HR.out (by omega)
   have a0:=(hb.cell (p:=⟨g,off+k*2,none⟩) hg).trans (hc k hlt 0 (by decide))
   have a1:=(hb.cell (p:=⟨g,off+k*2+1,none⟩) hg).trans (hc k hlt 1 (by decide))
   have HS:Hid (areaFrom l (k+1)=areaFrom l k+(l[k].1*(nxt l k).2 - l[k].2*(nxt l k).1)):=hid (by rw [areaFrom,List.getD_eq_getElem?_getD,List.getElem?_eq_getElem hlt];rfl)
   have HNX:=hid (fun W (hW:Below w.heap.size w W)=>next_any l k (some ⟨g,off,none⟩) c W (HR.out.below hW) hlt (by omega))
   have HBE:=hid hb
   clear hc
   generalize l[k]=q at *
   obtain ⟨qx,qy⟩:=q
   simp only [ptCells,List.getElem?_cons_zero,List.getElem?_cons_succ] at a0 a1
   generalize nxt l k=p at *
   obtain ⟨px,py⟩:=p
   simp only at HXN HS
   have HCR:=hid (fun W=>cross_any qx qy px py W (by have:=HXN.out.1;omega) (by have:=HXN.out.2;omega))
   generalize areaFrom l k=s1 at *
   have HO:=hid (one_vec wr (.cells #[.int .i64 qx,.int .i64 qy] 53))
   go_upto_region 5 with fail
   clear a0 a1
   generalize wr.alloc (.cells #[.int .i64 qx,.int .i64 qy] 53)=W at *
   have HBW:=hid (HBE.out.trans (HO.out.1.mono (Below.size HBE.out)))
   have CS:Hid (∀ w',Below W.heap.size W w'→w'.cell? ⟨wr.heap.size,0,none⟩=some (.int .i64 qx)∧w'.cell? ⟨wr.heap.size,1,none⟩=some (.int .i64 qy)∧Below W.heap.size W w'):=hid (fun w' hb=>⟨(pair_at HO.out.2 hb).1,(pair_at HO.out.2 hb).2,hb⟩)
   obtain ⟨q0,q1,q2⟩:=CS.out W (Below.refl _ _)
   have hsum:=HS.out
   have hax:=HAX.out
   have hxn:=HXN.out
   have WW:IntKind.i64.wrap (s1+(qx*py - qy*px))=s1+(qx*py - qy*px):=by rw [IntKind.wrap_i64];omega
   clear hsum hax hxn
   go_region_held3 (fun w'=>w'.cell? ⟨wr.heap.size,0,none⟩=some (.int .i64 qx)∧w'.cell? ⟨wr.heap.size,1,none⟩=some (.int .i64 qy)∧Below W.heap.size W w')
    (first | assumption | exact CS.out _ (below_drew (by assumption)) | exact CS.out _ (by assumption))
    (first
     | (go_at_call 132;obtain ⟨_,_,hbx⟩ := ‹_∧_∧Below _ _ _›;refine (HNX.out _ (HBW.out.trans (hbx.mono (Below.size HBW.out)))).mono ?_;rintro e w4 ⟨rfl,hb40⟩;have hb4:Below W.heap.size W w4:=hbx.trans (hb40.mono (Below.size hbx)))
     | (go_at_call 149;refine (HCR.out _).mono ?_;rintro e w5 ⟨rfl,hb50⟩;have hb5:Below W.heap.size W w5:=hb4.trans (hb50.mono (Below.size hb4))))
   clear WW
   have HB5:=hid (HBW.out.trans (hb5.mono (Below.size HBW.out)))
   go_wp2
   go_roundw
   case rel=>exact ⟨k+1,by go_num,by omega,by rw [HS.out],HB5.out⟩
   case measure=>simp [intOf];omega
  ·have hk2:k=l.length:=by omega
   subst hk2
   go_wp2
   go_ret
   exact ⟨rfl,hb⟩
attribute [local go_sem ↓] Go.wp_at_zero Go.wp_at_succ

def idx {α:Type} (p:α→Bool):List α→Nat→Int
 | [],_ => -1
 | x::r,i=>if p x then (i:Int) else idx p r (i+1)
theorem idx_ge {α:Type} (p:α→Bool):∀ (l:List α) (i:Nat),decide ((0:Int)≤idx p l i)=l.any p
 | [],_=>rfl
 | x::r,i=>by
  unfold idx
  rw [List.any_cons]
  cases hp:p x
  ·simp only [Bool.false_eq_true,if_false,Bool.false_or];exact idx_ge p r (i+1)
  ·simp
theorem idx_no {α:Type} (p:α→Bool) (l:List α) (k:Nat) (h:k < l.length) (hp:p l[k]=false):idx p (l.drop k) k=idx p (l.drop (k+1)) (k+1):=by
 rw [List.drop_eq_getElem_cons h,idx,hp];rfl
theorem idx_yes {α:Type} (p:α→Bool) (l:List α) (k:Nat) (h:k < l.length) (hp:p l[k]=true):idx p (l.drop k) k=(k:Int):=by
 rw [List.drop_eq_getElem_cons h,idx,hp];rfl

set_option maxRecDepth 100000 in
theorem near1_any (v:V) (w:World):Calls Tryz.prog 154 #[.agg #[.int .i64 v.1,.int .i64 v.2]] w fun e w'=>e=.returned (.bool (!within v 2000))∧Below w.heap.size w w':=by
 obtain ⟨x,y⟩:=v
 have HO:=hid (one_vec w (.cells #[.int .i64 x,.int .i64 y] 53))
 have HW:=hid (fun W=>within_any x y 2000 W (by omega))
 obtain ⟨x0,x1⟩:=pair_at HO.out.2 (Below.refl _ _)
 generalize within (x,y) 2000=b at *
 go_enter Tryz.func154,Tryz.ntmps154
 go_wp2_with fail
 refine (HW.out _).mono ?_
 rintro e w2 ⟨rfl,hb2⟩
 go_wp2
 go_ret
 exact ⟨rfl,HO.out.1.trans (hb2.mono (Below.size HO.out.1))⟩
set_option maxRecDepth 100000 in
set_option maxHeartbeats 1000000 in
theorem indexPts_any (l:List V) (A:Option Addr) (c:Nat) (w:World) (hr:Row w A (l.flatMap ptCells)) (hl:l.length≤17592186043904) :
  Calls Tryz.prog 189 #[.slice A l.length c,.func (.func 154) #[] #[]] w fun e w'=>e=.returned (.int .i64 (idx (fun v => !within v 2000) l 0))∧Below w.heap.size w w':=by
 have HR:=hid hr
 clear hr
 have hst:=hid (show idx (fun v => !within v 2000) l 0=idx (fun v => !within v 2000) (l.drop 0) 0 by simp)
 go_enter Tryz.func189,Tryz.ntmps189
 go_wp2
 go_loopw [5,8] (fun _ t wr=>∃ k:Nat,k≤l.length∧t=.int .i64 k∧Hid (idx (fun v => !within v 2000) l 0=idx (fun v => !within v 2000) (l.drop k) k)∧Below w.heap.size w wr) (fun _ t _=>l.length - (intOf t).toNat)
 case atStart=>exact ⟨0,Nat.zero_le _,rfl,hst,Below.refl _ _⟩
 case round =>
  obtain ⟨k,hk,rfl,hd,hbel⟩:=hrel
  by_cases hlt:k < l.length
  ·obtain ⟨g,off,rfl,hg,ca⟩:=row_get pt_len (by decide) HR.out (by omega)
   have a0:=(hbel.cell (p:=⟨g,off+k*2,none⟩) hg).trans (ca k hlt 0 (by decide))
   have a1:=(hbel.cell (p:=⟨g,off+k*2+1,none⟩) hg).trans (ca k hlt 1 (by decide))
   have hno:=hid (idx_no (fun v => !within v 2000) l k hlt)
   have hyes:=hid (idx_yes (fun v => !within v 2000) l k hlt)
   have HM:=hid (fun W=>near1_any l[k] W)
   have hk1:(0:Int)≤(k:Int):=by omega
   have hk2:(k:Int) < (l.length:Int):=by omega
   clear ca
   generalize l[k]=m at *
   obtain ⟨mx,my⟩:=m
   simp only [ptCells,List.getElem?_cons_zero,List.getElem?_cons_succ] at a0 a1
   generalize (!within (mx,my) 2000)=b at *
   cases b
   ·go_wp2_with fail
    refine (HM.out _).mono ?_
    rintro e w2 ⟨rfl,hb2⟩
    have HB2:=hid (hbel.trans (hb2.mono hbel.size))
    clear hb2
    go_wp2
    go_roundw
    case rel=>exact ⟨k+1,hlt,by go_num,hid (hd.out.trans (hno.out trivial)),HB2.out⟩
    case measure=>simp [intOf];omega
   ·go_wp2_with fail
    refine (HM.out _).mono ?_
    rintro e w2 ⟨rfl,hb2⟩
    have HB2:=hid (hbel.trans (hb2.mono hbel.size))
    clear hb2
    go_wp2
    go_ret
    rw [hd.out,hyes.out trivial]
    exact ⟨rfl,HB2.out⟩
  ·obtain rfl:k=l.length:=by omega
   go_wp2
   go_ret
   rw [hd.out,List.drop_length]
   exact ⟨rfl,hbel⟩
theorem containsPts_any (l:List V) (A:Option Addr) (c:Nat) (w:World) (hr:Row w A (l.flatMap ptCells)) (hl:l.length≤17592186043904) :
  Calls Tryz.prog 142 #[.slice A l.length c,.func (.func 154) #[] #[]] w fun e w'=>e=.returned (.bool (!(near l)))∧Below w.heap.size w w':=by
 have hi:=hid (indexPts_any l A c w hr hl)
 have hq:=hid (idx_ge (fun v => !within v 2000) l 0)
 have hz:Hid ((l.any fun v => !within v 2000) = !(near l)):=hid (by unfold near;simp [List.all_eq_not_any_not])
 clear hr
 go_enter Tryz.func142,Tryz.ntmps142
 go_wp2_with fail
 refine hi.out.mono ?_
 rintro e w1 ⟨rfl,hb1⟩
 go_wp2
 go_ret
 rw [hq.out,hz.out]
 exact ⟨rfl,hb1⟩
theorem near_any (l:List V) (A:Option Addr) (c:Nat) (w:World) (hr:Row w A (l.flatMap ptCells)) (hl:l.length≤17592186043904) :
  Calls Tryz.prog 99 #[.slice A l.length c] w fun e w'=>e=.returned (.bool (near l))∧Below w.heap.size w w':=by
 have HC:=hid (containsPts_any l A c w hr hl)
 clear hr
 generalize near l=b at *
 go_enter Tryz.func99,Tryz.ntmps99
 go_wp2_with fail
 refine HC.out.mono ?_
 rintro e w1 ⟨rfl,hb1⟩
 go_wp2
 go_ret
 exact ⟨by simp,hb1⟩
end Go.Proofs.YtnmmhcchpcbeeaaGreat.GeW

namespace Go.Proofs.YtnmmhcchpcbeeaaGreat.Ge
open Lib (hid)
def segCells (s:S):List Go.Value:=[.int .i64 s.1.1,.int .i64 s.1.2,.int .i64 s.2.1,.int .i64 s.2.2]
theorem seg_len (s:S):(segCells s).length=4:=rfl
def edgesN (r:List V) (n:Nat):List S:=(List.range n).map fun i=>(r.getD i (0,0),nxt r i)
theorem edgesN_succ (r:List V) (n:Nat):edgesN r (n+1)=edgesN r n++[(r.getD n (0,0),nxt r n)]:=by
 unfold edgesN
 rw [List.range_succ,List.map_append]
 rfl
theorem edgesN_len (r:List V) (n:Nat):(edgesN r n).length=n:=by simp [edgesN]
end Go.Proofs.YtnmmhcchpcbeeaaGreat.Ge
namespace Go.Proofs.YtnmmhcchpcbeeaaGreat.GeW
open Lib (hid)
open Go Go.RowKit Go.Proofs.YtnmmhcchpcbeeaaGreat.Mem Go.Proofs.YtnmmhcchpcbeeaaGreat.Ge
attribute [local go_sem ↓] Go.wp_at_zero Go.wp_at_succ
theorem info_seg:(Tryz.prog.info? 74).map (fun i=>(i.zero,i.size,i.bytes))=some (some (.agg #[.int .i64 0,.int .i64 0,.int .i64 0,.int .i64 0]),4,32):=by kernel_rfl
theorem info_parts {o:Option TypeInfo} {z:Value} {s b:Nat} (h:o.map (fun i=>(i.zero,i.size,i.bytes))=some (some z,s,b)):∃ i,o=some i∧i.zero=some z∧i.size=s∧i.bytes=b:=by
 cases o with
 | none=>cases h
 | some i =>
  simp only [Option.map_some,Option.some.injEq,Prod.mk.injEq] at h
  exact ⟨i,rfl,h.1,h.2.1,h.2.2⟩
set_option maxRecDepth 100000 in
set_option maxHeartbeats 4000000 in
theorem edges_any (l:List V) (A:Option Addr) (c:Nat) (w:World) (hr:Row w A (l.flatMap ptCells)) (hl:l.length≤200) (h2:2≤l.length) :
  Calls Tryz.prog 89 #[.slice A l.length c] w fun e w'=>∃ v,e=.returned v∧w'.ownsRow w.heap.size 74 4 v l.length ((edgesN l l.length).flatMap segCells)∧Below w.heap.size w w':=by
 have HR:=hid hr
 obtain ⟨i0,ia,ib,ic,id⟩:=info_parts info_seg
 have d2:decide ((l.length:Int) < 2)=false:=decide_eq_false (by omega)
 clear hr
 go_enter Tryz.func89,Tryz.ntmps89
 go_wp2
 go_loopw [3,4,5,11] (fun t _ _ i wr=>∃ k:Nat,i=.int .i64 (k:Int)∧k≤l.length∧Hid (wr.ownsRow w.heap.size 74 4 t k ((edgesN l k).flatMap segCells))∧Hid (Below w.heap.size w wr)) (fun _ _ _ i _=>l.length - (intOf i).toNat)
 case atStart=>exact ⟨0,rfl,Nat.zero_le _,hid (World.ownsRow_nil _ _ _ _),hid (Below.refl _ _)⟩
 case round =>
  obtain ⟨k,rfl,hk,HO,HB⟩:=hrel
  obtain ⟨vA,vc,rfl,hvc⟩:=own_shape HO.out
  by_cases hlt:k < l.length
  ·obtain ⟨g,off,rfl,hg,hc⟩:=row_get pt_len (by decide) HR.out (by omega)
   have a0:=(HB.out.cell (p:=⟨g,off+k*2,none⟩) hg).trans (hc k hlt 0 (by decide))
   have a1:=(HB.out.cell (p:=⟨g,off+k*2+1,none⟩) hg).trans (hc k hlt 1 (by decide))
   have HS:Hid (edgesN l (k+1)=edgesN l k++[(l[k],nxt l k)]):=hid (by rw [edgesN_succ,List.getD_eq_getElem?_getD,List.getElem?_eq_getElem hlt];rfl)
   have HNX:=hid (fun W (hW:Below w.heap.size w W)=>next_any l k (some ⟨g,off,none⟩) c W (HR.out.below hW) hlt (by omega))
   clear hc
   generalize l[k]=q at *
   obtain ⟨qx,qy⟩:=q
   simp only [ptCells,List.getElem?_cons_zero,List.getElem?_cons_succ] at a0 a1
   generalize nxt l k=p at *
   obtain ⟨px,py⟩:=p
   have HOB:=hid (one_vec wr (.cells #[.int .i64 qx,.int .i64 qy] 53))
   have HOW:=hid (own_below HO.out HOB.out.1)
   have hz:=Below.size HB.out
   go_upto_region 7 with fail
   clear a0 a1
   generalize wr.alloc (.cells #[.int .i64 qx,.int .i64 qy] 53)=W at *
   have HBW:=hid (HB.out.trans (HOB.out.1.mono hz))
   have hzw:=Below.size HBW.out
   have hzx:=lt_of_block HOB.out.2
   have HOL:=hid HO.out.lt
   obtain ⟨q0,q1⟩:=pair_at HOB.out.2 (Below.refl _ _)
   go_region_law (first
    | (refine step_append_lies _ (by rfl) _ _ _ (by rfl) w.heap.size 74 i0 _ 4 32 Tryz.underlying71 ia ib ic id rfl (by omega) (.slice vA k vc) k ((edgesN l k).flatMap segCells) (by rfl) ((own_below HOW.out hb4).alloc _) ⟨w4.heap.size,0,none⟩ 1 1 [.int .i64 qx,.int .i64 qy,.int .i64 px,.int .i64 py] (by rfl) (by rfl) (World.news_of_block (cs:=#[.int .i64 qx,.int .i64 qy,.int .i64 px,.int .i64 py]) (t := 74) (fr:=(0,0)) (heap_alloc_new w4 _)) (by simp [Value.oneCell']) (by omega) (by unfold maxLen;omega) (by omega) (by simp;omega) (w4.heap.size+1) (by simp) ?_;intro gg cap w5 hown5 hgrow hat hlt5)
    | (go_simp;go_at_call 132;refine (HNX.out W.drew (below_drew HBW.out)).mono ?_;rintro e w4 ⟨rfl,hb40⟩;have hb4:Below W.heap.size W w4:=(below_drew (Below.refl _ _)).trans (hb40.mono (Nat.le_of_eq rfl));obtain ⟨c0,c1⟩:=pair_at HOB.out.2 hb4;have hz4:W.heap.size≤w4.heap.size:=Below.size hb4))
   all_goals
    have HN:=hid hown5
    have HB4:=hid (HBW.out.trans (hb4.mono hzw))
    have HB5:Hid (Below w.heap.size w w5):=hid ((HB4.out.alloc (by omega) (.cells #[.int .i64 qx,.int .i64 qy,.int .i64 px,.int .i64 py] 74)).grown hgrow (by simp;omega) (fun x hx=>(HOL.out x hx).1))
    clear hown5 hgrow hat hb4
    go_wp2
    go_roundw
    case rel=>exact ⟨k+1,by go_num,by omega,hid (by rw [HS.out,List.flatMap_append];exact HN.out),HB5⟩
    case measure=>simp [intOf];omega
  ·obtain rfl:k=l.length:=by omega
   go_wp2
   go_ret
   exact ⟨_,rfl,HO.out,HB.out⟩
end Go.Proofs.YtnmmhcchpcbeeaaGreat.GeW
