/- Walk: the ring that a list of points describes. Conditions: the points lie in memory. -/
import Derived.Test.YtnmmhcchpcbeeaaGreatGeDe
import Derived.Lib.AppendZerosOnto
import Derived.Lib.Builder

namespace Go.Proofs.YtnmmhcchpcbeeaaGreat.GeW
open Lib (hid)
open Go Go.RowKit Go.Proofs.YtnmmhcchpcbeeaaGreat.Mem Go.Proofs.YtnmmhcchpcbeeaaGreat.Ge

set_option maxRecDepth 100000 in
set_option maxHeartbeats 1000000 in
theorem grow_any (n:Nat) (hn:n≤1000000) (w:World) :
  Calls Tryz.prog 180 #[.slice none 0 0,.int .i64 n] w fun e w'=>(∃ v,e=.returned v∧w'.ownsRow w.heap.size 53 2 v 0 [])∧Below w.heap.size w w':=by
 by_cases h0:n=0
 ·subst h0
  go_enter Tryz.func180,Tryz.ntmps180
  go_wp2
  go_ret
  exact ⟨⟨_,rfl,World.ownsRow_nil _ _ _ _⟩,Below.refl _ _⟩
 ·obtain ⟨i0,ia,ib,ic,id⟩:=info_parts info_vec
  have hold:=run_firstCells_none (P:=Tryz.prog) w.drew i0.size 0 0 0
  have hrz:∀ ty,(Builtin.append_ #[26, 3] ty #[.slice none 0 0,.int .i64 (n:Int)]).run Tryz.prog w=_:=fun ty =>
   Lib.run_append_grow_zeros (P:=Tryz.prog) w 26 3 ty 53 i0 _ .i64 .i64 Tryz.underlying26 Tryz.underlying3 ia ib none 0 0 [] hold n (by omega) (by omega) (by omega) (by omega) (by rw [id];omega) (by rw [id];exact growslice_fits (by omega) (by omega))
  rw [Nat.zero_add] at hrz
  have hge:=grownCap_ge w n 0 53
  have hle:=grownCap_le_maxLen w n 0 53 (by unfold maxLen;omega)
  generalize grownCap w n 0 53 = G at *
  have hown:Hid ((w.drew.alloc (.cells (#[]++Builtin.zeroCells (Value.agg #[.int .i64 0,.int .i64 0]).cells n++Builtin.zeroCells (Value.agg #[.int .i64 0,.int .i64 0]).cells (G - n)) 53)).ownsRow w.heap.size 53 2 (.slice (some ⟨w.heap.size,0,none⟩) 0 G) 0 []):=hid (by
   refine ⟨rfl,.inr ⟨w.heap.size,G,_,rfl,Nat.le_refl _,heap_alloc_new w.drew _,Nat.zero_le _,hle,?_,by simp⟩⟩
   rw [Array.size_append,Array.size_append,size_zeroCells,size_zeroCells]
   simp [Value.cells]
   omega)
  have hbel:Hid (Below w.heap.size w (w.drew.alloc (.cells (#[]++Builtin.zeroCells (Value.agg #[.int .i64 0,.int .i64 0]).cells n++Builtin.zeroCells (Value.agg #[.int .i64 0,.int .i64 0]).cells (G - n)) 53))):=hid ((below_drew (Below.refl _ _)).alloc (Nat.le_refl _) _)
  unfold maxLen at hle
  have hlt:(0:Int) < (n:Int):=by omega
  clear hold
  generalize hW:w.drew.alloc (.cells (#[]++Builtin.zeroCells (Value.agg #[.int .i64 0,.int .i64 0]).cells n++Builtin.zeroCells (Value.agg #[.int .i64 0,.int .i64 0]).cells (G - n)) 53)=W at *
  have HW:=hid hW
  clear hW
  go_enter Tryz.func180,Tryz.ntmps180
  go_wp2_with (at_builtin;refine Lib.wpList_append_run _ rfl _ _ _ _ rfl _ _ rfl rfl _ _ (hrz _) ?_)
  go_ret
  exact ⟨⟨_,rfl,hown.out⟩,hbel.out⟩

def szAt (l r:List V) (k:Nat):Nat:=if k=0 then 0 else if k=1 then l.length else l.length+r.length
def rowsAt (l r:List V) (k:Nat):List V:=if k=0 then [] else if k=1 then l else l++r
set_option maxRecDepth 100000 in
set_option maxHeartbeats 1000000 in
theorem concat_any (l r:List V) (A B:Option Addr) (c d b:Nat) (w:World) (hb:w.heap[b]? = some (.cells #[.slice A l.length c,.slice B r.length d] 26 (0,0))) (hr:Row w A (l.flatMap ptCells)) (hs:Row w B (r.flatMap ptCells)) (hl:l.length≤10000) (hl2:r.length≤10000) :
  Calls Tryz.prog 138 #[.slice (some ⟨b,0,none⟩) 2 2] w fun e w'=>(∃ v,e=.returned v∧w'.ownsRow w.heap.size 53 2 v (l.length+r.length) ((l++r).flatMap ptCells))∧Below w.heap.size w w':=by
 have HR:=hid hr
 have HS:=hid hs
 have HB:=hid hb
 have HG:=hid (fun W=>grow_any (l.length+r.length) (by omega) W)
 have HL1:=hid (flatMap_len pt_len l)
 have HL2:=hid (flatMap_len pt_len r)
 have HO1:=hid (pt_one l)
 have HO2:=hid (pt_one r)
 have c0:w.cell? ⟨b,0,none⟩=some (.slice A l.length c):=by rw [Lib.cell_of_heap hb];rfl
 have c1:w.cell? ⟨b,1,none⟩=some (.slice B r.length d):=by rw [Lib.cell_of_heap hb];rfl
 have hbz:=lt_of_block hb
 obtain ⟨i0,ia,ib,ic,id⟩:=info_parts info_vec
 clear hb hr hs
 go_enter Tryz.func138,Tryz.ntmps138
 go_wp2
 go_loop [3,11] (fun s t=>∃ k:Nat,k≤2∧t=.int .i64 k∧s=.int .i64 (szAt l r k)) (fun _ t=>2 - (intOf t).toNat)
 case atStart=>exact ⟨0,by omega,rfl,rfl⟩
 case round =>
  obtain ⟨k,hk,rfl,rfl⟩:=hrel
  rcases (show k=0∨k=1∨k=2 by omega) with rfl | rfl | rfl
  ·have e0:szAt l r 0=0:=rfl
   rw [e0]
   clear e0
   go_wp2
   go_round
   case rel=>exact ⟨1,by omega,rfl,rfl⟩
   case measure=>simp [intOf]
  ·have e0:szAt l r 1=l.length:=rfl
   rw [e0]
   clear e0
   go_wp2
   go_round
   case rel=>exact ⟨2,by omega,rfl,rfl⟩
   case measure=>simp [intOf]
  ·have e0:szAt l r 2=l.length+r.length:=rfl
   rw [e0]
   clear e0
   go_wp2_with fail
   refine (HG.out _).mono ?_
   rintro e w1 ⟨⟨v1,rfl,hown1⟩,hb1⟩
   have HOWN1:=hid hown1
   clear hown1
   go_wp2
   go_loopw [6,27] (fun v t wr=>∃ k:Nat,k≤2∧t=.int .i64 k∧wr.ownsRow w.heap.size 53 2 v (szAt l r k) ((rowsAt l r k).flatMap ptCells)∧Below w.heap.size w wr) (fun _ t _=>2 - (intOf t).toNat)
   case atStart=>exact ⟨0,by omega,rfl,HOWN1.out,hb1⟩
   case round =>
    obtain ⟨k,hk,rfl,hown,hbel⟩:=hrel
    have d0:=(hbel.cell (p:=⟨b,0,none⟩) hbz).trans c0
    have d1:=(hbel.cell (p:=⟨b,1,none⟩) hbz).trans c1
    have hbz2:=Nat.lt_of_lt_of_le hbz hbel.size
    have HRr:=hid (HR.out.below hbel)
    have HSr:=hid (HS.out.below hbel)
    rcases (show k=0∨k=1∨k=2 by omega) with rfl | rfl | rfl
    ·have hown0:wr.ownsRow w.heap.size 53 2 u6 0 []:=hown
     clear hown
     have HO:=hid hown0
     clear hown0
     go_wp2_with (at_builtin;refine wpList_append_row _ rfl _ _ 26 rfl w.heap.size 53 i0 _ 2 16 Tryz.underlying26 ia ib ic id rfl (by omega) _ _ _ rfl HO.out A l.length c (l.flatMap ptCells) rfl HRr.out HL1.out HO1.out ?c3 ?c4 ?c5 ?_)
     case c3=>unfold maxLen;omega
     case c4=>omega
     case c5=>exact hbel.size
     ·intro v' w2 hown2 hg2
      have hb2:Below w.heap.size w w2:=below_append hbel hbel.size HO.out hg2 (Nat.le_refl _)
      have HO2:Hid (w2.ownsRow w.heap.size 53 2 v' (szAt l r 1) ((rowsAt l r 1).flatMap ptCells)):=hid (by simpa [szAt,rowsAt] using hown2)
      clear hown2 hg2
      go_wp2
      go_roundw
      case rel=>exact ⟨1,by omega,rfl,HO2.out,hb2⟩
      case measure=>simp [intOf]
    ·have hown0:wr.ownsRow w.heap.size 53 2 u6 l.length (l.flatMap ptCells):=hown
     clear hown
     have HO:=hid hown0
     clear hown0
     go_wp2_with (at_builtin;refine wpList_append_row _ rfl _ _ 26 rfl w.heap.size 53 i0 _ 2 16 Tryz.underlying26 ia ib ic id rfl (by omega) _ _ _ rfl HO.out B r.length d (r.flatMap ptCells) rfl HSr.out HL2.out HO2.out ?c3 ?c4 ?c5 ?_)
     case c3=>unfold maxLen;omega
     case c4=>omega
     case c5=>exact hbel.size
     ·intro v' w2 hown2 hg2
      have hb2:Below w.heap.size w w2:=below_append hbel hbel.size HO.out hg2 (Nat.le_refl _)
      have HO2:Hid (w2.ownsRow w.heap.size 53 2 v' (szAt l r 2) ((rowsAt l r 2).flatMap ptCells)):=hid (by simpa [szAt,rowsAt] using hown2)
      clear hown2 hg2
      go_wp2
      go_roundw
      case rel=>exact ⟨2,by omega,rfl,HO2.out,hb2⟩
      case measure=>simp [intOf]
    ·have HO:=hid hown
     clear hown
     go_wp2
     go_ret
     exact ⟨⟨_,rfl,HO.out⟩,hbel⟩
end Go.Proofs.YtnmmhcchpcbeeaaGreat.GeW

namespace Go.Proofs.YtnmmhcchpcbeeaaGreat.Ge
open Lib (hid)
open Go
theorem minUp_mem {l:List V} : ∀ k,0 < k→k≤l.length→∃ i,i < k∧GeW.minUp l k=l.getD i (0,0)
 | 0,h,_=>absurd h (Nat.lt_irrefl _)
 | k+1,_,h=>by
  unfold GeW.minUp
  by_cases h0:k=0
  ·subst h0;exact ⟨0,by omega,by simp⟩
  ·rw [if_neg h0]
   split
   ·exact ⟨k,by omega,rfl⟩
   ·obtain ⟨i,hi,he⟩:=minUp_mem (l:=l) k (by omega) (by omega)
    exact ⟨i,by omega,he⟩
theorem idx_found {α:Type} (p:α→Bool):∀ (l:List α) (i:Nat),(∃ x∈l,p x=true)→∃ k,GeW.idx p l i=((i+k:Nat):Int)∧k < l.length
 | [],i,h=>by obtain ⟨x,hx,_⟩:=h;cases hx
 | x::r,i,h=>by
  unfold GeW.idx
  cases hp:p x
  ·obtain ⟨y,hy,hy2⟩:=h
   rcases List.mem_cons.1 hy with rfl | hy
   ·rw [hp] at hy2;cases hy2
   ·obtain ⟨k,hk,hk2⟩:=idx_found p r (i+1) ⟨y,hy,hy2⟩
    exact ⟨k+1,by simp only [Bool.false_eq_true,if_false];rw [hk];congr 1;omega,by simpa using hk2⟩
  ·exact ⟨0,by simp,by simp⟩
/-- Where the least point stands. -/
def leastAt (l:List V):Nat:=(GeW.idx (fun v=>decide (GeW.minV l=v)) l 0).toNat
theorem leastAt_eq {l:List V} (h:0 < l.length):GeW.idx (fun v=>decide (GeW.minV l=v)) l 0=(leastAt l:Int)∧leastAt l < l.length:=by
 obtain ⟨i,hi,he⟩:=minUp_mem l.length h (Nat.le_refl _)
 obtain ⟨k,hk,hk2⟩:=idx_found (fun v=>decide (GeW.minV l=v)) l 0 ⟨l[i],List.getElem_mem hi,by
  have:GeW.minV l=l[i]:=by
   unfold GeW.minV
   rw [he,List.getD_eq_getElem?_getD,List.getElem?_eq_getElem hi];rfl
  rw [this];simp⟩
 rw [Nat.zero_add] at hk
 unfold leastAt
 rw [hk]
 exact ⟨by simp,by simpa using hk2⟩
def canonL (l:List V):List V:=l.drop (leastAt l)++l.take (leastAt l)
def canonR (l:List V):List V:=if ringB l then canonL l else []
end Go.Proofs.YtnmmhcchpcbeeaaGreat.Ge
namespace Go.Proofs.YtnmmhcchpcbeeaaGreat.GeW
open Lib (hid)
open Go Go.RowKit Go.Proofs.YtnmmhcchpcbeeaaGreat.Mem Go.Proofs.YtnmmhcchpcbeeaaGreat.Ge
attribute [local go_sem ↓] Go.wp_at_zero Go.wp_at_succ
set_option maxRecDepth 100000 in
set_option maxHeartbeats 2000000 in
theorem canon_any (l:List V) (A:Option Addr) (c:Nat) (w:World) (hr:Row w A (l.flatMap ptCells)) (hl:l.length≤10000) (hlc:l.length≤c) :
  Calls Tryz.prog 76 #[.slice A l.length c] w fun e w'=>(∃ v,e=.returned v∧w'.ownsRow w.heap.size 53 2 v (canonR l).length ((canonR l).flatMap ptCells))∧Below w.heap.size w w':=by
 have HR:=hid hr
 have HV:=hid (ring_any l A c w hr (by omega))
 cases hv:ringB l
 ·have hq:canonR l=[]:=by unfold canonR;rw [hv];rfl
  rw [hq]
  rw [hv] at HV
  clear hq hr hv
  go_enter Tryz.func76,Tryz.ntmps76
  go_wp2_with fail
  refine HV.out.mono ?_
  rintro e w1 ⟨rfl,hb1⟩
  go_wp2
  go_ret
  exact ⟨⟨_,rfl,World.ownsRow_nil _ _ _ _⟩,hb1⟩
 ·have HQ:Hid (canonR l=l.drop (leastAt l)++l.take (leastAt l)):=hid (by unfold canonR;rw [hv];rfl)
  rw [hv] at HV
  have h3:0 < l.length:=by
   unfold ringB at hv
   simp only [Bool.and_eq_true,decide_eq_true_eq] at hv
   omega
  have HI:=leastAt_eq h3
  have HMN:=hid (fun W (hW:Below w.heap.size w W)=>min_any l A c W (HR.out.below hW) h3 (by omega))
  have HIX:=hid (fun W (hW:Below w.heap.size w W)=>indexV_any l (minV l).1 (minV l).2 A c W (HR.out.below hW) (by omega))
  have hkk:=HI.2
  have HIE:=hid HI.1
  obtain ⟨g,off,rfl,hg,hcell⟩:=row_get pt_len (by decide) hr h3
  clear hr hv hcell HI
  have HIX2:Hid (∀ W,Below w.heap.size w W→Calls Tryz.prog 137 #[.slice (some ⟨g,off,none⟩) l.length c,.agg #[.int .i64 (minV l).1,.int .i64 (minV l).2]] W fun e w'=>e=.returned (.int .i64 (leastAt l:Int))∧Below W.heap.size W w'):=by
   have h:=HIX.out
   rw [show idx (fun v=>decide (((minV l).1,(minV l).2)=v)) l 0=(leastAt l:Int) from HIE.out] at h
   exact h
  clear HIX HIE
  have HDT:Hid (∀ W,Below w.heap.size w W→Row W (some ⟨g,off+leastAt l*2,none⟩) ((l.drop (leastAt l)).flatMap ptCells)∧Row W (some ⟨g,off,none⟩) ((l.take (leastAt l)).flatMap ptCells)):=hid (fun W hW=>by
   obtain ⟨g',off',e,hg',hc'⟩:=(HR.out.below hW) (by intro h0;have:=flatMap_len pt_len l;rw [h0] at this;simp at this;omega)
   cases e
   rw [← fm_drop pt_len,← fm_take pt_len]
   have hfl:=flatMap_len pt_len l
   constructor
   ·refine fun _=>⟨g,_,rfl,hg',fun j hj=>?_⟩
    rw [List.length_drop] at hj
    rw [List.getElem?_drop,Nat.add_assoc]
    exact hc' _ (by omega)
   ·refine fun _=>⟨g,_,rfl,hg',fun j hj=>?_⟩
    rw [List.length_take] at hj
    rw [List.getElem?_take_of_lt (by omega)]
    exact hc' _ (by omega))
  have hld:(l.drop (leastAt l)).length=l.length - leastAt l:=List.length_drop
  have hlt:(l.take (leastAt l)).length=leastAt l:=by rw [List.length_take];omega
  have HCC:=hid (fun W b (hW:Below w.heap.size w W) hb=>concat_any (l.drop (leastAt l)) (l.take (leastAt l)) (some ⟨g,off+leastAt l*2,none⟩) (some ⟨g,off,none⟩) (c - leastAt l) c b W hb (HDT.out W hW).1 (HDT.out W hW).2 (by rw [hld];omega) (by rw [hlt];omega))
  rw [hld,hlt] at HCC
  have HLN:Hid ((canonR l).length=l.length - leastAt l+leastAt l):=hid (by rw [HQ.out,List.length_append,hld,hlt])
  have HFM:Hid ((canonR l).flatMap ptCells=(l.drop (leastAt l)).flatMap ptCells++(l.take (leastAt l)).flatMap ptCells):=hid (by rw [HQ.out,List.flatMap_append])
  clear hld hlt HQ
  generalize leastAt l=k at *
  have mx:∃ mx my,minV l=(mx,my):=⟨_,_,rfl⟩
  obtain ⟨mx,my,hm⟩:=mx
  rw [hm] at HMN HIX2
  clear hm
  simp only at HMN HIX2
  go_enter Tryz.func76,Tryz.ntmps76
  go_wp2_with fail
  refine HV.out.mono ?_
  rintro e w1 ⟨rfl,hb1⟩
  go_wp2_with fail
  refine (HMN.out _ hb1).mono ?_
  rintro e w2 ⟨rfl,hb20⟩
  have HB2:=hid (hb1.trans (hb20.mono hb1.size))
  have HO:=hid (one_vec w2 (.cells #[.int .i64 mx,.int .i64 my] 53))
  have HB3:=hid (HB2.out.trans (HO.out.1.mono HB2.out.size))
  clear hb1 hb20
  go_upto_region 4 with fail
  generalize w2.alloc (.cells #[.int .i64 mx,.int .i64 my] 53)=W at *
  obtain ⟨m0,m1⟩:=pair_at HO.out.2 (Below.refl _ _)
  go_wp2_with fail
  refine (HIX2.out _ HB3.out).mono ?_
  rintro e w4 ⟨rfl,hb40⟩
  have HB4:=hid (HB3.out.trans (hb40.mono HB3.out.size))
  clear hb40 m0 m1
  go_upto_region 5 with fail
  have q1:k≤l.length:=by omega
  have q2:(k:Int)≤(l.length:Int):=by omega
  have q3 : ¬ c=k:=by omega
  have q4:k≤c:=by omega
  have HOB:=hid (one_vec w4 (.cells #[.slice (some ⟨g,off+k*2,none⟩) (l.length - k) (c - k),.slice (some ⟨g,off,none⟩) k c] 26))
  have HOW:=hid (HB4.out.trans (HOB.out.1.mono HB4.out.size))
  go_region_law (go_simp;go_at_call 138;refine (HCC.out _ _ (below_drew HOW.out) HOB.out.2).mono ?_;rintro e w5 ⟨⟨v,rfl,hown⟩,hb5⟩)
  all_goals
   have HO5:=hid (own_more hown HOW.out.size)
   have HB5:=hid ((below_drew HOW.out).trans (hb5.mono HOW.out.size))
   clear hown hb5
   go_wp2
   go_ret
   rw [HLN.out,HFM.out,← List.flatMap_append]
   exact ⟨⟨_,rfl,HO5.out⟩,HB5.out⟩
end Go.Proofs.YtnmmhcchpcbeeaaGreat.GeW

namespace Go.Proofs.YtnmmhcchpcbeeaaGreat.Ge
open Lib (hid)
open Go
def delAt (l:List V) (i:Nat):List V:=l.take i++l.drop (i+1)
theorem delAt_len {l:List V} {i:Nat} (h:i < l.length):(delAt l i).length=l.length - 1:=by
 unfold delAt
 rw [List.length_append,List.length_take,List.length_drop];omega
def need (l:List V):Int:=needFrom l l.length 0
theorem needFrom_range (l:List V):∀ n i,needFrom l n i = -1∨∃ k:Nat,needFrom l n i=((i+k:Nat):Int)∧k < n
 | 0,i=>.inl rfl
 | n+1,i=>by
  unfold needFrom
  split
  ·exact .inr ⟨0,by simp,by omega⟩
  ·rcases needFrom_range l n (i+1) with h | ⟨k,h,hk⟩
   ·exact .inl h
   ·exact .inr ⟨k+1,by rw [h];congr 1;omega,by omega⟩
theorem need_range (l:List V):need l = -1∨∃ k:Nat,need l=(k:Int)∧k < l.length:=by
 rcases needFrom_range l l.length 0 with h | ⟨k,h,hk⟩
 ·exact .inl h
 ·exact .inr ⟨k,by unfold need;rw [h,Nat.zero_add],hk⟩
/-- The points that are needed. -/
def stripGo:Nat→List V→List V
 | 0,l=>l
 | f+1,l=>if need l < 0 then l else stripGo f (delAt l (need l).toNat)
def strip (l:List V):List V:=stripGo l.length l
theorem strip_none {l:List V} (h:need l = -1):strip l=l:=by
 unfold strip
 cases l.length with
 | zero=>rfl
 | succ n=>unfold stripGo;rw [if_pos (by omega)]
theorem strip_some {l:List V} {k:Nat} (h:need l=(k:Int)) (hk:k < l.length):strip l=strip (delAt l k):=by
 unfold strip
 rw [delAt_len hk]
 obtain ⟨n,hn⟩:∃ n,l.length=n+1:=⟨l.length - 1,by omega⟩
 rw [hn,Nat.add_sub_cancel]
 conv=>lhs;unfold stripGo
 rw [if_neg (by omega),h,Int.toNat_natCast]
theorem near_del {l:List V} {k:Nat} (h:near l=true):near (delAt l k)=true:=by
 unfold near delAt at *
 rw [List.all_eq_true] at *
 intro x hx
 rcases List.mem_append.1 hx with hx | hx
 ·exact h x (List.mem_of_mem_take hx)
 ·exact h x (List.mem_of_mem_drop hx)
def upright (l:List V):List V:=if area l < 0 then l.reverse else l
def cleanE (l:List V):Int:=if 200 < l.length then 9 else if near l=false then 2 else if ringB (upright (strip l)) then 0 else 11
def cleanR (l:List V):List V:=if 200 < l.length then [] else if near l=false then [] else canonR (upright (strip l))
end Go.Proofs.YtnmmhcchpcbeeaaGreat.Ge
namespace Go.Proofs.YtnmmhcchpcbeeaaGreat.GeW
open Lib (hid)
open Go Go.RowKit Go.Proofs.YtnmmhcchpcbeeaaGreat.Mem Go.Proofs.YtnmmhcchpcbeeaaGreat.Ge
attribute [local go_sem ↓] Go.wp_at_zero Go.wp_at_succ
def lenV:Value→Nat
 | .slice _ n _=>n
 | _=>0
theorem own_some {w:World} {base:Nat} {e:TypeId} {size n:Nat} {v:Value} {xs:List Value} (h:w.ownsRow base e size v n xs) (h0:0 < n):∃ g c,v=.slice (some ⟨g,0,none⟩) n c∧n≤c:=by
 rcases h.2 with ⟨_,h2⟩ | ⟨g,cap,cur,hv,_,_,hn,_⟩
 ·omega
 ·exact ⟨g,cap,hv,hn⟩
set_option maxRecDepth 100000 in
set_option maxHeartbeats 4000000 in
theorem clean_any (l:List V) (A:Option Addr) (c:Nat) (w:World) (hr:Row w A (l.flatMap ptCells)) (hl:l.length≤17592186043904) :
  Calls Tryz.prog 44 #[.slice A l.length c] w fun e w'=>(∃ v,e=.returned (.tuple #[v,.int .i64 (cleanE l)])∧w'.ownsRow w.heap.size 53 2 v (cleanR l).length ((cleanR l).flatMap ptCells))∧Below w.heap.size w w':=by
 have HR:=hid hr
 clear hr
 by_cases h200:200 < l.length
 ·have HE:Hid (cleanE l=9∧cleanR l=[]):=hid ⟨by unfold cleanE;rw [if_pos h200],by unfold cleanR;rw [if_pos h200]⟩
  have d1:decide (200 < (l.length:Int))=true:=decide_eq_true (by omega)
  rw [HE.out.1,HE.out.2]
  clear HE h200
  go_enter Tryz.func44,Tryz.ntmps44
  go_wp2
  refine bodyPost_ret (v:=.tuple #[.slice none 0 0,.int .i64 9]) (by simp [results,Tryz.results44,go_sem]) rfl ⟨⟨_,rfl,World.ownsRow_nil _ _ _ _⟩,Below.refl _ _⟩
 have d1:decide (200 < (l.length:Int))=false:=decide_eq_false (by omega)
 have HNR:=hid (near_any l A c w HR.out (by omega))
 cases hn:near l
 ·have HE:Hid (cleanE l=2∧cleanR l=[]):=hid ⟨by unfold cleanE;rw [if_neg h200,if_pos hn],by unfold cleanR;rw [if_neg h200,if_pos hn]⟩
  rw [HE.out.1,HE.out.2]
  rw [hn] at HNR
  clear HE h200
  go_enter Tryz.func44,Tryz.ntmps44
  go_wp2_with fail
  refine HNR.out.mono ?_
  rintro e w1 ⟨rfl,hb1⟩
  go_wp2
  refine bodyPost_ret (v:=.tuple #[.slice none 0 0,.int .i64 2]) (by simp [results,Tryz.results44,go_sem]) rfl ⟨⟨_,rfl,World.ownsRow_nil _ _ _ _⟩,hb1⟩
 have HE:Hid (cleanE l=(if ringB (upright (strip l)) then 0 else 11)∧cleanR l=canonR (upright (strip l))):=hid ⟨by unfold cleanE;rw [if_neg h200,if_neg (by simp [hn])],by unfold cleanR;rw [if_neg h200,if_neg (by simp [hn])]⟩
 rw [hn] at HNR
 have HN:=hid hn
 have HCL:=hid (fun W (hW:Below w.heap.size w W)=>clone_any l A c W (HR.out.below hW) (by omega))
 have h200':l.length≤200:=by omega
 clear h200 hn
 go_enter Tryz.func44,Tryz.ntmps44
 go_wp2_with fail
 refine HNR.out.mono ?_
 rintro e w1 ⟨rfl,hb1⟩
 go_wp2_with fail
 refine (HCL.out _ hb1).mono ?_
 rintro e w2 ⟨⟨v,rfl,hown2⟩,hb20⟩
 have HB2:=hid (hb1.trans (hb20.mono hb1.size))
 have HO2:=hid (own_more hown2 hb1.size)
 obtain ⟨vA,vc,rfl,hvc⟩:=own_shape HO2.out
 have HND:=hid (needless_any l vA vc w2 (Row.of_own HO2.out) h200' HN.out)
 clear hown2 hb20 hb1 HNR HCL
 go_wp2_with fail
 refine HND.out.mono ?_
 rintro e w3 ⟨rfl,hb30⟩
 have HB3:=hid (HB2.out.trans (hb30.mono HB2.out.size))
 have HO3:=hid (own_below HO2.out hb30)
 clear hb30 HND HO2 HB2
 go_wp2
 go_loopw [4,5] (fun v i wr=>∃ r:List V,i=.int .i64 (need r)∧r.length≤200∧Hid (near r=true)∧Hid (strip l=strip r)∧Hid (wr.ownsRow w.heap.size 53 2 v r.length (r.flatMap ptCells))∧Hid (Below w.heap.size w wr)) (fun v _ _=>lenV v)
 case atStart=>exact ⟨l,rfl,h200',HN,hid rfl,HO3,HB3⟩
 case round =>
  clear HN h200' hvc
  obtain ⟨r,rfl,hr200,HN,HS,HO,HB⟩:=hrel
  rcases need_range r with hneed | ⟨k,hneed,hk⟩
  ·have HSN:Hid (strip l=r):=hid (HS.out.trans (strip_none hneed))
   rw [hneed]
   have HX:Hid (cleanE l=(if ringB (upright r) then 0 else 11)∧cleanR l=canonR (upright r)):=hid (by have:=HE.out;rw [HSN.out] at this;exact this)
   obtain ⟨rA,rc,rfl,hrc⟩:=own_shape HO.out
   have HAR:=hid (area_any r rA rc wr (Row.of_own HO.out) hr200 HN.out)
   clear hneed HE HS HSN
   go_wp2_with fail
   refine HAR.out.mono ?_
   rintro e w4 ⟨rfl,hb40⟩
   have HB4:=hid (HB.out.trans (hb40.mono HB.out.size))
   have HO4:=hid (own_below HO.out (hb40.mono (Nat.le_refl _)))
   clear hb40 HAR HO HB
   by_cases ha:area r < 0
   ·have t1:decide (area r < 0)=true:=decide_eq_true ha
    have HU:Hid (upright r=r.reverse):=hid (by unfold upright;rw [if_pos ha])
    clear ha
    generalize area r=ar at *
    have HRV:=hid (revR_any r w.heap.size r.length (.slice rA r.length rc) w4 rfl HO4.out)
    go_wp2_with fail
    refine HRV.out.mono ?_
    rintro e w5 ⟨rfl,hown5,hb50⟩
    have HB5:=hid (HB4.out.trans hb50)
    have HO5:=hid hown5
    clear hown5 hb50 HRV HO4 HB4
    have HV:=hid (ring_any r.reverse rA rc w5 (Row.of_own HO5.out) (by simp;omega))
    have HCN:=hid (fun W (hW:Below w5.heap.size w5 W)=>canon_any r.reverse rA rc W ((Row.of_own HO5.out).below hW) (by simp;omega) (by simp;omega))
    have hlen:(r.reverse).length=r.length:=by simp
    rw [hlen] at HV HCN
    clear hlen HO5
    cases hv:ringB r.reverse
    ·have HE2:Hid (cleanE l=11∧cleanR l=[]):=hid (by
      have h:=HX.out
      rw [HU.out,hv] at h
      refine ⟨h.1,h.2.trans ?_⟩
      unfold canonR
      rw [hv]
      rfl)
     rw [hv] at HV
     clear HX HU hv
     go_wp2_with fail
     refine HV.out.mono ?_
     rintro e w6 ⟨rfl,hb6⟩
     have HB6:=hid (HB5.out.trans (hb6.mono HB5.out.size))
     go_wp2
     refine bodyPost_ret (v:=.tuple #[.slice none 0 0,.int .i64 11]) (by simp [results,Tryz.results44,go_sem]) rfl (by rw [HE2.out.1,HE2.out.2];exact ⟨⟨_,rfl,World.ownsRow_nil _ _ _ _⟩,HB6.out⟩)
    ·have HE2:Hid (cleanE l=0∧cleanR l=canonR (r.reverse)):=hid (by
      have h:=HX.out
      rw [HU.out,hv] at h
      exact h)
     rw [hv] at HV
     clear HX HU hv
     go_wp2_with fail
     refine HV.out.mono ?_
     rintro e w6 ⟨rfl,hb6⟩
     have HB6:=hid (HB5.out.trans (hb6.mono HB5.out.size))
     go_wp2_with fail
     refine (HCN.out _ hb6).mono ?_
     rintro e w7 ⟨⟨v7,rfl,hown7⟩,hb70⟩
     have HO7:=hid (own_more hown7 HB6.out.size)
     have HB7:=hid (HB6.out.trans (hb70.mono HB6.out.size))
     clear hown7 hb70 hb6
     go_wp2
     refine bodyPost_ret (v:=.tuple #[v7,.int .i64 0]) (by simp [results,Tryz.results44,go_sem]) rfl (by rw [HE2.out.1,HE2.out.2];exact ⟨⟨_,rfl,HO7.out⟩,HB7.out⟩)
   ·have t1:decide (area r < 0)=false:=decide_eq_false ha
    have HU:Hid (upright r=r):=hid (by unfold upright;rw [if_neg ha])
    clear ha
    generalize area r=ar at *
    have HV:=hid (ring_any r rA rc w4 (Row.of_own HO4.out) (by omega))
    have HCN:=hid (fun W (hW:Below w4.heap.size w4 W)=>canon_any r rA rc W ((Row.of_own HO4.out).below hW) (by omega) (by omega))
    clear HO4
    cases hv:ringB r
    ·have HE2:Hid (cleanE l=11∧cleanR l=[]):=hid (by
      have h:=HX.out
      rw [HU.out,hv] at h
      refine ⟨h.1,h.2.trans ?_⟩
      unfold canonR
      rw [hv]
      rfl)
     rw [hv] at HV
     clear HX HU hv
     go_wp2_with fail
     refine HV.out.mono ?_
     rintro e w6 ⟨rfl,hb6⟩
     have HB6:=hid (HB4.out.trans (hb6.mono HB4.out.size))
     go_wp2
     refine bodyPost_ret (v:=.tuple #[.slice none 0 0,.int .i64 11]) (by simp [results,Tryz.results44,go_sem]) rfl (by rw [HE2.out.1,HE2.out.2];exact ⟨⟨_,rfl,World.ownsRow_nil _ _ _ _⟩,HB6.out⟩)
    ·have HE2:Hid (cleanE l=0∧cleanR l=canonR (r)):=hid (by
      have h:=HX.out
      rw [HU.out,hv] at h
      exact h)
     rw [hv] at HV
     clear HX HU hv
     go_wp2_with fail
     refine HV.out.mono ?_
     rintro e w6 ⟨rfl,hb6⟩
     have HB6:=hid (HB4.out.trans (hb6.mono HB4.out.size))
     go_wp2_with fail
     refine (HCN.out _ hb6).mono ?_
     rintro e w7 ⟨⟨v7,rfl,hown7⟩,hb70⟩
     have HO7:=hid (own_more hown7 HB6.out.size)
     have HB7:=hid (HB6.out.trans (hb70.mono HB6.out.size))
     clear hown7 hb70 hb6
     go_wp2
     refine bodyPost_ret (v:=.tuple #[v7,.int .i64 0]) (by simp [results,Tryz.results44,go_sem]) rfl (by rw [HE2.out.1,HE2.out.2];exact ⟨⟨_,rfl,HO7.out⟩,HB7.out⟩)
  ·have HSN:Hid (strip l=strip (delAt r k)):=hid (HS.out.trans (strip_some hneed hk))
   have hlen:=delAt_len hk
   have HND':=hid (near_del (k:=k) HN.out)
   obtain ⟨g,rc,rfl,hrc⟩:=own_some HO.out (by omega)
   rw [hneed]
   have HDL:=hid (delete_any r k w.heap.size g r.length rc wr rfl hk (by omega) HO.out)
   have hk0:(0:Int)≤(k:Int):=by omega
   have hk1 : ¬ (k:Int) < 0:=by omega
   clear hneed HS HN HO
   go_wp2_with fail
   refine HDL.out.mono ?_
   rintro e w4 ⟨rfl,hown4,hb40⟩
   have HB4:=hid (HB.out.trans hb40)
   have HO4:Hid (w4.ownsRow w.heap.size 53 2 (.slice (some ⟨g,0,none⟩) (r.length - 1) rc) (delAt r k).length ((delAt r k).flatMap ptCells)):=hid (by rw [hlen];exact hown4)
   have HNL:=hid (needless_any (delAt r k) (some ⟨g,0,none⟩) rc w4 (Row.of_own hown4) (by omega) HND'.out)
   rw [hlen] at HNL
   clear hown4 hb40 HDL HB
   go_wp2_with fail
   refine HNL.out.mono ?_
   rintro e w5 ⟨rfl,hb50⟩
   have HB5:=hid (HB4.out.trans (hb50.mono HB4.out.size))
   have HO5:=hid (own_below HO4.out hb50)
   clear hb50 HNL HO4 HB4
   go_wp2
   go_roundw
   case rel=>exact ⟨delAt r k,by unfold need;rw [hlen],by omega,HND',HSN,HO5,HB5⟩
   case measure=>simp [lenV];omega
end Go.Proofs.YtnmmhcchpcbeeaaGreat.GeW
