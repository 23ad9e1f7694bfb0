/- Walk: of the reference: the ring that begins with its least vertex. Conditions: the points lie in memory; there is one. -/
import Derived.Test.YtnmmhcchpcbeeaaGreatOgS
import Derived.Laws.StructEq
import Derived.Deep.CutRange
import Derived.Test.YtnmmhcchpcbeeaaGreatEqV
import Derived.Test.YtnmmhcchpcbeeaaGreatRf8
import Derived.Test.YtnmmhcchpcbeeaaGreatPlC
import Derived.Test.YtnmmhcchpcbeeaaGreatGeDe
import Derived.Test.YtnmmhcchpcbeeaaGreatApR

namespace Go.Proofs.YtnmmhcchpcbeeaaGreat.GeW
open Lib (hid)
open Go Go.RowKit Go.Proofs.YtnmmhcchpcbeeaaGreat.Mem Go.Proofs.YtnmmhcchpcbeeaaGreat.Ge
attribute [local go_sem ↓] Go.wp_at_zero Go.wp_at_succ

theorem take_mor {l m:List V} {k:Nat} (h:l.take k=m.take k) (h1:k < l.length) (h2:k < m.length) (he:l[k]=m[k]):l.take (k+1)=m.take (k+1):=by
 rw [List.take_succ_eq_append_getElem h1,List.take_succ_eq_append_getElem h2,h,he]
set_option maxRecDepth 100000 in
set_option maxHeartbeats 1000000 in
theorem equalR_any (l m:List V) (A B:Option Addr) (c d:Nat) (w:World) (hr:Row w A (l.flatMap ptCells)) (hs:Row w B (m.flatMap ptCells)) (hl:l.length≤17592186043904) (hm:m.length≤17592186043904) :
  Calls Tryz.prog 135 #[.slice A l.length c,.slice B m.length d] w fun e w'=>e=.returned (.bool (decide (l=m)))∧Below w.heap.size w w':=by
 have HR:=hid hr
 have HS:=hid hs
 clear hr hs
 by_cases hlen:l.length=m.length
 ·have HT0:=hid (show l.take 0=m.take 0 by simp)
  have HLM:=hid hlen
  go_enter Tryz.func135,Tryz.ntmps135
  rw [← hlen]
  clear hlen
  go_wp2
  go_loopw [5,13] (fun _ i wr=>∃ k:Nat,k≤l.length∧i=.int .i64 k∧Hid (l.take k=m.take k)∧Hid (Below w.heap.size w wr)) (fun _ i _=>l.length - (intOf i).toNat)
  case atStart=>exact ⟨0,Nat.zero_le _,rfl,HT0,hid (Below.refl _ _)⟩
  case round =>
   obtain ⟨k,hk,rfl,HT,HB⟩:=hrel
   by_cases hlt:k < l.length
   ·have hlt2:k < m.length:=by have:=HLM.out;omega
    obtain ⟨g,off,rfl,hg,ca⟩:=row_get pt_len (by decide) HR.out (by omega)
    obtain ⟨g2,off2,rfl,hg2,cb⟩:=row_get pt_len (by decide) HS.out (by omega)
    have a0:=(HB.out.cell (p:=⟨g,off+k*2,none⟩) hg).trans (ca k hlt 0 (by decide))
    have a1:=(HB.out.cell (p:=⟨g,off+k*2+1,none⟩) hg).trans (ca k hlt 1 (by decide))
    have b0:=(HB.out.cell (p:=⟨g2,off2+k*2,none⟩) hg2).trans (cb k hlt2 0 (by decide))
    have b1:=(HB.out.cell (p:=⟨g2,off2+k*2+1,none⟩) hg2).trans (cb k hlt2 1 (by decide))
    have hk1:(0:Int)≤(k:Int):=by omega
    have HMO:=hid (fun h=>take_mor HT.out hlt hlt2 h)
    have HNO:Hid (l[k]≠m[k]→l≠m):=hid (fun h e=>h (by subst e;rfl))
    clear ca cb
    generalize l[k]=p at *
    generalize m[k]=q at *
    clear hlt2
    obtain ⟨px,py⟩:=p
    obtain ⟨qx,qy⟩:=q
    simp only [ptCells,List.getElem?_cons_zero,List.getElem?_cons_succ] at a0 a1 b0 b1
    by_cases he:(px,py)=(qx,qy)
    ·have HE1:∀ W,(binOp .neq 53 (.agg #[.int .i64 px,.int .i64 py]) (.agg #[.int .i64 qx,.int .i64 qy])).run Tryz.prog W=.ok (.bool false) W:=fun W=>by rw [neq_vec,decide_eq_true he];rfl
     have HT2:=hid (HMO.out he)
     clear he HMO HNO
     go_wp2
     go_region
     go_wp2
     go_roundw
     case rel=>exact ⟨k+1,hlt,by go_num,HT2,hid ((below_drewN HB.out 1))⟩
     case measure=>simp [intOf];omega
    ·have HE1:∀ W,(binOp .neq 53 (.agg #[.int .i64 px,.int .i64 py]) (.agg #[.int .i64 qx,.int .i64 qy])).run Tryz.prog W=.ok (.bool true) W:=fun W=>by rw [neq_vec,decide_eq_false he];rfl
     have HF:Hid (decide (l=m)=false):=hid (decide_eq_false (HNO.out he))
     clear he HMO HNO
     go_wp2
     go_region
     go_wp2
     go_ret
     rw [HF.out]
     exact ⟨rfl,(below_drewN HB.out 1)⟩
   ·obtain rfl:k=l.length:=by omega
    have HF:Hid (decide (l=m)=true):=hid (decide_eq_true (by
     have h:=HT.out
     rw [List.take_length,HLM.out,List.take_length] at h
     exact h))
    go_wp2
    go_ret
    rw [HF.out]
    exact ⟨rfl,HB.out⟩
 ·have d1:((l.length:Int) != (m.length:Int))=true:=bne_iff_ne.2 (by omega)
  have HF:Hid (decide (l=m)=false):=hid (decide_eq_false (fun h=>hlen (by rw [h])))
  clear hlen
  go_enter Tryz.func135,Tryz.ntmps135
  go_wp2
  go_ret
  rw [HF.out]
  exact ⟨rfl,Below.refl _ _⟩
theorem ringSame_any (l m:List V) (A B:Option Addr) (c d:Nat) (w:World) (hr:Row w A (l.flatMap ptCells)) (hs:Row w B (m.flatMap ptCells)) (hl:l.length≤17592186043904) (hm:m.length≤17592186043904) :
  Calls Tryz.prog 74 #[.slice A l.length c,.slice B m.length d] w fun e w'=>e=.returned (.bool (decide (l=m)))∧Below w.heap.size w w':=by
 have HE:=hid (equalR_any l m A B c d w hr hs hl hm)
 clear hr hs
 generalize decide (l=m)=q at *
 go_enter Tryz.func74,Tryz.ntmps74
 go_wp2_with fail
 refine HE.out.mono ?_
 rintro e w1 ⟨rfl,hb⟩
 go_wp2
 go_ret
 exact ⟨rfl,hb⟩
theorem take_map_more {l m:List RowV} {k:Nat} (h:(l.take k).map RowV.l=(m.take k).map RowV.l) (h1:k < l.length) (h2:k < m.length) (he:l[k].l=m[k].l):(l.take (k+1)).map RowV.l=(m.take (k+1)).map RowV.l:=by
 rw [List.take_succ_eq_append_getElem h1,List.take_succ_eq_append_getElem h2,List.map_append,List.map_append,h]
 simp [he]
set_option maxRecDepth 100000 in
set_option maxHeartbeats 1000000 in
theorem equalH_any (l m:List RowV) (A B:Option Addr) (c d:Nat) (w:World) (hr:Row w A (l.map rowVal)) (hs:Row w B (m.map rowVal)) (hrr:∀ r∈l,Row w r.A (r.l.flatMap ptCells)∧r.l.length≤1000) (hss:∀ r∈m,Row w r.A (r.l.flatMap ptCells)∧r.l.length≤1000) (hl:l.length≤1000) (_hm:m.length≤1000) :
  Calls Tryz.prog 75 #[.slice A l.length c,.slice B m.length d,.func (.func 74) #[] #[]] w fun e w'=>e=.returned (.bool (decide (l.map RowV.l=m.map RowV.l)))∧Below w.heap.size w w':=by
 have HR:=hid hr
 have HS:=hid hs
 have HRR:=hid hrr
 have HSS:=hid hss
 have HSAME:=hid (fun (l m:List V) A B c d W hr hs hl hm=>ringSame_any l m A B c d W hr hs hl hm)
 clear hr hs hrr hss
 by_cases hlen:l.length=m.length
 ·have HT0:=hid (show (l.take 0).map RowV.l=(m.take 0).map RowV.l by simp)
  have HLM:=hid hlen
  go_enter Tryz.func75,Tryz.ntmps75
  rw [← hlen]
  clear hlen
  go_wp2
  go_loopw [7,8,9,17] (fun _ _ _ i wr=>∃ k:Nat,k≤l.length∧i=.int .i64 k∧Hid ((l.take k).map RowV.l=(m.take k).map RowV.l)∧Hid (Below w.heap.size w wr)) (fun _ _ _ i _=>l.length - (intOf i).toNat)
  case atStart=>exact ⟨0,Nat.zero_le _,rfl,HT0,hid (Below.refl _ _)⟩
  case round =>
   obtain ⟨k,hk,rfl,HT,HB⟩:=hrel
   by_cases hlt:k < l.length
   ·have hlt2:k < m.length:=by have:=HLM.out;omega
    obtain ⟨g,off,rfl,hg,ca⟩:=row_one HR.out (k:=k) (by simpa using hlt)
    obtain ⟨g2,off2,rfl,hg2,cb⟩:=row_one HS.out (k:=k) (by simpa using hlt2)
    have a0:=(HB.out.cell (p:=⟨g,off+k,none⟩) hg).trans (ca k (by simpa using hlt))
    have b0:=(HB.out.cell (p:=⟨g2,off2+k,none⟩) hg2).trans (cb k (by simpa using hlt2))
    rw [List.getElem_map] at a0 b0
    have hk1:(0:Int)≤(k:Int):=by omega
    have hk2:(k:Int) < (l.length:Int):=by omega
    have HMO:=hid (fun h=>take_map_more HT.out hlt hlt2 h)
    have HNO:Hid (l[k].l≠m[k].l→l.map RowV.l≠m.map RowV.l):=hid (fun h e=>h (by
     have h1:(l.map RowV.l)[k]? = (m.map RowV.l)[k]?:=by rw [e]
     simpa [List.getElem?_eq_getElem,hlt,hlt2] using h1))
    have HP1:=hid (HRR.out l[k] (List.getElem_mem _))
    have HP2:=hid (HSS.out m[k] (List.getElem_mem _))
    clear ca cb
    generalize l[k]=p at *
    generalize m[k]=q at *
    clear hlt2
    unfold rowVal at a0 b0
    have HSM:=hid (HSAME.out p.l q.l p.A q.A p.k q.k wr (HP1.out.1.below HB.out) (HP2.out.1.below HB.out) (by have:=HP1.out.2;omega) (by have:=HP2.out.2;omega))
    go_wp2_with fail
    refine HSM.out.mono ?_
    rintro e w2 ⟨rfl,hb2⟩
    have HB2:=hid (HB.out.trans (hb2.mono HB.out.size))
    clear hb2 HSM
    by_cases he:p.l=q.l
    ·have HT2:=hid (HMO.out he)
     have hdc:decide (p.l=q.l)=true:=decide_eq_true he
     rw [hdc]
     clear he HMO HNO hdc
     go_wp2
     go_roundw
     case rel=>exact ⟨k+1,hlt,by go_num,HT2,HB2⟩
     case measure=>simp [intOf];omega
    ·have HF:Hid (decide (l.map RowV.l=m.map RowV.l)=false):=hid (decide_eq_false (HNO.out he))
     have hdc:decide (p.l=q.l)=false:=decide_eq_false he
     rw [hdc]
     clear he HMO HNO hdc
     go_wp2
     go_ret
     rw [HF.out]
     exact ⟨rfl,HB2.out⟩
   ·obtain rfl:k=l.length:=by omega
    have HF:Hid (decide (l.map RowV.l=m.map RowV.l)=true):=hid (decide_eq_true (by
     have h:=HT.out
     rw [List.take_length,HLM.out,List.take_length] at h
     exact h))
    go_wp2
    go_ret
    rw [HF.out]
    exact ⟨rfl,HB.out⟩
 ·have d1:((l.length:Int) != (m.length:Int))=true:=bne_iff_ne.2 (by omega)
  have HF:Hid (decide (l.map RowV.l=m.map RowV.l)=false):=hid (decide_eq_false (fun h=>hlen (by simpa using congrArg List.length h)))
  clear hlen
  go_enter Tryz.func75,Tryz.ntmps75
  go_wp2
  go_ret
  rw [HF.out]
  exact ⟨rfl,Below.refl _ _⟩
set_option maxRecDepth 100000 in
set_option maxHeartbeats 1000000 in
theorem shapeSame_any (a b:ShapeM) (w:World) (ha:ShapeIn w a) (hb:ShapeIn w b) :
  Calls Tryz.prog 26 #[.agg (shapeVals a),.agg (shapeVals b)] w fun e w'=>e=.returned (.bool (decide (a.o.l=b.o.l)&&decide (holesL a=holesL b)))∧Below w.heap.size w w':=by
 have hb1:=bel1 w (.cells #[.slice a.o.A a.o.l.length a.o.k,.slice a.B a.hs.length a.k] 29)
 have hb2:=bel1 (w.alloc (.cells #[.slice a.o.A a.o.l.length a.o.k,.slice a.B a.hs.length a.k] 29)) (.cells #[.slice b.o.A b.o.l.length b.o.k,.slice b.B b.hs.length b.k] 29)
 have hz:(w.alloc (.cells #[.slice a.o.A a.o.l.length a.o.k,.slice a.B a.hs.length a.k] 29)).heap.size=w.heap.size+1:=by simp
 have HN1:=hid (p_below (heap_new w (.cells #[.slice a.o.A a.o.l.length a.o.k,.slice a.B a.hs.length a.k] 29)) hb2)
 have HN2:Hid (((w.alloc (.cells #[.slice a.o.A a.o.l.length a.o.k,.slice a.B a.hs.length a.k] 29)).alloc (.cells #[.slice b.o.A b.o.l.length b.o.k,.slice b.B b.hs.length b.k] 29)).heap[w.heap.size+1]? = some (.cells #[.slice b.o.A b.o.l.length b.o.k,.slice b.B b.hs.length b.k] 29)):=hid (by have:=heap_new (w.alloc (.cells #[.slice a.o.A a.o.l.length a.o.k,.slice a.B a.hs.length a.k] 29)) (.cells #[.slice b.o.A b.o.l.length b.o.k,.slice b.B b.hs.length b.k] 29);rw [hz] at this;exact this)
 have HBB:=hid (hb1.trans (hb2.mono (by omega)))
 have HAA:=hid ((ha.below hb1).below hb2)
 have HAB:=hid ((hb.below hb1).below hb2)
 clear ha hb hb1 hb2 hz
 unfold shapeVals holesVal rowVal holesL
 obtain ⟨q,HQ⟩:∃ q,Hid (decide (a.o.l=b.o.l)=q):=⟨_,hid rfl⟩
 obtain ⟨q2,HQ2⟩:∃ q,Hid (decide (a.hs.map RowV.l=b.hs.map RowV.l)=q):=⟨_,hid rfl⟩
 rw [HQ.out,HQ2.out]
 go_enter Tryz.func26,Tryz.ntmps26
 go_upto_region 1 with fail
 generalize (w.alloc (.cells #[.slice a.o.A a.o.l.length a.o.k,.slice a.B a.hs.length a.k] 29)).alloc (.cells #[.slice b.o.A b.o.l.length b.o.k,.slice b.B b.hs.length b.k] 29)=W at *
 have x0:=cell_of HN1.out 0 _ rfl
 have x1:=cell_of HN1.out 1 _ rfl
 have y0:=cell_of HN2.out 0 _ rfl
 have y1:=cell_of HN2.out 1 _ rfl
 have hsa:=HAA.out.short a.o (List.mem_cons_self ..)
 have hsb:=HAB.out.short b.o (List.mem_cons_self ..)
 have HSM:=hid (ringSame_any a.o.l b.o.l a.o.A b.o.A a.o.k b.o.k W HAA.out.ro HAB.out.ro (by omega) (by omega))
 rw [HQ.out] at HSM
 clear hsa hsb HQ
 go_wp2_with fail
 refine HSM.out.mono ?_
 rintro e w2 ⟨rfl,hb2⟩
 have HB2:=hid (HBB.out.trans (hb2.mono HBB.out.size))
 have HC1:=hid (p_below HN1.out hb2)
 have HC2:=hid (p_below HN2.out hb2)
 have HA2:=hid (HAA.out.below hb2)
 have HA3:=hid (HAB.out.below hb2)
 clear hb2 x0 x1 y0 y1 HSM
 cases q
 ·go_wp2
  go_ret
  exact ⟨by simp,HB2.out⟩
 have x1:=cell_of HC1.out 1 _ rfl
 have y1:=cell_of HC2.out 1 _ rfl
 have HEH:=hid (equalH_any a.hs b.hs a.B b.B a.k b.k w2 HA2.out.rB HA3.out.rB (fun r hr=>⟨HA2.out.rh r hr,(HA2.out.short r (List.mem_cons_of_mem _ hr)).1⟩) (fun r hr=>⟨HA3.out.rh r hr,(HA3.out.short r (List.mem_cons_of_mem _ hr)).1⟩) HA2.out.few HA3.out.few)
 rw [HQ2.out] at HEH
 clear HQ2
 go_wp2_with fail
 refine HEH.out.mono ?_
 rintro e w3 ⟨rfl,hb3⟩
 have HB3:=hid (HB2.out.trans (hb3.mono HB2.out.size))
 clear hb3
 go_wp2
 go_ret
 exact ⟨by simp,HB3.out⟩
end Go.Proofs.YtnmmhcchpcbeeaaGreat.GeW

namespace Go.Proofs.YtnmmhcchpcbeeaaGreat.Ge
open Lib (hid)
open Go
theorem insH_pos (h:List V):∀ l:List (List V),insH h l=l.take (pos (l.map hd) (hd h))++h::l.drop (pos (l.map hd) (hd h))
 | []=>by simp [insH,pos]
 | o::os=>by
  unfold insH
  rw [List.map_cons]
  unfold pos
  by_cases ho:less (hd o) (hd h)=true
  ·rw [if_pos ho,if_pos ho,insH_pos h os]
   simp only [List.take_succ_cons,List.drop_succ_cons,List.cons_append]
  ·rw [if_neg ho,if_neg ho]
   rfl
theorem sortH_snoc (l:List (List V)) (h:List V):sortH (l++[h])=insH h (sortH l):=by
 unfold sortH
 rw [List.foldl_append]
 rfl
end Go.Proofs.YtnmmhcchpcbeeaaGreat.Ge
namespace Go.Proofs.YtnmmhcchpcbeeaaGreat.Mem
open Lib (hid)
open Go
section
variable {P:Program} {ops:Array Oper} {Q:Exit→Act→World→Prop} {md:Region.Mode} {k:Nat} {S1 S2:World→Prop}
/-- The two operations that may come up now; behind each the conditions are shown anew. -/
theorem wpAnyK_two {i j:Nat} {oi oj:Oper} {n:Nat} {l:Array Bool} {a:Act} {w:World} (hr:Region.ready md ops l=[i,j]) (hi:ops[i]? = some oi) (hj:ops[j]? = some oj)
  (h1:∀ K':Act→World→Prop,Shut (∀ a w,S1 w→(i≠k→S2 w)→(S1 w∧(i≠k→S2 w)→wpAnyK P md ops Q k S1 S2 n (l.setIfInBounds i true) a w)→K' a w)→if Region.wanted oi (yielded ops a.tmps)=true then Oper.wp P oi a w K' Q else K' (a.put oi.dst undef) w)
  (h2:∀ K':Act→World→Prop,Shut (∀ a w,S1 w→(j≠k→S2 w)→(S1 w∧(j≠k→S2 w)→wpAnyK P md ops Q k S1 S2 n (l.setIfInBounds j true) a w)→K' a w)→if Region.wanted oj (yielded ops a.tmps)=true then Oper.wp P oj a w K' Q else K' (a.put oj.dst undef) w) :
  wpAnyK P md ops Q k S1 S2 (n+1) l a w:=by
 have key:∀ (p:Nat) (o:Oper),p∈Region.ready md ops l→ops[p]? = some o→(∀ K':Act→World→Prop,Shut (∀ a w,S1 w→(p≠k→S2 w)→(S1 w∧(p≠k→S2 w)→wpAnyK P md ops Q k S1 S2 n (l.setIfInBounds p true) a w)→K' a w)→if Region.wanted o (yielded ops a.tmps)=true then Oper.wp P o a w K' Q else K' (a.put o.dst undef) w) →
   wpOp P ops Q p (fun a' w'=>Till k S1 S2 (l.setIfInBounds p true) w'∧wpAnyK P md ops Q k S1 S2 n (l.setIfInBounds p true) a' w') a w:=by
  intro p o hp ho h
  refine wpOp_step ho fun K' hK=>h K' fun a w h1 h2 h3=>hK a w ⟨⟨h1,fun hk=>h2 fun e=>?_⟩,h3 ⟨h1,h2⟩⟩
  subst e
  have hl:p < l.size:=by
   obtain ⟨hjl,_⟩:=mem_ready.1 hp
   rcases Nat.lt_or_ge p l.size with h4 | h4
   ·exact h4
   ·simp [Array.getElem?_eq_none h4] at hjl
  simp [hl] at hk
 refine ⟨fun h0=>(by rw [h0] at hr;cases hr),fun p hp=>?_⟩
 have hp0:=hp
 rw [hr] at hp
 rcases List.mem_cons.1 hp with rfl | hp
 ·exact key _ _ hp0 hi h1
 ·obtain rfl:=List.mem_singleton.1 hp
  exact key _ _ hp0 hj h2
end
end Go.Proofs.YtnmmhcchpcbeeaaGreat.Mem

namespace Go.Proofs.YtnmmhcchpcbeeaaGreat.GeW
open Lib (hid)
open Go Go.RowKit Go.Proofs.YtnmmhcchpcbeeaaGreat.Mem Go.Proofs.YtnmmhcchpcbeeaaGreat.Ge
attribute [local go_sem ↓] Go.wp_at_zero Go.wp_at_succ
theorem front {w:World} {A:Option Addr} {xs ys:List Value} (h:Row w A (xs++ys)):Row w A xs:=fun hne=>by
 obtain ⟨g,off,e,hg,hc⟩:=h (by simp [hne])
 exact ⟨g,off,e,hg,fun j hj=>by rw [hc j (by rw [List.length_append];omega),List.getElem?_append_left hj]⟩
theorem shift {w:World} {g off:Nat} {xs ys:List Value} (h:Row w (some ⟨g,off,none⟩) (xs++ys)):Row w (some ⟨g,off+xs.length,none⟩) ys:=fun hne=>by
 obtain ⟨g',off',e,hg,hc⟩:=h (by simp [hne])
 injection e with e
 injection e with e1 e2
 subst e1 e2
 refine ⟨g,off+xs.length,rfl,hg,fun j hj=>?_⟩
 have:=hc (xs.length+j) (by rw [List.length_append];omega)
 rw [Nat.add_assoc,this,List.getElem?_append_right (by omega)]
 congr 1
 omega
set_option maxRecDepth 100000 in
set_option maxHeartbeats 2000000 in
theorem rbegin_any (l:List V) (A:Option Addr) (c:Nat) (w:World) (hr:Row w A (l.flatMap ptCells)) (hl:l.length≤10000) (hlc:l.length≤c) (h0:0 < l.length) :
  Calls Tryz.prog 110 #[.slice A l.length c] w fun e w'=>(∃ v,e=.returned v∧w'.ownsRow w.heap.size 53 2 v l.length ((beginL l).flatMap ptCells))∧Below w.heap.size w w':=by
 have HR:=hid hr
 have HL0:=hid h0
 have HLT:Hid (∀ j,j≤l.length→leastR l j < l.length):=hid (fun j hj=>leastR_lt h0 j hj)
 have HLS:Hid (∀ j,leastR l (j+1)=if less (l.getD j (0,0)) (l.getD (leastR l j) (0,0)) then j else leastR l j):=hid (fun _=>rfl)
 obtain ⟨i0,ia,ib,ic,id⟩:=info_parts info_vec
 obtain ⟨g,off,rfl,hg,ca⟩:=row_get pt_len (by decide) hr h0
 have HCA:=hid ca
 clear ca hr h0
 go_enter Tryz.func110,Tryz.ntmps110
 go_wp2
 go_loopw [3,4] (fun k i wr=>∃ j:Nat,i=.int .i64 (j:Int)∧j≤l.length∧k=.int .i64 ((leastR l j:Nat):Int)∧Hid (Below w.heap.size w wr)) (fun _ i _=>l.length - (intOf i).toNat)
 case atStart=>exact ⟨0,rfl,Nat.zero_le _,rfl,hid (Below.refl _ _)⟩
 case round =>
  obtain ⟨j,rfl,hj,rfl,HB⟩:=hrel
  have hk:=HLT.out j hj
  by_cases hlt:j < l.length
  ·have HLN:=hid (HLS.out j)
   have gd:∀ i (hi:i < l.length),l.getD i (0,0)=l[i]:=fun i hi=>by rw [List.getD_eq_getElem?_getD,List.getElem?_eq_getElem hi];rfl
   rw [gd _ hlt,gd _ hk] at HLN
   have a0:=(HB.out.cell (p:=⟨g,off+j*2,none⟩) hg).trans (HCA.out j hlt 0 (by decide))
   have a1:=(HB.out.cell (p:=⟨g,off+j*2+1,none⟩) hg).trans (HCA.out j hlt 1 (by decide))
   have b0:=(HB.out.cell (p:=⟨g,off+leastR l j*2,none⟩) hg).trans (HCA.out _ hk 0 (by decide))
   have b1:=(HB.out.cell (p:=⟨g,off+leastR l j*2+1,none⟩) hg).trans (HCA.out _ hk 1 (by decide))
   have hg2:g < wr.heap.size:=Nat.lt_of_lt_of_le hg HB.out.size
   clear gd
   generalize l[j]=p at *
   generalize l[leastR l j]=q at *
   obtain ⟨x,y⟩:=p
   obtain ⟨u,v⟩:=q
   simp only [ptCells,List.getElem?_cons_zero,List.getElem?_cons_succ] at a0 a1 b0 b1
   generalize hm:leastR l j=m at *
   have HLE:=hid (fun W=>rless_any x y u v W)
   generalize hbb:less (x,y) (u,v)=bb at *
   clear hm hbb
   have CS:Hid (∀ w',Below wr.heap.size wr w'→w'.cell? ⟨g,off+j*2,none⟩=some (.int .i64 x)∧w'.cell? ⟨g,off+j*2+1,none⟩=some (.int .i64 y)∧w'.cell? ⟨g,off+m*2,none⟩=some (.int .i64 u)∧w'.cell? ⟨g,off+m*2+1,none⟩=some (.int .i64 v)∧Below wr.heap.size wr w'):=hid (fun w' hb =>
    ⟨(hb.cell (p:=⟨g,off+j*2,none⟩) hg2).trans a0,(hb.cell (p:=⟨g,off+j*2+1,none⟩) hg2).trans a1,(hb.cell (p:=⟨g,off+m*2,none⟩) hg2).trans b0,(hb.cell (p:=⟨g,off+m*2+1,none⟩) hg2).trans b1,hb⟩)
   have j0:(0:Int)≤(j:Int):=by omega
   have j1:(j:Int) < (l.length:Int):=by omega
   have m0:(0:Int)≤(m:Int):=by omega
   have m1:(m:Int) < (l.length:Int):=by omega
   have d1:decide ((j:Int) < (l.length:Int))=true:=decide_eq_true j1
   clear a0 a1 b0 b1
   go_wp2_with fail
   obtain ⟨q0,q1,q2,q3,q4⟩:=CS.out wr (Below.refl _ _)
   go_region_held3 (fun w'=>w'.cell? ⟨g,off+j*2,none⟩=some (.int .i64 x)∧w'.cell? ⟨g,off+j*2+1,none⟩=some (.int .i64 y)∧w'.cell? ⟨g,off+m*2,none⟩=some (.int .i64 u)∧w'.cell? ⟨g,off+m*2+1,none⟩=some (.int .i64 v)∧Below wr.heap.size wr w')
    (first | assumption | exact CS.out _ (below_drew q4) | exact CS.out _ q4 | exact CS.out _ ((below_drew q4).trans (hcall.mono (Below.size (below_drew q4)))))
    (first | (go_at_call 28;refine (HLE.out _).mono ?_;rintro e w4 ⟨rfl,hcall⟩))
   all_goals
    have HBB:=hid (HB.out.trans (((below_drew q4).trans (hcall.mono (Below.size (below_drew q4)))).mono HB.out.size))
    clear hcall q0 q1 q2 q3 q4 CS HLE
    cases bb
    ·have HN:=hid (HLN.out.trans (if_neg (by decide)))
     clear HLN
     go_wp2
     go_roundw
     case rel=>exact ⟨j+1,by go_num,hlt,by rw [HN.out],HBB⟩
     case measure=>simp [intOf];omega
    ·have HN:=hid (HLN.out.trans (if_pos rfl))
     clear HLN
     go_wp2
     go_roundw
     case rel=>exact ⟨j+1,by go_num,hlt,by rw [HN.out],HBB⟩
     case measure=>simp [intOf];omega
  ·have hje:j=l.length:=by omega
   subst hje
   have d1:decide ((l.length:Int) < (l.length:Int))=false:=decide_eq_false (by omega)
   have HBL:Hid (beginL l=l.drop (leastR l l.length)++l.take (leastR l l.length)):=hid rfl
   generalize leastR l l.length=m at *
   have hqc:(m:Int)≤(c:Int):=by omega
   have hqs:(m:Int)≤(l.length:Int):=by omega
   have hqc':m≤c:=by omega
   have hdk : ¬ c=m:=by omega
   have HLA:Hid (0+(l.length - m)+m=l.length):=hid (by omega)
   have HCL:Hid ([]++((l.drop m).flatMap ptCells)++((l.take m).flatMap ptCells)=(beginL l).flatMap ptCells):=hid (by rw [HBL.out,List.flatMap_append];rfl)
   have C1:Hid (0+(l.length - m)≤maxLen∧(0+(l.length - m))*16≤140737488355328∧(((l.drop m).flatMap ptCells):List Value).length=(l.length - m)*2∧∀ u∈(((l.drop m).flatMap ptCells):List Value),u.oneCell'=true):=hid ⟨by unfold maxLen;omega,by omega,by rw [flatMap_len pt_len,List.length_drop],pt_one _⟩
   have C2:Hid (0+(l.length - m)+m≤maxLen∧(0+(l.length - m)+m)*16≤140737488355328∧(((l.take m).flatMap ptCells):List Value).length=m*2∧∀ u∈(((l.take m).flatMap ptCells):List Value),u.oneCell'=true):=hid ⟨by unfold maxLen;omega,by omega,by rw [flatMap_len pt_len,List.length_take];omega,pt_one _⟩
   have HRW:=hid (HR.out.below HB.out)
   have HTD:Hid (l.flatMap ptCells=((l.take m).flatMap ptCells)++((l.drop m).flatMap ptCells)):=hid (by rw [← List.flatMap_append,List.take_append_drop])
   have HRT:=hid (front (by rw [← HTD.out];exact HRW.out))
   have HRD:=hid (show Row wr (some ⟨g,off+m*2,none⟩) ((l.drop m).flatMap ptCells) by
    have h1:Row wr (some ⟨g,off,none⟩) (((l.take m).flatMap ptCells)++((l.drop m).flatMap ptCells)):=by rw [← HTD.out];exact HRW.out
    have h2:=shift h1
    rw [C2.out.2.2.1] at h2
    exact h2)
   have HBZ:Hid (w.heap.size≤wr.heap.size):=hid HB.out.size
   go_wp2_with fail
   have q4:=Below.refl wr.heap.size wr
   go_region_held3 (fun w'=>Below wr.heap.size wr w') (first | assumption | exact hF2.out | exact hF1.out | exact below_drew (bel1 wr _) | exact bel1 wr _ | exact below_drew (Below.refl _ _))
    (first
    | (refine step_append_row (by rfl) _ _ _ (by rfl) wr.heap.size 53 i0 _ 2 16 Tryz.underlying25 ia ib ic id rfl (by omega) _ 0 [] (by rfl) ((own_none wr 53 2 wr.heap.size (Nat.le_refl _)).drew) _ _ _ ((l.drop m).flatMap ptCells) (by rfl) (HRD.out.below (below_drew (bel1 wr (.cells #[] 53)))) C1.out.2.2.1 C1.out.2.2.2 C1.out.1 C1.out.2.1 (by simp<;>omega) ?_;intro v1 wa ho1 hg1;have hF1:=hid (below_append (below_drew (bel1 wr (.cells #[] 53))) (by simp<;>omega) ((own_none wr 53 2 wr.heap.size (Nat.le_refl _)).drew) hg1 (Nat.le_refl _));have hP:=hid ho1;clear ho1 hg1)
    | (refine step_append_row (by rfl) _ _ _ (by rfl) wr.heap.size 53 i0 _ 2 16 Tryz.underlying25 ia ib ic id rfl (by omega) _ _ _ (by rfl) hP.out _ m _ ((l.take m).flatMap ptCells) (by rfl) (HRT.out.below hF1.out) C2.out.2.2.1 C2.out.2.2.2 C2.out.1 C2.out.2.1 (Below.size hF1.out) ?_;intro v2 wb ho2 hg2;have hF2:=hid (below_append hF1.out (Below.size hF1.out) hP.out hg2 (Nat.le_refl _));have hQ:=hid ho2;clear ho2 hg2))
   all_goals
    have HOWN:Hid (wb.ownsRow w.heap.size 53 2 v2 l.length ((beginL l).flatMap ptCells)):=hid (own_fit hQ.out HBZ.out HLA.out HCL.out)
    have HBEL:Hid (Below w.heap.size w wb):=hid (HB.out.trans (hF2.out.mono HBZ.out))
    clear hQ hF2 hF1 hP
    go_wp2
    go_ret
    exact ⟨⟨_,rfl,HOWN.out⟩,HBEL.out⟩
end Go.Proofs.YtnmmhcchpcbeeaaGreat.GeW
