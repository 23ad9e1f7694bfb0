/- A list of sources of the reference, opened. No function is in sight. Conditions: none. -/
import Derived.Test.YtnkkcknogkgdkaaGreatDoorMem2
import Derived.Deep.Slices
import Derived.ChangeArms
import Derived.Test.YtnkkcknogkgdkaaGreatDoorPvC
import Derived.OpenShut

namespace Go.Proofs.YtnkkcknogkgdkaaGreatDoor.Mem
open Lib (hid)
open Go Go.RowKit

theorem choose_lt' {α:Type} {p:Nat→α→Prop} : ∀ (m:Nat),(∀ i,i < m→∃ a,p i a)→∃ l:List α,l.length=m∧∀ i (h:i < l.length),p i l[i]
 | 0,_=>⟨[],rfl,fun i h=>by simp at h⟩
 | m+1,h=>by
  obtain ⟨l,hl,hp⟩:=choose_lt' m fun i hi=>h i (by omega)
  obtain ⟨a,ha⟩:=h m (by omega)
  refine ⟨l++[a],by simp [hl],fun i hi=>?_⟩
  by_cases hlt:i < l.length
  ·rw [List.getElem_append_left hlt];exact hp i hlt
  ·have hi':i=l.length:=by simp at hi;omega
   subst hi'
   rw [List.getElem_append_right (Nat.le_refl _)]
   simp only [Nat.sub_self,List.getElem_cons_zero]
   rw [hl];exact ha

theorem flatten_get {n:Nat} : ∀ (l:List (List Value)),(∀ c∈l,c.length=n)→∀ (i f:Nat) (h:i < l.length),f < n→l.flatten[i*n+f]? = l[i][f]?
 | [],_,i,f,h,_=>by simp at h
 | c::r,hc,0,f,_,hf=>by
  have:=hc c (by simp)
  show (c++r.flatten)[0*n+f]? = _
  rw [Nat.zero_mul,Nat.zero_add,List.getElem?_append_left (by omega)];rfl
 | c::r,hc,i+1,f,h,hf=>by
  have h0:=hc c (by simp)
  show (c++r.flatten)[(i+1)*n+f]? = _
  have e:(i+1)*n+f - c.length=i*n+f:=by rw [h0,Nat.add_mul];omega
  rw [List.getElem?_append_right (by rw [h0,Nat.add_mul];omega),e,flatten_get r (fun c' h'=>hc c' (by simp [h'])) i f (by simpa using h) hf];rfl
theorem flatten_len {n:Nat} : ∀ (l:List (List Value)),(∀ c∈l,c.length=n)→l.flatten.length=l.length*n
 | [],_=>by simp
 | c::r,hc=>by
  have h0:=hc c (by simp)
  have:=flatten_len r fun c' h'=>hc c' (by simp [h'])
  rw [List.flatten_cons,List.length_append,this,h0,List.length_cons,Nat.add_mul];omega

theorem addr_add (a:Addr) (h:a.spot=none) (i:Nat):a.add i=⟨a.block,a.off+i,none⟩:=by
 obtain ⟨b,o,s⟩:=a
 simp only at h
 subst h
 by_cases h0:i=0
 ·subst h0;rfl
 ·show (if i=0 then _ else _)=_
  rw [if_neg h0]

section
variable {H:Type} {enc:TypeId×Value→H} {P:Program} {w:World} {held:Bool}
theorem weights_all {e:TypeId} {d:DataW H} {k:Nat} : ∀ (l:List (DataW H)),d∈l→k∈d.weights P e→k∈DataW.weightsAll P e l
 | x::r,hd,hk=>by
  unfold DataW.weightsAll
  rcases List.mem_cons.1 hd with rfl | h
  ·exact List.mem_append_left _ hk
  ·exact List.mem_append_right _ (weights_all r h hk)
theorem weights_slice {t e:TypeId} (ht:P.underlying t=some (.slice e)) {elems rest:List (DataW H)} (hw:∀ k∈(DataW.slice elems rest).weights P t,k≤reachBytes) :
  elems.length*P.bytesOf e≤reachBytes∧∀ d∈elems,∀ k∈d.weights P e,k≤reachBytes:=by
 have h0:(DataW.slice elems rest).weights P t=(elems.length+rest.length)*P.bytesOf e::(DataW.weightsAll P e elems++DataW.weightsAll P e rest):=by
  rw [DataW.weights,ht]
 rw [h0] at hw
 refine ⟨?_,fun d hd k hk=>hw k (List.mem_cons_of_mem _ (List.mem_append_left _ (weights_all elems hd hk)))⟩
 have:=hw _ (List.mem_cons_self ..)
 rw [Nat.add_mul] at this
 omega
theorem open_fuel {t e:TypeId} {A:Option Addr} {len cap fuel:Nat} {x:DataW H×List MemPlace} (ht:P.underlying t=some (.slice e)) (hn:0 < P.cellsOf e)
  (h:DataW.trod enc P w 0 (fun _=>true) held fuel t [.slice A len cap]=some x) :
  ∃ (css:List (List Value)) (n:Nat) (elems rest:List (DataW H)),css.length=len∧Row w A css.flatten∧len≤cap∧n < fuel∧(len=0∨x.1=.slice elems rest∧elems.length=len) ∧
   ∀ cs∈css,cs.length=P.cellsOf e∧∃ y,DataW.trod enc P w 0 (fun _=>true) held n e cs=some y∧y.1∈elems:=by
 rcases DataW.trod_slice ht h with ⟨h0,hx⟩ | ⟨a,len',cap',elems,rest,n,rfl,h0,rfl,_,hl,hm,hlen,hel,_,_⟩
 ·simp only [List.cons.injEq,Value.slice.injEq,and_true] at h0
  obtain ⟨rfl,rfl,rfl⟩:=h0
  have hf:0 < fuel:=by
   rcases fuel with _ | _
   ·simp [DataW.trod] at h
   ·omega
  exact ⟨[],0,[],[],rfl,Row.nil _ _,Nat.le_refl _,hf,.inl rfl,by simp⟩
 ·simp only [List.cons.injEq,Value.slice.injEq,and_true] at h0
  obtain ⟨rfl,rfl,rfl⟩:=h0
  obtain ⟨l,hll,hlp⟩:=choose_lt' (p:=fun i cs=>w.cells? 0 (a.add (i*P.cellsOf e)) (P.cellsOf e)=some cs∧∃ y,DataW.trod enc P w 0 (fun _=>true) held n e cs=some y∧y.1∈elems.map (·.1)) len fun i hi=>by
   have h1:=hel i hi
   rw [List.getElem?_eq_getElem (by omega)] at h1
   obtain ⟨cs,h2,h3⟩:=Option.bind_eq_some_iff.1 h1
   exact ⟨cs,h2,_,h3,List.mem_map_of_mem (List.getElem_mem _)⟩
  have hlen:∀ cs∈l,cs.length=P.cellsOf e:=by
   intro cs hcs
   obtain ⟨i,hi,rfl⟩:=List.getElem_of_mem hcs
   exact (World.cells?_some (hlp i hi).1).2.1
  refine ⟨l,n,elems.map (·.1),rest.map (·.1),hll,?_,hl,Nat.lt_succ_self n,.inr ⟨rfl,by rw [List.length_map];omega⟩,fun cs hcs=>⟨hlen cs hcs,?_⟩⟩
  ·intro hne
   have hfl:=flatten_len l hlen
   have hpos:0 < l.length:=by
    rcases l with _ | _
    ·exact absurd rfl hne
    ·simp
   have cell:=fun (i:Nat) (hi:i < l.length)=>(World.cells?_some (hlp i hi).1).2.2
   have hsome:∃ v,w.cell? a=some v:=by
    have h2:=cell 0 hpos 0 hn
    rw [Nat.zero_mul] at h2
    simp only [Addr.add,if_true] at h2
    rw [h2,List.getElem?_eq_getElem (by rw [hlen _ (List.getElem_mem hpos)];exact hn)]
    exact ⟨_,rfl⟩
   obtain ⟨v,hv⟩:=hsome
   have hspot:a.spot=none:=by
    unfold World.cell? at hv
    split at hv
    ·split at hv
     ·cases hv
     ·rename_i hs;simpa using hs
    ·cases hv
   have hb:a.block < w.heap.size:=by
    by_cases hlt:a.block < w.heap.size
    ·exact hlt
    ·unfold World.cell? at hv
     rw [Array.getElem?_eq_none (Nat.le_of_not_lt hlt)] at hv
     cases hv
   refine ⟨a.block,a.off,?_,hb,fun j hj=>?_⟩
   ·obtain ⟨b,o,s⟩:=a
    simp only at hspot
    subst hspot;rfl
   ·rw [hfl] at hj
    have hi:j / P.cellsOf e < l.length:=Nat.div_lt_of_lt_mul (by rw [Nat.mul_comm];exact hj)
    have hf:j % P.cellsOf e < P.cellsOf e:=Nat.mod_lt _ hn
    have hj2:j=j / P.cellsOf e*P.cellsOf e+j % P.cellsOf e:=by rw [Nat.mul_comm];exact (Nat.div_add_mod _ _).symm
    have h2:=cell _ hi _ hf
    have h3:=flatten_get l hlen _ _ hi hf
    rw [← hj2] at h3
    rw [h3,← h2,addr_add a hspot,addr_add _ rfl]
    simp only
    rw [Nat.add_assoc,← hj2]
  ·obtain ⟨i,hi,rfl⟩:=List.getElem_of_mem hcs
   exact (hlp i hi).2
end
end Go.Proofs.YtnkkcknogkgdkaaGreatDoor.Mem

namespace Go.Proofs.YtnkkcknogkgdkaaGreatDoor.PaW
open Lib (hid)
open Go Go.RowKit Go.Proofs.YtnkkcknogkgdkaaGreatDoor.Mem Go.Proofs.YtnkkcknogkgdkaaGreatDoor.Pa
open Go.Proofs.YtnkkcknogkgdkaaGreatDoor.Ge (V)
open Go.Proofs.YtnkkcknogkgdkaaGreatDoor.Lex (Tok)
open Go.Proofs.YtnkkcknogkgdkaaGreatDoor.LexW (tokCells)
attribute [local go_sem ↓] Go.wp_at_zero Go.wp_at_succ

open Go.Proofs.YtnkkcknogkgdkaaGreatDoor.Ge (within)
open Go.Proofs.YtnkkcknogkgdkaaGreatDoor.PqW (writeString_k strCells_mk byteCells_app isBuilder_below b_new)
/-- An outline's steps, a source's rows in memory, of any size. -/
def OutRaw (w:World) (m:OutM):Prop:=Row w m.A (m.o.steps.flatMap stepCells)∧m.o.steps.length≤m.d∧m.o.steps.length≤8796093022208
def SrcRaw (w:World) (m:SrcM):Prop:=Row w m.tA (m.turns.map (Value.int .i64))∧OutRaw w m.outer∧Row w m.hA (m.holes.flatMap outCells)∧(∀ h∈m.holes,OutRaw w h)∧m.turns.length≤140737488355328∧m.holes.length≤8796093022208∧m.name.length≤9223372036854775807∧m.grade.length≤9223372036854775807
def SrcsRaw (w:World) (A:Option Addr) (ms:List SrcM):Prop:=Row w A (ms.flatMap srcCells)∧(∀ m∈ms,SrcRaw w m)∧ms.length≤8796093022208
theorem OutRaw.below {w w':World} {m:OutM} (h:OutRaw w m) (hb:Below w.heap.size w w'):OutRaw w' m:=⟨h.1.below hb,h.2⟩
theorem SrcRaw.below {w w':World} {m:SrcM} (h:SrcRaw w m) (hb:Below w.heap.size w w'):SrcRaw w' m:=⟨h.1.below hb,h.2.1.below hb,h.2.2.1.below hb,fun x hx=>(h.2.2.2.1 x hx).below hb,h.2.2.2.2⟩
theorem SrcsRaw.below {w w':World} {A:Option Addr} {ms:List SrcM} (h:SrcsRaw w A ms) (hb:Below w.heap.size w w'):SrcsRaw w' A ms:=⟨h.1.below hb,fun m hm=>(h.2.1 m hm).below hb,h.2.2⟩
def fewO (m:OutM):Bool:=decide (m.o.steps.length≤20)
def fewS (m:SrcM):Bool:=m.holes.all fewO&&(decide (m.outer.o.steps.length≤20)&&(decide (m.holes.length≤3)&&(decide (m.turns.length≤10)&&(decide (m.name.length≤40)&&decide (m.grade.length≤40)))))
def fewB (n:Nat) (ms:List SrcM):Bool:=ms.all fewS&&decide (ms.length≤n)
set_option maxRecDepth 100000 in
set_option maxHeartbeats 8000000 in
theorem few_any (n:Nat) (ms:List SrcM) (A:Option Addr) (c:Nat) (w:World) (h:SrcsRaw w A ms) :
  Calls Tryz.prog 17 #[.slice A ms.length c,.int .i64 (n:Int)] w fun e w'=>e=.returned (.bool (fewB n ms))∧Below w.heap.size w w':=by
 have HR:=hid h.1
 have HS:=hid h.2.1
 have hmx:=h.2.2
 have HNO:Hid (∀ k (h:k < ms.length),fewS ms[k]=false→fewB n ms=false):=hid (fun k h hn=>by
  unfold fewB
  rw [all_false k h hn]
  rfl)
 have HYES:Hid ((∀ k (h:k < ms.length),fewS ms[k]=true)→fewB n ms=decide (ms.length≤n)):=hid (fun h=>by
  unfold fewB
  rw [all_true h,Bool.true_and])
 obtain ⟨KT,HKT⟩:∃ KT,Hid (fewB n ms=KT):=⟨_,hid rfl⟩
 rw [HKT.out] at HNO HYES ⊢
 clear HKT h
 go_enter Tryz.func17,Tryz.ntmps17
 go_wp2_with fail
 go_loopw [5] (fun v wr=>∃ k:Nat,v=.int .i64 (k:Int)∧k≤ms.length∧Hid (∀ m (h:m < ms.length),m < k→fewS ms[m]=true)∧Hid (Below w.heap.size w wr)) (fun v _=>ms.length - (intOf v).toNat)
 case atStart=>exact ⟨0,rfl,Nat.zero_le _,hid (fun m h h0=>absurd h0 (by omega)),hid (Below.refl _ _)⟩
 case round =>
  obtain ⟨k,rfl,hk,HG,HB⟩:=hrel
  by_cases hkl:k < ms.length
  ·obtain ⟨g,off,rfl,hg,ca⟩:=row_get src_len (by decide) (HR.out.below HB.out) (by omega)
   have HCA:=hid (fun j hj=>ca k hkl j hj)
   have HSR:=hid ((HS.out ms[k] (List.getElem_mem hkl)).below HB.out)
   have HKL:=hid hkl
   have HN:=hid (HNO.out k hkl)
   have HSG:Hid (fewS ms[k]=true→∀ m (h:m < ms.length),m < k+1→fewS ms[m]=true):=hid (fun hgk m h hm=>by
    rcases Nat.lt_or_ge m k with h1 | h1
    ·exact HG.out m h h1
    ·obtain rfl:m=k:=by omega
     exact hgk)
   have hk1:(0:Int)≤(k:Int):=by omega
   have hk2:(k:Int) < (ms.length:Int):=by omega
   clear ca HG HNO HYES hk
   generalize ms[k]=m at *
   clear hkl
   have hlh:=HSR.out.2.2.2.2.2.1
   have hlt_:=HSR.out.2.2.2.2.1
   have hla:=HSR.out.2.1.2.2
   have hln:=HSR.out.2.2.2.2.2.2.1
   have hlg:=HSR.out.2.2.2.2.2.2.2
   obtain ⟨wo,HWO⟩:∃ wo,Hid (wr=wo):=⟨_,hid rfl⟩
   rw [HWO.out] at HB HSR hg HCA ⊢
   clear HWO
   have HNI:Hid (∀ q (h:q < m.holes.length),fewO m.holes[q]=false→KT=false):=hid (fun q h hn=>HN.out (by unfold fewS;rw [all_false q h hn];rfl))
   have HY:Hid ((∀ q (h:q < m.holes.length),fewO m.holes[q]=true)→m.holes.all fewO=true):=hid all_true
   go_wp2_with fail
   go_loopw [6] (fun v wh=>∃ q:Nat,v=.int .i64 (q:Int)∧q≤m.holes.length∧Hid (∀ p (h:p < m.holes.length),p < q→fewO m.holes[p]=true)∧Hid (Below wo.heap.size wo wh)) (fun v _=>m.holes.length - (intOf v).toNat)
   case atStart=>exact ⟨0,rfl,Nat.zero_le _,hid (fun p h h0=>absurd h0 (by omega)),hid (Below.refl _ _)⟩
   case round =>
    obtain ⟨q,rfl,hq,HGQ,HBQ⟩:=hrel
    have HBT:=hid (HB.out.trans (HBQ.out.mono HB.out.size))
    have x10:wr.cell? ⟨g,off+k*11+10,none⟩=some (.slice m.hA m.holes.length m.hc):=(HBQ.out.cell (p:=⟨g,off+k*11+10,none⟩) hg).trans (HCA.out 10 (by decide))
    by_cases hql:q < m.holes.length
    ·obtain ⟨tg,toff,hta,htg,cb⟩:=row_get out_len (by decide) (HSR.out.2.2.1.below HBQ.out) (by omega)
     have b4:=cb q hql 4 (by decide)
     have HQL:=hid hql
     have HN2:=hid (HNI.out q hql)
     have HS2:Hid (fewO m.holes[q]=true→∀ p (h:p < m.holes.length),p < q+1→fewO m.holes[p]=true):=hid (fun hgk p h hp=>by
      rcases Nat.lt_or_ge p q with h1 | h1
      ·exact HGQ.out p h h1
      ·obtain rfl:p=q:=by omega
       exact hgk)
     have hls:=(HSR.out.2.2.2.1 _ (List.getElem_mem hql)).2.2
     have hq1:(0:Int)≤(q:Int):=by omega
     have hq2:(q:Int) < (m.holes.length:Int):=by omega
     clear cb HGQ hq
     rw [hta] at x10
     clear hta
     generalize m.holes[q]=h at *
     clear hql
     simp only [outCells,List.getElem?_cons_zero,List.getElem?_cons_succ] at b4
     by_cases c1:h.o.steps.length≤20
     ·have f1:((20:Int) < (h.o.steps.length:Int))=False:=eq_false (by omega)
      have HSQ:=hid (HS2.out (decide_eq_true c1))
      clear HN2 HS2 c1
      go_wp2
      go_roundw
      case rel=>exact ⟨q+1,by go_num,by have:=HQL.out;omega,HSQ,HBQ⟩
      case measure=>simp [intOf];have:=HQL.out;omega
     ·have f1:((20:Int) < (h.o.steps.length:Int))=True:=eq_true (by omega)
      have e1:=hid (HN2.out (decide_eq_false c1))
      clear HN2 HS2 c1
      go_wp2
      go_ret
      exact ⟨by rw [e1.out];all_goals rfl,HBT.out⟩
    ·obtain rfl:q=m.holes.length:=by omega
     have HQA:=hid (HY.out (fun p h=>HGQ.out p h h))
     have HB2:=HBT
     have x0:wr.cell? ⟨g,off+k*11,none⟩=some (.string ⟨m.name.toArray⟩):=(HBQ.out.cell (p:=⟨g,off+k*11,none⟩) hg).trans (HCA.out 0 (by decide))
     have x1:wr.cell? ⟨g,off+k*11+1,none⟩=some (.string ⟨m.grade.toArray⟩):=(HBQ.out.cell (p:=⟨g,off+k*11+1,none⟩) hg).trans (HCA.out 1 (by decide))
     have x3:wr.cell? ⟨g,off+k*11+3,none⟩=some (.slice m.tA m.turns.length m.tc):=(HBQ.out.cell (p:=⟨g,off+k*11+3,none⟩) hg).trans (HCA.out 3 (by decide))
     have x9:wr.cell? ⟨g,off+k*11+9,none⟩=some (.slice m.outer.A m.outer.o.steps.length m.outer.d):=(HBQ.out.cell (p:=⟨g,off+k*11+9,none⟩) hg).trans (HCA.out 9 (by decide))
     have hns:=str_size m.name
     have hgs:=str_size m.grade
     clear HGQ hq hql
     by_cases c1:m.outer.o.steps.length≤20
     case neg =>
      have e1:=hid (HN.out (by unfold fewS;rw [decide_eq_false c1];simp))
      have f1:((20:Int) < (m.outer.o.steps.length:Int))=True:=eq_true (by omega)
      clear c1 HY HNI
      clear HSG HN
      go_wp2
      go_ret
      exact ⟨by rw [e1.out];all_goals rfl,HB2.out⟩
     case pos =>
     have f1:((20:Int) < (m.outer.o.steps.length:Int))=False:=eq_false (by omega)
     by_cases c2:m.holes.length≤3
     case neg =>
      have e1:=hid (HN.out (by unfold fewS;rw [decide_eq_false c2];simp))
      have f2:((3:Int) < (m.holes.length:Int))=True:=eq_true (by omega)
      clear c2 HY HNI
      clear HSG HN
      go_wp2
      go_ret
      exact ⟨by rw [e1.out];all_goals rfl,HB2.out⟩
     case pos =>
     have f2:((3:Int) < (m.holes.length:Int))=False:=eq_false (by omega)
     by_cases c3:m.turns.length≤10
     case neg =>
      have e1:=hid (HN.out (by unfold fewS;rw [decide_eq_false c3];simp))
      have f3:((10:Int) < (m.turns.length:Int))=True:=eq_true (by omega)
      clear c3 HY HNI
      clear HSG HN
      go_wp2
      go_ret
      exact ⟨by rw [e1.out];all_goals rfl,HB2.out⟩
     case pos =>
     have f3:((10:Int) < (m.turns.length:Int))=False:=eq_false (by omega)
     by_cases c4:m.name.length≤40
     case neg =>
      have e1:=hid (HN.out (by unfold fewS;rw [decide_eq_false c4];simp))
      have f4:((40:Int) < (m.name.length:Int))=True:=eq_true (by omega)
      clear c4 HY HNI
      clear HSG HN
      go_wp2
      go_ret
      exact ⟨by rw [e1.out];all_goals rfl,HB2.out⟩
     case pos =>
     have f4:((40:Int) < (m.name.length:Int))=False:=eq_false (by omega)
     by_cases c5:m.grade.length≤40
     case neg =>
      have e1:=hid (HN.out (by unfold fewS;rw [decide_eq_false c5];simp))
      have f5:((40:Int) < (m.grade.length:Int))=True:=eq_true (by omega)
      clear c5 HY HNI
      clear HSG HN
      go_wp2
      go_ret
      exact ⟨by rw [e1.out];all_goals rfl,HB2.out⟩
     case pos =>
     have f5:((40:Int) < (m.grade.length:Int))=False:=eq_false (by omega)
     have HSK:=hid (HSG.out (by unfold fewS;rw [HQA.out,decide_eq_true c1,decide_eq_true c2,decide_eq_true c3,decide_eq_true c4,decide_eq_true c5];rfl))
     clear HSG HN c1 c2 c3 c4 c5 HY HNI HQA
     go_wp2
     go_roundw
     case rel=>exact ⟨k+1,by go_num,by have:=HKL.out;omega,HSK,HBT⟩
     case measure=>simp [intOf];have:=HKL.out;omega
  ·obtain rfl:k=ms.length:=by omega
   have e1:=hid (HYES.out (fun m h=>HG.out m h h))
   clear HNO HYES HG hk hkl
   by_cases c1:ms.length≤n
   ·rw [decide_eq_true c1] at e1
    have f1:((ms.length:Int)≤(n:Int))=True:=eq_true (by omega)
    clear c1
    go_wp2
    go_ret
    exact ⟨by rw [e1.out];all_goals rfl,HB.out⟩
   ·rw [decide_eq_false c1] at e1
    have f1:((ms.length:Int)≤(n:Int))=False:=eq_false (by omega)
    clear c1
    go_wp2
    go_ret
    exact ⟨by rw [e1.out];all_goals rfl,HB.out⟩
end Go.Proofs.YtnkkcknogkgdkaaGreatDoor.PaW

namespace Go.Proofs.YtnkkcknogkgdkaaGreatDoor.PaW
open Lib (hid)
open Go Go.RowKit Go.Proofs.YtnkkcknogkgdkaaGreatDoor.Mem Go.Proofs.YtnkkcknogkgdkaaGreatDoor.Pa
open Go.Proofs.YtnkkcknogkgdkaaGreatDoor.Ge (V)
theorem cells_vec : Tryz.prog.cellsOf 35 = 2:=by kernel_rfl
theorem cells_ints : Tryz.prog.cellsOf 33 = 1:=by kernel_rfl
theorem cells_int : Tryz.prog.cellsOf 3 = 1:=by kernel_rfl
theorem cells_str : Tryz.prog.cellsOf 9 = 1:=by kernel_rfl
theorem bytes_int : Tryz.prog.bytesOf 3 = 8:=by kernel_rfl
theorem list_of {α:Type} (f:α→List Value) (good:α→Prop):∀ (css:List (List Value)),(∀ cs∈css,∃ x,good x∧cs=f x)→∃ xs:List α,xs.length=css.length∧css.flatten=xs.flatMap f∧∀ x∈xs,good x
 | [],_=>⟨[],rfl,rfl,by simp⟩
 | c::r,h=>by
  obtain ⟨x,hx,rfl⟩:=h c (by simp)
  obtain ⟨xs,h1,h2,h3⟩:=list_of f good r fun c' h'=>h c' (by simp [h'])
  exact ⟨x::xs,by simp [h1],by rw [List.flatten_cons,h2,List.flatMap_cons],by simpa [hx] using h3⟩
theorem list2 {α:Type} {l:List α} (h:l.length=2):∃ v0 v1,l=[v0,v1]:=by
 match l,h with
 | [v0,v1],_=>exact ⟨v0,v1,rfl⟩
theorem list5 {α:Type} {l:List α} (h:l.length=5):∃ v0 v1 v2 v3 v4,l=[v0,v1,v2,v3,v4]:=by
 match l,h with
 | [v0,v1,v2,v3,v4],_=>exact ⟨v0,v1,v2,v3,v4,rfl⟩
theorem list6 {α:Type} {l:List α} (h:l.length=6):∃ v0 v1 v2 v3 v4 v5,l=[v0,v1,v2,v3,v4,v5]:=by
 match l,h with
 | [v0,v1,v2,v3,v4,v5],_=>exact ⟨v0,v1,v2,v3,v4,v5,rfl⟩
def intCell (n:Int):List Value:=[.int .i64 n]
theorem int_map (l:List Int):l.flatMap intCell=l.map (Value.int .i64):=by
 induction l with
 | nil=>rfl
 | cons x r ih=>rw [List.flatMap_cons,List.map_cons,ih];rfl
section
variable {H:Type} {enc:TypeId×Value→H} {w:World} {held:Bool}
theorem slice_of {P:Program} {t e:TypeId} {fuel:Nat} {cs:List Value} {x:DataW H×List MemPlace} (ht:P.underlying t=some (.slice e)) (h:DataW.trod enc P w 0 (fun _=>true) held fuel t cs=some x):∃ A len cap,cs=[.slice A len cap]:=by
 rcases DataW.trod_slice ht h with ⟨h0,_⟩ | ⟨a,len',cap',_,_,_,_,h0,_⟩
 ·exact ⟨_,_,_,h0⟩
 ·exact ⟨_,_,_,h0⟩
theorem open_point (cs:List Value) (n:Nat) (y:DataW H×List MemPlace) (hy:DataW.trod enc Tryz.prog w 0 (fun _=>true) held n 35 cs=some y):∃ v:V,cs=[.int .i64 v.1,.int .i64 v.2]:=by
 obtain ⟨xs,m,_,_,hl,hxs,hf⟩:=DataW.trod_struct Tryz.underlying35 hy
 rw [cells_vec] at hl
 have hxs2:xs.length=2:=hxs
 obtain ⟨x0,x1,rfl⟩:=list2 hxs2
 obtain ⟨v0,v1,rfl⟩:=list2 hl
 have h0:DataW.trod enc Tryz.prog w 0 (fun _=>true) held m 3 (([v0,v1].drop 0).take (Tryz.prog.cellsOf 3))=some x0:=hf 0 _ rfl
 have h1:DataW.trod enc Tryz.prog w 0 (fun _=>true) held m 3 (([v0,v1].drop 1).take (Tryz.prog.cellsOf 3))=some x1:=hf 1 _ rfl
 rw [cells_int] at h0 h1
 simp only [List.drop_zero,List.take_succ_cons,List.take_zero,List.drop_succ_cons] at h0 h1
 obtain ⟨c0,e0,_,_⟩:=DataW.trod_int Tryz.underlying3 h0
 obtain ⟨c1,e1,_,_⟩:=DataW.trod_int Tryz.underlying3 h1
 simp only [List.cons.injEq,and_true] at e0 e1
 subst e0 e1
 exact ⟨(c0,c1),rfl⟩
theorem open_int1 (cs:List Value) (n:Nat) (y:DataW H×List MemPlace) (hy:DataW.trod enc Tryz.prog w 0 (fun _=>true) held n 3 cs=some y) (_hw:∀ k∈y.1.weights Tryz.prog 3,k≤reachBytes):∃ s:Int,True∧cs=intCell s:=by
 obtain ⟨c0,e0,_,_⟩:=DataW.trod_int Tryz.underlying3 hy
 exact ⟨c0,trivial,e0⟩
theorem open_ints (A:Option Addr) (len cap:Nat) (n:Nat) (y:DataW H×List MemPlace) (hy:DataW.trod enc Tryz.prog w 0 (fun _=>true) held n 33 [.slice A len cap]=some y) (hw:∀ k∈y.1.weights Tryz.prog 33,k≤reachBytes) :
  ∃ l:List Int,l.length=len∧Row w A (l.flatMap intCell)∧len≤140737488355328∧len≤cap∧∀ x∈l,(fun _=>True) x:=by
 obtain ⟨css,n1,el,re,k1,k2,k3,k4,k5,k6⟩:=open_fuel Tryz.underlying33 (by rw [cells_int];decide) hy
 obtain ⟨l,q1,q2,q3⟩:=list_of intCell (fun _=>True) css fun cs hcs=>by
  obtain ⟨hcl,y,hy,hin⟩:=k6 cs hcs
  refine open_int1 cs n1 y hy ?_
  rcases k5 with h0 | ⟨hx,_⟩
  ·have:css=[]:=List.length_eq_zero_iff.1 (k1.trans h0)
   subst this
   cases hcs
  ·rw [hx] at hw
   exact (weights_slice Tryz.underlying33 hw).2 _ hin
 have f1:len≤140737488355328:=by
  rcases k5 with h0 | ⟨hx,hlen⟩
  ·omega
  ·rw [hx] at hw
   have:=(weights_slice Tryz.underlying33 hw).1
   rw [bytes_int,hlen] at this
   have hr:reachBytes=140737488351232:=rfl
   rw [hr] at this
   omega
 rw [q2] at k2
 exact ⟨l,by omega,k2,f1,by omega,q3⟩
end
end Go.Proofs.YtnkkcknogkgdkaaGreatDoor.PaW
