/- Walk: of the reference: whether a shape has few vertices; lists of shapes opened. Conditions: they lie in memory. -/
import Derived.Test.YtnmmhcchpcbeeaaGreatMem2
import Derived.Deep.Slices
import Derived.ChangeArms
import Derived.Test.YtnmmhcchpcbeeaaGreatDr1
import Derived.OpenShut
import Derived.Lib.SmallJoins

namespace Go.Proofs.YtnmmhcchpcbeeaaGreat.Mem
open Lib (hid)
open Go Go.RowKit

theorem choose_lt' {α:Type} {p:Nat→α→Prop} : ∀ (m:Nat),(∀ i,i < m→∃ a,p i a)→∃ l:List α,l.length=m∧∀ i (h:i < l.length),p i l[i]
 | 0,_=>⟨[],rfl,fun i h=>by simp at h⟩
 | m+1,h=>by
  obtain ⟨l,hl,hp⟩:=choose_lt' m fun i hi=>h i (by omega)
  obtain ⟨a,ha⟩:=h m (by omega)
  refine ⟨l++[a],by simp [hl],fun i hi=>?_⟩
  by_cases hlt:i < l.length
  ·rw [List.getElem_append_left hlt];exact hp i hlt
  ·have hi':i=l.length:=by simp at hi;omega
   subst hi'
   rw [List.getElem_append_right (Nat.le_refl _)]
   simp only [Nat.sub_self,List.getElem_cons_zero]
   rw [hl];exact ha

theorem flatten_get {n:Nat} : ∀ (l:List (List Value)),(∀ c∈l,c.length=n)→∀ (i f:Nat) (h:i < l.length),f < n→l.flatten[i*n+f]? = l[i][f]?
 | [],_,i,f,h,_=>by simp at h
 | c::r,hc,0,f,_,hf=>by
  have:=hc c (by simp)
  show (c++r.flatten)[0*n+f]? = _
  rw [Nat.zero_mul,Nat.zero_add,List.getElem?_append_left (by omega)];rfl
 | c::r,hc,i+1,f,h,hf=>by
  have h0:=hc c (by simp)
  show (c++r.flatten)[(i+1)*n+f]? = _
  have e:(i+1)*n+f - c.length=i*n+f:=by rw [h0,Nat.add_mul];omega
  rw [List.getElem?_append_right (by rw [h0,Nat.add_mul];omega),e,flatten_get r (fun c' h'=>hc c' (by simp [h'])) i f (by simpa using h) hf];rfl
theorem flatten_len {n:Nat} : ∀ (l:List (List Value)),(∀ c∈l,c.length=n)→l.flatten.length=l.length*n
 | [],_=>by simp
 | c::r,hc=>by
  have h0:=hc c (by simp)
  have:=flatten_len r fun c' h'=>hc c' (by simp [h'])
  rw [List.flatten_cons,List.length_append,this,h0,List.length_cons,Nat.add_mul];omega

theorem addr_add (a:Addr) (h:a.spot=none) (i:Nat):a.add i=⟨a.block,a.off+i,none⟩:=by
 obtain ⟨b,o,s⟩:=a
 simp only at h
 subst h
 by_cases h0:i=0
 ·subst h0;rfl
 ·show (if i=0 then _ else _)=_
  rw [if_neg h0]

section
variable {H:Type} {enc:TypeId×Value→H} {P:Program} {w:World} {held:Bool}
theorem weights_all {e:TypeId} {d:DataW H} {k:Nat} : ∀ (l:List (DataW H)),d∈l→k∈d.weights P e→k∈DataW.weightsAll P e l
 | x::r,hd,hk=>by
  unfold DataW.weightsAll
  rcases List.mem_cons.1 hd with rfl | h
  ·exact List.mem_append_left _ hk
  ·exact List.mem_append_right _ (weights_all r h hk)
theorem weights_slice {t e:TypeId} (ht:P.underlying t=some (.slice e)) {elems rest:List (DataW H)} (hw:∀ k∈(DataW.slice elems rest).weights P t,k≤reachBytes) :
  elems.length*P.bytesOf e≤reachBytes∧∀ d∈elems,∀ k∈d.weights P e,k≤reachBytes:=by
 have h0:(DataW.slice elems rest).weights P t=(elems.length+rest.length)*P.bytesOf e::(DataW.weightsAll P e elems++DataW.weightsAll P e rest):=by
  rw [DataW.weights,ht]
 rw [h0] at hw
 refine ⟨?_,fun d hd k hk=>hw k (List.mem_cons_of_mem _ (List.mem_append_left _ (weights_all elems hd hk)))⟩
 have:=hw _ (List.mem_cons_self ..)
 rw [Nat.add_mul] at this
 omega
theorem open_fuel {t e:TypeId} {A:Option Addr} {len cap fuel:Nat} {x:DataW H×List MemPlace} (ht:P.underlying t=some (.slice e)) (hn:0 < P.cellsOf e)
  (h:DataW.trod enc P w 0 (fun _=>true) held fuel t [.slice A len cap]=some x) :
  ∃ (css:List (List Value)) (n:Nat) (elems rest:List (DataW H)),css.length=len∧Row w A css.flatten∧len≤cap∧n < fuel∧(len=0∨x.1=.slice elems rest∧elems.length=len) ∧
   ∀ cs∈css,cs.length=P.cellsOf e∧∃ y,DataW.trod enc P w 0 (fun _=>true) held n e cs=some y∧y.1∈elems:=by
 rcases DataW.trod_slice ht h with ⟨h0,hx⟩ | ⟨a,len',cap',elems,rest,n,rfl,h0,rfl,_,hl,hm,hlen,hel,_,_⟩
 ·simp only [List.cons.injEq,Value.slice.injEq,and_true] at h0
  obtain ⟨rfl,rfl,rfl⟩:=h0
  have hf:0 < fuel:=by
   rcases fuel with _ | _
   ·simp [DataW.trod] at h
   ·omega
  exact ⟨[],0,[],[],rfl,Row.nil _ _,Nat.le_refl _,hf,.inl rfl,by simp⟩
 ·simp only [List.cons.injEq,Value.slice.injEq,and_true] at h0
  obtain ⟨rfl,rfl,rfl⟩:=h0
  obtain ⟨l,hll,hlp⟩:=choose_lt' (p:=fun i cs=>w.cells? 0 (a.add (i*P.cellsOf e)) (P.cellsOf e)=some cs∧∃ y,DataW.trod enc P w 0 (fun _=>true) held n e cs=some y∧y.1∈elems.map (·.1)) len fun i hi=>by
   have h1:=hel i hi
   rw [List.getElem?_eq_getElem (by omega)] at h1
   obtain ⟨cs,h2,h3⟩:=Option.bind_eq_some_iff.1 h1
   exact ⟨cs,h2,_,h3,List.mem_map_of_mem (List.getElem_mem _)⟩
  have hlen:∀ cs∈l,cs.length=P.cellsOf e:=by
   intro cs hcs
   obtain ⟨i,hi,rfl⟩:=List.getElem_of_mem hcs
   exact (World.cells?_some (hlp i hi).1).2.1
  refine ⟨l,n,elems.map (·.1),rest.map (·.1),hll,?_,hl,Nat.lt_succ_self n,.inr ⟨rfl,by rw [List.length_map];omega⟩,fun cs hcs=>⟨hlen cs hcs,?_⟩⟩
  ·intro hne
   have hfl:=flatten_len l hlen
   have hpos:0 < l.length:=by
    rcases l with _ | _
    ·exact absurd rfl hne
    ·simp
   have cell:=fun (i:Nat) (hi:i < l.length)=>(World.cells?_some (hlp i hi).1).2.2
   have hsome:∃ v,w.cell? a=some v:=by
    have h2:=cell 0 hpos 0 hn
    rw [Nat.zero_mul] at h2
    simp only [Addr.add,if_true] at h2
    rw [h2,List.getElem?_eq_getElem (by rw [hlen _ (List.getElem_mem hpos)];exact hn)]
    exact ⟨_,rfl⟩
   obtain ⟨v,hv⟩:=hsome
   have hspot:a.spot=none:=by
    unfold World.cell? at hv
    split at hv
    ·split at hv
     ·cases hv
     ·rename_i hs;simpa using hs
    ·cases hv
   have hb:a.block < w.heap.size:=by
    by_cases hlt:a.block < w.heap.size
    ·exact hlt
    ·unfold World.cell? at hv
     rw [Array.getElem?_eq_none (Nat.le_of_not_lt hlt)] at hv
     cases hv
   refine ⟨a.block,a.off,?_,hb,fun j hj=>?_⟩
   ·obtain ⟨b,o,s⟩:=a
    simp only at hspot
    subst hspot;rfl
   ·rw [hfl] at hj
    have hi:j / P.cellsOf e < l.length:=Nat.div_lt_of_lt_mul (by rw [Nat.mul_comm];exact hj)
    have hf:j % P.cellsOf e < P.cellsOf e:=Nat.mod_lt _ hn
    have hj2:j=j / P.cellsOf e*P.cellsOf e+j % P.cellsOf e:=by rw [Nat.mul_comm];exact (Nat.div_add_mod _ _).symm
    have h2:=cell _ hi _ hf
    have h3:=flatten_get l hlen _ _ hi hf
    rw [← hj2] at h3
    rw [h3,← h2,addr_add a hspot,addr_add _ rfl]
    simp only
    rw [Nat.add_assoc,← hj2]
  ·obtain ⟨i,hi,rfl⟩:=List.getElem_of_mem hcs
   exact (hlp i hi).2
end
end Go.Proofs.YtnmmhcchpcbeeaaGreat.Mem

namespace Go.Proofs.YtnmmhcchpcbeeaaGreat.GeW
open Lib (hid)
open Go Go.RowKit Go.Proofs.YtnmmhcchpcbeeaaGreat.Mem Go.Proofs.YtnmmhcchpcbeeaaGreat.Ge
attribute [local go_sem ↓] Go.wp_at_zero Go.wp_at_succ
theorem wrapEq (x:Int):IntKind.i64.wrap x=wrap64 x:=by rw [IntKind.wrap_i64];unfold wrap64;omega
structure ShapeRaw (w:World) (m:ShapeM):Prop where
 ro:Row w m.o.A (m.o.l.flatMap ptCells)
 rB:Row w m.B (m.hs.map rowVal)
 rh:∀ r∈m.hs,Row w r.A (r.l.flatMap ptCells)
 len:∀ r∈ringsM m,r.l.length≤8796093022208∧r.l.length≤r.k
 room:m.hs.length≤m.k
 some:m.hs.length≤8796093022208
theorem ShapeRaw.below {w w':World} {m:ShapeM} (h:ShapeRaw w m) (hb:Below w.heap.size w w'):ShapeRaw w' m :=
 ⟨h.ro.below hb,h.rB.below hb,fun r hr=>(h.rh r hr).below hb,h.len,h.room,h.some⟩
def fewB (m:ShapeM):Bool:=decide (m.hs.length≤8)&&decide (total (m.o.l::holesL m)≤100)
theorem total_mem:∀ (ls:List (List V)) (l:List V),l∈ls→l.length≤total ls
 | [],l,h=>by cases h
 | x::r,l,h=>by
  rw [total]
  rcases List.mem_cons.1 h with rfl | h
  ·omega
  ·have:=total_mem r l h
   omega
theorem ShapeRaw.few {w:World} {m:ShapeM} (h:ShapeRaw w m) (hf:fewB m=true):ShapeIn w m:=by
 unfold fewB at hf
 simp only [Bool.and_eq_true,decide_eq_true_eq] at hf
 refine ⟨h.ro,h.rB,h.rh,by omega,fun r hr=>⟨?_,(h.len r hr).2⟩,h.room⟩
 have:r.l∈m.o.l::holesL m:=by
  rcases List.mem_cons.1 hr with rfl | hr
  ·simp
  ·exact List.mem_cons_of_mem _ (List.mem_map_of_mem hr)
 have:=total_mem _ _ this
 omega
set_option maxRecDepth 100000 in
set_option maxHeartbeats 1000000 in
theorem few_any (m:ShapeM) (w:World) (h:ShapeRaw w m) :
  Calls Tryz.prog 9 #[.agg #[.slice m.o.A m.o.l.length m.o.k,.slice m.B m.hs.length m.k]] w fun e w'=>e=.returned (.bool (fewB m))∧Below w.heap.size w w':=by
 have HO:=hid (one_vec w (.cells #[.slice m.o.A m.o.l.length m.o.k,.slice m.B m.hs.length m.k] 29))
 have HB0:=hid HO.out.1
 have H2:=hid HO.out.2
 have HRB:=hid (h.rB.below HB0.out)
 have HLN:=hid h.len
 have hsm:=h.some
 have HFB:Hid (fewB m=(decide (m.hs.length≤8)&&decide (total (m.o.l::holesL m)≤100))):=hid rfl
 generalize fewB m=fb at *
 clear h
 go_enter Tryz.func9,Tryz.ntmps9
 go_upto_region 1 with fail
 generalize hWA:w.alloc (.cells #[.slice m.o.A m.o.l.length m.o.k,.slice m.B m.hs.length m.k] 29)=W at *
 have HBW:Hid (Below W.heap.size W W):=hid (Below.refl _ _)
 have c0:W.cell? ⟨w.heap.size,0,none⟩=some (.slice m.o.A m.o.l.length m.o.k):=by rw [Lib.cell_of_heap ((HBW.out.block _ (lt_of_block H2.out)).trans H2.out)];rfl
 have c1:W.cell? ⟨w.heap.size,1,none⟩=some (.slice m.B m.hs.length m.k):=by rw [Lib.cell_of_heap ((HBW.out.block _ (lt_of_block H2.out)).trans H2.out)];rfl
 clear hWA
 go_wp2
 clear c0 c1
 go_loopw [3,4] (fun n i wr=>∃ (k:Nat) (v:Int),n=.int .i64 v∧i=.int .i64 (k:Int)∧k≤m.hs.length∧Hid (k≤8→v=(total (m.o.l::(holesL m).take k):Nat))∧Hid (Below W.heap.size W wr)) (fun _ i _=>m.hs.length - (intOf i).toNat)
 case atStart=>exact ⟨0,_,rfl,rfl,Nat.zero_le _,hid (fun _=>by simp [total]),HBW⟩
 case round =>
  obtain ⟨k,v,rfl,rfl,hk,HV,HB⟩:=hrel
  have c0:wr.cell? ⟨w.heap.size,0,none⟩=some (.slice m.o.A m.o.l.length m.o.k):=by rw [Lib.cell_of_heap ((HB.out.block _ (lt_of_block H2.out)).trans H2.out)];rfl
  have c1:wr.cell? ⟨w.heap.size,1,none⟩=some (.slice m.B m.hs.length m.k):=by rw [Lib.cell_of_heap ((HB.out.block _ (lt_of_block H2.out)).trans H2.out)];rfl
  by_cases hlt:k < m.hs.length
  ·have HTN:Hid ((total (m.o.l::(holesL m).take (k+1)):Int)=(total (m.o.l::(holesL m).take k):Int)+(m.hs[k].l.length:Int)):=hid (by
    have e:(holesL m).take (k+1)=(holesL m).take k++[m.hs[k].l]:=by
     rw [List.take_succ_eq_append_getElem (by simpa [holesL] using hlt)]
     simp [holesL]
    rw [e,← List.cons_append,total_snoc]
    omega)
   have HTL:Hid (k≤8→total (m.o.l::(holesL m).take k)≤9*8796093022208):=hid (fun h8=>by
    refine Nat.le_trans (total_le 8796093022208 _ (fun y hy=>?_)) (Nat.mul_le_mul_right _ ?_)
    ·rcases List.mem_cons.1 hy with rfl | hy
     ·exact (HLN.out m.o (by simp [ringsM])).1
     ·obtain ⟨z,hz,rfl⟩:=List.mem_map.1 (List.mem_of_mem_take hy)
      exact (HLN.out z (List.mem_cons_of_mem _ hz)).1
    ·simp [holesL]
     omega)
   have HLX:Hid (m.hs[k].l.length≤8796093022208):=hid (HLN.out _ (List.mem_cons_of_mem _ (List.getElem_mem hlt))).1
   obtain ⟨g,off,hB,hg,hc⟩:=row_one HRB.out (k:=k) (by simpa using hlt)
   have ck:=(HB.out.cell (p:=⟨g,off+k,none⟩) hg).trans (hc k (by simpa using hlt))
   rw [List.getElem_map] at ck
   generalize m.hs[k]=x at *
   unfold rowVal at ck
   have hk1:(0:Int)≤(k:Int):=by omega
   have hk2:(k:Int) < (m.hs.length:Int):=by omega
   have HV2:Hid (k+1≤8→IntKind.i64.wrap (v+(x.l.length:Int))=(total (m.o.l::(holesL m).take (k+1)):Nat)):=hid (fun h8=>by
    have e1:=HV.out (by omega)
    have e2:=HTL.out (by omega)
    have e3:=HLX.out
    have e4:=HTN.out
    rw [e4,← e1]
    rw [IntKind.wrap_i64]
    omega)
   clear hc
   rw [hB] at c1 ⊢
   go_wp2
   go_roundw
   case rel=>exact ⟨k+1,_,rfl,by go_num,by omega,hid (fun h=>by rw [← wrapEq];exact HV2.out h),HB⟩
   case measure=>simp [intOf];omega
  ·obtain rfl:k=m.hs.length:=by omega
   have HTL:Hid ((holesL m).take m.hs.length=holesL m):=hid (by rw [show m.hs.length=(holesL m).length by simp [holesL],List.take_length])
   rw [HTL.out] at HV
   by_cases h8:m.hs.length≤8
   ·have d8:decide ((m.hs.length:Int)≤8)=true:=decide_eq_true (by omega)
    have hv:=HV.out h8
    by_cases h100:total (m.o.l::holesL m)≤100
    ·have d1:decide (v≤100)=true:=decide_eq_true (by omega)
     have HF:Hid (fb=true):=hid (by rw [HFB.out,decide_eq_true h8,decide_eq_true h100];rfl)
     clear hv h8 h100 HTL HV
     go_wp2
     go_ret
     rw [HF.out]
     exact ⟨rfl,HB0.out.trans (HB.out.mono HB0.out.size)⟩
    ·have d1:decide (v≤100)=false:=decide_eq_false (by omega)
     have HF:Hid (fb=false):=hid (by rw [HFB.out,decide_eq_false h100];simp)
     clear hv h8 h100 HTL HV
     go_wp2
     go_ret
     rw [HF.out]
     exact ⟨rfl,HB0.out.trans (HB.out.mono HB0.out.size)⟩
   ·have d8:decide ((m.hs.length:Int)≤8)=false:=decide_eq_false (by omega)
    have HF:Hid (fb=false):=hid (by rw [HFB.out,decide_eq_false h8];rfl)
    clear h8 HTL HV
    go_wp2
    go_ret
    rw [HF.out]
    exact ⟨rfl,HB0.out.trans (HB.out.mono HB0.out.size)⟩
/-! ### Shapes opened -/
theorem cells_vec : Tryz.prog.cellsOf 53 = 2:=by kernel_rfl
theorem cells_ring : Tryz.prog.cellsOf 26 = 1:=by kernel_rfl
theorem cells_rings : Tryz.prog.cellsOf 27 = 1:=by kernel_rfl
theorem cells_shape : Tryz.prog.cellsOf 29 = 2:=by kernel_rfl
theorem cells_int : Tryz.prog.cellsOf 3 = 1:=by kernel_rfl
theorem two {α:Type} {l:List α} (h:l.length=2):∃ a b,l=[a,b]:=by
 match l,h with
 | [a,b],_=>exact ⟨a,b,rfl⟩
section
variable {H:Type} {enc:TypeId×Value→H} {w:World} {held:Bool}
theorem slice_of {P:Program} {t e:TypeId} {fuel:Nat} {cs:List Value} {x:DataW H×List MemPlace} (ht:P.underlying t=some (.slice e)) (h:DataW.trod enc P w 0 (fun _=>true) held fuel t cs=some x):∃ A len cap,cs=[.slice A len cap]:=by
 rcases DataW.trod_slice ht h with ⟨h0,_⟩ | ⟨a,len',cap',_,_,_,_,h0,_⟩
 ·exact ⟨_,_,_,h0⟩
 ·exact ⟨_,_,_,h0⟩
theorem one_cells (A:Option Addr) (len cap:Nat):(Value.slice A len cap).cells.toList=[Value.slice A len cap]:=by simp [Value.cells]
theorem bytes_ring : Tryz.prog.bytesOf 26 = 24:=by kernel_rfl
theorem bytes_vec : Tryz.prog.bytesOf 53 = 16:=by kernel_rfl
theorem open_point (cs:List Value) (n:Nat) (y:DataW H×List MemPlace) (hy:DataW.trod enc Tryz.prog w 0 (fun _=>true) held n 53 cs=some y):∃ v:V,cs=ptCells v:=by
 obtain ⟨xs,m,_,_,hl,hxs,hf⟩:=DataW.trod_struct Tryz.underlying53 hy
 rw [cells_vec] at hl
 have h0:DataW.trod enc Tryz.prog w 0 (fun _=>true) held m 3 ((cs.drop 0).take (Tryz.prog.cellsOf 3))=xs[0]?:=hf 0 _ rfl
 have h1:DataW.trod enc Tryz.prog w 0 (fun _=>true) held m 3 ((cs.drop 1).take (Tryz.prog.cellsOf 3))=xs[1]?:=hf 1 _ rfl
 rw [cells_int] at h0 h1
 have hxs2:xs.length=2:=hxs
 rw [List.getElem?_eq_getElem (by omega)] at h0 h1
 obtain ⟨c0,e0,_,_⟩:=DataW.trod_int Tryz.underlying3 h0
 obtain ⟨c1,e1,_,_⟩:=DataW.trod_int Tryz.underlying3 h1
 clear h0 h1 hf
 obtain ⟨a,b,rfl⟩:=two hl
 simp only [List.drop_zero,List.take_succ_cons,List.take_zero,List.drop_succ_cons,List.cons.injEq,and_true] at e0 e1
 subst e0 e1
 exact ⟨(c0,c1),rfl⟩
theorem list_of {α:Type} (f:α→List Value) (good:α→Prop):∀ (css:List (List Value)),(∀ cs∈css,∃ x,good x∧cs=f x)→∃ xs:List α,xs.length=css.length∧css.flatten=xs.flatMap f∧∀ x∈xs,good x
 | [],_=>⟨[],rfl,rfl,by simp⟩
 | c::r,h=>by
  obtain ⟨x,hx,rfl⟩:=h c (by simp)
  obtain ⟨xs,h1,h2,h3⟩:=list_of f good r fun c' h'=>h c' (by simp [h'])
  exact ⟨x::xs,by simp [h1],by rw [List.flatten_cons,h2,List.flatMap_cons],by simpa [hx] using h3⟩
def RingRaw (w:World) (r:RowV):Prop:=Row w r.A (r.l.flatMap ptCells)∧r.l.length≤8796093022208∧r.l.length≤r.k
theorem open_ring (cs:List Value) (n:Nat) (y:DataW H×List MemPlace) (hy:DataW.trod enc Tryz.prog w 0 (fun _=>true) held n 26 cs=some y) (hw:∀ k∈y.1.weights Tryz.prog 26,k≤reachBytes):∃ r:RowV,RingRaw w r∧cs=[rowVal r]:=by
 obtain ⟨A,len,cap,rfl⟩:=slice_of Tryz.underlying26 hy
 obtain ⟨css,n1,el,re,k1,k2,k3,k4,k5,k6⟩:=open_fuel Tryz.underlying26 (by rw [cells_vec];decide) hy
 obtain ⟨l,q1,q2,_⟩:=list_of ptCells (fun _=>True) css fun cs hcs=>by
  obtain ⟨_,y,hy,_⟩:=k6 cs hcs
  obtain ⟨v,hv⟩:=open_point cs n1 y hy
  exact ⟨v,trivial,hv⟩
 have f1:len≤8796093022208:=by
  rcases k5 with h0 | ⟨hx,hlen⟩
  ·omega
  ·rw [hx] at hw
   have:=(weights_slice Tryz.underlying26 hw).1
   rw [bytes_vec,hlen] at this
   have hr:reachBytes=140737488351232:=rfl
   rw [hr] at this
   omega
 rw [q2] at k2
 have hl:l.length=len:=by omega
 refine ⟨⟨l,A,cap⟩,⟨k2,by show l.length≤_;omega,by show l.length≤cap;omega⟩,?_⟩
 unfold rowVal
 rw [hl]
theorem open_shape (cs:List Value) (n:Nat) (y:DataW H×List MemPlace) (hy:DataW.trod enc Tryz.prog w 0 (fun _=>true) held n 29 cs=some y) (hw:∀ k∈y.1.weights Tryz.prog 29,k≤reachBytes):∃ m:ShapeM,ShapeRaw w m∧cs=shapeL m:=by
 obtain ⟨xs,n',rfl,rfl,hl,hxs,hf⟩:=DataW.trod_struct Tryz.underlying29 hy
 rw [cells_shape] at hl
 have hxs2:xs.length=2:=hxs
 obtain ⟨x0,x1,rfl⟩:=two hxs2
 obtain ⟨a,b,rfl⟩:=two hl
 have h0:DataW.trod enc Tryz.prog w 0 (fun _=>true) held n' 26 (([a,b].drop 0).take (Tryz.prog.cellsOf 26))=some x0:=hf 0 _ rfl
 have h1:DataW.trod enc Tryz.prog w 0 (fun _=>true) held n' 27 (([a,b].drop 1).take (Tryz.prog.cellsOf 27))=some x1:=hf 1 _ rfl
 rw [cells_ring] at h0
 rw [cells_rings] at h1
 simp only [List.drop_zero,List.take_succ_cons,List.take_zero,List.drop_succ_cons] at h0 h1
 have hW:(DataW.agg ([x0,x1].map (·.1))).weights Tryz.prog 29 = x0.1.weights Tryz.prog 26++(x1.1.weights Tryz.prog 27++[]):=by
  rw [DataW.weights,Tryz.underlying29]
  rfl
 simp only [hW] at hw
 have hw0:∀ k∈x0.1.weights Tryz.prog 26,k≤reachBytes:=fun k hk=>hw k (List.mem_append_left _ hk)
 have hw1:∀ k∈x1.1.weights Tryz.prog 27,k≤reachBytes:=fun k hk=>hw k (List.mem_append_right _ (List.mem_append_left _ hk))
 obtain ⟨ro,hro,e0⟩:=open_ring _ _ _ h0 hw0
 obtain ⟨B,len,cap,e1⟩:=slice_of Tryz.underlying27 h1
 simp only [List.cons.injEq,and_true] at e0 e1
 subst e0 e1
 obtain ⟨css,n1,el,re,k1,k2,k3,k4,k5,k6⟩:=open_fuel Tryz.underlying27 (by rw [cells_ring];decide) h1
 obtain ⟨hs,q1,q2,q3⟩:=list_of (fun r=>[rowVal r]) (RingRaw w) css fun cs hcs=>by
  obtain ⟨_,y,hy,hin⟩:=k6 cs hcs
  refine open_ring cs n1 y hy ?_
  rcases k5 with h0 | ⟨hx,_⟩
  ·have:css=[]:=List.length_eq_zero_iff.1 (k1.trans h0)
   subst this
   cases hcs
  ·rw [hx] at hw1
   exact (weights_slice Tryz.underlying27 hw1).2 _ hin
 have hl:hs.length=len:=by omega
 have e:hs.flatMap (fun r=>[rowVal r])=hs.map rowVal:=by
  clear q1 q2 q3 hl
  induction hs with
  | nil=>rfl
  | cons x r ih=>rw [List.flatMap_cons,ih];rfl
 rw [q2,e] at k2
 refine ⟨⟨ro,hs,B,cap⟩,⟨hro.1,k2,fun r hr=>(q3 r hr).1,fun r hr=>?_,by show hs.length≤cap;omega,?_⟩,?_⟩
 ·rcases List.mem_cons.1 hr with rfl | hr
  ·exact hro.2
  ·exact (q3 r hr).2
 ·show hs.length≤_
  rcases k5 with h0 | ⟨hx,hlen⟩
  ·omega
  ·rw [hx] at hw1
   have:=(weights_slice Tryz.underlying27 hw1).1
   rw [bytes_ring,hlen] at this
   have hr:reachBytes=140737488351232:=rfl
   rw [hr] at this
   omega
 ·unfold shapeL holesVal
  rw [hl]
structure ShapesRaw (w:World) (A:Option Addr) (len cap:Nat) (ms:List ShapeM):Prop where
 len:ms.length=len
 each:∀ m∈ms,ShapeRaw w m
 row:Row w A (ms.flatMap shapeL)
theorem open_shapes {A:Option Addr} {len cap:Nat} {d:DataW H} {p:List MemPlace} (h:DataW.Trod enc Tryz.prog w 0 (fun _=>true) held 22 (.slice A len cap) d p) (hw:∀ k∈d.weights Tryz.prog 22,k≤reachBytes) :
  ∃ ms:List ShapeM,ShapesRaw w A len cap ms:=by
 obtain ⟨fuel,hf⟩:=h
 rw [one_cells] at hf
 obtain ⟨css,n1,el,re,k1,k2,k3,k4,k5,k6⟩:=open_fuel Tryz.underlying22 (by rw [cells_shape];decide) hf
 obtain ⟨ms,q1,q2,q3⟩:=list_of shapeL (ShapeRaw w) css fun cs hcs=>by
  obtain ⟨_,y,hy,hin⟩:=k6 cs hcs
  refine open_shape cs n1 y hy ?_
  rcases k5 with h0 | ⟨hx,_⟩
  ·have:css=[]:=List.length_eq_zero_iff.1 (k1.trans h0)
   subst this
   cases hcs
  ·simp only at hx
   subst hx
   exact (weights_slice Tryz.underlying22 hw).2 _ hin
 rw [q2] at k2
 exact ⟨ms,by omega,q3,k2⟩
end
end Go.Proofs.YtnmmhcchpcbeeaaGreat.GeW
