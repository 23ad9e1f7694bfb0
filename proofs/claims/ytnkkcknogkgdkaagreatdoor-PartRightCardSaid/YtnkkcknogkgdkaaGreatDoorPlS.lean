/- PartRight's walk. Conditions: none. -/
import Derived.Test.YtnkkcknogkgdkaaGreatDoorPsB
import Derived.Test.YtnkkcknogkgdkaaGreatDoorPcE
import Derived.OpenShut
import Derived.Lib.SmallJoins
import Derived.Test.YtnkkcknogkgdkaaGreatDoorPlP
import Derived.Test.YtnkkcknogkgdkaaGreatDoorPcG
import Derived.MakeChecks
import Derived.HandedShaped
import Derived.Handed
namespace Go.Proofs.YtnkkcknogkgdkaaGreatDoor.GeW
open Lib (hid)
open Go Go.RowKit Go.Proofs.YtnkkcknogkgdkaaGreatDoor.Mem Go.Proofs.YtnkkcknogkgdkaaGreatDoor.Ge
attribute [local go_sem ↓] Go.wp_at_zero Go.wp_at_succ
def shapeL (m:ShapeM):List Value:=[rowVal m.o,holesVal m]
theorem wrapEq (x:Int):IntKind.i64.wrap x=wrap64 x:=by rw [IntKind.wrap_i64];unfold wrap64;omega
structure ShapeRaw (w:World) (m:ShapeM):Prop where
 ro:Row w m.o.A (m.o.l.flatMap ptCells)
 rB:Row w m.B (m.hs.map rowVal)
 rh:∀ r∈m.hs,Row w r.A (r.l.flatMap ptCells)
 len:∀ r∈ringsM m,r.l.length≤8796093022208∧r.l.length≤r.k
 room:m.hs.length≤m.k
 some:m.hs.length≤8796093022208
theorem ShapeRaw.below {w w':World} {m:ShapeM} (h:ShapeRaw w m) (hb:Below w.heap.size w w'):ShapeRaw w' m :=
 ⟨h.ro.below hb,h.rB.below hb,fun r hr=>(h.rh r hr).below hb,h.len,h.room,h.some⟩
def fewB (m:ShapeM):Bool:=decide (m.hs.length≤8)&&decide (total (m.o.l::holesL m)≤100)
theorem total_mem:∀ (ls:List (List V)) (l:List V),l∈ls→l.length≤total ls
 | [],l,h=>by cases h
 | x::r,l,h=>by
  rw [total]
  rcases List.mem_cons.1 h with rfl | h
  ·omega
  ·have:=total_mem r l h
   omega
theorem ShapeRaw.few {w:World} {m:ShapeM} (h:ShapeRaw w m) (hf:fewB m=true):ShapeIn w m:=by
 unfold fewB at hf
 simp only [Bool.and_eq_true,decide_eq_true_eq] at hf
 refine ⟨h.ro,h.rB,h.rh,by omega,fun r hr=>⟨?_,(h.len r hr).2⟩,h.room⟩
 have:r.l∈m.o.l::holesL m:=by
  rcases List.mem_cons.1 hr with rfl | hr
  ·simp
  ·exact List.mem_cons_of_mem _ (List.mem_map_of_mem hr)
 have:=total_mem _ _ this
 omega
set_option maxRecDepth 100000 in
set_option maxHeartbeats 1000000 in
theorem few_any (m:ShapeM) (w:World) (h:ShapeRaw w m) :
  Calls Tryz.prog 24 #[.agg #[.slice m.o.A m.o.l.length m.o.k,.slice m.B m.hs.length m.k]] w fun e w'=>e=.returned (.bool (fewB m))∧Below w.heap.size w w':=by
 have HO:=hid (one_vec w (.cells #[.slice m.o.A m.o.l.length m.o.k,.slice m.B m.hs.length m.k] 48))
 have HB0:=hid HO.out.1
 have H2:=hid HO.out.2
 have HRB:=hid (h.rB.below HB0.out)
 have HLN:=hid h.len
 have hsm:=h.some
 have HFB:Hid (fewB m=(decide (m.hs.length≤8)&&decide (total (m.o.l::holesL m)≤100))):=hid rfl
 generalize fewB m=fb at *
 clear h
 go_enter Tryz.func24,Tryz.ntmps24
 go_upto_region 1 with fail
 generalize hWA:w.alloc (.cells #[.slice m.o.A m.o.l.length m.o.k,.slice m.B m.hs.length m.k] 48)=W at *
 have HBW:Hid (Below W.heap.size W W):=hid (Below.refl _ _)
 have c0:W.cell? ⟨w.heap.size,0,none⟩=some (.slice m.o.A m.o.l.length m.o.k):=by rw [Lib.cell_of_heap ((HBW.out.block _ (lt_of_block H2.out)).trans H2.out)];rfl
 have c1:W.cell? ⟨w.heap.size,1,none⟩=some (.slice m.B m.hs.length m.k):=by rw [Lib.cell_of_heap ((HBW.out.block _ (lt_of_block H2.out)).trans H2.out)];rfl
 clear hWA
 go_wp2
 clear c0 c1
 go_loopw [3,4] (fun n i wr=>∃ (k:Nat) (v:Int),n=.int .i64 v∧i=.int .i64 (k:Int)∧k≤m.hs.length∧Hid (k≤8→v=(total (m.o.l::(holesL m).take k):Nat))∧Hid (Below W.heap.size W wr)) (fun _ i _=>m.hs.length - (intOf i).toNat)
 case atStart=>exact ⟨0,_,rfl,rfl,Nat.zero_le _,hid (fun _=>by simp [total]),HBW⟩
 case round =>
  obtain ⟨k,v,rfl,rfl,hk,HV,HB⟩:=hrel
  have c0:wr.cell? ⟨w.heap.size,0,none⟩=some (.slice m.o.A m.o.l.length m.o.k):=by rw [Lib.cell_of_heap ((HB.out.block _ (lt_of_block H2.out)).trans H2.out)];rfl
  have c1:wr.cell? ⟨w.heap.size,1,none⟩=some (.slice m.B m.hs.length m.k):=by rw [Lib.cell_of_heap ((HB.out.block _ (lt_of_block H2.out)).trans H2.out)];rfl
  by_cases hlt:k < m.hs.length
  ·have HTN:Hid ((total (m.o.l::(holesL m).take (k+1)):Int)=(total (m.o.l::(holesL m).take k):Int)+(m.hs[k].l.length:Int)):=hid (by
    have e:(holesL m).take (k+1)=(holesL m).take k++[m.hs[k].l]:=by
     rw [List.take_succ_eq_append_getElem (by simpa [holesL] using hlt)]
     simp [holesL]
    rw [e,← List.cons_append,total_snoc]
    omega)
   have HTL:Hid (k≤8→total (m.o.l::(holesL m).take k)≤9*8796093022208):=hid (fun h8=>by
    refine Nat.le_trans (total_le 8796093022208 _ (fun y hy=>?_)) (Nat.mul_le_mul_right _ ?_)
    ·rcases List.mem_cons.1 hy with rfl | hy
     ·exact (HLN.out m.o (by simp [ringsM])).1
     ·obtain ⟨z,hz,rfl⟩:=List.mem_map.1 (List.mem_of_mem_take hy)
      exact (HLN.out z (List.mem_cons_of_mem _ hz)).1
    ·simp [holesL]
     omega)
   have HLX:Hid (m.hs[k].l.length≤8796093022208):=hid (HLN.out _ (List.mem_cons_of_mem _ (List.getElem_mem hlt))).1
   obtain ⟨g,off,hB,hg,hc⟩:=row_one HRB.out (k:=k) (by simpa using hlt)
   have ck:=(HB.out.cell (p:=⟨g,off+k,none⟩) hg).trans (hc k (by simpa using hlt))
   rw [List.getElem_map] at ck
   generalize m.hs[k]=x at *
   unfold rowVal at ck
   have hk1:(0:Int)≤(k:Int):=by omega
   have hk2:(k:Int) < (m.hs.length:Int):=by omega
   have HV2:Hid (k+1≤8→IntKind.i64.wrap (v+(x.l.length:Int))=(total (m.o.l::(holesL m).take (k+1)):Nat)):=hid (fun h8=>by
    have e1:=HV.out (by omega)
    have e2:=HTL.out (by omega)
    have e3:=HLX.out
    have e4:=HTN.out
    rw [e4,← e1]
    rw [IntKind.wrap_i64]
    omega)
   clear hc
   rw [hB] at c1 ⊢
   go_wp2
   go_roundw
   case rel=>exact ⟨k+1,_,rfl,by go_num,by omega,hid (fun h=>by rw [← wrapEq];exact HV2.out h),HB⟩
   case measure=>simp [intOf];omega
  ·obtain rfl:k=m.hs.length:=by omega
   have HTL:Hid ((holesL m).take m.hs.length=holesL m):=hid (by rw [show m.hs.length=(holesL m).length by simp [holesL],List.take_length])
   rw [HTL.out] at HV
   by_cases h8:m.hs.length≤8
   ·have d8:decide ((m.hs.length:Int)≤8)=true:=decide_eq_true (by omega)
    have hv:=HV.out h8
    by_cases h100:total (m.o.l::holesL m)≤100
    ·have d1:decide (v≤100)=true:=decide_eq_true (by omega)
     have HF:Hid (fb=true):=hid (by rw [HFB.out,decide_eq_true h8,decide_eq_true h100];rfl)
     clear hv h8 h100 HTL HV
     go_wp2
     go_ret
     rw [HF.out]
     exact ⟨rfl,HB0.out.trans (HB.out.mono HB0.out.size)⟩
    ·have d1:decide (v≤100)=false:=decide_eq_false (by omega)
     have HF:Hid (fb=false):=hid (by rw [HFB.out,decide_eq_false h100];simp)
     clear hv h8 h100 HTL HV
     go_wp2
     go_ret
     rw [HF.out]
     exact ⟨rfl,HB0.out.trans (HB.out.mono HB0.out.size)⟩
   ·have d8:decide ((m.hs.length:Int)≤8)=false:=decide_eq_false (by omega)
    have HF:Hid (fb=false):=hid (by rw [HFB.out,decide_eq_false h8];rfl)
    clear h8 HTL HV
    go_wp2
    go_ret
    rw [HF.out]
    exact ⟨rfl,HB0.out.trans (HB.out.mono HB0.out.size)⟩
/-! Shapes -/
theorem cells_vec : Tryz.prog.cellsOf 35 = 2:=by kernel_rfl
theorem cells_ring : Tryz.prog.cellsOf 45 = 1:=by kernel_rfl
theorem cells_rings : Tryz.prog.cellsOf 46 = 1:=by kernel_rfl
theorem cells_shape : Tryz.prog.cellsOf 48 = 2:=by kernel_rfl
theorem cells_int : Tryz.prog.cellsOf 3 = 1:=by kernel_rfl
theorem two {α:Type} {l:List α} (h:l.length=2):∃ a b,l=[a,b]:=by
 match l,h with
 | [a,b],_=>exact ⟨a,b,rfl⟩
section
variable {H:Type} {enc:TypeId×Value→H} {w:World} {held:Bool}
theorem slice_of {P:Program} {t e:TypeId} {fuel:Nat} {cs:List Value} {x:DataW H×List MemPlace} (ht:P.underlying t=some (.slice e)) (h:DataW.trod enc P w 0 (fun _=>true) held fuel t cs=some x):∃ A len cap,cs=[.slice A len cap]:=by
 rcases DataW.trod_slice ht h with ⟨h0,_⟩ | ⟨a,len',cap',_,_,_,_,h0,_⟩
 ·exact ⟨_,_,_,h0⟩
 ·exact ⟨_,_,_,h0⟩
theorem bytes_ring : Tryz.prog.bytesOf 45 = 24:=by kernel_rfl
theorem bytes_vec : Tryz.prog.bytesOf 35 = 16:=by kernel_rfl
theorem open_point (cs:List Value) (n:Nat) (y:DataW H×List MemPlace) (hy:DataW.trod enc Tryz.prog w 0 (fun _=>true) held n 35 cs=some y):∃ v:V,cs=ptCells v:=by
 obtain ⟨xs,m,_,_,hl,hxs,hf⟩:=DataW.trod_struct Tryz.underlying35 hy
 rw [cells_vec] at hl
 have h0:DataW.trod enc Tryz.prog w 0 (fun _=>true) held m 3 ((cs.drop 0).take (Tryz.prog.cellsOf 3))=xs[0]?:=hf 0 _ rfl
 have h1:DataW.trod enc Tryz.prog w 0 (fun _=>true) held m 3 ((cs.drop 1).take (Tryz.prog.cellsOf 3))=xs[1]?:=hf 1 _ rfl
 rw [cells_int] at h0 h1
 have hxs2:xs.length=2:=hxs
 rw [List.getElem?_eq_getElem (by omega)] at h0 h1
 obtain ⟨c0,e0,_,_⟩:=DataW.trod_int Tryz.underlying3 h0
 obtain ⟨c1,e1,_,_⟩:=DataW.trod_int Tryz.underlying3 h1
 clear h0 h1 hf
 obtain ⟨a,b,rfl⟩:=two hl
 simp only [List.drop_zero,List.take_succ_cons,List.take_zero,List.drop_succ_cons,List.cons.injEq,and_true] at e0 e1
 subst e0 e1
 exact ⟨(c0,c1),rfl⟩
theorem list_of {α:Type} (f:α→List Value) (good:α→Prop):∀ (css:List (List Value)),(∀ cs∈css,∃ x,good x∧cs=f x)→∃ xs:List α,xs.length=css.length∧css.flatten=xs.flatMap f∧∀ x∈xs,good x
 | [],_=>⟨[],rfl,rfl,by simp⟩
 | c::r,h=>by
  obtain ⟨x,hx,rfl⟩:=h c (by simp)
  obtain ⟨xs,h1,h2,h3⟩:=list_of f good r fun c' h'=>h c' (by simp [h'])
  exact ⟨x::xs,by simp [h1],by rw [List.flatten_cons,h2,List.flatMap_cons],by simpa [hx] using h3⟩
def RingRaw (w:World) (r:RowV):Prop:=Row w r.A (r.l.flatMap ptCells)∧r.l.length≤8796093022208∧r.l.length≤r.k
theorem open_ring (cs:List Value) (n:Nat) (y:DataW H×List MemPlace) (hy:DataW.trod enc Tryz.prog w 0 (fun _=>true) held n 45 cs=some y) (hw:∀ k∈y.1.weights Tryz.prog 45,k≤reachBytes):∃ r:RowV,RingRaw w r∧cs=[rowVal r]:=by
 obtain ⟨A,len,cap,rfl⟩:=slice_of Tryz.underlying45 hy
 obtain ⟨css,n1,el,re,k1,k2,k3,k4,k5,k6⟩:=open_fuel Tryz.underlying45 (by rw [cells_vec];decide) hy
 obtain ⟨l,q1,q2,_⟩:=list_of ptCells (fun _=>True) css fun cs hcs=>by
  obtain ⟨_,y,hy,_⟩:=k6 cs hcs
  obtain ⟨v,hv⟩:=open_point cs n1 y hy
  exact ⟨v,trivial,hv⟩
 have f1:len≤8796093022208:=by
  rcases k5 with h0 | ⟨hx,hlen⟩
  ·omega
  ·rw [hx] at hw
   have:=(weights_slice Tryz.underlying45 hw).1
   rw [bytes_vec,hlen] at this
   have hr:reachBytes=140737488351232:=rfl
   rw [hr] at this
   omega
 rw [q2] at k2
 have hl:l.length=len:=by omega
 refine ⟨⟨l,A,cap⟩,⟨k2,by show l.length≤_;omega,by show l.length≤cap;omega⟩,?_⟩
 unfold rowVal
 rw [hl]
theorem open_shape (cs:List Value) (n:Nat) (y:DataW H×List MemPlace) (hy:DataW.trod enc Tryz.prog w 0 (fun _=>true) held n 48 cs=some y) (hw:∀ k∈y.1.weights Tryz.prog 48,k≤reachBytes):∃ m:ShapeM,ShapeRaw w m∧cs=shapeL m:=by
 obtain ⟨xs,n',rfl,rfl,hl,hxs,hf⟩:=DataW.trod_struct Tryz.underlying48 hy
 rw [cells_shape] at hl
 have hxs2:xs.length=2:=hxs
 obtain ⟨x0,x1,rfl⟩:=two hxs2
 obtain ⟨a,b,rfl⟩:=two hl
 have h0:DataW.trod enc Tryz.prog w 0 (fun _=>true) held n' 45 (([a,b].drop 0).take (Tryz.prog.cellsOf 45))=some x0:=hf 0 _ rfl
 have h1:DataW.trod enc Tryz.prog w 0 (fun _=>true) held n' 46 (([a,b].drop 1).take (Tryz.prog.cellsOf 46))=some x1:=hf 1 _ rfl
 rw [cells_ring] at h0
 rw [cells_rings] at h1
 simp only [List.drop_zero,List.take_succ_cons,List.take_zero,List.drop_succ_cons] at h0 h1
 have hW:(DataW.agg ([x0,x1].map (·.1))).weights Tryz.prog 48 = x0.1.weights Tryz.prog 45++(x1.1.weights Tryz.prog 46++[]):=by
  rw [DataW.weights,Tryz.underlying48]
  rfl
 simp only [hW] at hw
 have hw0:∀ k∈x0.1.weights Tryz.prog 45,k≤reachBytes:=fun k hk=>hw k (List.mem_append_left _ hk)
 have hw1:∀ k∈x1.1.weights Tryz.prog 46,k≤reachBytes:=fun k hk=>hw k (List.mem_append_right _ (List.mem_append_left _ hk))
 obtain ⟨ro,hro,e0⟩:=open_ring _ _ _ h0 hw0
 obtain ⟨B,len,cap,e1⟩:=slice_of Tryz.underlying46 h1
 simp only [List.cons.injEq,and_true] at e0 e1
 subst e0 e1
 obtain ⟨css,n1,el,re,k1,k2,k3,k4,k5,k6⟩:=open_fuel Tryz.underlying46 (by rw [cells_ring];decide) h1
 obtain ⟨hs,q1,q2,q3⟩:=list_of (fun r=>[rowVal r]) (RingRaw w) css fun cs hcs=>by
  obtain ⟨_,y,hy,hin⟩:=k6 cs hcs
  refine open_ring cs n1 y hy ?_
  rcases k5 with h0 | ⟨hx,_⟩
  ·have:css=[]:=List.length_eq_zero_iff.1 (k1.trans h0)
   subst this
   cases hcs
  ·rw [hx] at hw1
   exact (weights_slice Tryz.underlying46 hw1).2 _ hin
 have hl:hs.length=len:=by omega
 have e:hs.flatMap (fun r=>[rowVal r])=hs.map rowVal:=by
  clear q1 q2 q3 hl
  induction hs with
  | nil=>rfl
  | cons x r ih=>rw [List.flatMap_cons,ih];rfl
 rw [q2,e] at k2
 refine ⟨⟨ro,hs,B,cap⟩,⟨hro.1,k2,fun r hr=>(q3 r hr).1,fun r hr=>?_,by show hs.length≤cap;omega,?_⟩,?_⟩
 ·rcases List.mem_cons.1 hr with rfl | hr
  ·exact hro.2
  ·exact (q3 r hr).2
 ·show hs.length≤_
  rcases k5 with h0 | ⟨hx,hlen⟩
  ·omega
  ·rw [hx] at hw1
   have:=(weights_slice Tryz.underlying46 hw1).1
   rw [bytes_ring,hlen] at this
   have hr:reachBytes=140737488351232:=rfl
   rw [hr] at this
   omega
 ·unfold shapeL holesVal
  rw [hl]
end
end Go.Proofs.YtnkkcknogkgdkaaGreatDoor.GeW
namespace Go.Proofs.YtnkkcknogkgdkaaGreatDoor.PaW
open Lib (hid)
open Go Go.RowKit Go.Proofs.YtnkkcknogkgdkaaGreatDoor.Mem Go.Proofs.YtnkkcknogkgdkaaGreatDoor.Pa Go.WideShapes
open Go.Proofs.YtnkkcknogkgdkaaGreatDoor.GeW (ptCells pt_len RowV rowVal ShapeM ShapeIn ShapeRaw shapeVals shapeL holesL holesVal open_shape)
theorem cells_part : Tryz.prog.cellsOf 50 = 6:=by kernel_rfl
theorem cells_shape2 : Tryz.prog.cellsOf 48 = 2:=by kernel_rfl
structure PartRaw (w:World) (p:PartM):Prop where
 turns:Row w p.tA (p.turns.map (Value.int .i64))
 sh:ShapeRaw w p.sh
 few:p.turns.length≤140737488355328
 n1:p.name.length≤9223372036854775807
 n2:p.grade.length≤9223372036854775807
theorem PartRaw.below {w w':World} {p:PartM} (h:PartRaw w p) (hb:Below w.heap.size w w'):PartRaw w' p:=⟨h.turns.below hb,h.sh.below hb,h.few,h.n1,h.n2⟩
set_option maxRecDepth 100000 in
theorem open_part_arg {H:Type} {enc:TypeId×Value→H} {w:World} {held:Bool} {r:Reach} {b0:Nat} {v:Value} {d:DataW H} {p:List MemPlace} (hv:Value.okWide Tryz.prog w r b0 50 v) (h:DataW.Trod enc Tryz.prog w 0 (fun _=>true) held 50 v d p)
  (hw:∀ k∈d.weights Tryz.prog 50,k≤reachBytes) :
  ∃ y:PartM,v=.agg (partCells y).toArray∧PartRaw w y:=by
 obtain ⟨cs,rfl,hsz⟩:=okWide_struct Tryz.underlying50 hv
 obtain ⟨fuel,hf⟩:=h
 have hcs:(Value.agg cs).cells.toList=cs.toList:=by simp [Value.cells]
 rw [hcs] at hf
 obtain ⟨xs,n,rfl,hx,hl,hxs,hg⟩:=DataW.trod_struct Tryz.underlying50 hf
 obtain ⟨rfl,rfl⟩:=Prod.mk.inj hx
 rw [cells_part] at hl
 have hxs5:xs.length=5:=hxs
 obtain ⟨x0,x1,x2,x3,x4,rfl⟩:=list5 hxs5
 obtain ⟨v0,v1,v2,v3,v4,v5,hvs⟩:=list6 hl
 rw [hvs] at hg
 have h0:DataW.trod enc Tryz.prog w 0 (fun _=>true) held n 9 (([v0,v1,v2,v3,v4,v5].drop 0).take (Tryz.prog.cellsOf 9))=some x0:=hg 0 _ rfl
 have h1:DataW.trod enc Tryz.prog w 0 (fun _=>true) held n 9 (([v0,v1,v2,v3,v4,v5].drop 1).take (Tryz.prog.cellsOf 9))=some x1:=hg 1 _ rfl
 have h2:DataW.trod enc Tryz.prog w 0 (fun _=>true) held n 3 (([v0,v1,v2,v3,v4,v5].drop 2).take (Tryz.prog.cellsOf 3))=some x2:=hg 2 _ rfl
 have h3:DataW.trod enc Tryz.prog w 0 (fun _=>true) held n 33 (([v0,v1,v2,v3,v4,v5].drop 3).take (Tryz.prog.cellsOf 33))=some x3:=hg 3 _ rfl
 have h4:DataW.trod enc Tryz.prog w 0 (fun _=>true) held n 48 (([v0,v1,v2,v3,v4,v5].drop 4).take (Tryz.prog.cellsOf 48))=some x4:=hg 4 _ rfl
 rw [cells_str] at h0 h1
 rw [cells_int] at h2
 rw [cells_ints] at h3
 rw [cells_shape2] at h4
 simp only [List.drop_zero,List.take_succ_cons,List.take_zero,List.drop_succ_cons] at h0 h1 h2 h3 h4
 have hW:(DataW.agg ([x0,x1,x2,x3,x4].map (·.1))).weights Tryz.prog 50 = x0.1.weights Tryz.prog 9++(x1.1.weights Tryz.prog 9++(x2.1.weights Tryz.prog 3++(x3.1.weights Tryz.prog 33++(x4.1.weights Tryz.prog 48++[])))):=by
  rw [DataW.weights,Tryz.underlying50]
  rfl
 simp only [hW] at hw
 have hw3:∀ k∈x3.1.weights Tryz.prog 33,k≤reachBytes:=fun k hk=>hw k (by simp [hk])
 have hw4:∀ k∈x4.1.weights Tryz.prog 48,k≤reachBytes:=fun k hk=>hw k (by simp [hk])
 obtain ⟨s0,e0,_,z0⟩:=DataW.trod_string Tryz.underlying9 h0
 obtain ⟨s1,e1,_,z1⟩:=DataW.trod_string Tryz.underlying9 h1
 obtain ⟨c2,e2,_,_⟩:=DataW.trod_int Tryz.underlying3 h2
 obtain ⟨A3,l3,c3,e3⟩:=slice_of Tryz.underlying33 h3
 simp only [List.cons.injEq,and_true] at e0 e1 e2 e3
 subst e0 e1 e2 e3
 obtain ⟨ts,ht,hrt,hlt,hct,_⟩:=open_ints A3 l3 c3 _ _ h3 hw3
 obtain ⟨m,hm,e4⟩:=open_shape _ _ _ h4 hw4
 rw [int_map] at hrt
 refine ⟨⟨s0.data.toList,s1.data.toList,c2,ts,A3,c3,m⟩,?_,⟨hrt,hm,by show ts.length≤_;omega,by show s0.data.toList.length≤_;rw [Array.length_toList];exact z0,by show s1.data.toList.length≤_;rw [Array.length_toList];exact z1⟩⟩
 unfold shapeL at e4
 simp only [List.cons.injEq,and_true] at e4
 obtain ⟨rfl,rfl⟩:=e4
 have e5:cs=(partCells ⟨s0.data.toList,s1.data.toList,c2,ts,A3,c3,m⟩).toArray:=by
  apply Array.toList_inj.1
  rw [hvs]
  unfold partCells strV
  rw [ht]
 rw [e5]
end Go.Proofs.YtnkkcknogkgdkaaGreatDoor.PaW
namespace Go.Proofs.YtnkkcknogkgdkaaGreatDoor.PaW
open Lib (hid)
open Go Go.RowKit Go.Proofs.YtnkkcknogkgdkaaGreatDoor.Mem Go.Proofs.YtnkkcknogkgdkaaGreatDoor.Pa
open Go.Proofs.YtnkkcknogkgdkaaGreatDoor.Ge (V)
open Go.Proofs.YtnkkcknogkgdkaaGreatDoor.Lex (Tok)
open Go.Proofs.YtnkkcknogkgdkaaGreatDoor.LexW (tokCells)
attribute [local go_sem ↓] Go.wp_at_zero Go.wp_at_succ
open Go.Proofs.YtnkkcknogkgdkaaGreatDoor.GeW (ptCells pt_len RowV rowVal ShapeM ShapeIn ShapeRaw shapeVals holesL holesVal)
open Go.Proofs.YtnkkcknogkgdkaaGreatDoor.Ge (rightB)
set_option maxRecDepth 100000 in
set_option maxHeartbeats 4000000 in
theorem partRight_walk (haw:Awake) (p:PartM) (w:World) (h:PartRaw w p) :
  Calls Tryz.prog 5 #[.agg (partCells p).toArray] w fun e w'=>e=.returned (.bool true)∧Below w.heap.size w w':=by
 have HAW:=hid haw
 have hb0:=bel1 w (.cells #[.string ⟨p.name.toArray⟩,.string ⟨p.grade.toArray⟩,.int .i64 p.grain,.slice p.tA p.turns.length p.tc,.slice p.sh.o.A p.sh.o.l.length p.sh.o.k,.slice p.sh.B p.sh.hs.length p.sh.k] 50)
 have HB0:=hid hb0
 have HX0:=hid (heap_new w (.cells #[.string ⟨p.name.toArray⟩,.string ⟨p.grade.toArray⟩,.int .i64 p.grain,.slice p.tA p.turns.length p.tc,.slice p.sh.o.A p.sh.o.l.length p.sh.o.k,.slice p.sh.B p.sh.hs.length p.sh.k] 50))
 have HFW:=hid (fun W (hW:Below w.heap.size w W)=>GeW.few_any p.sh W (h.sh.below hW))
 have HRR:=hid h
 obtain ⟨fb,hfb⟩:∃ b,GeW.fewB p.sh=b:=⟨_,rfl⟩
 rw [hfb] at HFW
 have hn1:=h.n1
 have hn2:=h.n2
 have hfw:=h.few
 have HPC:Hid ((partCells p).toArray=#[.string ⟨p.name.toArray⟩,.string ⟨p.grade.toArray⟩,.int .i64 p.grain,.slice p.tA p.turns.length p.tc,.slice p.sh.o.A p.sh.o.l.length p.sh.o.k,.slice p.sh.B p.sh.hs.length p.sh.k]):=hid (by unfold partCells strV rowVal holesVal;rfl)
 have HR1:Hid (fb=true→p.turns.length≤1000000→p.name.length≤1000000→p.grade.length≤1000000→∀ W,Below w.heap.size w W→Calls Tryz.prog 23 #[.agg #[.string ⟨p.name.toArray⟩,.string ⟨p.grade.toArray⟩,.int .i64 p.grain,.slice p.tA p.turns.length p.tc,.slice p.sh.o.A p.sh.o.l.length p.sh.o.k,.slice p.sh.B p.sh.hs.length p.sh.k]] W fun e w'=>e=.returned (.bool (namedOk p.name p.grade p.grain p.turns&&rightB p.sh.o.l (holesL p.sh)))∧Below W.heap.size W w'):=hid (fun h0 h1 h2 h3 W hW=>by
  have hp:PartIn W p:=⟨(HRR.out.below hW).turns,(HRR.out.below hW).sh.few (hfb.trans h0),h1,h2,h3⟩
  have:=right_any p W hp
  rw [HPC.out] at this
  exact this)
 have HR2:Hid (fb=true→p.turns.length≤1000000→p.name.length≤1000000→p.grade.length≤1000000→∀ W,Below w.heap.size w W→Calls Tryz.prog 25 #[.agg #[.string ⟨p.name.toArray⟩,.string ⟨p.grade.toArray⟩,.int .i64 p.grain,.slice p.tA p.turns.length p.tc,.slice p.sh.o.A p.sh.o.l.length p.sh.o.k,.slice p.sh.B p.sh.hs.length p.sh.k]] W fun e w'=>e=.returned (.bool (namedOk p.name p.grade p.grain p.turns&&rightB p.sh.o.l (holesL p.sh)))∧Below W.heap.size W w'):=hid (fun h0 h1 h2 h3 W hW=>by
  have hp:PartIn W p:=⟨(HRR.out.below hW).turns,(HRR.out.below hW).sh.few (hfb.trans h0),h1,h2,h3⟩
  have:=rright_any p W hp
  rw [HPC.out] at this
  exact this)
 rw [HPC.out]
 have hs1:(ByteArray.mk p.name.toArray).size=p.name.length:=by simp [ByteArray.size]
 have hs2:(ByteArray.mk p.grade.toArray).size=p.grade.length:=by simp [ByteArray.size]
 generalize (namedOk p.name p.grade p.grain p.turns&&rightB p.sh.o.l (holesL p.sh))=rb at *
 clear h hb0 hfb HPC HRR
 have HS1:=hid hs1
 have HS2:=hid hs2
 generalize ByteArray.mk p.name.toArray=N1 at *
 generalize ByteArray.mk p.grade.toArray=N2 at *
 clear hs1 hs2
 go_enter Tryz.func5,Tryz.ntmps5
 go_upto_region 1 with fail
 generalize w.alloc (.cells #[.string N1,.string N2,.int .i64 p.grain,.slice p.tA p.turns.length p.tc,.slice p.sh.o.A p.sh.o.l.length p.sh.o.k,.slice p.sh.B p.sh.hs.length p.sh.k] 50)=W0 at *
 go_wp2_with fail
 refine (HAW.out _).mono ?_
 rintro e w1 ⟨rfl,hb1⟩
 have HX1:=hid (p_below HX0.out hb1)
 have HB1:=hid (HB0.out.trans (hb1.mono HB0.out.size))
 clear hb1
 have x4:=cell_of HX1.out 4 _ rfl
 have x5:=cell_of HX1.out 5 _ rfl
 cases fb
 ·clear HR1 HR2
  go_wp2_with fail
  refine (HFW.out _ HB1.out).mono ?_
  rintro e w2 ⟨rfl,hbn⟩
  have HX2:=hid (p_below HX1.out hbn)
  have HB2:=hid (HB1.out.trans (hbn.mono HB1.out.size))
  clear hbn x4 x5
  go_wp2_with fail
  go_ret
  exact ⟨rfl,HB2.out⟩
 ·by_cases ht:p.turns.length≤20
  case neg =>
   have d1:decide (20 < (p.turns.length:Int))=true:=decide_eq_true (by omega)
   clear HR1 HR2
   go_wp2_with fail
   refine (HFW.out _ HB1.out).mono ?_
   rintro e w2 ⟨rfl,hbn⟩
   have HX2:=hid (p_below HX1.out hbn)
   have HB2:=hid (HB1.out.trans (hbn.mono HB1.out.size))
   clear hbn x4 x5
   have x3:=cell_of HX2.out 3 _ rfl
   go_wp2_with fail
   go_ret
   exact ⟨rfl,HB2.out⟩
  case pos =>
   have d1:decide (20 < (p.turns.length:Int))=false:=decide_eq_false (by omega)
   by_cases hm:p.name.length≤60
   case neg =>
    have d2:decide (60 < (N1.size:Int))=true:=decide_eq_true (by have:=HS1.out;omega)
    clear HR1 HR2
    go_wp2_with fail
    refine (HFW.out _ HB1.out).mono ?_
    rintro e w2 ⟨rfl,hbn⟩
    have HX2:=hid (p_below HX1.out hbn)
    have HB2:=hid (HB1.out.trans (hbn.mono HB1.out.size))
    clear hbn x4 x5
    have x3:=cell_of HX2.out 3 _ rfl
    have x0:=cell_of HX2.out 0 _ rfl
    go_wp2_with fail
    go_ret
    exact ⟨rfl,HB2.out⟩
   case pos =>
    have d2:decide (60 < (N1.size:Int))=false:=decide_eq_false (by have:=HS1.out;omega)
    by_cases hg:p.grade.length≤60
    case neg =>
     have d3:decide (60 < (N2.size:Int))=true:=decide_eq_true (by have:=HS2.out;omega)
     clear HR1 HR2
     go_wp2_with fail
     refine (HFW.out _ HB1.out).mono ?_
     rintro e w2 ⟨rfl,hbn⟩
     have HX2:=hid (p_below HX1.out hbn)
     have HB2:=hid (HB1.out.trans (hbn.mono HB1.out.size))
     clear hbn x4 x5
     have x3:=cell_of HX2.out 3 _ rfl
     have x0:=cell_of HX2.out 0 _ rfl
     have x1:=cell_of HX2.out 1 _ rfl
     go_wp2_with fail
     go_ret
     exact ⟨rfl,HB2.out⟩
    case pos =>
     have d3:decide (60 < (N2.size:Int))=false:=decide_eq_false (by have:=HS2.out;omega)
     have HQ1:=hid (HR1.out rfl (by omega) (by omega) (by omega))
     have HQ2:=hid (HR2.out rfl (by omega) (by omega) (by omega))
     clear HR1 HR2
     go_wp2_with fail
     refine (HFW.out _ HB1.out).mono ?_
     rintro e w2 ⟨rfl,hbn⟩
     have HX2:=hid (p_below HX1.out hbn)
     have HB2:=hid (HB1.out.trans (hbn.mono HB1.out.size))
     clear hbn x4 x5
     have x3:=cell_of HX2.out 3 _ rfl
     have x0:=cell_of HX2.out 0 _ rfl
     have x1:=cell_of HX2.out 1 _ rfl
     go_upto_region 5 with fail
     clear x3 x0 x1
     have E0:∀ p0:Later w2,p0.w.cell? ⟨w.heap.size,0,none⟩=some (.string N1):=later_cell (blk_lt HX2.out) (cell_of HX2.out 0 _ rfl)
     have E1:∀ p0:Later w2,p0.w.cell? ⟨w.heap.size,1,none⟩=some (.string N2):=later_cell (blk_lt HX2.out) (cell_of HX2.out 1 _ rfl)
     have E2:∀ p0:Later w2,p0.w.cell? ⟨w.heap.size,2,none⟩=some (.int .i64 p.grain):=later_cell (blk_lt HX2.out) (cell_of HX2.out 2 _ rfl)
     have E3:∀ p0:Later w2,p0.w.cell? ⟨w.heap.size,3,none⟩=some (.slice p.tA p.turns.length p.tc):=later_cell (blk_lt HX2.out) (cell_of HX2.out 3 _ rfl)
     have E4:∀ p0:Later w2,p0.w.cell? ⟨w.heap.size,4,none⟩=some (.slice p.sh.o.A p.sh.o.l.length p.sh.o.k):=later_cell (blk_lt HX2.out) (cell_of HX2.out 4 _ rfl)
     have E5:∀ p0:Later w2,p0.w.cell? ⟨w.heap.size,5,none⟩=some (.slice p.sh.B p.sh.hs.length p.sh.k):=later_cell (blk_lt HX2.out) (cell_of HX2.out 5 _ rfl)
     refine wp_region_later w2 (by kernel_rfl) (by kernel_rfl) (Below.refl _ _) ?_
     repeat (go_big_quiet_step (first | (go_at_call 23;exact Calls.later (HQ1.out _ (HB2.out.trans ((Later.h _).mono HB2.out.size)))) | (go_at_call 25;exact Calls.later (HQ2.out _ (HB2.out.trans ((Later.h _).mono HB2.out.size))))))
     refine wpQuiet_nil ?_
     rintro w8 hex
     have hb8:=later_of hex
     clear hex
     have HB8:=hid (HB2.out.trans (hb8.mono HB2.out.size))
     clear hb8 E0 E1 E2 E3 E4 E5
     cases rb
     ·go_wp2_with fail
      go_ret
      exact ⟨rfl,HB8.out⟩
     ·go_wp2_with fail
      go_ret
      exact ⟨rfl,HB8.out⟩
end Go.Proofs.YtnkkcknogkgdkaaGreatDoor.PaW
namespace Go.Proofs.YtnkkcknogkgdkaaGreatDoor.PaW
open Lib (hid)
open Go Go.RowKit Go.Proofs.YtnkkcknogkgdkaaGreatDoor.Mem Go.Proofs.YtnkkcknogkgdkaaGreatDoor.Pa
theorem handed_all {H:Type} {enc:TypeId×Value→H} {a:Assume} {C:Checked} {os:Os} {f:FuncId} {fn:Func} {s:ChangeSpec} {conds:List PathCond} {apart fresh handsOn again:Bool} {X:World→Array Value→Prop}
  (hX:∀ (w w':World) (args:Array Value),w.heap=w'.heap→X w args→X w' args)
  (own:ownKnob C.prog.godebug=none) (started:os.Started) (noInit:C.prog.inits.idxOf? f=none) (hfn:C.prog.funcs[f]? = some fn)
  (witness:∃ (w:World) (tape:Tape) (i:Input),w.os=os∧(w.forCall tape i).Shaped C.prog∧i.vars=[]∧Input.okWide C.prog (w.forCall tape i) .any w.heap.size f i ∧
   ((s.pre enc C.prog fn conds apart (w.forCall tape i).memory i.args∧X (w.forCall tape i).memory i.args)∧sizedMet enc C.prog fn (OpenSpec.ofChange s) apart (w.forCall tape i).memory i.args)∧a.holds C.prog (lone (Frame.enter C.prog f i.args .normal) [] (w.forCall tape i)))
  (contract:∀ (W:World) (base:Nat) (args:Array Value) (ds gs:List (DataW H)) (before:List MemPlace),
   (∀ (j:Nat) t v,fn.params[j]? = some t→args[j]? = some v→Value.okWide C.prog W .any base t v) →
   DataW.Whole enc C.prog fn.params.toList s.vars apart W args.toList ds gs before→X W args→W.ShapedOpen C.prog →
   (DataW.weightsEach C.prog (fn.params.toList++s.plain.varTypes C.prog) (ds++gs)).all (·≤reachBytes)=true →
   Calls C.prog f args W fun e W'=>∃ v,e=.returned v∧s.post enc C.prog fn apart fresh handsOn again W args v W') :
  ReturnsInHanded a C os f .any (fun w args=>(s.pre enc C.prog fn conds apart w args∧X w args)∧sizedMet enc C.prog fn (OpenSpec.ofChange s) apart w args) (s.post enc C.prog fn apart fresh handsOn again):=by
 refine returnsInHanded_of_calls own started noInit witness ?_
 intro w tape i _ hsh _ hok hpre _
 obtain ⟨_,_,_,fn',hfn',_,_,_,_,hval⟩:=hok
 obtain rfl:fn'=fn:=Option.some.inj (hfn'.symm.trans hfn)
 obtain ⟨⟨⟨ds,gs,before,hw,_⟩,hx⟩,hz⟩:=hpre
 refine (contract (w.forCall tape i) w.heap.size i.args ds gs before hval (DataW.Whole.of_heap (w':=w.forCall tape i) (by rfl) hw) (hX _ _ _ (by rfl) hx) hsh (hz.weights hw)).mono fun e W' ⟨v,he,hp⟩=>?_
 subst he
 exact ChangeSpec.post_blind hp
theorem partRight_at (p:PartM) (W:World) (h:PartRaw W p) :
  Calls Tryz.prog 5 #[.agg (partCells p).toArray] W fun e w'=>e=.returned (.bool true)∧Below W.heap.size W w':=partRight_walk awake_any p W h
end Go.Proofs.YtnkkcknogkgdkaaGreatDoor.PaW
