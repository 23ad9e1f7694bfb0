/- Walk: whether a shape is valid. Conditions: the shape lies in memory. -/
import Derived.Test.YtnkkcknogkgdkaaGreatDoorSh2

namespace Go.Proofs.YtnkkcknogkgdkaaGreatDoor.Ge
open Lib (hid)
theorem total_snoc (a:List (List V)) (b:List V):total (a++[b])=total a+b.length:=by
 induction a with
 | nil=>simp [total]
 | cons x r ih=>rw [List.cons_append,total,ih,total];omega
theorem total_le (n:Nat):∀ a:List (List V),(∀ x∈a,x.length≤n)→total a≤a.length*n
 | [],_=>by simp [total]
 | x::r,h=>by
  have h1:=h x (by simp)
  have h2:=total_le n r (fun y hy=>h y (by simp [hy]))
  rw [total,List.length_cons,Nat.add_mul]
  omega
end Go.Proofs.YtnkkcknogkgdkaaGreatDoor.Ge
namespace Go.Proofs.YtnkkcknogkgdkaaGreatDoor.GeW
open Lib (hid)
open Go Go.RowKit Go.Proofs.YtnkkcknogkgdkaaGreatDoor.Mem Go.Proofs.YtnkkcknogkgdkaaGreatDoor.Ge
theorem others_below {A B:World} (h:Below A.heap.size A B):KeepsOthers A B :=
 ⟨h.size,fun k _ hk _=>(h.block k (lt_of_block hk)).trans hk⟩
theorem below_turn {r b:Nat} {w A B:World} (h:Below r w A) (hr:r≤A.heap.size) (hb:r≤b) (ht:Turn b A B):Below r w B :=
 ⟨ht.os.trans h.os,ht.tape.trans h.tape,ht.output.trans h.output,Nat.le_trans h.size ht.size,fun k hk=>(ht.block k (by omega) (by omega)).trans (h.block k hk)⟩
theorem below_put {r l:Nat} {w W:World} (h:Below r w W) (hl:r≤l) (o:Obj):Below r w (W.putObj l o) :=
 h.trans ⟨rfl,rfl,rfl,by simp [World.putObj],fun k hk=>World.putObj_heap_other (by omega)⟩
/-- The variables: the shape, the result, the corners. -/
structure ShC (r:Nat) (W:World) (ov vh:Value) (b:Bool) (n:Int):Prop where
 h0:W.heap[r]? = some (.cells #[ov,vh] 48)
 h1:W.heap[r+1]? = some (.cells #[.bool b] 4)
 h2:W.heap[r+1+1]? = some (.cells #[.int .i64 n] 3)
theorem ShC.below {r:Nat} {W W':World} {ov vh:Value} {b:Bool} {n:Int} (h:ShC r W ov vh b n) (hb:Below W.heap.size W W'):ShC r W' ov vh b n :=
 ⟨(hb.block _ (lt_of_block h.h0)).trans h.h0,(hb.block _ (lt_of_block h.h1)).trans h.h1,(hb.block _ (lt_of_block h.h2)).trans h.h2⟩
theorem ShC.turn {r:Nat} {W W':World} {ov vh:Value} {b:Bool} {n:Int} (h:ShC r W ov vh b n) (hb:Turn (r+1+1+1) W W'):ShC r W' ov vh b n :=
 ⟨(hb.block _ (lt_of_block h.h0) (by omega)).trans h.h0,(hb.block _ (lt_of_block h.h1) (by omega)).trans h.h1,(hb.block _ (lt_of_block h.h2) (by omega)).trans h.h2⟩
theorem ShC.put {r:Nat} {W:World} {ov vh:Value} {b:Bool} {n:Int} (h:ShC r W ov vh b n) {l:Nat} (hl:r+1+1+1≤l) (o:Obj):ShC r (W.putObj l o) ov vh b n :=
 ⟨(World.putObj_heap_other (by omega)).trans h.h0,(World.putObj_heap_other (by omega)).trans h.h1,(World.putObj_heap_other (by omega)).trans h.h2⟩
theorem ShC.setN {r:Nat} {W:World} {ov vh:Value} {b:Bool} {n:Int} (h:ShC r W ov vh b n) (n':Int):ShC r (W.setCell ⟨r+1+1,0,none⟩ (.int .i64 n')) ov vh b n' :=
 ⟨(block_other W (r+1+1) 0 _ (by omega)).trans h.h0,(block_other W (r+1+1) 0 _ (by omega)).trans h.h1,block_set h.h2 0 _⟩
theorem ShC.setB {r:Nat} {W:World} {ov vh:Value} {b:Bool} {n:Int} (h:ShC r W ov vh b n) (b':Bool):ShC r (W.setCell ⟨r+1,0,none⟩ (.bool b')) ov vh b' n :=
 ⟨(block_other W (r+1) 0 _ (by omega)).trans h.h0,block_set h.h1 0 _,(block_other W (r+1) 0 _ (by omega)).trans h.h2⟩
def PI (w:World) (r:Nat) (ov vh:Value) (pre:List RowV) (W:World):Prop :=
 (∀ x∈pre,ringB x.l=true)∧ShC r W ov vh false (total (pre.map RowV.l))∧Below r w W∧r+1+1+1+1≤W.heap.size
def PX (w:World) (r:Nat) (ov vh:Value) (c:Code) (pre:List RowV) (W:World):Prop :=
 c=.ret∧(∃ x∈pre,ringB x.l=false)∧(∃ n,ShC r W ov vh false n)∧Below r w W
theorem results_cells1 {fn:Func} {p:Tmp} {ty1:TypeId} (h:fn.results=#[.cell p ty1]) (tmps:Array Value) (P:Program) (w:World) :
  (results fn tmps).run P w=((asAddr (tmps.getD p undef)).run P w).andThen fun a w₁=>(loadVar ty1 a).run P w₁:=by
 simp only [results,h]
 simp [Sem.run_bind,Result.andThen]
theorem shres {r:Nat} {W:World} {b:Bool} (h:W.heap[r+1]? = some (.cells #[.bool b] 4)) (tmps:Array Value) (t2:tmps.getD 2 undef=.pointer (some ⟨r+1,0,none⟩)) :
  (results Tryz.f48 tmps).run Tryz.prog W=.ok (.bool b) W:=by
 have c1:W.cell? ⟨r+1,0,none⟩=some (.bool b):=by rw [Lib.cell_of_heap h];rfl
 rw [results_cells1 rfl,t2]
 go_simp
theorem sh_leave {r D:Nat} {w W9:World} {ov vh:Value} {b0 b rb:Bool} {n:Int} (h:ShC r W9 ov vh b0 n) (hb:Below r w W9) (hr:w.heap.size=r) (hD:r+1+1+1≤D) (hK:W9.heap[D]? = some (.deferred (some []))) (tmps:Array Value) (t2:tmps.getD 2 undef=.pointer (some ⟨r+1,0,none⟩)) (he:rb=b) :
  bodyPostM Fence.wide 9 Tryz.prog Tryz.f48 (fun e w'=>e=.returned (.bool rb)∧Below w.heap.size w w') .ret { tmps:=tmps,defers:=[{ target:=.collected D,args:=#[] }] } (W9.setCell ⟨r+1,0,none⟩ (.bool b)):=by
 subst he
 have hK2:(W9.setCell ⟨r+1,0,none⟩ (.bool rb)).heap[D]? = some (.deferred (some [])):=(block_other W9 (r+1) 0 _ (by omega)).trans hK
 refine ⟨by simp,.inl ⟨_,_,rfl,run_takeDeferred hK2,?_⟩⟩
 exact ⟨_,shres ((h.setB rb).put (l:=D) (by omega) (.deferred none)).h1 _ t2,rfl,by rw [hr];exact below_put (hb.setCell (p:=⟨r+1,0,none⟩) (by simp) _) (by omega) _⟩
attribute [local go_sem] Oper.semAt_some
set_option maxRecDepth 100000 in
set_option maxHeartbeats 8000000 in
theorem shapeOk_any (m:ShapeM) (w:World) (h:ShapeIn w m) :
  Calls Tryz.prog 48 #[.agg (shapeVals m)] w fun e w'=>e=.returned (.bool (shapeB m.o.l (holesL m)))∧Below w.heap.size w w':=by
 have HS:=hid h
 have HF:=hid h.few
 have hfew:=h.few
 have hbel:=((((Below.refl w.heap.size w).alloc (Nat.le_refl _) (.cells (shapeVals m) 48)).alloc (by simp) (.cells #[.bool false] 4)).alloc (by simp<;>omega) (.cells #[.int .i64 0] 3))
 have hs3:(((w.alloc (.cells (shapeVals m) 48)).alloc (.cells #[.bool false] 4)).alloc (.cells #[.int .i64 0] 3)).heap.size=w.heap.size+1+1+1:=by simp
 have hc0:=block_old (o':=(.cells #[.int .i64 0] 3)) (block_old (o':=(.cells #[.bool false] 4)) (heap_alloc_new w (.cells (shapeVals m) 48)))
 have hc1:=block_old (o':=(.cells #[.int .i64 0] 3)) (heap_alloc_new (w.alloc (.cells (shapeVals m) 48)) (.cells #[.bool false] 4))
 have hc2:=heap_alloc_new ((w.alloc (.cells (shapeVals m) 48)).alloc (.cells #[.bool false] 4)) (.cells #[.int .i64 0] 3)
 simp only [World.size_alloc] at hc1 hc2
 have HC:Hid (ShC w.heap.size _ (rowVal m.o) (holesVal m) false 0):=hid ⟨hc0,hc1,hc2⟩
 have HRI:=hid (fun W=>rings_in 8 m W)
 have HBEL:=hid hbel
 have HS3:=hid hs3
 obtain ⟨rb,HRB⟩:∃ rb,Hid (rb=shapeB m.o.l (holesL m)):=⟨_,hid rfl⟩
 rw [← HRB.out]
 have HUN:Hid (shapeVals m=#[rowVal m.o,holesVal m]):=hid rfl
 rw [HUN.out] at HRI HC HBEL HS3
 obtain ⟨vh,hvh⟩:∃ vh,holesVal m=vh:=⟨_,rfl⟩
 obtain ⟨ov,hov⟩:∃ ov,rowVal m.o=ov:=⟨_,rfl⟩
 rw [HUN.out]
 rw [hvh,hov] at HRI HC HBEL HS3 ⊢
 have HVH:=hid hvh
 have HOV:=hid hov
 unfold holesVal at hvh
 clear hbel hs3 hc0 hc1 hc2 h hov
 refine (callsIn_wide (n:=9)).1 ?_
 refine callsIn_of_wp_marks Tryz.func48 rfl trivial ?_ rfl
 simp only [Tryz.ntmps48,List.size_toArray,List.length_cons,List.length_nil,Nat.reduceAdd,Nat.reduceSub,Array.replicate_succ,Array.replicate_zero,List.push_toArray,List.append_toArray,List.nil_append,List.cons_append]
 by_cases h6:m.hs.length≤6
 case neg =>
  have d6:decide (6 < (m.hs.length:Int))=true:=decide_eq_true (by omega)
  have HRF:Hid (rb=false):=hid (by rw [HRB.out];unfold shapeB holesL;simp [h6])
  subst hvh
  clear h6 HRI
  gi_wp2
  rw [HRF.out]
  exact ⟨_,shres (heap_alloc_new2 (w.alloc (.cells #[ov,.slice m.B m.hs.length m.k] 48)) (.cells #[.bool false] 4) (by simp)) _ rfl,rfl,((Below.refl w.heap.size w).alloc (Nat.le_refl _) (.cells #[ov,.slice m.B m.hs.length m.k] 48)).alloc (by simp) (.cells #[.bool false] 4)⟩
 case pos =>
  have d6:decide (6 < (m.hs.length:Int))=false:=decide_eq_false (by omega)
  have H6:=hid h6
  subst hvh
  clear h6
  gi_wp2
  refine ⟨trivial,?_⟩
  refine (HRI.out _).mono ?_
  rintro e w1 ⟨rfl,rfl⟩
  have HBX:=hid (heap_alloc_new2 (((w.alloc (.cells #[ov,.slice m.B m.hs.length m.k] 48)).alloc (.cells #[.bool false] 4)).alloc (.cells #[.int .i64 0] 3)) (.cells #[ov,.slice m.B m.hs.length m.k] 48) HS3.out.symm)
  have HBE4:=hid (HBEL.out.alloc (by rw [HS3.out];omega) (.cells #[ov,.slice m.B m.hs.length m.k] 48))
  have HC4:=hid (HC.out.below ((Below.refl _ _).alloc (Nat.le_refl _) (.cells #[ov,.slice m.B m.hs.length m.k] 48)))
  have HS4:Hid (((((w.alloc (.cells #[ov,.slice m.B m.hs.length m.k] 48)).alloc (.cells #[.bool false] 4)).alloc (.cells #[.int .i64 0] 3)).alloc (.cells #[ov,.slice m.B m.hs.length m.k] 48)).heap.size=w.heap.size+1+1+1+1):=hid (by rw [World.size_alloc,HS3.out])
  gi_wp2
  clear HBEL HC HS3
  generalize ((((w.alloc (.cells #[ov,.slice m.B m.hs.length m.k] 48)).alloc (.cells #[.bool false] 4)).alloc (.cells #[.int .i64 0] 3)).alloc (.cells #[ov,.slice m.B m.hs.length m.k] 48))=W4 at *
  generalize hr:w.heap.size=r at *
  have HR:=hid hr
  clear hr
  refine' wpIn_rangeFunc_box rfl (by decide) (gf := 142) (lb:=#[.pointer (some ⟨r+1+1+1,0,none⟩)]) rfl trivial (enters_of Tryz.func142 (by kernel_rfl) rfl)
   (b:=r+1+1+1) (N:=r) (by rw [HS4.out];omega) (by rw [HS4.out];omega)
   (by rw [← HR.out];exact rings1_gives _ _ m w W4 (by rw [← HOV.out] at HBX;rw [HR.out];exact HBX.out) HS.out.rB (fun k hk=>HBE4.out.block k (by rw [← HR.out];exact hk)) (by rw [HS4.out,HR.out];omega) HF.out (by decide))
   (fun _=>rfl) (PI w r ov (.slice m.B m.hs.length m.k)) (PX w r ov (.slice m.B m.hs.length m.k)) ?hI ?hI2 ?hX ?hX2 ?h0 _ ?assign ?body ?done ?stop
  case hI =>
   rintro pre A B ⟨h1,h2,h3,h4⟩ ht
   exact ⟨h1,h2.turn ht,below_turn h3 (Nat.le_of_lt (lt_of_block h2.h0)) (by omega) ht,Nat.le_trans h4 ht.size⟩
  case hI2 =>
   rintro pre A l o o' ⟨h1,h2,h3,h4⟩ hl ho hc
   rw [HS4.out] at hl
   exact ⟨h1,h2.put (by omega) _,below_put h3 (by omega) _,by simpa [World.putObj] using h4⟩
  case hX =>
   rintro c pre A B ⟨h1,h2,⟨n,h3⟩,h4⟩ ht
   exact ⟨h1,h2,⟨n,h3.turn ht⟩,below_turn h4 (Nat.le_of_lt (lt_of_block h3.h0)) (by omega) ht⟩
  case hX2 =>
   rintro c pre A l o o' ⟨h1,h2,⟨n,h3⟩,h4⟩ hl ho hc
   rw [HS4.out] at hl
   exact ⟨h1,h2,⟨n,h3.put (by omega) _⟩,below_put h4 (by omega) _⟩
  case h0=>exact ⟨by simp,HC4.out,HBE4.out,by rw [HS4.out];exact Nat.le_refl _⟩
  case assign =>
   intro l x W K hK
   dsimp only [encRing]
   gi_wp2
   exact hK
  case body =>
   rintro l pre x W ⟨h1,h2,h3,h4⟩ hpre
   have hx:x∈ringsM m:=hpre.subset (by simp)
   have hsx:=HS.out.short x hx
   have hpl:pre.length≤7:=by
    have h:=hpre.length_le
    have h6:=H6.out
    simp [ringsM] at h
    omega
   have htl:total (pre.map RowV.l)≤7*1000:=Nat.le_trans (total_le 1000 _ (fun y hy=>by
    obtain ⟨z,hz,rfl⟩:=List.mem_map.1 hy
    exact (HS.out.short z (hpre.subset (by simp [hz]))).1)) (Nat.mul_le_mul_right _ (by simpa using hpl))
   have HT:Hid (((total ((pre++[x]).map RowV.l):Nat):Int)=(total (pre.map RowV.l):Int)+(x.l.length:Int)):=hid (by rw [List.map_append,List.map_singleton,total_snoc];omega)
   have HV:=hid (fun W' (hW:Below r w W')=>ring_any x.l x.A x.k W' ((HS.out.row hx).below (by rw [HR.out];exact hW)) (by omega))
   have H1:=hid h1
   have H2:=hid h2
   have H3:=hid h3
   have H4:=hid h4
   have x1:IntKind.i64.wrap ((total (pre.map RowV.l):Int)+(x.l.length:Int))=(total (pre.map RowV.l):Int)+(x.l.length:Int):=by rw [IntKind.wrap_i64];omega
   clear h1 h2 h3 h4 hx hsx hpl htl hpre
   generalize (total (pre.map RowV.l):Int)=tn at *
   unfold rowVal
   have c2:W.cell? ⟨r+1+1,0,none⟩=some (.int .i64 tn):=by rw [Lib.cell_of_heap H2.out.h2];rfl
   have f2:W.frozen? ⟨r+1+1,0,none⟩=false:=Lib.frozen_of_heap H2.out.h2 0
   have hb2:=lt_of_block H2.out.h2
   gi_wp2
   refine ⟨trivial,?_⟩
   have H2S:=hid (H2.out.setN (tn+(x.l.length:Int)))
   have HBS:Hid (Below r w (W.setCell ⟨r+1+1,0,none⟩ (.int .i64 (tn+(x.l.length:Int))))):=hid (H3.out.setCell (p:=⟨r+1+1,0,none⟩) (by simp<;>omega) _)
   have HK0:Hid (KeepsOthers W (W.setCell ⟨r+1+1,0,none⟩ (.int .i64 (tn+(x.l.length:Int))))):=hid (KeepsOthers.setCell _ _ _)
   have HL0:Hid (∀ k,k≠r+1+1→(W.setCell ⟨r+1+1,0,none⟩ (.int .i64 (tn+(x.l.length:Int)))).heap[k]? = W.heap[k]?):=hid (fun k hk=>block_other W (r+1+1) 0 _ hk)
   have HZ0:Hid (r+1+1+1+1≤(W.setCell ⟨r+1+1,0,none⟩ (.int .i64 (tn+(x.l.length:Int)))).heap.size):=hid (by simpa [World.setCell] using H4.out)
   clear c2 f2 hb2 x1
   generalize W.setCell ⟨r+1+1,0,none⟩ (.int .i64 (tn+(x.l.length:Int)))=W1 at *
   refine (CallsIn.inRound l (callsIn_wide.2 (HV.out W1 HBS.out))).mono ?_
   rintro e W2 ⟨rfl,hb2⟩
   have HB2:=hid hb2
   have H2B:=hid (H2S.out.below hb2)
   have HBB:=hid (HBS.out.trans (hb2.mono (by have:=HZ0.out;omega)))
   have HKB:=hid (HK0.out.trans (others_below hb2))
   clear hb2
   cases hq:ringB x.l
   ·have c1:W2.cell? ⟨r+1,0,none⟩=some (.bool false):=by rw [Lib.cell_of_heap H2B.out.h1];rfl
    have f1:W2.frozen? ⟨r+1,0,none⟩=false:=Lib.frozen_of_heap H2B.out.h1 0
    have hb1:=lt_of_block H2B.out.h1
    have HQ:=hid hq
    clear hq
    gi_wp2
    exact ⟨HKB.out.trans (KeepsOthers.setCell _ _ _),rfl,⟨x,by simp,HQ.out⟩,⟨_,H2B.out.setB false⟩,HBB.out.setCell (p:=⟨r+1,0,none⟩) (by simp) _⟩
   ·have HQ:=hid hq
    clear hq
    gi_wp2
    have hz0:=HZ0.out
    refine ⟨HKB.out,⟨?_,?_⟩,?_,?_,HBB.out,Nat.le_trans hz0 HB2.out.size⟩
    ·exact (HB2.out.block _ (by omega)).trans (HL0.out _ (by omega))
    ·intro k hk
     exact (HB2.out.block _ (by omega)).trans (HL0.out _ (by omega))
    ·intro y hy
     rcases List.mem_append.1 hy with h | h
     ·exact H1.out y h
     ·simp at h
      subst h
      exact HQ.out
    ·rw [HT.out]
     exact H2B.out
  case done =>
   rintro D W hD ⟨h1,h2,h3,h4⟩ hK
   rw [HS4.out] at hD
   have hD:r+1+1+1≤D:=by omega
   have HV:=hid h1
   have H2:=hid h2
   have H3:=hid h3
   have HKD:=hid hK
   have HVO:Hid (ringB m.o.l=true∧near m.o.l=true∧3≤m.o.l.length∧m.o.l.length≤40):=hid ⟨h1 m.o (by simp [ringsM]),ring_near (h1 m.o (by simp [ringsM]))⟩
   have HVH:Hid (∀ x∈m.hs,ringB x.l=true∧near x.l=true∧3≤x.l.length∧x.l.length≤40):=hid (fun x hx=>⟨h1 x (by simp [ringsM,hx]),ring_near (h1 x (by simp [ringsM,hx]))⟩)
   have HRW:Hid (∀ W',Below W.heap.size W W'→∀ x∈ringsM m,Row W' x.A (x.l.flatMap ptCells)):=hid (fun W' hW x hx=>(HS.out.row hx).below (by rw [HR.out];exact h3.trans (hW.mono (Nat.le_of_lt (lt_of_block h2.h0)))))
   have HRH:Hid (∀ W',Below W.heap.size W W'→Row W' m.B (m.hs.map rowVal)):=hid (fun W' hW=>HS.out.rB.below (by rw [HR.out];exact h3.trans (hW.mono (Nat.le_of_lt (lt_of_block h2.h0)))))
   have HRB2:Hid (rb=(decide (total ((ringsM m).map RowV.l)≤80)&&allFrom (holeB m.o.l (holesL m)) m.hs.length 0)):=hid (by
    rw [HRB.out]
    unfold shapeB
    have e1:(m.o.l::holesL m).all ringB=true:=by
     rw [List.all_eq_true]
     intro y hy
     rcases List.mem_cons.1 hy with rfl | hy
     ·exact h1 m.o (by simp [ringsM])
     ·obtain ⟨z,hz,rfl⟩:=List.mem_map.1 hy
      exact h1 z (by simp [ringsM,hz])
    rw [e1]
    have e2:(holesL m).length=m.hs.length:=by simp [holesL]
    rw [e2,decide_eq_true H6.out]
    rfl)
   have hov:=HOV.out
   unfold rowVal at hov
   subst hov
   have c0:W.cell? ⟨r,0,none⟩=some (.slice m.o.A m.o.l.length m.o.k):=by rw [Lib.cell_of_heap h2.h0];rfl
   have c1:W.cell? ⟨r,1,none⟩=some (.slice m.B m.hs.length m.k):=by rw [Lib.cell_of_heap h2.h0];rfl
   have c2:W.cell? ⟨r+1+1,0,none⟩=some (.int .i64 (total ((ringsM m).map RowV.l))):=by rw [Lib.cell_of_heap h2.h2];rfl
   have c3:W.cell? ⟨r+1,0,none⟩=some (.bool false):=by rw [Lib.cell_of_heap h2.h1];rfl
   have f3:W.frozen? ⟨r+1,0,none⟩=false:=Lib.frozen_of_heap h2.h1 0
   have hb3:=lt_of_block h2.h1
   clear h1 h2 h3 h4 hK
   by_cases ht:total ((ringsM m).map RowV.l)≤80
   case neg =>
    have t1:decide (80 < ((total ((ringsM m).map RowV.l):Nat):Int))=true:=decide_eq_true (by omega)
    have HF0:Hid (rb=false):=hid (by rw [HRB2.out];simp [ht])
    clear ht
    generalize ((total ((ringsM m).map RowV.l):Nat):Int)=tn at *
    gi_wp2
    exact sh_leave H2.out H3.out HR.out hD HKD.out _ (by rfl) HF0.out
   case pos =>
    have t1:decide (80 < ((total ((ringsM m).map RowV.l):Nat):Int))=false:=decide_eq_false (by omega)
    rw [decide_eq_true ht] at HRB2
    have HRB3:Hid (rb=allFrom (holeB m.o.l (holesL m)) m.hs.length 0):=HRB2
    clear ht HRB2
    generalize ((total ((ringsM m).map RowV.l):Nat):Int)=tn at *
    gi_wp2
    clear c0 c1 c2 c3 f3 hb3
    gi_loopw [5,6,8,28] (fun _ _ _ i wr=>∃ k:Nat,i=.int .i64 (k:Int)∧k≤m.hs.length∧Hid (rb=allFrom (holeB m.o.l (holesL m)) (m.hs.length - k) k)∧Hid (Below W.heap.size W wr)) (fun _ _ _ i _=>m.hs.length - (intOf i).toNat)
    case atStart=>exact ⟨0,rfl,Nat.zero_le _,HRB3,hid (Below.refl _ _)⟩
    case round =>
     obtain ⟨k,rfl,hk,HD,HB⟩:=hrel
     have HC:=hid (H2.out.below HB.out)
     have HZ:=hid (Nat.le_of_lt (lt_of_block H2.out.h0))
     by_cases hlt:k < m.hs.length
     ·skip
      have HD1:Hid (rb=(holeB m.o.l (holesL m) k&&allFrom (holeB m.o.l (holesL m)) (m.hs.length - (k+1)) (k+1))):=hid (by rw [HD.out,allFrom_step hlt])
      obtain ⟨g,off,hB,hg,hc⟩:=row_one (HRH.out W (Below.refl _ _)) (k:=k) (by simpa using hlt)
      have HCA:Hid (∀ j (h:j < m.hs.length),W.cell? ⟨g,off+j,none⟩=some (rowVal m.hs[j])):=hid (fun j h=>by rw [hc j (by simpa using h),List.getElem_map])
      have HGW:=hid hg
      have HAT:Hid (hAt (holesL m) k=m.hs[k].l):=hid (by unfold hAt holesL;rw [List.getD_eq_getElem?_getD,List.getElem?_eq_getElem (by simpa using hlt)];simp)
      have ck:=(HB.out.cell (p:=⟨g,off+k,none⟩) hg).trans (HCA.out k hlt)
      have hx:=HVH.out m.hs[k] (List.getElem_mem hlt)
      have HXM:Hid (m.hs[k]∈ringsM m):=hid (List.mem_cons_of_mem _ (List.getElem_mem hlt))
      have ho:=HVO.out
      have hom:m.o∈ringsM m:=by simp [ringsM]
      clear hc hg
      obtain ⟨pq,HPQ0⟩:∃ pq,Hid (pq=allFrom (fun j=>pairB m.hs[k].l (hAt (holesL m) j)) k 0):=⟨_,hid rfl⟩
      have HHB:Hid (holeB m.o.l (holesL m) k=((allB m.hs[k].l m.o.l 2&&apartB m.hs[k].l m.o.l)&&pq)):=hid (by unfold holeB;rw [HAT.out,HPQ0.out])
      generalize m.hs[k]=x at *
      have HAL:=hid (fun W' (hW:Below W.heap.size W W')=>allAt_any m.o.l x.l m.o.A x.A m.o.k x.k 2 W' (HRW.out W' hW m.o hom) ho.1 (HRW.out W' hW x HXM.out) hx.2.1 (by omega))
      have HAP:=hid (fun W' (hW:Below W.heap.size W W')=>apart_any x.l m.o.l x.A m.o.A x.k m.o.k W' (HRW.out W' hW x HXM.out) (HRW.out W' hW m.o hom) ⟨by omega,by omega⟩ ⟨by omega,by omega⟩)
      generalize allB x.l m.o.l 2=b1 at *
      generalize apartB x.l m.o.l=b2 at *
      unfold rowVal at ck
      have hk1:(0:Int)≤(k:Int):=by omega
      have hk2:(k:Int) < (m.hs.length:Int):=by omega
      have hk3:k≤m.k:=by have:=HS.out.room;omega
      have hk4:(k:Int)≤(m.k:Int):=by omega
      have c0:wr.cell? ⟨r,0,none⟩=some (.slice m.o.A m.o.l.length m.o.k):=by rw [Lib.cell_of_heap (H2.out.below HB.out).h0];rfl
      have c1:wr.cell? ⟨r,1,none⟩=some (.slice m.B m.hs.length m.k):=by rw [Lib.cell_of_heap (H2.out.below HB.out).h0];rfl
      clear ho hom
      rw [hB] at c1 ⊢
      cases b1
      ·have HF0:Hid (rb=false):=hid (by rw [HD1.out,HHB.out];simp)
       gi_wp2
       refine ⟨trivial,?_⟩
       refine (callsIn_wide.2 (HAL.out _ HB.out)).mono ?_
       rintro e w5 ⟨rfl,hb⟩
       have HB5:=hid (HB.out.trans (hb.mono HB.out.size))
       clear hb ck c0 c1
       have c3:w5.cell? ⟨r+1,0,none⟩=some (.bool false):=by rw [Lib.cell_of_heap (H2.out.below HB5.out).h1];rfl
       have f3:w5.frozen? ⟨r+1,0,none⟩=false:=Lib.frozen_of_heap (H2.out.below HB5.out).h1 0
       have hb3:=lt_of_block (H2.out.below HB5.out).h1
       have HK9:=hid ((HB5.out.block _ (lt_of_block HKD.out)).trans HKD.out)
       gi_wp2
       refine ⟨trivial,?_⟩
       gi_wp2
       exact sh_leave (H2.out.below HB5.out) (H3.out.trans (HB5.out.mono HZ.out)) HR.out hD HK9.out _ (by rfl) HF0.out
      ·cases b2
       ·have HF0:Hid (rb=false):=hid (by rw [HD1.out,HHB.out];simp)
        gi_wp2
        refine ⟨trivial,?_⟩
        refine (callsIn_wide.2 (HAL.out _ HB.out)).mono ?_
        rintro e w5 ⟨rfl,hb⟩
        have HB5:=hid (HB.out.trans (hb.mono HB.out.size))
        clear hb ck c0 c1
        have c0:w5.cell? ⟨r,0,none⟩=some (.slice m.o.A m.o.l.length m.o.k):=by rw [Lib.cell_of_heap (H2.out.below HB5.out).h0];rfl
        have c1:w5.cell? ⟨r,1,none⟩=some (.slice m.B m.hs.length m.k):=by rw [Lib.cell_of_heap (H2.out.below HB5.out).h0];rfl
        clear c1
        gi_wp2
        refine ⟨trivial,?_⟩
        refine (callsIn_wide.2 (HAP.out _ HB5.out)).mono ?_
        rintro e w6 ⟨rfl,hb⟩
        have HB6:=hid (HB5.out.trans (hb.mono HB5.out.size))
        clear hb c0
        have c3:w6.cell? ⟨r+1,0,none⟩=some (.bool false):=by rw [Lib.cell_of_heap (H2.out.below HB6.out).h1];rfl
        have f3:w6.frozen? ⟨r+1,0,none⟩=false:=Lib.frozen_of_heap (H2.out.below HB6.out).h1 0
        have hb3:=lt_of_block (H2.out.below HB6.out).h1
        have HK9:=hid ((HB6.out.block _ (lt_of_block HKD.out)).trans HKD.out)
        gi_wp2
        exact sh_leave (H2.out.below HB6.out) (H3.out.trans (HB6.out.mono HZ.out)) HR.out hD HK9.out _ (by rfl) HF0.out
       ·skip
        gi_wp2
        refine ⟨trivial,?_⟩
        refine (callsIn_wide.2 (HAL.out _ HB.out)).mono ?_
        rintro e w5 ⟨rfl,hb⟩
        have HB5:=hid (HB.out.trans (hb.mono HB.out.size))
        clear hb ck c0 c1
        have c0:w5.cell? ⟨r,0,none⟩=some (.slice m.o.A m.o.l.length m.o.k):=by rw [Lib.cell_of_heap (H2.out.below HB5.out).h0];rfl
        have c1:w5.cell? ⟨r,1,none⟩=some (.slice m.B m.hs.length m.k):=by rw [Lib.cell_of_heap (H2.out.below HB5.out).h0];rfl
        clear c1
        gi_wp2
        refine ⟨trivial,?_⟩
        refine (callsIn_wide.2 (HAP.out _ HB5.out)).mono ?_
        rintro e w6 ⟨rfl,hb⟩
        have HB6:=hid (HB5.out.trans (hb.mono HB5.out.size))
        clear hb c0
        have c0:w6.cell? ⟨r,0,none⟩=some (.slice m.o.A m.o.l.length m.o.k):=by rw [Lib.cell_of_heap (H2.out.below HB6.out).h0];rfl
        have c1:w6.cell? ⟨r,1,none⟩=some (.slice m.B m.hs.length m.k):=by rw [Lib.cell_of_heap (H2.out.below HB6.out).h0];rfl
        rw [hB] at c1
        gi_wp2
        clear c0 c1
        gi_loopw [8,50] (fun _ i wr=>∃ j:Nat,i=.int .i64 (j:Int)∧j≤k∧Hid (pq=allFrom (fun j=>pairB x.l (hAt (holesL m) j)) (k - j) j)∧Hid (Below W.heap.size W wr)) (fun _ i _=>k - (intOf i).toNat)
        case atStart=>exact ⟨0,rfl,Nat.zero_le _,HPQ0,HB6⟩
        case round =>
         obtain ⟨j,rfl,hj,HPQ,HBI⟩:=hrel
         by_cases hjk:j < k
         ·have hjl:j < m.hs.length:=by omega
          have HP1:Hid (pq=(pairB x.l (hAt (holesL m) j)&&allFrom (fun j=>pairB x.l (hAt (holesL m) j)) (k - (j+1)) (j+1))):=hid (by rw [HPQ.out,allFrom_step hjk])
          have HAJ:Hid (hAt (holesL m) j=m.hs[j].l):=hid (by unfold hAt holesL;rw [List.getD_eq_getElem?_getD,List.getElem?_eq_getElem (by simpa using hjl)];simp)
          rw [HAJ.out] at HP1
          have cj:=(HBI.out.cell (p:=⟨g,off+j,none⟩) (HGW.out)).trans (HCA.out j hjl)
          have hy:=HVH.out m.hs[j] (List.getElem_mem hjl)
          have hym:m.hs[j]∈ringsM m:=List.mem_cons_of_mem _ (List.getElem_mem hjl)
          generalize m.hs[j]=y at *
          have HAP2:=hid (fun W' (hW:Below W.heap.size W W')=>apart_any x.l y.l x.A y.A x.k y.k W' (HRW.out W' hW x HXM.out) (HRW.out W' hW y hym) ⟨by omega,by omega⟩ ⟨by omega,by omega⟩)
          have HAL2:=hid (fun W' (hW:Below W.heap.size W W')=>allAt_any y.l x.l y.A x.A y.k x.k 0 W' (HRW.out W' hW y hym) hy.1 (HRW.out W' hW x HXM.out) hx.2.1 (by omega))
          have HAL3:=hid (fun W' (hW:Below W.heap.size W W')=>allAt_any x.l y.l x.A y.A x.k y.k 0 W' (HRW.out W' hW x HXM.out) hx.1 (HRW.out W' hW y hym) hy.2.1 (by omega))
          have HPB:Hid (pairB x.l y.l=(apartB x.l y.l&&(allB x.l y.l 0&&allB y.l x.l 0))):=hid rfl
          generalize pairB x.l y.l=pb at *
          generalize apartB x.l y.l=q1 at *
          generalize allB x.l y.l 0=q2 at *
          generalize allB y.l x.l 0=q3 at *
          unfold rowVal at cj
          have hj1:(0:Int)≤(j:Int):=by omega
          have hj2:(j:Int) < (k:Int):=by omega
          clear hy hym
          cases q1
          ·have HF0:Hid (rb=false):=hid (by rw [HD1.out,HHB.out,HP1.out,HPB.out];simp)
           gi_wp2
           refine ⟨trivial,?_⟩
           refine (callsIn_wide.2 (HAP2.out _ HBI.out)).mono ?_
           rintro e w7 ⟨rfl,hb⟩
           have HB7:=hid (HBI.out.trans (hb.mono HBI.out.size))
           clear hb cj
           have c3:w7.cell? ⟨r+1,0,none⟩=some (.bool false):=by rw [Lib.cell_of_heap (H2.out.below HB7.out).h1];rfl
           have f3:w7.frozen? ⟨r+1,0,none⟩=false:=Lib.frozen_of_heap (H2.out.below HB7.out).h1 0
           have hb3:=lt_of_block (H2.out.below HB7.out).h1
           have HK9:=hid ((HB7.out.block _ (lt_of_block HKD.out)).trans HKD.out)
           gi_wp2
           refine ⟨trivial,?_⟩
           gi_wp2
           refine ⟨trivial,?_⟩
           gi_wp2
           exact sh_leave (H2.out.below HB7.out) (H3.out.trans (HB7.out.mono HZ.out)) HR.out hD HK9.out _ (by rfl) HF0.out
          ·cases q2
           ·have HF0:Hid (rb=false):=hid (by rw [HD1.out,HHB.out,HP1.out,HPB.out];simp)
            gi_wp2
            refine ⟨trivial,?_⟩
            refine (callsIn_wide.2 (HAP2.out _ HBI.out)).mono ?_
            rintro e w7 ⟨rfl,hb⟩
            have HB7:=hid (HBI.out.trans (hb.mono HBI.out.size))
            clear hb cj
            gi_wp2
            refine ⟨trivial,?_⟩
            refine (callsIn_wide.2 (HAL2.out _ HB7.out)).mono ?_
            rintro e w8 ⟨rfl,hb⟩
            have HB8:=hid (HB7.out.trans (hb.mono HB7.out.size))
            clear hb
            have c3:w8.cell? ⟨r+1,0,none⟩=some (.bool false):=by rw [Lib.cell_of_heap (H2.out.below HB8.out).h1];rfl
            have f3:w8.frozen? ⟨r+1,0,none⟩=false:=Lib.frozen_of_heap (H2.out.below HB8.out).h1 0
            have hb3:=lt_of_block (H2.out.below HB8.out).h1
            have HK9:=hid ((HB8.out.block _ (lt_of_block HKD.out)).trans HKD.out)
            gi_wp2
            refine ⟨trivial,?_⟩
            gi_wp2
            exact sh_leave (H2.out.below HB8.out) (H3.out.trans (HB8.out.mono HZ.out)) HR.out hD HK9.out _ (by rfl) HF0.out
           ·cases q3
            ·have HF0:Hid (rb=false):=hid (by rw [HD1.out,HHB.out,HP1.out,HPB.out];simp)
             gi_wp2
             refine ⟨trivial,?_⟩
             refine (callsIn_wide.2 (HAP2.out _ HBI.out)).mono ?_
             rintro e w7 ⟨rfl,hb⟩
             have HB7:=hid (HBI.out.trans (hb.mono HBI.out.size))
             clear hb cj
             gi_wp2
             refine ⟨trivial,?_⟩
             refine (callsIn_wide.2 (HAL2.out _ HB7.out)).mono ?_
             rintro e w8 ⟨rfl,hb⟩
             have HB8:=hid (HB7.out.trans (hb.mono HB7.out.size))
             clear hb
             gi_wp2
             refine ⟨trivial,?_⟩
             refine (callsIn_wide.2 (HAL3.out _ HB8.out)).mono ?_
             rintro e w9 ⟨rfl,hb⟩
             have HB9:=hid (HB8.out.trans (hb.mono HB8.out.size))
             clear hb
             have c3:w9.cell? ⟨r+1,0,none⟩=some (.bool false):=by rw [Lib.cell_of_heap (H2.out.below HB9.out).h1];rfl
             have f3:w9.frozen? ⟨r+1,0,none⟩=false:=Lib.frozen_of_heap (H2.out.below HB9.out).h1 0
             have hb3:=lt_of_block (H2.out.below HB9.out).h1
             have HK9:=hid ((HB9.out.block _ (lt_of_block HKD.out)).trans HKD.out)
             gi_wp2
             exact sh_leave (H2.out.below HB9.out) (H3.out.trans (HB9.out.mono HZ.out)) HR.out hD HK9.out _ (by rfl) HF0.out
            ·have HP2:Hid (pq=allFrom (fun j=>pairB x.l (hAt (holesL m) j)) (k - (j+1)) (j+1)):=hid (by rw [HP1.out,HPB.out];rfl)
             gi_wp2
             refine ⟨trivial,?_⟩
             refine (callsIn_wide.2 (HAP2.out _ HBI.out)).mono ?_
             rintro e w7 ⟨rfl,hb⟩
             have HB7:=hid (HBI.out.trans (hb.mono HBI.out.size))
             clear hb cj
             gi_wp2
             refine ⟨trivial,?_⟩
             refine (callsIn_wide.2 (HAL2.out _ HB7.out)).mono ?_
             rintro e w8 ⟨rfl,hb⟩
             have HB8:=hid (HB7.out.trans (hb.mono HB7.out.size))
             clear hb
             gi_wp2
             refine ⟨trivial,?_⟩
             refine (callsIn_wide.2 (HAL3.out _ HB8.out)).mono ?_
             rintro e w9 ⟨rfl,hb⟩
             have HB9:=hid (HB8.out.trans (hb.mono HB8.out.size))
             clear hb
             gi_wp2
             go_roundw
             case rel=>exact ⟨j+1,by go_num,by omega,HP2,HB9⟩
             case measure=>simp [intOf];omega
         ·obtain rfl:j=k:=by omega
          have HD2:Hid (rb=allFrom (holeB m.o.l (holesL m)) (m.hs.length - (j+1)) (j+1)):=hid (by rw [HD1.out,HHB.out,HPQ.out,allFrom_end];rfl)
          gi_wp2
          go_roundw
          case rel=>exact ⟨j+1,by go_num,by omega,HD2,HBI⟩
          case measure=>simp [intOf];omega
     ·obtain rfl:k=m.hs.length:=by omega
      have HF1:Hid (rb=true):=hid (by rw [HD.out,allFrom_end])
      have HK9:=hid ((HB.out.block _ (lt_of_block HKD.out)).trans HKD.out)
      have c3:wr.cell? ⟨r+1,0,none⟩=some (.bool false):=by rw [Lib.cell_of_heap HC.out.h1];rfl
      have f3:wr.frozen? ⟨r+1,0,none⟩=false:=Lib.frozen_of_heap HC.out.h1 0
      have hb3:=lt_of_block HC.out.h1
      gi_wp2
      exact sh_leave HC.out (H3.out.trans (HB.out.mono HZ.out)) HR.out hD HK9.out _ (by rfl) HF1.out
  case stop =>
   rintro D c pre W hD ⟨post,hpost⟩ ⟨rfl,⟨x,hx,hq⟩,⟨n,h3⟩,h4⟩ hK
   gi_wp2
   rw [HS4.out] at hD
   have h3':=h3.put (l:=D) (by omega) (.deferred none)
   refine ⟨by simp,.inl ⟨_,_,rfl,run_takeDeferred hK,?_⟩⟩
   have HRF:rb=false:=by
    rw [HRB.out]
    unfold shapeB
    have:(m.o.l::holesL m).all ringB=false:=by
     rw [List.all_eq_false]
     refine ⟨x.l,?_,by simp [hq]⟩
     have:x∈ringsM m:=by rw [← hpost];exact List.mem_append_left _ hx
     rcases List.mem_cons.1 this with rfl | h
     ·simp
     ·exact List.mem_cons_of_mem _ (List.mem_map_of_mem h)
    rw [this]
    simp
   rw [HRF]
   exact ⟨_,shres h3'.h1 _ rfl,rfl,by rw [HR.out];exact below_put h4 (by omega) _⟩
end Go.Proofs.YtnkkcknogkgdkaaGreatDoor.GeW
