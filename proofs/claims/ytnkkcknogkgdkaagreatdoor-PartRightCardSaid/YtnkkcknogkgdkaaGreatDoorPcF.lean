/- Walks: the doubled area of a ring, of a valid shape. Conditions: they lie in memory. -/
import Derived.Test.YtnkkcknogkgdkaaGreatDoorSh3

namespace Go.Proofs.YtnkkcknogkgdkaaGreatDoor.GeW
open Lib (hid)
open Go Go.RowKit Go.Proofs.YtnkkcknogkgdkaaGreatDoor.Mem Go.Proofs.YtnkkcknogkgdkaaGreatDoor.Ge
set_option maxRecDepth 100000 in
theorem ringArea_any (l:List V) (A:Option Addr) (c:Nat) (w:World) (hr:Row w A (l.flatMap ptCells)) (hv:ringB l=true) (hl:l.length≤200) :
  Calls Tryz.prog 81 #[.slice A l.length c] w fun e w'=>e=.returned (.int .i64 (area l))∧Below w.heap.size w w':=by
 have HV:=hid (ring_any l A c w hr (by omega))
 rw [hv] at HV
 have HA:=hid (fun W (hW:Below w.heap.size w W)=>area_any l A c W (hr.below hW) hl (ring_near hv).1)
 clear hr
 generalize area l=a at *
 go_enter Tryz.func81,Tryz.ntmps81
 go_wp2_with fail
 refine HV.out.mono ?_
 rintro e w1 ⟨rfl,hb1⟩
 go_wp2_with fail
 refine (HA.out w1 hb1).mono ?_
 rintro e w2 ⟨rfl,hb2⟩
 go_wp2
 go_ret
 exact ⟨rfl,hb1.trans (hb2.mono hb1.size)⟩
def areaS:List RowV→Int
 | []=>0
 | x::r=>area x.l+areaS r
theorem areaS_snoc:∀ (a:List RowV) (x:RowV),areaS (a++[x])=areaS a+area x.l
 | [],x=>by simp [areaS]
 | y::a,x=>by
  rw [List.cons_append,areaS,areaS,areaS_snoc a x]
  omega
theorem areaS_bound:∀ a:List RowV,(∀ x∈a,near x.l=true∧x.l.length≤40)→-320000000*(a.length:Int)≤areaS a∧areaS a≤320000000*(a.length:Int)
 | [],_=>by simp [areaS]
 | x::r,h=>by
  have h1:=h x (by simp)
  have h2:=areaS_bound r (fun y hy=>h y (by simp [hy]))
  have h3:=areaFrom_le h1.1 x.l.length (Nat.le_refl _)
  have h4:(x.l.length:Int)≤40:=by have:=h1.2;omega
  unfold areaS area
  rw [List.length_cons]
  omega
def AI (w:World) (r nb:Nat) (a0:Int) (pre:List RowV) (W:World):Prop :=
 W.heap[nb]? = some (.cells #[.int .i64 (2*a0 - areaS pre)] 3)∧Below r w W∧nb+2≤W.heap.size
attribute [local go_sem] Oper.semAt_some
set_option maxRecDepth 100000 in
set_option maxHeartbeats 4000000 in
theorem shapeArea_any (m:ShapeM) (w:World) (h:ShapeIn w m) (hv:shapeB m.o.l (holesL m)=true) :
  Calls Tryz.prog 38 #[.agg (shapeVals m)] w fun e w'=>e=.returned (.int .i64 (2*area m.o.l - areaS (ringsM m)))∧Below w.heap.size w w':=by
 have HS:=hid h
 have HF:=hid h.few
 have HALL:Hid (∀ x∈ringsM m,ringB x.l=true∧near x.l=true∧3≤x.l.length∧x.l.length≤40):=hid (by
  intro x hx
  have e1:(m.o.l::holesL m).all ringB=true:=by
   unfold shapeB at hv
   simp only [Bool.and_eq_true] at hv
   simp only [List.all_cons,Bool.and_eq_true]
   first | exact ⟨hv.1,hv.2.1⟩ | (simp_all)
  have hr:ringB x.l=true:=by
   rw [List.all_eq_true] at e1
   rcases List.mem_cons.1 hx with rfl | hx
   ·exact e1 _ (by simp)
   ·exact e1 _ (List.mem_cons_of_mem _ (List.mem_map.2 ⟨x,hx,rfl⟩))
  exact ⟨hr,ring_near hr⟩)
 have HRI:=hid (fun W=>rings_in 8 m W)
 have HSV:=hid (fun W (hW:ShapeIn W m)=>shapeOk_any m W hW)
 rw [hv] at HSV
 have HA0:=hid (HALL.out m.o (by simp [ringsM]))
 have HAO:=hid (fun W (hW:ShapeIn W m)=>ringArea_any m.o.l m.o.A m.o.k W hW.ro HA0.out.1 (by have:=HA0.out.2.2.2;omega))
 have HAB:Hid (-320000000≤area m.o.l∧area m.o.l≤320000000):=hid (by
  have h3:=areaFrom_le HA0.out.2.1 m.o.l.length (Nat.le_refl _)
  have h4:(m.o.l.length:Int)≤40:=by have:=HA0.out.2.2.2;omega
  unfold area
  omega)
 obtain ⟨a0,HE0⟩:∃ a0,Hid (area m.o.l=a0):=⟨_,hid rfl⟩
 rw [HE0.out] at HAO HAB ⊢
 have HUN:Hid (shapeVals m=#[rowVal m.o,holesVal m]):=hid rfl
 rw [HUN.out] at HRI HSV
 obtain ⟨vh,hvh⟩:∃ vh,holesVal m=vh:=⟨_,rfl⟩
 obtain ⟨ov,hov⟩:∃ ov,rowVal m.o=ov:=⟨_,rfl⟩
 rw [HUN.out]
 rw [hvh,hov] at HRI HSV ⊢
 have HAO2:Hid (∀ W,ShapeIn W m→Calls Tryz.prog 81 #[ov] W fun e w'=>e=.returned (.int .i64 a0)∧Below W.heap.size W w'):=hid (fun W hW=>by rw [← hov];exact HAO.out W hW)
 clear HAO
 have HOV:=hid hov
 have HVH:=hid hvh
 have hbx:=(Below.refl w.heap.size w).alloc (Nat.le_refl _) (.cells #[ov,vh] 48)
 have HX0:=hid (heap_alloc_new w (.cells #[ov,vh] 48))
 have HB0:=hid hbx
 have HS0:=hid (h.below hbx)
 clear hbx h hov hvh hv
 refine (callsIn_wide (n:=9)).1 ?_
 refine callsIn_of_wp_marks Tryz.func38 rfl trivial ?_ rfl
 simp only [Tryz.ntmps38,List.size_toArray,List.length_cons,List.length_nil,Nat.reduceAdd,Nat.reduceSub,Array.replicate_succ,Array.replicate_zero,List.push_toArray,List.append_toArray,List.nil_append,List.cons_append]
 gi_wp2
 refine ⟨trivial,?_⟩
 refine (callsIn_wide.2 (HSV.out _ HS0.out)).mono ?_
 rintro e w1 ⟨rfl,hb1⟩
 have HB1:=hid (HB0.out.trans (hb1.mono HB0.out.size))
 have HX1:=hid ((hb1.block _ (lt_of_block HX0.out)).trans HX0.out)
 have HS1:=hid (HS0.out.below hb1)
 clear hb1 HB0 HX0 HS0 HSV
 have k0:w1.cell? ⟨w.heap.size,0,none⟩=some ov:=by rw [Lib.cell_of_heap HX1.out];rfl
 gi_wp2
 refine ⟨trivial,?_⟩
 refine (callsIn_wide.2 (HAO2.out w1 HS1.out)).mono ?_
 rintro e w2 ⟨rfl,hb2⟩
 have HB2:=hid (HB1.out.trans (hb2.mono HB1.out.size))
 have HX2:=hid ((hb2.block _ (lt_of_block HX1.out)).trans HX1.out)
 clear hb2 HB1 HX1 HS1 HAO2 k0
 have x2:IntKind.i64.wrap (2*a0)=2*a0:=by have:=HAB.out;rw [IntKind.wrap_i64];omega
 have hb3:=(Below.refl w2.heap.size w2).alloc (Nat.le_refl _) (.cells #[.int .i64 (2*a0)] 3)
 have HB3:=hid (HB2.out.trans (hb3.mono HB2.out.size))
 have HX3:=hid ((hb3.block _ (lt_of_block HX2.out)).trans HX2.out)
 have HN3:=hid (heap_alloc_new w2 (.cells #[.int .i64 (2*a0)] 3))
 have HZ3:Hid ((w2.alloc (.cells #[.int .i64 (2*a0)] 3)).heap.size=w2.heap.size+1):=hid (by simp)
 have HRZ:=hid (lt_of_block HX2.out)
 have k0:(w2.alloc (.cells #[.int .i64 (2*a0)] 3)).cell? ⟨w.heap.size,0,none⟩=some ov:=by rw [Lib.cell_of_heap HX3.out];rfl
 have k1:(w2.alloc (.cells #[.int .i64 (2*a0)] 3)).cell? ⟨w.heap.size,1,none⟩=some vh:=by rw [Lib.cell_of_heap HX3.out];rfl
 clear hb3 HB2 HX2
 gi_wp2
 refine ⟨trivial,?_⟩
 refine (HRI.out _).mono ?_
 rintro e w4 ⟨rfl,rfl⟩
 clear k0 k1
 have HBX:=hid (heap_alloc_new2 (w2.alloc (.cells #[.int .i64 (2*a0)] 3)) (.cells #[ov,vh] 48) HZ3.out.symm)
 have HBE4:=hid (HB3.out.alloc (by have:=HB3.out.size;exact this) (.cells #[ov,vh] 48))
 have HC4:=hid (block_old (o':=(.cells #[ov,vh] 48)) HN3.out)
 have HS4:Hid (((w2.alloc (.cells #[.int .i64 (2*a0)] 3)).alloc (.cells #[ov,vh] 48)).heap.size=w2.heap.size+1+1):=hid (by rw [World.size_alloc,HZ3.out])
 gi_wp2
 clear HB3 HX3 HN3 HZ3
 generalize (w2.alloc (.cells #[.int .i64 (2*a0)] 3)).alloc (.cells #[ov,vh] 48)=W4 at *
 generalize w2.heap.size=nb at *
 generalize hr:w.heap.size=r at *
 have HR:=hid hr
 clear hr
 have hrz:=HRZ.out
 refine' wpIn_rangeFunc_box rfl (by decide) (gf := 142) (lb:=#[.pointer (some ⟨nb+1,0,none⟩)]) rfl trivial (enters_of Tryz.func142 (by kernel_rfl) rfl)
  (b:=nb+1) (N:=r) (by rw [HS4.out];omega) (by rw [HS4.out];omega)
  (by rw [← HR.out];exact rings1_gives _ _ m w W4 (by rw [← HOV.out,← HVH.out] at HBX;exact HBX.out) HS.out.rB (fun k hk=>HBE4.out.block k (by rw [← HR.out];exact hk)) (by rw [HS4.out,HR.out];omega) HF.out (by decide))
  (fun _=>rfl) (AI w r nb a0) (fun _ _ _=>False) ?hI ?hI2 ?hX ?hX2 ?h0 _ ?assign ?body ?done ?stop
 case hI =>
  rintro pre A B ⟨h1,h3,h4⟩ ht
  exact ⟨(ht.block _ (lt_of_block h1) (by omega)).trans h1,below_turn h3 (by omega) (by omega) ht,Nat.le_trans h4 ht.size⟩
 case hI2 =>
  rintro pre A l o o' ⟨h1,h3,h4⟩ hl ho hc
  rw [HS4.out] at hl
  exact ⟨(World.putObj_heap_other (by omega)).trans h1,below_put h3 (by omega) _,by simpa [World.putObj] using h4⟩
 case hX=>exact fun _ _ _ _ h _=>h
 case hX2=>exact fun _ _ _ _ _ _ h _ _ _=>h
 case h0=>exact ⟨by simpa [areaS] using HC4.out,HBE4.out,by rw [HS4.out];omega⟩
 case assign =>
  intro l x W K hK
  dsimp only [encRing]
  gi_wp2
  exact hK
 case body =>
  rintro l pre x W ⟨h1,h3,h4⟩ hpre
  have hx:x∈ringsM m:=hpre.subset (by simp)
  have hlx:=HALL.out x hx
  have hpl:pre.length≤1001:=by
   have h:=hpre.length_le
   have h6:=HF.out
   simp [ringsM] at h
   omega
  have hpb:=areaS_bound pre (fun y hy=>⟨(HALL.out y (hpre.subset (by simp [hy]))).2.1,(HALL.out y (hpre.subset (by simp [hy]))).2.2.2⟩)
  have HAR:=hid (fun W' (hW:Below r w W')=>ringArea_any x.l x.A x.k W' ((HS.out.row hx).below (by rw [HR.out];exact hW)) hlx.1 (by omega))
  have hxb : -320000000≤area x.l∧area x.l≤320000000:=by
   have h3:=areaFrom_le hlx.2.1 x.l.length (Nat.le_refl _)
   have h4:(x.l.length:Int)≤40:=by have:=hlx.2.2.2;omega
   unfold area
   omega
  have HSUM:Hid (2*a0 - areaS (pre++[x])=2*a0 - areaS pre - area x.l):=hid (by rw [areaS_snoc];omega)
  have H1:=hid h1
  have H3:=hid h3
  have H4:=hid h4
  have c1:W.cell? ⟨nb,0,none⟩=some (.int .i64 (2*a0 - areaS pre)):=by rw [Lib.cell_of_heap h1];rfl
  have x3:IntKind.i64.wrap (2*a0 - areaS pre - area x.l)=2*a0 - areaS pre - area x.l:=by have:=HAB.out;rw [IntKind.wrap_i64];omega
  clear h1 h3 h4 hx hlx hpl hpre hpb hxb
  generalize 2*a0 - areaS pre=v at *
  generalize area x.l=ax at *
  unfold rowVal
  gi_wp2
  refine wpIn_region_any (by kernel_rfl) ?_
  refine wpAnyIn_ready (rs:=[0,1]) (by kernel_rfl) (by simp) ?_
  refine (AllReadyIn.cons rfl (fun K hK=>?_) (AllReadyIn.cons rfl (fun K hK=>?_) AllReadyIn.nil))
  ·skip
   go_simp
   refine hK _ _ ?_
   refine wpAnyIn_ready (rs:=[1]) (by kernel_rfl) (by simp) ?_
   refine (AllReadyIn.cons rfl (fun K hK=>?_) AllReadyIn.nil)
   ·skip
    go_simp
    refine hK _ _ ?_
    refine wpAnyIn_ready (rs:=[2]) (by kernel_rfl) (by simp) ?_
    refine (AllReadyIn.cons rfl (fun K hK=>?_) AllReadyIn.nil)
    ·skip
     go_simp
     refine ⟨trivial,?_⟩
     refine (CallsIn.inRound l (callsIn_wide.2 (HAR.out _ (below_drew H3.out)))).mono ?_
     rintro e w5 ⟨rfl,hb5⟩
     have HB5:=hid ((below_drew (Below.refl W.heap.size W)).trans (hb5.mono (Nat.le_refl _)))
     clear c1
     have c1:w5.cell? ⟨nb,0,none⟩=some (.int .i64 v):=(HB5.out.cell (p:=⟨nb,0,none⟩) (lt_of_block H1.out)).trans (by rw [Lib.cell_of_heap H1.out];rfl)
     have H15:=hid ((HB5.out.block nb (lt_of_block H1.out)).trans H1.out)
     have f1:w5.frozen? ⟨nb,0,none⟩=false:=Lib.frozen_of_heap H15.out 0
     have hlt5:=lt_of_block H15.out
     clear hb5
     refine hK _ _ ?_
     refine wpAnyIn_ready (rs:=[3]) (by kernel_rfl) (by simp) ?_
     refine (AllReadyIn.cons rfl (fun K hK=>?_) AllReadyIn.nil)
     ·skip
      go_simp
      refine hK _ _ ?_
      refine wpAnyIn_ready (rs:=[4]) (by kernel_rfl) (by simp) ?_
      refine (AllReadyIn.cons rfl (fun K hK=>?_) AllReadyIn.nil)
      ·skip
       go_simp
       refine hK _ _ ?_
       refine wpAnyIn_done (by kernel_rfl) ?_ _
       have h4:=H4.out
       have h16:=block_set H15.out 0 (.int .i64 (v - ax))
       gi_wp2
       refine ⟨(others_below HB5.out).trans (KeepsOthers.setCell _ _ _),⟨?_,?_⟩,?_,?_,?_⟩
       ·exact (block_other w5 nb 0 _ (by omega)).trans (HB5.out.block _ (by omega))
       ·intro k hk
        exact (block_other w5 nb 0 _ (by omega)).trans (HB5.out.block _ (by omega))
       ·rw [HSUM.out]
        exact h16
       ·exact (H3.out.trans (HB5.out.mono (by omega))).setCell (p:=⟨nb,0,none⟩) (by show r≤nb;omega) _
       ·have:=HB5.out.size
        simp [World.setCell]
        omega
  ·skip
   go_simp
   refine hK _ _ ?_
   refine wpAnyIn_ready (rs:=[0,2]) (by kernel_rfl) (by simp) ?_
   refine (AllReadyIn.cons rfl (fun K hK=>?_) (AllReadyIn.cons rfl (fun K hK=>?_) AllReadyIn.nil))
   ·skip
    go_simp
    refine hK _ _ ?_
    refine wpAnyIn_ready (rs:=[2]) (by kernel_rfl) (by simp) ?_
    refine (AllReadyIn.cons rfl (fun K hK=>?_) AllReadyIn.nil)
    ·skip
     go_simp
     refine ⟨trivial,?_⟩
     refine (CallsIn.inRound l (callsIn_wide.2 (HAR.out _ (below_drew H3.out)))).mono ?_
     rintro e w5 ⟨rfl,hb5⟩
     have HB5:=hid ((below_drew (Below.refl W.heap.size W)).trans (hb5.mono (Nat.le_refl _)))
     clear c1
     have c1:w5.cell? ⟨nb,0,none⟩=some (.int .i64 v):=(HB5.out.cell (p:=⟨nb,0,none⟩) (lt_of_block H1.out)).trans (by rw [Lib.cell_of_heap H1.out];rfl)
     have H15:=hid ((HB5.out.block nb (lt_of_block H1.out)).trans H1.out)
     have f1:w5.frozen? ⟨nb,0,none⟩=false:=Lib.frozen_of_heap H15.out 0
     have hlt5:=lt_of_block H15.out
     clear hb5
     refine hK _ _ ?_
     refine wpAnyIn_ready (rs:=[3]) (by kernel_rfl) (by simp) ?_
     refine (AllReadyIn.cons rfl (fun K hK=>?_) AllReadyIn.nil)
     ·skip
      go_simp
      refine hK _ _ ?_
      refine wpAnyIn_ready (rs:=[4]) (by kernel_rfl) (by simp) ?_
      refine (AllReadyIn.cons rfl (fun K hK=>?_) AllReadyIn.nil)
      ·skip
       go_simp
       refine hK _ _ ?_
       refine wpAnyIn_done (by kernel_rfl) ?_ _
       have h4:=H4.out
       have h16:=block_set H15.out 0 (.int .i64 (v - ax))
       gi_wp2
       refine ⟨(others_below HB5.out).trans (KeepsOthers.setCell _ _ _),⟨?_,?_⟩,?_,?_,?_⟩
       ·exact (block_other w5 nb 0 _ (by omega)).trans (HB5.out.block _ (by omega))
       ·intro k hk
        exact (block_other w5 nb 0 _ (by omega)).trans (HB5.out.block _ (by omega))
       ·rw [HSUM.out]
        exact h16
       ·exact (H3.out.trans (HB5.out.mono (by omega))).setCell (p:=⟨nb,0,none⟩) (by show r≤nb;omega) _
       ·have:=HB5.out.size
        simp [World.setCell]
        omega
   ·skip
    go_simp
    refine ⟨trivial,?_⟩
    refine (CallsIn.inRound l (callsIn_wide.2 (HAR.out _ (below_drew H3.out)))).mono ?_
    rintro e w5 ⟨rfl,hb5⟩
    have HB5:=hid ((below_drew (Below.refl W.heap.size W)).trans (hb5.mono (Nat.le_refl _)))
    clear c1
    have c1:w5.cell? ⟨nb,0,none⟩=some (.int .i64 v):=(HB5.out.cell (p:=⟨nb,0,none⟩) (lt_of_block H1.out)).trans (by rw [Lib.cell_of_heap H1.out];rfl)
    have H15:=hid ((HB5.out.block nb (lt_of_block H1.out)).trans H1.out)
    have f1:w5.frozen? ⟨nb,0,none⟩=false:=Lib.frozen_of_heap H15.out 0
    have hlt5:=lt_of_block H15.out
    clear hb5
    refine hK _ _ ?_
    refine wpAnyIn_ready (rs:=[0]) (by kernel_rfl) (by simp) ?_
    refine (AllReadyIn.cons rfl (fun K hK=>?_) AllReadyIn.nil)
    ·skip
     go_simp
     refine hK _ _ ?_
     refine wpAnyIn_ready (rs:=[3]) (by kernel_rfl) (by simp) ?_
     refine (AllReadyIn.cons rfl (fun K hK=>?_) AllReadyIn.nil)
     ·skip
      go_simp
      refine hK _ _ ?_
      refine wpAnyIn_ready (rs:=[4]) (by kernel_rfl) (by simp) ?_
      refine (AllReadyIn.cons rfl (fun K hK=>?_) AllReadyIn.nil)
      ·skip
       go_simp
       refine hK _ _ ?_
       refine wpAnyIn_done (by kernel_rfl) ?_ _
       have h4:=H4.out
       have h16:=block_set H15.out 0 (.int .i64 (v - ax))
       gi_wp2
       refine ⟨(others_below HB5.out).trans (KeepsOthers.setCell _ _ _),⟨?_,?_⟩,?_,?_,?_⟩
       ·exact (block_other w5 nb 0 _ (by omega)).trans (HB5.out.block _ (by omega))
       ·intro k hk
        exact (block_other w5 nb 0 _ (by omega)).trans (HB5.out.block _ (by omega))
       ·rw [HSUM.out]
        exact h16
       ·exact (H3.out.trans (HB5.out.mono (by omega))).setCell (p:=⟨nb,0,none⟩) (by show r≤nb;omega) _
       ·have:=HB5.out.size
        simp [World.setCell]
        omega
 case done =>
  rintro D W hD ⟨h1,h3,h4⟩ hK
  rw [HS4.out] at hD
  have H3:=hid h3
  have HKD:=hid hK
  have c1:W.cell? ⟨nb,0,none⟩=some (.int .i64 (2*a0 - areaS (ringsM m))):=by rw [Lib.cell_of_heap h1];rfl
  clear h1 h3 h4 hK
  gi_wp2
  refine ⟨by simp,.inl ⟨_,_,rfl,run_takeDeferred HKD.out,?_⟩⟩
  exact ⟨.int .i64 (2*a0 - areaS (ringsM m)),by simp [results,Tryz.results38,go_sem],rfl,by rw [HR.out];exact below_put H3.out (by omega) _⟩
 case stop=>exact fun _ _ _ _ _ _ h _=>h.elim
end Go.Proofs.YtnkkcknogkgdkaaGreatDoor.GeW
