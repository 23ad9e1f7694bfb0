/- Walk: Right of a part without holes. Conditions: the part lies in memory; its names, turns and shape are right. -/
import Derived.Test.YtnkkcknogkgdkaaGreatDoorPcC
import Derived.Test.YtnkkcknogkgdkaaGreatDoorPaV

namespace Go.Proofs.YtnkkcknogkgdkaaGreatDoor.PaW
open Lib (hid)
open Go Go.RowKit Go.Proofs.YtnkkcknogkgdkaaGreatDoor.Mem Go.Proofs.YtnkkcknogkgdkaaGreatDoor.Pa
open Go.Proofs.YtnkkcknogkgdkaaGreatDoor.Ge (V)
open Go.Proofs.YtnkkcknogkgdkaaGreatDoor.Lex (Tok)
open Go.Proofs.YtnkkcknogkgdkaaGreatDoor.LexW (tokCells)
attribute [local go_sem ↓] Go.wp_at_zero Go.wp_at_succ

open Go.Proofs.YtnkkcknogkgdkaaGreatDoor.GeW (ptCells pt_len RowV rowVal ShapeM ShapeIn shapeVals holesL holesVal shapeOk_any)
open Go.Proofs.YtnkkcknogkgdkaaGreatDoor.Ge (canonR cleanR cleanE shapeB)
/-- A part as it lies in memory. -/
structure PartM where
 name:List UInt8
 grade:List UInt8
 grain:Int
 turns:List Int
 tA:Option Addr
 tc:Nat
 sh:ShapeM
def partCells (p:PartM):List Value:=[strV p.name,strV p.grade,.int .i64 p.grain,.slice p.tA p.turns.length p.tc,rowVal p.sh.o,holesVal p.sh]
def PartIn (w:World) (p:PartM):Prop:=Row w p.tA (p.turns.map (Value.int .i64))∧ShapeIn w p.sh∧p.turns.length≤1000000∧p.name.length≤1000000∧p.grade.length≤1000000
theorem PartIn.below {w w':World} {p:PartM} (h:PartIn w p) (hb:Below w.heap.size w w'):PartIn w' p:=⟨h.1.below hb,h.2.1.below hb,h.2.2⟩
theorem SrcIn.mono {TO TS:TypeId} {base base':Nat} {w:World} {m:SrcM} (h:SrcIn TO TS base w m) (hb:base≤base'):SrcIn TO TS base' w m :=
 ⟨h.1.mono hb,⟨h.2.1.1.mono hb,h.2.1.2⟩,h.2.2.1.mono hb,fun x hx=>⟨(h.2.2.2.1 x hx).1.mono hb,(h.2.2.2.1 x hx).2⟩,h.2.2.2.2⟩
set_option maxRecDepth 100000 in
set_option maxHeartbeats 4000000 in
theorem make0_any {TO TS:TypeId} {base:Nat} (m:SrcM) (w:World) (h:SrcIn TO TS base w m) (hn:m.name.length≤1000000∧m.grade.length≤1000000) (hh:m.holes=[]) (hst:straight m.outer.o=true) (hv:sourcesOk [m.src]=true)
  (hce:cleanE (ptsOf m.outer.o)=0) (hsb:shapeB (cleanR (ptsOf m.outer.o)) []=true) (hl:m.outer.o.steps.length≤1000) (hr1:(cleanR (ptsOf m.outer.o)).length≤1000) (hr2:(canonR (cleanR (ptsOf m.outer.o))).length≤1000) :
  Calls Tryz.prog 19 #[.agg (srcCells m).toArray] w fun e w'=>(∃ p:PartM,e=.returned (.tuple #[.agg (partCells p).toArray,.int .i64 0])∧PartIn w' p∧p.name=m.name∧p.grade=m.grade∧p.grain=m.grain∧p.turns=m.turns∧p.sh.o.l=canonR (cleanR (ptsOf m.outer.o))∧p.sh.hs=[])∧Below w.heap.size w w':=by
 have hb1:=bel1 w (.cells #[.string ⟨m.name.toArray⟩,.string ⟨m.grade.toArray⟩,.int .i64 m.grain,.slice m.tA m.turns.length m.tc,.int .i64 m.tol,.bool m.outer.o.circle,.int .i64 m.outer.o.center.1,.int .i64 m.outer.o.center.2,.int .i64 m.outer.o.radius,.slice m.outer.A m.outer.o.steps.length m.outer.d,.slice m.hA 0 m.hc] 58)
 have hb2:=bel1 (w.alloc (.cells #[.string ⟨m.name.toArray⟩,.string ⟨m.grade.toArray⟩,.int .i64 m.grain,.slice m.tA m.turns.length m.tc,.int .i64 m.tol,.bool m.outer.o.circle,.int .i64 m.outer.o.center.1,.int .i64 m.outer.o.center.2,.int .i64 m.outer.o.radius,.slice m.outer.A m.outer.o.steps.length m.outer.d,.slice m.hA 0 m.hc] 58)) (.cells #[.string ⟨#[]⟩,.string ⟨#[]⟩,.int .i64 0,.slice none 0 0,.slice none 0 0,.slice none 0 0] 50)
 have hz:(w.alloc (.cells #[.string ⟨m.name.toArray⟩,.string ⟨m.grade.toArray⟩,.int .i64 m.grain,.slice m.tA m.turns.length m.tc,.int .i64 m.tol,.bool m.outer.o.circle,.int .i64 m.outer.o.center.1,.int .i64 m.outer.o.center.2,.int .i64 m.outer.o.radius,.slice m.outer.A m.outer.o.steps.length m.outer.d,.slice m.hA 0 m.hc] 58)).heap.size=w.heap.size+1:=by simp
 have HX0:=hid (p_below (heap_new w (.cells #[.string ⟨m.name.toArray⟩,.string ⟨m.grade.toArray⟩,.int .i64 m.grain,.slice m.tA m.turns.length m.tc,.int .i64 m.tol,.bool m.outer.o.circle,.int .i64 m.outer.o.center.1,.int .i64 m.outer.o.center.2,.int .i64 m.outer.o.radius,.slice m.outer.A m.outer.o.steps.length m.outer.d,.slice m.hA 0 m.hc] 58)) hb2)
 have HP0:Hid (((w.alloc (.cells #[.string ⟨m.name.toArray⟩,.string ⟨m.grade.toArray⟩,.int .i64 m.grain,.slice m.tA m.turns.length m.tc,.int .i64 m.tol,.bool m.outer.o.circle,.int .i64 m.outer.o.center.1,.int .i64 m.outer.o.center.2,.int .i64 m.outer.o.radius,.slice m.outer.A m.outer.o.steps.length m.outer.d,.slice m.hA 0 m.hc] 58)).alloc (.cells #[.string ⟨#[]⟩,.string ⟨#[]⟩,.int .i64 0,.slice none 0 0,.slice none 0 0,.slice none 0 0] 50)).heap[w.heap.size+1]? = some (.cells #[.string ⟨#[]⟩,.string ⟨#[]⟩,.int .i64 0,.slice none 0 0,.slice none 0 0,.slice none 0 0] 50)):=hid (by have:=heap_new (w.alloc (.cells #[.string ⟨m.name.toArray⟩,.string ⟨m.grade.toArray⟩,.int .i64 m.grain,.slice m.tA m.turns.length m.tc,.int .i64 m.tol,.bool m.outer.o.circle,.int .i64 m.outer.o.center.1,.int .i64 m.outer.o.center.2,.int .i64 m.outer.o.radius,.slice m.outer.A m.outer.o.steps.length m.outer.d,.slice m.hA 0 m.hc] 58)) (.cells #[.string ⟨#[]⟩,.string ⟨#[]⟩,.int .i64 0,.slice none 0 0,.slice none 0 0,.slice none 0 0] 50);rw [hz] at this;exact this)
 have HB0:=hid (hb1.trans (hb2.mono (by omega)))
 have HI0:=hid ((h.below hb1).below hb2)
 have HTL:=hid h.2.2.2.2.1
 clear h hb1 hb2 hz
 have HNL:=hid hn
 have HHH:=hid hh
 have HCE:=hid hce
 have HR1:=hid hr1
 have HR2:=hid hr2
 have HVL:=hid (fun W A (hW:SrcIn TO TS base W m) (hr:Row W A (srcCells m))=>by
  have:=@valid_any 58 TO TS (base+W.heap.size+1) [m] A 1 W ⟨⟨by simpa using hr,fun _ g off e=>.inl (by
   obtain ⟨g',off',e',hlt,_⟩:=hr (by simp [srcCells])
   rw [e] at e'
   cases e'
   omega)⟩,fun x hx=>by rw [List.mem_singleton.1 hx];exact hW.mono (by omega)⟩ (by simp) (fun x hx=>by rw [List.mem_singleton.1 hx];exact hn)
  rw [show [m].map SrcM.src=[m.src] from rfl,hv] at this
  exact this)
 have HCLN:=hid (fun W (hW:SrcIn TO TS base W m)=>clean_line m.outer m.tol W hW.2.1 hst hl)
 obtain ⟨n1,HN1⟩:∃ n,Hid ((cleanR (ptsOf m.outer.o)).length=n):=⟨_,hid rfl⟩
 obtain ⟨n2,HNN⟩:∃ n,Hid ((canonR (cleanR (ptsOf m.outer.o))).length=n):=⟨_,hid rfl⟩
 have HSB:Hid (shapeB (cleanR (ptsOf m.outer.o)) []=true):=hid hsb
 unfold outV at HCLN
 rw [hce] at HCLN
 unfold srcCells strV at HVL ⊢
 rw [hh] at HVL ⊢
 simp only [List.length_nil] at HVL ⊢
 clear hn hh hst hv hce hsb hl hr1 hr2
 go_enter Tryz.func19,Tryz.ntmps19
 go_upto_region 1 with fail
 generalize (w.alloc (.cells #[.string ⟨m.name.toArray⟩,.string ⟨m.grade.toArray⟩,.int .i64 m.grain,.slice m.tA m.turns.length m.tc,.int .i64 m.tol,.bool m.outer.o.circle,.int .i64 m.outer.o.center.1,.int .i64 m.outer.o.center.2,.int .i64 m.outer.o.radius,.slice m.outer.A m.outer.o.steps.length m.outer.d,.slice m.hA 0 m.hc] 58)).alloc (.cells #[.string ⟨#[]⟩,.string ⟨#[]⟩,.int .i64 0,.slice none 0 0,.slice none 0 0,.slice none 0 0] 50)=W0 at *
 have x0:=cell_of HX0.out 0 _ rfl
 have x1:=cell_of HX0.out 1 _ rfl
 have x2:=cell_of HX0.out 2 _ rfl
 have x3:=cell_of HX0.out 3 _ rfl
 have x4:=cell_of HX0.out 4 _ rfl
 have x5:=cell_of HX0.out 5 _ rfl
 have x6:=cell_of HX0.out 6 _ rfl
 have x7:=cell_of HX0.out 7 _ rfl
 have x8:=cell_of HX0.out 8 _ rfl
 have x9:=cell_of HX0.out 9 _ rfl
 have x10:=cell_of HX0.out 10 _ rfl
 have HBa:=hid (bel1 W0 (.cells #[.string ⟨m.name.toArray⟩,.string ⟨m.grade.toArray⟩,.int .i64 m.grain,.slice m.tA m.turns.length m.tc,.int .i64 m.tol,.bool m.outer.o.circle,.int .i64 m.outer.o.center.1,.int .i64 m.outer.o.center.2,.int .i64 m.outer.o.radius,.slice m.outer.A m.outer.o.steps.length m.outer.d,.slice m.hA 0 m.hc] 58))
 have HVV:=hid (HVL.out _ _ (HI0.out.below HBa.out) (newN_row W0 [.string ⟨m.name.toArray⟩,.string ⟨m.grade.toArray⟩,.int .i64 m.grain,.slice m.tA m.turns.length m.tc,.int .i64 m.tol,.bool m.outer.o.circle,.int .i64 m.outer.o.center.1,.int .i64 m.outer.o.center.2,.int .i64 m.outer.o.radius,.slice m.outer.A m.outer.o.steps.length m.outer.d,.slice m.hA 0 m.hc] 58))
 go_wp2_with fail
 refine HVV.out.mono ?_
 rintro e w2 ⟨rfl,hb2⟩
 have hbb:=HBa.out.trans (hb2.mono HBa.out.size)
 have HB2:=hid (HB0.out.trans (hbb.mono HB0.out.size))
 have HX2:=hid (p_below HX0.out hbb)
 have HP2:=hid (p_below HP0.out hbb)
 have HI2:=hid (HI0.out.below hbb)
 clear hb2 hbb HBa HVV HVL HX0 HP0 HI0 HB0 x0 x1 x2 x3 x4 x5 x6 x7 x8 x9 x10
 have x4:=cell_of HX2.out 4 _ rfl
 have x5:=cell_of HX2.out 5 _ rfl
 have x6:=cell_of HX2.out 6 _ rfl
 have x7:=cell_of HX2.out 7 _ rfl
 have x8:=cell_of HX2.out 8 _ rfl
 have x9:=cell_of HX2.out 9 _ rfl
 have HCV:=hid (HCLN.out w2 HI2.out)
 go_wp2_with fail
 refine HCV.out.mono ?_
 rintro e w3 ⟨⟨v,rfl,hown⟩,hb3⟩
 rw [HN1.out] at hown
 obtain ⟨B1,d1,rfl,hd1⟩:=own_shape hown
 have HO3:=hid hown
 have HB3:=hid (HB2.out.trans (hb3.mono HB2.out.size))
 have HX3:=hid (p_below HX2.out hb3)
 have HP3:=hid (p_below HP2.out hb3)
 have HI3:=hid (HI2.out.below hb3)
 have HD1:=hid hd1
 clear hown hb3 HCV HCLN HX2 HP2 HI2 HB2 hd1 x4 x5 x6 x7 x8 x9
 have x10:=cell_of HX3.out 10 _ rfl
 have hb7:=bel1 w3 (.cells #[.slice B1 n1 d1,.slice none 0 0] 48)
 have HS7:=hid (heap_new w3 (.cells #[.slice B1 n1 d1,.slice none 0 0] 48))
 have HX7:=hid (p_below HX3.out hb7)
 have HP7:=hid (p_below HP3.out hb7)
 have HB7:=hid (HB3.out.trans (hb7.mono HB3.out.size))
 have HI7:=hid (HI3.out.below hb7)
 have HSHM:Hid (ShapeIn (w3.alloc (.cells #[.slice B1 n1 d1,.slice none 0 0] 48)) ⟨⟨cleanR (ptsOf m.outer.o),B1,d1⟩,[],none,0⟩):=hid ⟨(Row.of_own HO3.out).below hb7,Row.nil _ _,(fun r hr=>by cases hr),by simp,(fun r hr=>by
  rw [List.mem_singleton.1 hr]
  exact ⟨HR1.out,by show (cleanR _).length≤d1;rw [HN1.out];exact HD1.out⟩),by simp⟩
 clear hb7
 go_upto_region 7 with fail
 generalize w3.alloc (.cells #[.slice B1 n1 d1,.slice none 0 0] 48)=W7 at *
 have HSBN:Hid (w.heap.size+1 < w3.heap.size):=hid (blk_lt HP3.out)
 generalize w3.heap.size=sb at *
 clear x10
 have x10:=cell_of HX7.out 10 _ rfl
 have s0:=cell_of HS7.out 0 _ rfl
 have s1:=cell_of HS7.out 1 _ rfl
 have HSV:=hid (shapeOk_any _ W7 HSHM.out)
 rw [show holesL ⟨⟨cleanR (ptsOf m.outer.o),B1,d1⟩,[],none,0⟩=[] from rfl] at HSV
 rw [show (ShapeM.mk ⟨cleanR (ptsOf m.outer.o),B1,d1⟩ [] none 0).o.l=cleanR (ptsOf m.outer.o) from rfl,HSB.out] at HSV
 unfold shapeVals rowVal holesVal at HSV
 simp only [List.length_nil] at HSV
 rw [HN1.out] at HSV
 go_wp2_with fail
 refine wp_loop_rounds 1 ?_
 rw [rounds_succ]
 go_wp2_with fail
 refine HSV.out.mono ?_
 rintro e w8 ⟨rfl,hb8⟩
 have HB8:=hid (HB7.out.trans (hb8.mono HB7.out.size))
 have HX8:=hid (p_below HX7.out hb8)
 have HP8:=hid (p_below HP7.out hb8)
 have HS8:=hid (p_below HS7.out hb8)
 have HI8:=hid (HI7.out.below hb8)
 have HSH:=hid (HSHM.out.below hb8)
 have HCI:=hid (cloneI_any m.turns m.tA m.tc w8.drew HI8.out.1.1 HTL.out)
 have HCAN:Hid (∀ W,ShapeIn W ⟨⟨cleanR (ptsOf m.outer.o),B1,d1⟩,[],none,0⟩→Calls Tryz.prog 50 #[.agg #[.slice B1 n1 d1,.slice none 0 0]] W fun e w'=>(∃ v,e=.returned (.agg #[v,.slice none 0 0])∧w'.ownsRow W.heap.size 35 2 v (canonR (cleanR (ptsOf m.outer.o))).length ((canonR (cleanR (ptsOf m.outer.o))).flatMap ptCells))∧Below W.heap.size W w'):=hid (fun W hW=>by
  have:=canon0_any _ W hW rfl HSB.out
  unfold shapeVals rowVal holesVal at this
  simp only [List.length_nil] at this
  rw [HN1.out] at this
  exact this)
 have KS:Hid (w8.drew.cell? ⟨w.heap.size,0,none⟩=some (.string ⟨m.name.toArray⟩)∧w8.drew.cell? ⟨w.heap.size,1,none⟩=some (.string ⟨m.grade.toArray⟩)∧w8.drew.cell? ⟨w.heap.size,2,none⟩=some (.int .i64 m.grain)∧w8.drew.cell? ⟨w.heap.size,3,none⟩=some (.slice m.tA m.turns.length m.tc)∧w8.drew.cell? ⟨sb,0,none⟩=some (.slice B1 n1 d1)∧w8.drew.cell? ⟨sb,1,none⟩=some (.slice none 0 0)):=hid ⟨cell_of HX8.out 0 _ rfl,cell_of HX8.out 1 _ rfl,cell_of HX8.out 2 _ rfl,cell_of HX8.out 3 _ rfl,cell_of HS8.out 0 _ rfl,cell_of HS8.out 1 _ rfl⟩
 clear x10 s0 s1 hb8 HSV HX7 HP7 HS7 HI7 HSHM HB7
 go_upto_region 17 with fail
 refine wp_region_tillK (k:=13) (S1:=fun w'=>True) (S2:=fun w'=>(w'.cell? ⟨w.heap.size,0,none⟩=some (.string ⟨m.name.toArray⟩)∧w'.cell? ⟨w.heap.size,1,none⟩=some (.string ⟨m.grade.toArray⟩)∧w'.cell? ⟨w.heap.size,2,none⟩=some (.int .i64 m.grain)∧w'.cell? ⟨w.heap.size,3,none⟩=some (.slice m.tA m.turns.length m.tc)∧w'.cell? ⟨sb,0,none⟩=some (.slice B1 n1 d1)∧w'.cell? ⟨sb,1,none⟩=some (.slice none 0 0))) (by kernel_rfl) ?_ (fun hHeld=>?_)
 ·exact ⟨trivial,KS.out⟩
 refine tK (i:=0) (v:=?_) rfl (Or.inl ⟨by rfl,?_⟩) ?_
 rotate_left
 ·intro w' hSw
  (try dsimp only at hSw)
  go_simp<;>with_reducible rfl
 try simp only [Act.put,sA]
 refine tK (i:=1) (v:=?_) rfl (Or.inl ⟨by rfl,?_⟩) ?_
 rotate_left
 ·intro w' hSw
  (try dsimp only at hSw)
  go_simp<;>with_reducible rfl
 try simp only [Act.put]
 refine tK (i:=2) (v:=?_) rfl (Or.inl ⟨by rfl,?_⟩) ?_
 rotate_left
 ·intro w' hSw
  (try dsimp only at hSw)
  go_simp<;>with_reducible rfl
 try simp only [Act.put]
 refine tK (i:=3) (v:=?_) rfl (Or.inl ⟨by rfl,?_⟩) ?_
 rotate_left
 ·intro w' hSw
  (try dsimp only at hSw)
  go_simp<;>with_reducible rfl
 try simp only [Act.put]
 refine tK (i:=4) (v:=?_) rfl (Or.inl ⟨by rfl,?_⟩) ?_
 rotate_left
 ·intro w' hSw
  (try dsimp only at hSw)
  go_simp<;>with_reducible rfl
 try simp only [Act.put]
 refine tK (i:=5) (v:=?_) rfl (Or.inl ⟨by rfl,?_⟩) ?_
 rotate_left
 ·intro w' hSw
  (try dsimp only at hSw)
  go_simp<;>with_reducible rfl
 try simp only [Act.put]
 refine tK (i:=6) (v:=?_) rfl (Or.inl ⟨by rfl,?_⟩) ?_
 rotate_left
 ·intro w' hSw
  (try dsimp only at hSw)
  go_simp<;>with_reducible rfl
 try simp only [Act.put]
 refine tK (i:=7) (v:=?_) rfl (Or.inl ⟨by rfl,?_⟩) ?_
 rotate_left
 ·intro w' hSw
  (try dsimp only at hSw)
  go_simp<;>with_reducible rfl
 try simp only [Act.put]
 refine tK (i:=9) (v:=?_) rfl (Or.inl ⟨by rfl,?_⟩) ?_
 rotate_left
 ·intro w' hSw
  (try dsimp only at hSw)
  go_simp<;>with_reducible rfl
 try simp only [Act.put]
 refine wpAnyK_one (i:=8) (o:=_) (by kernel_rfl) rfl (fun K hK=>?_)
 go_simp
 go_at_call 49
 refine HCI.out.mono ?_
 rintro e w9 ⟨⟨v,rfl,hown⟩,hb9d⟩
 have hb9:Below w8.heap.size w8 w9:=(show Below w8.heap.size w8 w8.drew from below_drewN (Below.refl _ _) 1).trans hb9d
 clear hb9d
 obtain ⟨A9,c9,rfl,hc9⟩:=own_shape hown
 have HO9:Hid (w9.ownsRow (w.heap.size+2) 3 1 (.slice A9 m.turns.length c9) m.turns.length (m.turns.map (Value.int .i64))):=hid (own_more2 hown (by have:=blk_lt HP8.out;show w.heap.size+2≤w8.heap.size;omega))
 have HX9:=hid (p_below HX8.out hb9)
 have HS9:=hid (p_below HS8.out hb9)
 have HP9:=hid (p_below HP8.out hb9)
 have HB9:=hid (HB8.out.trans (hb9.mono HB8.out.size))
 have HH9:=hid (HSH.out.below hb9)
 clear hown hb9
 refine hK.out _ _ ?_ (fun _=>?_) (fun hHeld=>?_)
 ·trivial
 ·exact ⟨cell_of HX9.out 0 _ rfl,cell_of HX9.out 1 _ rfl,cell_of HX9.out 2 _ rfl,cell_of HX9.out 3 _ rfl,cell_of HS9.out 0 _ rfl,cell_of HS9.out 1 _ rfl⟩
 replace hHeld:=And.intro hHeld.1 (hHeld.2 (by decide))
 clear hK K
 try simp only [Act.put,sA,sB,sC]
 refine wpAnyK_one (i:=10) (o:=_) (by kernel_rfl) rfl (fun K hK=>?_)
 go_simp
 go_at_call 50
 refine (HCAN.out w9 HH9.out).mono ?_
 rintro e w10 ⟨⟨v,rfl,hown⟩,hb10⟩
 rw [HNN.out] at hown
 obtain ⟨A10,c10,rfl,hc10⟩:=own_shape hown
 have HO10:Hid (w10.ownsRow (w.heap.size+2) 35 2 (.slice A10 n2 c10) n2 ((canonR (cleanR (ptsOf m.outer.o))).flatMap ptCells)):=hid (own_more2 hown (by have:=blk_lt HP9.out;omega))
 have HI10:Hid (w10.ownsRow (w.heap.size+2) 3 1 (.slice A9 m.turns.length c9) m.turns.length (m.turns.map (Value.int .i64))):=hid (own_keep (row:=none) (T := 35) ⟨hb10.os,hb10.tape,hb10.output,hb10.size,fun i hi _=>hb10.block i hi⟩ (RowW.none _ 0 _) (by decide) HO9.out)
 have HX10:=hid (p_below HX9.out hb10)
 have HS10:=hid (p_below HS9.out hb10)
 have HP10:=hid (p_below HP9.out hb10)
 have HB10:=hid (HB9.out.trans (hb10.mono HB9.out.size))
 have p0:=cell_of HP10.out 0 _ rfl
 have p1:=cell_of HP10.out 1 _ rfl
 have p2:=cell_of HP10.out 2 _ rfl
 have p3:=cell_of HP10.out 3 _ rfl
 have p4:=cell_of HP10.out 4 _ rfl
 have p5:=cell_of HP10.out 5 _ rfl
 have f0:=free_of HP10.out 0
 have f1:=free_of HP10.out 1
 have f2:=free_of HP10.out 2
 have f3:=free_of HP10.out 3
 have f4:=free_of HP10.out 4
 have f5:=free_of HP10.out 5
 clear hown hb10
 refine hK.out _ _ ?_ (fun _=>?_) (fun hHeld=>?_)
 ·trivial
 ·exact ⟨cell_of HX10.out 0 _ rfl,cell_of HX10.out 1 _ rfl,cell_of HX10.out 2 _ rfl,cell_of HX10.out 3 _ rfl,cell_of HS10.out 0 _ rfl,cell_of HS10.out 1 _ rfl⟩
 replace hHeld:=And.intro hHeld.1 (hHeld.2 (by decide))
 clear hK K
 try simp only [Act.put,sA,sB,sC]
 refine wpAnyK_take (i:=11) (oi:=_) (v:=.agg #[.string ⟨m.name.toArray⟩,.string ⟨m.grade.toArray⟩,.int .i64 m.grain,.slice A9 m.turns.length c9,.slice A10 n2 c10,.slice none 0 0]) rfl (by kernel_rfl) (by kernel_rfl) (by kernel_rfl) (by kernel_rfl) (fun _ _ _ h=>h) (Or.inl ⟨by rfl,?_⟩) (by assumption) ?_
 ·intro w' hSw
  (try dsimp only at hSw)
  go_simp<;>with_reducible rfl
 try simp only [Act.put,sA]
 refine wpAnyK_one (i:=12) (o:=_) (by kernel_rfl) rfl (fun K hK=>?_)
 clear hHeld
 go_simp
 have HGF:Hid (w10.grownBy ((((((w10.setCell ⟨w.heap.size+1,0,none⟩ (.string ⟨m.name.toArray⟩)).setCell ⟨w.heap.size+1,1,none⟩ (.string ⟨m.grade.toArray⟩)).setCell ⟨w.heap.size+1,2,none⟩ (.int .i64 m.grain)).setCell ⟨w.heap.size+1,3,none⟩ (.slice A9 m.turns.length c9)).setCell ⟨w.heap.size+1,4,none⟩ (.slice A10 n2 c10)).setCell ⟨w.heap.size+1,5,none⟩ (.slice none 0 0)) (some (w.heap.size+1))):=hid (sets_grown [.string ⟨m.name.toArray⟩,.string ⟨m.grade.toArray⟩,.int .i64 m.grain,.slice A9 m.turns.length c9,.slice A10 n2 c10,.slice none 0 0] 0 _ _ (grown_refl w10 (some (w.heap.size+1))))
 have HWF:Hid (((((((w10.setCell ⟨w.heap.size+1,0,none⟩ (.string ⟨m.name.toArray⟩)).setCell ⟨w.heap.size+1,1,none⟩ (.string ⟨m.grade.toArray⟩)).setCell ⟨w.heap.size+1,2,none⟩ (.int .i64 m.grain)).setCell ⟨w.heap.size+1,3,none⟩ (.slice A9 m.turns.length c9)).setCell ⟨w.heap.size+1,4,none⟩ (.slice A10 n2 c10)).setCell ⟨w.heap.size+1,5,none⟩ (.slice none 0 0)).heap[w.heap.size+1]? = some (.cells #[.string ⟨m.name.toArray⟩,.string ⟨m.grade.toArray⟩,.int .i64 m.grain,.slice A9 m.turns.length c9,.slice A10 n2 c10,.slice none 0 0] 50 (0,0))):=hid (sets_block [.string ⟨m.name.toArray⟩,.string ⟨m.grade.toArray⟩,.int .i64 m.grain,.slice A9 m.turns.length c9,.slice A10 n2 c10,.slice none 0 0] 0 w10 [.string ⟨#[]⟩,.string ⟨#[]⟩,.int .i64 0,.slice none 0 0,.slice none 0 0,.slice none 0 0] HP10.out rfl)
 have HX11:=hid ((HGF.out.block _ (blk_lt HX10.out) (fun e=>by injection e;omega)).trans HX10.out)
 have HS11:=hid ((HGF.out.block _ (blk_lt HS10.out) (fun e=>by injection e with e;have:=HSBN.out;omega)).trans HS10.out)
 have HZ:=hid (And.intro HGF.out HWF.out)
 clear HGF HWF p0 p1 p2 p3 p4 p5 f0 f1 f2 f3 f4 f5
 generalize ((((((w10.setCell ⟨w.heap.size+1,0,none⟩ (.string ⟨m.name.toArray⟩)).setCell ⟨w.heap.size+1,1,none⟩ (.string ⟨m.grade.toArray⟩)).setCell ⟨w.heap.size+1,2,none⟩ (.int .i64 m.grain)).setCell ⟨w.heap.size+1,3,none⟩ (.slice A9 m.turns.length c9)).setCell ⟨w.heap.size+1,4,none⟩ (.slice A10 n2 c10)).setCell ⟨w.heap.size+1,5,none⟩ (.slice none 0 0))=WF at HZ HX11 HS11 ⊢
 refine hK.out _ _ ?_ (fun _=>?_) (fun hHeld=>?_)
 ·trivial
 ·exact ⟨cell_of HX11.out 0 _ rfl,cell_of HX11.out 1 _ rfl,cell_of HX11.out 2 _ rfl,cell_of HX11.out 3 _ rfl,cell_of HS11.out 0 _ rfl,cell_of HS11.out 1 _ rfl⟩
 replace hHeld:=And.intro hHeld.1 (hHeld.2 (by decide))
 clear hK K
 try simp only [Act.put,sA,sB,sC]
 refine wpAnyK_one (i:=13) (o:=_) (by kernel_rfl) rfl (fun K hK=>?_)
 go_simp
 refine hK.out _ _ ?_ (fun hne=>?_) (fun hHeld=>?_)
 ·trivial
 ·exact absurd rfl hne
 clear hK K
 try simp only [Act.put,sA,sB,sC]
 refine wpAnyK_done (by kernel_rfl) ?_ _
 go_wp2_with fail
 have z0:=cell_of HZ.out.2 0 _ rfl
 have z1:=cell_of HZ.out.2 1 _ rfl
 have z2:=cell_of HZ.out.2 2 _ rfl
 have z3:=cell_of HZ.out.2 3 _ rfl
 have z4:=cell_of HZ.out.2 4 _ rfl
 have z5:=cell_of HZ.out.2 5 _ rfl
 refine bodyPost_ret (v:=.tuple #[.agg #[.string ⟨m.name.toArray⟩,.string ⟨m.grade.toArray⟩,.int .i64 m.grain,.slice A9 m.turns.length c9,.slice A10 n2 c10,.slice none 0 0],.int .i64 0]) (by simp [results,Tryz.results19,go_sem,z0,z1,z2,z3,z4,z5]) rfl ?_
 have hO:=own_old HO10.out HZ.out.1 (by omega)
 have hI:=own_old HI10.out HZ.out.1 (by omega)
 refine ⟨⟨⟨m.name,m.grade,m.grain,m.turns,A9,c9,⟨⟨canonR (cleanR (ptsOf m.outer.o)),A10,c10⟩,[],none,0⟩⟩,?_,⟨Row.of_own hI,⟨Row.of_own hO,Row.nil _ _,(fun r hr=>by cases hr),by simp,(fun r hr=>by
  rw [List.mem_singleton.1 hr]
  exact ⟨HR2.out,by show (canonR _).length≤c10;rw [HNN.out];exact hc10⟩),by simp⟩,HTL.out,HNL.out.1,HNL.out.2⟩,rfl,rfl,rfl,rfl,rfl,rfl⟩,below_grown2 HB10.out HZ.out.1 (fun q e=>by cases e;omega) HB10.out.size⟩
 unfold partCells rowVal holesVal strV
 simp only [List.length_nil]
 rw [HNN.out]
end Go.Proofs.YtnkkcknogkgdkaaGreatDoor.PaW

namespace Go.Proofs.YtnkkcknogkgdkaaGreatDoor.PaW
open Lib (hid)
open Go Go.RowKit Go.Proofs.YtnkkcknogkgdkaaGreatDoor.Mem Go.Proofs.YtnkkcknogkgdkaaGreatDoor.Pa
open Go.Proofs.YtnkkcknogkgdkaaGreatDoor.Ge (V)
open Go.Proofs.YtnkkcknogkgdkaaGreatDoor.Lex (Tok)
open Go.Proofs.YtnkkcknogkgdkaaGreatDoor.LexW (tokCells)
attribute [local go_sem ↓] Go.wp_at_zero Go.wp_at_succ

open Go.Proofs.YtnkkcknogkgdkaaGreatDoor.GeW (ptCells pt_len RowV rowVal ShapeM ShapeIn shapeVals holesL holesVal shapeOk_any)
open Go.Proofs.YtnkkcknogkgdkaaGreatDoor.Ge (canonR cleanR cleanE shapeB)
set_option maxRecDepth 100000 in
set_option maxHeartbeats 4000000 in
theorem right0_any (p:PartM) (w:World) (h:PartIn w p) (hn:namedOk p.name p.grade p.grain p.turns=true) (hs:p.sh.hs=[]) (hv:shapeB p.sh.o.l []=true) (hc:canonR p.sh.o.l=p.sh.o.l) :
  Calls Tryz.prog 23 #[.agg (partCells p).toArray] w fun e w'=>e=.returned (.bool true)∧Below w.heap.size w w':=by
 have HHS:=hid hs
 have HCE:=hid hc
 have hb1:=bel1 w (.cells #[.string ⟨p.name.toArray⟩,.string ⟨p.grade.toArray⟩,.int .i64 p.grain,.slice p.tA p.turns.length p.tc,.slice p.sh.o.A p.sh.o.l.length p.sh.o.k,.slice p.sh.B 0 p.sh.k] 50)
 have HX1:Hid ((w.alloc (.cells #[.string ⟨p.name.toArray⟩,.string ⟨p.grade.toArray⟩,.int .i64 p.grain,.slice p.tA p.turns.length p.tc,.slice p.sh.o.A p.sh.o.l.length p.sh.o.k,.slice p.sh.B 0 p.sh.k] 50)).drew.heap[w.heap.size]? = some (.cells #[.string ⟨p.name.toArray⟩,.string ⟨p.grade.toArray⟩,.int .i64 p.grain,.slice p.tA p.turns.length p.tc,.slice p.sh.o.A p.sh.o.l.length p.sh.o.k,.slice p.sh.B 0 p.sh.k] 50 (0,0))):=hid (heap_new w (.cells #[.string ⟨p.name.toArray⟩,.string ⟨p.grade.toArray⟩,.int .i64 p.grain,.slice p.tA p.turns.length p.tc,.slice p.sh.o.A p.sh.o.l.length p.sh.o.k,.slice p.sh.B 0 p.sh.k] 50))
 have hb1d:Below w.heap.size w (w.alloc (.cells #[.string ⟨p.name.toArray⟩,.string ⟨p.grade.toArray⟩,.int .i64 p.grain,.slice p.tA p.turns.length p.tc,.slice p.sh.o.A p.sh.o.l.length p.sh.o.k,.slice p.sh.B 0 p.sh.k] 50)).drew:=below_drewN hb1 1
 have HB1:=hid hb1d
 have HI1:=hid (h.below hb1d)
 have HSV:=hid (fun W (hW:ShapeIn W p.sh)=>by
  have:=shapeOk_any p.sh W hW
  rw [show holesL p.sh=[] by unfold holesL;rw [hs];rfl,hv] at this
  exact this)
 have HCN:=hid (fun W (hW:ShapeIn W p.sh)=>canon0_any p.sh W hW hs (by rw [show holesL p.sh=[] by unfold holesL;rw [hs];rfl];exact hv))
 have HNM:=hid (named_any p.name p.grade p.grain p.turns p.tA p.tc _ HI1.out.1 HI1.out.2.2.1 HI1.out.2.2.2.1 HI1.out.2.2.2.2)
 rw [hn] at HNM
 unfold shapeVals rowVal holesVal at HSV HCN
 unfold partCells strV rowVal holesVal
 rw [hs] at HSV HCN ⊢
 simp only [List.length_nil] at HSV HCN ⊢
 have KS:Hid (((w.alloc (.cells #[.string ⟨p.name.toArray⟩,.string ⟨p.grade.toArray⟩,.int .i64 p.grain,.slice p.tA p.turns.length p.tc,.slice p.sh.o.A p.sh.o.l.length p.sh.o.k,.slice p.sh.B 0 p.sh.k] 50)).drew.cell? ⟨w.heap.size,0,none⟩=some (.string ⟨p.name.toArray⟩)∧(w.alloc (.cells #[.string ⟨p.name.toArray⟩,.string ⟨p.grade.toArray⟩,.int .i64 p.grain,.slice p.tA p.turns.length p.tc,.slice p.sh.o.A p.sh.o.l.length p.sh.o.k,.slice p.sh.B 0 p.sh.k] 50)).drew.cell? ⟨w.heap.size,1,none⟩=some (.string ⟨p.grade.toArray⟩)∧(w.alloc (.cells #[.string ⟨p.name.toArray⟩,.string ⟨p.grade.toArray⟩,.int .i64 p.grain,.slice p.tA p.turns.length p.tc,.slice p.sh.o.A p.sh.o.l.length p.sh.o.k,.slice p.sh.B 0 p.sh.k] 50)).drew.cell? ⟨w.heap.size,2,none⟩=some (.int .i64 p.grain)∧(w.alloc (.cells #[.string ⟨p.name.toArray⟩,.string ⟨p.grade.toArray⟩,.int .i64 p.grain,.slice p.tA p.turns.length p.tc,.slice p.sh.o.A p.sh.o.l.length p.sh.o.k,.slice p.sh.B 0 p.sh.k] 50)).drew.cell? ⟨w.heap.size,3,none⟩=some (.slice p.tA p.turns.length p.tc)∧(w.alloc (.cells #[.string ⟨p.name.toArray⟩,.string ⟨p.grade.toArray⟩,.int .i64 p.grain,.slice p.tA p.turns.length p.tc,.slice p.sh.o.A p.sh.o.l.length p.sh.o.k,.slice p.sh.B 0 p.sh.k] 50)).drew.cell? ⟨w.heap.size,4,none⟩=some (.slice p.sh.o.A p.sh.o.l.length p.sh.o.k)∧(w.alloc (.cells #[.string ⟨p.name.toArray⟩,.string ⟨p.grade.toArray⟩,.int .i64 p.grain,.slice p.tA p.turns.length p.tc,.slice p.sh.o.A p.sh.o.l.length p.sh.o.k,.slice p.sh.B 0 p.sh.k] 50)).drew.cell? ⟨w.heap.size,5,none⟩=some (.slice p.sh.B 0 p.sh.k))):=hid ⟨cell_of HX1.out 0 _ rfl,cell_of HX1.out 1 _ rfl,cell_of HX1.out 2 _ rfl,cell_of HX1.out 3 _ rfl,cell_of HX1.out 4 _ rfl,cell_of HX1.out 5 _ rfl⟩
 clear h hn hs hv hc hb1 hb1d
 go_enter Tryz.func23,Tryz.ntmps23
 go_upto_region 1 with fail
 generalize w.alloc (.cells #[.string ⟨p.name.toArray⟩,.string ⟨p.grade.toArray⟩,.int .i64 p.grain,.slice p.tA p.turns.length p.tc,.slice p.sh.o.A p.sh.o.l.length p.sh.o.k,.slice p.sh.B 0 p.sh.k] 50)=W1 at *
 refine wp_region_tillK (k:=22) (S1:=fun w'=>True) (S2:=fun w'=>(w'.cell? ⟨w.heap.size,0,none⟩=some (.string ⟨p.name.toArray⟩)∧w'.cell? ⟨w.heap.size,1,none⟩=some (.string ⟨p.grade.toArray⟩)∧w'.cell? ⟨w.heap.size,2,none⟩=some (.int .i64 p.grain)∧w'.cell? ⟨w.heap.size,3,none⟩=some (.slice p.tA p.turns.length p.tc)∧w'.cell? ⟨w.heap.size,4,none⟩=some (.slice p.sh.o.A p.sh.o.l.length p.sh.o.k)∧w'.cell? ⟨w.heap.size,5,none⟩=some (.slice p.sh.B 0 p.sh.k))) (by kernel_rfl) ?_ (fun hHeld=>?_)
 ·exact ⟨trivial,KS.out⟩
 refine tK (i:=0) (v:=?_) rfl (Or.inl ⟨by rfl,?_⟩) ?_
 rotate_left
 ·intro w' hSw
  (try dsimp only at hSw)
  go_simp<;>with_reducible rfl
 try simp only [Act.put,sA]
 refine tK (i:=1) (v:=?_) rfl (Or.inl ⟨by rfl,?_⟩) ?_
 rotate_left
 ·intro w' hSw
  (try dsimp only at hSw)
  go_simp<;>with_reducible rfl
 try simp only [Act.put]
 refine tK (i:=2) (v:=?_) rfl (Or.inl ⟨by rfl,?_⟩) ?_
 rotate_left
 ·intro w' hSw
  (try dsimp only at hSw)
  go_simp<;>with_reducible rfl
 try simp only [Act.put]
 refine tK (i:=3) (v:=?_) rfl (Or.inl ⟨by rfl,?_⟩) ?_
 rotate_left
 ·intro w' hSw
  (try dsimp only at hSw)
  go_simp<;>with_reducible rfl
 try simp only [Act.put]
 refine tK (i:=4) (v:=?_) rfl (Or.inl ⟨by rfl,?_⟩) ?_
 rotate_left
 ·intro w' hSw
  (try dsimp only at hSw)
  go_simp<;>with_reducible rfl
 try simp only [Act.put]
 refine tK (i:=5) (v:=?_) rfl (Or.inl ⟨by rfl,?_⟩) ?_
 rotate_left
 ·intro w' hSw
  (try dsimp only at hSw)
  go_simp<;>with_reducible rfl
 try simp only [Act.put]
 refine tK (i:=6) (v:=?_) rfl (Or.inl ⟨by rfl,?_⟩) ?_
 rotate_left
 ·intro w' hSw
  (try dsimp only at hSw)
  go_simp<;>with_reducible rfl
 try simp only [Act.put]
 refine tK (i:=7) (v:=?_) rfl (Or.inl ⟨by rfl,?_⟩) ?_
 rotate_left
 ·intro w' hSw
  (try dsimp only at hSw)
  go_simp<;>with_reducible rfl
 try simp only [Act.put]
 refine wpAnyK_one (i:=8) (o:=_) (by kernel_rfl) rfl (fun K hK=>?_)
 go_simp
 go_at_call 56
 refine (HNM.out).mono ?_
 rintro e w2 ⟨rfl,hbn⟩
 have HX2:=hid (p_below HX1.out hbn)
 have HB2:=hid (HB1.out.trans (hbn.mono HB1.out.size))
 have HI2:=hid (HI1.out.below hbn)
 clear hbn
 refine hK.out _ _ ?_ (fun _=>?_) (fun hHeld=>?_)
 ·trivial
 ·exact ⟨cell_of HX2.out 0 _ rfl,cell_of HX2.out 1 _ rfl,cell_of HX2.out 2 _ rfl,cell_of HX2.out 3 _ rfl,cell_of HX2.out 4 _ rfl,cell_of HX2.out 5 _ rfl⟩
 replace hHeld:=And.intro hHeld.1 (hHeld.2 (by decide))
 clear hK K
 try simp only [Act.put,sA,sB,sC]
 refine tK (i:=9) (v:=?_) rfl (Or.inl ⟨by rfl,?_⟩) ?_
 rotate_left
 ·intro w' hSw
  (try dsimp only at hSw)
  go_simp<;>with_reducible rfl
 try simp only [Act.put,sA]
 refine tK (i:=10) (v:=?_) rfl (Or.inl ⟨by rfl,?_⟩) ?_
 rotate_left
 ·intro w' hSw
  (try dsimp only at hSw)
  go_simp<;>with_reducible rfl
 try simp only [Act.put]
 refine tK (i:=11) (v:=?_) rfl (Or.inl ⟨by rfl,?_⟩) ?_
 rotate_left
 ·intro w' hSw
  (try dsimp only at hSw)
  go_simp<;>with_reducible rfl
 try simp only [Act.put]
 refine wpAnyK_one (i:=12) (o:=_) (by kernel_rfl) rfl (fun K hK=>?_)
 go_simp
 go_at_call 48
 refine (HSV.out w2 HI2.out.2.1).mono ?_
 rintro e w3 ⟨rfl,hbn⟩
 have HX3:=hid (p_below HX2.out hbn)
 have HB3:=hid (HB2.out.trans (hbn.mono HB2.out.size))
 have HI3:=hid (HI2.out.below hbn)
 clear hbn
 refine hK.out _ _ ?_ (fun _=>?_) (fun hHeld=>?_)
 ·trivial
 ·exact ⟨cell_of HX3.out 0 _ rfl,cell_of HX3.out 1 _ rfl,cell_of HX3.out 2 _ rfl,cell_of HX3.out 3 _ rfl,cell_of HX3.out 4 _ rfl,cell_of HX3.out 5 _ rfl⟩
 replace hHeld:=And.intro hHeld.1 (hHeld.2 (by decide))
 clear hK K
 try simp only [Act.put,sA,sB,sC]
 refine tK (i:=13) (v:=?_) rfl (Or.inl ⟨by rfl,?_⟩) ?_
 rotate_left
 ·intro w' hSw
  (try dsimp only at hSw)
  go_simp<;>with_reducible rfl
 try simp only [Act.put,sA]
 refine tK (i:=14) (v:=?_) rfl (Or.inl ⟨by rfl,?_⟩) ?_
 rotate_left
 ·intro w' hSw
  (try dsimp only at hSw)
  go_simp<;>with_reducible rfl
 try simp only [Act.put]
 refine tK (i:=15) (v:=?_) rfl (Or.inl ⟨by rfl,?_⟩) ?_
 rotate_left
 ·intro w' hSw
  (try dsimp only at hSw)
  go_simp<;>with_reducible rfl
 try simp only [Act.put]
 refine tK (i:=16) (v:=?_) rfl (Or.inl ⟨by rfl,?_⟩) ?_
 rotate_left
 ·intro w' hSw
  (try dsimp only at hSw)
  go_simp<;>with_reducible rfl
 try simp only [Act.put]
 refine tK (i:=17) (v:=?_) rfl (Or.inl ⟨by rfl,?_⟩) ?_
 rotate_left
 ·intro w' hSw
  (try dsimp only at hSw)
  go_simp<;>with_reducible rfl
 try simp only [Act.put]
 refine tK (i:=18) (v:=?_) rfl (Or.inl ⟨by rfl,?_⟩) ?_
 rotate_left
 ·intro w' hSw
  (try dsimp only at hSw)
  go_simp<;>with_reducible rfl
 try simp only [Act.put]
 refine wpAnyK_one (i:=19) (o:=_) (by kernel_rfl) rfl (fun K hK=>?_)
 go_simp
 go_at_call 50
 refine (HCN.out w3 HI3.out.2.1).mono ?_
 rintro e w4 ⟨⟨v,rfl,hown⟩,hbn⟩
 rw [HCE.out] at hown
 obtain ⟨A4,c4,rfl,hc4⟩:=own_shape hown
 have HX4:=hid (p_below HX3.out hbn)
 have HB4:=hid (HB3.out.trans (hbn.mono HB3.out.size))
 have HI4:=hid (HI3.out.below hbn)
 have HC4:Hid (ShapeIn w4 ⟨⟨p.sh.o.l,A4,c4⟩,[],none,0⟩):=hid ⟨Row.of_own hown,Row.nil _ _,(fun r hr=>by cases hr),by simp,(fun r hr=>by
  rw [List.mem_singleton.1 hr]
  exact ⟨(HI4.out.2.1.short p.sh.o (List.mem_cons_self ..)).1,hc4⟩),by simp⟩
 have HSM:=hid (shapeSame_any p.sh ⟨⟨p.sh.o.l,A4,c4⟩,[],none,0⟩ w4 HI4.out.2.1 HC4.out)
 rw [show (decide (p.sh.o.l=(ShapeM.mk ⟨p.sh.o.l,A4,c4⟩ [] none 0).o.l)&&decide (holesL p.sh=holesL ⟨⟨p.sh.o.l,A4,c4⟩,[],none,0⟩))=true by simp [holesL,HHS.out]] at HSM
 unfold shapeVals rowVal holesVal at HSM
 rw [HHS.out] at HSM
 simp only [List.length_nil] at HSM
 clear hown hbn
 refine hK.out _ _ ?_ (fun _=>?_) (fun hHeld=>?_)
 ·trivial
 ·exact ⟨cell_of HX4.out 0 _ rfl,cell_of HX4.out 1 _ rfl,cell_of HX4.out 2 _ rfl,cell_of HX4.out 3 _ rfl,cell_of HX4.out 4 _ rfl,cell_of HX4.out 5 _ rfl⟩
 replace hHeld:=And.intro hHeld.1 (hHeld.2 (by decide))
 clear hK K
 try simp only [Act.put,sA,sB,sC]
 refine wpAnyK_one (i:=20) (o:=_) (by kernel_rfl) rfl (fun K hK=>?_)
 go_simp
 go_at_call 57
 refine (HSM.out).mono ?_
 rintro e w5 ⟨rfl,hbn⟩
 have HX5:=hid (p_below HX4.out hbn)
 have HB5:=hid (HB4.out.trans (hbn.mono HB4.out.size))
 have HI5:=hid (HI4.out.below hbn)
 clear hbn
 refine hK.out _ _ ?_ (fun _=>?_) (fun hHeld=>?_)
 ·trivial
 ·exact ⟨cell_of HX5.out 0 _ rfl,cell_of HX5.out 1 _ rfl,cell_of HX5.out 2 _ rfl,cell_of HX5.out 3 _ rfl,cell_of HX5.out 4 _ rfl,cell_of HX5.out 5 _ rfl⟩
 replace hHeld:=And.intro hHeld.1 (hHeld.2 (by decide))
 clear hK K
 try simp only [Act.put,sA,sB,sC]
 refine tK (i:=21) (v:=?_) rfl (Or.inl ⟨by rfl,?_⟩) ?_
 rotate_left
 ·intro w' hSw
  (try dsimp only at hSw)
  go_simp<;>with_reducible rfl
 try simp only [Act.put,sA]
 refine wpAnyK_one (i:=22) (o:=_) (by kernel_rfl) rfl (fun K hK=>?_)
 go_simp
 refine hK.out _ _ ?_ (fun hne=>?_) (fun hHeld=>?_)
 ·trivial
 ·exact absurd rfl hne
 clear hK K
 try simp only [Act.put,sA,sB,sC]
 refine wpAnyK_done (by kernel_rfl) ?_ _
 go_wp2
 go_ret
 exact ⟨rfl,HB5.out⟩
end Go.Proofs.YtnkkcknogkgdkaaGreatDoor.PaW
