/- Walk: the reference's Same of sources, where they are equal. Conditions: they lie in memory. -/
import Derived.Test.YtnkkcknogkgdkaaGreatDoorPtC

namespace Go.Proofs.YtnkkcknogkgdkaaGreatDoor.PaW
open Lib (hid)
open Go Go.RowKit Go.Proofs.YtnkkcknogkgdkaaGreatDoor.Mem Go.Proofs.YtnkkcknogkgdkaaGreatDoor.Pa
open Go.Proofs.YtnkkcknogkgdkaaGreatDoor.Ge (V)
open Go.Proofs.YtnkkcknogkgdkaaGreatDoor.Lex (Tok)
open Go.Proofs.YtnkkcknogkgdkaaGreatDoor.LexW (tokCells)
attribute [local go_sem ↓] Go.wp_at_zero Go.wp_at_succ

theorem str_ne_self (L:ByteArray):(L != L)=false:=by
 cases L with
 | mk d=>first | (rw [bne,show (⟨d⟩:ByteArray) == ⟨d⟩ from beq_self_eq_true d];rfl) | (show (!(d == d))=false;simp) | (show (!(decide _))=false;simp)
theorem twoBoxes (w:World) (o1 o2:Obj):((w.alloc o1).alloc o2).heap[w.heap.size]? = some o1∧((w.alloc o1).alloc o2).heap[w.heap.size+1]? = some o2:=by
 have hz:(w.alloc o1).heap.size=w.heap.size+1:=by simp
 exact ⟨p_below (heap_new w o1) (bel1 _ o2),by have:=heap_new (w.alloc o1) o2;rw [hz] at this;exact this⟩
theorem map_get {α β:Type} {f:α→β} {l m:List α} (h:l.map f=m.map f) (k:Nat) (h1:k < l.length) (h2:k < m.length):f l[k]=f m[k]:=by
 have:(l.map f)[k]? = (m.map f)[k]?:=by rw [h]
 simpa [h1,h2] using this
set_option maxRecDepth 100000 in
set_option maxHeartbeats 8000000 in
theorem refSame_any {TT TO TS TT' TO' TS':TypeId} {base base':Nat} (ms ns:List SrcM) (A B:Option Addr) (c d:Nat) (w:World) (h1:SrcsIn TT TO TS base w A ms) (h2:SrcsIn TT' TO' TS' base' w B ns) (hl:ms.length≤1000000) (he:ms.map SrcM.src=ns.map SrcM.src) :
  Calls Tryz.prog 15 #[.slice A ms.length c,.slice B ns.length d] w fun e w'=>e=.returned (.bool true)∧Below w.heap.size w w':=by
 have hlen:ns.length=ms.length:=by simpa using (congrArg List.length he).symm
 have HLN:=hid hlen
 have HE:=hid he
 have HS1:=hid h1
 have HS2:=hid h2
 rw [hlen]
 clear h1 h2 he hlen
 go_enter Tryz.func15,Tryz.ntmps15
 go_wp2
 go_loopw [5,6,7,8] (fun i _ _ _ wr=>∃ k:Nat,i=.int .i64 (k:Int)∧k≤ms.length∧Hid (Below w.heap.size w wr)) (fun i _ _ _ _=>ms.length - (intOf i).toNat)
 case atStart=>exact ⟨0,rfl,Nat.zero_le _,hid (Below.refl _ _)⟩
 case round =>
  obtain ⟨k,rfl,hk,HB⟩:=hrel
  by_cases hlt:k < ms.length
  ·have hk1:(0:Int)≤(k:Int):=by omega
   have hk2:(k:Int) < (ms.length:Int):=by omega
   have hlt2:k < ns.length:=by have:=HLN.out;omega
   obtain ⟨g,o1,rfl,hg,ca⟩:=row_get src_len (by decide) (HS1.out.1.1.below HB.out) (by omega)
   obtain ⟨g2,o2,rfl,hg2,cb⟩:=row_get src_len (by decide) (HS2.out.1.1.below HB.out) (by omega)
   have HEQ:=hid (map_get HE.out k hlt hlt2)
   have HM:=hid ((HS1.out.2 ms[k] (List.getElem_mem _)).below HB.out)
   have HN:=hid ((HS2.out.2 ns[k] (List.getElem_mem _)).below HB.out)
   have a0:=ca k hlt 0 (by decide)
   have b0:=cb k hlt2 0 (by decide)
   have a1:=ca k hlt 1 (by decide)
   have b1:=cb k hlt2 1 (by decide)
   have a2:=ca k hlt 2 (by decide)
   have b2:=cb k hlt2 2 (by decide)
   have a3:=ca k hlt 3 (by decide)
   have b3:=cb k hlt2 3 (by decide)
   have a4:=ca k hlt 4 (by decide)
   have b4:=cb k hlt2 4 (by decide)
   have a5:=ca k hlt 5 (by decide)
   have b5:=cb k hlt2 5 (by decide)
   have a6:=ca k hlt 6 (by decide)
   have b6:=cb k hlt2 6 (by decide)
   have a7:=ca k hlt 7 (by decide)
   have b7:=cb k hlt2 7 (by decide)
   have a8:=ca k hlt 8 (by decide)
   have b8:=cb k hlt2 8 (by decide)
   have a9:=ca k hlt 9 (by decide)
   have b9:=cb k hlt2 9 (by decide)
   have a10:=ca k hlt 10 (by decide)
   have b10:=cb k hlt2 10 (by decide)
   clear ca cb
   generalize ms[k]=m at *
   generalize ns[k]=n at *
   clear hlt2
   obtain ⟨nm,gr,gn,ts,tA,tc,tl,⟨⟨ci,⟨mx,my⟩,ra,st⟩,oA,od⟩,hs,hA,hc⟩:=m
   obtain ⟨nm2,gr2,gn2,ts2,tA2,tc2,tl2,⟨⟨ci2,⟨mx2,my2⟩,ra2,st2⟩,oA2,od2⟩,hs2,hA2,hc2⟩:=n
   have heq:=HEQ.out
   clear HEQ
   simp only [SrcM.src,Pa.Source.mk.injEq,Pa.Outline.mk.injEq,Prod.mk.injEq] at heq
   obtain ⟨rfl,rfl,rfl,rfl,rfl,⟨rfl,⟨rfl,rfl⟩,rfl,rfl⟩,hhe⟩:=heq
   have HHE:=hid hhe
   have hhl:hs2.length=hs.length:=by simpa using (congrArg List.length hhe).symm
   have HHL:=hid hhl
   simp only [srcCells,strV,List.getElem?_cons_zero,List.getElem?_cons_succ] at a0 a1 a2 a3 a4 a5 a6 a7 a8 a9 a10 b0 b1 b2 b3 b4 b5 b6 b7 b8 b9 b10
   rw [hhl] at b10
   clear hhl hhe
   have CS:Hid (∀ w',Below wr.heap.size wr w'→w'.cell? ⟨g,o1+k*11,none⟩=some (.string ⟨nm.toArray⟩)∧w'.cell? ⟨g,o1+k*11+1,none⟩=some (.string ⟨gr.toArray⟩)∧w'.cell? ⟨g,o1+k*11+2,none⟩=some (.int .i64 gn)∧w'.cell? ⟨g,o1+k*11+3,none⟩=some (.slice tA ts.length tc)∧w'.cell? ⟨g,o1+k*11+4,none⟩=some (.int .i64 tl)∧w'.cell? ⟨g,o1+k*11+5,none⟩=some (.bool ci)∧w'.cell? ⟨g,o1+k*11+6,none⟩=some (.int .i64 mx)∧w'.cell? ⟨g,o1+k*11+7,none⟩=some (.int .i64 my)∧w'.cell? ⟨g,o1+k*11+8,none⟩=some (.int .i64 ra)∧w'.cell? ⟨g,o1+k*11+9,none⟩=some (.slice oA st.length od)∧w'.cell? ⟨g,o1+k*11+10,none⟩=some (.slice hA hs.length hc)∧w'.cell? ⟨g2,o2+k*11,none⟩=some (.string ⟨nm.toArray⟩)∧w'.cell? ⟨g2,o2+k*11+1,none⟩=some (.string ⟨gr.toArray⟩)∧w'.cell? ⟨g2,o2+k*11+2,none⟩=some (.int .i64 gn)∧w'.cell? ⟨g2,o2+k*11+3,none⟩=some (.slice tA2 ts.length tc2)∧w'.cell? ⟨g2,o2+k*11+4,none⟩=some (.int .i64 tl)∧w'.cell? ⟨g2,o2+k*11+5,none⟩=some (.bool ci)∧w'.cell? ⟨g2,o2+k*11+6,none⟩=some (.int .i64 mx)∧w'.cell? ⟨g2,o2+k*11+7,none⟩=some (.int .i64 my)∧w'.cell? ⟨g2,o2+k*11+8,none⟩=some (.int .i64 ra)∧w'.cell? ⟨g2,o2+k*11+9,none⟩=some (.slice oA2 st.length od2)∧w'.cell? ⟨g2,o2+k*11+10,none⟩=some (.slice hA2 hs.length hc2)∧Below wr.heap.size wr w'):=hid (fun w' hb=>⟨(hb.cell (p:=⟨g,_,none⟩) hg).trans a0,(hb.cell (p:=⟨g,_,none⟩) hg).trans a1,(hb.cell (p:=⟨g,_,none⟩) hg).trans a2,(hb.cell (p:=⟨g,_,none⟩) hg).trans a3,(hb.cell (p:=⟨g,_,none⟩) hg).trans a4,(hb.cell (p:=⟨g,_,none⟩) hg).trans a5,(hb.cell (p:=⟨g,_,none⟩) hg).trans a6,(hb.cell (p:=⟨g,_,none⟩) hg).trans a7,(hb.cell (p:=⟨g,_,none⟩) hg).trans a8,(hb.cell (p:=⟨g,_,none⟩) hg).trans a9,(hb.cell (p:=⟨g,_,none⟩) hg).trans a10,(hb.cell (p:=⟨g2,_,none⟩) hg2).trans b0,(hb.cell (p:=⟨g2,_,none⟩) hg2).trans b1,(hb.cell (p:=⟨g2,_,none⟩) hg2).trans b2,(hb.cell (p:=⟨g2,_,none⟩) hg2).trans b3,(hb.cell (p:=⟨g2,_,none⟩) hg2).trans b4,(hb.cell (p:=⟨g2,_,none⟩) hg2).trans b5,(hb.cell (p:=⟨g2,_,none⟩) hg2).trans b6,(hb.cell (p:=⟨g2,_,none⟩) hg2).trans b7,(hb.cell (p:=⟨g2,_,none⟩) hg2).trans b8,(hb.cell (p:=⟨g2,_,none⟩) hg2).trans b9,(hb.cell (p:=⟨g2,_,none⟩) hg2).trans b10,hb⟩)
   have q4:=Below.refl wr.heap.size wr
   go_upto_region 6 with fail
   go_cut [6,7] from 20 to 27 (fun p q wc=>∃ pb1 pb2,p=.pointer (some ⟨pb1,0,none⟩)∧q=.pointer (some ⟨pb2,0,none⟩)∧wc.heap[pb1]? = some (.cells #[.string ⟨nm.toArray⟩,.string ⟨gr.toArray⟩,.int .i64 gn,.slice tA ts.length tc,.int .i64 tl,.bool ci,.int .i64 mx,.int .i64 my,.int .i64 ra,.slice oA st.length od,.slice hA hs.length hc] 41)∧wc.heap[pb2]? = some (.cells #[.string ⟨nm.toArray⟩,.string ⟨gr.toArray⟩,.int .i64 gn,.slice tA2 ts.length tc2,.int .i64 tl,.bool ci,.int .i64 mx,.int .i64 my,.int .i64 ra,.slice oA2 st.length od2,.slice hA2 hs.length hc2] 41)∧Below wr.heap.size wr wc)
   case first =>
    go_wp2_with fail
    go_region_held3 (fun w'=>w'.cell? ⟨g,o1+k*11,none⟩=some (.string ⟨nm.toArray⟩)∧w'.cell? ⟨g,o1+k*11+1,none⟩=some (.string ⟨gr.toArray⟩)∧w'.cell? ⟨g,o1+k*11+2,none⟩=some (.int .i64 gn)∧w'.cell? ⟨g,o1+k*11+3,none⟩=some (.slice tA ts.length tc)∧w'.cell? ⟨g,o1+k*11+4,none⟩=some (.int .i64 tl)∧w'.cell? ⟨g,o1+k*11+5,none⟩=some (.bool ci)∧w'.cell? ⟨g,o1+k*11+6,none⟩=some (.int .i64 mx)∧w'.cell? ⟨g,o1+k*11+7,none⟩=some (.int .i64 my)∧w'.cell? ⟨g,o1+k*11+8,none⟩=some (.int .i64 ra)∧w'.cell? ⟨g,o1+k*11+9,none⟩=some (.slice oA st.length od)∧w'.cell? ⟨g,o1+k*11+10,none⟩=some (.slice hA hs.length hc)∧w'.cell? ⟨g2,o2+k*11,none⟩=some (.string ⟨nm.toArray⟩)∧w'.cell? ⟨g2,o2+k*11+1,none⟩=some (.string ⟨gr.toArray⟩)∧w'.cell? ⟨g2,o2+k*11+2,none⟩=some (.int .i64 gn)∧w'.cell? ⟨g2,o2+k*11+3,none⟩=some (.slice tA2 ts.length tc2)∧w'.cell? ⟨g2,o2+k*11+4,none⟩=some (.int .i64 tl)∧w'.cell? ⟨g2,o2+k*11+5,none⟩=some (.bool ci)∧w'.cell? ⟨g2,o2+k*11+6,none⟩=some (.int .i64 mx)∧w'.cell? ⟨g2,o2+k*11+7,none⟩=some (.int .i64 my)∧w'.cell? ⟨g2,o2+k*11+8,none⟩=some (.int .i64 ra)∧w'.cell? ⟨g2,o2+k*11+9,none⟩=some (.slice oA2 st.length od2)∧w'.cell? ⟨g2,o2+k*11+10,none⟩=some (.slice hA2 hs.length hc2)∧Below wr.heap.size wr w')
     (first | assumption | exact CS.out _ (by first | assumption | (exact below_drewN (Below.refl _ _) 1) | (exact (below_drewN (Below.refl _ _) 1).alloc (Nat.le_refl _) _) | (exact ((below_drewN (Below.refl _ _) 1).alloc (Nat.le_refl _) _).alloc (by simp) _) | (exact (Below.refl _ _).alloc (Nat.le_refl _) _) | (exact ((Below.refl _ _).alloc (Nat.le_refl _) _).alloc (by simp) _)))
     (first | fail | fail)
    all_goals
     go_wp2_with fail
     go_meet
    all_goals first
     | exact ⟨_,_,rfl,rfl,(twoBoxes wr _ _).1,(twoBoxes wr _ _).2,by first | assumption | (exact below_drewN (Below.refl _ _) 1) | (exact (below_drewN (Below.refl _ _) 1).alloc (Nat.le_refl _) _) | (exact ((below_drewN (Below.refl _ _) 1).alloc (Nat.le_refl _) _).alloc (by simp) _) | (exact (Below.refl _ _).alloc (Nat.le_refl _) _) | (exact ((Below.refl _ _).alloc (Nat.le_refl _) _).alloc (by simp) _)⟩
     | exact ⟨_,_,rfl,rfl,(twoBoxes wr _ _).2,(twoBoxes wr _ _).1,by first | assumption | (exact below_drewN (Below.refl _ _) 1) | (exact (below_drewN (Below.refl _ _) 1).alloc (Nat.le_refl _) _) | (exact ((below_drewN (Below.refl _ _) 1).alloc (Nat.le_refl _) _).alloc (by simp) _) | (exact (Below.refl _ _).alloc (Nat.le_refl _) _) | (exact ((Below.refl _ _).alloc (Nat.le_refl _) _).alloc (by simp) _)⟩
   case rest =>
   obtain ⟨pb1,pb2,rfl,rfl,hg8,hg9,hbc⟩:=hcut
   have HX1:=hid hg8
   have HX2:=hid hg9
   have HBC:=hid hbc
   clear a0 a1 a2 a3 a4 a5 a6 a7 a8 a9 a10 b0 b1 b2 b3 b4 b5 b6 b7 b8 b9 b10 CS q4 hg8 hg9 hbc
   have e1:((ByteArray.mk nm.toArray) != (ByteArray.mk nm.toArray))=false:=str_ne_self _
   have e2:((ByteArray.mk gr.toArray) != (ByteArray.mk gr.toArray))=false:=str_ne_self _
   have HSI:=hid (fun W hb=>sameInts_any ts ts tA tA2 tc tc2 W ((HM.out.below (HBC.out)).1.1.below hb) ((HN.out.below (HBC.out)).1.1.below hb) HM.out.2.2.2.2.1)
   have HSO:=hid (fun W hb=>sameOutline_any (TS:=TS) (TS':=TS') (base:=base) (base':=base') ⟨⟨ci,(mx,my),ra,st⟩,oA,od⟩ ⟨⟨ci,(mx,my),ra,st⟩,oA2,od2⟩ W ((HM.out.below HBC.out).2.1.below hb) ((HN.out.below HBC.out).2.1.below hb))
   simp only [outCells,decide_true] at HSI HSO
   have x0:=cell_of HX1.out 0 (.string ⟨nm.toArray⟩) rfl
   have y0:=cell_of HX2.out 0 (.string ⟨nm.toArray⟩) rfl
   have x1:=cell_of HX1.out 1 (.string ⟨gr.toArray⟩) rfl
   have y1:=cell_of HX2.out 1 (.string ⟨gr.toArray⟩) rfl
   have x2:=cell_of HX1.out 2 (.int .i64 gn) rfl
   have y2:=cell_of HX2.out 2 (.int .i64 gn) rfl
   have x3:=cell_of HX1.out 3 (.slice tA ts.length tc) rfl
   have y3:=cell_of HX2.out 3 (.slice tA2 ts.length tc2) rfl
   have x4:=cell_of HX1.out 4 (.int .i64 tl) rfl
   have y4:=cell_of HX2.out 4 (.int .i64 tl) rfl
   have x5:=cell_of HX1.out 5 (.bool ci) rfl
   have y5:=cell_of HX2.out 5 (.bool ci) rfl
   have x6:=cell_of HX1.out 6 (.int .i64 mx) rfl
   have y6:=cell_of HX2.out 6 (.int .i64 mx) rfl
   have x7:=cell_of HX1.out 7 (.int .i64 my) rfl
   have y7:=cell_of HX2.out 7 (.int .i64 my) rfl
   have x8:=cell_of HX1.out 8 (.int .i64 ra) rfl
   have y8:=cell_of HX2.out 8 (.int .i64 ra) rfl
   have x9:=cell_of HX1.out 9 (.slice oA st.length od) rfl
   have y9:=cell_of HX2.out 9 (.slice oA2 st.length od2) rfl
   have x10:=cell_of HX1.out 10 (.slice hA hs.length hc) rfl
   have y10:=cell_of HX2.out 10 (.slice hA2 hs.length hc2) rfl
   go_wp2_with fail
   refine (HSI.out _ (Below.refl _ _)).mono ?_
   rintro e w5 ⟨rfl,hb5⟩
   clear x0 y0 x1 y1 x2 y2 x3 y3 x4 y4 x5 y5 x6 y6 x7 y7 x8 y8 x9 y9 x10 y10 HSI
   have HX15:=hid (p_below HX1.out hb5)
   have HX25:=hid (p_below HX2.out hb5)
   have HB5:=hid (HBC.out.trans (hb5.mono HBC.out.size))
   have x0:=cell_of HX15.out 0 (.string ⟨nm.toArray⟩) rfl
   have y0:=cell_of HX25.out 0 (.string ⟨nm.toArray⟩) rfl
   have x1:=cell_of HX15.out 1 (.string ⟨gr.toArray⟩) rfl
   have y1:=cell_of HX25.out 1 (.string ⟨gr.toArray⟩) rfl
   have x2:=cell_of HX15.out 2 (.int .i64 gn) rfl
   have y2:=cell_of HX25.out 2 (.int .i64 gn) rfl
   have x3:=cell_of HX15.out 3 (.slice tA ts.length tc) rfl
   have y3:=cell_of HX25.out 3 (.slice tA2 ts.length tc2) rfl
   have x4:=cell_of HX15.out 4 (.int .i64 tl) rfl
   have y4:=cell_of HX25.out 4 (.int .i64 tl) rfl
   have x5:=cell_of HX15.out 5 (.bool ci) rfl
   have y5:=cell_of HX25.out 5 (.bool ci) rfl
   have x6:=cell_of HX15.out 6 (.int .i64 mx) rfl
   have y6:=cell_of HX25.out 6 (.int .i64 mx) rfl
   have x7:=cell_of HX15.out 7 (.int .i64 my) rfl
   have y7:=cell_of HX25.out 7 (.int .i64 my) rfl
   have x8:=cell_of HX15.out 8 (.int .i64 ra) rfl
   have y8:=cell_of HX25.out 8 (.int .i64 ra) rfl
   have x9:=cell_of HX15.out 9 (.slice oA st.length od) rfl
   have y9:=cell_of HX25.out 9 (.slice oA2 st.length od2) rfl
   have x10:=cell_of HX15.out 10 (.slice hA hs.length hc) rfl
   have y10:=cell_of HX25.out 10 (.slice hA2 hs.length hc2) rfl
   go_wp2_with fail
   refine (HSO.out _ hb5).mono ?_
   rintro e w6 ⟨rfl,hb6⟩
   clear x0 y0 x1 y1 x2 y2 x3 y3 x4 y4 x5 y5 x6 y6 x7 y7 x8 y8 x9 y9 x10 y10 HSO hb5 e1 e2 HX1 HX2
   have HX1:=hid (p_below HX15.out hb6)
   have HX2:=hid (p_below HX25.out hb6)
   have HB6:=hid (HB5.out.trans (hb6.mono HB5.out.size))
   clear hb6 HX15 HX25 HB5 HBC
   have x0:=cell_of HX1.out 0 (.string ⟨nm.toArray⟩) rfl
   have y0:=cell_of HX2.out 0 (.string ⟨nm.toArray⟩) rfl
   have x1:=cell_of HX1.out 1 (.string ⟨gr.toArray⟩) rfl
   have y1:=cell_of HX2.out 1 (.string ⟨gr.toArray⟩) rfl
   have x2:=cell_of HX1.out 2 (.int .i64 gn) rfl
   have y2:=cell_of HX2.out 2 (.int .i64 gn) rfl
   have x3:=cell_of HX1.out 3 (.slice tA ts.length tc) rfl
   have y3:=cell_of HX2.out 3 (.slice tA2 ts.length tc2) rfl
   have x4:=cell_of HX1.out 4 (.int .i64 tl) rfl
   have y4:=cell_of HX2.out 4 (.int .i64 tl) rfl
   have x5:=cell_of HX1.out 5 (.bool ci) rfl
   have y5:=cell_of HX2.out 5 (.bool ci) rfl
   have x6:=cell_of HX1.out 6 (.int .i64 mx) rfl
   have y6:=cell_of HX2.out 6 (.int .i64 mx) rfl
   have x7:=cell_of HX1.out 7 (.int .i64 my) rfl
   have y7:=cell_of HX2.out 7 (.int .i64 my) rfl
   have x8:=cell_of HX1.out 8 (.int .i64 ra) rfl
   have y8:=cell_of HX2.out 8 (.int .i64 ra) rfl
   have x9:=cell_of HX1.out 9 (.slice oA st.length od) rfl
   have y9:=cell_of HX2.out 9 (.slice oA2 st.length od2) rfl
   have x10:=cell_of HX1.out 10 (.slice hA hs.length hc) rfl
   have y10:=cell_of HX2.out 10 (.slice hA2 hs.length hc2) rfl
   go_upto_region 10 with fail
   clear x0 y0 x1 y1 x2 y2 x3 y3 x4 y4 x5 y5 x6 y6 x7 y7 x8 y8 x9 y9 x10 y10
   obtain ⟨wo,rfl⟩:∃ wo,wo=wr:=⟨_,rfl⟩
   go_loopw [8] (fun jv wr=>∃ j:Nat,jv=.int .i64 (j:Int)∧j≤hs.length∧Hid (wr.heap[pb1]? = some (.cells #[.string ⟨nm.toArray⟩,.string ⟨gr.toArray⟩,.int .i64 gn,.slice tA ts.length tc,.int .i64 tl,.bool ci,.int .i64 mx,.int .i64 my,.int .i64 ra,.slice oA st.length od,.slice hA hs.length hc] 41))∧Hid (wr.heap[pb2]? = some (.cells #[.string ⟨nm.toArray⟩,.string ⟨gr.toArray⟩,.int .i64 gn,.slice tA2 ts.length tc2,.int .i64 tl,.bool ci,.int .i64 mx,.int .i64 my,.int .i64 ra,.slice oA2 st.length od2,.slice hA2 hs.length hc2] 41))∧Hid (Below wo.heap.size wo wr)) (fun j _=>hs.length - (intOf j).toNat)
   case atStart=>exact ⟨0,rfl,Nat.zero_le _,HX1,HX2,HB6⟩
   case round =>
    clear HX1 HX2 HB6
    obtain ⟨j,rfl,hj,HX1,HX2,HBI⟩:=hrel
    have x10:=cell_of HX1.out 10 (.slice hA hs.length hc) rfl
    have y10:=cell_of HX2.out 10 (.slice hA2 hs.length hc2) rfl
    by_cases hltj:j < hs.length
    ·have hj3:(0:Int)≤(j:Int):=by omega
     have hj4:(j:Int) < (hs.length:Int):=by omega
     have hj5:=HM.out.2.2.2.2.2
     dsimp only at hj5
     have hltj2:j < hs2.length:=by have:=HHL.out;omega
     have HHR:=hid ((HM.out.below HBI.out).2.2.1.1)
     have HHR2:=hid ((HN.out.below HBI.out).2.2.1.1)
     dsimp only at HHR HHR2
     obtain ⟨hg,hoff,rfl,hhg,ca⟩:=row_get out_len (by decide) HHR.out (by omega)
     obtain ⟨hg2,hoff2,rfl,hhg2,cb⟩:=row_get out_len (by decide) HHR2.out (by omega)
     have HEQ:=hid (map_get HHE.out j hltj hltj2)
     have HO1:=hid ((HM.out.below HBI.out).2.2.2.1 hs[j] (List.getElem_mem _))
     have HO2:=hid ((HN.out.below HBI.out).2.2.2.1 hs2[j] (List.getElem_mem _))
     have a0:=ca j hltj 0 (by decide)
     have b0:=cb j hltj2 0 (by decide)
     have a1:=ca j hltj 1 (by decide)
     have b1:=cb j hltj2 1 (by decide)
     have a2:=ca j hltj 2 (by decide)
     have b2:=cb j hltj2 2 (by decide)
     have a3:=ca j hltj 3 (by decide)
     have b3:=cb j hltj2 3 (by decide)
     have a4:=ca j hltj 4 (by decide)
     have b4:=cb j hltj2 4 (by decide)
     clear ca cb HHR HHR2
     generalize hs[j]=p at *
     generalize hs2[j]=q at *
     clear hltj2
     obtain ⟨⟨hci,⟨hmx,hmy⟩,hra,hst⟩,hoA,hod⟩:=p
     obtain ⟨⟨hci2,⟨hmx2,hmy2⟩,hra2,hst2⟩,hoA2,hod2⟩:=q
     have heq:=HEQ.out
     clear HEQ
     simp only [Pa.Outline.mk.injEq,Prod.mk.injEq] at heq
     obtain ⟨rfl,⟨rfl,rfl⟩,rfl,rfl⟩:=heq
     simp only [outCells,List.getElem?_cons_zero,List.getElem?_cons_succ] at a0 a1 a2 a3 a4 b0 b1 b2 b3 b4
     have HSO9:=hid (fun W (hb:Below wr.heap.size wr W)=>sameOutline_any (TS:=TS) (TS':=TS') (base:=base) (base':=base') ⟨⟨hci,(hmx,hmy),hra,hst⟩,hoA,hod⟩ ⟨⟨hci,(hmx,hmy),hra,hst⟩,hoA2,hod2⟩ W (HO1.out.below hb) (HO2.out.below hb))
     simp only [outCells,decide_true] at HSO9
     have hlb1:=blk_lt HX1.out
     have hlb2:=blk_lt HX2.out
     have CS9:Hid (∀ w',Below wr.heap.size wr w'→w'.cell? ⟨pb1,10,none⟩=some (.slice (some ⟨hg,hoff,none⟩) hs.length hc)∧w'.cell? ⟨pb2,10,none⟩=some (.slice (some ⟨hg2,hoff2,none⟩) hs.length hc2)∧w'.cell? ⟨hg,hoff+j*5,none⟩=some (.bool hci)∧w'.cell? ⟨hg,hoff+j*5+1,none⟩=some (.int .i64 hmx)∧w'.cell? ⟨hg,hoff+j*5+2,none⟩=some (.int .i64 hmy)∧w'.cell? ⟨hg,hoff+j*5+3,none⟩=some (.int .i64 hra)∧w'.cell? ⟨hg,hoff+j*5+4,none⟩=some (.slice hoA hst.length hod)∧w'.cell? ⟨hg2,hoff2+j*5,none⟩=some (.bool hci)∧w'.cell? ⟨hg2,hoff2+j*5+1,none⟩=some (.int .i64 hmx)∧w'.cell? ⟨hg2,hoff2+j*5+2,none⟩=some (.int .i64 hmy)∧w'.cell? ⟨hg2,hoff2+j*5+3,none⟩=some (.int .i64 hra)∧w'.cell? ⟨hg2,hoff2+j*5+4,none⟩=some (.slice hoA2 hst.length hod2)∧Below wr.heap.size wr w'):=hid (fun w' hb=>⟨(hb.cell (p:=⟨pb1,10,none⟩) hlb1).trans x10,(hb.cell (p:=⟨pb2,10,none⟩) hlb2).trans y10,(hb.cell (p:=⟨hg,_,none⟩) hhg).trans a0,(hb.cell (p:=⟨hg,_,none⟩) hhg).trans a1,(hb.cell (p:=⟨hg,_,none⟩) hhg).trans a2,(hb.cell (p:=⟨hg,_,none⟩) hhg).trans a3,(hb.cell (p:=⟨hg,_,none⟩) hhg).trans a4,(hb.cell (p:=⟨hg2,_,none⟩) hhg2).trans b0,(hb.cell (p:=⟨hg2,_,none⟩) hhg2).trans b1,(hb.cell (p:=⟨hg2,_,none⟩) hhg2).trans b2,(hb.cell (p:=⟨hg2,_,none⟩) hhg2).trans b3,(hb.cell (p:=⟨hg2,_,none⟩) hhg2).trans b4,hb⟩)
     go_upto_region 12 with fail
     clear a0 a1 a2 a3 a4 b0 b1 b2 b3 b4 x10 y10
     refine wp_region_held_drew (S:=fun w'=>w'.cell? ⟨pb1,10,none⟩=some (.slice (some ⟨hg,hoff,none⟩) hs.length hc)∧w'.cell? ⟨pb2,10,none⟩=some (.slice (some ⟨hg2,hoff2,none⟩) hs.length hc2)∧w'.cell? ⟨hg,hoff+j*5,none⟩=some (.bool hci)∧w'.cell? ⟨hg,hoff+j*5+1,none⟩=some (.int .i64 hmx)∧w'.cell? ⟨hg,hoff+j*5+2,none⟩=some (.int .i64 hmy)∧w'.cell? ⟨hg,hoff+j*5+3,none⟩=some (.int .i64 hra)∧w'.cell? ⟨hg,hoff+j*5+4,none⟩=some (.slice hoA hst.length hod)∧w'.cell? ⟨hg2,hoff2+j*5,none⟩=some (.bool hci)∧w'.cell? ⟨hg2,hoff2+j*5+1,none⟩=some (.int .i64 hmx)∧w'.cell? ⟨hg2,hoff2+j*5+2,none⟩=some (.int .i64 hmy)∧w'.cell? ⟨hg2,hoff2+j*5+3,none⟩=some (.int .i64 hra)∧w'.cell? ⟨hg2,hoff2+j*5+4,none⟩=some (.slice hoA2 hst.length hod2)∧Below wr.heap.size wr w') (by kernel_rfl) ?_ (fun hHeld=>?_)
     ·exact CS9.out _ (below_drewN (Below.refl _ _) 1)
     refine tH (i:=0) (v:=?_) rfl (Or.inl ⟨by rfl,?_⟩) ?_
     rotate_left
     ·intro w' hSw
      (try dsimp only at hSw)
      go_simp<;>with_reducible rfl
     try simp only [Act.put,sA]
     refine tH (i:=1) (v:=?_) rfl (Or.inl ⟨by rfl,?_⟩) ?_
     rotate_left
     ·intro w' hSw
      (try dsimp only at hSw)
      go_simp<;>with_reducible rfl
     try simp only [Act.put]
     refine tH (i:=2) (v:=?_) rfl (Or.inl ⟨by rfl,?_⟩) ?_
     rotate_left
     ·intro w' hSw
      (try dsimp only at hSw)
      go_simp<;>with_reducible rfl
     try simp only [Act.put]
     refine tH (i:=3) (v:=?_) rfl (Or.inl ⟨by rfl,?_⟩) ?_
     rotate_left
     ·intro w' hSw
      (try dsimp only at hSw)
      go_simp<;>with_reducible rfl
     try simp only [Act.put]
     refine tH (i:=4) (v:=?_) rfl (Or.inl ⟨by rfl,?_⟩) ?_
     rotate_left
     ·intro w' hSw
      (try dsimp only at hSw)
      go_simp<;>with_reducible rfl
     try simp only [Act.put]
     refine tH (i:=5) (v:=?_) rfl (Or.inl ⟨by rfl,?_⟩) ?_
     rotate_left
     ·intro w' hSw
      (try dsimp only at hSw)
      go_simp<;>with_reducible rfl
     try simp only [Act.put]
     refine tH (i:=6) (v:=?_) rfl (Or.inl ⟨by rfl,?_⟩) ?_
     rotate_left
     ·intro w' hSw
      (try dsimp only at hSw)
      go_simp<;>with_reducible rfl
     try simp only [Act.put]
     refine tH (i:=7) (v:=?_) rfl (Or.inl ⟨by rfl,?_⟩) ?_
     rotate_left
     ·intro w' hSw
      (try dsimp only at hSw)
      go_simp<;>with_reducible rfl
     try simp only [Act.put]
     refine tH (i:=8) (v:=?_) rfl (Or.inl ⟨by rfl,?_⟩) ?_
     rotate_left
     ·intro w' hSw
      (try dsimp only at hSw)
      go_simp<;>with_reducible rfl
     try simp only [Act.put]
     refine tH (i:=9) (v:=?_) rfl (Or.inl ⟨by rfl,?_⟩) ?_
     rotate_left
     ·intro w' hSw
      (try dsimp only at hSw)
      go_simp<;>with_reducible rfl
     try simp only [Act.put]
     refine wpAnyH_ready (rs:=[10]) (by kernel_rfl) (by simp) ?_
     refine AllReadyH.cons (o := { dst:=some 96,op:=Op.call { callee:=Callee.value (Operand.func 45),args:=#[Operand.tmp 90,Operand.tmp 95],argTypes:=#[38,38] },type:=4,pos := "ref.go:424",after:=#[{ on:=4,ground:=Ground.data },{ on:=9,ground:=Ground.data }],guard:=none }) rfl (fun K hK=>?_) AllReadyH.nil
     have hbx:=hHeld.2.2.2.2.2.2.2.2.2.2.2.2
     clear hHeld
     go_simp
     go_at_call 45
     refine (HSO9.out _ hbx).mono ?_
     rintro e w10 ⟨rfl,hb10d⟩
     have hb10:Below wr.heap.size wr w10:=hbx.trans (hb10d.mono hbx.size)
     refine hK.out _ _ ?_ (fun hHeld=>?_)
     ·exact CS9.out _ hb10
     clear hK K
     try simp only [Act.put,sA,sB,sC]
     refine tH (i:=11) (v:=?_) rfl (Or.inl ⟨by rfl,?_⟩) ?_
     rotate_left
     ·intro w' hSw
      (try dsimp only at hSw)
      go_simp<;>with_reducible rfl
     try simp only [Act.put,sA]
     refine wpAnyH_done (by kernel_rfl) ?_ _
     clear hHeld
     go_wp2_with fail
     go_roundw
     case rel=>exact ⟨j+1,by go_num,hltj,hid (p_below HX1.out hb10),hid (p_below HX2.out hb10),hid (HBI.out.trans (hb10.mono HBI.out.size))⟩
     case measure=>simp [intOf];omega
    ·have hje:j=hs.length:=by omega
     have HBF:=hid (HB.out.trans (HBI.out.mono HB.out.size))
     go_wp2_with fail
     go_roundw
     case rel=>exact ⟨k+1,by go_num,hlt,HBF⟩
     case measure=>simp [intOf];omega
  ·obtain rfl:k=ms.length:=by omega
   go_wp2
   go_ret
   exact ⟨rfl,HB.out⟩
end Go.Proofs.YtnkkcknogkgdkaaGreatDoor.PaW
