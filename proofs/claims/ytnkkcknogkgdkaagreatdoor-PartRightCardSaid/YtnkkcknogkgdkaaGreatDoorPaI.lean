/- Walk: the part language's parser passes a list of steps; an outline. Conditions: the parser and its tokens lie in memory, apart. -/
import Derived.Test.YtnkkcknogkgdkaaGreatDoorPaE
import Derived.Test.YtnkkcknogkgdkaaGreatDoorPfA
import Derived.Laws.AppendOwn
import Derived.Deep.AppendLies

namespace Go.Proofs.YtnkkcknogkgdkaaGreatDoor.PaW
open Lib (hid)
open Go Go.RowKit Go.Proofs.YtnkkcknogkgdkaaGreatDoor.Mem Go.Proofs.YtnkkcknogkgdkaaGreatDoor.Pa
open Go.Proofs.YtnkkcknogkgdkaaGreatDoor.Ge (V)
open Go.Proofs.YtnkkcknogkgdkaaGreatDoor.Lex (Tok)
open Go.Proofs.YtnkkcknogkgdkaaGreatDoor.LexW (tokCells)
attribute [local go_sem ↓] Go.wp_at_zero Go.wp_at_succ

theorem info_step:(Tryz.prog.info? 153).map (fun i=>(i.zero,i.size,i.bytes))=some (some (.agg #[.bool false,.int .i64 0,.int .i64 0,.int .i64 0,.int .i64 0,.bool false]),6,48):=by kernel_rfl
structure OSt (w0 wr:World) (b:Nat) (A:Option Addr) (c:Nat) (L:List Tok) (E j:Nat) (acc:List Step) (B:Option Addr) (d:Nat):Prop where
 pc:Pc wr b A c L E j
 res:wr.heap[w0.heap.size]? = some (.cells #[.bool false,.int .i64 0,.int .i64 0,.int .i64 0,.slice none 0 0] 55)
 obj:wr.heap[w0.heap.size+1]? = some (.cells #[.bool false,.int .i64 0,.int .i64 0,.int .i64 0,.slice B acc.length d] 55 (0,0))
 own:wr.ownsRow (w0.heap.size+2) 153 6 (.slice B acc.length d) acc.length (acc.flatMap stepCells)
 gr:w0.grownBy wr (some b)
 row:Row w0 A (L.flatMap tokCells)
 lt:b < w0.heap.size
section
variable {w0 wr w1:World} {b:Nat} {A:Option Addr} {c:Nat} {L:List Tok} {E j j':Nat} {acc:List Step} {B:Option Addr} {d:Nat}
theorem OSt.step (h:OSt w0 wr b A c L E j acc B d) (hp:Pc w1 b A c L E j') (hg:wr.grownBy w1 (some b)):OSt w0 w1 b A c L E j' acc B d:=by
 have hl:=h.lt
 exact ⟨hp,(hg.block _ (blk_lt h.res) (fun e=>by injection e;omega)).trans h.res,(hg.block _ (blk_lt h.obj) (fun e=>by injection e;omega)).trans h.obj,own_old h.own hg (by omega),h.gr.trans hg,h.row,hl⟩
theorem OSt.below (h:OSt w0 wr b A c L E j acc B d) (hb:Below wr.heap.size wr w1):OSt w0 w1 b A c L E j acc B d :=
 h.step (h.pc.below hb) (grown_below (grown_refl wr (some b)) hb)
/-- A cell of a younger block is written. -/
theorem OSt.set (h:OSt w0 wr b A c L E j acc B d) {r:Nat} (hr:w0.heap.size+2≤r) (hne:∀ k,(Value.slice B acc.length d).ownBlock=some k→k≠r) (m:Nat) (v:Value):OSt w0 (wr.setCell ⟨r,m,none⟩ v) b A c L E j acc B d:=by
 have hg:=grown_set (grown_refl wr (some r)) m v
 have hl:=h.lt
 refine ⟨h.pc.wide h.row h.lt hg (fun k e=>by cases e;omega),(hg.block _ (blk_lt h.res) (fun e=>by injection e;omega)).trans h.res,(hg.block _ (blk_lt h.obj) (fun e=>by injection e;omega)).trans h.obj,own_grown h.own hg hne,grown_wide h.gr hg (fun k e=>by cases e;omega),h.row,hl⟩
theorem OSt.push {w6 w7:World} {x:Step} {B':Option Addr} {d':Nat} (h:OSt w0 w6 b A c L E j acc B d)
  (hown:w7.ownsRow (w0.heap.size+2) 153 6 (.slice B' (acc.length+1) d') (acc.length+1) (acc.flatMap stepCells++stepCells x)) (hg:w6.grownBy w7 (Value.slice B acc.length d).ownBlock) :
  OSt w0 (w7.setCell ⟨w0.heap.size+1,4,none⟩ (.slice B' (acc.length+1) d')) b A c L E j (acc++[x]) B' d':=by
 have hro:∀ k,(Value.slice B acc.length d).ownBlock=some k→w0.heap.size+2≤k:=fun k hk=>(h.own.lt k hk).1
 have hro0:∀ k,(Value.slice B acc.length d).ownBlock=some k→w0.heap.size≤k:=fun k hk=>Nat.le_trans (Nat.le_add_right _ _) (hro k hk)
 have hl:(acc++[x]).length=acc.length+1:=by simp
 have hf:(acc++[x]).flatMap stepCells=acc.flatMap stepCells++stepCells x:=by simp
 have hgs:=grown_set (grown_refl w7 (some (w0.heap.size+1))) 4 (.slice B' (acc.length+1) d')
 have hlt:=h.lt
 have hob:=old_block hg hro (by omega) h.obj
 refine ⟨(h.pc.wide h.row h.lt hg hro0).wide h.row h.lt hgs (fun k e=>by cases e;omega),(hgs.block _ (blk_lt (old_block hg hro (by omega) h.res)) (fun e=>by injection e;omega)).trans (old_block hg hro (by omega) h.res),?_,?_,grown_wide (grown_wide h.gr hg hro0) hgs (fun k e=>by cases e;omega),h.row,hlt⟩
 ·rw [hl]
  exact block_set hob 4 _
 ·rw [hl,hf]
  exact own_old hown hgs (by omega)
end
theorem steps_go {β:Type} {G:List Step→Pa.Op β} {f:Nat} {acc:List Step} {L:List Tok} {j:Nat} (h:isT L kSemi j=false):bnd (stepsO (f+1) acc) G L j=bnd stepO (fun s=>bnd (stepsO f (acc++[s])) G) L j:=by
 simp only [stepsO,bnd,optO,h,Bool.false_eq_true,if_false]
 cases stepO L j<;>rfl
theorem steps_end {β:Type} {G:List Step→Pa.Op β} {f:Nat} {acc:List Step} {L:List Tok} {j:Nat} (h:isT L kSemi j=true):bnd (stepsO (f+1) acc) G L j=G acc L (j+1):=by
 simp only [stepsO,bnd,optO,h,if_true,ret]
theorem step_arc1 {L:List Tok} {j:Nat} (h:isT L kArc j=true):stepO L j=arcO L (j+1):=by
 simp only [stepO,bnd,optO,h,if_true]
theorem step_line1 {L:List Tok} {j:Nat} (h:isT L kArc j=false):stepO L j=lineO L j:=by
 simp only [stepO,bnd,optO,h,Bool.false_eq_true,if_false]
def pathG (l:List Step):Pa.Op Outline:=ret ⟨false,(0,0),0,l⟩
theorem point_on {L:List Tok} {i j:Nat} {v:V} (h:pointO L i=.ok v j):i < j:=(tight_point L L i v j h).1
attribute [local go_sem ↓] Go.wp_at_zero Go.wp_at_succ

set_option maxRecDepth 100000 in
set_option maxHeartbeats 4000000 in
theorem outline_path (b:Nat) (A:Option Addr) (c:Nat) (L:List Tok) (E i:Nat) (w:World) (h:Pc w b A c L E i) (hc:isT L kCircle i=false) :
  Calls Tryz.prog 88 #[.pointer (some ⟨b,0,none⟩)] w (ResP OutP w b A c L E (pathO L i)):=by
 have hlt:=blk_lt h.obj
 have HFEW:=hid h.few
 obtain ⟨i0,ia,ib,ic,id⟩:=info_parts info_step
 have HRW:=hid h.row
 have hsz:(w.alloc (.cells #[.bool false,.int .i64 0,.int .i64 0,.int .i64 0,.slice none 0 0] 55)).heap.size=w.heap.size+1:=by simp
 have hB2:=bel1 (w.alloc (.cells #[.bool false,.int .i64 0,.int .i64 0,.int .i64 0,.slice none 0 0] 55)) (.cells #[.bool false,.int .i64 0,.int .i64 0,.int .i64 0,.slice none 0 0] 55)
 have HRa:=hid (p_below (heap_new w (.cells #[.bool false,.int .i64 0,.int .i64 0,.int .i64 0,.slice none 0 0] 55)) hB2)
 have HOa:Hid (((w.alloc (.cells #[.bool false,.int .i64 0,.int .i64 0,.int .i64 0,.slice none 0 0] 55)).alloc (.cells #[.bool false,.int .i64 0,.int .i64 0,.int .i64 0,.slice none 0 0] 55)).heap[w.heap.size+1]? = some (.cells #[.bool false,.int .i64 0,.int .i64 0,.int .i64 0,.slice none 0 0] 55)):=hid (by have:=heap_new (w.alloc (.cells #[.bool false,.int .i64 0,.int .i64 0,.int .i64 0,.slice none 0 0] 55)) (.cells #[.bool false,.int .i64 0,.int .i64 0,.int .i64 0,.slice none 0 0] 55);rw [hsz] at this;exact this)
 have hB:=(bel1 w (.cells #[.bool false,.int .i64 0,.int .i64 0,.int .i64 0,.slice none 0 0] 55)).trans (hB2.mono (by rw [hsz];omega))
 have HPa:=hid (h.below hB)
 have HGa:=hid (grown_below (grown_refl w (some b)) hB)
 clear h hB hB2 hsz
 obtain ⟨RS,HRS⟩:∃ RS,Hid (pathO L i=RS):=⟨_,hid rfl⟩
 rw [HRS.out]
 go_enter Tryz.func88,Tryz.ntmps88
 go_upto_region 2 with fail
 generalize (w.alloc (.cells #[.bool false,.int .i64 0,.int .i64 0,.int .i64 0,.slice none 0 0] 55)).alloc (.cells #[.bool false,.int .i64 0,.int .i64 0,.int .i64 0,.slice none 0 0] 55)=Wa at *
 have HE0:Hid (Calls Tryz.prog 85 #[.pointer (some ⟨b,0,none⟩),.string ⟨#[99,105,114,99,108,101]⟩] Wa (Res Value.bool Wa b A c L E (.ok false i))):=hid (by
  have:=accept_any kCircle b A c L E i Wa HPa.out
  unfold optO at this
  rw [hc,if_neg Bool.false_ne_true] at this
  exact this)
 go_wp2_with fail
 refine HE0.out.mono ?_
 rintro e w0 ⟨rfl,hp0,hg0⟩
 have HP0:=hid hp0
 have HG0:=hid (HGa.out.trans hg0)
 have HR0:=hid ((hg0.block _ (blk_lt HRa.out) (by intro e;cases e;omega)).trans HRa.out)
 have HO0:=hid ((hg0.block _ (blk_lt HOa.out) (by intro e;cases e;omega)).trans HOa.out)
 clear hp0 hg0 hc
 have HE1:=hid (point_any b A c L E i w0 HP0.out)
 go_wp2_with fail
 refine HE1.out.mono ?_
 rintro e w1 hres
 cases h1:pointO L i with
 | no k er =>
  rw [h1] at hres
  obtain ⟨rfl,hg⟩:=hres
  have hrs:=HRS.out
  simp only [pathO,bnd,h1] at hrs
  subst hrs
  go_wp2
  exact ⟨rfl,rfl,HG0.out.trans hg⟩
 | ok v j1 =>
 rw [h1] at hres
 obtain ⟨rfl,hp1,hg1⟩:=hres
 have HP1:=hid hp1
 have HG1:=hid (HG0.out.trans hg1)
 have HR1:=hid ((hg1.block _ (blk_lt HR0.out) (by intro e;cases e;omega)).trans HR0.out)
 have HO1:=hid ((hg1.block _ (blk_lt HO0.out) (by intro e;cases e;omega)).trans HO0.out)
 have HJ1:=hid (point_on h1)
 have HFIN:Hid (bnd (stepsO 20001 [⟨false,v,(0,0),false⟩]) pathG L j1=RS):=hid ((bnd_ok h1).symm.trans HRS.out)
 clear hp1 hg1 HRS h1
 have hb8:=bel1 w1 (.cells #[.bool false,.int .i64 v.1,.int .i64 v.2,.int .i64 0,.int .i64 0,.bool false] 153)
 have HO8:=hid (p_below HO1.out hb8)
 have HS8:Hid (OSt w ((w1.alloc (.cells #[.bool false,.int .i64 v.1,.int .i64 v.2,.int .i64 0,.int .i64 0,.bool false] 153)).setCell ⟨w.heap.size+1,4,none⟩ (.slice (some ⟨w1.heap.size,0,none⟩) 1 1)) b A c L E j1 [⟨false,v,(0,0),false⟩] (some ⟨w1.heap.size,0,none⟩) 1):=hid (by
  have hl1:=blk_lt HO1.out
  have hgs:=grown_set (grown_refl (w1.alloc (.cells #[.bool false,.int .i64 v.1,.int .i64 v.2,.int .i64 0,.int .i64 0,.bool false] 153)) (some (w.heap.size+1))) 4 (.slice (some ⟨w1.heap.size,0,none⟩) 1 1)
  refine ⟨(HP1.out.below hb8).wide HRW.out hlt hgs (fun k e=>by cases e;omega),(hgs.block _ (blk_lt (p_below HR1.out hb8)) (fun e=>by injection e;omega)).trans (p_below HR1.out hb8),block_set HO8.out 4 _,?_,grown_new (grown_below HG1.out hb8) (by omega) 4 _,HRW.out,hlt⟩
  exact own_old (World.ownsRow_lit w1 #[.bool false,.int .i64 v.1,.int .i64 v.2,.int .i64 0,.int .i64 0,.bool false] 1 (by omega) (by decide) rfl) hgs (by omega))
 have o4:=cell_of HO8.out 4 _ rfl
 have q4:=free_of HO8.out 4
 unfold ptV
 go_upto_region 9 with fail
 clear o4 q4 hb8 HO8 HO1 HR1 HP1 HG1 HO0 HR0 HP0 HG0 HOa HRa HPa HGa HE0 HE1
 generalize ((w1.alloc (.cells #[.bool false,.int .i64 v.1,.int .i64 v.2,.int .i64 0,.int .i64 0,.bool false] 153)).setCell ⟨w.heap.size+1,4,none⟩ (.slice (some ⟨w1.heap.size,0,none⟩) 1 1))=W8 at *
 generalize hAD:(some ⟨w1.heap.size,0,none⟩:Option Addr)=AD at *
 clear hAD
 go_loopg [4] 20001 (fun f _ wr=>∃ (acc:List Step) (j:Nat) (B:Option Addr) (d:Nat),Hid (bnd (stepsO f acc) pathG L j=RS)∧L.length < f+j∧acc.length≤j∧Hid (OSt w wr b A c L E j acc B d))
 case atStart=>exact ⟨_,j1,AD,1,HFIN,by have:=HFEW.out;omega,by have:=HJ1.out;simp;omega,HS8⟩
 case round =>
  obtain ⟨acc,j,B,d,HFI,hfj,haj,HS⟩:=hrel
  rcases gk with _ | f
  ·have:=HS.out.pc.ix
   omega
  clear HFIN HS8 HJ1
  cases hsm:isT L kSemi j
  ·have HRN:=hid ((steps_go hsm).symm.trans HFI.out)
   clear HFI
   have HE1:Hid (Calls Tryz.prog 85 #[.pointer (some ⟨b,0,none⟩),.string ⟨#[59]⟩] wr (Res Value.bool wr b A c L E (.ok false j))):=hid (by
    have:=accept_any kSemi b A c L E j wr HS.out.pc
    unfold optO at this
    rw [hsm,if_neg Bool.false_ne_true] at this
    exact this)
   go_wp2_with fail
   refine HE1.out.mono ?_
   rintro e w2 ⟨rfl,hp1,hg1⟩
   have HS1:=hid (HS.out.step hp1 hg1)
   clear hp1 hg1
   have hbn:=bel1 w2 (.cells #[.bool false,.int .i64 0,.int .i64 0,.int .i64 0,.int .i64 0,.bool false] 153)
   have HSn:=hid (HS1.out.below hbn)
   have HQn:=hid (heap_new w2 (.cells #[.bool false,.int .i64 0,.int .i64 0,.int .i64 0,.int .i64 0,.bool false] 153))
   have HSB:Hid (w.heap.size+2≤w2.heap.size):=hid (by have:=blk_lt HS1.out.obj;omega)
   have HNE:Hid (∀ k,(Value.slice B acc.length d).ownBlock=some k→k≠w2.heap.size):=hid (fun k hk=>by have:=(HS1.out.own.lt k hk).2;omega)
   go_upto_region 11 with fail
   clear hbn HS HS1 HE1
   generalize w2.alloc (.cells #[.bool false,.int .i64 0,.int .i64 0,.int .i64 0,.int .i64 0,.bool false] 153)=Wn at *
   generalize w2.heap.size=sb at *
   have hsbb:=HSB.out
   cases hka:isT L kArc j
   ·skip
    have HE2:Hid (Calls Tryz.prog 85 #[.pointer (some ⟨b,0,none⟩),.string ⟨#[97,114,99]⟩] Wn (Res Value.bool Wn b A c L E (.ok false j))):=hid (by
     have:=accept_any kArc b A c L E j Wn HSn.out.pc
     unfold optO at this
     rw [hka,if_neg Bool.false_ne_true] at this
     exact this)
    go_wp2_with fail
    refine HE2.out.mono ?_
    rintro e w3 ⟨rfl,hp2,hg2⟩
    have HS2:=hid (HSn.out.step hp2 hg2)
    have HQ2:=hid ((hg2.block _ (blk_lt HQn.out) (by intro e;cases e;omega)).trans HQn.out)
    clear hp2 hg2
    have HE3:=hid (point_any b A c L E j w3 HS2.out.pc)
    go_wp2_with fail
    refine HE3.out.mono ?_
    rintro e w4 hres
    cases h3:pointO L j with
    | no k er =>
     rw [h3] at hres
     obtain ⟨rfl,hg⟩:=hres
     have hst:stepO L j=.no k er:=by rw [step_line1 hka];simp only [lineO,bnd,h3]
     have hrs:=(bnd_no hst).symm.trans HRN.out
     subst hrs
     go_wp2
     exact ⟨rfl,rfl,HS2.out.gr.trans hg⟩
    | ok t j3 =>
    rw [h3] at hres
    obtain ⟨rfl,hp3,hg3⟩:=hres
    have HS3:=hid (HS2.out.step hp3 hg3)
    have HQ3:=hid ((hg3.block _ (blk_lt HQ2.out) (by intro e;cases e;omega)).trans HQ2.out)
    clear hp3 hg3
    unfold ptV
    have x1:=cell_of HQ3.out 1 _ rfl
    have y1:=free_of HQ3.out 1
    have x2:=cell_of HQ3.out 2 _ rfl
    have y2:=free_of HQ3.out 2
    have HS5:=hid ((HS3.out.set HSB.out HNE.out 1 (.int .i64 t.1)).set HSB.out HNE.out 2 (.int .i64 t.2))
    have HQ5:Hid (((w4.setCell ⟨sb,1,none⟩ (.int .i64 t.1)).setCell ⟨sb,2,none⟩ (.int .i64 t.2)).heap[sb]? = some (.cells #[.bool false,.int .i64 t.1,.int .i64 t.2,.int .i64 0,.int .i64 0,.bool false] 153 (0,0))):=hid (block_set (block_set HQ3.out 1 _) 2 _)
    go_upto_region 17 with fail
    clear x1 y1 x2 y2
    generalize ((w4.setCell ⟨sb,1,none⟩ (.int .i64 t.1)).setCell ⟨sb,2,none⟩ (.int .i64 t.2))=W5 at *
    have HST:Hid (stepO L j=.ok ⟨false,t,(0,0),false⟩ j3):=hid (by rw [step_line1 hka];simp only [lineO,bnd,h3,ret])
    have HJ:=hid (step_on HST.out)
    have HNX:Hid (bnd (stepsO f (acc++[⟨false,t,(0,0),false⟩])) pathG L j3=RS):=hid ((bnd_ok HST.out).symm.trans HRN.out)
    clear HST HRN
    have x0:=cell_of HQ5.out 0 _ rfl
    have x1:=cell_of HQ5.out 1 _ rfl
    have x2:=cell_of HQ5.out 2 _ rfl
    have x3:=cell_of HQ5.out 3 _ rfl
    have x4:=cell_of HQ5.out 4 _ rfl
    have x5:=cell_of HQ5.out 5 _ rfl
    have o4:=cell_of HS5.out.obj 4 _ rfl
    have hb6:=bel1 W5 (.cells #[.bool false,.int .i64 t.1,.int .i64 t.2,.int .i64 0,.int .i64 0,.bool false] 153)
    have HSZ:=hid (HS5.out.below hb6)
    have CN:=hid (World.news_of_block (cs:=#[.bool false,.int .i64 t.1,.int .i64 t.2,.int .i64 0,.int .i64 0,.bool false]) (t := 153) (fr:=(0,0)) (heap_new W5 _))
    have C2:Hid (∀ uu∈([.bool false,.int .i64 t.1,.int .i64 t.2,.int .i64 0,.int .i64 0,.bool false]:List Value),uu.oneCell'=true):=hid (by intro uu hu;simp at hu;rcases hu with rfl | rfl | rfl | rfl | rfl | rfl<;>rfl)
    have C3:Hid (acc.length+1≤maxLen∧(acc.length+1)*48≤140737488355328):=hid (by have:=HS5.out.pc.ix;have:=HJ.out;have:=HFEW.out;unfold maxLen;omega)
    have C5:Hid (w.heap.size+2≤(W5.alloc (.cells #[.bool false,.int .i64 t.1,.int .i64 t.2,.int .i64 0,.int .i64 0,.bool false] 153)).heap.size):=hid (by have:=blk_lt HS5.out.obj;simp;omega)
    clear hb6
    go_wp2_with (at_builtin;refine wpList_append_own _ rfl _ _ 53 rfl (w.heap.size+2) 153 i0 _ 6 48 Tryz.underlying53 ia ib ic id rfl (by omega) _ _ _ rfl HSZ.out.own ⟨W5.heap.size,0,none⟩ 1 1 [.bool false,.int .i64 t.1,.int .i64 t.2,.int .i64 0,.int .i64 0,.bool false] rfl rfl CN.out C2.out C3.out.1 C3.out.2 C5.out ?_)
    intro v7 w7 hown7 hg7 _
    obtain ⟨B7,d7,rfl,_⟩:=own_shape hown7
    have HO7:=hid (old_block hg7 (fun k hk=>(HSZ.out.own.lt k hk).1) (by omega) HSZ.out.obj)
    have HP7:=hid (OSt.push (x:=⟨false,t,(0,0),false⟩) HSZ.out hown7 hg7)
    have o5:=cell_of HO7.out 4 _ rfl
    have o6:=free_of HO7.out 4
    clear hown7 hg7 x0 x1 x2 x3 x4 x5 o4
    go_wp2
    go_roundg f
    case measure=>omega
    case rel=>exact ⟨acc++[⟨false,t,(0,0),false⟩],j3,B7,d7,HNX,by have:=HJ.out;omega,by rw [List.length_append];simp only [List.length_singleton];have:=HJ.out;omega,HP7⟩
   ·skip
    have HE2:Hid (Calls Tryz.prog 85 #[.pointer (some ⟨b,0,none⟩),.string ⟨#[97,114,99]⟩] Wn (Res Value.bool Wn b A c L E (.ok true (j+1)))):=hid (by
     have:=accept_any kArc b A c L E j Wn HSn.out.pc
     unfold optO at this
     rw [hka,if_pos rfl] at this
     exact this)
    go_wp2_with fail
    refine HE2.out.mono ?_
    rintro e w3 ⟨rfl,hp2,hg2⟩
    have HS2:=hid (HSn.out.step hp2 hg2)
    have HQ2:=hid ((hg2.block _ (blk_lt HQn.out) (by intro e;cases e;omega)).trans HQn.out)
    clear hp2 hg2
    have HE3:=hid (point_any b A c L E (j+1) w3 HS2.out.pc)
    go_wp2_with fail
    refine HE3.out.mono ?_
    rintro e w4 hres
    cases h3:pointO L (j+1) with
    | no k er =>
     rw [h3] at hres
     obtain ⟨rfl,hg⟩:=hres
     have hst:stepO L j=.no k er:=by rw [step_arc1 hka];simp only [arcO,bnd,h3]
     have hrs:=(bnd_no hst).symm.trans HRN.out
     subst hrs
     go_wp2
     exact ⟨rfl,rfl,HS2.out.gr.trans hg⟩
    | ok t j3 =>
    rw [h3] at hres
    obtain ⟨rfl,hp3,hg3⟩:=hres
    have HS3:=hid (HS2.out.step hp3 hg3)
    have HQ3:=hid ((hg3.block _ (blk_lt HQ2.out) (by intro e;cases e;omega)).trans HQ2.out)
    clear hp3 hg3
    unfold ptV
    have x0:=cell_of HQ3.out 0 _ rfl
    have y0:=free_of HQ3.out 0
    have x1:=cell_of HQ3.out 1 _ rfl
    have y1:=free_of HQ3.out 1
    have x2:=cell_of HQ3.out 2 _ rfl
    have y2:=free_of HQ3.out 2
    have HS5:=hid (((HS3.out.set HSB.out HNE.out 0 (.bool true)).set HSB.out HNE.out 1 (.int .i64 t.1)).set HSB.out HNE.out 2 (.int .i64 t.2))
    have HQ5:Hid ((((w4.setCell ⟨sb,0,none⟩ (.bool true)).setCell ⟨sb,1,none⟩ (.int .i64 t.1)).setCell ⟨sb,2,none⟩ (.int .i64 t.2)).heap[sb]? = some (.cells #[.bool true,.int .i64 t.1,.int .i64 t.2,.int .i64 0,.int .i64 0,.bool false] 153 (0,0))):=hid (block_set (block_set (block_set HQ3.out 0 _) 1 _) 2 _)
    go_upto_region 13 with fail
    clear x0 y0 x1 y1 x2 y2
    generalize (((w4.setCell ⟨sb,0,none⟩ (.bool true)).setCell ⟨sb,1,none⟩ (.int .i64 t.1)).setCell ⟨sb,2,none⟩ (.int .i64 t.2))=W5 at *
    have HF4:Hid (Calls Tryz.prog 83 #[.pointer (some ⟨b,0,none⟩),.slice (some ⟨W5.heap.size,0,none⟩) 1 1] (W5.alloc (.cells #[.string ⟨#[97,114,111,117,110,100]⟩] 9)) (Res (fun _=>.tuple #[]) W5 b A c L E (need kAround L j3))):=hid (expect_one kAround b A c L E j3 W5 HS5.out.pc)
    have HE4:=hid (HF4.out)
    go_wp2_with fail
    refine HE4.out.mono ?_
    rintro e w6 hres
    cases h4:need kAround L j3 with
    | no k er =>
     rw [h4] at hres
     obtain ⟨rfl,hg⟩:=hres
     have hst:stepO L j=.no k er:=by rw [step_arc1 hka];simp only [arcO,bnd,h3,h4]
     have hrs:=(bnd_no hst).symm.trans HRN.out
     subst hrs
     go_wp2
     exact ⟨rfl,rfl,HS5.out.gr.trans hg⟩
    | ok u4 j4 =>
    rw [h4] at hres
    obtain ⟨rfl,hp4,hg4⟩:=hres
    have HS4:=hid (HS5.out.step hp4 hg4)
    have HQ4:=hid ((hg4.block _ (blk_lt HQ5.out) (by intro e;cases e;omega)).trans HQ5.out)
    clear hp4 hg4
    have HE5:=hid (point_any b A c L E j4 w6 HS4.out.pc)
    go_wp2_with fail
    refine HE5.out.mono ?_
    rintro e w7 hres
    cases h5:pointO L j4 with
    | no k er =>
     rw [h5] at hres
     obtain ⟨rfl,hg⟩:=hres
     have hst:stepO L j=.no k er:=by rw [step_arc1 hka];simp only [arcO,bnd,h3,h4,h5]
     have hrs:=(bnd_no hst).symm.trans HRN.out
     subst hrs
     go_wp2
     exact ⟨rfl,rfl,HS4.out.gr.trans hg⟩
    | ok u j5 =>
    rw [h5] at hres
    obtain ⟨rfl,hp5,hg5⟩:=hres
    have HS6:=hid (HS4.out.step hp5 hg5)
    have HQ6:=hid ((hg5.block _ (blk_lt HQ4.out) (by intro e;cases e;omega)).trans HQ4.out)
    clear hp5 hg5
    unfold ptV
    have x3:=cell_of HQ6.out 3 _ rfl
    have y3:=free_of HQ6.out 3
    have x4:=cell_of HQ6.out 4 _ rfl
    have y4:=free_of HQ6.out 4
    have HS8:=hid ((HS6.out.set HSB.out HNE.out 3 (.int .i64 u.1)).set HSB.out HNE.out 4 (.int .i64 u.2))
    have HQ8:Hid (((w7.setCell ⟨sb,3,none⟩ (.int .i64 u.1)).setCell ⟨sb,4,none⟩ (.int .i64 u.2)).heap[sb]? = some (.cells #[.bool true,.int .i64 t.1,.int .i64 t.2,.int .i64 u.1,.int .i64 u.2,.bool false] 153 (0,0))):=hid (block_set (block_set HQ6.out 3 _) 4 _)
    go_upto_region 15 with fail
    clear x3 y3 x4 y4
    generalize ((w7.setCell ⟨sb,3,none⟩ (.int .i64 u.1)).setCell ⟨sb,4,none⟩ (.int .i64 u.2))=W8 at *
    obtain ⟨q,j6,h6⟩:∃ q j6,optO kClock L j5=.ok q j6:=by
     unfold optO
     split
     ·exact ⟨_,_,rfl⟩
     ·exact ⟨_,_,rfl⟩
    have HE6:Hid (Calls Tryz.prog 85 #[.pointer (some ⟨b,0,none⟩),.string ⟨#[99,108,111,99,107,119,105,115,101]⟩] W8 (Res Value.bool W8 b A c L E (.ok q j6))):=hid (by
     have:=accept_any kClock b A c L E j5 W8 HS8.out.pc
     rw [h6] at this
     exact this)
    go_wp2_with fail
    refine HE6.out.mono ?_
    rintro e w9 ⟨rfl,hp6,hg6⟩
    have HS9:=hid (HS8.out.step hp6 hg6)
    have HQ9:=hid ((hg6.block _ (blk_lt HQ8.out) (by intro e;cases e;omega)).trans HQ8.out)
    clear hp6 hg6
    have x5:=cell_of HQ9.out 5 _ rfl
    have y5:=free_of HQ9.out 5
    have HS10:=hid (HS9.out.set HSB.out HNE.out 5 (.bool q))
    have HQ10:Hid ((w9.setCell ⟨sb,5,none⟩ (.bool q)).heap[sb]? = some (.cells #[.bool true,.int .i64 t.1,.int .i64 t.2,.int .i64 u.1,.int .i64 u.2,.bool q] 153 (0,0))):=hid (block_set HQ9.out 5 _)
    go_upto_region 17 with fail
    clear x5 y5
    generalize (w9.setCell ⟨sb,5,none⟩ (.bool q))=W10 at *
    have HST:Hid (stepO L j=.ok ⟨true,t,u,q⟩ j6):=hid (by rw [step_arc1 hka];simp only [arcO,bnd,h3,h4,h5,h6,ret])
    have HJ:=hid (step_on HST.out)
    have HNX:Hid (bnd (stepsO f (acc++[⟨true,t,u,q⟩])) pathG L j6=RS):=hid ((bnd_ok HST.out).symm.trans HRN.out)
    clear HST HRN
    have x0:=cell_of HQ10.out 0 _ rfl
    have x1:=cell_of HQ10.out 1 _ rfl
    have x2:=cell_of HQ10.out 2 _ rfl
    have x3:=cell_of HQ10.out 3 _ rfl
    have x4:=cell_of HQ10.out 4 _ rfl
    have x5:=cell_of HQ10.out 5 _ rfl
    have o4:=cell_of HS10.out.obj 4 _ rfl
    have hb6:=bel1 W10 (.cells #[.bool true,.int .i64 t.1,.int .i64 t.2,.int .i64 u.1,.int .i64 u.2,.bool q] 153)
    have HSZ:=hid (HS10.out.below hb6)
    have CN:=hid (World.news_of_block (cs:=#[.bool true,.int .i64 t.1,.int .i64 t.2,.int .i64 u.1,.int .i64 u.2,.bool q]) (t := 153) (fr:=(0,0)) (heap_new W10 _))
    have C2:Hid (∀ uu∈([.bool true,.int .i64 t.1,.int .i64 t.2,.int .i64 u.1,.int .i64 u.2,.bool q]:List Value),uu.oneCell'=true):=hid (by intro uu hu;simp at hu;rcases hu with rfl | rfl | rfl | rfl | rfl | rfl<;>rfl)
    have C3:Hid (acc.length+1≤maxLen∧(acc.length+1)*48≤140737488355328):=hid (by have:=HS10.out.pc.ix;have:=HJ.out;have:=HFEW.out;unfold maxLen;omega)
    have C5:Hid (w.heap.size+2≤(W10.alloc (.cells #[.bool true,.int .i64 t.1,.int .i64 t.2,.int .i64 u.1,.int .i64 u.2,.bool q] 153)).heap.size):=hid (by have:=blk_lt HS10.out.obj;simp;omega)
    clear hb6
    go_wp2_with (at_builtin;refine wpList_append_own _ rfl _ _ 53 rfl (w.heap.size+2) 153 i0 _ 6 48 Tryz.underlying53 ia ib ic id rfl (by omega) _ _ _ rfl HSZ.out.own ⟨W10.heap.size,0,none⟩ 1 1 [.bool true,.int .i64 t.1,.int .i64 t.2,.int .i64 u.1,.int .i64 u.2,.bool q] rfl rfl CN.out C2.out C3.out.1 C3.out.2 C5.out ?_)
    intro v7 w7 hown7 hg7 _
    obtain ⟨B7,d7,rfl,_⟩:=own_shape hown7
    have HO7:=hid (old_block hg7 (fun k hk=>(HSZ.out.own.lt k hk).1) (by omega) HSZ.out.obj)
    have HP7:=hid (OSt.push (x:=⟨true,t,u,q⟩) HSZ.out hown7 hg7)
    have o5:=cell_of HO7.out 4 _ rfl
    have o6:=free_of HO7.out 4
    clear hown7 hg7 x0 x1 x2 x3 x4 x5 o4
    go_wp2
    go_roundg f
    case measure=>omega
    case rel=>exact ⟨acc++[⟨true,t,u,q⟩],j6,B7,d7,HNX,by have:=HJ.out;omega,by rw [List.length_append];simp only [List.length_singleton];have:=HJ.out;omega,HP7⟩
  ·have hrs:=(steps_end hsm).symm.trans HFI.out
   have HE1:Hid (Calls Tryz.prog 85 #[.pointer (some ⟨b,0,none⟩),.string ⟨#[59]⟩] wr (Res Value.bool wr b A c L E (.ok true (j+1)))):=hid (by
    have:=accept_any kSemi b A c L E j wr HS.out.pc
    unfold optO at this
    rw [hsm,if_pos rfl] at this
    exact this)
   go_wp2_with fail
   refine HE1.out.mono ?_
   rintro e w2 ⟨rfl,hp1,hg1⟩
   have HS9:=hid (HS.out.step hp1 hg1)
   clear hp1 hg1 HS
   have hrs2:R.ok (⟨false,(0,0),0,acc⟩:Outline) (j+1)=RS:=hrs
   subst hrs2
   clear hrs HFI
   have o0:=cell_of HS9.out.obj 0 _ rfl
   have z0:=cell_of HS9.out.res 0 _ rfl
   have q0:=free_of HS9.out.res 0
   have o1:=cell_of HS9.out.obj 1 _ rfl
   have z1:=cell_of HS9.out.res 1 _ rfl
   have q1:=free_of HS9.out.res 1
   have o2:=cell_of HS9.out.obj 2 _ rfl
   have z2:=cell_of HS9.out.res 2 _ rfl
   have q2:=free_of HS9.out.res 2
   have o3:=cell_of HS9.out.obj 3 _ rfl
   have z3:=cell_of HS9.out.res 3 _ rfl
   have q3:=free_of HS9.out.res 3
   have o4:=cell_of HS9.out.obj 4 _ rfl
   have z4:=cell_of HS9.out.res 4 _ rfl
   have q4:=free_of HS9.out.res 4
   have HPF:=hid (((((HS9.out.pc.new (show b≠w.heap.size by omega) HRW.out (Nat.le_refl _) 0 (.bool false)).new (show b≠w.heap.size by omega) HRW.out (Nat.le_refl _) 1 (.int .i64 0)).new (show b≠w.heap.size by omega) HRW.out (Nat.le_refl _) 2 (.int .i64 0)).new (show b≠w.heap.size by omega) HRW.out (Nat.le_refl _) 3 (.int .i64 0)).new (show b≠w.heap.size by omega) HRW.out (Nat.le_refl _) 4 (.slice B acc.length d))
   have HGF:=hid (grown_new (grown_new (grown_new (grown_new (grown_new HS9.out.gr (Nat.le_refl _) 0 (.bool false)) (Nat.le_refl _) 1 (.int .i64 0)) (Nat.le_refl _) 2 (.int .i64 0)) (Nat.le_refl _) 3 (.int .i64 0)) (Nat.le_refl _) 4 (.slice B acc.length d))
   have HWF:Hid ((((((w2.setCell ⟨w.heap.size,0,none⟩ (.bool false)).setCell ⟨w.heap.size,1,none⟩ (.int .i64 0)).setCell ⟨w.heap.size,2,none⟩ (.int .i64 0)).setCell ⟨w.heap.size,3,none⟩ (.int .i64 0)).setCell ⟨w.heap.size,4,none⟩ (.slice B acc.length d)).heap[w.heap.size]? = some (.cells #[.bool false,.int .i64 0,.int .i64 0,.int .i64 0,.slice B acc.length d] 55 (0,0))):=hid (block_set (block_set (block_set (block_set (block_set HS9.out.res 0 _) 1 _) 2 _) 3 _) 4 _)
   have HAF:Hid (At 153 0 (((((w2.setCell ⟨w.heap.size,0,none⟩ (.bool false)).setCell ⟨w.heap.size,1,none⟩ (.int .i64 0)).setCell ⟨w.heap.size,2,none⟩ (.int .i64 0)).setCell ⟨w.heap.size,3,none⟩ (.int .i64 0)).setCell ⟨w.heap.size,4,none⟩ (.slice B acc.length d)) B (acc.flatMap stepCells)):=hid ((At.of_own (base:=0) HS9.out.own).keep (grown_set (grown_set (grown_set (grown_set (grown_set (grown_refl w2 (some w.heap.size)) 0 (.bool false)) 1 (.int .i64 0)) 2 (.int .i64 0)) 3 (.int .i64 0)) 4 (.slice B acc.length d)) (RowW.at HS9.out.res (Nat.zero_le _)) (by decide))
   have HDF:Hid (acc.length≤d):=hid (by
    obtain ⟨_,_,e,hd⟩:=own_shape HS9.out.own
    cases e
    exact hd)
   go_wp2_with fail
   clear o0 o1 o2 o3 o4 z0 z1 z2 z3 z4 q0 q1 q2 q3 q4
   generalize (((((w2.setCell ⟨w.heap.size,0,none⟩ (.bool false)).setCell ⟨w.heap.size,1,none⟩ (.int .i64 0)).setCell ⟨w.heap.size,2,none⟩ (.int .i64 0)).setCell ⟨w.heap.size,3,none⟩ (.int .i64 0)).setCell ⟨w.heap.size,4,none⟩ (.slice B acc.length d))=WF at *
   have z0:=cell_of HWF.out 0 _ rfl
   have z1:=cell_of HWF.out 1 _ rfl
   have z2:=cell_of HWF.out 2 _ rfl
   have z3:=cell_of HWF.out 3 _ rfl
   have z4:=cell_of HWF.out 4 _ rfl
   refine bodyPost_ret (v:=outV ⟨false,(0,0),0,acc⟩ B d) (by simp [results,Tryz.results88,go_sem,z0,z1,z2,z3,z4,outV]) rfl ?_
   exact ⟨⟨_,rfl,B,d,rfl,HAF.out,HDF.out,by have:=HS9.out.pc.ix;have:=HFEW.out;show acc.length≤20000;omega⟩,HPF.out,HGF.out⟩
theorem outline_any (b:Nat) (A:Option Addr) (c:Nat) (L:List Tok) (E i:Nat) (w:World) (h:Pc w b A c L E i) :
  Calls Tryz.prog 88 #[.pointer (some ⟨b,0,none⟩)] w (ResP OutP w b A c L E (outlineO L i)):=by
 cases hc:isT L kCircle i
 ·have e:outlineO L i=pathO L i:=by simp only [outlineO,bnd,optO,hc,Bool.false_eq_true,if_false]
  rw [e]
  exact outline_path b A c L E i w h hc
 ·have e:outlineO L i=circleO L (i+1):=by simp only [outlineO,bnd,optO,hc,if_true]
  rw [e]
  exact outline_circle b A c L E i w h hc
end Go.Proofs.YtnkkcknogkgdkaaGreatDoor.PaW
