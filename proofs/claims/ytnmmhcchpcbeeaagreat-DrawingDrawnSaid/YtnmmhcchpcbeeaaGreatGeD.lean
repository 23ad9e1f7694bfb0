/- Walks: the program's divisor, and single points. Conditions: the numbers are at most 10^15. -/
import Derived.Test.YtnmmhcchpcbeeaaGreatGeC
import Derived.Test.YtnmmhcchpcbeeaaGreatMem2
import Derived.Lib.Builder
import Derived.Laws.Rows
import Derived.BigRegion
import Derived.WalkSpells
import Derived.WalkSmall
import Derived.Deep.RegionWith
import Derived.BigQuiet
import Derived.Deep.QuietTactic
import Derived.Laws.Concat
import Derived.Laws.StructEq
import Derived.Lib.Slices
import Derived.Lib.Walk
import Derived.Lib.AppendStr
import Derived.Shelf.Abstract

namespace Go.Proofs.YtnmmhcchpcbeeaaGreat.Ge
open Lib (hid)
structure Bx where
 lx:Int
 ly:Int
 hx:Int
 hy:Int
def bstep (b:Bx) (q:Int×Int):Bx:=⟨min b.lx q.1,min b.ly q.2,max b.hx q.1,max b.hy q.2⟩
def box:List (Int×Int)→Bx
 | []=>⟨0,0,0,0⟩
 | q::r=>(q::r).foldl bstep ⟨q.1,q.2,q.1,q.2⟩
end Go.Proofs.YtnmmhcchpcbeeaaGreat.Ge
namespace Go.Proofs.YtnmmhcchpcbeeaaGreat.GeW
open Lib (hid)
open Go Go.RowKit Go.Proofs.YtnmmhcchpcbeeaaGreat.Mem
theorem take_snoc' {α:Type} (l:List α) (k:Nat) (h:k < l.length):l.take (k+1)=l.take k++[l[k]]:=List.take_succ_eq_append_getElem h

def ptCells (q:Int×Int):List Value:=[.int .i64 q.1,.int .i64 q.2]
theorem pt_len (q:Int×Int):(ptCells q).length=2:=rfl
def boxV (b:Ge.Bx):Value:=.agg #[.int .i64 b.lx,.int .i64 b.ly,.int .i64 b.hx,.int .i64 b.hy]
def boxCells (b:Ge.Bx):Array Value:=#[.int .i64 b.lx,.int .i64 b.ly,.int .i64 b.hx,.int .i64 b.hy]
theorem block_lt' {w:World} {b:Nat} {o:Obj} (h:w.heap[b]? = some o):b < w.heap.size:=by
 rcases Nat.lt_or_ge b w.heap.size with hlt | hge
 ·exact hlt
 ·rw [Array.getElem?_eq_none hge] at h;cases h
/-- A store into a block that is known whole. -/
theorem block_set {w:World} {b:Nat} {cs:Array Value} {T:TypeId} {fr:Nat×Nat} (h:w.heap[b]? = some (.cells cs T fr)) (j:Nat) (v:Value):(w.setCell ⟨b,j,none⟩ v).heap[b]? = some (.cells (cs.setIfInBounds j v) T fr):=by
 simp [World.setCell,Array.getElem?_modify,h]
theorem block_other {b:Nat} (w:World) (c j:Nat) (v:Value) (h:b≠c):(w.setCell ⟨c,j,none⟩ v).heap[b]? = w.heap[b]?:=Below.heap_setCell _ _ _ _ (fun e=>h e)
theorem block_old {w:World} {b:Nat} {o o':Obj} (h:w.heap[b]? = some o):(w.alloc o').heap[b]? = some o:=by
 rw [← h];exact Below.heap_alloc _ _ _ (block_lt' h)
theorem heap_alloc_new2 (w:World) (o:Obj) {b:Nat} (h:b=w.heap.size):(w.alloc o).heap[b]? = some o:=by subst h;exact heap_alloc_new w o
theorem box_next (l:List (Int×Int)) (k:Nat) (h:k < l.length) (b:Ge.Bx):(l.take (k+1)).foldl Ge.bstep b=Ge.bstep ((l.take k).foldl Ge.bstep b) l[k]:=by
 rw [take_snoc' l k h,List.foldl_append];rfl
theorem block_lt {w:World} {b:Nat} {o:Obj} (h:w.heap[b]? = some o):b < w.heap.size:=by
 rcases Nat.lt_or_ge b w.heap.size with hlt | hge
 ·exact hlt
 ·rw [Array.getElem?_eq_none hge] at h;cases h

set_option maxRecDepth 100000 in
set_option maxHeartbeats 2000000 in
theorem boxOf_any (l:List (Int×Int)) (A:Option Addr) (c:Nat) (w:World) (hr:Row w A (l.flatMap ptCells)) (hl:l.length≤1000000) (h0:0 < l.length) :
  Calls Tryz.prog 212 #[.slice A l.length c] w fun e w'=>e=.returned (.tuple #[boxV (Ge.box l),.bool true])∧Below w.heap.size w w':=by
 obtain ⟨g,off,rfl,hg,ca⟩:=row_get pt_len (by decide) hr h0
 have a0:=ca 0 h0 0 (by decide)
 have a1:=ca 0 h0 1 (by decide)
 have CA:=hid ca
 have hne:((l.length:Int) == 0)=false:=beq_eq_false_iff_ne.2 (by omega)
 have hzl:(0:Int) < (l.length:Int):=by omega
 clear ca hr
 generalize hq:l[0]=q at *
 obtain ⟨qx,qy⟩:=q
 simp only [ptCells,List.getElem?_cons_zero,List.getElem?_cons_succ,Nat.add_zero,Nat.zero_mul] at a0 a1
 have HQ:=hid hq
 clear hq
 go_enter Tryz.func212,Tryz.ntmps212
 go_wp2
 go_region
 have hst:Hid (∀ h:0 < l.length,Ge.box l=l.foldl Ge.bstep ⟨qx,qy,qx,qy⟩):=hid (by
  intro h
  cases l with
  | nil=>simp at h
  | cons a r =>
   have:=HQ.out
   simp only [List.getElem_cons_zero] at this
   subst this;rfl)
 go_wp2
 go_loopw [19] (fun t wr=>∃ k:Nat,k≤l.length∧t=.int .i64 k∧wr.heap[w.heap.size]? = some (.cells #[.int .i64 0,.int .i64 0,.int .i64 0,.int .i64 0] 206 (0,0))∧(∃ b:Ge.Bx,Hid (b=(l.take k).foldl Ge.bstep ⟨qx,qy,qx,qy⟩)∧wr.heap[w.heap.size+1]? = some (.cells (boxCells b) 206 (0,0)))∧Below w.heap.size w wr) (fun t _=>l.length - (intOf t).toNat)
 case atStart=>exact ⟨0,Nat.zero_le _,rfl,block_old (heap_alloc_new w _),⟨⟨qx,qy,qx,qy⟩,hid rfl,heap_alloc_new2 _ _ (by simp)⟩,below_drew (((Below.refl _ _).alloc (Nat.le_refl _) _).alloc (by simp) _)⟩
 case round =>
  obtain ⟨k,hk,rfl,hR,⟨b,hd,hb⟩,hbel⟩:=hrel
  by_cases hlt:k < l.length
  ·have e0:=CA.out k hlt 0 (by decide)
   have e1:=CA.out k hlt 1 (by decide)
   have hnx:=hid (box_next l k hlt ⟨qx,qy,qx,qy⟩)
   have hgz:=Nat.lt_of_lt_of_le hg hbel.size
   have hbz:=block_lt hb
   have hgne:g≠w.heap.size+1:=by omega
   have hk1:(0:Int)≤(k:Int):=by omega
   have hk2:(k:Int) < (l.length:Int):=by omega
   generalize l[k]=r at *
   obtain ⟨rx,ry⟩:=r
   obtain ⟨lx,ly,hx,hy⟩:=b
   simp only [ptCells,List.getElem?_cons_zero,List.getElem?_cons_succ,Nat.add_zero] at e0 e1
   have HE0:=hid e0
   have HE1:=hid e1
   have d0:=(hbel.cell (p:=⟨g,_,none⟩) hg).trans e0
   have d1:=(hbel.cell (p:=⟨g,_,none⟩) hg).trans e1
   clear e0 e1
   have HB:=hid hb
   have HR0:=hid hR
   have HBE:=hid hbel
   have c0:wr.cell? ⟨w.heap.size+1,0,none⟩=some (.int .i64 lx):=by rw [Lib.cell_of_heap hb];rfl
   have c1:wr.cell? ⟨w.heap.size+1,1,none⟩=some (.int .i64 ly):=by rw [Lib.cell_of_heap hb];rfl
   have f0:wr.frozen? ⟨w.heap.size+1,0,none⟩=false:=Lib.frozen_of_heap hb 0
   have f1:wr.frozen? ⟨w.heap.size+1,1,none⟩=false:=Lib.frozen_of_heap hb 1
   clear hb hR hbel
   go_wp2
   go_region
   as_aux_lemma =>
    have hb1:=block_set (block_set HB.out 0 (.int .i64 (min lx rx))) 1 (.int .i64 (min ly ry))
    have hR1:=(block_other (b:=w.heap.size) ((wr.setCell ⟨w.heap.size+1,0,none⟩ (.int .i64 (min lx rx)))) (w.heap.size+1) 1 (.int .i64 (min ly ry)) (by omega)).trans ((block_other wr (w.heap.size+1) 0 (.int .i64 (min lx rx)) (by omega)).trans HR0.out)
    have hbel1:=((HBE.out.setCell (p:=⟨w.heap.size+1,0,none⟩) (by simp) (.int .i64 (min lx rx))).setCell (p:=⟨w.heap.size+1,1,none⟩) (by simp) (.int .i64 (min ly ry)))
    have hb1':=below_drew hbel1
    have hb1d:((wr.setCell ⟨w.heap.size+1,0,none⟩ (.int .i64 (min lx rx))).setCell ⟨w.heap.size+1,1,none⟩ (.int .i64 (min ly ry))).drew.heap[w.heap.size+1]? = some (.cells #[.int .i64 (min lx rx),.int .i64 (min ly ry),.int .i64 hx,.int .i64 hy] 206 (0,0)):=hb1
    have hR1d:((wr.setCell ⟨w.heap.size+1,0,none⟩ (.int .i64 (min lx rx))).setCell ⟨w.heap.size+1,1,none⟩ (.int .i64 (min ly ry))).drew.heap[w.heap.size]? = some (.cells #[.int .i64 0,.int .i64 0,.int .i64 0,.int .i64 0] 206 (0,0)):=hR1
    clear hb1 hR1 hbel1
    generalize ((wr.setCell ⟨w.heap.size+1,0,none⟩ (.int .i64 (min lx rx))).setCell ⟨w.heap.size+1,1,none⟩ (.int .i64 (min ly ry))).drew=W1 at *
    have hb1:=hb1d
    have hR1:=hR1d
    have hbel1:=hb1'
    clear hb1d hR1d
    have e2:=(hbel1.cell (p:=⟨g,_,none⟩) hg).trans HE0.out
    have e3:=(hbel1.cell (p:=⟨g,_,none⟩) hg).trans HE1.out
    have hgz1:=Nat.lt_of_lt_of_le hg hbel1.size
    have hbz1:=block_lt hb1
    have c2:W1.cell? ⟨w.heap.size+1,2,none⟩=some (.int .i64 hx):=by rw [Lib.cell_of_heap hb1];rfl
    have c3:W1.cell? ⟨w.heap.size+1,3,none⟩=some (.int .i64 hy):=by rw [Lib.cell_of_heap hb1];rfl
    have f2:W1.frozen? ⟨w.heap.size+1,2,none⟩=false:=Lib.frozen_of_heap hb1 2
    have f3:W1.frozen? ⟨w.heap.size+1,3,none⟩=false:=Lib.frozen_of_heap hb1 3
    have HB1:=hid hb1
    have HR1:=hid hR1
    have HBE1:=hid hbel1
    clear hb1 hR1 hbel1 hb1' c0 c1 f0 f1 d0 d1
    go_wp2
    go_region
    as_aux_lemma =>
     have hb2:=block_set (block_set HB1.out 2 (.int .i64 (max hx rx))) 3 (.int .i64 (max hy ry))
     have hR2:=(block_other (b:=w.heap.size) ((W1.setCell ⟨w.heap.size+1,2,none⟩ (.int .i64 (max hx rx)))) (w.heap.size+1) 3 (.int .i64 (max hy ry)) (by omega)).trans ((block_other W1 (w.heap.size+1) 2 (.int .i64 (max hx rx)) (by omega)).trans HR1.out)
     have hbel2:=((HBE1.out.setCell (p:=⟨w.heap.size+1,2,none⟩) (by simp) (.int .i64 (max hx rx))).setCell (p:=⟨w.heap.size+1,3,none⟩) (by simp) (.int .i64 (max hy ry)))
     generalize ((W1.setCell ⟨w.heap.size+1,2,none⟩ (.int .i64 (max hx rx))).setCell ⟨w.heap.size+1,3,none⟩ (.int .i64 (max hy ry)))=W2 at *
     have HB2:=hid hb2
     have HR2:=hid hR2
     have HBE2:=hid (below_drew hbel2)
     clear hb2 hR2 hbel2 c2 c3 f2 f3 e2 e3
     go_wp2
     go_roundw
     case rel=>exact ⟨k+1,by omega,by go_num,HR2.out,⟨⟨min lx rx,min ly ry,max hx rx,max hy ry⟩,hid (by rw [hnx.out,← hd.out];rfl),HB2.out⟩,HBE2.out⟩
     case measure=>simp [intOf];omega
  ·obtain rfl:k=l.length:=by omega
   have hfin:Hid (Ge.box l=b):=hid (by rw [hst.out h0,hd.out,List.take_length])
   obtain ⟨lx,ly,hx,hy⟩:=b
   have c0:wr.cell? ⟨w.heap.size+1,0,none⟩=some (.int .i64 lx):=by rw [Lib.cell_of_heap hb];rfl
   have c1:wr.cell? ⟨w.heap.size+1,1,none⟩=some (.int .i64 ly):=by rw [Lib.cell_of_heap hb];rfl
   have c2:wr.cell? ⟨w.heap.size+1,2,none⟩=some (.int .i64 hx):=by rw [Lib.cell_of_heap hb];rfl
   have c3:wr.cell? ⟨w.heap.size+1,3,none⟩=some (.int .i64 hy):=by rw [Lib.cell_of_heap hb];rfl
   have r0:wr.cell? ⟨w.heap.size,0,none⟩=some (.int .i64 0):=by rw [Lib.cell_of_heap hR];rfl
   have r1:wr.cell? ⟨w.heap.size,1,none⟩=some (.int .i64 0):=by rw [Lib.cell_of_heap hR];rfl
   have r2:wr.cell? ⟨w.heap.size,2,none⟩=some (.int .i64 0):=by rw [Lib.cell_of_heap hR];rfl
   have r3:wr.cell? ⟨w.heap.size,3,none⟩=some (.int .i64 0):=by rw [Lib.cell_of_heap hR];rfl
   have f0:wr.frozen? ⟨w.heap.size,0,none⟩=false:=Lib.frozen_of_heap hR 0
   have f1:wr.frozen? ⟨w.heap.size,1,none⟩=false:=Lib.frozen_of_heap hR 1
   have f2:wr.frozen? ⟨w.heap.size,2,none⟩=false:=Lib.frozen_of_heap hR 2
   have f3:wr.frozen? ⟨w.heap.size,3,none⟩=false:=Lib.frozen_of_heap hR 3
   have hrz:=block_lt hR
   have HBE:=hid hbel
   have HRR:=hid hR
   clear hb hR hbel
   go_wp2
   have hb4:=((((HBE.out.setCell (p:=⟨w.heap.size,0,none⟩) (Nat.le_refl _) (.int .i64 lx)).setCell (p:=⟨w.heap.size,1,none⟩) (Nat.le_refl _) (.int .i64 ly)).setCell (p:=⟨w.heap.size,2,none⟩) (Nat.le_refl _) (.int .i64 hx)).setCell (p:=⟨w.heap.size,3,none⟩) (Nat.le_refl _) (.int .i64 hy))
   have hr4:=block_set (block_set (block_set (block_set HRR.out 0 (.int .i64 lx)) 1 (.int .i64 ly)) 2 (.int .i64 hx)) 3 (.int .i64 hy)
   generalize ((((wr.setCell ⟨w.heap.size,0,none⟩ (.int .i64 lx)).setCell ⟨w.heap.size,1,none⟩ (.int .i64 ly)).setCell ⟨w.heap.size,2,none⟩ (.int .i64 hx)).setCell ⟨w.heap.size,3,none⟩ (.int .i64 hy))=W4 at *
   have s0:W4.cell? ⟨w.heap.size,0,none⟩=some (.int .i64 lx):=by rw [Lib.cell_of_heap hr4];rfl
   have s1:W4.cell? ⟨w.heap.size,1,none⟩=some (.int .i64 ly):=by rw [Lib.cell_of_heap hr4];rfl
   have s2:W4.cell? ⟨w.heap.size,2,none⟩=some (.int .i64 hx):=by rw [Lib.cell_of_heap hr4];rfl
   have s3:W4.cell? ⟨w.heap.size,3,none⟩=some (.int .i64 hy):=by rw [Lib.cell_of_heap hr4];rfl
   rw [hfin.out]
   exact bodyPost_ret (v:=.tuple #[.agg #[.int .i64 lx,.int .i64 ly,.int .i64 hx,.int .i64 hy],.bool true]) (by simp [results,Tryz.results212,go_sem,s0,s1,s2,s3]) rfl ⟨rfl,hb4⟩
open Go Go.RowKit Go.Proofs.YtnmmhcchpcbeeaaGreat.Mem Go.Proofs.YtnmmhcchpcbeeaaGreat.Ge
attribute [local go_sem ↓] Go.wp_at_zero Go.wp_at_succ
theorem one_vec (w:World) (o:Obj):Below w.heap.size w (w.alloc o)∧(w.alloc o).heap[w.heap.size]? = some o:=⟨(Below.refl _ _).alloc (Nat.le_refl _) _,heap_alloc_new w o⟩
theorem quad_at {w w':World} {b:Nat} {x y z u:Value} {t:TypeId} (h:w.heap[b]? = some (.cells #[x,y,z,u] t (0,0))) (hb:Below w.heap.size w w'):w'.cell? ⟨b,0,none⟩=some x∧w'.cell? ⟨b,1,none⟩=some y∧w'.cell? ⟨b,2,none⟩=some z∧w'.cell? ⟨b,3,none⟩=some u:=by
 have h':=(hb.block b (lt_of_block h)).trans h
 refine ⟨?_,?_,?_,?_⟩<;>simp [World.cell?,h']
set_option maxRecDepth 100000 in
theorem segok_any (ax ay bx b_y:Int) (w:World):Calls Tryz.prog 193 #[.agg #[.int .i64 ax,.int .i64 ay,.int .i64 bx,.int .i64 b_y]] w fun e w'=>e=.returned (.bool (segOk ((ax,ay),(bx,b_y))))∧Below w.heap.size w w':=by
 have HO:=hid (one_vec w (.cells #[.int .i64 ax,.int .i64 ay,.int .i64 bx,.int .i64 b_y] 74))
 have HW1:=hid (fun W=>within_any ax ay 4000 W (by omega))
 have HW2:=hid (fun W=>within_any bx b_y 4000 W (by omega))
 unfold segOk
 simp only
 obtain ⟨x0,x1,x2,x3⟩:=quad_at HO.out.2 (Below.refl _ _)
 generalize within (bx,b_y) 4000=q2 at *
 cases hq:within (ax,ay) 4000
 ·rw [hq] at HW1
  rw [Bool.false_and]
  clear hq
  go_enter Tryz.func193,Tryz.ntmps193
  go_wp2_with fail
  refine (HW1.out _).mono ?_
  rintro e w1 ⟨rfl,hb1⟩
  go_wp2
  go_ret
  exact ⟨rfl,HO.out.1.trans (hb1.mono (Below.size HO.out.1))⟩
 ·rw [hq] at HW1
  rw [Bool.true_and]
  clear hq
  go_enter Tryz.func193,Tryz.ntmps193
  go_wp2_with fail
  refine (HW1.out _).mono ?_
  rintro e w1 ⟨rfl,hb1⟩
  have HB1:=hid hb1
  clear x0 x1 x2 x3
  obtain ⟨x0,x1,x2,x3⟩:=quad_at HO.out.2 hb1
  clear hb1
  go_wp2_with fail
  refine (HW2.out _).mono ?_
  rintro e w2 ⟨rfl,hb2⟩
  go_wp2
  go_ret
  exact ⟨rfl,HO.out.1.trans ((HB1.out.trans (hb2.mono (Below.size HB1.out))).mono (Below.size HO.out.1))⟩
set_option maxRecDepth 100000 in
theorem rsegok_any (ax ay bx b_y:Int) (w:World):Calls Tryz.prog 123 #[.agg #[.int .i64 ax,.int .i64 ay,.int .i64 bx,.int .i64 b_y]] w fun e w'=>e=.returned (.bool (segOk ((ax,ay),(bx,b_y))))∧Below w.heap.size w w':=by
 have HO:=hid (one_vec w (.cells #[.int .i64 ax,.int .i64 ay,.int .i64 bx,.int .i64 b_y] 74))
 have HW1:=hid (fun W=>rwithin_any ax ay 4000 W (by omega))
 have HW2:=hid (fun W=>rwithin_any bx b_y 4000 W (by omega))
 unfold segOk
 simp only
 obtain ⟨x0,x1,x2,x3⟩:=quad_at HO.out.2 (Below.refl _ _)
 generalize within (bx,b_y) 4000=q2 at *
 cases hq:within (ax,ay) 4000
 ·rw [hq] at HW1
  rw [Bool.false_and]
  clear hq
  go_enter Tryz.func123,Tryz.ntmps123
  go_wp2_with fail
  refine (HW1.out _).mono ?_
  rintro e w1 ⟨rfl,hb1⟩
  go_wp2
  go_ret
  exact ⟨rfl,HO.out.1.trans (hb1.mono (Below.size HO.out.1))⟩
 ·rw [hq] at HW1
  rw [Bool.true_and]
  clear hq
  go_enter Tryz.func123,Tryz.ntmps123
  go_wp2_with fail
  refine (HW1.out _).mono ?_
  rintro e w1 ⟨rfl,hb1⟩
  have HB1:=hid hb1
  clear x0 x1 x2 x3
  obtain ⟨x0,x1,x2,x3⟩:=quad_at HO.out.2 hb1
  clear hb1
  go_wp2_with fail
  refine (HW2.out _).mono ?_
  rintro e w2 ⟨rfl,hb2⟩
  go_wp2
  go_ret
  exact ⟨rfl,HO.out.1.trans ((HB1.out.trans (hb2.mono (Below.size HB1.out))).mono (Below.size HO.out.1))⟩
set_option maxRecDepth 100000 in
theorem inbox_any (lx ly hx hy x y:Int) (w:World) :
  Calls Tryz.prog 213 #[.agg #[.int .i64 lx,.int .i64 ly,.int .i64 hx,.int .i64 hy],.agg #[.int .i64 x,.int .i64 y]] w fun e w'=>e=.returned (.bool (decide (lx≤x)&&(decide (x≤hx)&&(decide (ly≤y)&&decide (y≤hy)))))∧Below w.heap.size w w':=by
 have HB:=hid (((Below.refl w.heap.size w).alloc (Nat.le_refl _) (.cells #[.int .i64 lx,.int .i64 ly,.int .i64 hx,.int .i64 hy] 206)).alloc (by simp) (.cells #[.int .i64 x,.int .i64 y] 53))
 by_cases h0:lx≤x
 case neg =>
  have d0:decide (lx≤x)=false:=decide_eq_false h0
  rw [d0]
  simp only [Bool.false_and]
  clear h0
  go_enter Tryz.func213,Tryz.ntmps213
  go_wp2
  go_ret
  exact ⟨rfl,HB.out⟩
 have d0:decide (lx≤x)=true:=decide_eq_true h0
 rw [d0]
 clear h0
 by_cases h1:x≤hx
 case neg =>
  have d1:decide (x≤hx)=false:=decide_eq_false h1
  rw [d1]
  simp only [Bool.false_and,Bool.true_and]
  clear h1
  go_enter Tryz.func213,Tryz.ntmps213
  go_wp2
  go_ret
  exact ⟨rfl,HB.out⟩
 have d1:decide (x≤hx)=true:=decide_eq_true h1
 rw [d1]
 clear h1
 by_cases h2:ly≤y
 case neg =>
  have d2:decide (ly≤y)=false:=decide_eq_false h2
  rw [d2]
  simp only [Bool.false_and,Bool.true_and]
  clear h2
  go_enter Tryz.func213,Tryz.ntmps213
  go_wp2
  go_ret
  exact ⟨rfl,HB.out⟩
 have d2:decide (ly≤y)=true:=decide_eq_true h2
 rw [d2]
 clear h2
 by_cases h3:y≤hy
 case neg =>
  have d3:decide (y≤hy)=false:=decide_eq_false h3
  rw [d3]
  simp only [Bool.true_and]
  clear h3
  go_enter Tryz.func213,Tryz.ntmps213
  go_wp2
  go_ret
  exact ⟨rfl,HB.out⟩
 have d3:decide (y≤hy)=true:=decide_eq_true h3
 rw [d3]
 clear h3
 simp only [Bool.true_and]
 go_enter Tryz.func213,Tryz.ntmps213
 go_wp2
 go_ret
 exact ⟨rfl,HB.out⟩
end Go.Proofs.YtnmmhcchpcbeeaaGreat.GeW

namespace Go.Proofs.YtnmmhcchpcbeeaaGreat.Ge
open Lib (hid)
theorem box_two (a b:V):box [a,b]=⟨min a.1 b.1,min a.2 b.2,max a.1 b.1,max a.2 b.2⟩:=by
 simp [box,bstep]
theorem within_in {a:V} {m:Int} (h:within a m=true):(-m≤a.1∧a.1≤m)∧(-m≤a.2∧a.2≤m):=by
 unfold within at h
 simp only [Bool.and_eq_true,decide_eq_true_eq] at h
 exact ⟨⟨h.1,h.2.1⟩,h.2.2⟩
end Go.Proofs.YtnmmhcchpcbeeaaGreat.Ge
namespace Go.Proofs.YtnmmhcchpcbeeaaGreat.GeW
open Lib (hid)
open Go Go.RowKit Go.Proofs.YtnmmhcchpcbeeaaGreat.Mem Go.Proofs.YtnmmhcchpcbeeaaGreat.Ge
attribute [local go_sem ↓] Go.wp_at_zero Go.wp_at_succ
theorem size_two (w:World) (o1 o2:Obj):((w.alloc o1).alloc o2).heap.size=w.heap.size+1+1:=by simp
theorem pts_row {w:World} {b:Nat} {ax ay bx b_y:Int} {t:TypeId} (h:w.heap[b]? = some (.cells #[.int .i64 ax,.int .i64 ay,.int .i64 bx,.int .i64 b_y] t (0,0))):Row w (some ⟨b,0,none⟩) ([(ax,ay),(bx,b_y)].flatMap ptCells):=by
 intro _
 refine ⟨b,0,rfl,lt_of_block h,fun j hj=>?_⟩
 have hj4:j < 4:=hj
 obtain ⟨x0,x1,x2,x3⟩:=quad_at h (Below.refl _ _)
 rw [Nat.zero_add]
 match j,hj4 with
 | 0,_=>exact x0
 | 1,_=>exact x1
 | 2,_=>exact x2
 | 3,_=>exact x3
set_option maxRecDepth 100000 in
set_option maxHeartbeats 2000000 in
theorem on_any (ax ay bx b_y x y:Int) (w:World) :
  Calls Tryz.prog 195 #[.agg #[.int .i64 ax,.int .i64 ay,.int .i64 bx,.int .i64 b_y],.agg #[.int .i64 x,.int .i64 y]] w fun e w'=>e=.returned (.bool (on ((ax,ay),(bx,b_y)) (x,y)))∧Below w.heap.size w w':=by
 have HX:Hid (((w.alloc (.cells #[.int .i64 ax,.int .i64 ay,.int .i64 bx,.int .i64 b_y] 74)).alloc (.cells #[.int .i64 x,.int .i64 y] 53)).heap[w.heap.size]? = some (.cells #[.int .i64 ax,.int .i64 ay,.int .i64 bx,.int .i64 b_y] 74)∧((w.alloc (.cells #[.int .i64 ax,.int .i64 ay,.int .i64 bx,.int .i64 b_y] 74)).alloc (.cells #[.int .i64 x,.int .i64 y] 53)).heap[w.heap.size+1]? = some (.cells #[.int .i64 x,.int .i64 y] 53)):=hid (two_vecs w _ _)
 have HB:=hid (((Below.refl w.heap.size w).alloc (Nat.le_refl _) (.cells #[.int .i64 ax,.int .i64 ay,.int .i64 bx,.int .i64 b_y] 74)).alloc (by simp) (.cells #[.int .i64 x,.int .i64 y] 53))
 have HBO0:=hid (boxOf_any [(ax,ay),(bx,b_y)] (some ⟨w.heap.size+1+1,0,none⟩) 2 (((w.alloc (.cells #[.int .i64 ax,.int .i64 ay,.int .i64 bx,.int .i64 b_y] 74)).alloc (.cells #[.int .i64 x,.int .i64 y] 53)).alloc (.cells #[.int .i64 ax,.int .i64 ay,.int .i64 bx,.int .i64 b_y] 53)) (pts_row (t := 53) (by have h:=heap_alloc_new ((w.alloc (.cells #[.int .i64 ax,.int .i64 ay,.int .i64 bx,.int .i64 b_y] 74)).alloc (.cells #[.int .i64 x,.int .i64 y] 53)) (.cells #[.int .i64 ax,.int .i64 ay,.int .i64 bx,.int .i64 b_y] 53);rw [size_two] at h;exact h)) (by simp) (by simp))
 have HSV:=hid (fun W=>segok_any ax ay bx b_y W)
 have HIB0:=hid (fun W=>inbox_any (min ax bx) (min ay b_y) (max ax bx) (max ay b_y) x y W)
 have HON:Hid (on ((ax,ay),(bx,b_y)) (x,y)=(segOk ((ax,ay),(bx,b_y))&&((decide (min ax bx≤x)&&(decide (x≤max ax bx)&&(decide (min ay b_y≤y)&&decide (y≤max ay b_y))))&&decide (turn (ax,ay) (bx,b_y) (x,y)=0)))):=hid rfl
 rw [HON.out]
 rw [box_two] at HBO0
 unfold boxV at HBO0
 have HTU0:Hid (segOk ((ax,ay),(bx,b_y))=true→(decide (min ax bx≤x)&&(decide (x≤max ax bx)&&(decide (min ay b_y≤y)&&decide (y≤max ay b_y))))=true→∀ W,Calls Tryz.prog 130 #[.agg #[.int .i64 ax,.int .i64 ay],.agg #[.int .i64 bx,.int .i64 b_y],.agg #[.int .i64 x,.int .i64 y]] W fun e w'=>e=.returned (.int .i64 (turn (ax,ay) (bx,b_y) (x,y)))∧Below W.heap.size W w'):=hid (fun h1 h2 W=>by
  unfold segOk at h1
  simp only [Bool.and_eq_true] at h1
  obtain ⟨⟨a1,a2⟩,a3,a4⟩:=within_in h1.1
  obtain ⟨⟨b1,b2⟩,b3,b4⟩:=within_in h1.2
  simp only [Bool.and_eq_true,decide_eq_true_eq] at h2
  simp only at a1 a2 a3 a4 b1 b2 b3 b4
  exact turn_any ax ay bx b_y x y W (by omega) (by omega) (by omega) (by omega) (by omega) (by omega))
 obtain ⟨s0,s1,s2,s3⟩:=quad_at HX.out.1 (Below.refl _ _)
 clear HON
 generalize turn (ax,ay) (bx,b_y) (x,y)=tn at *
 generalize segOk ((ax,ay),(bx,b_y))=q1 at *
 generalize (decide (min ax bx≤x)&&(decide (x≤max ax bx)&&(decide (min ay b_y≤y)&&decide (y≤max ay b_y))))=q2 at *
 generalize min ax bx=lx at *
 generalize min ay b_y=ly at *
 generalize max ax bx=hx at *
 generalize max ay b_y=hy at *
 have HBO:=hid HBO0.out
 have HIB:=hid (fun W=>HIB0.out W)
 clear HBO0 HIB0
 cases q1
 ·rw [Bool.false_and]
  clear HTU0
  go_enter Tryz.func195,Tryz.ntmps195
  go_wp2_with fail
  generalize (w.alloc (.cells #[.int .i64 ax,.int .i64 ay,.int .i64 bx,.int .i64 b_y] 74)).alloc (.cells #[.int .i64 x,.int .i64 y] 53)=W at *
  refine HBO.out.mono ?_
  rintro e w1 ⟨rfl,hb10⟩
  have hb1:=(one_vec W (.cells #[.int .i64 ax,.int .i64 ay,.int .i64 bx,.int .i64 b_y] 53)).1.trans (hb10.mono (Below.size (one_vec W (.cells #[.int .i64 ax,.int .i64 ay,.int .i64 bx,.int .i64 b_y] 53)).1))
  have HB1:=hid hb1
  have HO1:=hid (one_vec w1 (.cells #[.int .i64 lx,.int .i64 ly,.int .i64 hx,.int .i64 hy] 206))
  clear hb10 hb1 s0 s1 s2 s3
  go_upto_region 2 with fail
  generalize w1.alloc (.cells #[.int .i64 lx,.int .i64 ly,.int .i64 hx,.int .i64 hy] 206)=W1 at *
  have HB2:=hid (HB1.out.trans (HO1.out.1.mono (Below.size HB1.out)))
  obtain ⟨s0,s1,s2,s3⟩:=quad_at HX.out.1 HB2.out
  obtain ⟨p0,p1⟩:=pair_at HX.out.2 HB2.out
  obtain ⟨y0,y1,y2,y3⟩:=quad_at HO1.out.2 (Below.refl _ _)
  go_wp2_with fail
  refine (HSV.out _).mono ?_
  rintro e w2 ⟨rfl,hb2⟩
  have HB3:=hid (HB2.out.trans (hb2.mono (Below.size HB2.out)))
  have HY:=hid (quad_at HO1.out.2 hb2)
  clear hb2 s0 s1 s2 s3 p0 p1 y0 y1 y2 y3
  go_wp2
  go_ret
  exact ⟨rfl,HB.out.trans (HB3.out.mono (Below.size HB.out))⟩
 ·rw [Bool.true_and]
  cases q2
  ·rw [Bool.false_and]
   clear HTU0
   go_enter Tryz.func195,Tryz.ntmps195
   go_wp2_with fail
   generalize (w.alloc (.cells #[.int .i64 ax,.int .i64 ay,.int .i64 bx,.int .i64 b_y] 74)).alloc (.cells #[.int .i64 x,.int .i64 y] 53)=W at *
   refine HBO.out.mono ?_
   rintro e w1 ⟨rfl,hb10⟩
   have hb1:=(one_vec W (.cells #[.int .i64 ax,.int .i64 ay,.int .i64 bx,.int .i64 b_y] 53)).1.trans (hb10.mono (Below.size (one_vec W (.cells #[.int .i64 ax,.int .i64 ay,.int .i64 bx,.int .i64 b_y] 53)).1))
   have HB1:=hid hb1
   have HO1:=hid (one_vec w1 (.cells #[.int .i64 lx,.int .i64 ly,.int .i64 hx,.int .i64 hy] 206))
   clear hb10 hb1 s0 s1 s2 s3
   go_upto_region 2 with fail
   generalize w1.alloc (.cells #[.int .i64 lx,.int .i64 ly,.int .i64 hx,.int .i64 hy] 206)=W1 at *
   have HB2:=hid (HB1.out.trans (HO1.out.1.mono (Below.size HB1.out)))
   obtain ⟨s0,s1,s2,s3⟩:=quad_at HX.out.1 HB2.out
   obtain ⟨p0,p1⟩:=pair_at HX.out.2 HB2.out
   obtain ⟨y0,y1,y2,y3⟩:=quad_at HO1.out.2 (Below.refl _ _)
   go_wp2_with fail
   refine (HSV.out _).mono ?_
   rintro e w2 ⟨rfl,hb2⟩
   have HB3:=hid (HB2.out.trans (hb2.mono (Below.size HB2.out)))
   have HY:=hid (quad_at HO1.out.2 hb2)
   clear hb2 s0 s1 s2 s3 p0 p1 y0 y1 y2 y3
   obtain ⟨y0,y1,y2,y3⟩:=HY.out
   obtain ⟨p0,p1⟩:=pair_at HX.out.2 HB3.out
   go_wp2_with fail
   refine (HIB.out _).mono ?_
   rintro e w3 ⟨rfl,hb3⟩
   have HB4:=hid (HB3.out.trans (hb3.mono (Below.size HB3.out)))
   clear hb3 y0 y1 y2 y3 p0 p1
   go_wp2
   go_ret
   exact ⟨rfl,HB.out.trans (HB4.out.mono (Below.size HB.out))⟩
  ·rw [Bool.true_and]
   have HTU:=hid (HTU0.out rfl rfl)
   clear HTU0
   by_cases ht:tn=0
   ·have t2:decide (tn=0)=true:=decide_eq_true ht
    rw [t2]
    clear t2
    subst ht
    go_enter Tryz.func195,Tryz.ntmps195
    go_wp2_with fail
    generalize (w.alloc (.cells #[.int .i64 ax,.int .i64 ay,.int .i64 bx,.int .i64 b_y] 74)).alloc (.cells #[.int .i64 x,.int .i64 y] 53)=W at *
    refine HBO.out.mono ?_
    rintro e w1 ⟨rfl,hb10⟩
    have hb1:=(one_vec W (.cells #[.int .i64 ax,.int .i64 ay,.int .i64 bx,.int .i64 b_y] 53)).1.trans (hb10.mono (Below.size (one_vec W (.cells #[.int .i64 ax,.int .i64 ay,.int .i64 bx,.int .i64 b_y] 53)).1))
    have HB1:=hid hb1
    have HO1:=hid (one_vec w1 (.cells #[.int .i64 lx,.int .i64 ly,.int .i64 hx,.int .i64 hy] 206))
    clear hb10 hb1 s0 s1 s2 s3
    go_upto_region 2 with fail
    generalize w1.alloc (.cells #[.int .i64 lx,.int .i64 ly,.int .i64 hx,.int .i64 hy] 206)=W1 at *
    have HB2:=hid (HB1.out.trans (HO1.out.1.mono (Below.size HB1.out)))
    obtain ⟨s0,s1,s2,s3⟩:=quad_at HX.out.1 HB2.out
    obtain ⟨p0,p1⟩:=pair_at HX.out.2 HB2.out
    obtain ⟨y0,y1,y2,y3⟩:=quad_at HO1.out.2 (Below.refl _ _)
    go_wp2_with fail
    refine (HSV.out _).mono ?_
    rintro e w2 ⟨rfl,hb2⟩
    have HB3:=hid (HB2.out.trans (hb2.mono (Below.size HB2.out)))
    have HY:=hid (quad_at HO1.out.2 hb2)
    clear hb2 s0 s1 s2 s3 p0 p1 y0 y1 y2 y3
    obtain ⟨y0,y1,y2,y3⟩:=HY.out
    obtain ⟨p0,p1⟩:=pair_at HX.out.2 HB3.out
    go_wp2_with fail
    refine (HIB.out _).mono ?_
    rintro e w3 ⟨rfl,hb3⟩
    have HB4:=hid (HB3.out.trans (hb3.mono (Below.size HB3.out)))
    clear hb3 y0 y1 y2 y3 p0 p1
    obtain ⟨s0,s1,s2,s3⟩:=quad_at HX.out.1 HB4.out
    obtain ⟨p0,p1⟩:=pair_at HX.out.2 HB4.out
    go_wp2_with fail
    refine (HTU.out _).mono ?_
    rintro e w4 ⟨rfl,hb4⟩
    have HB5:=hid (HB4.out.trans (hb4.mono (Below.size HB4.out)))
    clear hb4
    go_wp2
    go_ret
    exact ⟨rfl,HB.out.trans (HB5.out.mono (Below.size HB.out))⟩
   ·have t1:(tn == 0)=false:=beq_eq_false_iff_ne.2 ht
    have t2:decide (tn=0)=false:=decide_eq_false ht
    have t3:(tn=0)=False:=eq_false ht
    rw [t2]
    clear ht t2
    go_enter Tryz.func195,Tryz.ntmps195
    go_wp2_with fail
    generalize (w.alloc (.cells #[.int .i64 ax,.int .i64 ay,.int .i64 bx,.int .i64 b_y] 74)).alloc (.cells #[.int .i64 x,.int .i64 y] 53)=W at *
    refine HBO.out.mono ?_
    rintro e w1 ⟨rfl,hb10⟩
    have hb1:=(one_vec W (.cells #[.int .i64 ax,.int .i64 ay,.int .i64 bx,.int .i64 b_y] 53)).1.trans (hb10.mono (Below.size (one_vec W (.cells #[.int .i64 ax,.int .i64 ay,.int .i64 bx,.int .i64 b_y] 53)).1))
    have HB1:=hid hb1
    have HO1:=hid (one_vec w1 (.cells #[.int .i64 lx,.int .i64 ly,.int .i64 hx,.int .i64 hy] 206))
    clear hb10 hb1 s0 s1 s2 s3
    go_upto_region 2 with fail
    generalize w1.alloc (.cells #[.int .i64 lx,.int .i64 ly,.int .i64 hx,.int .i64 hy] 206)=W1 at *
    have HB2:=hid (HB1.out.trans (HO1.out.1.mono (Below.size HB1.out)))
    obtain ⟨s0,s1,s2,s3⟩:=quad_at HX.out.1 HB2.out
    obtain ⟨p0,p1⟩:=pair_at HX.out.2 HB2.out
    obtain ⟨y0,y1,y2,y3⟩:=quad_at HO1.out.2 (Below.refl _ _)
    go_wp2_with fail
    refine (HSV.out _).mono ?_
    rintro e w2 ⟨rfl,hb2⟩
    have HB3:=hid (HB2.out.trans (hb2.mono (Below.size HB2.out)))
    have HY:=hid (quad_at HO1.out.2 hb2)
    clear hb2 s0 s1 s2 s3 p0 p1 y0 y1 y2 y3
    obtain ⟨y0,y1,y2,y3⟩:=HY.out
    obtain ⟨p0,p1⟩:=pair_at HX.out.2 HB3.out
    go_wp2_with fail
    refine (HIB.out _).mono ?_
    rintro e w3 ⟨rfl,hb3⟩
    have HB4:=hid (HB3.out.trans (hb3.mono (Below.size HB3.out)))
    clear hb3 y0 y1 y2 y3 p0 p1
    obtain ⟨s0,s1,s2,s3⟩:=quad_at HX.out.1 HB4.out
    obtain ⟨p0,p1⟩:=pair_at HX.out.2 HB4.out
    go_wp2_with fail
    refine (HTU.out _).mono ?_
    rintro e w4 ⟨rfl,hb4⟩
    have HB5:=hid (HB4.out.trans (hb4.mono (Below.size HB4.out)))
    clear hb4
    go_wp2
    go_ret
    exact ⟨rfl,HB.out.trans (HB5.out.mono (Below.size HB.out))⟩
attribute [local go_sem ↓] Go.wp_at_zero Go.wp_at_succ
theorem tmod_abs (a b:Int) (h:b≠0):(a.tmod b).natAbs < b.natAbs:=by
 rw [Int.natAbs_tmod]
 exact Nat.mod_lt _ (by omega)
set_option maxRecDepth 100000 in
set_option maxHeartbeats 1000000 in
theorem divisor_any (a b:Int) (w:World) (ha:a.natAbs≤1000000000000000) (hb:b.natAbs≤1000000000000000) (hne:a≠0∨b≠0) :
  Calls Tryz.prog 199 #[.int .i64 a,.int .i64 b] w fun e w'=>(∃ g:Int,e=.returned (.int .i64 g)∧1≤g∧g≤1000000000000000)∧Below w.heap.size w w':=by
 go_enter Tryz.func199,Tryz.ntmps199
 go_wp2
 go_loopw [0,1] (fun u v wr=>∃ x y:Int,u=.int .i64 x∧v=.int .i64 y∧Hid (x.natAbs≤1000000000000000∧y.natAbs≤1000000000000000∧(x≠0∨y≠0))∧Hid (Below w.heap.size w wr)) (fun _ v _=>(intOf v).natAbs)
 case atStart=>exact ⟨a,b,rfl,rfl,hid ⟨ha,hb,hne⟩,hid (Below.refl _ _)⟩
 case round =>
  obtain ⟨x,y,rfl,rfl,HX,HB⟩:=hrel
  clear ha hb hne
  by_cases hy:y=0
  ·subst hy
   have hx0:x≠0:=by
    rcases HX.out.2.2 with h | h
    ·exact h
    ·exact absurd rfl h
   obtain ⟨h1,_,_⟩:=HX.out
   have hxb : -1000000000000000≤x∧x≤1000000000000000:=by omega
   go_wp2
   go_ret
   exact ⟨⟨_,rfl,by omega,by omega⟩,HB.out⟩
  ·have HM:=hid (tmod_abs x y hy)
   obtain ⟨h1,h2,_⟩:=HX.out
   have hy1:(y != 0)=true:=bne_iff_ne.2 hy
   have hy2:(y=0)=False:=eq_false hy
   go_wp2
   go_region
   all_goals
    go_roundw
    case rel=>exact ⟨_,_,_,_,_,_,_,_,⟨y,x.tmod y,rfl,rfl,hid ⟨h2,by have:=HM.out;omega,.inl hy⟩,hid (below_drew HB.out)⟩,rfl⟩
    case measure=>simpa [intOf] using HM.out
theorem pointOf_any (x y:Int) (w:World) :
  Calls Tryz.prog 115 #[.agg #[.int .i64 x,.int .i64 y]] w fun e w'=>e=.returned (.agg #[.int .i64 x,.int .i64 y,.int .i64 1])∧Below w.heap.size w w':=by
 go_enter Tryz.func115,Tryz.ntmps115
 go_wp2
 refine bodyPost_ret (v:=.agg #[.int .i64 x,.int .i64 y,.int .i64 1]) (by simp [results,Tryz.results115,go_sem]) rfl ⟨rfl,?_⟩
 exact ((Below.refl _ _).alloc (Nat.le_refl _) _).alloc (by simp) _
theorem oct_at {w w':World} {b:Nat} {a0 a1 a2 a3 a4 a5 a6 a7:Value} {t:TypeId} (h:w.heap[b]? = some (.cells #[a0,a1,a2,a3,a4,a5,a6,a7] t (0,0))) (hb:Below w.heap.size w w') :
  (w'.cell? ⟨b,0,none⟩=some a0∧w'.cell? ⟨b,1,none⟩=some a1∧w'.cell? ⟨b,2,none⟩=some a2∧w'.cell? ⟨b,3,none⟩=some a3∧w'.cell? ⟨b,4,none⟩=some a4∧w'.cell? ⟨b,5,none⟩=some a5∧w'.cell? ⟨b,6,none⟩=some a6∧w'.cell? ⟨b,7,none⟩=some a7)∧(∀ j,w'.frozen? ⟨b,j,none⟩=false)∧b < w'.heap.size:=by
 have h':=(hb.block b (lt_of_block h)).trans h
 refine ⟨⟨?_,?_,?_,?_,?_,?_,?_,?_⟩,fun j=>by simp [World.frozen?,h'],lt_of_block h'⟩<;>simp [World.cell?,h']
/-- What two segments have in common, of a kind. -/
def Common (k:Int) (v:Value):Prop:=∃ a b c d e f g:Int,v=.agg #[.int .i64 k,.int .i64 a,.int .i64 b,.int .i64 c,.int .i64 d,.int .i64 e,.int .i64 f,.int .i64 g]
set_option maxRecDepth 100000 in
theorem single_any (x y:Int) (w:World) :
  Calls Tryz.prog 196 #[.agg #[.int .i64 x,.int .i64 y]] w fun e w'=>(∃ v,e=.returned v∧Common 1 v)∧Below w.heap.size w w':=by
 have HP:=hid (fun W=>pointOf_any x y W)
 have HX:=hid (two_vecs w (.cells #[.int .i64 x,.int .i64 y] 53) (.cells #[.int .i64 0,.int .i64 0,.int .i64 0,.int .i64 0,.int .i64 0,.int .i64 0,.int .i64 0,.int .i64 0] 160))
 have HB:=hid (((Below.refl w.heap.size w).alloc (Nat.le_refl _) (.cells #[.int .i64 x,.int .i64 y] 53)).alloc (by simp) (.cells #[.int .i64 0,.int .i64 0,.int .i64 0,.int .i64 0,.int .i64 0,.int .i64 0,.int .i64 0,.int .i64 0] 160))
 go_enter Tryz.func196,Tryz.ntmps196
 go_wp2_with fail
 refine (HP.out _).mono ?_
 rintro e w1 ⟨rfl,hb1⟩
 obtain ⟨⟨c0,c1,c2,c3,c4,c5,c6,c7⟩,hf,hz⟩:=oct_at HX.out.2 hb1
 have f0:=hf 0
 have f1:=hf 1
 have f2:=hf 2
 have f3:=hf 3
 have f4:=hf 4
 have f5:=hf 5
 have f6:=hf 6
 have f7:=hf 7
 have HB1:=hid (HB.out.trans (hb1.mono (Below.size HB.out)))
 clear hf hb1
 go_wp2
 refine bodyPost_ret (v:=.agg #[.int .i64 1,.int .i64 x,.int .i64 y,.int .i64 1,.int .i64 0,.int .i64 0,.int .i64 0,.int .i64 0]) (by simp [results,Tryz.results196,go_sem,c0,c1,c2,c3,c4,c5,c6,c7]) rfl ⟨⟨_,rfl,_,_,_,_,_,_,_,rfl⟩,?_⟩
 exact (((((((HB1.out.setCell (by simp) _).setCell (by simp) _).setCell (by simp) _).setCell (by simp) _).setCell (by simp) _).setCell (by simp) _).setCell (by simp) _).setCell (by simp) _
end Go.Proofs.YtnmmhcchpcbeeaaGreat.GeW
