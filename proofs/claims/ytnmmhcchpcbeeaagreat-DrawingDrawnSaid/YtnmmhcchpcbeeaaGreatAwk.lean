/- Walk: what each law of the chapter checks first: the example of the document. Conditions: none. -/
import Derived.Test.YtnmmhcchpcbeeaaGreatRgW
import Derived.Test.YtnmmhcchpcbeeaaGreatRf6

namespace Go.Proofs.YtnmmhcchpcbeeaaGreat.GeW
open Lib (hid)
open Go Go.RowKit Go.Proofs.YtnmmhcchpcbeeaaGreat.Mem Go.Proofs.YtnmmhcchpcbeeaaGreat.Ge
def exV:List EntV:=exD.map fun e=>⟨e,none,0⟩
def exCells:Array Value:=(exV.flatMap entVals).toArray
theorem ex_cells:exCells=#[.int .i64 1,.string ⟨#[99,117,116]⟩,.int .i64 0,.int .i64 0,.int .i64 4,.int .i64 0,.int .i64 0,.int .i64 0,.int .i64 0,.int .i64 0,.int .i64 0,.int .i64 0,.bool false,.slice none 0 0,
 .int .i64 1,.string ⟨#[99,117,116]⟩,.int .i64 4,.int .i64 4,.int .i64 4,.int .i64 0,.int .i64 0,.int .i64 0,.int .i64 0,.int .i64 0,.int .i64 0,.int .i64 0,.bool false,.slice none 0 0,
 .int .i64 1,.string ⟨#[99,117,116]⟩,.int .i64 4,.int .i64 4,.int .i64 0,.int .i64 0,.int .i64 0,.int .i64 0,.int .i64 0,.int .i64 0,.int .i64 0,.int .i64 0,.bool false,.slice none 0 0]:=by rfl
theorem row_block {w:World} {g:Nat} {cs:Array Value} {T:TypeId} (h:w.heap[g]? = some (.cells cs T (0,0))):Row w (some ⟨g,0,none⟩) cs.toList:=fun _ =>
 ⟨g,0,rfl,(Array.getElem?_eq_some_iff.1 h).1,fun j _=>by simp [World.cell?,h]⟩
theorem ex_ents (w:World) (T:TypeId):Ents (w.alloc (.cells exCells T)) (some ⟨w.heap.size,0,none⟩) exV:=by
 refine ⟨?_,?_,by decide⟩
 ·have:=row_block (one_vec w (.cells exCells T)).2
  simpa [exCells] using this
 ·intro x hx
  unfold exV at hx
  obtain ⟨e,he,rfl⟩:=List.mem_map.1 hx
  have:e.pts=[]∧e.layer.length=3:=by
   simp only [exD,List.mem_cons,List.not_mem_nil,or_false] at he
   rcases he with rfl | rfl | rfl<;>exact ⟨rfl,rfl⟩
  refine ⟨by rw [this.1];exact Row.nil _ _,by rw [this.1];simp,by rw [this.1];simp,by rw [this.2];decide⟩
theorem ex_rings_any (w:World) (A:Option Addr) (h:Ents w A exV) (c:Nat):Calls Tryz.prog 15 #[.slice A 3 c,.string ⟨#[99,117,116]⟩,.int .i64 1] w fun e w'=>(∃ (g c:Nat) (v:Option Addr×Nat),e=.returned (.tuple #[.slice (some ⟨g,0,none⟩) 1 c,.int .i64 0])∧w'.cell? ⟨g,0,none⟩=some (.slice v.1 3 v.2)∧Row w' v.1 ([(0,0),(4,0),(4,4)].flatMap ptCells))∧Below w.heap.size w w':=by
 have h1:=rings_any exV A c w [99,117,116] 1 (fun _=>[]) h (fun x hx h2=>by
  unfold exV at hx
  obtain ⟨e,he,rfl⟩:=List.mem_map.1 hx
  simp only [exD,List.mem_cons,List.not_mem_nil,or_false] at he
  rcases he with rfl | rfl | rfl<;>cases h2)
 have he:ents exV=exD:=rfl
 rw [he,ex_rings] at h1
 refine h1.mono ?_
 rintro e w' ⟨⟨v,rfl,rs,hrs,how,hpts⟩,hb⟩
 refine ⟨?_,hb⟩
 have hl:rs.length=1:=by
  have:=congrArg List.length hrs
  simpa using this
 obtain ⟨r,rfl⟩:=List.length_eq_one_iff.1 hl
 obtain ⟨g,c',rfl,_⟩:=own_some how (by simp)
 have hr:r.l=[(0,0),(4,0),(4,4)]:=by simpa using hrs
 refine ⟨g,c',(r.A,r.k),rfl,?_,?_⟩
 ·rw [(own_cells how 0 (by simp)).1]
  show some (rowVal r)=_
  unfold rowVal
  rw [hr]
  rfl
 ·rw [← hr]
  exact (hpts r (by simp)).1.1
theorem tri_row (w:World) (T:TypeId):Row (w.alloc (.cells #[.int .i64 0,.int .i64 0,.int .i64 4,.int .i64 0,.int .i64 4,.int .i64 4] T)) (some ⟨w.heap.size,0,none⟩) (([(0,0),(4,0),(4,4)]:List V).flatMap ptCells) :=
 row_block (one_vec w (.cells #[.int .i64 0,.int .i64 0,.int .i64 4,.int .i64 0,.int .i64 4,.int .i64 4] T)).2
set_option maxRecDepth 100000 in
set_option maxHeartbeats 1000000 in
theorem awake_any (w:World):Calls Tryz.prog 8 #[] w fun e w'=>e=.returned (.bool true)∧Below w.heap.size w w':=by
 have hE:=ex_ents w 66
 have HB1:=hid (one_vec w (.cells exCells 66)).1
 rw [ex_cells] at hE HB1
 have HE:=hid hE
 have HRA:=hid (ex_rings_any _ _ hE 3)
 clear hE
 go_enter Tryz.func8,Tryz.ntmps8
 go_wp2_with fail
 refine HRA.out.mono ?_
 rintro e w2 ⟨⟨g,c,v,rfl,hc,hrow⟩,hb2⟩
 have HB2:=hid (HB1.out.trans (hb2.mono HB1.out.size))
 have HE2:=hid (HE.out.below hb2)
 have HRow:=hid hrow
 have HT:=hid (one_vec w2 (.cells #[.int .i64 0,.int .i64 0,.int .i64 4,.int .i64 0,.int .i64 4,.int .i64 4] 53)).1
 have HS:=hid (same6_any [(0,0),(4,0),(4,4)] [(0,0),(4,0),(4,4)] v.1 (some ⟨w2.heap.size,0,none⟩) v.2 3 (w2.alloc (.cells #[.int .i64 0,.int .i64 0,.int .i64 4,.int .i64 0,.int .i64 4,.int .i64 4] 53)) (HRow.out.below HT.out) (tri_row w2 _) (by decide) (by decide))
 clear hrow hb2 HE HB1 HRA
 obtain ⟨vA,vk⟩:=v
 simp only at hc
 go_wp2_with fail
 refine HS.out.mono ?_
 rintro e w4 ⟨rfl,hb4⟩
 have HB4:=hid ((HB2.out.trans (HT.out.mono HB2.out.size)).trans (hb4.mono (HB2.out.trans (HT.out.mono HB2.out.size)).size))
 have HV:=hid (drawOk_any exV _ 3 w4 ((HE2.out.below HT.out).below hb4))
 clear hb4 HS HE2 HB2 HT hc
 go_wp2_with fail
 refine HV.out.mono ?_
 rintro e w5 ⟨rfl,hb5⟩
 go_wp2
 go_ret
 rw [show drawOk (ents exV)=true from ex_ok]
 exact ⟨rfl,HB4.out.trans (hb5.mono HB4.out.size)⟩
end Go.Proofs.YtnmmhcchpcbeeaaGreat.GeW
