/- Walks: slices.SortFunc of no rings; Canonical of a shape without holes. Conditions: the shape lies in memory and is valid. -/
import Derived.Test.YtnkkcknogkgdkaaGreatDoorPaM
import Derived.Test.YtnkkcknogkgdkaaGreatDoorGeCl
import Derived.Test.YtnkkcknogkgdkaaGreatDoorSh2
import Derived.Laws.StructEq
import Derived.Deep.CutRange
import Derived.Test.YtnkkcknogkgdkaaGreatDoorSh3

namespace Go.Proofs.YtnkkcknogkgdkaaGreatDoor.PaW
open Lib (hid)
open Go Go.RowKit Go.Proofs.YtnkkcknogkgdkaaGreatDoor.Mem Go.Proofs.YtnkkcknogkgdkaaGreatDoor.Pa
open Go.Proofs.YtnkkcknogkgdkaaGreatDoor.Ge (V)
open Go.Proofs.YtnkkcknogkgdkaaGreatDoor.Lex (Tok)
open Go.Proofs.YtnkkcknogkgdkaaGreatDoor.LexW (tokCells)
attribute [local go_sem ↓] Go.wp_at_zero Go.wp_at_succ

open Go.Proofs.YtnkkcknogkgdkaaGreatDoor.GeW (ptCells clean_any info_vec)
open Go.Proofs.YtnkkcknogkgdkaaGreatDoor.Ge (cleanE cleanR)
def straight (o:Outline):Bool := !o.circle&&(decide (1≤o.steps.length)&&o.steps.all fun s => !s.arc)
def ptsOf (o:Outline):List V:=o.steps.map Step.to
theorem own_more2 {w:World} {base base':Nat} {e:TypeId} {size n:Nat} {v:Value} {xs:List Value} (h:w.ownsRow base e size v n xs) (hb:base'≤base):w.ownsRow base' e size v n xs:=by
 refine ⟨h.1,?_⟩
 rcases h.2 with h0 | ⟨g,cap,cur,hv,hbg,r⟩
 ·exact .inl h0
 ·exact .inr ⟨g,cap,cur,hv,Nat.le_trans hb hbg,r⟩
theorem below_grown2 {B:Nat} {w0 wr w1:World} {row:Option Nat} (h:Below B w0 wr) (hg:wr.grownBy w1 row) (hr:∀ k,row=some k→B≤k) (hB:B≤wr.heap.size):Below B w0 w1 :=
 ⟨hg.os.trans h.os,hg.tape.trans h.tape,hg.output.trans h.output,Nat.le_trans h.size hg.size,fun i hi=>(hg.block i (by omega) (fun e=>by have:=hr i e.symm;omega)).trans (h.block i hi)⟩
set_option maxRecDepth 100000 in
set_option maxHeartbeats 4000000 in
theorem clean_line {TS:TypeId} {base:Nat} (m:OutM) (tol:Int) (w:World) (h:OutIn TS base w m) (hs:straight m.o=true) (hl:m.o.steps.length≤1000) :
  Calls Tryz.prog 47 #[outV m.o m.A m.d,.int .i64 tol] w fun e w'=>(∃ v,e=.returned (.tuple #[v,.int .i64 (cleanE (ptsOf m.o))])∧w'.ownsRow w.heap.size 35 2 v (cleanR (ptsOf m.o)).length ((cleanR (ptsOf m.o)).flatMap ptCells))∧Below w.heap.size w w':=by
 obtain ⟨⟨ci,⟨cx,cy⟩,ra,st⟩,A,d⟩:=m
 unfold straight at hs
 simp only [Bool.and_eq_true,Bool.not_eq_true',decide_eq_true_eq] at hs
 obtain ⟨hci,h1,harc⟩:=hs
 subst hci
 obtain ⟨hr,hd,_⟩:=h
 have hr:=hr.1
 simp only at hr hd hl
 obtain ⟨g,off,rfl,hg,ca⟩:=row_get step_len (by decide) hr h1
 have HCA:=hid ca
 have HARC:Hid (∀ k (h:k < st.length),st[k].arc=false):=hid (fun k h=>by simpa using (List.all_eq_true.1 harc) st[k] (List.getElem_mem _))
 have HCL:=hid (fun l A c W hr hl=>clean_any l A c W hr hl)
 obtain ⟨pts,HPTS⟩:∃ pts,Hid (ptsOf ⟨false,(cx,cy),ra,st⟩=pts):=⟨_,hid rfl⟩
 have HLEN:Hid (pts.length=st.length):=hid (by rw [← HPTS.out];simp [ptsOf])
 have HPG:Hid (∀ k (h:k < st.length),pts[k]? = some st[k].to):=hid (fun k h=>by rw [← HPTS.out];simp [ptsOf,h])
 rw [HPTS.out]
 unfold outV
 simp only
 clear hr harc ca HPTS
 have HOB:=hid (heap_new w (.cells #[.bool false,.int .i64 cx,.int .i64 cy,.int .i64 ra,.slice (some ⟨g,off,none⟩) st.length d] 55))
 have HB1:=hid (bel1 w (.cells #[.bool false,.int .i64 cx,.int .i64 cy,.int .i64 ra,.slice (some ⟨g,off,none⟩) st.length d] 55))
 have a1:=HCA.out 0 h1 1 (by decide)
 have a2:=HCA.out 0 h1 2 (by decide)
 have HP1:Hid (pts.take 1=[(st[0].to.1,st[0].to.2)]):=hid (by
  have:=HPG.out 0 h1
  rw [List.take_one,List.head?_eq_getElem?,this]
  rfl)
 have hgs:(w.alloc (.cells #[.bool false,.int .i64 cx,.int .i64 cy,.int .i64 ra,.slice (some ⟨g,off,none⟩) st.length d] 55)).heap.size=w.heap.size+1:=by simp
 have HA1:=hid ((HB1.out.cell (p:=⟨g,off+0*6+1,none⟩) hg).trans a1)
 have HA2:=hid ((HB1.out.cell (p:=⟨g,off+0*6+2,none⟩) hg).trans a2)
 clear a1 a2
 simp only [stepCells,List.getElem?_cons_zero,List.getElem?_cons_succ,Nat.zero_mul,Nat.add_zero] at HA1 HA2
 generalize st[0].to.1=px at *
 generalize st[0].to.2=py at *
 go_enter Tryz.func47,Tryz.ntmps47
 go_upto_region 1 with fail
 have HZ1:=hid hgs
 clear hgs
 generalize w.alloc (.cells #[.bool false,.int .i64 cx,.int .i64 cy,.int .i64 ra,.slice (some ⟨g,off,none⟩) st.length d] 55)=w1 at *
 have o0:=cell_of HOB.out 0 _ rfl
 have o4:=cell_of HOB.out 4 _ rfl
 have c1:=HA1.out
 have c2:=HA2.out
 have hn1:(0:Int) < (st.length:Int):=by omega
 have q1:1≤st.length:=h1
 have q2:(1:Int)≤(st.length:Int):=by omega
 have q4:1≤d:=by omega
 by_cases hd1:d=1
 ·subst hd1
  have HOW0:Hid ((w1.alloc (.cells #[.int .i64 px,.int .i64 py] 35)).ownsRow (w.heap.size+1) 35 2 (.slice (some ⟨w1.heap.size,0,none⟩) 1 1) 1 ((pts.take 1).flatMap ptCells)):=hid (by
   rw [HP1.out]
   exact World.ownsRow_lit w1 #[.int .i64 px,.int .i64 py] 1 (by have:=blk_lt HOB.out;omega) (by decide) rfl)
  have HB2:=hid (HB1.out.trans ((bel1 w1 (.cells #[.int .i64 px,.int .i64 py] 35)).mono HB1.out.size))
  have hz1:=HZ1.out
  rw [hz1] at HOW0
  go_upto_region 5 with fail
  clear o0 o4 c1 c2 hn1 hz1
  generalize w1.alloc (.cells #[.int .i64 px,.int .i64 py] 35)=W0 at *
  obtain ⟨i0,ia,ib,ic,id⟩:=info_parts info_vec
  go_loopw [6,8,31] (fun vl _ vi wr=>∃ (k:Nat) (B:Option Addr) (dd:Nat),vi=.int .i64 (k:Int)∧k≤0∧vl=.slice B (k+1) dd∧Hid (wr.ownsRow (w.heap.size+1) 35 2 (.slice B (k+1) dd) (k+1) ((pts.take (k+1)).flatMap ptCells))∧Hid (Below w.heap.size w wr)) (fun _ _ vi _=>0 - (intOf vi).toNat)
  case atStart=>exact ⟨0,_,_,rfl,Nat.zero_le _,rfl,HOW0,HB2⟩
  case round =>
   obtain ⟨k,B,dd,rfl,hk,rfl,HOW,HB⟩:=hrel
   have hk0:k=0:=by omega
   subst hk0
   have HPE:Hid (pts.take (0+1)=pts):=hid (List.take_of_length_le (by have:=HLEN.out;omega))
   have HKL:Hid (pts.length=0+1):=hid (by have:=HLEN.out;omega)
   have HRC:=hid (HCL.out pts B dd wr (by have:=Row.of_own HOW.out;rw [HPE.out] at this;exact this) (by have:=HKL.out;omega))
   rw [HKL.out] at HRC
   go_wp2_with fail
   refine HRC.out.mono ?_
   rintro e w9 ⟨⟨v,rfl,hown⟩,hb⟩
   have HO9:=hid (own_more2 hown (Nat.le_trans HB.out.size (Nat.le_refl _)))
   have HB9:=hid (HB.out.trans (hb.mono HB.out.size))
   clear hown hb
   go_wp2
   refine bodyPost_ret (v:=.tuple #[v,.int .i64 (cleanE pts)]) (by simp [results,Tryz.results47,go_sem]) rfl ?_
   exact ⟨⟨v,rfl,HO9.out⟩,HB9.out⟩
 ·have q3 : ¬ d=1:=hd1
  have HOW0:Hid ((w1.alloc (.cells #[.int .i64 px,.int .i64 py] 35)).ownsRow (w.heap.size+1) 35 2 (.slice (some ⟨w1.heap.size,0,none⟩) 1 1) 1 ((pts.take 1).flatMap ptCells)):=hid (by
   rw [HP1.out]
   exact World.ownsRow_lit w1 #[.int .i64 px,.int .i64 py] 1 (by have:=blk_lt HOB.out;omega) (by decide) rfl)
  have HB2:=hid (HB1.out.trans ((bel1 w1 (.cells #[.int .i64 px,.int .i64 py] 35)).mono HB1.out.size))
  have hz1:=HZ1.out
  rw [hz1] at HOW0
  go_upto_region 5 with fail
  clear o0 o4 c1 c2 hn1 hz1
  generalize w1.alloc (.cells #[.int .i64 px,.int .i64 py] 35)=W0 at *
  obtain ⟨i0,ia,ib,ic,id⟩:=info_parts info_vec
  go_loopw [6,8,31] (fun vl _ vi wr=>∃ (k:Nat) (B:Option Addr) (dd:Nat),vi=.int .i64 (k:Int)∧k≤(st.length - 1)∧vl=.slice B (k+1) dd∧Hid (wr.ownsRow (w.heap.size+1) 35 2 (.slice B (k+1) dd) (k+1) ((pts.take (k+1)).flatMap ptCells))∧Hid (Below w.heap.size w wr)) (fun _ _ vi _=>(st.length - 1) - (intOf vi).toNat)
  case atStart=>exact ⟨0,_,_,rfl,Nat.zero_le _,rfl,HOW0,HB2⟩
  case round =>
   obtain ⟨k,B,dd,rfl,hk,rfl,HOW,HB⟩:=hrel
   by_cases hlt:k < (st.length - 1)
   ·skip
    have hcg:w.heap[g]? = wr.heap[g]?:=(HB.out.block g hg).symm
    have a0:wr.cell? ⟨g,off+6+k*6,none⟩=(stepCells (st[k+1]'(by omega)))[0]?:=by rw [World.cell?_of_block hcg.symm,← HCA.out (k+1) (by omega) 0 (by decide),show off+6+k*6=off+(k+1)*6 by omega];rfl
    have a1:wr.cell? ⟨g,off+6+k*6+1,none⟩=(stepCells (st[k+1]'(by omega)))[1]?:=by rw [World.cell?_of_block hcg.symm,← HCA.out (k+1) (by omega) 1 (by decide),show off+6+k*6=off+(k+1)*6 by omega]
    have a2:wr.cell? ⟨g,off+6+k*6+2,none⟩=(stepCells (st[k+1]'(by omega)))[2]?:=by rw [World.cell?_of_block hcg.symm,← HCA.out (k+1) (by omega) 2 (by decide),show off+6+k*6=off+(k+1)*6 by omega]
    have a3:wr.cell? ⟨g,off+6+k*6+3,none⟩=(stepCells (st[k+1]'(by omega)))[3]?:=by rw [World.cell?_of_block hcg.symm,← HCA.out (k+1) (by omega) 3 (by decide),show off+6+k*6=off+(k+1)*6 by omega]
    have a4:wr.cell? ⟨g,off+6+k*6+4,none⟩=(stepCells (st[k+1]'(by omega)))[4]?:=by rw [World.cell?_of_block hcg.symm,← HCA.out (k+1) (by omega) 4 (by decide),show off+6+k*6=off+(k+1)*6 by omega]
    have a5:wr.cell? ⟨g,off+6+k*6+5,none⟩=(stepCells (st[k+1]'(by omega)))[5]?:=by rw [World.cell?_of_block hcg.symm,← HCA.out (k+1) (by omega) 5 (by decide),show off+6+k*6=off+(k+1)*6 by omega]
    have HARK:=hid (HARC.out (k+1) (by omega))
    have HPK:Hid (pts.take (k+1+1)=pts.take (k+1)++[(st[k+1]'(by omega)).to]):=hid (by
     have h1:=HPG.out (k+1) (by omega)
     obtain ⟨h2,h3⟩:=List.getElem?_eq_some_iff.1 h1
     rw [List.take_succ_eq_append_getElem h2,h3])
    have hk1:(0:Int)≤(k:Int):=by omega
    have hk2:(k:Int) < ((st.length - 1:Nat):Int):=by omega
    generalize st[k+1]'(by omega)=sx at *
    obtain ⟨sa,⟨tx,ty⟩,⟨ux,uy⟩,cw⟩:=sx
    simp only [stepCells,List.getElem?_cons_zero,List.getElem?_cons_succ] at a0 a1 a2 a3 a4 a5
    have hsa:sa=false:=HARK.out
    subst hsa
    have HSX:=hid (heap_new wr (.cells #[.bool false,.int .i64 tx,.int .i64 ty,.int .i64 ux,.int .i64 uy,.bool cw] 153))
    have hbx:=bel1 wr (.cells #[.bool false,.int .i64 tx,.int .i64 ty,.int .i64 ux,.int .i64 uy,.bool cw] 153)
    have HBX:=hid (HB.out.trans (hbx.mono HB.out.size))
    have HOX:=hid (HOW.out.alloc (.cells #[.bool false,.int .i64 tx,.int .i64 ty,.int .i64 ux,.int .i64 uy,.bool cw] 153))
    go_upto_region 7 with fail
    clear a0 a1 a2 a3 a4 a5 hbx
    generalize wr.alloc (.cells #[.bool false,.int .i64 tx,.int .i64 ty,.int .i64 ux,.int .i64 uy,.bool cw] 153)=WX at *
    generalize wr.heap.size=xb at *
    have x0:=cell_of HSX.out 0 _ rfl
    have x1:=cell_of HSX.out 1 _ rfl
    have x2:=cell_of HSX.out 2 _ rfl
    have HOY:=hid (HOX.out.alloc (.cells #[.int .i64 tx,.int .i64 ty] 35))
    have HBY:=hid (HBX.out.trans ((bel1 WX (.cells #[.int .i64 tx,.int .i64 ty] 35)).mono HBX.out.size))
    have CN:=hid (World.news_of_block (cs:=#[.int .i64 tx,.int .i64 ty]) (t := 35) (fr:=(0,0)) (heap_new WX _))
    have C2:Hid (∀ uu∈([.int .i64 tx,.int .i64 ty]:List Value),uu.oneCell'=true):=hid (by intro uu hu;simp at hu;rcases hu with rfl | rfl<;>rfl)
    have C3:Hid (k+1+1≤maxLen∧(k+1+1)*16≤140737488355328):=hid (by unfold maxLen;omega)
    have C5:Hid (w.heap.size+1≤(WX.alloc (.cells #[.int .i64 tx,.int .i64 ty] 35)).heap.size):=hid (by have:=HBX.out.size;simp;omega)
    go_wp2_with (at_builtin;refine wpList_append_own _ rfl _ _ 44 rfl (w.heap.size+1) 35 i0 _ 2 16 Tryz.underlying44 ia ib ic id rfl (by omega) _ _ _ rfl HOY.out ⟨WX.heap.size,0,none⟩ 1 1 [.int .i64 tx,.int .i64 ty] rfl rfl CN.out C2.out C3.out.1 C3.out.2 C5.out ?_)
    intro v7 w7 hown7 hg7 _
    obtain ⟨B7,d7,rfl,_⟩:=own_shape hown7
    have HO7:Hid (w7.ownsRow (w.heap.size+1) 35 2 (.slice B7 (k+1+1) d7) (k+1+1) ((pts.take (k+1+1)).flatMap ptCells)):=hid (by
     rw [HPK.out,List.flatMap_append]
     exact hown7)
    have HB7:=hid (below_grown2 HBY.out hg7 (fun q hq=>by have:=(HOY.out.lt q hq).1;omega) HBY.out.size)
    clear hown7 hg7 x0 x1 x2
    go_wp2
    go_roundw
    case rel=>exact ⟨k+1,B7,d7,by go_num,by omega,rfl,HO7,HB7⟩
    case measure=>simp [intOf];omega
   ·skip
    have HPE:Hid (pts.take (k+1)=pts):=hid (List.take_of_length_le (by have:=HLEN.out;omega))
    have HKL:Hid (pts.length=k+1):=hid (by have:=HLEN.out;omega)
    have HRC:=hid (HCL.out pts B dd wr (by have:=Row.of_own HOW.out;rw [HPE.out] at this;exact this) (by have:=HKL.out;omega))
    rw [HKL.out] at HRC
    go_wp2_with fail
    refine HRC.out.mono ?_
    rintro e w9 ⟨⟨v,rfl,hown⟩,hb⟩
    have HO9:=hid (own_more2 hown (Nat.le_trans HB.out.size (Nat.le_refl _)))
    have HB9:=hid (HB.out.trans (hb.mono HB.out.size))
    clear hown hb
    go_wp2
    refine bodyPost_ret (v:=.tuple #[v,.int .i64 (cleanE pts)]) (by simp [results,Tryz.results47,go_sem]) rfl ?_
    exact ⟨⟨v,rfl,HO9.out⟩,HB9.out⟩
end Go.Proofs.YtnkkcknogkgdkaaGreatDoor.PaW

namespace Go.Proofs.YtnkkcknogkgdkaaGreatDoor.PaW
open Lib (hid)
open Go Go.RowKit Go.Proofs.YtnkkcknogkgdkaaGreatDoor.Mem Go.Proofs.YtnkkcknogkgdkaaGreatDoor.Pa
open Go.Proofs.YtnkkcknogkgdkaaGreatDoor.Ge (V)
open Go.Proofs.YtnkkcknogkgdkaaGreatDoor.Lex (Tok)
open Go.Proofs.YtnkkcknogkgdkaaGreatDoor.LexW (tokCells)
attribute [local go_sem ↓] Go.wp_at_zero Go.wp_at_succ

open Go.Proofs.YtnkkcknogkgdkaaGreatDoor.GeW (ptCells pt_len RowV rowVal ShapeM ShapeIn shapeVals holesL holesVal row_one ringsM)
theorem neq_vec (x y u v:Int) (w:World):(binOp .neq 35 (.agg #[.int .i64 x,.int .i64 y]) (.agg #[.int .i64 u,.int .i64 v])).run Tryz.prog w=.ok (.bool (!decide ((x,y)=(u,v)))) w:=by
 have u3:=Tryz.underlying3
 have a3:=Tryz.isAgg3
 have z3:=Tryz.sizeOf3
 have hS : Tryz.prog.underlying 35 = some (.struct (Tryz.prog.fieldsOf 35)):=by kernel_rfl
 have hp : Tryz.prog.stoodInHeld 35 = false:=by kernel_rfl
 rw [run_neq_struct,show (10000:Nat)=9999+1 from rfl,run_equalIn_agg w 9999 35 _ _ hS hp]
 simp only [Program.fieldsOf,Tryz.underlying35]
 go_simp
 by_cases h1:x=u<;>by_cases h2:y=v<;>simp [h1,h2]
set_option maxRecDepth 100000 in
theorem cloneI_any (l:List Int) (A:Option Addr) (c:Nat) (w:World) (hr:Row w A (l.map (Value.int .i64))) (hl:l.length≤1000000) :
  Calls Tryz.prog 49 #[.slice A l.length c] w fun e w'=>(∃ v,e=.returned v∧w'.ownsRow w.heap.size 3 1 v l.length (l.map (Value.int .i64)))∧Below w.heap.size w w':=by
 have HR:=hid hr
 obtain ⟨i0,ia,ib,ic,id⟩:=info_parts info_int
 have hnil:=fun (W:World)=>Lib.run_eql_slice_nil (P:=Tryz.prog) W 33 3 A l.length c 0 0 Tryz.underlying33
 rcases A with _ | ad
 ·have h0:l=[]:=by
   rcases l with _ | ⟨a,r⟩
   ·rfl
   ·obtain ⟨g,off,hg,_⟩:=hr (by simp)
    cases hg
  subst h0
  simp only [Option.isNone_none,List.length_nil] at hnil
  clear hr HR
  go_enter Tryz.func49,Tryz.ntmps49
  go_wp2
  go_ret
  exact ⟨⟨_,rfl,World.ownsRow_nil _ _ _ _⟩,Below.refl _ _⟩
 ·simp only [Option.isNone_some] at hnil
  have hlen:(l.map (Value.int .i64)).length=l.length*1:=by simp
  have HLEN:=hid hlen
  have HONE:=hid (show ∀ u∈l.map (Value.int .i64),u.oneCell'=true from fun u hu=>by obtain ⟨x,_,rfl⟩:=List.mem_map.1 hu;rfl)
  have HO0:Hid ((w.alloc (.cells #[] 3)).ownsRow w.heap.size 3 1 (.slice (some ⟨w.heap.size,0,none⟩) 0 0) 0 []):=hid ⟨rfl,.inr ⟨w.heap.size,0,#[],rfl,Nat.le_refl _,heap_new w _,Nat.le_refl _,by unfold maxLen;omega,rfl,rfl⟩⟩
  clear hr hlen
  go_enter Tryz.func49,Tryz.ntmps49
  go_wp2_with (at_builtin;refine wpList_append_row _ rfl _ _ 33 rfl w.heap.size 3 i0 _ 1 8 Tryz.underlying33 ia ib ic id rfl (by omega) _ _ _ rfl HO0.out (some ad) l.length c (l.map (Value.int .i64)) rfl (HR.out.below ((Below.refl _ _).alloc (Nat.le_refl _) _)) HLEN.out HONE.out ?c3 ?c4 ?c5 ?_)
  case c3=>unfold maxLen;omega
  case c4=>omega
  case c5=>simp
  ·intro v' w2 hown2 hg2
   have hb2:Below w.heap.size w w2:=below_append ((Below.refl w.heap.size w).alloc (Nat.le_refl _) _) (by simp) HO0.out hg2 (Nat.le_refl _)
   have HO:=hid hown2
   clear hown2 hg2 hnil
   go_wp2
   go_ret
   exact ⟨⟨_,rfl,HO.out⟩,hb2⟩
theorem take_more {l m:List V} {k:Nat} (h:l.take k=m.take k) (h1:k < l.length) (h2:k < m.length) (he:l[k]=m[k]):l.take (k+1)=m.take (k+1):=by
 rw [List.take_succ_eq_append_getElem h1,List.take_succ_eq_append_getElem h2,h,he]
set_option maxRecDepth 100000 in
set_option maxHeartbeats 1000000 in
theorem equalR_any (l m:List V) (A B:Option Addr) (c d:Nat) (w:World) (hr:Row w A (l.flatMap ptCells)) (hs:Row w B (m.flatMap ptCells)) (hl:l.length≤17592186043904) (hm:m.length≤17592186043904) :
  Calls Tryz.prog 181 #[.slice A l.length c,.slice B m.length d] w fun e w'=>e=.returned (.bool (decide (l=m)))∧Below w.heap.size w w':=by
 have HR:=hid hr
 have HS:=hid hs
 clear hr hs
 by_cases hlen:l.length=m.length
 ·have HT0:=hid (show l.take 0=m.take 0 by simp)
  have HLM:=hid hlen
  go_enter Tryz.func181,Tryz.ntmps181
  rw [← hlen]
  clear hlen
  go_wp2
  go_loopw [5,13] (fun _ i wr=>∃ k:Nat,k≤l.length∧i=.int .i64 k∧Hid (l.take k=m.take k)∧Hid (Below w.heap.size w wr)) (fun _ i _=>l.length - (intOf i).toNat)
  case atStart=>exact ⟨0,Nat.zero_le _,rfl,HT0,hid (Below.refl _ _)⟩
  case round =>
   obtain ⟨k,hk,rfl,HT,HB⟩:=hrel
   by_cases hlt:k < l.length
   ·have hlt2:k < m.length:=by have:=HLM.out;omega
    obtain ⟨g,off,rfl,hg,ca⟩:=row_get pt_len (by decide) HR.out (by omega)
    obtain ⟨g2,off2,rfl,hg2,cb⟩:=row_get pt_len (by decide) HS.out (by omega)
    have a0:=(HB.out.cell (p:=⟨g,off+k*2,none⟩) hg).trans (ca k hlt 0 (by decide))
    have a1:=(HB.out.cell (p:=⟨g,off+k*2+1,none⟩) hg).trans (ca k hlt 1 (by decide))
    have b0:=(HB.out.cell (p:=⟨g2,off2+k*2,none⟩) hg2).trans (cb k hlt2 0 (by decide))
    have b1:=(HB.out.cell (p:=⟨g2,off2+k*2+1,none⟩) hg2).trans (cb k hlt2 1 (by decide))
    have hk1:(0:Int)≤(k:Int):=by omega
    have HMO:=hid (fun h=>take_more HT.out hlt hlt2 h)
    have HNO:Hid (l[k]≠m[k]→l≠m):=hid (fun h e=>h (by subst e;rfl))
    clear ca cb
    generalize l[k]=p at *
    generalize m[k]=q at *
    clear hlt2
    obtain ⟨px,py⟩:=p
    obtain ⟨qx,qy⟩:=q
    simp only [ptCells,List.getElem?_cons_zero,List.getElem?_cons_succ] at a0 a1 b0 b1
    by_cases he:(px,py)=(qx,qy)
    ·have HE1:∀ W,(binOp .neq 35 (.agg #[.int .i64 px,.int .i64 py]) (.agg #[.int .i64 qx,.int .i64 qy])).run Tryz.prog W=.ok (.bool false) W:=fun W=>by rw [neq_vec,decide_eq_true he];rfl
     have HT2:=hid (HMO.out he)
     clear he HMO HNO
     go_wp2
     go_region
     go_wp2
     go_roundw
     case rel=>exact ⟨k+1,hlt,by go_num,HT2,hid ((below_drewN HB.out 1))⟩
     case measure=>simp [intOf];omega
    ·have HE1:∀ W,(binOp .neq 35 (.agg #[.int .i64 px,.int .i64 py]) (.agg #[.int .i64 qx,.int .i64 qy])).run Tryz.prog W=.ok (.bool true) W:=fun W=>by rw [neq_vec,decide_eq_false he];rfl
     have HF:Hid (decide (l=m)=false):=hid (decide_eq_false (HNO.out he))
     clear he HMO HNO
     go_wp2
     go_region
     go_wp2
     go_ret
     rw [HF.out]
     exact ⟨rfl,(below_drewN HB.out 1)⟩
   ·obtain rfl:k=l.length:=by omega
    have HF:Hid (decide (l=m)=true):=hid (decide_eq_true (by
     have h:=HT.out
     rw [List.take_length,HLM.out,List.take_length] at h
     exact h))
    go_wp2
    go_ret
    rw [HF.out]
    exact ⟨rfl,HB.out⟩
 ·have d1:((l.length:Int) != (m.length:Int))=true:=bne_iff_ne.2 (by omega)
  have HF:Hid (decide (l=m)=false):=hid (decide_eq_false (fun h=>hlen (by rw [h])))
  clear hlen
  go_enter Tryz.func181,Tryz.ntmps181
  go_wp2
  go_ret
  rw [HF.out]
  exact ⟨rfl,Below.refl _ _⟩
theorem ringSame_any (l m:List V) (A B:Option Addr) (c d:Nat) (w:World) (hr:Row w A (l.flatMap ptCells)) (hs:Row w B (m.flatMap ptCells)) (hl:l.length≤17592186043904) (hm:m.length≤17592186043904) :
  Calls Tryz.prog 114 #[.slice A l.length c,.slice B m.length d] w fun e w'=>e=.returned (.bool (decide (l=m)))∧Below w.heap.size w w':=by
 have HE:=hid (equalR_any l m A B c d w hr hs hl hm)
 clear hr hs
 generalize decide (l=m)=q at *
 go_enter Tryz.func114,Tryz.ntmps114
 go_wp2_with fail
 refine HE.out.mono ?_
 rintro e w1 ⟨rfl,hb⟩
 go_wp2
 go_ret
 exact ⟨rfl,hb⟩
theorem take_map_more {l m:List RowV} {k:Nat} (h:(l.take k).map RowV.l=(m.take k).map RowV.l) (h1:k < l.length) (h2:k < m.length) (he:l[k].l=m[k].l):(l.take (k+1)).map RowV.l=(m.take (k+1)).map RowV.l:=by
 rw [List.take_succ_eq_append_getElem h1,List.take_succ_eq_append_getElem h2,List.map_append,List.map_append,h]
 simp [he]
set_option maxRecDepth 100000 in
set_option maxHeartbeats 1000000 in
theorem equalH_any (l m:List RowV) (A B:Option Addr) (c d:Nat) (w:World) (hr:Row w A (l.map rowVal)) (hs:Row w B (m.map rowVal)) (hrr:∀ r∈l,Row w r.A (r.l.flatMap ptCells)∧r.l.length≤1000) (hss:∀ r∈m,Row w r.A (r.l.flatMap ptCells)∧r.l.length≤1000) (hl:l.length≤1000) (_hm:m.length≤1000) :
  Calls Tryz.prog 115 #[.slice A l.length c,.slice B m.length d,.func (.func 114) #[] #[]] w fun e w'=>e=.returned (.bool (decide (l.map RowV.l=m.map RowV.l)))∧Below w.heap.size w w':=by
 have HR:=hid hr
 have HS:=hid hs
 have HRR:=hid hrr
 have HSS:=hid hss
 have HSAME:=hid (fun (l m:List V) A B c d W hr hs hl hm=>ringSame_any l m A B c d W hr hs hl hm)
 clear hr hs hrr hss
 by_cases hlen:l.length=m.length
 ·have HT0:=hid (show (l.take 0).map RowV.l=(m.take 0).map RowV.l by simp)
  have HLM:=hid hlen
  go_enter Tryz.func115,Tryz.ntmps115
  rw [← hlen]
  clear hlen
  go_wp2
  go_loopw [7,8,9,17] (fun _ _ _ i wr=>∃ k:Nat,k≤l.length∧i=.int .i64 k∧Hid ((l.take k).map RowV.l=(m.take k).map RowV.l)∧Hid (Below w.heap.size w wr)) (fun _ _ _ i _=>l.length - (intOf i).toNat)
  case atStart=>exact ⟨0,Nat.zero_le _,rfl,HT0,hid (Below.refl _ _)⟩
  case round =>
   obtain ⟨k,hk,rfl,HT,HB⟩:=hrel
   by_cases hlt:k < l.length
   ·have hlt2:k < m.length:=by have:=HLM.out;omega
    obtain ⟨g,off,rfl,hg,ca⟩:=row_one HR.out (k:=k) (by simpa using hlt)
    obtain ⟨g2,off2,rfl,hg2,cb⟩:=row_one HS.out (k:=k) (by simpa using hlt2)
    have a0:=(HB.out.cell (p:=⟨g,off+k,none⟩) hg).trans (ca k (by simpa using hlt))
    have b0:=(HB.out.cell (p:=⟨g2,off2+k,none⟩) hg2).trans (cb k (by simpa using hlt2))
    rw [List.getElem_map] at a0 b0
    have hk1:(0:Int)≤(k:Int):=by omega
    have hk2:(k:Int) < (l.length:Int):=by omega
    have HMO:=hid (fun h=>take_map_more HT.out hlt hlt2 h)
    have HNO:Hid (l[k].l≠m[k].l→l.map RowV.l≠m.map RowV.l):=hid (fun h e=>h (by
     have h1:(l.map RowV.l)[k]? = (m.map RowV.l)[k]?:=by rw [e]
     simpa [List.getElem?_eq_getElem,hlt,hlt2] using h1))
    have HP1:=hid (HRR.out l[k] (List.getElem_mem _))
    have HP2:=hid (HSS.out m[k] (List.getElem_mem _))
    clear ca cb
    generalize l[k]=p at *
    generalize m[k]=q at *
    clear hlt2
    unfold rowVal at a0 b0
    have HSM:=hid (HSAME.out p.l q.l p.A q.A p.k q.k wr (HP1.out.1.below HB.out) (HP2.out.1.below HB.out) (by have:=HP1.out.2;omega) (by have:=HP2.out.2;omega))
    go_wp2_with fail
    refine HSM.out.mono ?_
    rintro e w2 ⟨rfl,hb2⟩
    have HB2:=hid (HB.out.trans (hb2.mono HB.out.size))
    clear hb2 HSM
    by_cases he:p.l=q.l
    ·have HT2:=hid (HMO.out he)
     have hdc:decide (p.l=q.l)=true:=decide_eq_true he
     rw [hdc]
     clear he HMO HNO hdc
     go_wp2
     go_roundw
     case rel=>exact ⟨k+1,hlt,by go_num,HT2,HB2⟩
     case measure=>simp [intOf];omega
    ·have HF:Hid (decide (l.map RowV.l=m.map RowV.l)=false):=hid (decide_eq_false (HNO.out he))
     have hdc:decide (p.l=q.l)=false:=decide_eq_false he
     rw [hdc]
     clear he HMO HNO hdc
     go_wp2
     go_ret
     rw [HF.out]
     exact ⟨rfl,HB2.out⟩
   ·obtain rfl:k=l.length:=by omega
    have HF:Hid (decide (l.map RowV.l=m.map RowV.l)=true):=hid (decide_eq_true (by
     have h:=HT.out
     rw [List.take_length,HLM.out,List.take_length] at h
     exact h))
    go_wp2
    go_ret
    rw [HF.out]
    exact ⟨rfl,HB.out⟩
 ·have d1:((l.length:Int) != (m.length:Int))=true:=bne_iff_ne.2 (by omega)
  have HF:Hid (decide (l.map RowV.l=m.map RowV.l)=false):=hid (decide_eq_false (fun h=>hlen (by simpa using congrArg List.length h)))
  clear hlen
  go_enter Tryz.func115,Tryz.ntmps115
  go_wp2
  go_ret
  rw [HF.out]
  exact ⟨rfl,Below.refl _ _⟩
set_option maxRecDepth 100000 in
set_option maxHeartbeats 1000000 in
theorem shapeSame_any (a b:ShapeM) (w:World) (ha:ShapeIn w a) (hb:ShapeIn w b) :
  Calls Tryz.prog 57 #[.agg (shapeVals a),.agg (shapeVals b)] w fun e w'=>e=.returned (.bool (decide (a.o.l=b.o.l)&&decide (holesL a=holesL b)))∧Below w.heap.size w w':=by
 have hb1:=bel1 w (.cells #[.slice a.o.A a.o.l.length a.o.k,.slice a.B a.hs.length a.k] 48)
 have hb2:=bel1 (w.alloc (.cells #[.slice a.o.A a.o.l.length a.o.k,.slice a.B a.hs.length a.k] 48)) (.cells #[.slice b.o.A b.o.l.length b.o.k,.slice b.B b.hs.length b.k] 48)
 have hz:(w.alloc (.cells #[.slice a.o.A a.o.l.length a.o.k,.slice a.B a.hs.length a.k] 48)).heap.size=w.heap.size+1:=by simp
 have HN1:=hid (p_below (heap_new w (.cells #[.slice a.o.A a.o.l.length a.o.k,.slice a.B a.hs.length a.k] 48)) hb2)
 have HN2:Hid (((w.alloc (.cells #[.slice a.o.A a.o.l.length a.o.k,.slice a.B a.hs.length a.k] 48)).alloc (.cells #[.slice b.o.A b.o.l.length b.o.k,.slice b.B b.hs.length b.k] 48)).heap[w.heap.size+1]? = some (.cells #[.slice b.o.A b.o.l.length b.o.k,.slice b.B b.hs.length b.k] 48)):=hid (by have:=heap_new (w.alloc (.cells #[.slice a.o.A a.o.l.length a.o.k,.slice a.B a.hs.length a.k] 48)) (.cells #[.slice b.o.A b.o.l.length b.o.k,.slice b.B b.hs.length b.k] 48);rw [hz] at this;exact this)
 have HBB:=hid (hb1.trans (hb2.mono (by omega)))
 have HAA:=hid ((ha.below hb1).below hb2)
 have HAB:=hid ((hb.below hb1).below hb2)
 clear ha hb hb1 hb2 hz
 unfold shapeVals holesVal rowVal holesL
 obtain ⟨q,HQ⟩:∃ q,Hid (decide (a.o.l=b.o.l)=q):=⟨_,hid rfl⟩
 obtain ⟨q2,HQ2⟩:∃ q,Hid (decide (a.hs.map RowV.l=b.hs.map RowV.l)=q):=⟨_,hid rfl⟩
 rw [HQ.out,HQ2.out]
 go_enter Tryz.func57,Tryz.ntmps57
 go_upto_region 1 with fail
 generalize (w.alloc (.cells #[.slice a.o.A a.o.l.length a.o.k,.slice a.B a.hs.length a.k] 48)).alloc (.cells #[.slice b.o.A b.o.l.length b.o.k,.slice b.B b.hs.length b.k] 48)=W at *
 have x0:=cell_of HN1.out 0 _ rfl
 have x1:=cell_of HN1.out 1 _ rfl
 have y0:=cell_of HN2.out 0 _ rfl
 have y1:=cell_of HN2.out 1 _ rfl
 have hsa:=HAA.out.short a.o (List.mem_cons_self ..)
 have hsb:=HAB.out.short b.o (List.mem_cons_self ..)
 have HSM:=hid (ringSame_any a.o.l b.o.l a.o.A b.o.A a.o.k b.o.k W HAA.out.ro HAB.out.ro (by omega) (by omega))
 rw [HQ.out] at HSM
 clear hsa hsb HQ
 go_wp2_with fail
 refine HSM.out.mono ?_
 rintro e w2 ⟨rfl,hb2⟩
 have HB2:=hid (HBB.out.trans (hb2.mono HBB.out.size))
 have HC1:=hid (p_below HN1.out hb2)
 have HC2:=hid (p_below HN2.out hb2)
 have HA2:=hid (HAA.out.below hb2)
 have HA3:=hid (HAB.out.below hb2)
 clear hb2 x0 x1 y0 y1 HSM
 cases q
 ·go_wp2
  go_ret
  exact ⟨by simp,HB2.out⟩
 have x1:=cell_of HC1.out 1 _ rfl
 have y1:=cell_of HC2.out 1 _ rfl
 have HEH:=hid (equalH_any a.hs b.hs a.B b.B a.k b.k w2 HA2.out.rB HA3.out.rB (fun r hr=>⟨HA2.out.rh r hr,(HA2.out.short r (List.mem_cons_of_mem _ hr)).1⟩) (fun r hr=>⟨HA3.out.rh r hr,(HA3.out.short r (List.mem_cons_of_mem _ hr)).1⟩) HA2.out.few HA3.out.few)
 rw [HQ2.out] at HEH
 clear HQ2
 go_wp2_with fail
 refine HEH.out.mono ?_
 rintro e w3 ⟨rfl,hb3⟩
 have HB3:=hid (HB2.out.trans (hb3.mono HB2.out.size))
 clear hb3
 go_wp2
 go_ret
 exact ⟨by simp,HB3.out⟩
end Go.Proofs.YtnkkcknogkgdkaaGreatDoor.PaW

namespace Go.Proofs.YtnkkcknogkgdkaaGreatDoor.PaW
open Lib (hid)
open Go Go.RowKit Go.Proofs.YtnkkcknogkgdkaaGreatDoor.Mem Go.Proofs.YtnkkcknogkgdkaaGreatDoor.Pa
open Go.Proofs.YtnkkcknogkgdkaaGreatDoor.Ge (V)
open Go.Proofs.YtnkkcknogkgdkaaGreatDoor.Lex (Tok)
open Go.Proofs.YtnkkcknogkgdkaaGreatDoor.LexW (tokCells)
attribute [local go_sem ↓] Go.wp_at_zero Go.wp_at_succ

open Go.Proofs.YtnkkcknogkgdkaaGreatDoor.GeW (ptCells pt_len RowV rowVal ShapeM ShapeIn shapeVals holesL holesVal shapeOk_any canon_any)
open Go.Proofs.YtnkkcknogkgdkaaGreatDoor.Ge (canonR shapeB)
theorem len64_none (w:World):Calls Tryz.prog 218 #[.int .u64 0] w fun e w'=>(∃ x:Int,e=.returned (.int .i64 x))∧w'=w:=by
 go_enter Tryz.func218,Tryz.ntmps218
 go_wp2
 go_ret
 exact ⟨⟨_,rfl⟩,rfl⟩
theorem len_none (w:World):Calls Tryz.prog 170 #[.int .u64 0] w fun e w'=>(∃ x:Int,e=.returned (.int .i64 x))∧w'=w:=by
 have H:=hid (len64_none w)
 go_enter Tryz.func170,Tryz.ntmps170
 go_wp2_with fail
 refine H.out.mono ?_
 rintro e w1 ⟨⟨x,rfl⟩,rfl⟩
 go_wp2
 go_ret
 exact ⟨⟨x,rfl⟩,rfl⟩
theorem ins_none (A:Option Addr) (c:Nat) (fv:Value) (w:World):Calls Tryz.prog 209 #[.slice A 0 c,.int .i64 0,.int .i64 0,fv] w fun e w'=>e=.returned (.tuple #[])∧w'=w:=by
 go_enter Tryz.func209,Tryz.ntmps209
 go_wp2_with fail
 refine wp_loop_rounds 1 ?_
 rw [rounds_succ]
 go_wp2
 go_end0
 exact ⟨rfl,rfl⟩
theorem pdq_none (A:Option Addr) (c:Nat) (lim:Int) (fv:Value) (w:World):Calls Tryz.prog 169 #[.slice A 0 c,.int .i64 0,.int .i64 0,.int .i64 lim,fv] w fun e w'=>e=.returned (.tuple #[])∧w'=w:=by
 have H:=hid (ins_none A c fv w)
 go_enter Tryz.func169,Tryz.ntmps169
 go_wp2_with fail
 refine wp_loop_rounds 1 ?_
 rw [rounds_succ]
 go_wp2_with fail
 refine H.out.mono ?_
 rintro e w1 ⟨rfl,rfl⟩
 go_wp2
 (try simp only [Exit.inBlock,Exit.then])
 refine bodyPost_ret (results_none rfl _ _ _) rfl ?_
 exact ⟨rfl,rfl⟩
theorem sort_none (A:Option Addr) (c:Nat) (fv:Value) (w:World):Calls Tryz.prog 103 #[.slice A 0 c,fv] w fun e w'=>e=.returned (.tuple #[])∧w'=w:=by
 have H:=hid (fun x=>pdq_none A c x fv w)
 have HL:=hid (len_none w)
 go_enter Tryz.func103,Tryz.ntmps103
 go_wp2_with fail
 refine HL.out.mono ?_
 rintro e w1 ⟨⟨x,rfl⟩,rfl⟩
 go_wp2_with fail
 refine (H.out x).mono ?_
 rintro e w2 ⟨rfl,rfl⟩
 go_wp2
 go_end0
 exact ⟨rfl,rfl⟩
set_option maxRecDepth 100000 in
set_option maxHeartbeats 1000000 in
theorem canon0_any (m:ShapeM) (w:World) (h:ShapeIn w m) (hs:m.hs=[]) (hv:shapeB m.o.l (holesL m)=true) :
  Calls Tryz.prog 50 #[.agg (shapeVals m)] w fun e w'=>(∃ v,e=.returned (.agg #[v,.slice none 0 0])∧w'.ownsRow w.heap.size 35 2 v (canonR m.o.l).length ((canonR m.o.l).flatMap ptCells))∧Below w.heap.size w w':=by
 have hb1:=bel1 w (.cells #[.slice m.o.A m.o.l.length m.o.k,.slice m.B 0 m.k] 48)
 have hb2:=bel1 (w.alloc (.cells #[.slice m.o.A m.o.l.length m.o.k,.slice m.B 0 m.k] 48)) (.cells #[.slice none 0 0,.slice none 0 0] 48)
 have hz:(w.alloc (.cells #[.slice m.o.A m.o.l.length m.o.k,.slice m.B 0 m.k] 48)).heap.size=w.heap.size+1:=by simp
 have HN1:=hid (p_below (heap_new w (.cells #[.slice m.o.A m.o.l.length m.o.k,.slice m.B 0 m.k] 48)) hb2)
 have HN2:Hid (((w.alloc (.cells #[.slice m.o.A m.o.l.length m.o.k,.slice m.B 0 m.k] 48)).alloc (.cells #[.slice none 0 0,.slice none 0 0] 48)).heap[w.heap.size+1]? = some (.cells #[.slice none 0 0,.slice none 0 0] 48)):=hid (by have:=heap_new (w.alloc (.cells #[.slice m.o.A m.o.l.length m.o.k,.slice m.B 0 m.k] 48)) (.cells #[.slice none 0 0,.slice none 0 0] 48);rw [hz] at this;exact this)
 have HBB:=hid (hb1.trans (hb2.mono (by omega)))
 have HAA:=hid ((h.below hb1).below hb2)
 have HSH:=hid h.short
 clear h hb1 hb2 hz
 have HVA:=hid (shapeOk_any m _ HAA.out)
 rw [hv] at HVA
 unfold shapeVals holesVal rowVal at HVA ⊢
 rw [hs] at HVA ⊢
 simp only [List.length_nil] at HVA ⊢
 obtain ⟨n,HNN⟩:∃ n,Hid ((canonR m.o.l).length=n):=⟨_,hid rfl⟩
 rw [HNN.out]
 go_enter Tryz.func50,Tryz.ntmps50
 go_upto_region 1 with fail
 generalize (w.alloc (.cells #[.slice m.o.A m.o.l.length m.o.k,.slice m.B 0 m.k] 48)).alloc (.cells #[.slice none 0 0,.slice none 0 0] 48)=W at *
 have x0:=cell_of HN1.out 0 _ rfl
 have x1:=cell_of HN1.out 1 _ rfl
 go_wp2_with fail
 refine HVA.out.mono ?_
 rintro e w2 ⟨rfl,hb2⟩
 have HB2:=hid (HBB.out.trans (hb2.mono HBB.out.size))
 have HC1:=hid (p_below HN1.out hb2)
 have HC2:=hid (p_below HN2.out hb2)
 have HA2:=hid (HAA.out.below hb2)
 clear hb2 x0 x1 HVA
 have x0:=cell_of HC1.out 0 _ rfl
 have hsl:=HSH.out m.o (List.mem_cons_self ..)
 have HCN:=hid (canon_any m.o.l m.o.A m.o.k w2 HA2.out.ro (by omega) hsl.2)
 clear hsl
 go_wp2_with fail
 refine HCN.out.mono ?_
 rintro e w3 ⟨⟨v,rfl,hown⟩,hb3⟩
 rw [HNN.out] at hown
 obtain ⟨B,d,rfl,_⟩:=own_shape hown
 have HOW:Hid (w3.ownsRow (w.heap.size+2) 35 2 (.slice B n d) n ((canonR m.o.l).flatMap ptCells)):=hid (own_more2 hown (by have:=blk_lt HC2.out;omega))
 have HB3:=hid (HB2.out.trans (hb3.mono HB2.out.size))
 have HD1:=hid (p_below HC1.out hb3)
 have HD2:=hid (p_below HC2.out hb3)
 clear hown hb3 x0 HCN
 have hb4:=bel1 w3 (.cells #[.slice B n d,.slice none 0 0] 48)
 have HN4:=hid (heap_new w3 (.cells #[.slice B n d,.slice none 0 0] 48))
 have HB4:=hid (HB3.out.trans (hb4.mono HB3.out.size))
 have HE1:=hid (p_below HD1.out hb4)
 have HE2:=hid (p_below HD2.out hb4)
 have HOW4:=hid (HOW.out.alloc (.cells #[.slice B n d,.slice none 0 0] 48))
 clear hb4
 go_upto_region 4 with fail
 generalize w3.alloc (.cells #[.slice B n d,.slice none 0 0] 48)=W4 at *
 generalize w3.heap.size=ob at *
 have x1:=cell_of HE1.out 1 _ rfl
 have o0:=cell_of HN4.out 0 _ rfl
 have o1:=cell_of HN4.out 1 _ rfl
 have z0:=cell_of HE2.out 0 _ rfl
 have z1:=cell_of HE2.out 1 _ rfl
 have q0:=free_of HE2.out 0
 have q1:=free_of HE2.out 1
 have HSR:=hid (sort_none none 0 (.func (.func 104) #[] #[]) W4)
 go_wp2_with fail
 refine wp_loop_rounds 1 ?_
 rw [rounds_succ]
 go_wp2_with fail
 refine HSR.out.mono ?_
 rintro e w5 ⟨rfl,rfl⟩
 have HWF:=hid (block_set (block_set HE2.out 0 (.slice B n d)) 1 (.slice none 0 0))
 have HOF:=hid (own_old (own_old HOW4.out (grown_set (grown_refl _ (some (w.heap.size+1))) 0 (.slice B n d)) (by omega)) (grown_set (grown_refl _ (some (w.heap.size+1))) 1 (.slice none 0 0)) (by omega))
 have HBF:=hid ((HB4.out.setCell (p:=⟨w.heap.size+1,0,none⟩) (by show w.heap.size≤w.heap.size+1;omega) (.slice B n d)).setCell (p:=⟨w.heap.size+1,1,none⟩) (by show w.heap.size≤w.heap.size+1;omega) (.slice none 0 0))
 go_wp2_with fail
 clear x1 o0 o1 z0 z1 q0 q1
 generalize (w5.setCell ⟨w.heap.size+1,0,none⟩ (.slice B n d)).setCell ⟨w.heap.size+1,1,none⟩ (.slice none 0 0)=WF at *
 have z0:=cell_of HWF.out 0 _ rfl
 have z1:=cell_of HWF.out 1 _ rfl
 refine bodyPost_ret (v:=.agg #[.slice B n d,.slice none 0 0]) (by simp [results,Tryz.results50,go_sem,z0,z1]) rfl ?_
 exact ⟨⟨_,rfl,own_more2 HOF.out (show w.heap.size≤w.heap.size+2 by omega)⟩,HBF.out⟩
end Go.Proofs.YtnkkcknogkgdkaaGreatDoor.PaW
