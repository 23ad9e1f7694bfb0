/- Walk: the reference's Print. Conditions: the sources lie in memory. -/
import Derived.Test.YtnkkcknogkgdkaaGreatDoorPpC
import Derived.Test.YtnkkcknogkgdkaaGreatDoorPpA
import Derived.Deep.DeepCutAuto
import Derived.Deep.CutBlock
import Derived.Test.YtnkkcknogkgdkaaGreatDoorPvC

namespace Go.Proofs.YtnkkcknogkgdkaaGreatDoor.PaW
open Lib (hid)
open Go Go.RowKit Go.Proofs.YtnkkcknogkgdkaaGreatDoor.Mem Go.Proofs.YtnkkcknogkgdkaaGreatDoor.Pa
open Go.Proofs.YtnkkcknogkgdkaaGreatDoor.Ge (V)
open Go.Proofs.YtnkkcknogkgdkaaGreatDoor.Lex (Tok)
open Go.Proofs.YtnkkcknogkgdkaaGreatDoor.LexW (tokCells)
attribute [local go_sem ↓] Go.wp_at_zero Go.wp_at_succ

open Go.Proofs.YtnkkcknogkgdkaaGreatDoor.Ge (within)
open Go.Proofs.YtnkkcknogkgdkaaGreatDoor.PqW (writeString_k strCells_mk byteCells_app isBuilder_below b_new)
open Go.Proofs.YtnkkcknogkgdkaaGreatDoor.LexW (ritoa_any)
set_option maxRecDepth 100000 in
set_option maxHeartbeats 1000000 in
theorem rpointT_any (v:V) (w:World) (hv:(-9223372036854775808≤v.1∧v.1≤9223372036854775807)∧(-9223372036854775808≤v.2∧v.2≤9223372036854775807)) :
  Calls Tryz.prog 188 #[ptV v] w fun e w'=>e=.returned (.string ⟨(pointT v).toArray⟩)∧Below w.heap.size w w':=by
 obtain ⟨x,y⟩:=v
 obtain ⟨⟨hx1,hx2⟩,hy1,hy2⟩:=hv
 simp only at hx1 hx2 hy1 hy2
 have HI1:=hid (fun W=>ritoa_any x W hx1 hx2)
 have HI2:=hid (fun W=>ritoa_any y W hy1 hy2)
 have l1:=Lib.itoa_length_le x hx1 hx2
 have l2:=Lib.itoa_length_le y hy1 hy2
 have HT:Hid ((((ByteArray.mk #[40]++ByteArray.mk (Lib.itoa x).toArray)++ByteArray.mk #[44,32])++ByteArray.mk (Lib.itoa y).toArray)++ByteArray.mk #[41]=ByteArray.mk (pointT (x,y)).toArray):=hid (by
  rw [show (ByteArray.mk #[40])=ByteArray.mk ([40]:List UInt8).toArray from rfl,show (ByteArray.mk #[44,32])=ByteArray.mk ([44,32]:List UInt8).toArray from rfl,show (ByteArray.mk #[41])=ByteArray.mk ([41]:List UInt8).toArray from rfl,str_app,str_app,str_app,str_app]
  simp [pointT])
 rw [← HT.out]
 have s1:(ByteArray.mk (Lib.itoa x).toArray).size≤21:=by rw [str_size];exact l1
 have s2:(ByteArray.mk (Lib.itoa y).toArray).size≤21:=by rw [str_size];exact l2
 clear HT l1 l2 hx1 hx2 hy1 hy2
 generalize (ByteArray.mk (Lib.itoa x).toArray)=IX at *
 generalize (ByteArray.mk (Lib.itoa y).toArray)=IY at *
 have z1:(9223372036854775807 < 1+IX.size)=False:=eq_false (by omega)
 have z2:(9223372036854775807 < 1+IX.size+2)=False:=eq_false (by omega)
 have z3:(9223372036854775807 < 1+IX.size+2+IY.size)=False:=eq_false (by omega)
 have z4:(9223372036854775807 < 1+IX.size+2+IY.size+1)=False:=eq_false (by omega)
 have hb0:=bel1 w (.cells #[.int .i64 x,.int .i64 y] 35)
 have hz:=blk_lt (heap_new w (.cells #[.int .i64 x,.int .i64 y] 35))
 have v0:=cell_of (heap_new w (.cells #[.int .i64 x,.int .i64 y] 35)) 0 _ rfl
 have v1:=cell_of (heap_new w (.cells #[.int .i64 x,.int .i64 y] 35)) 1 _ rfl
 have HB0:=hid hb0
 clear hb0 s1 s2
 unfold ptV
 go_enter Tryz.func188,Tryz.ntmps188
 go_upto_region 1 with fail
 generalize w.alloc (.cells #[.int .i64 x,.int .i64 y] 35)=W0 at *
 refine wp_region_det (fun w'=>Below W0.heap.size W0 w') (by kernel_rfl) (below_drewN (Below.refl _ _) 1) ?_
 refine tD (i:=0) (v:=?_) (some 3) rfl (Or.inl (Or.inl ⟨by rfl,?_⟩)) ?_
 rotate_left
 ·intro w' hSw
  (try dsimp only at hSw)
  have hs0:=(hSw.cell (p:=⟨w.heap.size,0,none⟩) hz).trans v0;have hs1:=(hSw.cell (p:=⟨w.heap.size,1,none⟩) hz).trans v1
  go_simp<;>with_reducible rfl
 try simp only [Act.put,sA,sB,sC]
 refine tD (i:=1) (v:=?_) (some 4) rfl (Or.inl (Or.inl ⟨by rfl,?_⟩)) ?_
 rotate_left
 ·intro w' hSw
  (try dsimp only at hSw)
  have hs0:=(hSw.cell (p:=⟨w.heap.size,0,none⟩) hz).trans v0;have hs1:=(hSw.cell (p:=⟨w.heap.size,1,none⟩) hz).trans v1
  go_simp<;>with_reducible rfl
 try simp only [Act.put,sA,sB,sC]
 refine tD (i:=2) (v:=(.string IX)) (some 5) rfl (Or.inr ⟨by rfl, 132,#[.int .i64 x],?_,?_⟩) ?_
 ·intro w' hSw
  (try dsimp only at hSw)
  first | rfl | (go_simp;done) | (go_simp;with_reducible rfl)
 ·intro w' hSw
  exact (HI1.out w').mono fun e u ⟨he,hb⟩=>⟨he,hSw.trans (hb.mono hSw.size)⟩
 try simp only [Act.put,sA,sB,sC]
 refine tD (i:=3) (v:=?_) (some 6) rfl (Or.inl (Or.inl ⟨by rfl,?_⟩)) ?_
 rotate_left
 ·intro w' hSw
  (try dsimp only at hSw)
  have hs0:=(hSw.cell (p:=⟨w.heap.size,0,none⟩) hz).trans v0;have hs1:=(hSw.cell (p:=⟨w.heap.size,1,none⟩) hz).trans v1
  go_simp<;>with_reducible rfl
 try simp only [Act.put,sA,sB,sC]
 refine tD (i:=4) (v:=?_) (some 7) rfl (Or.inl (Or.inl ⟨by rfl,?_⟩)) ?_
 rotate_left
 ·intro w' hSw
  (try dsimp only at hSw)
  have hs0:=(hSw.cell (p:=⟨w.heap.size,0,none⟩) hz).trans v0;have hs1:=(hSw.cell (p:=⟨w.heap.size,1,none⟩) hz).trans v1
  go_simp<;>with_reducible rfl
 try simp only [Act.put,sA,sB,sC]
 refine tD (i:=5) (v:=?_) (some 8) rfl (Or.inl (Or.inl ⟨by rfl,?_⟩)) ?_
 rotate_left
 ·intro w' hSw
  (try dsimp only at hSw)
  have hs0:=(hSw.cell (p:=⟨w.heap.size,0,none⟩) hz).trans v0;have hs1:=(hSw.cell (p:=⟨w.heap.size,1,none⟩) hz).trans v1
  go_simp<;>with_reducible rfl
 try simp only [Act.put,sA,sB,sC]
 refine tD (i:=6) (v:=?_) (some 9) rfl (Or.inl (Or.inl ⟨by rfl,?_⟩)) ?_
 rotate_left
 ·intro w' hSw
  (try dsimp only at hSw)
  have hs0:=(hSw.cell (p:=⟨w.heap.size,0,none⟩) hz).trans v0;have hs1:=(hSw.cell (p:=⟨w.heap.size,1,none⟩) hz).trans v1
  go_simp<;>with_reducible rfl
 try simp only [Act.put,sA,sB,sC]
 refine tD (i:=7) (v:=(.string IY)) (some 10) rfl (Or.inr ⟨by rfl, 132,#[.int .i64 y],?_,?_⟩) ?_
 ·intro w' hSw
  (try dsimp only at hSw)
  first | rfl | (go_simp;done) | (go_simp;with_reducible rfl)
 ·intro w' hSw
  exact (HI2.out w').mono fun e u ⟨he,hb⟩=>⟨he,hSw.trans (hb.mono hSw.size)⟩
 try simp only [Act.put,sA,sB,sC]
 refine tD (i:=8) (v:=?_) (some 11) rfl (Or.inl (Or.inl ⟨by rfl,?_⟩)) ?_
 rotate_left
 ·intro w' hSw
  (try dsimp only at hSw)
  have hs0:=(hSw.cell (p:=⟨w.heap.size,0,none⟩) hz).trans v0;have hs1:=(hSw.cell (p:=⟨w.heap.size,1,none⟩) hz).trans v1
  go_simp<;>with_reducible rfl
 try simp only [Act.put,sA,sB,sC]
 refine tD (i:=9) (v:=?_) (some 12) rfl (Or.inl (Or.inl ⟨by rfl,?_⟩)) ?_
 rotate_left
 ·intro w' hSw
  (try dsimp only at hSw)
  have hs0:=(hSw.cell (p:=⟨w.heap.size,0,none⟩) hz).trans v0;have hs1:=(hSw.cell (p:=⟨w.heap.size,1,none⟩) hz).trans v1
  go_simp<;>with_reducible rfl
 try simp only [Act.put,sA,sB,sC]
 refine tD (i:=10) (v:=?_) (some 2) rfl (Or.inl (Or.inl ⟨by rfl,?_⟩)) ?_
 rotate_left
 ·intro w' hSw
  (try dsimp only at hSw)
  have hs0:=(hSw.cell (p:=⟨w.heap.size,0,none⟩) hz).trans v0;have hs1:=(hSw.cell (p:=⟨w.heap.size,1,none⟩) hz).trans v1
  go_simp<;>with_reducible rfl
 try simp only [Act.put,sA,sB,sC]
 refine wpAnyD_done (by kernel_rfl) (fun w' hSw=>?_) _
 go_wp2
 go_ret
 exact ⟨rfl,HB0.out.trans (hSw.mono HB0.out.size)⟩
set_option maxRecDepth 100000 in
set_option maxHeartbeats 2000000 in
theorem routlineT_circle (cx cy ra:Int) (st:List Step) (A:Option Addr) (d:Nat) (w:World) (hok:outlineOk ⟨true,(cx,cy),ra,st⟩=true) :
  Calls Tryz.prog 133 #[outV ⟨true,(cx,cy),ra,st⟩ A d] w fun e w'=>e=.returned (.string ⟨(outlineT ⟨true,(cx,cy),ra,st⟩).toArray⟩)∧Below w.heap.size w w':=by
 unfold outlineOk at hok
 simp only [if_true,Bool.and_eq_true,decide_eq_true_eq] at hok
 obtain ⟨hv,hr1,hr2,hz0⟩:=hok
 clear hz0
 have hpo:=pt_ok hv
 have HP1:=hid (fun W=>rpointT_any (cx,cy) W hpo)
 have HI1:=hid (fun W=>ritoa_any ra W (by omega) (by omega))
 have l1:=pt_len hpo
 have l2:=Lib.itoa_length_le ra (by omega) (by omega)
 have HT:Hid (((ByteArray.mk #[99,105,114,99,108,101,32])++ByteArray.mk (pointT (cx,cy)).toArray++(ByteArray.mk #[32,114,97,100,105,117,115,32]))++ByteArray.mk (Lib.itoa ra).toArray=ByteArray.mk (outlineT ⟨true,(cx,cy),ra,st⟩).toArray):=hid (by
  rw [show (ByteArray.mk #[99,105,114,99,108,101,32])=ByteArray.mk ([99,105,114,99,108,101,32]:List UInt8).toArray from rfl,show (ByteArray.mk #[32,114,97,100,105,117,115,32])=ByteArray.mk ([32,114,97,100,105,117,115,32]:List UInt8).toArray from rfl,str_app,str_app,str_app]
  simp [outlineT,kCircle,kRadius])
 rw [← HT.out]
 have s1:(ByteArray.mk (pointT (cx,cy)).toArray).size≤46:=by rw [str_size];exact l1
 have s2:(ByteArray.mk (Lib.itoa ra).toArray).size≤21:=by rw [str_size];exact l2
 unfold ptV at HP1
 simp only at HP1
 clear HT l1 l2 hv hr1 hr2 hpo
 generalize (ByteArray.mk (pointT (cx,cy)).toArray)=PX at *
 generalize (ByteArray.mk (Lib.itoa ra).toArray)=IX at *
 have z1:(9223372036854775807 < 7+PX.size)=False:=eq_false (by omega)
 have z2:(9223372036854775807 < 7+PX.size+8)=False:=eq_false (by omega)
 have z3:(9223372036854775807 < 7+PX.size+8+IX.size)=False:=eq_false (by omega)
 have hb0:=bel1 w (.cells #[.bool true,.int .i64 cx,.int .i64 cy,.int .i64 ra,.slice A st.length d] 38)
 have hz:=blk_lt (heap_new w (.cells #[.bool true,.int .i64 cx,.int .i64 cy,.int .i64 ra,.slice A st.length d] 38))
 have o0:=cell_of (heap_new w (.cells #[.bool true,.int .i64 cx,.int .i64 cy,.int .i64 ra,.slice A st.length d] 38)) 0 _ rfl
 have o1:=cell_of (heap_new w (.cells #[.bool true,.int .i64 cx,.int .i64 cy,.int .i64 ra,.slice A st.length d] 38)) 1 _ rfl
 have o2:=cell_of (heap_new w (.cells #[.bool true,.int .i64 cx,.int .i64 cy,.int .i64 ra,.slice A st.length d] 38)) 2 _ rfl
 have o3:=cell_of (heap_new w (.cells #[.bool true,.int .i64 cx,.int .i64 cy,.int .i64 ra,.slice A st.length d] 38)) 3 _ rfl
 have HB0:=hid hb0
 clear hb0 s1 s2
 unfold outV
 simp only
 go_enter Tryz.func133,Tryz.ntmps133
 go_upto_region 1 with fail
 generalize w.alloc (.cells #[.bool true,.int .i64 cx,.int .i64 cy,.int .i64 ra,.slice A st.length d] 38)=W0 at *
 go_upto_region 2 with fail
 refine wp_region_det (fun w'=>Below W0.heap.size W0 w') (by kernel_rfl) (below_drewN (Below.refl _ _) 1) ?_
 refine tD (i:=0) (v:=?_) (some 8) rfl (Or.inl (Or.inl ⟨by rfl,?_⟩)) ?_
 rotate_left
 ·intro w' hSw
  (try dsimp only at hSw)
  have hs1:=(hSw.cell (p:=⟨w.heap.size,1,none⟩) hz).trans o1;have hs2:=(hSw.cell (p:=⟨w.heap.size,2,none⟩) hz).trans o2;have hs3:=(hSw.cell (p:=⟨w.heap.size,3,none⟩) hz).trans o3
  go_simp<;>with_reducible rfl
 try simp only [Act.put,sA,sB,sC]
 refine tD (i:=1) (v:=?_) (some 9) rfl (Or.inl (Or.inl ⟨by rfl,?_⟩)) ?_
 rotate_left
 ·intro w' hSw
  (try dsimp only at hSw)
  have hs1:=(hSw.cell (p:=⟨w.heap.size,1,none⟩) hz).trans o1;have hs2:=(hSw.cell (p:=⟨w.heap.size,2,none⟩) hz).trans o2;have hs3:=(hSw.cell (p:=⟨w.heap.size,3,none⟩) hz).trans o3
  go_simp<;>with_reducible rfl
 try simp only [Act.put,sA,sB,sC]
 refine tD (i:=2) (v:=(.string PX)) (some 10) rfl (Or.inr ⟨by rfl, 188,#[.agg #[.int .i64 cx,.int .i64 cy]],?_,?_⟩) ?_
 ·intro w' hSw
  (try dsimp only at hSw)
  first | rfl | (go_simp;done) | (go_simp;with_reducible rfl)
 ·intro w' hSw
  exact (HP1.out w').mono fun e u ⟨he,hb⟩=>⟨he,hSw.trans (hb.mono hSw.size)⟩
 try simp only [Act.put,sA,sB,sC]
 refine tD (i:=3) (v:=?_) (some 11) rfl (Or.inl (Or.inl ⟨by rfl,?_⟩)) ?_
 rotate_left
 ·intro w' hSw
  (try dsimp only at hSw)
  have hs1:=(hSw.cell (p:=⟨w.heap.size,1,none⟩) hz).trans o1;have hs2:=(hSw.cell (p:=⟨w.heap.size,2,none⟩) hz).trans o2;have hs3:=(hSw.cell (p:=⟨w.heap.size,3,none⟩) hz).trans o3
  go_simp<;>with_reducible rfl
 try simp only [Act.put,sA,sB,sC]
 refine tD (i:=4) (v:=?_) (some 12) rfl (Or.inl (Or.inl ⟨by rfl,?_⟩)) ?_
 rotate_left
 ·intro w' hSw
  (try dsimp only at hSw)
  have hs1:=(hSw.cell (p:=⟨w.heap.size,1,none⟩) hz).trans o1;have hs2:=(hSw.cell (p:=⟨w.heap.size,2,none⟩) hz).trans o2;have hs3:=(hSw.cell (p:=⟨w.heap.size,3,none⟩) hz).trans o3
  go_simp<;>with_reducible rfl
 try simp only [Act.put,sA,sB,sC]
 refine tD (i:=5) (v:=?_) (some 13) rfl (Or.inl (Or.inl ⟨by rfl,?_⟩)) ?_
 rotate_left
 ·intro w' hSw
  (try dsimp only at hSw)
  have hs1:=(hSw.cell (p:=⟨w.heap.size,1,none⟩) hz).trans o1;have hs2:=(hSw.cell (p:=⟨w.heap.size,2,none⟩) hz).trans o2;have hs3:=(hSw.cell (p:=⟨w.heap.size,3,none⟩) hz).trans o3
  go_simp<;>with_reducible rfl
 try simp only [Act.put,sA,sB,sC]
 refine tD (i:=6) (v:=?_) (some 14) rfl (Or.inl (Or.inl ⟨by rfl,?_⟩)) ?_
 rotate_left
 ·intro w' hSw
  (try dsimp only at hSw)
  have hs1:=(hSw.cell (p:=⟨w.heap.size,1,none⟩) hz).trans o1;have hs2:=(hSw.cell (p:=⟨w.heap.size,2,none⟩) hz).trans o2;have hs3:=(hSw.cell (p:=⟨w.heap.size,3,none⟩) hz).trans o3
  go_simp<;>with_reducible rfl
 try simp only [Act.put,sA,sB,sC]
 refine tD (i:=7) (v:=(.string IX)) (some 15) rfl (Or.inr ⟨by rfl, 132,#[.int .i64 ra],?_,?_⟩) ?_
 ·intro w' hSw
  (try dsimp only at hSw)
  first | rfl | (go_simp;done) | (go_simp;with_reducible rfl)
 ·intro w' hSw
  exact (HI1.out w').mono fun e u ⟨he,hb⟩=>⟨he,hSw.trans (hb.mono hSw.size)⟩
 try simp only [Act.put,sA,sB,sC]
 refine tD (i:=8) (v:=?_) (some 16) rfl (Or.inl (Or.inl ⟨by rfl,?_⟩)) ?_
 rotate_left
 ·intro w' hSw
  (try dsimp only at hSw)
  have hs1:=(hSw.cell (p:=⟨w.heap.size,1,none⟩) hz).trans o1;have hs2:=(hSw.cell (p:=⟨w.heap.size,2,none⟩) hz).trans o2;have hs3:=(hSw.cell (p:=⟨w.heap.size,3,none⟩) hz).trans o3
  go_simp<;>with_reducible rfl
 try simp only [Act.put,sA,sB,sC]
 refine tD (i:=9) (v:=?_) (some 2) rfl (Or.inl (Or.inl ⟨by rfl,?_⟩)) ?_
 rotate_left
 ·intro w' hSw
  (try dsimp only at hSw)
  have hs1:=(hSw.cell (p:=⟨w.heap.size,1,none⟩) hz).trans o1;have hs2:=(hSw.cell (p:=⟨w.heap.size,2,none⟩) hz).trans o2;have hs3:=(hSw.cell (p:=⟨w.heap.size,3,none⟩) hz).trans o3
  go_simp<;>with_reducible rfl
 try simp only [Act.put,sA,sB,sC]
 refine wpAnyD_done (by kernel_rfl) (fun w' hSw=>?_) _
 go_wp2
 go_ret
 exact ⟨rfl,HB0.out.trans (hSw.mono HB0.out.size)⟩
theorem steps_cw {st:List Step} (h:stepsOk st=true):∀ k (hk:k < st.length),st[k].arc=false→st[k].cw=false:=fun k hk ha=>by
 have:=(steps_ix st).1 h k hk
 unfold stepOk at this
 rw [ha] at this
 simp only [Bool.and_eq_true,Bool.false_or,Bool.not_eq_true'] at this
 exact this.2.2.1.2
theorem joinB_snoc (sep:List UInt8) (a:List UInt8):∀ l:List (List UInt8),joinB sep (l++[a])=if l=[] then a else joinB sep l++(sep++a)
 | []=>rfl
 | [b]=>by simp [joinB]
 | b::c::r=>by
  have ih:=joinB_snoc sep a (c::r)
  rw [if_neg (by simp)] at ih ⊢
  rw [List.cons_append,List.cons_append] at *
  simp only [joinB,List.append_assoc] at ih ⊢
  rw [ih]
theorem steps_text_snoc (st:List Step) (k:Nat) (h:k < st.length):joinB [32] ((st.take (k+1)).map Pa.stepT)=(if k=0 then [] else joinB [32] ((st.take k).map Pa.stepT)++[32])++Pa.stepT st[k]:=by
 rw [List.take_succ_eq_append_getElem h,List.map_append,List.map_singleton,joinB_snoc]
 by_cases h0:k=0
 ·subst h0
  simp
 ·rw [if_neg h0,if_neg (by
   intro e
   have:=congrArg List.length e
   simp only [List.length_map,List.length_take,List.length_nil] at this
   omega)]
  simp
set_option maxRecDepth 100000 in
set_option maxHeartbeats 8000000 in
theorem routlineT_path {TS:TypeId} {base:Nat} (cx cy ra:Int) (st:List Step) (A:Option Addr) (d:Nat) (w:World) (hr:At TS base w A (st.flatMap stepCells)) (hok:outlineOk ⟨false,(cx,cy),ra,st⟩=true) :
  Calls Tryz.prog 133 #[outV ⟨false,(cx,cy),ra,st⟩ A d] w fun e w'=>e=.returned (.string ⟨(outlineT ⟨false,(cx,cy),ra,st⟩).toArray⟩)∧Below w.heap.size w w':=by
 unfold outlineOk at hok
 simp only [Bool.false_eq_true,if_false,Bool.and_eq_true,decide_eq_true_eq] at hok
 have HWI:=hid (steps_within hok.1)
 have HCW:=hid (steps_cw hok.1)
 have HLEN:=hid hok.2.2.2.2
 have HR:=hid hr.1
 have HO:=hid (heap_new w (.cells #[.bool false,.int .i64 cx,.int .i64 cy,.int .i64 ra,.slice A st.length d] 38))
 have HB:=hid (bel1 w (.cells #[.bool false,.int .i64 cx,.int .i64 cy,.int .i64 ra,.slice A st.length d] 38))
 have HQ:Hid (outlineT ⟨false,(cx,cy),ra,st⟩=joinB [32] (st.map Pa.stepT)):=hid rfl
 rw [HQ.out]
 have HJL:Hid (∀ k,k≤st.length→(joinB [32] ((st.take k).map Pa.stepT)).length≤6000):=hid (fun k hk=>by
  have h1:=join_le [32] (by decide) 130 ((st.take k).map Pa.stepT) (fun l hl=>by
   obtain ⟨s,hs,rfl⟩:=List.mem_map.1 hl
   obtain ⟨q,hq,rfl⟩:=List.getElem_of_mem (List.mem_of_mem_take hs)
   exact step_tlen (HWI.out q hq).1 (HWI.out q hq).2)
  rw [List.length_map,List.length_take,Nat.min_eq_left hk] at h1
  have h2:(130+2)*k≤132*40:=Nat.mul_le_mul_left 132 (by have:=HLEN.out;omega)
  omega)
 clear hr hok HQ
 unfold outV
 simp only
 go_enter Tryz.func133,Tryz.ntmps133
 go_upto_region 1 with fail
 generalize w.alloc (.cells #[.bool false,.int .i64 cx,.int .i64 cy,.int .i64 ra,.slice A st.length d] 38)=W0 at *
 have o0:=cell_of HO.out 0 _ rfl
 have o1:=cell_of HO.out 1 _ rfl
 have o2:=cell_of HO.out 2 _ rfl
 have o3:=cell_of HO.out 3 _ rfl
 have o4:=cell_of HO.out 4 _ rfl
 go_wp2_with fail
 clear o0 o1 o2 o3 o4
 go_loopw [3,4] (fun s i wr=>∃ k:Nat,k≤st.length∧i=.int .i64 (k:Int)∧s=.string ⟨(joinB [32] ((st.take k).map Pa.stepT)).toArray⟩∧Below W0.heap.size W0 wr) (fun _ i _=>st.length - (intOf i).toNat)
 case atStart=>exact ⟨0,Nat.zero_le _,rfl,rfl,Below.refl _ _⟩
 case round =>
  obtain ⟨k,hk,rfl,rfl,hbel⟩:=hrel
  have hmx:=HLEN.out
  have HB0:=hid hbel
  have HOR:=hid (p_below HO.out hbel)
  have HBW:=hid (HB.out.trans (hbel.mono HB.out.size))
  have o3:=cell_of HOR.out 4 _ rfl
  by_cases hlt:k < st.length
  ·obtain ⟨g,off,rfl,hg,ca⟩:=row_get step_len (by decide) (HR.out.below HBW.out) (by omega)
   have a0:=ca k hlt 0 (by decide)
   have a1:=ca k hlt 1 (by decide)
   have a2:=ca k hlt 2 (by decide)
   have a3:=ca k hlt 3 (by decide)
   have a4:=ca k hlt 4 (by decide)
   have a5:=ca k hlt 5 (by decide)
   have HSW:=hid (HWI.out k hlt)
   have HCK:=hid (HCW.out k hlt)
   have HLT:=hid hlt
   have HJN:=hid (steps_text_snoc st k hlt)
   have hjl:=HJL.out k hk
   have hk1:(0:Int)≤(k:Int):=by omega
   have hk2:(k:Int) < (st.length:Int):=by omega
   clear ca
   generalize st[k]=s at *
   clear hlt hk
   obtain ⟨arc,⟨tx,ty⟩,⟨ux,uy⟩,cw⟩:=s
   simp only [stepCells,List.getElem?_cons_zero,List.getElem?_cons_succ,Nat.add_zero] at a0 a1 a2 a3 a4 a5
   have hp1:=pt_ok HSW.out.1
   have hp2:=pt_ok HSW.out.2
   have HP1:=hid (fun W=>rpointT_any (tx,ty) W hp1)
   have HP2:=hid (fun W=>rpointT_any (ux,uy) W hp2)
   have s1:(ByteArray.mk (pointT (tx,ty)).toArray).size≤46:=by rw [str_size];exact pt_len hp1
   have s2:(ByteArray.mk (pointT (ux,uy)).toArray).size≤46:=by rw [str_size];exact pt_len hp2
   obtain ⟨T1,HT1⟩:∃ T1,Hid (ByteArray.mk (pointT (tx,ty)).toArray=T1):=⟨_,hid rfl⟩
   obtain ⟨T2,HT2⟩:∃ T2,Hid (ByteArray.mk (pointT (ux,uy)).toArray=T2):=⟨_,hid rfl⟩
   rw [HT1.out] at HP1 s1
   rw [HT2.out] at HP2 s2
   unfold ptV at HP1 HP2
   simp only at HP1 HP2
   clear hp1 hp2 HSW
   have HSX:=hid (heap_new wr (.cells #[.bool arc,.int .i64 tx,.int .i64 ty,.int .i64 ux,.int .i64 uy,.bool cw] 140))
   have HB1:=hid (HB0.out.trans ((bel1 wr (.cells #[.bool arc,.int .i64 tx,.int .i64 ty,.int .i64 ux,.int .i64 uy,.bool cw] 140)).mono HB0.out.size))
   obtain ⟨jt,HJT⟩:∃ j,Hid (joinB [32] ((st.take k).map Pa.stepT)=j):=⟨_,hid rfl⟩
   rw [HJT.out] at HJN hjl ⊢
   have hjs:=str_size jt
   obtain ⟨JB,HJB⟩:∃ B,Hid (ByteArray.mk jt.toArray=B):=⟨_,hid rfl⟩
   rw [HJB.out] at hjs ⊢
   rcases k with _ | k'
   ·have HCU:Hid (jt=[]):=hid (HJT.out.symm)
    obtain ⟨cur,HCR⟩:∃ c:List UInt8,Hid (c=[]):=⟨_,hid rfl⟩
    replace HJN:Hid (joinB [32] ((st.take (0+1)).map Pa.stepT)=cur++Pa.stepT ⟨arc,(tx,ty),(ux,uy),cw⟩):=hid (by rw [HJN.out,if_pos rfl,HCR.out])
    have HSB:Hid (ByteArray.mk cur.toArray=JB):=hid (by rw [← HJB.out,HCU.out,HCR.out])
    have hsb:JB.size≤6000:=by omega
    clear hjs hjl
    simp only [Nat.zero_mul,Nat.add_zero] at a0 a1 a2 a3 a4 a5
    go_upto_region 10 with fail
    clear a0 a1 a2 a3 a4 a5 o3
    generalize wr.alloc (.cells #[.bool arc,.int .i64 tx,.int .i64 ty,.int .i64 ux,.int .i64 uy,.bool cw] 140)=W1 at *
    generalize wr.heap.size=xb at *
    have x0:=cell_of HSX.out 0 _ rfl
    have x1:=cell_of HSX.out 1 _ rfl
    have x2:=cell_of HSX.out 2 _ rfl
    have x3:=cell_of HSX.out 3 _ rfl
    have x4:=cell_of HSX.out 4 _ rfl
    have x5:=cell_of HSX.out 5 _ rfl
    obtain ⟨k,rfl⟩:∃ k,k=0:=⟨0,rfl⟩
    obtain ⟨SB,rfl⟩:∃ SB,SB=JB:=⟨_,rfl⟩
    cases arc
    ·cases cw
     ·skip
      have z0:(9223372036854775807 < SB.size+T1.size)=False:=eq_false (by omega)
      have HFIN:Hid ((SB++T1)=ByteArray.mk (cur++Pa.stepT ⟨false,(tx,ty),(ux,uy),false⟩).toArray):=hid (by
       rw [← HSB.out,← HT1.out,str_app]
       simp [Pa.stepT])
      go_wp2_with fail
      refine (HP1.out W1).mono ?_
      rintro e w2 ⟨rfl,hb⟩
      have HS2:=hid (p_below HSX.out hb)
      have HB2:=hid (HB1.out.trans (hb.mono HB1.out.size))
      clear x0 x1 x2 x3 x4 x5 hb HP1 HP2
      have x0:=cell_of HS2.out 0 _ rfl
      have x1:=cell_of HS2.out 1 _ rfl
      have x2:=cell_of HS2.out 2 _ rfl
      have x3:=cell_of HS2.out 3 _ rfl
      have x4:=cell_of HS2.out 4 _ rfl
      have x5:=cell_of HS2.out 5 _ rfl
      go_wp2
      go_roundw
      case rel=>exact ⟨0+1,by have:=HLT.out;omega,by go_num,by rw [HJN.out,← HFIN.out],HB2.out⟩
      case measure=>simp [intOf];have:=HLT.out;omega
     ·exact absurd (show true=false from HCK.out rfl) (by decide)
    ·cases cw
     ·skip
      have z0:(9223372036854775807 < SB.size+4)=False:=eq_false (by omega)
      have z1:(9223372036854775807 < SB.size+4+T1.size)=False:=eq_false (by omega)
      have z2:(9223372036854775807 < SB.size+4+T1.size+8)=False:=eq_false (by omega)
      have z3:(9223372036854775807 < SB.size+4+T1.size+8+T2.size)=False:=eq_false (by omega)
      have HFIN:Hid (((((SB++(ByteArray.mk #[97,114,99,32]))++T1)++(ByteArray.mk #[32,97,114,111,117,110,100,32]))++T2)=ByteArray.mk (cur++Pa.stepT ⟨true,(tx,ty),(ux,uy),false⟩).toArray):=hid (by
       rw [← HSB.out,← HT1.out,← HT2.out,show (ByteArray.mk #[97,114,99,32])=ByteArray.mk ([97,114,99,32]:List UInt8).toArray from rfl,show (ByteArray.mk #[32,97,114,111,117,110,100,32])=ByteArray.mk ([32,97,114,111,117,110,100,32]:List UInt8).toArray from rfl,str_app,str_app,str_app,str_app]
       simp [Pa.stepT,kArc,kAround])
      have hxz:=blk_lt HSX.out
      go_upto_region 12 with fail
      refine wp_region_det (fun w'=>Below W1.heap.size W1 w') (by kernel_rfl) (below_drewN (Below.refl _ _) 1) ?_
      refine tD (i:=0) (v:=?_) (some 41) rfl (Or.inl (Or.inl ⟨by rfl,?_⟩)) ?_
      rotate_left
      ·intro w' hSw
       (try dsimp only at hSw)
       have hs1:=(hSw.cell (p:=⟨xb,1,none⟩) hxz).trans x1;have hs2:=(hSw.cell (p:=⟨xb,2,none⟩) hxz).trans x2;have hs3:=(hSw.cell (p:=⟨xb,3,none⟩) hxz).trans x3;have hs4:=(hSw.cell (p:=⟨xb,4,none⟩) hxz).trans x4
       go_simp<;>with_reducible rfl
      try simp only [Act.put,sA,sB,sC]
      refine tD (i:=1) (v:=?_) (some 42) rfl (Or.inl (Or.inl ⟨by rfl,?_⟩)) ?_
      rotate_left
      ·intro w' hSw
       (try dsimp only at hSw)
       have hs1:=(hSw.cell (p:=⟨xb,1,none⟩) hxz).trans x1;have hs2:=(hSw.cell (p:=⟨xb,2,none⟩) hxz).trans x2;have hs3:=(hSw.cell (p:=⟨xb,3,none⟩) hxz).trans x3;have hs4:=(hSw.cell (p:=⟨xb,4,none⟩) hxz).trans x4
       go_simp<;>with_reducible rfl
      try simp only [Act.put,sA,sB,sC]
      refine tD (i:=2) (v:=?_) (some 43) rfl (Or.inl (Or.inl ⟨by rfl,?_⟩)) ?_
      rotate_left
      ·intro w' hSw
       (try dsimp only at hSw)
       have hs1:=(hSw.cell (p:=⟨xb,1,none⟩) hxz).trans x1;have hs2:=(hSw.cell (p:=⟨xb,2,none⟩) hxz).trans x2;have hs3:=(hSw.cell (p:=⟨xb,3,none⟩) hxz).trans x3;have hs4:=(hSw.cell (p:=⟨xb,4,none⟩) hxz).trans x4
       go_simp<;>with_reducible rfl
      try simp only [Act.put,sA,sB,sC]
      refine tD (i:=3) (v:=?_) (some 44) rfl (Or.inl (Or.inl ⟨by rfl,?_⟩)) ?_
      rotate_left
      ·intro w' hSw
       (try dsimp only at hSw)
       have hs1:=(hSw.cell (p:=⟨xb,1,none⟩) hxz).trans x1;have hs2:=(hSw.cell (p:=⟨xb,2,none⟩) hxz).trans x2;have hs3:=(hSw.cell (p:=⟨xb,3,none⟩) hxz).trans x3;have hs4:=(hSw.cell (p:=⟨xb,4,none⟩) hxz).trans x4
       go_simp<;>with_reducible rfl
      try simp only [Act.put,sA,sB,sC]
      refine tD (i:=4) (v:=(.string T1)) (some 45) rfl (Or.inr ⟨by rfl, 188,#[.agg #[.int .i64 tx,.int .i64 ty]],?_,?_⟩) ?_
      ·intro w' hSw
       (try dsimp only at hSw)
       first | rfl | (go_simp;done) | (go_simp;with_reducible rfl)
      ·intro w' hSw
       exact (HP1.out w').mono fun e u ⟨he,hb⟩=>⟨he,hSw.trans (hb.mono hSw.size)⟩
      try simp only [Act.put,sA,sB,sC]
      refine tD (i:=5) (v:=?_) (some 46) rfl (Or.inl (Or.inl ⟨by rfl,?_⟩)) ?_
      rotate_left
      ·intro w' hSw
       (try dsimp only at hSw)
       have hs1:=(hSw.cell (p:=⟨xb,1,none⟩) hxz).trans x1;have hs2:=(hSw.cell (p:=⟨xb,2,none⟩) hxz).trans x2;have hs3:=(hSw.cell (p:=⟨xb,3,none⟩) hxz).trans x3;have hs4:=(hSw.cell (p:=⟨xb,4,none⟩) hxz).trans x4
       go_simp<;>with_reducible rfl
      try simp only [Act.put,sA,sB,sC]
      refine tD (i:=6) (v:=?_) (some 47) rfl (Or.inl (Or.inl ⟨by rfl,?_⟩)) ?_
      rotate_left
      ·intro w' hSw
       (try dsimp only at hSw)
       have hs1:=(hSw.cell (p:=⟨xb,1,none⟩) hxz).trans x1;have hs2:=(hSw.cell (p:=⟨xb,2,none⟩) hxz).trans x2;have hs3:=(hSw.cell (p:=⟨xb,3,none⟩) hxz).trans x3;have hs4:=(hSw.cell (p:=⟨xb,4,none⟩) hxz).trans x4
       go_simp<;>with_reducible rfl
      try simp only [Act.put,sA,sB,sC]
      refine tD (i:=7) (v:=?_) (some 48) rfl (Or.inl (Or.inl ⟨by rfl,?_⟩)) ?_
      rotate_left
      ·intro w' hSw
       (try dsimp only at hSw)
       have hs1:=(hSw.cell (p:=⟨xb,1,none⟩) hxz).trans x1;have hs2:=(hSw.cell (p:=⟨xb,2,none⟩) hxz).trans x2;have hs3:=(hSw.cell (p:=⟨xb,3,none⟩) hxz).trans x3;have hs4:=(hSw.cell (p:=⟨xb,4,none⟩) hxz).trans x4
       go_simp<;>with_reducible rfl
      try simp only [Act.put,sA,sB,sC]
      refine tD (i:=8) (v:=?_) (some 49) rfl (Or.inl (Or.inl ⟨by rfl,?_⟩)) ?_
      rotate_left
      ·intro w' hSw
       (try dsimp only at hSw)
       have hs1:=(hSw.cell (p:=⟨xb,1,none⟩) hxz).trans x1;have hs2:=(hSw.cell (p:=⟨xb,2,none⟩) hxz).trans x2;have hs3:=(hSw.cell (p:=⟨xb,3,none⟩) hxz).trans x3;have hs4:=(hSw.cell (p:=⟨xb,4,none⟩) hxz).trans x4
       go_simp<;>with_reducible rfl
      try simp only [Act.put,sA,sB,sC]
      refine tD (i:=9) (v:=(.string T2)) (some 50) rfl (Or.inr ⟨by rfl, 188,#[.agg #[.int .i64 ux,.int .i64 uy]],?_,?_⟩) ?_
      ·intro w' hSw
       (try dsimp only at hSw)
       first | rfl | (go_simp;done) | (go_simp;with_reducible rfl)
      ·intro w' hSw
       exact (HP2.out w').mono fun e u ⟨he,hb⟩=>⟨he,hSw.trans (hb.mono hSw.size)⟩
      try simp only [Act.put,sA,sB,sC]
      refine tD (i:=10) (v:=?_) (some 51) rfl (Or.inl (Or.inl ⟨by rfl,?_⟩)) ?_
      rotate_left
      ·intro w' hSw
       (try dsimp only at hSw)
       have hs1:=(hSw.cell (p:=⟨xb,1,none⟩) hxz).trans x1;have hs2:=(hSw.cell (p:=⟨xb,2,none⟩) hxz).trans x2;have hs3:=(hSw.cell (p:=⟨xb,3,none⟩) hxz).trans x3;have hs4:=(hSw.cell (p:=⟨xb,4,none⟩) hxz).trans x4
       go_simp<;>with_reducible rfl
      try simp only [Act.put,sA,sB,sC]
      refine tD (i:=11) (v:=?_) (some 3) rfl (Or.inl (Or.inl ⟨by rfl,?_⟩)) ?_
      rotate_left
      ·intro w' hSw
       (try dsimp only at hSw)
       have hs1:=(hSw.cell (p:=⟨xb,1,none⟩) hxz).trans x1;have hs2:=(hSw.cell (p:=⟨xb,2,none⟩) hxz).trans x2;have hs3:=(hSw.cell (p:=⟨xb,3,none⟩) hxz).trans x3;have hs4:=(hSw.cell (p:=⟨xb,4,none⟩) hxz).trans x4
       go_simp<;>with_reducible rfl
      try simp only [Act.put,sA,sB,sC]
      refine wpAnyD_done (by kernel_rfl) (fun w' hSw=>?_) _
      have HS2:=hid (p_below HSX.out hSw)
      have HB2:=hid (HB1.out.trans (hSw.mono HB1.out.size))
      clear x0 x1 x2 x3 x4 x5 HP1 HP2
      have x0:=cell_of HS2.out 0 _ rfl
      have x1:=cell_of HS2.out 1 _ rfl
      have x2:=cell_of HS2.out 2 _ rfl
      have x3:=cell_of HS2.out 3 _ rfl
      have x4:=cell_of HS2.out 4 _ rfl
      have x5:=cell_of HS2.out 5 _ rfl
      go_wp2
      go_roundw
      case rel=>exact ⟨0+1,by have:=HLT.out;omega,by go_num,by rw [HJN.out,← HFIN.out],HB2.out⟩
      case measure=>simp [intOf];have:=HLT.out;omega
     ·skip
      have z0:(9223372036854775807 < SB.size+4)=False:=eq_false (by omega)
      have z1:(9223372036854775807 < SB.size+4+T1.size)=False:=eq_false (by omega)
      have z2:(9223372036854775807 < SB.size+4+T1.size+8)=False:=eq_false (by omega)
      have z3:(9223372036854775807 < SB.size+4+T1.size+8+T2.size)=False:=eq_false (by omega)
      have z4:(9223372036854775807 < SB.size+4+T1.size+8+T2.size+10)=False:=eq_false (by omega)
      have HFIN:Hid ((((((SB++(ByteArray.mk #[97,114,99,32]))++T1)++(ByteArray.mk #[32,97,114,111,117,110,100,32]))++T2)++(ByteArray.mk #[32,99,108,111,99,107,119,105,115,101]))=ByteArray.mk (cur++Pa.stepT ⟨true,(tx,ty),(ux,uy),true⟩).toArray):=hid (by
       rw [← HSB.out,← HT1.out,← HT2.out,show (ByteArray.mk #[97,114,99,32])=ByteArray.mk ([97,114,99,32]:List UInt8).toArray from rfl,show (ByteArray.mk #[32,97,114,111,117,110,100,32])=ByteArray.mk ([32,97,114,111,117,110,100,32]:List UInt8).toArray from rfl,show (ByteArray.mk #[32,99,108,111,99,107,119,105,115,101])=ByteArray.mk ([32,99,108,111,99,107,119,105,115,101]:List UInt8).toArray from rfl,str_app,str_app,str_app,str_app,str_app]
       simp [Pa.stepT,kArc,kAround,kClock])
      have hxz:=blk_lt HSX.out
      go_upto_region 12 with fail
      refine wp_region_det (fun w'=>Below W1.heap.size W1 w') (by kernel_rfl) (below_drewN (Below.refl _ _) 1) ?_
      refine tD (i:=0) (v:=?_) (some 41) rfl (Or.inl (Or.inl ⟨by rfl,?_⟩)) ?_
      rotate_left
      ·intro w' hSw
       (try dsimp only at hSw)
       have hs1:=(hSw.cell (p:=⟨xb,1,none⟩) hxz).trans x1;have hs2:=(hSw.cell (p:=⟨xb,2,none⟩) hxz).trans x2;have hs3:=(hSw.cell (p:=⟨xb,3,none⟩) hxz).trans x3;have hs4:=(hSw.cell (p:=⟨xb,4,none⟩) hxz).trans x4
       go_simp<;>with_reducible rfl
      try simp only [Act.put,sA,sB,sC]
      refine tD (i:=1) (v:=?_) (some 42) rfl (Or.inl (Or.inl ⟨by rfl,?_⟩)) ?_
      rotate_left
      ·intro w' hSw
       (try dsimp only at hSw)
       have hs1:=(hSw.cell (p:=⟨xb,1,none⟩) hxz).trans x1;have hs2:=(hSw.cell (p:=⟨xb,2,none⟩) hxz).trans x2;have hs3:=(hSw.cell (p:=⟨xb,3,none⟩) hxz).trans x3;have hs4:=(hSw.cell (p:=⟨xb,4,none⟩) hxz).trans x4
       go_simp<;>with_reducible rfl
      try simp only [Act.put,sA,sB,sC]
      refine tD (i:=2) (v:=?_) (some 43) rfl (Or.inl (Or.inl ⟨by rfl,?_⟩)) ?_
      rotate_left
      ·intro w' hSw
       (try dsimp only at hSw)
       have hs1:=(hSw.cell (p:=⟨xb,1,none⟩) hxz).trans x1;have hs2:=(hSw.cell (p:=⟨xb,2,none⟩) hxz).trans x2;have hs3:=(hSw.cell (p:=⟨xb,3,none⟩) hxz).trans x3;have hs4:=(hSw.cell (p:=⟨xb,4,none⟩) hxz).trans x4
       go_simp<;>with_reducible rfl
      try simp only [Act.put,sA,sB,sC]
      refine tD (i:=3) (v:=?_) (some 44) rfl (Or.inl (Or.inl ⟨by rfl,?_⟩)) ?_
      rotate_left
      ·intro w' hSw
       (try dsimp only at hSw)
       have hs1:=(hSw.cell (p:=⟨xb,1,none⟩) hxz).trans x1;have hs2:=(hSw.cell (p:=⟨xb,2,none⟩) hxz).trans x2;have hs3:=(hSw.cell (p:=⟨xb,3,none⟩) hxz).trans x3;have hs4:=(hSw.cell (p:=⟨xb,4,none⟩) hxz).trans x4
       go_simp<;>with_reducible rfl
      try simp only [Act.put,sA,sB,sC]
      refine tD (i:=4) (v:=(.string T1)) (some 45) rfl (Or.inr ⟨by rfl, 188,#[.agg #[.int .i64 tx,.int .i64 ty]],?_,?_⟩) ?_
      ·intro w' hSw
       (try dsimp only at hSw)
       first | rfl | (go_simp;done) | (go_simp;with_reducible rfl)
      ·intro w' hSw
       exact (HP1.out w').mono fun e u ⟨he,hb⟩=>⟨he,hSw.trans (hb.mono hSw.size)⟩
      try simp only [Act.put,sA,sB,sC]
      refine tD (i:=5) (v:=?_) (some 46) rfl (Or.inl (Or.inl ⟨by rfl,?_⟩)) ?_
      rotate_left
      ·intro w' hSw
       (try dsimp only at hSw)
       have hs1:=(hSw.cell (p:=⟨xb,1,none⟩) hxz).trans x1;have hs2:=(hSw.cell (p:=⟨xb,2,none⟩) hxz).trans x2;have hs3:=(hSw.cell (p:=⟨xb,3,none⟩) hxz).trans x3;have hs4:=(hSw.cell (p:=⟨xb,4,none⟩) hxz).trans x4
       go_simp<;>with_reducible rfl
      try simp only [Act.put,sA,sB,sC]
      refine tD (i:=6) (v:=?_) (some 47) rfl (Or.inl (Or.inl ⟨by rfl,?_⟩)) ?_
      rotate_left
      ·intro w' hSw
       (try dsimp only at hSw)
       have hs1:=(hSw.cell (p:=⟨xb,1,none⟩) hxz).trans x1;have hs2:=(hSw.cell (p:=⟨xb,2,none⟩) hxz).trans x2;have hs3:=(hSw.cell (p:=⟨xb,3,none⟩) hxz).trans x3;have hs4:=(hSw.cell (p:=⟨xb,4,none⟩) hxz).trans x4
       go_simp<;>with_reducible rfl
      try simp only [Act.put,sA,sB,sC]
      refine tD (i:=7) (v:=?_) (some 48) rfl (Or.inl (Or.inl ⟨by rfl,?_⟩)) ?_
      rotate_left
      ·intro w' hSw
       (try dsimp only at hSw)
       have hs1:=(hSw.cell (p:=⟨xb,1,none⟩) hxz).trans x1;have hs2:=(hSw.cell (p:=⟨xb,2,none⟩) hxz).trans x2;have hs3:=(hSw.cell (p:=⟨xb,3,none⟩) hxz).trans x3;have hs4:=(hSw.cell (p:=⟨xb,4,none⟩) hxz).trans x4
       go_simp<;>with_reducible rfl
      try simp only [Act.put,sA,sB,sC]
      refine tD (i:=8) (v:=?_) (some 49) rfl (Or.inl (Or.inl ⟨by rfl,?_⟩)) ?_
      rotate_left
      ·intro w' hSw
       (try dsimp only at hSw)
       have hs1:=(hSw.cell (p:=⟨xb,1,none⟩) hxz).trans x1;have hs2:=(hSw.cell (p:=⟨xb,2,none⟩) hxz).trans x2;have hs3:=(hSw.cell (p:=⟨xb,3,none⟩) hxz).trans x3;have hs4:=(hSw.cell (p:=⟨xb,4,none⟩) hxz).trans x4
       go_simp<;>with_reducible rfl
      try simp only [Act.put,sA,sB,sC]
      refine tD (i:=9) (v:=(.string T2)) (some 50) rfl (Or.inr ⟨by rfl, 188,#[.agg #[.int .i64 ux,.int .i64 uy]],?_,?_⟩) ?_
      ·intro w' hSw
       (try dsimp only at hSw)
       first | rfl | (go_simp;done) | (go_simp;with_reducible rfl)
      ·intro w' hSw
       exact (HP2.out w').mono fun e u ⟨he,hb⟩=>⟨he,hSw.trans (hb.mono hSw.size)⟩
      try simp only [Act.put,sA,sB,sC]
      refine tD (i:=10) (v:=?_) (some 51) rfl (Or.inl (Or.inl ⟨by rfl,?_⟩)) ?_
      rotate_left
      ·intro w' hSw
       (try dsimp only at hSw)
       have hs1:=(hSw.cell (p:=⟨xb,1,none⟩) hxz).trans x1;have hs2:=(hSw.cell (p:=⟨xb,2,none⟩) hxz).trans x2;have hs3:=(hSw.cell (p:=⟨xb,3,none⟩) hxz).trans x3;have hs4:=(hSw.cell (p:=⟨xb,4,none⟩) hxz).trans x4
       go_simp<;>with_reducible rfl
      try simp only [Act.put,sA,sB,sC]
      refine tD (i:=11) (v:=?_) (some 3) rfl (Or.inl (Or.inl ⟨by rfl,?_⟩)) ?_
      rotate_left
      ·intro w' hSw
       (try dsimp only at hSw)
       have hs1:=(hSw.cell (p:=⟨xb,1,none⟩) hxz).trans x1;have hs2:=(hSw.cell (p:=⟨xb,2,none⟩) hxz).trans x2;have hs3:=(hSw.cell (p:=⟨xb,3,none⟩) hxz).trans x3;have hs4:=(hSw.cell (p:=⟨xb,4,none⟩) hxz).trans x4
       go_simp<;>with_reducible rfl
      try simp only [Act.put,sA,sB,sC]
      refine wpAnyD_done (by kernel_rfl) (fun w' hSw=>?_) _
      have HS2:=hid (p_below HSX.out hSw)
      have HB2:=hid (HB1.out.trans (hSw.mono HB1.out.size))
      clear x0 x1 x2 x3 x4 x5 HP1 HP2
      have x0:=cell_of HS2.out 0 _ rfl
      have x1:=cell_of HS2.out 1 _ rfl
      have x2:=cell_of HS2.out 2 _ rfl
      have x3:=cell_of HS2.out 3 _ rfl
      have x4:=cell_of HS2.out 4 _ rfl
      have x5:=cell_of HS2.out 5 _ rfl
      go_wp2
      go_roundw
      case rel=>exact ⟨0+1,by have:=HLT.out;omega,by go_num,by rw [HJN.out,← HFIN.out],HB2.out⟩
      case measure=>simp [intOf];have:=HLT.out;omega
   ·obtain ⟨cur,HCR⟩:∃ c,Hid (jt++[32]=c):=⟨_,hid rfl⟩
    rw [if_neg (by omega),HCR.out] at HJN
    have d0:decide ((0:Int) < ((k'+1:Nat):Int))=true:=decide_eq_true (by omega)
    have z9:(9223372036854775807 < JB.size+1)=False:=eq_false (by omega)
    have HCB:Hid (JB++(ByteArray.mk #[32])=ByteArray.mk cur.toArray):=hid (by rw [← HJB.out,show (ByteArray.mk #[32])=ByteArray.mk ([32]:List UInt8).toArray from rfl,str_app,HCR.out])
    obtain ⟨SB,HSB⟩:∃ B,Hid (ByteArray.mk cur.toArray=B):=⟨_,hid rfl⟩
    rw [HSB.out] at HCB
    have hjb:JB.size≤6000:=by omega
    clear hjs hjl
    have hsb:SB.size≤6001:=by rw [← HCB.out,ByteArray.size_append];have:((ByteArray.mk #[32])).size=1:=rfl;omega
    obtain ⟨k,hkk⟩:∃ k,k=k'+1:=⟨_,rfl⟩
    go_upto_region 10 with fail
    rw [HCB.out]
    clear a0 a1 a2 a3 a4 a5 o3
    generalize wr.alloc (.cells #[.bool arc,.int .i64 tx,.int .i64 ty,.int .i64 ux,.int .i64 uy,.bool cw] 140)=W1 at *
    generalize wr.heap.size=xb at *
    have x0:=cell_of HSX.out 0 _ rfl
    have x1:=cell_of HSX.out 1 _ rfl
    have x2:=cell_of HSX.out 2 _ rfl
    have x3:=cell_of HSX.out 3 _ rfl
    have x4:=cell_of HSX.out 4 _ rfl
    have x5:=cell_of HSX.out 5 _ rfl
    cases arc
    ·cases cw
     ·skip
      have z0:(9223372036854775807 < SB.size+T1.size)=False:=eq_false (by omega)
      have HFIN:Hid ((SB++T1)=ByteArray.mk (cur++Pa.stepT ⟨false,(tx,ty),(ux,uy),false⟩).toArray):=hid (by
       rw [← HSB.out,← HT1.out,str_app]
       simp [Pa.stepT])
      go_wp2_with fail
      refine (HP1.out W1).mono ?_
      rintro e w2 ⟨rfl,hb⟩
      have HS2:=hid (p_below HSX.out hb)
      have HB2:=hid (HB1.out.trans (hb.mono HB1.out.size))
      clear x0 x1 x2 x3 x4 x5 hb HP1 HP2
      have x0:=cell_of HS2.out 0 _ rfl
      have x1:=cell_of HS2.out 1 _ rfl
      have x2:=cell_of HS2.out 2 _ rfl
      have x3:=cell_of HS2.out 3 _ rfl
      have x4:=cell_of HS2.out 4 _ rfl
      have x5:=cell_of HS2.out 5 _ rfl
      go_wp2
      go_roundw
      case rel=>exact ⟨k'+1+1,by have:=HLT.out;omega,by go_num,by rw [HJN.out,← HFIN.out],HB2.out⟩
      case measure=>simp [intOf];have:=HLT.out;omega
     ·exact absurd (show true=false from HCK.out rfl) (by decide)
    ·cases cw
     ·skip
      have z0:(9223372036854775807 < SB.size+4)=False:=eq_false (by omega)
      have z1:(9223372036854775807 < SB.size+4+T1.size)=False:=eq_false (by omega)
      have z2:(9223372036854775807 < SB.size+4+T1.size+8)=False:=eq_false (by omega)
      have z3:(9223372036854775807 < SB.size+4+T1.size+8+T2.size)=False:=eq_false (by omega)
      have HFIN:Hid (((((SB++(ByteArray.mk #[97,114,99,32]))++T1)++(ByteArray.mk #[32,97,114,111,117,110,100,32]))++T2)=ByteArray.mk (cur++Pa.stepT ⟨true,(tx,ty),(ux,uy),false⟩).toArray):=hid (by
       rw [← HSB.out,← HT1.out,← HT2.out,show (ByteArray.mk #[97,114,99,32])=ByteArray.mk ([97,114,99,32]:List UInt8).toArray from rfl,show (ByteArray.mk #[32,97,114,111,117,110,100,32])=ByteArray.mk ([32,97,114,111,117,110,100,32]:List UInt8).toArray from rfl,str_app,str_app,str_app,str_app]
       simp [Pa.stepT,kArc,kAround])
      have hxz:=blk_lt HSX.out
      go_upto_region 12 with fail
      refine wp_region_det (fun w'=>Below W1.heap.size W1 w') (by kernel_rfl) (below_drewN (Below.refl _ _) 1) ?_
      refine tD (i:=0) (v:=?_) (some 41) rfl (Or.inl (Or.inl ⟨by rfl,?_⟩)) ?_
      rotate_left
      ·intro w' hSw
       (try dsimp only at hSw)
       have hs1:=(hSw.cell (p:=⟨xb,1,none⟩) hxz).trans x1;have hs2:=(hSw.cell (p:=⟨xb,2,none⟩) hxz).trans x2;have hs3:=(hSw.cell (p:=⟨xb,3,none⟩) hxz).trans x3;have hs4:=(hSw.cell (p:=⟨xb,4,none⟩) hxz).trans x4
       go_simp<;>with_reducible rfl
      try simp only [Act.put,sA,sB,sC]
      refine tD (i:=1) (v:=?_) (some 42) rfl (Or.inl (Or.inl ⟨by rfl,?_⟩)) ?_
      rotate_left
      ·intro w' hSw
       (try dsimp only at hSw)
       have hs1:=(hSw.cell (p:=⟨xb,1,none⟩) hxz).trans x1;have hs2:=(hSw.cell (p:=⟨xb,2,none⟩) hxz).trans x2;have hs3:=(hSw.cell (p:=⟨xb,3,none⟩) hxz).trans x3;have hs4:=(hSw.cell (p:=⟨xb,4,none⟩) hxz).trans x4
       go_simp<;>with_reducible rfl
      try simp only [Act.put,sA,sB,sC]
      refine tD (i:=2) (v:=?_) (some 43) rfl (Or.inl (Or.inl ⟨by rfl,?_⟩)) ?_
      rotate_left
      ·intro w' hSw
       (try dsimp only at hSw)
       have hs1:=(hSw.cell (p:=⟨xb,1,none⟩) hxz).trans x1;have hs2:=(hSw.cell (p:=⟨xb,2,none⟩) hxz).trans x2;have hs3:=(hSw.cell (p:=⟨xb,3,none⟩) hxz).trans x3;have hs4:=(hSw.cell (p:=⟨xb,4,none⟩) hxz).trans x4
       go_simp<;>with_reducible rfl
      try simp only [Act.put,sA,sB,sC]
      refine tD (i:=3) (v:=?_) (some 44) rfl (Or.inl (Or.inl ⟨by rfl,?_⟩)) ?_
      rotate_left
      ·intro w' hSw
       (try dsimp only at hSw)
       have hs1:=(hSw.cell (p:=⟨xb,1,none⟩) hxz).trans x1;have hs2:=(hSw.cell (p:=⟨xb,2,none⟩) hxz).trans x2;have hs3:=(hSw.cell (p:=⟨xb,3,none⟩) hxz).trans x3;have hs4:=(hSw.cell (p:=⟨xb,4,none⟩) hxz).trans x4
       go_simp<;>with_reducible rfl
      try simp only [Act.put,sA,sB,sC]
      refine tD (i:=4) (v:=(.string T1)) (some 45) rfl (Or.inr ⟨by rfl, 188,#[.agg #[.int .i64 tx,.int .i64 ty]],?_,?_⟩) ?_
      ·intro w' hSw
       (try dsimp only at hSw)
       first | rfl | (go_simp;done) | (go_simp;with_reducible rfl)
      ·intro w' hSw
       exact (HP1.out w').mono fun e u ⟨he,hb⟩=>⟨he,hSw.trans (hb.mono hSw.size)⟩
      try simp only [Act.put,sA,sB,sC]
      refine tD (i:=5) (v:=?_) (some 46) rfl (Or.inl (Or.inl ⟨by rfl,?_⟩)) ?_
      rotate_left
      ·intro w' hSw
       (try dsimp only at hSw)
       have hs1:=(hSw.cell (p:=⟨xb,1,none⟩) hxz).trans x1;have hs2:=(hSw.cell (p:=⟨xb,2,none⟩) hxz).trans x2;have hs3:=(hSw.cell (p:=⟨xb,3,none⟩) hxz).trans x3;have hs4:=(hSw.cell (p:=⟨xb,4,none⟩) hxz).trans x4
       go_simp<;>with_reducible rfl
      try simp only [Act.put,sA,sB,sC]
      refine tD (i:=6) (v:=?_) (some 47) rfl (Or.inl (Or.inl ⟨by rfl,?_⟩)) ?_
      rotate_left
      ·intro w' hSw
       (try dsimp only at hSw)
       have hs1:=(hSw.cell (p:=⟨xb,1,none⟩) hxz).trans x1;have hs2:=(hSw.cell (p:=⟨xb,2,none⟩) hxz).trans x2;have hs3:=(hSw.cell (p:=⟨xb,3,none⟩) hxz).trans x3;have hs4:=(hSw.cell (p:=⟨xb,4,none⟩) hxz).trans x4
       go_simp<;>with_reducible rfl
      try simp only [Act.put,sA,sB,sC]
      refine tD (i:=7) (v:=?_) (some 48) rfl (Or.inl (Or.inl ⟨by rfl,?_⟩)) ?_
      rotate_left
      ·intro w' hSw
       (try dsimp only at hSw)
       have hs1:=(hSw.cell (p:=⟨xb,1,none⟩) hxz).trans x1;have hs2:=(hSw.cell (p:=⟨xb,2,none⟩) hxz).trans x2;have hs3:=(hSw.cell (p:=⟨xb,3,none⟩) hxz).trans x3;have hs4:=(hSw.cell (p:=⟨xb,4,none⟩) hxz).trans x4
       go_simp<;>with_reducible rfl
      try simp only [Act.put,sA,sB,sC]
      refine tD (i:=8) (v:=?_) (some 49) rfl (Or.inl (Or.inl ⟨by rfl,?_⟩)) ?_
      rotate_left
      ·intro w' hSw
       (try dsimp only at hSw)
       have hs1:=(hSw.cell (p:=⟨xb,1,none⟩) hxz).trans x1;have hs2:=(hSw.cell (p:=⟨xb,2,none⟩) hxz).trans x2;have hs3:=(hSw.cell (p:=⟨xb,3,none⟩) hxz).trans x3;have hs4:=(hSw.cell (p:=⟨xb,4,none⟩) hxz).trans x4
       go_simp<;>with_reducible rfl
      try simp only [Act.put,sA,sB,sC]
      refine tD (i:=9) (v:=(.string T2)) (some 50) rfl (Or.inr ⟨by rfl, 188,#[.agg #[.int .i64 ux,.int .i64 uy]],?_,?_⟩) ?_
      ·intro w' hSw
       (try dsimp only at hSw)
       first | rfl | (go_simp;done) | (go_simp;with_reducible rfl)
      ·intro w' hSw
       exact (HP2.out w').mono fun e u ⟨he,hb⟩=>⟨he,hSw.trans (hb.mono hSw.size)⟩
      try simp only [Act.put,sA,sB,sC]
      refine tD (i:=10) (v:=?_) (some 51) rfl (Or.inl (Or.inl ⟨by rfl,?_⟩)) ?_
      rotate_left
      ·intro w' hSw
       (try dsimp only at hSw)
       have hs1:=(hSw.cell (p:=⟨xb,1,none⟩) hxz).trans x1;have hs2:=(hSw.cell (p:=⟨xb,2,none⟩) hxz).trans x2;have hs3:=(hSw.cell (p:=⟨xb,3,none⟩) hxz).trans x3;have hs4:=(hSw.cell (p:=⟨xb,4,none⟩) hxz).trans x4
       go_simp<;>with_reducible rfl
      try simp only [Act.put,sA,sB,sC]
      refine tD (i:=11) (v:=?_) (some 3) rfl (Or.inl (Or.inl ⟨by rfl,?_⟩)) ?_
      rotate_left
      ·intro w' hSw
       (try dsimp only at hSw)
       have hs1:=(hSw.cell (p:=⟨xb,1,none⟩) hxz).trans x1;have hs2:=(hSw.cell (p:=⟨xb,2,none⟩) hxz).trans x2;have hs3:=(hSw.cell (p:=⟨xb,3,none⟩) hxz).trans x3;have hs4:=(hSw.cell (p:=⟨xb,4,none⟩) hxz).trans x4
       go_simp<;>with_reducible rfl
      try simp only [Act.put,sA,sB,sC]
      refine wpAnyD_done (by kernel_rfl) (fun w' hSw=>?_) _
      have HS2:=hid (p_below HSX.out hSw)
      have HB2:=hid (HB1.out.trans (hSw.mono HB1.out.size))
      clear x0 x1 x2 x3 x4 x5 HP1 HP2
      have x0:=cell_of HS2.out 0 _ rfl
      have x1:=cell_of HS2.out 1 _ rfl
      have x2:=cell_of HS2.out 2 _ rfl
      have x3:=cell_of HS2.out 3 _ rfl
      have x4:=cell_of HS2.out 4 _ rfl
      have x5:=cell_of HS2.out 5 _ rfl
      go_wp2
      go_roundw
      case rel=>exact ⟨k'+1+1,by have:=HLT.out;omega,by go_num,by rw [HJN.out,← HFIN.out],HB2.out⟩
      case measure=>simp [intOf];have:=HLT.out;omega
     ·skip
      have z0:(9223372036854775807 < SB.size+4)=False:=eq_false (by omega)
      have z1:(9223372036854775807 < SB.size+4+T1.size)=False:=eq_false (by omega)
      have z2:(9223372036854775807 < SB.size+4+T1.size+8)=False:=eq_false (by omega)
      have z3:(9223372036854775807 < SB.size+4+T1.size+8+T2.size)=False:=eq_false (by omega)
      have z4:(9223372036854775807 < SB.size+4+T1.size+8+T2.size+10)=False:=eq_false (by omega)
      have HFIN:Hid ((((((SB++(ByteArray.mk #[97,114,99,32]))++T1)++(ByteArray.mk #[32,97,114,111,117,110,100,32]))++T2)++(ByteArray.mk #[32,99,108,111,99,107,119,105,115,101]))=ByteArray.mk (cur++Pa.stepT ⟨true,(tx,ty),(ux,uy),true⟩).toArray):=hid (by
       rw [← HSB.out,← HT1.out,← HT2.out,show (ByteArray.mk #[97,114,99,32])=ByteArray.mk ([97,114,99,32]:List UInt8).toArray from rfl,show (ByteArray.mk #[32,97,114,111,117,110,100,32])=ByteArray.mk ([32,97,114,111,117,110,100,32]:List UInt8).toArray from rfl,show (ByteArray.mk #[32,99,108,111,99,107,119,105,115,101])=ByteArray.mk ([32,99,108,111,99,107,119,105,115,101]:List UInt8).toArray from rfl,str_app,str_app,str_app,str_app,str_app]
       simp [Pa.stepT,kArc,kAround,kClock])
      have hxz:=blk_lt HSX.out
      go_upto_region 12 with fail
      refine wp_region_det (fun w'=>Below W1.heap.size W1 w') (by kernel_rfl) (below_drewN (Below.refl _ _) 1) ?_
      refine tD (i:=0) (v:=?_) (some 41) rfl (Or.inl (Or.inl ⟨by rfl,?_⟩)) ?_
      rotate_left
      ·intro w' hSw
       (try dsimp only at hSw)
       have hs1:=(hSw.cell (p:=⟨xb,1,none⟩) hxz).trans x1;have hs2:=(hSw.cell (p:=⟨xb,2,none⟩) hxz).trans x2;have hs3:=(hSw.cell (p:=⟨xb,3,none⟩) hxz).trans x3;have hs4:=(hSw.cell (p:=⟨xb,4,none⟩) hxz).trans x4
       go_simp<;>with_reducible rfl
      try simp only [Act.put,sA,sB,sC]
      refine tD (i:=1) (v:=?_) (some 42) rfl (Or.inl (Or.inl ⟨by rfl,?_⟩)) ?_
      rotate_left
      ·intro w' hSw
       (try dsimp only at hSw)
       have hs1:=(hSw.cell (p:=⟨xb,1,none⟩) hxz).trans x1;have hs2:=(hSw.cell (p:=⟨xb,2,none⟩) hxz).trans x2;have hs3:=(hSw.cell (p:=⟨xb,3,none⟩) hxz).trans x3;have hs4:=(hSw.cell (p:=⟨xb,4,none⟩) hxz).trans x4
       go_simp<;>with_reducible rfl
      try simp only [Act.put,sA,sB,sC]
      refine tD (i:=2) (v:=?_) (some 43) rfl (Or.inl (Or.inl ⟨by rfl,?_⟩)) ?_
      rotate_left
      ·intro w' hSw
       (try dsimp only at hSw)
       have hs1:=(hSw.cell (p:=⟨xb,1,none⟩) hxz).trans x1;have hs2:=(hSw.cell (p:=⟨xb,2,none⟩) hxz).trans x2;have hs3:=(hSw.cell (p:=⟨xb,3,none⟩) hxz).trans x3;have hs4:=(hSw.cell (p:=⟨xb,4,none⟩) hxz).trans x4
       go_simp<;>with_reducible rfl
      try simp only [Act.put,sA,sB,sC]
      refine tD (i:=3) (v:=?_) (some 44) rfl (Or.inl (Or.inl ⟨by rfl,?_⟩)) ?_
      rotate_left
      ·intro w' hSw
       (try dsimp only at hSw)
       have hs1:=(hSw.cell (p:=⟨xb,1,none⟩) hxz).trans x1;have hs2:=(hSw.cell (p:=⟨xb,2,none⟩) hxz).trans x2;have hs3:=(hSw.cell (p:=⟨xb,3,none⟩) hxz).trans x3;have hs4:=(hSw.cell (p:=⟨xb,4,none⟩) hxz).trans x4
       go_simp<;>with_reducible rfl
      try simp only [Act.put,sA,sB,sC]
      refine tD (i:=4) (v:=(.string T1)) (some 45) rfl (Or.inr ⟨by rfl, 188,#[.agg #[.int .i64 tx,.int .i64 ty]],?_,?_⟩) ?_
      ·intro w' hSw
       (try dsimp only at hSw)
       first | rfl | (go_simp;done) | (go_simp;with_reducible rfl)
      ·intro w' hSw
       exact (HP1.out w').mono fun e u ⟨he,hb⟩=>⟨he,hSw.trans (hb.mono hSw.size)⟩
      try simp only [Act.put,sA,sB,sC]
      refine tD (i:=5) (v:=?_) (some 46) rfl (Or.inl (Or.inl ⟨by rfl,?_⟩)) ?_
      rotate_left
      ·intro w' hSw
       (try dsimp only at hSw)
       have hs1:=(hSw.cell (p:=⟨xb,1,none⟩) hxz).trans x1;have hs2:=(hSw.cell (p:=⟨xb,2,none⟩) hxz).trans x2;have hs3:=(hSw.cell (p:=⟨xb,3,none⟩) hxz).trans x3;have hs4:=(hSw.cell (p:=⟨xb,4,none⟩) hxz).trans x4
       go_simp<;>with_reducible rfl
      try simp only [Act.put,sA,sB,sC]
      refine tD (i:=6) (v:=?_) (some 47) rfl (Or.inl (Or.inl ⟨by rfl,?_⟩)) ?_
      rotate_left
      ·intro w' hSw
       (try dsimp only at hSw)
       have hs1:=(hSw.cell (p:=⟨xb,1,none⟩) hxz).trans x1;have hs2:=(hSw.cell (p:=⟨xb,2,none⟩) hxz).trans x2;have hs3:=(hSw.cell (p:=⟨xb,3,none⟩) hxz).trans x3;have hs4:=(hSw.cell (p:=⟨xb,4,none⟩) hxz).trans x4
       go_simp<;>with_reducible rfl
      try simp only [Act.put,sA,sB,sC]
      refine tD (i:=7) (v:=?_) (some 48) rfl (Or.inl (Or.inl ⟨by rfl,?_⟩)) ?_
      rotate_left
      ·intro w' hSw
       (try dsimp only at hSw)
       have hs1:=(hSw.cell (p:=⟨xb,1,none⟩) hxz).trans x1;have hs2:=(hSw.cell (p:=⟨xb,2,none⟩) hxz).trans x2;have hs3:=(hSw.cell (p:=⟨xb,3,none⟩) hxz).trans x3;have hs4:=(hSw.cell (p:=⟨xb,4,none⟩) hxz).trans x4
       go_simp<;>with_reducible rfl
      try simp only [Act.put,sA,sB,sC]
      refine tD (i:=8) (v:=?_) (some 49) rfl (Or.inl (Or.inl ⟨by rfl,?_⟩)) ?_
      rotate_left
      ·intro w' hSw
       (try dsimp only at hSw)
       have hs1:=(hSw.cell (p:=⟨xb,1,none⟩) hxz).trans x1;have hs2:=(hSw.cell (p:=⟨xb,2,none⟩) hxz).trans x2;have hs3:=(hSw.cell (p:=⟨xb,3,none⟩) hxz).trans x3;have hs4:=(hSw.cell (p:=⟨xb,4,none⟩) hxz).trans x4
       go_simp<;>with_reducible rfl
      try simp only [Act.put,sA,sB,sC]
      refine tD (i:=9) (v:=(.string T2)) (some 50) rfl (Or.inr ⟨by rfl, 188,#[.agg #[.int .i64 ux,.int .i64 uy]],?_,?_⟩) ?_
      ·intro w' hSw
       (try dsimp only at hSw)
       first | rfl | (go_simp;done) | (go_simp;with_reducible rfl)
      ·intro w' hSw
       exact (HP2.out w').mono fun e u ⟨he,hb⟩=>⟨he,hSw.trans (hb.mono hSw.size)⟩
      try simp only [Act.put,sA,sB,sC]
      refine tD (i:=10) (v:=?_) (some 51) rfl (Or.inl (Or.inl ⟨by rfl,?_⟩)) ?_
      rotate_left
      ·intro w' hSw
       (try dsimp only at hSw)
       have hs1:=(hSw.cell (p:=⟨xb,1,none⟩) hxz).trans x1;have hs2:=(hSw.cell (p:=⟨xb,2,none⟩) hxz).trans x2;have hs3:=(hSw.cell (p:=⟨xb,3,none⟩) hxz).trans x3;have hs4:=(hSw.cell (p:=⟨xb,4,none⟩) hxz).trans x4
       go_simp<;>with_reducible rfl
      try simp only [Act.put,sA,sB,sC]
      refine tD (i:=11) (v:=?_) (some 3) rfl (Or.inl (Or.inl ⟨by rfl,?_⟩)) ?_
      rotate_left
      ·intro w' hSw
       (try dsimp only at hSw)
       have hs1:=(hSw.cell (p:=⟨xb,1,none⟩) hxz).trans x1;have hs2:=(hSw.cell (p:=⟨xb,2,none⟩) hxz).trans x2;have hs3:=(hSw.cell (p:=⟨xb,3,none⟩) hxz).trans x3;have hs4:=(hSw.cell (p:=⟨xb,4,none⟩) hxz).trans x4
       go_simp<;>with_reducible rfl
      try simp only [Act.put,sA,sB,sC]
      refine wpAnyD_done (by kernel_rfl) (fun w' hSw=>?_) _
      have HS2:=hid (p_below HSX.out hSw)
      have HB2:=hid (HB1.out.trans (hSw.mono HB1.out.size))
      clear x0 x1 x2 x3 x4 x5 HP1 HP2
      have x0:=cell_of HS2.out 0 _ rfl
      have x1:=cell_of HS2.out 1 _ rfl
      have x2:=cell_of HS2.out 2 _ rfl
      have x3:=cell_of HS2.out 3 _ rfl
      have x4:=cell_of HS2.out 4 _ rfl
      have x5:=cell_of HS2.out 5 _ rfl
      go_wp2
      go_roundw
      case rel=>exact ⟨k'+1+1,by have:=HLT.out;omega,by go_num,by rw [HJN.out,← HFIN.out],HB2.out⟩
      case measure=>simp [intOf];have:=HLT.out;omega
  ·obtain rfl:k=st.length:=by omega
   rw [List.take_length]
   clear hlt hk
   go_wp2
   go_ret
   exact ⟨rfl,HBW.out⟩
theorem routlineT_any {TS:TypeId} {base:Nat} (x:OutM) (w:World) (ho:OutIn TS base w x) (hok:outlineOk x.o=true) :
  Calls Tryz.prog 133 #[outV x.o x.A x.d] w fun e w'=>e=.returned (.string ⟨(outlineT x.o).toArray⟩)∧Below w.heap.size w w':=by
 obtain ⟨⟨circ,⟨cx,cy⟩,ra,st⟩,A,d⟩:=x
 cases circ with
 | true=>exact routlineT_circle cx cy ra st A d w hok
 | false=>exact routlineT_path cx cy ra st A d w ho.1 hok
end Go.Proofs.YtnkkcknogkgdkaaGreatDoor.PaW

namespace Go.Proofs.YtnkkcknogkgdkaaGreatDoor.PaW
open Lib (hid)
open Go Go.RowKit Go.Proofs.YtnkkcknogkgdkaaGreatDoor.Mem Go.Proofs.YtnkkcknogkgdkaaGreatDoor.Pa
open Go.Proofs.YtnkkcknogkgdkaaGreatDoor.Ge (V)
open Go.Proofs.YtnkkcknogkgdkaaGreatDoor.Lex (Tok)
open Go.Proofs.YtnkkcknogkgdkaaGreatDoor.LexW (tokCells)
attribute [local go_sem ↓] Go.wp_at_zero Go.wp_at_succ

open Go.Proofs.YtnkkcknogkgdkaaGreatDoor.Ge (within)
open Go.Proofs.YtnkkcknogkgdkaaGreatDoor.PqW (writeString_k strCells_mk byteCells_app isBuilder_below b_new)
open Go.Proofs.YtnkkcknogkgdkaaGreatDoor.LexW (ritoa_any)
theorem nums_text_snoc (ts:List Int) (k:Nat) (h:k < ts.length):joinB [44,32] ((ts.take (k+1)).map Lib.itoa)=(if k=0 then [] else joinB [44,32] ((ts.take k).map Lib.itoa)++[44,32])++Lib.itoa ts[k]:=by
 rw [List.take_succ_eq_append_getElem h,List.map_append,List.map_singleton,joinB_snoc]
 by_cases h0:k=0
 ·subst h0
  simp
 ·rw [if_neg h0,if_neg (by
   intro e
   have:=congrArg List.length e
   simp only [List.length_map,List.length_take,List.length_nil] at this
   omega)]
  simp
set_option maxRecDepth 100000 in
set_option maxHeartbeats 16000000 in
theorem rtext_any {TT TO TS:TypeId} {base:Nat} (ms:List SrcM) (A:Option Addr) (c:Nat) (w:World) (h:SrcsIn TT TO TS base w A ms) (hok:(∀ m∈ms,SOk m.src)∧ms.length≤20) :
  Calls Tryz.prog 74 #[.slice A ms.length c] w fun e w'=>e=.returned (.string ⟨(printT (ms.map SrcM.src)).toArray⟩)∧Below w.heap.size w w':=by
 have HS:=hid h
 have HAL:=hid hok
 have HTL0:Hid (∀ q,(printT ((ms.map SrcM.src).take q)).length≤500000000):=hid (fun q=>by
  have h1:=print_tlen ((ms.map SrcM.src).take q) (fun x hx=>by
   obtain ⟨m,hm,rfl⟩:=List.mem_map.1 (List.mem_of_mem_take hx)
   exact source_tlen (HAL.out.1 m hm) (HS.out.2 m hm).2.2.2.2.1)
  have h2:((ms.map SrcM.src).take q).length≤20:=by rw [List.length_take,List.length_map];have:=HAL.out.2;omega
  exact Nat.le_trans h1 (Nat.mul_le_mul_left 25000000 h2))
 clear h hok
 go_enter Tryz.func74,Tryz.ntmps74
 go_wp2_with fail
 go_loopw [3,4] (fun s i wr=>∃ k:Nat,k≤ms.length∧i=.int .i64 (k:Int)∧s=.string ⟨(printT ((ms.map SrcM.src).take k)).toArray⟩∧Below w.heap.size w wr) (fun _ i _=>ms.length - (intOf i).toNat)
 case atStart=>exact ⟨0,Nat.zero_le _,rfl,rfl,Below.refl _ _⟩
 case round =>
  obtain ⟨k,hk,rfl,rfl,hbr⟩:=hrel
  have hmx:=HAL.out.2
  have HBR:=hid hbr
  clear hbr
  by_cases hkl:k < ms.length
  ·obtain ⟨g,off,rfl,hg,ca⟩:=row_get src_len (by decide) (HS.out.1.1.below HBR.out) (by omega)
   have a0:=ca k hkl 0 (by decide)
   have a1:=ca k hkl 1 (by decide)
   have a2:=ca k hkl 2 (by decide)
   have a3:=ca k hkl 3 (by decide)
   have a4:=ca k hkl 4 (by decide)
   have a5:=ca k hkl 5 (by decide)
   have a6:=ca k hkl 6 (by decide)
   have a7:=ca k hkl 7 (by decide)
   have a8:=ca k hkl 8 (by decide)
   have a9:=ca k hkl 9 (by decide)
   have a10:=ca k hkl 10 (by decide)
   have HSI:=hid (HS.out.2 ms[k] (List.getElem_mem hkl))
   have HSO:=hid (HAL.out.1 ms[k] (List.getElem_mem hkl))
   have HKL:=hid hkl
   have hk1:(0:Int)≤(k:Int):=by omega
   have hk2:(k:Int) < (ms.length:Int):=by omega
   have HPK:Hid (printT ((ms.map SrcM.src).take (k+1))=printT ((ms.map SrcM.src).take k)++sourceT ms[k].src):=hid (by
    have e:=List.take_succ_eq_append_getElem (l:=ms.map SrcM.src) (i:=k) (by rw [List.length_map];exact hkl)
    rw [e,print_snoc,List.getElem_map]
    rfl)
   clear ca hk
   generalize ms[k]=m at *
   simp only [srcCells,strV,List.getElem?_cons_zero,List.getElem?_cons_succ,Nat.add_zero] at a0 a1 a2 a3 a4 a5 a6 a7 a8 a9 a10
   clear hkl
   have HNL:Hid (m.name.length≤16):=hid HSO.out.name
   have HGL:Hid (m.grade.length≤16):=hid HSO.out.grade
   obtain ⟨o0,HOO⟩:∃ o,Hid (printT ((ms.map SrcM.src).take k)=o):=⟨_,hid rfl⟩
   have HL0:=hid (HTL0.out k)
   rw [HOO.out] at HL0 ⊢
   obtain ⟨B0,HBB0⟩:∃ B,Hid (ByteArray.mk o0.toArray=B):=⟨_,hid rfl⟩
   rw [HBB0.out]
   have hbx:=bel1 wr (.cells #[.string ⟨m.name.toArray⟩,.string ⟨m.grade.toArray⟩,.int .i64 m.grain,.slice m.tA m.turns.length m.tc,.int .i64 m.tol,.bool m.outer.o.circle,.int .i64 m.outer.o.center.1,.int .i64 m.outer.o.center.2,.int .i64 m.outer.o.radius,.slice m.outer.A m.outer.o.steps.length m.outer.d,.slice m.hA m.holes.length m.hc] 41)
   have HX0:=hid (heap_new wr (.cells #[.string ⟨m.name.toArray⟩,.string ⟨m.grade.toArray⟩,.int .i64 m.grain,.slice m.tA m.turns.length m.tc,.int .i64 m.tol,.bool m.outer.o.circle,.int .i64 m.outer.o.center.1,.int .i64 m.outer.o.center.2,.int .i64 m.outer.o.radius,.slice m.outer.A m.outer.o.steps.length m.outer.d,.slice m.hA m.holes.length m.hc] 41))
   have HB0:=hid (HBR.out.trans (hbx.mono HBR.out.size))
   go_upto_region 6 with fail
   clear a0 a1 a2 a3 a4 a5 a6 a7 a8 a9 a10 hbx HBR
   generalize wr.alloc (.cells #[.string ⟨m.name.toArray⟩,.string ⟨m.grade.toArray⟩,.int .i64 m.grain,.slice m.tA m.turns.length m.tc,.int .i64 m.tol,.bool m.outer.o.circle,.int .i64 m.outer.o.center.1,.int .i64 m.outer.o.center.2,.int .i64 m.outer.o.radius,.slice m.outer.A m.outer.o.steps.length m.outer.d,.slice m.hA m.holes.length m.hc] 41)=W0 at *
   generalize wr.heap.size=xb at *
   have x0:=cell_of HX0.out 0 _ rfl
   have x1:=cell_of HX0.out 1 _ rfl
   obtain ⟨NB,HNB⟩:∃ B,Hid (ByteArray.mk m.name.toArray=B):=⟨_,hid rfl⟩
   obtain ⟨GB,HGB⟩:∃ B,Hid (ByteArray.mk m.grade.toArray=B):=⟨_,hid rfl⟩
   rw [HNB.out] at x0
   rw [HGB.out] at x1
   have hns:NB.size≤16:=by rw [← HNB.out,str_size];exact HNL.out
   have hgs:GB.size≤16:=by rw [← HGB.out,str_size];exact HGL.out
   have hb0:B0.size≤500000000:=by rw [← HBB0.out,str_size];exact HL0.out
   have z60:(9223372036854775807 < B0.size+5)=False:=eq_false (by omega)
   have z61:(9223372036854775807 < B0.size+5+NB.size)=False:=eq_false (by omega)
   have z62:(9223372036854775807 < B0.size+5+NB.size+10)=False:=eq_false (by omega)
   have z63:(9223372036854775807 < B0.size+5+NB.size+10+GB.size)=False:=eq_false (by omega)
   have z64:(9223372036854775807 < B0.size+5+NB.size+10+GB.size+2)=False:=eq_false (by omega)
   obtain ⟨o1,HO1⟩:∃ o,Hid (o0++(kPart++(32::(m.name++(32::123::10::lineT kGrade m.grade))))=o):=⟨_,hid rfl⟩
   have HL1:Hid (o1.length≤500000100):=hid (by rw [← HO1.out,List.length_append];have:=HL0.out;have h1:=HNL.out;have h2:=HGL.out;have:(kPart++(32::(m.name++(32::123::10::lineT kGrade m.grade)))).length=m.name.length+m.grade.length+17:=(by simp [kPart,lineT,kGrade];omega);omega)
   obtain ⟨B1,HBB1⟩:∃ B,Hid (ByteArray.mk o1.toArray=B):=⟨_,hid rfl⟩
   have HE1:Hid ((((((B0++(ByteArray.mk #[112,97,114,116,32]))++NB)++(ByteArray.mk #[32,123,10,9,103,114,97,100,101,32]))++GB)++(ByteArray.mk #[59,10]))=B1):=hid (by
    rw [← HBB1.out,← HO1.out,← HBB0.out,← HNB.out,← HGB.out,show (ByteArray.mk #[112,97,114,116,32])=ByteArray.mk ([112,97,114,116,32]:List UInt8).toArray from rfl,show (ByteArray.mk #[32,123,10,9,103,114,97,100,101,32])=ByteArray.mk ([32,123,10,9,103,114,97,100,101,32]:List UInt8).toArray from rfl,show (ByteArray.mk #[59,10])=ByteArray.mk ([59,10]:List UInt8).toArray from rfl,str_app,str_app,str_app,str_app,str_app]
    simp [kPart,lineT,kGrade])
   go_upto_region 7 with fail
   rw [HE1.out]
   clear x0 x1 z60 z61 z62 z63 z64 hns hgs hb0
   have x2:=cell_of HX0.out 2 _ rfl
   have hgr:0≤m.grain∧m.grain≤2:=HSO.out.grain
   obtain ⟨g,HGG⟩:∃ g,Hid (m.grain=g):=⟨_,hid rfl⟩
   rw [HGG.out] at x2 hgr
   go_upto_block 2 with fail
   go_cut [3] (fun v wc=>v=.string ⟨(o1++grainT g).toArray⟩∧wc=W0)
   case first =>
    rcases (show g=0∨g=1∨g=2 by omega) with rfl | rfl | rfl
    ·go_wp2_with fail
     go_meet
     exact ⟨by rw [show grainT 0=[] from rfl,List.append_nil,HBB1.out],rfl⟩
    ·skip
     have hb1:B1.size≤500000100:=by rw [← HBB1.out,str_size];exact HL1.out
     have z0:(9223372036854775807 < B1.size+10)=False:=eq_false (by omega)
     have HGE:Hid ((B1++(ByteArray.mk #[9,103,114,97,105,110,32,120,59,10]))=ByteArray.mk (o1++grainT 1).toArray):=hid (by
      rw [← HBB1.out,show (ByteArray.mk #[9,103,114,97,105,110,32,120,59,10])=ByteArray.mk ([9,103,114,97,105,110,32,120,59,10]:List UInt8).toArray from rfl,str_app]
      simp [grainT,lineT,kGrain,kX])
     go_wp2_with fail
     go_meet
     exact ⟨by rw [HGE.out],rfl⟩
    ·skip
     have hb1:B1.size≤500000100:=by rw [← HBB1.out,str_size];exact HL1.out
     have z0:(9223372036854775807 < B1.size+10)=False:=eq_false (by omega)
     have HGE:Hid ((B1++(ByteArray.mk #[9,103,114,97,105,110,32,121,59,10]))=ByteArray.mk (o1++grainT 2).toArray):=hid (by
      rw [← HBB1.out,show (ByteArray.mk #[9,103,114,97,105,110,32,121,59,10])=ByteArray.mk ([9,103,114,97,105,110,32,121,59,10]:List UInt8).toArray from rfl,str_app]
      simp [grainT,lineT,kGrain,kY])
     go_wp2_with fail
     go_meet
     exact ⟨by rw [HGE.out],rfl⟩
   obtain ⟨rfl,hwc⟩:=hcut
   replace hwc:=hwc.symm
   subst hwc
   clear x2 hgr
   obtain ⟨oc,HOc⟩:∃ o,Hid (o1++grainT g=o):=⟨_,hid rfl⟩
   have HLc:Hid (oc.length≤500000110):=hid (by rw [← HOc.out,List.length_append];have:=HL1.out;have:=grain_len g;omega)
   obtain ⟨Bc,HBBc⟩:∃ B,Hid (ByteArray.mk oc.toArray=B):=⟨_,hid rfl⟩
   rw [HOc.out,HBBc.out]
   have hbc:Bc.size≤500000110:=by rw [← HBBc.out,str_size];exact HLc.out
   have z0:(9223372036854775807 < Bc.size+7)=False:=eq_false (by omega)
   obtain ⟨o3,HO3⟩:∃ o,Hid (oc++[9,116,117,114,110,115,32]=o):=⟨_,hid rfl⟩
   have HL3:Hid (o3.length≤500000120):=hid (by rw [← HO3.out,List.length_append];have:=HLc.out;have:([9,116,117,114,110,115,32]:List UInt8).length=7:=rfl;omega)
   obtain ⟨B3,HBB3⟩:∃ B,Hid (ByteArray.mk o3.toArray=B):=⟨_,hid rfl⟩
   have HE3:Hid ((Bc++(ByteArray.mk #[9,116,117,114,110,115,32]))=B3):=hid (by rw [← HBB3.out,← HO3.out,← HBBc.out,show (ByteArray.mk #[9,116,117,114,110,115,32])=ByteArray.mk ([9,116,117,114,110,115,32]:List UInt8).toArray from rfl,str_app])
   have HTR:=hid HSI.out.1.1
   have HTL:=hid HSI.out.2.2.2.2.1
   have HTS:Hid (∀ t∈m.turns,0≤t∧t≤7):=hid HSO.out.turns
   go_upto_region 13 with fail
   rw [HE3.out]
   clear z0 hbc
   go_wp2_with fail
   go_loopw [3,6] (fun s i wn=>∃ q:Nat,q≤m.turns.length∧i=.int .i64 (q:Int)∧s=.string ⟨(o3++joinB [44,32] ((m.turns.take q).map Lib.itoa)).toArray⟩∧Below W0.heap.size W0 wn) (fun _ i _=>m.turns.length - (intOf i).toNat)
   case atStart=>exact ⟨0,Nat.zero_le _,rfl,by rw [List.take_zero,List.map_nil,joinB,List.append_nil,HBB3.out],Below.refl _ _⟩
   case round =>
    obtain ⟨q,hq,rfl,rfl,hbt⟩:=hrel
    have hmx:=HTL.out
    have HBT:=hid hbt
    have HXT:=hid (p_below HX0.out hbt)
    have x3:=cell_of HXT.out 3 (.slice m.tA m.turns.length m.tc) rfl
    have hjl:(joinB [44,32] ((m.turns.take q).map Lib.itoa)).length≤23000000:=turns_tlen (fun t ht=>HTS.out t (List.mem_of_mem_take ht)) (by rw [List.length_take];omega)
    obtain ⟨ow,HOW⟩:∃ o,Hid (o3++joinB [44,32] ((m.turns.take q).map Lib.itoa)=o):=⟨_,hid rfl⟩
    have hls:ow.length≤523000120:=by rw [← HOW.out,List.length_append];have:=HL3.out;omega
    clear hjl
    by_cases hqt:q < m.turns.length
    ·have HBW:=hid (HB0.out.trans (hbt.mono HB0.out.size))
     obtain ⟨tg,toff,hta,htg,ca⟩:=int_get (HTR.out.below HBW.out) hqt
     have a0:=ca q hqt
     have hsm:=HTS.out m.turns[q] (List.getElem_mem hqt)
     have HQT:=hid hqt
     have hk1:(0:Int)≤(q:Int):=by omega
     have hk2:(q:Int) < (m.turns.length:Int):=by omega
     have HTK:=hid (nums_text_snoc m.turns q hqt)
     have HE:=hid (fun W=>ritoa_any m.turns[q] W (by omega) (by omega))
     rw [hta] at x3
     clear hta
     have hil:=Lib.itoa_length_le m.turns[q] (by omega) (by omega)
     clear ca hsm
     generalize m.turns[q]=tv at *
     obtain ⟨TB,HTB⟩:∃ T,Hid (ByteArray.mk (Lib.itoa tv).toArray=T):=⟨_,hid rfl⟩
     rw [HTB.out] at HE
     have hts:TB.size≤21:=by rw [← HTB.out,str_size];exact hil
     clear hil
     clear hqt hq
     rcases q with _ | q
     ·rw [Nat.add_zero] at a0
      have HOX:Hid (ow=o3):=hid (by rw [← HOW.out,List.take_zero,List.map_nil,joinB,List.append_nil])
      rw [if_pos rfl,List.nil_append] at HTK
      rw [HOW.out,HOX.out,HBB3.out]
      have hb3:B3.size≤500000120:=by rw [← HBB3.out,str_size];exact HL3.out
      have z0:(9223372036854775807 < B3.size+TB.size)=False:=eq_false (by omega)
      have HFIN:Hid ((B3++TB)=ByteArray.mk (o3++Lib.itoa tv).toArray):=hid (by rw [← HBB3.out,← HTB.out,str_app])
      go_wp2_with fail
      refine (HE.out wr).mono ?_
      rintro e wm ⟨rfl,hb⟩
      have HBM:=hid (HBT.out.trans (hb.mono HBT.out.size))
      clear hb a0 x3 HE
      go_wp2
      go_roundw
      case rel=>exact ⟨0+1,by have:=HQT.out;omega,by go_num,by rw [HTK.out,← HFIN.out],HBM.out⟩
      case measure=>simp [intOf];have:=HQT.out;omega
     ·rw [if_neg (by omega)] at HTK
      obtain ⟨WB,HWB⟩:∃ B,Hid (ByteArray.mk ow.toArray=B):=⟨_,hid rfl⟩
      rw [HOW.out,HWB.out]
      have hbw:WB.size≤523000120:=by rw [← HWB.out,str_size];exact hls
      have d0:decide ((0:Int) < ((q+1:Nat):Int))=true:=decide_eq_true (by omega)
      have z0:(9223372036854775807 < WB.size+2)=False:=eq_false (by omega)
      have z1:(9223372036854775807 < WB.size+2+TB.size)=False:=eq_false (by omega)
      have HFIN:Hid (((WB++(ByteArray.mk #[44,32]))++TB)=ByteArray.mk (o3++((joinB [44,32] ((m.turns.take (q+1)).map Lib.itoa)++[44,32])++Lib.itoa tv)).toArray):=hid (by
       rw [← HWB.out,← HOW.out,← HTB.out,show (ByteArray.mk #[44,32])=ByteArray.mk ([44,32]:List UInt8).toArray from rfl,str_app,str_app]
       simp)
      go_wp2_with fail
      refine (HE.out wr).mono ?_
      rintro e wm ⟨rfl,hb⟩
      have HBM:=hid (HBT.out.trans (hb.mono HBT.out.size))
      clear hb a0 x3 HE
      go_wp2
      go_roundw
      case rel=>exact ⟨q+1+1,by have:=HQT.out;omega,by go_num,by rw [HTK.out,← HFIN.out],HBM.out⟩
      case measure=>simp [intOf];have:=HQT.out;omega
    ·obtain rfl:q=m.turns.length:=by omega
     rw [List.take_length] at HOW
     rw [List.take_length]
     have HLw:Hid (ow.length≤523000120):=hid hls
     obtain ⟨Bw,HBBw⟩:∃ B,Hid (ByteArray.mk ow.toArray=B):=⟨_,hid rfl⟩
     rw [HOW.out,HBBw.out]
     have hbw:Bw.size≤523000120:=by rw [← HBBw.out,str_size];exact hls
     have z0:(9223372036854775807 < Bw.size+2)=False:=eq_false (by omega)
     obtain ⟨o4,HO4⟩:∃ o,Hid (ow++[59,10]=o):=⟨_,hid rfl⟩
     have HL4:Hid (o4.length≤523000130):=hid (by rw [← HO4.out,List.length_append];have:=HLw.out;have:([59,10]:List UInt8).length=2:=rfl;omega)
     obtain ⟨B4,HBB4⟩:∃ B,Hid (ByteArray.mk o4.toArray=B):=⟨_,hid rfl⟩
     have HE4:Hid ((Bw++(ByteArray.mk #[59,10]))=B4):=hid (by rw [← HBB4.out,← HO4.out,← HBBw.out,show (ByteArray.mk #[59,10])=ByteArray.mk ([59,10]:List UInt8).toArray from rfl,str_app])
     go_upto_region 20 with fail
     rw [HE4.out]
     clear z0 hbw x3 hls hq hqt
     have x4:=cell_of HXT.out 4 _ rfl
     have htl:1≤m.tol∧m.tol≤50:=HSO.out.tol
     obtain ⟨tl,HTT⟩:∃ t,Hid (m.tol=t):=⟨_,hid rfl⟩
     rw [HTT.out] at x4 htl
     go_upto_if 63 with (fail)
     go_cut [3] (fun v wc=>v=.string ⟨(o4++tolT tl).toArray⟩∧Below W0.heap.size W0 wc)
     case first =>
      by_cases ht1:tl=1
      ·subst ht1
       have n1:((1:Int) != 1)=false:=rfl
       go_wp2_with fail
       go_meet
       exact ⟨by rw [show tolT 1=[] from rfl,List.append_nil,HBB4.out],HBT.out⟩
      ·have n1:(tl != 1)=true:=bne_iff_ne.2 ht1
       have hil:=Lib.itoa_length_le tl (by omega) (by omega)
       have HE:=hid (ritoa_any tl wr (by omega) (by omega))
       obtain ⟨IB,HIB⟩:∃ i,Hid (ByteArray.mk (Lib.itoa tl).toArray=i):=⟨_,hid rfl⟩
       rw [HIB.out] at HE
       have his:IB.size≤21:=by rw [← HIB.out,str_size];exact hil
       have hb4:B4.size≤523000130:=by rw [← HBB4.out,str_size];exact HL4.out
       have z0:(9223372036854775807 < B4.size+11)=False:=eq_false (by omega)
       have z1:(9223372036854775807 < B4.size+11+IB.size)=False:=eq_false (by omega)
       have z2:(9223372036854775807 < B4.size+11+IB.size+2)=False:=eq_false (by omega)
       have HFIN:Hid ((((B4++(ByteArray.mk #[9,116,111,108,101,114,97,110,99,101,32]))++IB)++(ByteArray.mk #[59,10]))=ByteArray.mk (o4++tolT tl).toArray):=hid (by
        rw [← HBB4.out,← HIB.out,show (ByteArray.mk #[9,116,111,108,101,114,97,110,99,101,32])=ByteArray.mk ([9,116,111,108,101,114,97,110,99,101,32]:List UInt8).toArray from rfl,show (ByteArray.mk #[59,10])=ByteArray.mk ([59,10]:List UInt8).toArray from rfl,str_app,str_app,str_app]
        simp [tolT,ht1,lineT,kTol])
       clear ht1 hil htl
       go_wp2_with fail
       refine HE.out.mono ?_
       rintro e wi ⟨rfl,hb⟩
       have HBi:=hid (HBT.out.trans (hb.mono HBT.out.size))
       clear hb HE x4
       go_wp2_with fail
       go_meet
       exact ⟨by rw [← HFIN.out],HBi.out⟩
     obtain ⟨rfl,hbc⟩:=hcut
     have HLt:=hid (tol_len htl)
     clear htl x4 HXT HBT hbt
     have HBC:=hid hbc
     have HXC:=hid (p_below HX0.out hbc)
     clear hbc
     obtain ⟨o5,HO5⟩:∃ o,Hid (o4++tolT tl=o):=⟨_,hid rfl⟩
     have HL5:Hid (o5.length≤523000170):=hid (by rw [← HO5.out,List.length_append];have:=HL4.out;have:=HLt.out;omega)
     obtain ⟨B5,HBB5⟩:∃ B,Hid (ByteArray.mk o5.toArray=B):=⟨_,hid rfl⟩
     rw [HO5.out,HBB5.out]
     have hb5:B5.size≤523000170:=by rw [← HBB5.out,str_size];exact HL5.out
     have x5:=cell_of HXC.out 5 _ rfl
     have x6:=cell_of HXC.out 6 _ rfl
     have x7:=cell_of HXC.out 7 _ rfl
     have x8:=cell_of HXC.out 8 _ rfl
     have x9:=cell_of HXC.out 9 _ rfl
     have HOB:=hid ((HSI.out.2.1.below HB0.out).below HBC.out)
     have HE6:=hid (routlineT_any m.outer wc HOB.out HSO.out.outer)
     unfold outV at HE6
     have hol:=outline_len HSO.out.outer
     obtain ⟨ot,HOT⟩:∃ o,Hid (outlineT m.src.outer=o):=⟨_,hid rfl⟩
     rw [HOT.out] at hol
     rw [show outlineT m.outer.o=ot from HOT.out] at HE6
     have HOLN:=hid hol
     obtain ⟨OB,HOBB⟩:∃ B,Hid (ByteArray.mk ot.toArray=B):=⟨_,hid rfl⟩
     rw [HOBB.out] at HE6
     have hos:OB.size≤6000:=by rw [← HOBB.out,str_size];exact hol
     have z0:(9223372036854775807 < B5.size+6)=False:=eq_false (by omega)
     have z1:(9223372036854775807 < B5.size+6+OB.size)=False:=eq_false (by omega)
     have z2:(9223372036854775807 < B5.size+6+OB.size+2)=False:=eq_false (by omega)
     obtain ⟨o6,HO6⟩:∃ o,Hid (o5++lineT kRing ot=o):=⟨_,hid rfl⟩
     have HL6:Hid (o6.length≤523006180):=hid (by rw [← HO6.out,List.length_append];have:=HL5.out;rw [line_len];have:=HOLN.out;have:kRing.length=4:=rfl;omega)
     obtain ⟨B6,HBB6⟩:∃ B,Hid (ByteArray.mk o6.toArray=B):=⟨_,hid rfl⟩
     have HE6E:Hid ((((B5++(ByteArray.mk #[9,114,105,110,103,32]))++OB)++(ByteArray.mk #[59,10]))=B6):=hid (by
      rw [← HBB6.out,← HO6.out,← HBB5.out,← HOBB.out,show (ByteArray.mk #[9,114,105,110,103,32])=ByteArray.mk ([9,114,105,110,103,32]:List UInt8).toArray from rfl,show (ByteArray.mk #[59,10])=ByteArray.mk ([59,10]:List UInt8).toArray from rfl,str_app,str_app,str_app]
      simp [lineT,kRing])
     clear hol
     go_wp2_with fail
     refine HE6.out.mono ?_
     rintro e w6 ⟨rfl,hb⟩
     have HB6:=hid (HBC.out.trans (hb.mono HBC.out.size))
     clear hb HE6 x5 x6 x7 x8 x9 HOB HXC HBC
     go_upto_region 23 with fail
     rw [HE6E.out]
     clear z0 z1 z2 hb5 hos
     have HHR:=hid (HSI.out.2.2.1.1.below HB0.out)
     have HHI:=hid (fun h hh=>(HSI.out.2.2.2.1 h hh).below HB0.out)
     have HHO:Hid (∀ h∈m.holes,outlineOk h.o=true):=hid (fun h hh=>HSO.out.hole h.o (List.mem_map_of_mem hh))
     have HHL:Hid (m.holes.length≤6):=hid (by have:=HSO.out.holes;simpa [SrcM.src] using this)
     obtain ⟨wo,hwo⟩:∃ wo,wo=w6:=⟨_,rfl⟩
     have HBO:Hid (Below W0.heap.size W0 wo):=hid (by rw [hwo];exact HB6.out)
     rw [← hwo]
     clear hwo HB6
     go_wp2_with fail
     go_loopw [3,7] (fun s i wh=>∃ q:Nat,q≤m.holes.length∧i=.int .i64 (q:Int)∧s=.string ⟨(o6++((m.holes.take q).flatMap fun h=>lineT kHole (outlineT h.o))).toArray⟩∧Below W0.heap.size W0 wh) (fun _ i _=>m.holes.length - (intOf i).toNat)
     case atStart=>exact ⟨0,Nat.zero_le _,rfl,by rw [List.take_zero,List.flatMap_nil,List.append_nil,HBB6.out],HBO.out⟩
     case round =>
      obtain ⟨q,hq,rfl,rfl,hbh⟩:=hrel
      have hmh:=HHL.out
      have HBH:=hid hbh
      have HXH:=hid (p_below HX0.out hbh)
      have x10:=cell_of HXH.out 10 (.slice m.hA m.holes.length m.hc) rfl
      have hlf:((m.holes.take q).flatMap fun h=>lineT kHole (outlineT h.o)).length≤36060:=by
       have h1:=holes_len ((m.holes.take q).map OutM.o) (fun o ho=>by
        obtain ⟨h,hh,rfl⟩:=List.mem_map.1 ho
        exact HHO.out h (List.mem_of_mem_take hh))
       rw [List.flatMap_map,List.length_map] at h1
       have h4:(m.holes.take q).length≤6:=by rw [List.length_take];omega
       exact Nat.le_trans h1 (Nat.mul_le_mul_left 6010 h4)
      obtain ⟨oh,HOH⟩:∃ o,Hid (o6++((m.holes.take q).flatMap fun h=>lineT kHole (outlineT h.o))=o):=⟨_,hid rfl⟩
      have HLh:Hid (oh.length≤523042240):=hid (by rw [← HOH.out,List.length_append];have:=HL6.out;omega)
      obtain ⟨Bh,HBBh⟩:∃ B,Hid (ByteArray.mk oh.toArray=B):=⟨_,hid rfl⟩
      have hbh_:Bh.size≤523042240:=by rw [← HBBh.out,str_size];exact HLh.out
      clear hlf hbh
      by_cases hqt:q < m.holes.length
      ·obtain ⟨tg,toff,hta,htg,ca⟩:=row_get out_len (by decide) (HHR.out.below HBH.out) (by omega)
       have a0:=ca q hqt 0 (by decide)
       have a1:=ca q hqt 1 (by decide)
       have a2:=ca q hqt 2 (by decide)
       have a3:=ca q hqt 3 (by decide)
       have a4:=ca q hqt 4 (by decide)
       have HQT:=hid hqt
       have hk1:(0:Int)≤(q:Int):=by omega
       have hk2:(q:Int) < (m.holes.length:Int):=by omega
       have HTK:Hid (((m.holes.take (q+1)).flatMap fun h=>lineT kHole (outlineT h.o))=((m.holes.take q).flatMap fun h=>lineT kHole (outlineT h.o))++lineT kHole (outlineT m.holes[q].o)):=hid (by rw [List.take_succ_eq_append_getElem hqt,List.flatMap_append,List.flatMap_singleton];rfl)
       have HOK:=hid (HHO.out _ (List.getElem_mem hqt))
       have HIN:=hid ((HHI.out _ (List.getElem_mem hqt)).below HBH.out)
       rw [hta] at x10
       clear hta
       rw [HOH.out,HBBh.out]
       clear ca hq
       generalize m.holes[q]=h at *
       simp only [outCells,List.getElem?_cons_zero,List.getElem?_cons_succ,Nat.add_zero] at a0 a1 a2 a3 a4
       clear hqt
       have HE:=hid (routlineT_any h wr HIN.out HOK.out)
       unfold outV at HE
       have hol:=outline_len HOK.out
       obtain ⟨ot2,HOT2⟩:∃ o,Hid (outlineT h.o=o):=⟨_,hid rfl⟩
       rw [HOT2.out] at hol HE HTK
       obtain ⟨OB2,HOB2⟩:∃ B,Hid (ByteArray.mk ot2.toArray=B):=⟨_,hid rfl⟩
       rw [HOB2.out] at HE
       have hos:OB2.size≤6000:=by rw [← HOB2.out,str_size];exact hol
       have z0:(9223372036854775807 < Bh.size+6)=False:=eq_false (by omega)
       have z1:(9223372036854775807 < Bh.size+6+OB2.size)=False:=eq_false (by omega)
       have z2:(9223372036854775807 < Bh.size+6+OB2.size+2)=False:=eq_false (by omega)
       have HFIN:Hid ((((Bh++(ByteArray.mk #[9,104,111,108,101,32]))++OB2)++(ByteArray.mk #[59,10]))=ByteArray.mk (o6++((m.holes.take (q+1)).flatMap fun h=>lineT kHole (outlineT h.o))).toArray):=hid (by
        rw [HTK.out,← List.append_assoc,HOH.out,← HBBh.out,← HOB2.out,show (ByteArray.mk #[9,104,111,108,101,32])=ByteArray.mk ([9,104,111,108,101,32]:List UInt8).toArray from rfl,show (ByteArray.mk #[59,10])=ByteArray.mk ([59,10]:List UInt8).toArray from rfl,str_app,str_app,str_app]
        simp [lineT,kHole])
       clear hol hos hbh_
       go_wp2_with fail
       refine HE.out.mono ?_
       rintro e w7 ⟨rfl,hb⟩
       have HB7:=hid (HBH.out.trans (hb.mono HBH.out.size))
       clear hb HE a0 a1 a2 a3 a4 x10
       go_wp2
       go_roundw
       case rel=>exact ⟨q+1,by have:=HQT.out;omega,by go_num,by rw [← HFIN.out],HB7.out⟩
       case measure=>simp [intOf];have:=HQT.out;omega
      ·obtain rfl:q=m.holes.length:=by omega
       rw [HOH.out,HBBh.out]
       rw [List.take_length] at HOH
       have z0:(9223372036854775807 < Bh.size+2)=False:=eq_false (by omega)
       have HFIN:Hid ((Bh++(ByteArray.mk #[125,10]))=ByteArray.mk (printT ((ms.map SrcM.src).take (k+1))).toArray):=hid (by
        have e1:oh++[125,10]=printT ((ms.map SrcM.src).take (k+1)):=by
         rw [HPK.out,← HOH.out,← HO6.out,← HOT.out,← HO5.out,← HTT.out,← HO4.out,← HOW.out,← HO3.out,← HOc.out,← HGG.out,← HO1.out,HOO.out]
         simp only [sourceT,List.append_assoc,List.cons_append,List.nil_append,SrcM.src,List.flatMap_map,lineT,kTurns]
        rw [← e1,← HBBh.out,show (ByteArray.mk #[125,10])=ByteArray.mk ([125,10]:List UInt8).toArray from rfl,str_app])
       have HBZ:=hid (HB0.out.trans (HBH.out.mono HB0.out.size))
       clear hq hqt hbh_
       go_wp2
       go_roundw
       case rel=>exact ⟨k+1,by have:=HKL.out;omega,by go_num,by rw [← HFIN.out],HBZ.out⟩
       case measure=>simp [intOf];have:=HKL.out;omega
  ·obtain rfl:k=ms.length:=by omega
   rw [List.take_of_length_le (by rw [List.length_map];exact Nat.le_refl _)]
   clear hk hkl
   go_wp2
   go_ret
   exact ⟨rfl,HBR.out⟩
end Go.Proofs.YtnkkcknogkgdkaaGreatDoor.PaW

namespace Go.Proofs.YtnkkcknogkgdkaaGreatDoor.PaW
open Lib (hid)
open Go Go.RowKit Go.Proofs.YtnkkcknogkgdkaaGreatDoor.Mem Go.Proofs.YtnkkcknogkgdkaaGreatDoor.Pa
open Go.Proofs.YtnkkcknogkgdkaaGreatDoor.Ge (V)
open Go.Proofs.YtnkkcknogkgdkaaGreatDoor.Lex (Tok)
open Go.Proofs.YtnkkcknogkgdkaaGreatDoor.LexW (tokCells)
attribute [local go_sem ↓] Go.wp_at_zero Go.wp_at_succ

open Go.Proofs.YtnkkcknogkgdkaaGreatDoor.Ge (within)
open Go.Proofs.YtnkkcknogkgdkaaGreatDoor.PqW (writeString_k strCells_mk byteCells_app isBuilder_below b_new)
theorem sources_ok {ms:List SrcM} (h:sourcesOk (ms.map SrcM.src)=true):(∀ m∈ms,SOk m.src)∧ms.length≤20:=by
 unfold sourcesOk at h
 simp only [Bool.and_eq_true,decide_eq_true_eq,List.all_eq_true,List.length_map] at h
 exact ⟨fun m hm=>source_parts (h.1 _ (List.mem_map_of_mem hm)),h.2⟩
set_option maxRecDepth 100000 in
set_option maxHeartbeats 2000000 in
theorem rprint_any {TT TO TS:TypeId} {base:Nat} (ms:List SrcM) (A:Option Addr) (c:Nat) (w:World) (h:SrcsIn TT TO TS base w A ms) (hl:ms.length≤1000000) (hn:∀ m∈ms,m.name.length≤1000000∧m.grade.length≤1000000) :
  Calls Tryz.prog 32 #[.slice A ms.length c] w fun e w'=>e=.returned (.tuple #[.string ⟨(printR (ms.map SrcM.src)).1.toArray⟩,.int .i64 (printR (ms.map SrcM.src)).2])∧Below w.heap.size w w':=by
 have HV:=hid (rvalid_any ms A c w h hl hn)
 have HS:=hid h
 have HRR:Hid (printR (ms.map SrcM.src)=if sourcesOk (ms.map SrcM.src)=true then (if 20000 < (printT (ms.map SrcM.src)).length then ([],9) else (printT (ms.map SrcM.src),0)) else ([],1)):=hid rfl
 obtain ⟨PR,HPR⟩:∃ PR,Hid (printR (ms.map SrcM.src)=PR):=⟨_,hid rfl⟩
 rw [HPR.out] at HRR ⊢
 clear HPR h hn hl
 cases hok:sourcesOk (ms.map SrcM.src) with
 | false =>
  rw [hok] at HV HRR
  have HRE:Hid (PR=([],1)):=hid (HRR.out.trans (if_neg (by decide)))
  clear HRR HS
  go_enter Tryz.func32,Tryz.ntmps32
  go_wp2_with fail
  refine HV.out.mono ?_
  rintro e w1 ⟨rfl,hb⟩
  go_wp2
  refine bodyPost_ret (v:=.tuple #[.string ⟨#[]⟩,.int .i64 1]) (by simp [results,Tryz.results32,go_sem]) rfl ?_
  exact ⟨by rw [HRE.out],hb⟩
 | true =>
 rw [hok] at HV HRR
 have HRE:Hid (PR=if 20000 < (printT (ms.map SrcM.src)).length then ([],9) else (printT (ms.map SrcM.src),0)):=hid (HRR.out.trans (if_pos rfl))
 have HAL:=hid (sources_ok hok)
 have HTX:=hid (fun W (h:SrcsIn TT TO TS base W A ms)=>rtext_any ms A c W h HAL.out)
 have hlp:(printT (ms.map SrcM.src)).length≤500000000:=by
  have h1:=print_tlen (ms.map SrcM.src) (fun x hx=>by
   obtain ⟨m,hm,rfl⟩:=List.mem_map.1 hx
   exact source_tlen (HAL.out.1 m hm) (HS.out.2 m hm).2.2.2.2.1)
  have h2:(ms.map SrcM.src).length≤20:=by rw [List.length_map];exact HAL.out.2
  exact Nat.le_trans h1 (Nat.mul_le_mul_left 25000000 h2)
 clear HRR hok HAL
 obtain ⟨pt,HPT⟩:∃ pt,Hid (printT (ms.map SrcM.src)=pt):=⟨_,hid rfl⟩
 rw [HPT.out] at HRE HTX hlp
 have hps:=str_size pt
 obtain ⟨PB,HPB⟩:∃ P,Hid (ByteArray.mk pt.toArray=P):=⟨_,hid rfl⟩
 rw [HPB.out] at HTX hps
 go_enter Tryz.func32,Tryz.ntmps32
 go_wp2_with fail
 refine HV.out.mono ?_
 rintro e w1 ⟨rfl,hb⟩
 have HB1:=hid hb
 have HS1:=hid (HS.out.below hb)
 clear hb HV HS
 go_wp2_with fail
 refine (HTX.out w1 HS1.out).mono ?_
 rintro e w2 ⟨rfl,hb⟩
 have HB2:=hid (HB1.out.trans (hb.mono HB1.out.size))
 clear hb HTX HS1 HB1
 by_cases hp:20000 < pt.length
 ·have d1:((20000:Int) < (PB.size:Int))=True:=eq_true (by omega)
  have HRF:Hid (PR=([],9)):=hid (HRE.out.trans (if_pos hp))
  clear hp hps
  go_wp2
  refine bodyPost_ret (v:=.tuple #[.string ⟨#[]⟩,.int .i64 9]) (by simp [results,Tryz.results32,go_sem]) rfl ?_
  exact ⟨by rw [HRF.out],HB2.out⟩
 ·have d1:((20000:Int) < (PB.size:Int))=False:=eq_false (by omega)
  have HRF:Hid (PR=(pt,0)):=hid (HRE.out.trans (if_neg hp))
  clear hp hps
  go_wp2
  refine bodyPost_ret (v:=.tuple #[.string PB,.int .i64 0]) (by simp [results,Tryz.results32,go_sem]) rfl ?_
  exact ⟨by rw [HRF.out,← HPB.out],HB2.out⟩
end Go.Proofs.YtnkkcknogkgdkaaGreatDoor.PaW
