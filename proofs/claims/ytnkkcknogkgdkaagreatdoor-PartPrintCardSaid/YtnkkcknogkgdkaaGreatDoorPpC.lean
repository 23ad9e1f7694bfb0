/- What Print writes, plain: its pieces are short; walks: the builder is written to, its length. Conditions: as stated. -/
import Derived.Test.YtnkkcknogkgdkaaGreatDoorPpA
import Derived.Test.YtnkkcknogkgdkaaGreatDoorPaM
import Derived.Test.YtnkkcknogkgdkaaGreatDoorPaV
import Derived.Test.YtnkkcknogkgdkaaGreatDoorPaSize

namespace Go.Proofs.YtnkkcknogkgdkaaGreatDoor.PaW
open Lib (hid)
open Go Go.RowKit Go.Proofs.YtnkkcknogkgdkaaGreatDoor.Mem Go.Proofs.YtnkkcknogkgdkaaGreatDoor.Pa
open Go.Proofs.YtnkkcknogkgdkaaGreatDoor.Ge (V)
open Go.Proofs.YtnkkcknogkgdkaaGreatDoor.Lex (Tok)
open Go.Proofs.YtnkkcknogkgdkaaGreatDoor.LexW (tokCells)
attribute [local go_sem ↓] Go.wp_at_zero Go.wp_at_succ

open Go.Proofs.YtnkkcknogkgdkaaGreatDoor.Ge (within)
open Go.Proofs.YtnkkcknogkgdkaaGreatDoor.PqW (writeString_k strCells_mk byteCells_app isBuilder_below b_new)
theorem info_str:(Tryz.prog.info? 9).map (fun i=>(i.zero,i.size,i.bytes))=some (some (.string ⟨#[]⟩),1,16):=by kernel_rfl
/-- The library's Join of texts that lie in an own row. -/
theorem join_own (sep:List UInt8) (ls:List (List UInt8)) (B n:Nat) (A:Option Addr) (c:Nat) (w:World) (hn:n=ls.length) (h:w.ownsRow B 9 1 (.slice A n c) n (ls.map strV)) (hl:(joinB sep ls).length≤140737488355328) (hn2:ls.length≤1000000) :
  Calls Tryz.prog 69 #[.slice A n c,.string ⟨sep.toArray⟩] w fun e w'=>e=.returned (.string ⟨(joinB sep ls).toArray⟩)∧Below w.heap.size w w':=by
 subst hn
 obtain ⟨A',c',e,hcap⟩:=own_shape h
 cases e
 rcases h.2 with ⟨hv,_⟩ | ⟨tg,cap,cur,hv,hb,hh,_⟩
 ·injection hv with e1 e2 e3
  obtain rfl:ls=[]:=List.length_eq_zero_iff.1 e2
  exact (Tryz.strings_Join_none A c ⟨sep.toArray⟩ w).mono fun e w' ⟨he,hw⟩=>⟨he,by subst hw;exact Below.refl _ _⟩
 ·injection hv with e1 e2 e3
  subst e1
  have:=Tryz.strings_Join tg 0 c (ls.map fun l=>⟨l.toArray⟩) ⟨sep.toArray⟩ w (fun j x hx=>by
   rw [List.getElem?_map] at hx
   obtain ⟨l,hlj,rfl⟩:=Option.map_eq_some_iff.1 hx
   have hj:j < ls.length:=(List.getElem?_eq_some_iff.1 hlj).1
   have h6:=h.cellAt j (by omega)
   rw [Nat.zero_add,h6,List.getElem?_map,hlj]
   rfl) (blk_lt hh) (by rw [List.length_map];omega) (by rw [List.length_map];exact hcap) (by
    have e:(ls.map fun l=>ByteArray.mk l.toArray).map (·.data.toList)=ls:=by simp [Function.comp_def]
    rw [e]
    have:=joinB_join sep ls
    rw [show (ByteArray.mk sep.toArray).data.toList=sep from rfl,← this]
    exact hl)
  have e:(ls.map fun l=>ByteArray.mk l.toArray).map (·.data.toList)=ls:=by simp [Function.comp_def]
  rw [e,List.length_map,show (ByteArray.mk sep.toArray).data.toList=sep from rfl,← joinB_join sep ls] at this
  exact this
def stepsV (l:List Step):List Value:=(l.map Pa.stepT).map strV
theorem stepsV_snoc (l:List Step) (s:Step):stepsV (l++[s])=stepsV l++[.string ⟨(Pa.stepT s).toArray⟩]:=by simp [stepsV,strV]
theorem pt_len {v:V} (hv:(-9223372036854775808≤v.1∧v.1≤9223372036854775807)∧(-9223372036854775808≤v.2∧v.2≤9223372036854775807)):(pointT v).length≤46:=by
 have h1:=Lib.itoa_length_le v.1 hv.1.1 hv.1.2
 have h2:=Lib.itoa_length_le v.2 hv.2.1 hv.2.2
 simp only [pointT,List.length_cons,List.length_append,List.length_nil]
 omega
theorem pt_ok {v:V} (h:within v 2000=true):(-9223372036854775808≤v.1∧v.1≤9223372036854775807)∧(-9223372036854775808≤v.2∧v.2≤9223372036854775807):=by
 have:=within_parts h
 omega
theorem step_tlen {s:Step} (h1:within s.to 2000=true) (h2:within s.center 2000=true):(Pa.stepT s).length≤130:=by
 have a:=pt_len (pt_ok h1)
 have b:=pt_len (pt_ok h2)
 unfold Pa.stepT kArc kAround kClock
 split<;>split<;>simp only [List.length_append,List.length_cons,List.length_nil]<;>omega
theorem join_le (sep:List UInt8) (hs:sep.length≤2) (K:Nat):∀ ls:List (List UInt8),(∀ l∈ls,l.length≤K)→(joinB sep ls).length≤(K+2)*ls.length
 | [],_=>by simp [joinB]
 | [a],h=>by
  have:=h a (by simp)
  simp [joinB]
  omega
 | a::b::r,h=>by
  have h1:=h a (by simp)
  have ih:=join_le sep hs K (b::r) (fun l hl=>h l (List.mem_cons_of_mem _ hl))
  simp only [joinB,List.length_append]
  simp only [List.length_cons] at ih ⊢
  have e:(K+2)*(r.length+1+1)=(K+2)*(r.length+1)+(K+2):=by rw [Nat.mul_add (K+2) (r.length+1) 1,Nat.mul_one]
  omega
theorem steps_within {st:List Step} (h:stepsOk st=true):∀ k (hk:k < st.length),within st[k].to 2000=true∧within st[k].center 2000=true:=fun k hk=>by
 have:=(steps_ix st).1 h k hk
 unfold stepOk at this
 simp only [Bool.and_eq_true] at this
 exact ⟨this.1,this.2.1⟩
theorem outline_len {o:Outline} (h:outlineOk o=true):(outlineT o).length≤6000:=by
 obtain ⟨circ,cen,ra,st⟩:=o
 unfold outlineOk at h
 unfold outlineT
 cases circ with
 | true =>
  simp only [if_true,Bool.and_eq_true,decide_eq_true_eq] at h ⊢
  have a:=pt_len (pt_ok h.1)
  have b:=Lib.itoa_length_le ra (by omega) (by omega)
  unfold kCircle kRadius
  simp only [List.length_append,List.length_cons,List.length_nil]
  omega
 | false =>
  simp only [Bool.false_eq_true,if_false,Bool.and_eq_true,decide_eq_true_eq] at h ⊢
  have hw:=steps_within h.1
  have:=join_le [32] (by decide) 130 (st.map Pa.stepT) (fun l hl=>by
   obtain ⟨s,hs,rfl⟩:=List.mem_map.1 hl
   obtain ⟨k,hk,rfl⟩:=List.getElem_of_mem hs
   exact step_tlen (hw k hk).1 (hw k hk).2)
  rw [List.length_map] at this
  have h40:=h.2.2.2.2
  have:(130+2)*st.length≤132*40:=Nat.mul_le_mul_left 132 h40
  omega
set_option maxRecDepth 100000 in
set_option maxHeartbeats 2000000 in
theorem outlineText_circle (cx cy ra:Int) (st:List Step) (A:Option Addr) (d:Nat) (w:World) (hG:Glob w) (hok:outlineOk ⟨true,(cx,cy),ra,st⟩=true) :
  Calls Tryz.prog 71 #[outV ⟨true,(cx,cy),ra,st⟩ A d] w fun e w'=>e=.returned (.string ⟨(outlineT ⟨true,(cx,cy),ra,st⟩).toArray⟩)∧Below w.heap.size w w':=by
 unfold outlineOk at hok
 simp only [if_true,Bool.and_eq_true,decide_eq_true_eq] at hok
 obtain ⟨hv,hr1,hr2,hz0⟩:=hok
 clear hz0
 have hpo:=pt_ok hv
 have HP1:=hid (fun W h=>pointText_any (cx,cy) W h hpo)
 have HI1:=hid (fun W h=>itoa_any ra W h (by omega) (by omega))
 have l1:=pt_len hpo
 have l2:=Lib.itoa_length_le ra (by omega) (by omega)
 have HT:Hid (((ByteArray.mk #[99,105,114,99,108,101,32])++ByteArray.mk (pointT (cx,cy)).toArray++(ByteArray.mk #[32,114,97,100,105,117,115,32]))++ByteArray.mk (Lib.itoa ra).toArray=ByteArray.mk (outlineT ⟨true,(cx,cy),ra,st⟩).toArray):=hid (by
  rw [show (ByteArray.mk #[99,105,114,99,108,101,32])=ByteArray.mk ([99,105,114,99,108,101,32]:List UInt8).toArray from rfl,show (ByteArray.mk #[32,114,97,100,105,117,115,32])=ByteArray.mk ([32,114,97,100,105,117,115,32]:List UInt8).toArray from rfl,str_app,str_app,str_app]
  simp [outlineT,kCircle,kRadius])
 rw [← HT.out]
 have s1:(ByteArray.mk (pointT (cx,cy)).toArray).size≤46:=by rw [str_size];exact l1
 have s2:(ByteArray.mk (Lib.itoa ra).toArray).size≤21:=by rw [str_size];exact l2
 unfold ptV at HP1
 simp only at HP1
 clear HT l1 l2 hv hr1 hr2 hpo
 generalize (ByteArray.mk (pointT (cx,cy)).toArray)=PX at *
 generalize (ByteArray.mk (Lib.itoa ra).toArray)=IX at *
 have z1:(9223372036854775807 < 7+PX.size)=False:=eq_false (by omega)
 have z2:(9223372036854775807 < 7+PX.size+8)=False:=eq_false (by omega)
 have z3:(9223372036854775807 < 7+PX.size+8+IX.size)=False:=eq_false (by omega)
 have hb0:=bel1 w (.cells #[.bool true,.int .i64 cx,.int .i64 cy,.int .i64 ra,.slice A st.length d] 55)
 have HG0:=hid (hG.below hb0)
 have hz:=blk_lt (heap_new w (.cells #[.bool true,.int .i64 cx,.int .i64 cy,.int .i64 ra,.slice A st.length d] 55))
 have o0:=cell_of (heap_new w (.cells #[.bool true,.int .i64 cx,.int .i64 cy,.int .i64 ra,.slice A st.length d] 55)) 0 _ rfl
 have o1:=cell_of (heap_new w (.cells #[.bool true,.int .i64 cx,.int .i64 cy,.int .i64 ra,.slice A st.length d] 55)) 1 _ rfl
 have o2:=cell_of (heap_new w (.cells #[.bool true,.int .i64 cx,.int .i64 cy,.int .i64 ra,.slice A st.length d] 55)) 2 _ rfl
 have o3:=cell_of (heap_new w (.cells #[.bool true,.int .i64 cx,.int .i64 cy,.int .i64 ra,.slice A st.length d] 55)) 3 _ rfl
 have HB0:=hid hb0
 clear hG hb0 s1 s2
 unfold outV
 simp only
 go_enter Tryz.func71,Tryz.ntmps71
 go_upto_region 1 with fail
 generalize w.alloc (.cells #[.bool true,.int .i64 cx,.int .i64 cy,.int .i64 ra,.slice A st.length d] 55)=W0 at *
 go_upto_region 2 with fail
 refine wp_region_det (fun w'=>Below W0.heap.size W0 w') (by kernel_rfl) (below_drewN (Below.refl _ _) 1) ?_
 refine tD (i:=0) (v:=?_) (some 9) rfl (Or.inl (Or.inl ⟨by rfl,?_⟩)) ?_
 rotate_left
 ·intro w' hSw
  (try dsimp only at hSw)
  have hs1:=(hSw.cell (p:=⟨w.heap.size,1,none⟩) hz).trans o1;have hs2:=(hSw.cell (p:=⟨w.heap.size,2,none⟩) hz).trans o2;have hs3:=(hSw.cell (p:=⟨w.heap.size,3,none⟩) hz).trans o3
  go_simp<;>with_reducible rfl
 try simp only [Act.put,sA,sB,sC]
 refine tD (i:=1) (v:=?_) (some 10) rfl (Or.inl (Or.inl ⟨by rfl,?_⟩)) ?_
 rotate_left
 ·intro w' hSw
  (try dsimp only at hSw)
  have hs1:=(hSw.cell (p:=⟨w.heap.size,1,none⟩) hz).trans o1;have hs2:=(hSw.cell (p:=⟨w.heap.size,2,none⟩) hz).trans o2;have hs3:=(hSw.cell (p:=⟨w.heap.size,3,none⟩) hz).trans o3
  go_simp<;>with_reducible rfl
 try simp only [Act.put,sA,sB,sC]
 refine tD (i:=2) (v:=(.string PX)) (some 11) rfl (Or.inr ⟨by rfl, 131,#[.agg #[.int .i64 cx,.int .i64 cy]],?_,?_⟩) ?_
 ·intro w' hSw
  (try dsimp only at hSw)
  first | rfl | (go_simp;done) | (go_simp;with_reducible rfl)
 ·intro w' hSw
  exact (HP1.out w' (HG0.out.below hSw)).mono fun e u ⟨he,hb⟩=>⟨he,hSw.trans (hb.mono hSw.size)⟩
 try simp only [Act.put,sA,sB,sC]
 refine tD (i:=3) (v:=?_) (some 12) rfl (Or.inl (Or.inl ⟨by rfl,?_⟩)) ?_
 rotate_left
 ·intro w' hSw
  (try dsimp only at hSw)
  have hs1:=(hSw.cell (p:=⟨w.heap.size,1,none⟩) hz).trans o1;have hs2:=(hSw.cell (p:=⟨w.heap.size,2,none⟩) hz).trans o2;have hs3:=(hSw.cell (p:=⟨w.heap.size,3,none⟩) hz).trans o3
  go_simp<;>with_reducible rfl
 try simp only [Act.put,sA,sB,sC]
 refine tD (i:=4) (v:=?_) (some 13) rfl (Or.inl (Or.inl ⟨by rfl,?_⟩)) ?_
 rotate_left
 ·intro w' hSw
  (try dsimp only at hSw)
  have hs1:=(hSw.cell (p:=⟨w.heap.size,1,none⟩) hz).trans o1;have hs2:=(hSw.cell (p:=⟨w.heap.size,2,none⟩) hz).trans o2;have hs3:=(hSw.cell (p:=⟨w.heap.size,3,none⟩) hz).trans o3
  go_simp<;>with_reducible rfl
 try simp only [Act.put,sA,sB,sC]
 refine tD (i:=5) (v:=?_) (some 14) rfl (Or.inl (Or.inl ⟨by rfl,?_⟩)) ?_
 rotate_left
 ·intro w' hSw
  (try dsimp only at hSw)
  have hs1:=(hSw.cell (p:=⟨w.heap.size,1,none⟩) hz).trans o1;have hs2:=(hSw.cell (p:=⟨w.heap.size,2,none⟩) hz).trans o2;have hs3:=(hSw.cell (p:=⟨w.heap.size,3,none⟩) hz).trans o3
  go_simp<;>with_reducible rfl
 try simp only [Act.put,sA,sB,sC]
 refine tD (i:=6) (v:=?_) (some 15) rfl (Or.inl (Or.inl ⟨by rfl,?_⟩)) ?_
 rotate_left
 ·intro w' hSw
  (try dsimp only at hSw)
  have hs1:=(hSw.cell (p:=⟨w.heap.size,1,none⟩) hz).trans o1;have hs2:=(hSw.cell (p:=⟨w.heap.size,2,none⟩) hz).trans o2;have hs3:=(hSw.cell (p:=⟨w.heap.size,3,none⟩) hz).trans o3
  go_simp<;>with_reducible rfl
 try simp only [Act.put,sA,sB,sC]
 refine tD (i:=7) (v:=(.string IX)) (some 16) rfl (Or.inr ⟨by rfl, 70,#[.int .i64 ra],?_,?_⟩) ?_
 ·intro w' hSw
  (try dsimp only at hSw)
  first | rfl | (go_simp;done) | (go_simp;with_reducible rfl)
 ·intro w' hSw
  exact (HI1.out w' (HG0.out.below hSw)).mono fun e u ⟨he,hb⟩=>⟨he,hSw.trans (hb.mono hSw.size)⟩
 try simp only [Act.put,sA,sB,sC]
 refine tD (i:=8) (v:=?_) (some 17) rfl (Or.inl (Or.inl ⟨by rfl,?_⟩)) ?_
 rotate_left
 ·intro w' hSw
  (try dsimp only at hSw)
  have hs1:=(hSw.cell (p:=⟨w.heap.size,1,none⟩) hz).trans o1;have hs2:=(hSw.cell (p:=⟨w.heap.size,2,none⟩) hz).trans o2;have hs3:=(hSw.cell (p:=⟨w.heap.size,3,none⟩) hz).trans o3
  go_simp<;>with_reducible rfl
 try simp only [Act.put,sA,sB,sC]
 refine tD (i:=9) (v:=?_) (some 2) rfl (Or.inl (Or.inl ⟨by rfl,?_⟩)) ?_
 rotate_left
 ·intro w' hSw
  (try dsimp only at hSw)
  have hs1:=(hSw.cell (p:=⟨w.heap.size,1,none⟩) hz).trans o1;have hs2:=(hSw.cell (p:=⟨w.heap.size,2,none⟩) hz).trans o2;have hs3:=(hSw.cell (p:=⟨w.heap.size,3,none⟩) hz).trans o3
  go_simp<;>with_reducible rfl
 try simp only [Act.put,sA,sB,sC]
 refine wpAnyD_done (by kernel_rfl) (fun w' hSw=>?_) _
 go_wp2
 go_ret
 exact ⟨rfl,HB0.out.trans (hSw.mono HB0.out.size)⟩
set_option maxRecDepth 100000 in
set_option maxHeartbeats 4000000 in
theorem outlineText_path {TS:TypeId} {base:Nat} (cx cy ra:Int) (st:List Step) (A:Option Addr) (d:Nat) (w:World) (hG:Glob w) (hr:At TS base w A (st.flatMap stepCells)) (hok:outlineOk ⟨false,(cx,cy),ra,st⟩=true) :
  Calls Tryz.prog 71 #[outV ⟨false,(cx,cy),ra,st⟩ A d] w fun e w'=>e=.returned (.string ⟨(outlineT ⟨false,(cx,cy),ra,st⟩).toArray⟩)∧Below w.heap.size w w':=by
 obtain ⟨i0,ia,ib,ic,id⟩:=info_parts info_str
 have HLT:=hid (outline_len hok)
 unfold outlineOk at hok
 simp only [Bool.false_eq_true,if_false,Bool.and_eq_true,decide_eq_true_eq] at hok
 have HWI:=hid (steps_within hok.1)
 have HLEN:=hid hok.2.2.2.2
 have HR:=hid hr.1
 have HG:=hid hG
 have HO:=hid (heap_new w (.cells #[.bool false,.int .i64 cx,.int .i64 cy,.int .i64 ra,.slice A st.length d] 55))
 have HB:=hid (bel1 w (.cells #[.bool false,.int .i64 cx,.int .i64 cy,.int .i64 ra,.slice A st.length d] 55))
 have HQ:Hid (outlineT ⟨false,(cx,cy),ra,st⟩=joinB [32] (st.map Pa.stepT)):=hid rfl
 rw [HQ.out] at HLT ⊢
 clear hr hG hok HQ
 unfold outV
 simp only
 go_enter Tryz.func71,Tryz.ntmps71
 go_upto_region 1 with fail
 generalize w.alloc (.cells #[.bool false,.int .i64 cx,.int .i64 cy,.int .i64 ra,.slice A st.length d] 55)=W0 at *
 have o0:=cell_of HO.out 0 _ rfl
 have o1:=cell_of HO.out 1 _ rfl
 have o2:=cell_of HO.out 2 _ rfl
 have o3:=cell_of HO.out 3 _ rfl
 have o4:=cell_of HO.out 4 _ rfl
 go_wp2_with fail
 clear o0 o1 o2 o3 o4
 go_loopw [3,21] (fun v t wr=>∃ k:Nat,t=.int .i64 (k:Int)∧k≤st.length∧∃ (A':Option Addr) (c':Nat),v=.slice A' k c'∧Hid (wr.ownsRow w.heap.size 9 1 (.slice A' k c') k (stepsV (st.take k)))∧Hid (Below w.heap.size w wr)) (fun _ t _=>st.length - (intOf t).toNat)
 case atStart=>exact ⟨0,rfl,Nat.zero_le _,none,0,rfl,hid (World.ownsRow_nil _ _ _ _),HB⟩
 case round =>
  obtain ⟨k,rfl,hk,A',c',rfl,HOW,HB0⟩:=hrel
  have hmx:=HLEN.out
  by_cases hlt:k < st.length
  ·obtain ⟨g,off,rfl,hg,ca⟩:=row_get step_len (by decide) (HR.out.below HB0.out) (by omega)
   have a0:=ca k hlt 0 (by decide)
   have a1:=ca k hlt 1 (by decide)
   have a2:=ca k hlt 2 (by decide)
   have a3:=ca k hlt 3 (by decide)
   have a4:=ca k hlt 4 (by decide)
   have a5:=ca k hlt 5 (by decide)
   have HSW:=hid (HWI.out k hlt)
   have hk1:(0:Int)≤(k:Int):=by omega
   have hk2:(k:Int) < (st.length:Int):=by omega
   clear ca
   obtain ⟨s,HSK⟩:∃ s,Hid (st[k]=s):=⟨_,hid rfl⟩
   rw [HSK.out] at HSW a0 a1 a2 a3 a4 a5
   obtain ⟨arc,⟨tx,ty⟩,⟨ux,uy⟩,cw⟩:=s
   simp only [stepCells,List.getElem?_cons_zero,List.getElem?_cons_succ,Nat.add_zero] at a0 a1 a2 a3 a4 a5
   have hp1:=pt_ok HSW.out.1
   have hp2:=pt_ok HSW.out.2
   have HP1:=hid (fun W h=>pointText_any (tx,ty) W h hp1)
   have HP2:=hid (fun W h=>pointText_any (ux,uy) W h hp2)
   have s1:(ByteArray.mk (pointT (tx,ty)).toArray).size≤46:=by rw [str_size];exact pt_len hp1
   have s2:(ByteArray.mk (pointT (ux,uy)).toArray).size≤46:=by rw [str_size];exact pt_len hp2
   obtain ⟨T1,HT1⟩:∃ T1,Hid (ByteArray.mk (pointT (tx,ty)).toArray=T1):=⟨_,hid rfl⟩
   obtain ⟨T2,HT2⟩:∃ T2,Hid (ByteArray.mk (pointT (ux,uy)).toArray=T2):=⟨_,hid rfl⟩
   rw [HT1.out] at HP1 s1
   rw [HT2.out] at HP2 s2
   unfold ptV at HP1 HP2
   simp only at HP1 HP2
   clear hp1 hp2
   have HSX:=hid (heap_new wr (.cells #[.bool arc,.int .i64 tx,.int .i64 ty,.int .i64 ux,.int .i64 uy,.bool cw] 153))
   have HB1k:=hid (bel1 wr (.cells #[.bool arc,.int .i64 tx,.int .i64 ty,.int .i64 ux,.int .i64 uy,.bool cw] 153))
   have HB1:=hid (HB0.out.trans (HB1k.out.mono HB0.out.size))
   have HG:=hid (HG.out.below HB0.out)
   go_upto_region 7 with fail
   clear a0 a1 a2 a3 a4 a5
   generalize wr.alloc (.cells #[.bool arc,.int .i64 tx,.int .i64 ty,.int .i64 ux,.int .i64 uy,.bool cw] 153)=W1 at *
   have x0:=cell_of HSX.out 0 _ rfl
   have x1:=cell_of HSX.out 1 _ rfl
   have x2:=cell_of HSX.out 2 _ rfl
   have x3:=cell_of HSX.out 3 _ rfl
   have x4:=cell_of HSX.out 4 _ rfl
   have x5:=cell_of HSX.out 5 _ rfl
   go_wp2_with fail
   refine (HP1.out W1 (HG.out.below (HB1k.out))).mono ?_
   rintro e w2 ⟨rfl,hb2⟩
   have HS2:=hid (p_below HSX.out hb2)
   have HB2:=hid (HB1.out.trans (hb2.mono HB1.out.size))
   have HB2k:=hid (HB1k.out.trans (hb2.mono HB1k.out.size))
   clear x0 x1 x2 x3 x4 x5 hb2
   have x0:=cell_of HS2.out 0 _ rfl
   have x1:=cell_of HS2.out 1 _ rfl
   have x2:=cell_of HS2.out 2 _ rfl
   have x3:=cell_of HS2.out 3 _ rfl
   have x4:=cell_of HS2.out 4 _ rfl
   have x5:=cell_of HS2.out 5 _ rfl
   cases arc
   ·cases cw
    ·skip
     go_upto_region 12 with fail
     clear x0 x1 x2 x3 x4 x5
     have HT:Hid (T1=ByteArray.mk (Pa.stepT ⟨false,(tx,ty),(ux,uy),false⟩).toArray):=hid (by
      rw [← HT1.out]
      simp [Pa.stepT])
     have hb6:=bel1 w2 (.cells #[.string T1] 9)
     have HBS:=hid (HB2.out.trans (hb6.mono HB2.out.size))
     have HSZ:=hid ((own_below HOW.out (HB2k.out)).alloc (.cells #[.string T1] 9))
     have CN:=hid (World.news_of_block (cs:=#[.string T1]) (t := 9) (fr:=(0,0)) (heap_new w2 _))
     have C2:Hid (∀ uu∈([.string T1]:List Value),uu.oneCell'=true):=hid (by intro uu hu;simp at hu;rcases hu with rfl;rfl)
     have C3:Hid (k+1≤maxLen∧(k+1)*16≤140737488355328):=hid (by have:=HLEN.out;unfold maxLen;omega)
     have C5:Hid (w.heap.size≤(w2.alloc (.cells #[.string T1] 9)).heap.size):=hid HBS.out.size
     clear hb6
     go_wp2_with (at_builtin;refine wpList_append_own _ rfl _ _ 125 rfl w.heap.size 9 i0 _ 1 16 Tryz.underlying125 ia ib ic id rfl (by omega) _ _ _ rfl HSZ.out ⟨w2.heap.size,0,none⟩ 1 1 [.string T1] rfl rfl CN.out C2.out C3.out.1 C3.out.2 C5.out ?_)
     intro v7 w7 hown7 hg7 _
     obtain ⟨B7,d7,rfl,_⟩:=own_shape hown7
     have HB7:=hid (below_grown HBS.out hg7 (fun q hq=>(HSZ.out.lt q hq).1) HBS.out.size)
     have HO7:Hid (w7.ownsRow w.heap.size 9 1 (.slice B7 (k+1) d7) (k+1) (stepsV (st.take (k+1)))):=hid (by
      rw [List.take_succ_eq_append_getElem hlt,HSK.out,stepsV_snoc]
      rw [HT.out] at hown7
      exact hown7)
     clear hown7 hg7 HT
     go_wp2
     go_roundw
     case rel=>exact ⟨k+1,by go_num,by omega,B7,d7,rfl,HO7,HB7⟩
     case measure=>simp [intOf];omega
    ·skip
     have z0:(9223372036854775807 < T1.size+10)=False:=eq_false (by omega)
     go_upto_region 12 with fail
     clear x0 x1 x2 x3 x4 x5
     have HT:Hid ((T1++(ByteArray.mk #[32,99,108,111,99,107,119,105,115,101]))=ByteArray.mk (Pa.stepT ⟨false,(tx,ty),(ux,uy),true⟩).toArray):=hid (by
      rw [← HT1.out,show (ByteArray.mk #[32,99,108,111,99,107,119,105,115,101])=ByteArray.mk ([32,99,108,111,99,107,119,105,115,101]:List UInt8).toArray from rfl,str_app]
      simp [Pa.stepT,kClock])
     have hb6:=bel1 w2 (.cells #[.string (T1++(ByteArray.mk #[32,99,108,111,99,107,119,105,115,101]))] 9)
     have HBS:=hid (HB2.out.trans (hb6.mono HB2.out.size))
     have HSZ:=hid ((own_below HOW.out (HB2k.out)).alloc (.cells #[.string (T1++(ByteArray.mk #[32,99,108,111,99,107,119,105,115,101]))] 9))
     have CN:=hid (World.news_of_block (cs:=#[.string (T1++(ByteArray.mk #[32,99,108,111,99,107,119,105,115,101]))]) (t := 9) (fr:=(0,0)) (heap_new w2 _))
     have C2:Hid (∀ uu∈([.string (T1++(ByteArray.mk #[32,99,108,111,99,107,119,105,115,101]))]:List Value),uu.oneCell'=true):=hid (by intro uu hu;simp at hu;rcases hu with rfl;rfl)
     have C3:Hid (k+1≤maxLen∧(k+1)*16≤140737488355328):=hid (by have:=HLEN.out;unfold maxLen;omega)
     have C5:Hid (w.heap.size≤(w2.alloc (.cells #[.string (T1++(ByteArray.mk #[32,99,108,111,99,107,119,105,115,101]))] 9)).heap.size):=hid HBS.out.size
     clear hb6
     go_wp2_with (at_builtin;refine wpList_append_own _ rfl _ _ 125 rfl w.heap.size 9 i0 _ 1 16 Tryz.underlying125 ia ib ic id rfl (by omega) _ _ _ rfl HSZ.out ⟨w2.heap.size,0,none⟩ 1 1 [.string (T1++(ByteArray.mk #[32,99,108,111,99,107,119,105,115,101]))] rfl rfl CN.out C2.out C3.out.1 C3.out.2 C5.out ?_)
     intro v7 w7 hown7 hg7 _
     obtain ⟨B7,d7,rfl,_⟩:=own_shape hown7
     have HB7:=hid (below_grown HBS.out hg7 (fun q hq=>(HSZ.out.lt q hq).1) HBS.out.size)
     have HO7:Hid (w7.ownsRow w.heap.size 9 1 (.slice B7 (k+1) d7) (k+1) (stepsV (st.take (k+1)))):=hid (by
      rw [List.take_succ_eq_append_getElem hlt,HSK.out,stepsV_snoc]
      rw [HT.out] at hown7
      exact hown7)
     clear hown7 hg7 HT
     go_wp2
     go_roundw
     case rel=>exact ⟨k+1,by go_num,by omega,B7,d7,rfl,HO7,HB7⟩
     case measure=>simp [intOf];omega
   ·skip
    have z0:(9223372036854775807 < 4+T1.size)=False:=eq_false (by omega)
    have z1:(9223372036854775807 < 4+T1.size+8)=False:=eq_false (by omega)
    have z2:(9223372036854775807 < 4+T1.size+8+T2.size)=False:=eq_false (by omega)
    go_wp2_with fail
    refine (HP2.out w2 (HG.out.below HB2k.out)).mono ?_
    rintro e w3 ⟨rfl,hb3⟩
    have HS3:=hid (p_below HS2.out hb3)
    have HB3:=hid (HB2.out.trans (hb3.mono HB2.out.size))
    have HB3k:=hid (HB2k.out.trans (hb3.mono HB2k.out.size))
    clear x0 x1 x2 x3 x4 x5 hb3
    have x0:=cell_of HS3.out 0 _ rfl
    have x1:=cell_of HS3.out 1 _ rfl
    have x2:=cell_of HS3.out 2 _ rfl
    have x3:=cell_of HS3.out 3 _ rfl
    have x4:=cell_of HS3.out 4 _ rfl
    have x5:=cell_of HS3.out 5 _ rfl
    cases cw
    ·skip
     go_upto_region 12 with fail
     clear x0 x1 x2 x3 x4 x5
     have HT:Hid (((((ByteArray.mk #[97,114,99,32])++T1)++(ByteArray.mk #[32,97,114,111,117,110,100,32]))++T2)=ByteArray.mk (Pa.stepT ⟨true,(tx,ty),(ux,uy),false⟩).toArray):=hid (by
      rw [← HT1.out,← HT2.out,show (ByteArray.mk #[97,114,99,32])=ByteArray.mk ([97,114,99,32]:List UInt8).toArray from rfl,show (ByteArray.mk #[32,97,114,111,117,110,100,32])=ByteArray.mk ([32,97,114,111,117,110,100,32]:List UInt8).toArray from rfl,str_app,str_app,str_app]
      simp [Pa.stepT,kArc,kAround])
     have hb6:=bel1 w3 (.cells #[.string ((((ByteArray.mk #[97,114,99,32])++T1)++(ByteArray.mk #[32,97,114,111,117,110,100,32]))++T2)] 9)
     have HBS:=hid (HB3.out.trans (hb6.mono HB3.out.size))
     have HSZ:=hid ((own_below HOW.out (HB3k.out)).alloc (.cells #[.string ((((ByteArray.mk #[97,114,99,32])++T1)++(ByteArray.mk #[32,97,114,111,117,110,100,32]))++T2)] 9))
     have CN:=hid (World.news_of_block (cs:=#[.string ((((ByteArray.mk #[97,114,99,32])++T1)++(ByteArray.mk #[32,97,114,111,117,110,100,32]))++T2)]) (t := 9) (fr:=(0,0)) (heap_new w3 _))
     have C2:Hid (∀ uu∈([.string ((((ByteArray.mk #[97,114,99,32])++T1)++(ByteArray.mk #[32,97,114,111,117,110,100,32]))++T2)]:List Value),uu.oneCell'=true):=hid (by intro uu hu;simp at hu;rcases hu with rfl;rfl)
     have C3:Hid (k+1≤maxLen∧(k+1)*16≤140737488355328):=hid (by have:=HLEN.out;unfold maxLen;omega)
     have C5:Hid (w.heap.size≤(w3.alloc (.cells #[.string ((((ByteArray.mk #[97,114,99,32])++T1)++(ByteArray.mk #[32,97,114,111,117,110,100,32]))++T2)] 9)).heap.size):=hid HBS.out.size
     clear hb6
     go_wp2_with (at_builtin;refine wpList_append_own _ rfl _ _ 125 rfl w.heap.size 9 i0 _ 1 16 Tryz.underlying125 ia ib ic id rfl (by omega) _ _ _ rfl HSZ.out ⟨w3.heap.size,0,none⟩ 1 1 [.string ((((ByteArray.mk #[97,114,99,32])++T1)++(ByteArray.mk #[32,97,114,111,117,110,100,32]))++T2)] rfl rfl CN.out C2.out C3.out.1 C3.out.2 C5.out ?_)
     intro v7 w7 hown7 hg7 _
     obtain ⟨B7,d7,rfl,_⟩:=own_shape hown7
     have HB7:=hid (below_grown HBS.out hg7 (fun q hq=>(HSZ.out.lt q hq).1) HBS.out.size)
     have HO7:Hid (w7.ownsRow w.heap.size 9 1 (.slice B7 (k+1) d7) (k+1) (stepsV (st.take (k+1)))):=hid (by
      rw [List.take_succ_eq_append_getElem hlt,HSK.out,stepsV_snoc]
      rw [HT.out] at hown7
      exact hown7)
     clear hown7 hg7 HT
     go_wp2
     go_roundw
     case rel=>exact ⟨k+1,by go_num,by omega,B7,d7,rfl,HO7,HB7⟩
     case measure=>simp [intOf];omega
    ·skip
     have z9:(9223372036854775807 < 4+T1.size+8+T2.size+10)=False:=eq_false (by omega)
     go_upto_region 12 with fail
     clear x0 x1 x2 x3 x4 x5
     have HT:Hid ((((((ByteArray.mk #[97,114,99,32])++T1)++(ByteArray.mk #[32,97,114,111,117,110,100,32]))++T2)++(ByteArray.mk #[32,99,108,111,99,107,119,105,115,101]))=ByteArray.mk (Pa.stepT ⟨true,(tx,ty),(ux,uy),true⟩).toArray):=hid (by
      rw [← HT1.out,← HT2.out,show (ByteArray.mk #[97,114,99,32])=ByteArray.mk ([97,114,99,32]:List UInt8).toArray from rfl,show (ByteArray.mk #[32,97,114,111,117,110,100,32])=ByteArray.mk ([32,97,114,111,117,110,100,32]:List UInt8).toArray from rfl,show (ByteArray.mk #[32,99,108,111,99,107,119,105,115,101])=ByteArray.mk ([32,99,108,111,99,107,119,105,115,101]:List UInt8).toArray from rfl,str_app,str_app,str_app,str_app]
      simp [Pa.stepT,kArc,kAround,kClock])
     have hb6:=bel1 w3 (.cells #[.string (((((ByteArray.mk #[97,114,99,32])++T1)++(ByteArray.mk #[32,97,114,111,117,110,100,32]))++T2)++(ByteArray.mk #[32,99,108,111,99,107,119,105,115,101]))] 9)
     have HBS:=hid (HB3.out.trans (hb6.mono HB3.out.size))
     have HSZ:=hid ((own_below HOW.out (HB3k.out)).alloc (.cells #[.string (((((ByteArray.mk #[97,114,99,32])++T1)++(ByteArray.mk #[32,97,114,111,117,110,100,32]))++T2)++(ByteArray.mk #[32,99,108,111,99,107,119,105,115,101]))] 9))
     have CN:=hid (World.news_of_block (cs:=#[.string (((((ByteArray.mk #[97,114,99,32])++T1)++(ByteArray.mk #[32,97,114,111,117,110,100,32]))++T2)++(ByteArray.mk #[32,99,108,111,99,107,119,105,115,101]))]) (t := 9) (fr:=(0,0)) (heap_new w3 _))
     have C2:Hid (∀ uu∈([.string (((((ByteArray.mk #[97,114,99,32])++T1)++(ByteArray.mk #[32,97,114,111,117,110,100,32]))++T2)++(ByteArray.mk #[32,99,108,111,99,107,119,105,115,101]))]:List Value),uu.oneCell'=true):=hid (by intro uu hu;simp at hu;rcases hu with rfl;rfl)
     have C3:Hid (k+1≤maxLen∧(k+1)*16≤140737488355328):=hid (by have:=HLEN.out;unfold maxLen;omega)
     have C5:Hid (w.heap.size≤(w3.alloc (.cells #[.string (((((ByteArray.mk #[97,114,99,32])++T1)++(ByteArray.mk #[32,97,114,111,117,110,100,32]))++T2)++(ByteArray.mk #[32,99,108,111,99,107,119,105,115,101]))] 9)).heap.size):=hid HBS.out.size
     clear hb6
     go_wp2_with (at_builtin;refine wpList_append_own _ rfl _ _ 125 rfl w.heap.size 9 i0 _ 1 16 Tryz.underlying125 ia ib ic id rfl (by omega) _ _ _ rfl HSZ.out ⟨w3.heap.size,0,none⟩ 1 1 [.string (((((ByteArray.mk #[97,114,99,32])++T1)++(ByteArray.mk #[32,97,114,111,117,110,100,32]))++T2)++(ByteArray.mk #[32,99,108,111,99,107,119,105,115,101]))] rfl rfl CN.out C2.out C3.out.1 C3.out.2 C5.out ?_)
     intro v7 w7 hown7 hg7 _
     obtain ⟨B7,d7,rfl,_⟩:=own_shape hown7
     have HB7:=hid (below_grown HBS.out hg7 (fun q hq=>(HSZ.out.lt q hq).1) HBS.out.size)
     have HO7:Hid (w7.ownsRow w.heap.size 9 1 (.slice B7 (k+1) d7) (k+1) (stepsV (st.take (k+1)))):=hid (by
      rw [List.take_succ_eq_append_getElem hlt,HSK.out,stepsV_snoc]
      rw [HT.out] at hown7
      exact hown7)
     clear hown7 hg7 HT
     go_wp2
     go_roundw
     case rel=>exact ⟨k+1,by go_num,by omega,B7,d7,rfl,HO7,HB7⟩
     case measure=>simp [intOf];omega
  ·obtain rfl:k=st.length:=by omega
   have HJ:=hid (join_own [32] (st.map Pa.stepT) w.heap.size st.length A' c' wr (by rw [List.length_map]) (by have:=HOW.out;rw [List.take_length] at this;exact this) (by have:=HLT.out;omega) (by rw [List.length_map];have:=HLEN.out;omega))
   obtain ⟨JB,HJB⟩:∃ J,Hid (ByteArray.mk (joinB [32] (st.map Pa.stepT)).toArray=J):=⟨_,hid rfl⟩
   rw [HJB.out] at HJ
   clear HOW HLT i0 ia ib ic id
   go_wp2_with fail
   refine HJ.out.mono ?_
   rintro e w2 ⟨rfl,hb2⟩
   have HBF:=hid (HB0.out.trans (hb2.mono HB0.out.size))
   clear hb2
   go_wp2
   go_ret
   exact ⟨by rw [HJB.out];rfl,HBF.out⟩
theorem outlineText_any {TS:TypeId} {base:Nat} (x:OutM) (w:World) (hG:Glob w) (ho:OutIn TS base w x) (hok:outlineOk x.o=true) :
  Calls Tryz.prog 71 #[outV x.o x.A x.d] w fun e w'=>e=.returned (.string ⟨(outlineT x.o).toArray⟩)∧Below w.heap.size w w':=by
 obtain ⟨⟨circ,⟨cx,cy⟩,ra,st⟩,A,d⟩:=x
 cases circ with
 | true=>exact outlineText_circle cx cy ra st A d w hG hok
 | false=>exact outlineText_path cx cy ra st A d w hG ho.1 hok
end Go.Proofs.YtnkkcknogkgdkaaGreatDoor.PaW

namespace Go.Proofs.YtnkkcknogkgdkaaGreatDoor.PaW
open Lib (hid)
open Go Go.RowKit Go.Proofs.YtnkkcknogkgdkaaGreatDoor.Mem Go.Proofs.YtnkkcknogkgdkaaGreatDoor.Pa
open Go.Proofs.YtnkkcknogkgdkaaGreatDoor.Ge (V)
open Go.Proofs.YtnkkcknogkgdkaaGreatDoor.Lex (Tok)
open Go.Proofs.YtnkkcknogkgdkaaGreatDoor.LexW (tokCells)
attribute [local go_sem ↓] Go.wp_at_zero Go.wp_at_succ

open Go.Proofs.YtnkkcknogkgdkaaGreatDoor.Ge (within)
open Go.Proofs.YtnkkcknogkgdkaaGreatDoor.PqW (writeString_k strCells_mk byteCells_app isBuilder_below b_new)
def numsV (l:List Int):List Value:=(l.map Lib.itoa).map strV
theorem numsV_snoc (l:List Int) (s:Int):numsV (l++[s])=numsV l++[.string ⟨(Lib.itoa s).toArray⟩]:=by simp [numsV,strV]
theorem turns_small:∀ l:List Int,turnsOk l=true→∀ x∈l,0≤x∧x≤7
 | [],h=>by cases h
 | [a],h=>by
  simp only [turnsOk,Bool.and_eq_true,decide_eq_true_eq] at h
  intro x hx
  rw [List.mem_singleton.1 hx]
  exact h
 | a::b::r,h=>by
  simp only [turnsOk,Bool.and_eq_true,decide_eq_true_eq] at h
  intro x hx
  rcases List.mem_cons.1 hx with rfl | hx
  ·exact ⟨h.1,h.2.1⟩
  ·exact turns_small (b::r) h.2.2.2 x hx
structure SOk (x:Pa.Source):Prop where
 name:x.name.length≤16
 grade:x.grade.length≤16
 grain:0≤x.grain∧x.grain≤2
 turns:∀ t∈x.turns,0≤t∧t≤7
 tol:1≤x.tol∧x.tol≤50
 outer:outlineOk x.outer=true
 holes:x.holes.length≤6
 hole:∀ o∈x.holes,outlineOk o=true
theorem name_len {l:List UInt8} (h:Lex.isName l=true):l.length≤16:=by
 unfold Lex.isName at h
 simp only [Bool.and_eq_true,decide_eq_true_eq] at h
 exact h.1.1.2
theorem source_parts {x:Pa.Source} (h:sourceOk x=true):SOk x:=by
 unfold sourceOk namedOk at h
 simp only [Bool.and_eq_true,decide_eq_true_eq] at h
 obtain ⟨⟨h1,h2,h3,h4,h5⟩,h6,h7,h8,h9,h10⟩:=h
 exact ⟨name_len h1,name_len h2,⟨h3,h4⟩,turns_small _ h5,⟨h6,h7⟩,h8,h9,List.all_eq_true.1 h10⟩
theorem turns_tlen {l:List Int} (h:∀ t∈l,0≤t∧t≤7) (hl:l.length≤1000000):(joinB [44,32] (l.map Lib.itoa)).length≤23000000:=by
 have:=join_le [44,32] (by decide) 21 (l.map Lib.itoa) (fun s hs=>by
  obtain ⟨t,ht,rfl⟩:=List.mem_map.1 hs
  have:=h t ht
  exact Lib.itoa_length_le t (by omega) (by omega))
 rw [List.length_map] at this
 omega
theorem grain_len (g:Int):(grainT g).length≤10:=by
 unfold grainT
 split
 ·decide
 ·split
  ·decide
  ·decide
theorem tol_len {t:Int} (h:1≤t∧t≤50):(tolT t).length≤40:=by
 have:=Lib.itoa_length_le t (by omega) (by omega)
 unfold tolT
 split
 ·simp
 ·rw [line_len]
  have e:kTol.length=9:=rfl
  omega
theorem holes_len:∀ l:List Outline,(∀ o∈l,outlineOk o=true)→(l.flatMap fun o=>lineT kHole (outlineT o)).length≤6010*l.length
 | [],_=>by simp
 | a::r,h=>by
  have h1:=outline_len (h a (by simp))
  have ih:=holes_len r (fun o ho=>h o (List.mem_cons_of_mem _ ho))
  rw [List.flatMap_cons,List.length_append,line_len,List.length_cons]
  have e:kHole.length=4:=rfl
  omega
theorem source_tlen {x:Pa.Source} (h:SOk x) (hl:x.turns.length≤1000000):(sourceT x).length≤25000000:=by
 have h1:=h.name
 have h2:=h.grade
 have h3:=grain_len x.grain
 have h4:=turns_tlen h.turns hl
 have h5:=tol_len h.tol
 have h6:=outline_len h.outer
 have h7:=holes_len x.holes h.hole
 have h8:=h.holes
 unfold sourceT
 simp only [List.length_append,List.length_cons,List.length_nil,line_len]
 have e1:kPart.length=4:=rfl
 have e2:kGrade.length=5:=rfl
 have e3:kTurns.length=5:=rfl
 have e4:kRing.length=4:=rfl
 omega
theorem print_tlen:∀ l:List Pa.Source,(∀ x∈l,(sourceT x).length≤25000000)→(printT l).length≤25000000*l.length
 | [],_=>by simp [printT]
 | a::r,h=>by
  have h1:=h a (by simp)
  have ih:=print_tlen r (fun o ho=>h o (List.mem_cons_of_mem _ ho))
  unfold printT at ih ⊢
  rw [List.flatMap_cons,List.length_append,List.length_cons]
  omega
theorem print_snoc (l:List Pa.Source) (x:Pa.Source):printT (l++[x])=printT l++sourceT x:=by simp [printT]
/-- What Print answers. -/
def printR (l:List Pa.Source):List UInt8×Int:=if sourcesOk l=true then (if 20000 < (printT l).length then ([],9) else (printT l,0)) else ([],1)
theorem write_bd (B b:Nat) (out t:List UInt8) (w:World) (hB:Lib.IsBuilder 124 5 B b (Lib.byteCells out) w) (hBw:B≤w.heap.size) (hl:out.length+t.length≤140737488355328) :
  Calls Tryz.prog 68 #[.pointer (some ⟨b,0,none⟩),.string ⟨t.toArray⟩] w fun e w'=>e=.returned (.tuple #[.int .i64 (ByteArray.mk t.toArray).size,.nilIface])∧Bd B b (out++t) w w' :=
 (writeString_k B b (Lib.byteCells out) (ByteArray.mk t.toArray) w hB (by simp only [Lib.byteCells,List.length_map];rw [str_size];exact hl) hBw).mono fun e w' ⟨he,h1,h2,h3⟩=>⟨he,by rw [byteCells_app,← strCells_mk];exact .inr h1,h2,h3⟩
set_option maxRecDepth 100000 in
theorem blen_any (B b:Nat) (out:List UInt8) (w:World) (h:Lib.IsBuilder 124 5 B b (Lib.byteCells out) w) :
  Calls Tryz.prog 72 #[.pointer (some ⟨b,0,none⟩)] w fun e w'=>e=.returned (.int .i64 out.length)∧Below w.heap.size w w':=by
 obtain ⟨p,v,hh,ho⟩:∃ p v,w.heap[b]? = some (.cells #[p,v] 124 (0,0))∧w.ownsRow B 5 1 v (Lib.byteCells out).length (Lib.byteCells out):=by
  rcases h with h | h
  ·obtain ⟨_,v,h1,h2,_⟩:=h
   exact ⟨_,v,h1,h2⟩
  ·obtain ⟨_,v,h1,h2,_⟩:=h
   exact ⟨_,v,h1,h2⟩
 obtain ⟨A,c,rfl,_⟩:=own_shape ho
 have e:(Lib.byteCells out).length=out.length:=by simp [Lib.byteCells]
 rw [e] at hh
 have c0:=cell_of hh 0 _ rfl
 have c1:=cell_of hh 1 _ rfl
 clear ho h
 go_enter Tryz.func72,Tryz.ntmps72
 go_wp2
 go_ret
 exact ⟨rfl,Below.refl _ _⟩
end Go.Proofs.YtnkkcknogkgdkaaGreatDoor.PaW
