/- Walks: the text of a point; a line is written to the text of parts. Conditions: the library's table lies in memory; the text stays below 2^47 bytes. -/
import Derived.Test.YtnkkcknogkgdkaaGreatDoorProg
import Derived.Test.YtnkkcknogkgdkaaGreatDoorMem2
import Derived.Lib.Strings
import Derived.Lib.Slices
import Derived.Lib.Walk
import Derived.Lib.Builder
import Derived.Lib.AppendStr
import Derived.Lib.UnsafeStr
import Derived.WalkKit
import Derived.Lib.Hide
import Derived.Laws.Externs
import Derived.Laws.IdiomCopy
import Derived.Shelf.Abstract
import Derived.Test.YtnkkcknogkgdkaaGreatDoorShelf
import Derived.Lib.OthersKept
import Derived.Deep.RegionHeld3
import Derived.Test.YtnkkcknogkgdkaaGreatDoorPaP2
import Derived.Test.YtnkkcknogkgdkaaGreatDoorPaSize
import Derived.Lib.ItoaLen
import Derived.Lib.AppendIntMem
import Derived.Lib.LaidTab
import Derived.Laws.Concat
import Derived.Shelf.Vars

namespace Go.Proofs.YtnkkcknogkgdkaaGreatDoor.NcW
open Lib (hid)
open Go Go.RowKit Go.Proofs.YtnkkcknogkgdkaaGreatDoor.Mem

theorem b_size:(Tryz.prog.info? 124).map (·.size)=some 2:=by kernel_rfl
theorem b_lies:liesAt Tryz.prog Tryz.prog.depth 124 (2 / Tryz.prog.cellsOf 124) 0 124 1=true:=by kernel_rfl
theorem byte_info:(Tryz.prog.info? 5).map (fun i=>(i.zero,i.size,i.bytes))=some (some (.int .u8 0),1,1):=by kernel_rfl

set_option maxHeartbeats 1000000 in
set_option maxRecDepth 100000 in
theorem copyCheck_used (b:Nat) (w:World) (h0:w.cell? ⟨b,0,none⟩=some (.pointer (some ⟨b,0,none⟩))) :
  Calls Tryz.prog 128 #[.pointer (some ⟨b,0,none⟩)] w fun e w'=>e=.returned (.tuple #[])∧w'=w:=by
 obtain ⟨j,hj,_⟩:=Option.map_eq_some_iff.1 b_size
 go_enter Tryz.func128,Tryz.ntmps128
 go_wp2
 rw [Lib.run_neq_ptr_same w _ Tryz.underlying122 hj]
 go_wp2
 go_end0
 exact ⟨rfl,rfl⟩
set_option maxHeartbeats 1000000 in
set_option maxRecDepth 100000 in
theorem copyCheck_fresh (b:Nat) (w:World) (h0:w.cell? ⟨b,0,none⟩=some (.pointer none)) (hsh:w.shape? b=some (124,2)) (hfz:w.frozen? ⟨b,0,none⟩=false) :
  Calls Tryz.prog 128 #[.pointer (some ⟨b,0,none⟩)] w fun e w'=>e=.returned (.tuple #[])∧w'=w.setCell ⟨b,0,none⟩ (.pointer (some ⟨b,0,none⟩)):=by
 obtain ⟨j,hj,hjs⟩:=Option.map_eq_some_iff.1 b_size
 go_enter Tryz.func128,Tryz.ntmps128
 go_wp2
 rw [Lib.run_to_unsafe w ⟨b,0,none⟩ Tryz.underlying122 Tryz.underlying208 hj (by rw [hjs];decide) hsh (Nat.zero_lt_succ 1)]
 simp only [Result.andThen]
 rw [Oper.upon_value]
 go_wp2
 rw [run_callFunc_extern Tryz.func185 (by kernel_rfl) (by kernel_rfl) (by kernel_rfl) (e:=Extern.AbiNoEscape.same) (by kernel_rfl)]
 rw [Lib.run_noEscape]
 simp only [Result.andThen]
 rw [Oper.upon_value]
 go_wp2
 rw [Lib.run_from_unsafe w ⟨b,0,none⟩ Tryz.underlying208 Tryz.underlying122 hj hsh b_lies]
 simp only [Result.andThen]
 rw [Oper.upon_value]
 go_wp2
 go_end0
 exact ⟨rfl,rfl⟩
end Go.Proofs.YtnkkcknogkgdkaaGreatDoor.NcW

namespace Go.Proofs.YtnkkcknogkgdkaaGreatDoor.PqW
open Lib (hid)
open Go Go.RowKit Go.Proofs.YtnkkcknogkgdkaaGreatDoor.Mem
open Go.Proofs.YtnkkcknogkgdkaaGreatDoor.NcW (copyCheck_used copyCheck_fresh byte_info)

theorem copyCheck_k (B b:Nat) (bs:List Value) (w:World) (h:Lib.IsBuilder 124 5 B b bs w) :
  Calls Tryz.prog 128 #[.pointer (some ⟨b,0,none⟩)] w fun e w'=>e=.returned (.tuple #[])∧(Lib.BuilderAt 124 5 B b (.pointer (some ⟨b,0,none⟩)) bs w'∧Below B w w'∧Lib.OthersKept 5 (some b) w w'):=by
 rcases h with h | h
 ·refine (copyCheck_fresh b w h.cell0 h.shape h.frozen0).mono ?_
  rintro e w' ⟨rfl,rfl⟩
  exact ⟨rfl,h.used _,(Below.refl B w).setCell (p:=⟨b,0,none⟩) h.1 _,(Lib.OthersKept.refl _ _ w).setCell ⟨b,0,none⟩ rfl _⟩
 ·refine (copyCheck_used b w h.cell0).mono ?_
  rintro e w' ⟨rfl,rfl⟩
  exact ⟨rfl,h,Below.refl B _,Lib.OthersKept.refl _ _ _⟩

set_option maxHeartbeats 2000000 in
set_option maxRecDepth 100000 in
theorem writeString_k (B b:Nat) (bs:List Value) (s:ByteArray) (w:World) (h:Lib.IsBuilder 124 5 B b bs w) (hlen:bs.length+s.size≤140737488355328) (hBw:B≤w.heap.size) :
  Calls Tryz.prog 68 #[.pointer (some ⟨b,0,none⟩),.string s] w fun e w'=>e=.returned (.tuple #[.int .i64 s.size,.nilIface])∧(Lib.BuilderAt 124 5 B b (.pointer (some ⟨b,0,none⟩)) (bs++Lib.strCells s) w'∧Below B w w'∧Lib.OthersKept 5 (some b) w w'):=by
 obtain ⟨i0,hi,hz0,hz1,hz2⟩:=info_parts byte_info
 go_enter Tryz.func68,Tryz.ntmps68
 go_wp2_with (go_at_call 128;refine (copyCheck_k B b bs _ h).mono ?_)
 rintro e w1 ⟨rfl,h1,hb1,hk1⟩
 have HK1:=hid hk1
 clear hk1
 obtain ⟨hB,v,hbk,hown,hne⟩:=h1
 have c0:w1.cell? ⟨b,0,none⟩=some (.pointer (some ⟨b,0,none⟩)):=by rw [Lib.cell_of_heap hbk];rfl
 have c1:w1.cell? ⟨b,1,none⟩=some v:=by rw [Lib.cell_of_heap hbk];rfl
 go_wp2_with (at_builtin;refine Lib.wpList_append_own_string _ rfl _ _ 82 9 rfl B 5 i0 Tryz.underlying82 Tryz.underlying9 hi hz0 hz1 hz2 _ _ _ rfl hown s rfl ?c3 ?c4 ?c5 ?_)
 case c3=>unfold maxLen;omega
 case c4=>omega
 case c5=>have:=hb1.size;omega
 intro v' w2 hown' hgrow _
 have hlt:b < w1.heap.size:=by
  rcases Nat.lt_or_ge b w1.heap.size with h' | h'
  ·exact h'
  ·simp [Array.getElem?_eq_none h'] at hbk
 have hb2:w2.heap[b]? = some (.cells #[.pointer (some ⟨b,0,none⟩),v] 124 (0,0)):=by
  rw [hgrow.block b hlt (fun e=>hne e.symm)]
  exact hbk
 have d0:w2.cell? ⟨b,0,none⟩=some (.pointer (some ⟨b,0,none⟩)):=by rw [Lib.cell_of_heap hb2];rfl
 have d1:w2.cell? ⟨b,1,none⟩=some v:=by rw [Lib.cell_of_heap hb2];rfl
 have f1:w2.frozen? ⟨b,1,none⟩=false:=Lib.frozen_of_heap hb2 1
 obtain ⟨ao,n',cap,rfl⟩:∃ ao n' cap,v'=.slice ao n' cap:=by
  rcases hown'.2 with ⟨hv,_⟩ | ⟨g,cap,cur,hv,_⟩
  ·exact ⟨_,_,_,hv⟩
  ·exact ⟨_,_,_,hv⟩
 go_wp2
 go_ret2
 refine ⟨rfl,?_,?_,?_⟩
 ·exact Lib.BuilderAt.put (T := 124) (e := 5) hB hb2 (bs':=bs++Lib.strCells s) (by simpa [Lib.strCells_length] using hown') (by decide)
 ·exact (hb1.grown hgrow (by have:=hb1.size;omega) (fun k hk=>(hown.lt k hk).1)).setCell (p:=⟨b,1,none⟩) hB _
 ·refine (HK1.out.grown hgrow (fun g hg=>?_)).setCell ⟨b,1,none⟩ rfl _
  rcases hown.2 with ⟨hv,_⟩ | ⟨g',cap',cur',hv,_,hh,_⟩
  ·rw [hv] at hg
   simp [Value.ownBlock] at hg
  ·rw [hv] at hg
   have:g'=g:=by simpa [Value.ownBlock] using hg
   subst this
   exact ⟨_,_,hh⟩

theorem strCells_mk (l:List UInt8):Lib.strCells ⟨l.toArray⟩=Lib.byteCells l:=by
 simp [Lib.strCells,Lib.byteCells]
theorem byteCells_app (a b:List UInt8):Lib.byteCells (a++b)=Lib.byteCells a++Lib.byteCells b:=by simp [Lib.byteCells]
theorem isBuilder_below {T e:TypeId} {B b:Nat} {bs:List Value} {w w':World} (h:Lib.IsBuilder T e B b bs w) (hb:Below w.heap.size w w'):Lib.IsBuilder T e B b bs w':=by
 have hat:∀ p,Lib.BuilderAt T e B b p bs w→Lib.BuilderAt T e B b p bs w':=by
  rintro p hp
  have hlt:=hp.lt
  obtain ⟨hB,v,hbk,hown,hne⟩:=hp
  exact ⟨hB,v,by rw [hb.block b hlt];exact hbk,own_below hown hb,hne⟩
 exact h.elim (fun x=>.inl (hat _ x)) (fun x=>.inr (hat _ x))
theorem b_new (w:World) (B:Nat) (hB:B≤w.heap.size):Lib.IsBuilder 124 5 B w.heap.size [] (w.alloc (.cells #[.pointer none,.slice none 0 0] 124)) :=
 .inl ⟨hB,.slice none 0 0,heap_alloc_new w _,World.ownsRow_nil _ _ _ _,by simp [Value.ownBlock]⟩
end Go.Proofs.YtnkkcknogkgdkaaGreatDoor.PqW

namespace Go.Proofs.YtnkkcknogkgdkaaGreatDoor.Mem
open Lib (hid)
open Go
section
variable {P:Program} {ops:Array Oper} {Q:Exit→Act→World→Prop} {md:Region.Mode} {S:World→Prop}
/-- An operation that calls a function which answers v in whatever world meets S, and keeps S. -/
def CallIf (P:Program) (ops:Array Oper) (S:World→Prop) (o:Oper) (v:Value) (a:Act):Prop :=
 Region.wanted o (yielded ops a.tmps)=true∧∃ f args,(∀ w,S w→(execOp a.eval o).run P w=.ok (.enter f args) w)∧∀ w,S w→Calls P f args w fun e w'=>e=.returned v∧S w'
def Det (P:Program) (ops:Array Oper) (S:World→Prop) (o:Oper) (v:Value) (a:Act):Prop:=YieldsIf P ops S o v a∨CallIf P ops S o v a
theorem Det.of_same {o:Oper} {v:Value} {a a':Act} (hy:Det P ops S o v a) (he:execOp a'.eval o=execOp a.eval o)
  (hw:Region.wanted o (yielded ops a'.tmps)=Region.wanted o (yielded ops a.tmps)):Det P ops S o v a':=by
 rcases hy with h | h
 ·exact .inl (h.of_same he hw)
 ·refine .inr ?_
  unfold CallIf at *
  rw [he,hw]
  exact h
theorem Det.wpOp {i:Nat} {o:Oper} {v:Value} {a:Act} (hi:ops[i]? = some o) (hy:Det P ops S o v a) {K:Act→World→Prop} {w:World} (hS:S w) (h:∀ w',S w'→K (a.put o.dst v) w'):wpOp P ops Q i K a w:=by
 rcases hy with hy | ⟨hw,f,args,hr,hc⟩
 ·exact hy.wpOp hi hS (h w hS)
 ·unfold Go.wpOp
  simp only [hi,hw,if_true,Oper.wp,hr w hS,Oper.upon]
  refine .inl (Calls.mono (hc w hS) ?_)
  rintro e w' ⟨rfl,hS'⟩
  exact h w' hS'
def wpAnyD (P:Program) (md:Region.Mode) (ops:Array Oper) (Q:Exit→Act→World→Prop) (S:World→Prop):Nat→Array Bool→Act→Prop
 | 0,l,a=>Region.ready md ops l=[]∧∀ w,S w→Q .normal a w
 | n+1,l,a=>(Region.ready md ops l=[]→∀ w,S w→Q .normal a w)∧∀ i∈Region.ready md ops l,∃ o v,ops[i]? = some o∧Det P ops S o v a∧wpAnyD P md ops Q S n (l.setIfInBounds i true) (a.put o.dst v)
theorem wpAny_of_D:∀ (n:Nat) (l:Array Bool) (a:Act) (w:World),S w→wpAnyD P md ops Q S n l a→wpAny P md ops Q n l a w
 | 0,_,_,w,hS,h=>⟨h.1,h.2 w hS⟩
 | n+1,_,_,w,hS,h=>⟨fun h0=>h.1 h0 w hS,fun i hi=>by
   obtain ⟨o,v,ho,hd,hr⟩:=h.2 i hi
   exact hd.wpOp ho hS fun w' hS'=>wpAny_of_D n _ _ w' hS' hr⟩
theorem wpAnyD_first {i:Nat} {oi:Oper} {v:Value} (hi:ops[i]? = some oi) (hsel:∀ (j:Nat) (o:Oper) cs b,ops[j]? = some o→o.op≠.select cs b):∀ (n:Nat) (l:Array Bool) (a:Act),
   (∀ j oj,ops[j]? = some oj→j≠i→l.getD j true=false→(∀ e∈oj.after,Region.binds md e=true→e.on≠i)→oi.apart ops oj=true) →
   i∈Region.ready md ops l→Det P ops S oi v a→wpAnyD P md ops Q S n (l.setIfInBounds i true) (a.put oi.dst v)→wpAnyD P md ops Q S (n+1) l a:=by
 intro n
 induction n with
 | zero =>
  intro l a _ hr hy H
  refine ⟨fun h=>(by rw [h] at hr;cases hr),fun j hj=>?_⟩
  by_cases e:j=i
  ·subst e
   exact ⟨oi,v,hi,hy,H⟩
  ·have h3:=ready_mono hj e
   rw [H.1] at h3
   cases h3
 | succ n ih =>
  intro l a hfree hr hy H
  refine ⟨fun h=>(by rw [h] at hr;cases hr),fun j hj=>?_⟩
  by_cases hji:j=i
  ·subst hji
   exact ⟨oi,v,hi,hy,H⟩
  ·obtain ⟨o',u,ho',hd,hr'⟩:=H.2 j (ready_mono hj hji)
   obtain ⟨hjun,oj,hoj,hall⟩:=mem_ready.1 hj
   obtain rfl:oj=o':=Option.some.inj (hoj.symm.trans ho')
   have hnot:∀ e∈oj.after,Region.binds md e=true→e.on≠i:=fun e he hb heq=>by
    have h1:=hall e he hb
    have h0:=(mem_ready.1 hr).1
    rw [heq] at h1
    rcases Nat.lt_or_ge i l.size with h' | h'
    ·simp [h'] at h0 h1;rw [h0] at h1;cases h1
    ·simp [Array.getElem?_eq_none h'] at h1
   have hap:=hfree j oj hoj hji hjun hnot
   obtain ⟨h1,h2,h3⟩:=Oper.apart_spec hap
   have hsi:∀ cs b,oi.op≠.select cs b:=fun cs b=>hsel i oi cs b hi
   have hsj:∀ cs b,oj.op≠.select cs b:=fun cs b=>hsel j oj cs b hoj
   have hdj:Det P ops S oj u a:=hd.of_same (execOp_put oj hsj a oi.dst v h1).symm (wanted_put oj a oi.dst v h1).symm
   have hdi:Det P ops S oi v (a.put oj.dst u):=hy.of_same (execOp_put oi hsi a oj.dst u h3) (wanted_put oi a oj.dst u h3)
   refine ⟨oj,u,hoj,hdj,ih (l.setIfInBounds j true) (a.put oj.dst u) (fun k ok hk hki hun hno=>?_) (ready_mono hr (Ne.symm hji)) hdi ?_⟩
   ·refine hfree k ok hk hki ?_ hno
    by_cases hjk:j=k
    ·subst hjk;exact hjun
    ·rw [getD_set_ne true hjk] at hun;exact hun
   ·rw [Array.setIfInBounds_comm _ _ hji,← Act.put_comm a v u h2]
    exact hr'
/-- Take number i first: it yields v, whatever the world. -/
theorem wpAnyD_take {i:Nat} {oi:Oper} {v:Value} {n:Nat} {l:Array Bool} {a:Act} (hi:ops[i]? = some oi)
  (hs:Region.noSelect ops=true) (hf:Region.free md ops l i=true) (hr:(Region.ready md ops l).contains i=true) (hy:Det P ops S oi v a)
  (h:wpAnyD P md ops Q S n (l.setIfInBounds i true) (a.put oi.dst v)):wpAnyD P md ops Q S (n+1) l a :=
 wpAnyD_first hi (Region.noSelect_spec hs) n l a (Region.free_spec hi hf) (by simpa using hr) hy h
theorem tD {i:Nat} {oi:Oper} {v:Value} {n:Nat} {l:Array Bool} {a:Act} (d:Option Nat) (hi:ops[i]? = some oi) (hy:Det P ops S oi v a) (h:wpAnyD P md ops Q S n (l.setIfInBounds i true) (a.put d v)) (hd:oi.dst=d:=by rfl)
    (hs:Region.noSelect ops=true:=by kernel_rfl) (hf:Region.free md ops l i=true:=by kernel_rfl) (hr:(Region.ready md ops l).contains i=true:=by kernel_rfl):wpAnyD P md ops Q S (n+1) l a:=by
  subst hd
  exact wpAnyD_take hi hs hf hr hy h
theorem wpAnyD_done {l:Array Bool} {a:Act} (hr:Region.ready md ops l=[]) (h:∀ w,S w→Q .normal a w):∀ n,wpAnyD P md ops Q S n l a
 | 0=>⟨hr,h⟩
 | _+1=>⟨fun _=>h,by rw [hr];simp⟩
theorem wp_region_det {id:Nat} {a:Act} {w:World} (S:World→Prop) (hm:P.follows .mixedOrders=true) (hS:S w.drew)
  (h:wpAnyD P .any ops Q S ops.size (Array.replicate ops.size false) a):(Code.region id ops true).wp P Q a w :=
 wp_region_any hm (wpAny_of_D _ _ _ _ hS h)
end
end Go.Proofs.YtnkkcknogkgdkaaGreatDoor.Mem

namespace Go.Proofs.YtnkkcknogkgdkaaGreatDoor.PaW
open Lib (hid)
open Go Go.RowKit Go.Proofs.YtnkkcknogkgdkaaGreatDoor.Mem Go.Proofs.YtnkkcknogkgdkaaGreatDoor.Pa
open Go.Proofs.YtnkkcknogkgdkaaGreatDoor.Ge (V)
open Go.Proofs.YtnkkcknogkgdkaaGreatDoor.Lex (Tok)
open Go.Proofs.YtnkkcknogkgdkaaGreatDoor.LexW (tokCells)
attribute [local go_sem ↓] Go.wp_at_zero Go.wp_at_succ

open Go.Proofs.YtnkkcknogkgdkaaGreatDoor.Ge (within)
open Go.Proofs.YtnkkcknogkgdkaaGreatDoor.PqW (writeString_k strCells_mk byteCells_app isBuilder_below b_new)
theorem gPow : Tryz.prog.globalNamed "internal/strconv.uint64pow10" = some 1:=by kernel_rfl
/-- The library's table of powers lies in memory. -/
structure Glob (w:World):Prop where
 tab:Lib.TabIs Tryz.prog w "internal/strconv.uint64pow10" .u64 Lib.pow10Tab
 lt : 1 < w.heap.size
theorem Glob.below {w w':World} (h:Glob w) (hb:Below w.heap.size w w'):Glob w':=⟨var?_below hb gPow h.lt h.tab,Nat.lt_of_lt_of_le h.lt hb.size⟩
/-- The builder in block b holds a text; what else lies in memory is as in an earlier world. -/
structure Bd (B b:Nat) (out:List UInt8) (w0 w:World):Prop where
 bld:Lib.IsBuilder 124 5 B b (Lib.byteCells out) w
 bel:Below B w0 w
 kept:Lib.OthersKept 5 (some b) w0 w
theorem kept_below {w w':World} {b:Nat} (hb:Below w.heap.size w w'):Lib.OthersKept 5 (some b) w w':=fun k _o h _ _=>(hb.block k (blk_lt h)).trans h
theorem Bd.below {B b:Nat} {out:List UInt8} {w0 w w':World} (h:Bd B b out w0 w) (hb:Below w.heap.size w w') (hB:B≤w.heap.size):Bd B b out w0 w' :=
 ⟨isBuilder_below h.bld hb,h.bel.trans (hb.mono hB),h.kept.trans (kept_below hb)⟩
theorem Bd.wr {B b:Nat} {out out':List UInt8} {w0 w w':World} (h:Bd B b out w0 w) (h':Bd B b out' w w'):Bd B b out' w0 w' :=
 ⟨h'.bld,h.bel.trans h'.bel,h.kept.trans h'.kept⟩
theorem Bd.lt {B b:Nat} {out:List UInt8} {w0 w:World} (h:Bd B b out w0 w):b < w.heap.size:=by
 rcases h.bld with h | h<;>exact h.lt
end Go.Proofs.YtnkkcknogkgdkaaGreatDoor.PaW
