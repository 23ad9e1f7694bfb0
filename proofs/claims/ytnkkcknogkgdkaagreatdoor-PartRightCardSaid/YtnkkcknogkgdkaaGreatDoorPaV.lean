/- Walk: Valid of the part language. Conditions: the sources lie in memory; names and grades of at most 1000000 bytes. -/
import Derived.Test.YtnkkcknogkgdkaaGreatDoorPaSize
import Derived.Test.YtnkkcknogkgdkaaGreatDoorPaE
import Derived.Test.YtnkkcknogkgdkaaGreatDoorLexW15
import Derived.Test.YtnkkcknogkgdkaaGreatDoorPaM

namespace Go.Proofs.YtnkkcknogkgdkaaGreatDoor.PaW
open Lib (hid)
open Go Go.RowKit Go.Proofs.YtnkkcknogkgdkaaGreatDoor.Mem Go.Proofs.YtnkkcknogkgdkaaGreatDoor.Pa
open Go.Proofs.YtnkkcknogkgdkaaGreatDoor.Ge (V)
open Go.Proofs.YtnkkcknogkgdkaaGreatDoor.Lex (Tok)
open Go.Proofs.YtnkkcknogkgdkaaGreatDoor.LexW (tokCells)
attribute [local go_sem ↓] Go.wp_at_zero Go.wp_at_succ

def goodT (l:List Int) (k:Nat) (h:k < l.length):Prop:=(0≤l[k]∧l[k]≤7)∧(0 < k→l[k - 1]'(by omega) < l[k])
theorem turns_ix:∀ l:List Int,turnsOk l=true ↔ 1≤l.length∧∀ k (h:k < l.length),goodT l k h
 | []=>by simp [turnsOk]
 | [a]=>by
  simp only [turnsOk,Bool.and_eq_true,decide_eq_true_eq]
  constructor
  ·intro h
   refine ⟨by simp,fun k hk=>?_⟩
   obtain rfl:k=0:=by simpa using hk
   exact ⟨h,fun h0=>absurd h0 (by omega)⟩
  ·intro h
   exact (h.2 0 (by simp)).1
 | a::b::r=>by
  have ih:=turns_ix (b::r)
  simp only [turnsOk,Bool.and_eq_true,decide_eq_true_eq]
  rw [ih]
  constructor
  ·rintro ⟨h1,h2,h3,h4,h5⟩
   refine ⟨by simp,fun k hk=>?_⟩
   match k,hk with
   | 0,_=>exact ⟨⟨h1,h2⟩,fun h0=>absurd h0 (by omega)⟩
   | 1,_=>exact ⟨(h5 0 (by simp)).1,fun _=>h3⟩
   | k+2,hk =>
    have:=h5 (k+1) (by simpa using hk)
    exact ⟨this.1,fun _=>this.2 (by omega)⟩
  ·rintro ⟨h1,h2⟩
   have g0:=h2 0 (by simp)
   have g1:=h2 1 (by simp)
   refine ⟨g0.1.1,g0.1.2,g1.2 (by omega),by simp,fun k hk=>?_⟩
   have:=h2 (k+1) (by simpa using hk)
   refine ⟨this.1,fun h0=>?_⟩
   obtain ⟨q,rfl⟩:∃ q,k=q+1:=⟨k - 1,by omega⟩
   have h3:=this.2 (by omega)
   simpa using h3
theorem int_get {w:World} {A:Option Addr} {l:List Int} (h:Row w A (l.map (Value.int .i64))) {k:Nat} (hk:k < l.length):∃ g off,A=some ⟨g,off,none⟩∧g < w.heap.size∧∀ m (hm:m < l.length),w.cell? ⟨g,off+m,none⟩=some (.int .i64 l[m]):=by
 obtain ⟨g,off,e,hg,hc⟩:=h (fun e=>by have:=congrArg List.length e;rw [List.length_map,List.length_nil] at this;omega)
 exact ⟨g,off,e,hg,fun m hm=>(hc m (by simpa using hm)).trans (by simp [List.getElem?_eq_getElem hm])⟩
set_option maxRecDepth 100000 in
set_option maxHeartbeats 1000000 in
theorem turns_any (l:List Int) (A:Option Addr) (c:Nat) (w:World) (hr:Row w A (l.map (Value.int .i64))) (hl:l.length≤1000000) :
  Calls Tryz.prog 113 #[.slice A l.length c] w fun e w'=>e=.returned (.bool (turnsOk l))∧Below w.heap.size w w':=by
 have HR:=hid hr
 have HNO:Hid (∀ k (h:k < l.length),¬ goodT l k h→turnsOk l=false):=hid (fun k h hn=>by
  cases ht:turnsOk l
  ·rfl
  ·exact absurd (((turns_ix l).1 ht).2 k h) hn)
 have HYES:Hid ((∀ k (h:k < l.length),goodT l k h)→turnsOk l=decide (1≤l.length)):=hid (fun h=>by
  by_cases h1:1≤l.length
  ·rw [decide_eq_true h1];exact (turns_ix l).2 ⟨h1,h⟩
  ·rw [decide_eq_false h1]
   cases ht:turnsOk l
   ·rfl
   ·exact absurd ((turns_ix l).1 ht).1 h1)
 clear hr
 obtain ⟨KT,HKT⟩:∃ KT,Hid (turnsOk l=KT):=⟨_,hid rfl⟩
 rw [HKT.out] at HNO HYES ⊢
 clear HKT
 go_enter Tryz.func113,Tryz.ntmps113
 go_wp2_with fail
 go_loopw [7] (fun v wr=>∃ k:Nat,v=.int .i64 (k:Int)∧k≤l.length∧Hid (∀ m (h:m < l.length),m < k→goodT l m h)∧Hid (Below w.heap.size w wr)) (fun v _=>l.length - (intOf v).toNat)
 case atStart=>exact ⟨0,rfl,Nat.zero_le _,hid (fun m h h0=>absurd h0 (by omega)),hid (Below.refl _ _)⟩
 case round =>
  obtain ⟨k,rfl,hk,HG,HB⟩:=hrel
  by_cases hlt:k < l.length
  ·obtain ⟨g,off,rfl,hg,hc⟩:=int_get (HR.out.below HB.out) hlt
   have a0:=hc k hlt
   have HN:=hid (HNO.out k hlt)
   have HS:Hid (goodT l k hlt→∀ m (h:m < l.length),m < k+1→goodT l m h):=hid (fun hgk m h hm=>by
    rcases Nat.lt_or_ge m k with h1 | h1
    ·exact HG.out m h h1
    ·obtain rfl:m=k:=by omega
     exact hgk)
   have hk1:(0:Int)≤(k:Int):=by omega
   have hk2:(k:Int) < (l.length:Int):=by omega
   unfold goodT at HN HS
   clear HNO HYES HG
   by_cases h0:0 < k
   ·have d0:decide ((0:Int) < (k:Int))=true:=decide_eq_true (by omega)
    have hkm:k - 1 < l.length:=by omega
    have a1:=hc (k - 1) hkm
    have hk3:(0:Int)≤(k:Int) - 1:=by omega
    have hk4:(k:Int) - 1 < (l.length:Int):=by omega
    have hk5:((k:Int) - 1).toNat=k - 1:=by omega
    clear hc
    have HN2:=hid (fun (h : ¬ ((0≤l[k]∧l[k]≤7)∧l[k - 1] < l[k]))=>HN.out (fun hh=>h ⟨hh.1,hh.2 h0⟩))
    have HS2:=hid (fun (h:(0≤l[k]∧l[k]≤7)∧l[k - 1] < l[k])=>HS.out ⟨h.1,fun _=>h.2⟩)
    clear HN HS
    generalize l[k]=t at *
    generalize l[k - 1]=u at *
    by_cases c1:t < 0
    ·have e1:=HN2.out (by omega)
     subst e1
     go_wp2
     go_ret
     exact ⟨rfl,HB.out⟩
    by_cases c2:7 < t
    ·have e1:=HN2.out (by omega)
     subst e1
     go_wp2
     go_ret
     exact ⟨rfl,HB.out⟩
    by_cases c3:t≤u
    ·have e1:=HN2.out (by omega)
     subst e1
     go_wp2
     go_ret
     exact ⟨rfl,HB.out⟩
    ·have HS3:=hid (HS2.out (by omega))
     clear HN2 HS2
     go_wp2
     go_roundw
     case rel=>exact ⟨k+1,by go_num,by omega,HS3,HB⟩
     case measure=>simp [intOf];omega
   ·have d0:decide ((0:Int) < (k:Int))=false:=decide_eq_false (by omega)
    clear hc
    have HN2:=hid (fun (h : ¬ (0≤l[k]∧l[k]≤7))=>HN.out (fun hh=>h hh.1))
    have HS2:=hid (fun (h:0≤l[k]∧l[k]≤7)=>HS.out ⟨h,fun h1=>absurd h1 h0⟩)
    clear HN HS
    generalize l[k]=t at *
    by_cases c1:t < 0
    ·have e1:=HN2.out (by omega)
     subst e1
     go_wp2
     go_ret
     exact ⟨rfl,HB.out⟩
    by_cases c2:7 < t
    ·have e1:=HN2.out (by omega)
     subst e1
     go_wp2
     go_ret
     exact ⟨rfl,HB.out⟩
    ·have HS3:=hid (HS2.out (by omega))
     clear HN2 HS2
     go_wp2
     go_roundw
     case rel=>exact ⟨k+1,by go_num,by omega,HS3,HB⟩
     case measure=>simp [intOf];omega
  ·obtain rfl:k=l.length:=by omega
   have e1:=HYES.out (fun m h=>HG.out m h h)
   subst e1
   have d1:decide ((1:Int)≤(l.length:Int))=decide (1≤l.length):=by simp only [decide_eq_decide];omega
   go_wp2
   go_ret
   exact ⟨rfl,HB.out⟩
attribute [local go_sem ↓] Go.wp_at_zero Go.wp_at_succ

open Go.Proofs.YtnkkcknogkgdkaaGreatDoor.LexW (isName_any)
theorem name_of (s:List UInt8) (hs:s.length≤1000000) (w:World):Calls Tryz.prog 112 #[.string ⟨s.toArray⟩] w fun e w'=>e=.returned (.bool (Lex.isName s))∧w=w' :=
 (isName_any ⟨s.toArray⟩ w (by rw [str_size];exact hs)).mono fun _ _ h=>⟨h.1,h.2⟩
set_option maxRecDepth 100000 in
set_option maxHeartbeats 1000000 in
theorem named_any (nm gr:List UInt8) (g:Int) (ts:List Int) (A:Option Addr) (c:Nat) (w:World) (hr:Row w A (ts.map (Value.int .i64))) (hl:ts.length≤1000000) (h1:nm.length≤1000000) (h2:gr.length≤1000000) :
  Calls Tryz.prog 56 #[.string ⟨nm.toArray⟩,.string ⟨gr.toArray⟩,.int .i64 g,.slice A ts.length c] w fun e w'=>e=.returned (.bool (namedOk nm gr g ts))∧Below w.heap.size w w':=by
 have H1:=hid (fun W=>name_of nm h1 W)
 have H2:=hid (fun W=>name_of gr h2 W)
 have H3:=hid (turns_any ts A c w hr hl)
 unfold namedOk
 generalize Lex.isName nm=q1 at *
 generalize Lex.isName gr=q2 at *
 generalize turnsOk ts=q3 at *
 generalize (ByteArray.mk nm.toArray)=NB at *
 generalize (ByteArray.mk gr.toArray)=GB at *
 clear hr
 go_enter Tryz.func56,Tryz.ntmps56
 go_wp2_with fail
 refine (H1.out _).mono ?_
 rintro e w1 ⟨rfl,rfl⟩
 cases q1
 ·go_wp2
  go_ret
  exact ⟨rfl,Below.refl _ _⟩
 go_wp2_with fail
 refine (H2.out _).mono ?_
 rintro e w2 ⟨rfl,rfl⟩
 cases q2
 ·go_wp2
  go_ret
  exact ⟨rfl,Below.refl _ _⟩
 by_cases h3:0≤g
 case neg =>
  have d1:decide (0≤g)=false:=decide_eq_false h3
  go_wp2
  go_ret
  exact ⟨by simp [d1],Below.refl _ _⟩
 case pos =>
 have d1:decide (0≤g)=true:=decide_eq_true h3
 by_cases h4:g≤2
 case neg =>
  have d2:decide (g≤2)=false:=decide_eq_false h4
  go_wp2
  go_ret
  exact ⟨by simp [d2],Below.refl _ _⟩
 case pos =>
 have d2:decide (g≤2)=true:=decide_eq_true h4
 go_wp2_with fail
 refine H3.out.mono ?_
 rintro e w3 ⟨rfl,hb⟩
 go_wp2
 go_ret
 exact ⟨by simp [d1,d2],hb⟩
end Go.Proofs.YtnkkcknogkgdkaaGreatDoor.PaW

namespace Go.Proofs.YtnkkcknogkgdkaaGreatDoor.PaW
open Lib (hid)
open Go Go.RowKit Go.Proofs.YtnkkcknogkgdkaaGreatDoor.Mem Go.Proofs.YtnkkcknogkgdkaaGreatDoor.Pa
open Go.Proofs.YtnkkcknogkgdkaaGreatDoor.Ge (V)
open Go.Proofs.YtnkkcknogkgdkaaGreatDoor.Lex (Tok)
open Go.Proofs.YtnkkcknogkgdkaaGreatDoor.LexW (tokCells)
attribute [local go_sem ↓] Go.wp_at_zero Go.wp_at_succ

theorem holes_all (l:List OutM):(l.map OutM.o).all outlineOk = !(l.any fun m => !outlineOk m.o):=by
 rw [List.all_map,List.all_eq_not_any_not]
 simp [Function.comp]
theorem sourceOk_src (m:SrcM):sourceOk m.src=(namedOk m.name m.grade m.grain m.turns&&(decide (1≤m.tol)&&(decide (m.tol≤50)&&(outlineOk m.outer.o&&(decide ((m.holes.map OutM.o).length≤6)&&(m.holes.map OutM.o).all outlineOk))))):=rfl
set_option maxRecDepth 100000 in
set_option maxHeartbeats 4000000 in
theorem valid_any {TT TO TS:TypeId} {base:Nat} (ms:List SrcM) (A:Option Addr) (c:Nat) (w:World) (h:SrcsIn TT TO TS base w A ms) (hl:ms.length≤1000000) (hn:∀ m∈ms,m.name.length≤1000000∧m.grade.length≤1000000) :
  Calls Tryz.prog 33 #[.slice A ms.length c] w fun e w'=>e=.returned (.bool (sourcesOk (ms.map SrcM.src)))∧Below w.heap.size w w':=by
 have HR:=hid h.1.1
 have HS:=hid h.2
 have HNM:=hid hn
 clear h hn
 have HNO:Hid (∀ k (h:k < ms.length),sourceOk ms[k].src=false→sourcesOk (ms.map SrcM.src)=false):=hid (fun k h hk=>by
  unfold sourcesOk
  rw [Bool.and_eq_false_iff]
  left
  rw [List.all_eq_false]
  exact ⟨ms[k].src,List.mem_map.2 ⟨_,List.getElem_mem _,rfl⟩,by rw [hk];decide⟩)
 have HYES:Hid ((∀ k (h:k < ms.length),sourceOk ms[k].src=true)→sourcesOk (ms.map SrcM.src)=decide (ms.length≤20)):=hid (fun h=>by
  unfold sourcesOk
  rw [List.length_map,(List.all_eq_true (l:=ms.map SrcM.src)).2 (fun x hx=>by
   obtain ⟨m,hm,rfl⟩:=List.mem_map.1 hx
   obtain ⟨q,hq,rfl⟩:=List.getElem_of_mem hm
   exact h q hq),Bool.true_and])
 obtain ⟨KT,HKT⟩:∃ KT,Hid (sourcesOk (ms.map SrcM.src)=KT):=⟨_,hid rfl⟩
 rw [HKT.out] at HNO HYES ⊢
 clear HKT
 go_enter Tryz.func33,Tryz.ntmps33
 go_wp2_with fail
 go_loopw [4,7] (fun _ v wr=>∃ k:Nat,v=.int .i64 (k:Int)∧k≤ms.length∧Hid (∀ q (h:q < ms.length),q < k→sourceOk ms[q].src=true)∧Hid (Below w.heap.size w wr)) (fun _ v _=>ms.length - (intOf v).toNat)
 case atStart=>exact ⟨0,rfl,Nat.zero_le _,hid (fun m h h0=>absurd h0 (by omega)),hid (Below.refl _ _)⟩
 case round =>
  obtain ⟨k,rfl,hk,HG,HB⟩:=hrel
  by_cases hkl:k < ms.length
  ·obtain ⟨g,off,hAe,hg,ca⟩:=row_get src_len (by decide) (HR.out.below HB.out) (by omega)
   have a0:=ca k hkl 0 (by decide)
   have a1:=ca k hkl 1 (by decide)
   have a2:=ca k hkl 2 (by decide)
   have a3:=ca k hkl 3 (by decide)
   have a4:=ca k hkl 4 (by decide)
   have a5:=ca k hkl 5 (by decide)
   have a6:=ca k hkl 6 (by decide)
   have a7:=ca k hkl 7 (by decide)
   have a8:=ca k hkl 8 (by decide)
   have a9:=ca k hkl 9 (by decide)
   have a10:=ca k hkl 10 (by decide)
   have HIN:=hid ((HS.out ms[k] (List.getElem_mem _)).below HB.out)
   have HNOX:=hid (HNO.out k hkl)
   have HNL:=hid (HNM.out ms[k] (List.getElem_mem _))
   have HSX:Hid (sourceOk ms[k].src=true→∀ q (h:q < ms.length),q < k+1→sourceOk ms[q].src=true):=hid (fun h1 q h hq=>by
    rcases Nat.lt_or_ge q k with h3 | h3
    ·exact HG.out q h h3
    ·obtain rfl:q=k:=by omega
     exact h1)
   have hk1:(0:Int)≤(k:Int):=by omega
   have hk2:(k:Int) < (ms.length:Int):=by omega
   clear ca HG HNO HYES
   subst hAe
   generalize ms[k]=m at *
   simp only [srcCells,strV,List.getElem?_cons_zero,List.getElem?_cons_succ,Nat.add_zero] at a0 a1 a2 a3 a4 a5 a6 a7 a8 a9 a10
   have HXN:=hid (heap_new wr (.cells #[.string ⟨m.name.toArray⟩,.string ⟨m.grade.toArray⟩,.int .i64 m.grain,.slice m.tA m.turns.length m.tc,.int .i64 m.tol,.bool m.outer.o.circle,.int .i64 m.outer.o.center.1,.int .i64 m.outer.o.center.2,.int .i64 m.outer.o.radius,.slice m.outer.A m.outer.o.steps.length m.outer.d,.slice m.hA m.holes.length m.hc] 58))
   have hbx:=bel1 wr (.cells #[.string ⟨m.name.toArray⟩,.string ⟨m.grade.toArray⟩,.int .i64 m.grain,.slice m.tA m.turns.length m.tc,.int .i64 m.tol,.bool m.outer.o.circle,.int .i64 m.outer.o.center.1,.int .i64 m.outer.o.center.2,.int .i64 m.outer.o.radius,.slice m.outer.A m.outer.o.steps.length m.outer.d,.slice m.hA m.holes.length m.hc] 58)
   have HBX:=hid (HB.out.trans (hbx.mono HB.out.size))
   have HOI:=hid (HIN.out.below hbx)
   go_upto_region 4 with fail
   clear a0 a1 a2 a3 a4 a5 a6 a7 a8 a9 a10 hbx HIN
   generalize wr.alloc (.cells #[.string ⟨m.name.toArray⟩,.string ⟨m.grade.toArray⟩,.int .i64 m.grain,.slice m.tA m.turns.length m.tc,.int .i64 m.tol,.bool m.outer.o.circle,.int .i64 m.outer.o.center.1,.int .i64 m.outer.o.center.2,.int .i64 m.outer.o.radius,.slice m.outer.A m.outer.o.steps.length m.outer.d,.slice m.hA m.holes.length m.hc] 58)=WX at *
   generalize wr.heap.size=xb at *
   have HNX:=hid (named_any m.name m.grade m.grain m.turns m.tA m.tc WX HOI.out.1.1 HOI.out.2.2.2.2.1 HNL.out.1 HNL.out.2)
   have HE1:Hid (namedOk m.name m.grade m.grain m.turns=false→sourceOk m.src=false):=hid (fun h=>by rw [sourceOk_src];rw [h];rfl)
   have HE2:Hid (namedOk m.name m.grade m.grain m.turns=true→1≤m.tol→m.tol≤50→outlineOk m.outer.o=true→m.holes.length≤6→sourceOk m.src = !(m.holes.any fun m => !outlineOk m.o)):=hid (fun h1 h2 h3 h4 h5=>by rw [sourceOk_src];rw [h1,decide_eq_true h2,decide_eq_true h3,h4,List.length_map,decide_eq_true h5,holes_all];simp)
   have HE3:Hid (m.tol < 1→sourceOk m.src=false):=hid (fun h=>by rw [sourceOk_src];rw [decide_eq_false (show ¬ 1≤m.tol by omega)];simp)
   have HE4:Hid (50 < m.tol→sourceOk m.src=false):=hid (fun h=>by rw [sourceOk_src];rw [decide_eq_false (show ¬ m.tol≤50 by omega)];simp)
   have HE5:Hid (outlineOk m.outer.o=false→sourceOk m.src=false):=hid (fun h=>by rw [sourceOk_src];rw [h];simp)
   have HE6:Hid (6 < m.holes.length→sourceOk m.src=false):=hid (fun h=>by rw [sourceOk_src];rw [List.length_map,decide_eq_false (show ¬ m.holes.length≤6 by omega)];simp)
   generalize sourceOk m.src=so at *
   generalize namedOk m.name m.grade m.grain m.turns=q1 at *
   have x0:=cell_of HXN.out 0 _ rfl
   have x1:=cell_of HXN.out 1 _ rfl
   have x2:=cell_of HXN.out 2 _ rfl
   have x3:=cell_of HXN.out 3 _ rfl
   have x4:=cell_of HXN.out 4 _ rfl
   have x5:=cell_of HXN.out 5 _ rfl
   have x6:=cell_of HXN.out 6 _ rfl
   have x7:=cell_of HXN.out 7 _ rfl
   have x8:=cell_of HXN.out 8 _ rfl
   have x9:=cell_of HXN.out 9 _ rfl
   have x10:=cell_of HXN.out 10 _ rfl
   go_wp2_with fail
   refine HNX.out.mono ?_
   rintro e w2 ⟨rfl,hb2⟩
   have HX2:=hid (p_below HXN.out hb2)
   have HO2:=hid (HOI.out.below hb2)
   have HBX:=hid (HBX.out.trans (hb2.mono HBX.out.size))
   clear hb2 HNX x0 x1 x2 x3 x4 x5 x6 x7 x8 x9 x10
   cases q1
   case false =>
    have hkt:=HNOX.out (by exact HE1.out rfl)
    subst hkt
    go_wp2
    go_ret
    exact ⟨rfl,HBX.out⟩
   case true =>
   have x4:=cell_of HX2.out 4 _ rfl
   have x5:=cell_of HX2.out 5 _ rfl
   have x6:=cell_of HX2.out 6 _ rfl
   have x7:=cell_of HX2.out 7 _ rfl
   have x8:=cell_of HX2.out 8 _ rfl
   have x9:=cell_of HX2.out 9 _ rfl
   have x10:=cell_of HX2.out 10 _ rfl
   by_cases t1:m.tol < 1
   ·have d1:decide (m.tol < 1)=true:=decide_eq_true t1
    have hkt:=HNOX.out (by exact HE3.out t1)
    subst hkt
    go_wp2
    go_ret
    exact ⟨rfl,HBX.out⟩
   have d1:decide (m.tol < 1)=false:=decide_eq_false t1
   by_cases t2:50 < m.tol
   ·have d2:decide (50 < m.tol)=true:=decide_eq_true t2
    have hkt:=HNOX.out (by exact HE4.out t2)
    subst hkt
    go_wp2
    go_ret
    exact ⟨rfl,HBX.out⟩
   have d2:decide (50 < m.tol)=false:=decide_eq_false t2
   have HVO:=hid (validOutline_any m.outer.o m.outer.A m.outer.d w2 HO2.out.2.1.1.1 HO2.out.2.1.2.2)
   unfold outV at HVO
   generalize outlineOk m.outer.o=q2 at *
   go_wp2_with fail
   refine HVO.out.mono ?_
   rintro e w3 ⟨rfl,hb3⟩
   have HX3:=hid (p_below HX2.out hb3)
   have HO3:=hid (HO2.out.below hb3)
   have HBX:=hid (HBX.out.trans (hb3.mono HBX.out.size))
   clear hb3 HVO x4 x5 x6 x7 x8 x9 x10
   cases q2
   case false =>
    have hkt:=HNOX.out (by exact HE5.out rfl)
    subst hkt
    go_wp2
    go_ret
    exact ⟨rfl,HBX.out⟩
   case true =>
   have x10:=cell_of HX3.out 10 _ rfl
   by_cases h6:6 < m.holes.length
   ·have d6:decide ((6:Int) < (m.holes.length:Int))=true:=decide_eq_true (by omega)
    have hkt:=HNOX.out (by exact HE6.out h6)
    subst hkt
    go_wp2
    go_ret
    exact ⟨rfl,HBX.out⟩
   have d6:decide ((6:Int) < (m.holes.length:Int))=false:=decide_eq_false (by omega)
   have HCN:=hid (badAny_any m.holes m.hA m.hc w3 HO3.out.2.2.1.1 HO3.out.2.2.2.1 HO3.out.2.2.2.2.2)
   have HE:=hid (HE2.out (by trivial) (by omega) (by omega) (by trivial) (by omega))
   generalize (m.holes.any fun m => !outlineOk m.o)=q3 at *
   go_wp2_with fail
   refine HCN.out.mono ?_
   rintro e w4 ⟨rfl,hb4⟩
   have HBX:=hid (HBX.out.trans (hb4.mono HBX.out.size))
   clear hb4 HCN x10
   cases q3
   case true =>
    have hkt:=HNOX.out (by exact HE.out)
    subst hkt
    go_wp2
    go_ret
    exact ⟨rfl,HBX.out⟩
   case false =>
   have hso:=HE.out
   go_wp2
   go_roundw
   case rel=>exact ⟨k+1,by go_num,by omega,hid (HSX.out hso),HBX⟩
   case measure=>simp [intOf];omega
  ·obtain rfl:k=ms.length:=by omega
   have hkt:=HYES.out (fun q h=>HG.out q h h)
   subst hkt
   have d20:decide ((ms.length:Int)≤20)=decide (ms.length≤20):=by simp only [decide_eq_decide];omega
   go_wp2
   go_ret
   exact ⟨rfl,HB.out⟩
end Go.Proofs.YtnkkcknogkgdkaaGreatDoor.PaW
