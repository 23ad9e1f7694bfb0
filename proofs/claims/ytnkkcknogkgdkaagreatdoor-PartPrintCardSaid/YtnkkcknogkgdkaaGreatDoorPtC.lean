/- Walk: sources of the program as those of the reference. Conditions: they lie in memory. -/
import Derived.Test.YtnkkcknogkgdkaaGreatDoorPcC
import Derived.Test.YtnkkcknogkgdkaaGreatDoorPaM
import Derived.Laws.StructEq
import Derived.Deep.CutRange
import Derived.Test.YtnkkcknogkgdkaaGreatDoorOrd
import Derived.Test.YtnkkcknogkgdkaaGreatDoorPaL
import Derived.Deep.DeepCutAuto

namespace Go.Proofs.YtnkkcknogkgdkaaGreatDoor.PaW
open Lib (hid)
open Go Go.RowKit Go.Proofs.YtnkkcknogkgdkaaGreatDoor.Mem Go.Proofs.YtnkkcknogkgdkaaGreatDoor.Pa
open Go.Proofs.YtnkkcknogkgdkaaGreatDoor.Ge (V)
open Go.Proofs.YtnkkcknogkgdkaaGreatDoor.Lex (Tok)
open Go.Proofs.YtnkkcknogkgdkaaGreatDoor.LexW (tokCells)
attribute [local go_sem ↓] Go.wp_at_zero Go.wp_at_succ

open Go.Proofs.YtnkkcknogkgdkaaGreatDoor.GeW (row_one)
set_option maxHeartbeats 2000000 in
theorem neq_stepR (g h g' h':Bool) (a b c d a' b' c' d':Int) (w:World):(binOp .neq 140 (.agg #[.bool g,.int .i64 a,.int .i64 b,.int .i64 c,.int .i64 d,.bool h]) (.agg #[.bool g',.int .i64 a',.int .i64 b',.int .i64 c',.int .i64 d',.bool h'])).run Tryz.prog w=.ok (.bool (!(decide (g=g')&&(decide ((a,b)=(a',b'))&&(decide ((c,d)=(c',d'))&&decide (h=h')))))) w:=by
 have u3:=Tryz.underlying3
 have a3:=Tryz.isAgg3
 have z3:=Tryz.sizeOf3
 have u4:=Tryz.underlying4
 have a4:=Tryz.isAgg4
 have z4:=Tryz.sizeOf4
 have av:=Tryz.isAgg35
 have zv:=Tryz.sizeOf35
 have hS : Tryz.prog.underlying 35 = some (.struct (Tryz.prog.fieldsOf 35)):=by kernel_rfl
 have hp : Tryz.prog.stoodInHeld 35 = false:=by kernel_rfl
 have hS2 : Tryz.prog.underlying 140 = some (.struct (Tryz.prog.fieldsOf 140)):=by kernel_rfl
 have hp2 : Tryz.prog.stoodInHeld 140 = false:=by kernel_rfl
 have hv:∀ (x y u v:Int) (w:World),(Op.equalIn 9999 35 (.agg #[.int .i64 x,.int .i64 y]) (.agg #[.int .i64 u,.int .i64 v])).run Tryz.prog w=.ok (decide ((x,y)=(u,v))) w:=by
  intro x y u v w
  rw [show (9999:Nat)=9998+1 from rfl,run_equalIn_agg w 9998 35 _ _ hS hp]
  simp only [Program.fieldsOf,Tryz.underlying35]
  go_simp
  by_cases h1:x=u<;>by_cases h2:y=v<;>simp [h1,h2]
 rw [run_neq_struct,show (10000:Nat)=9999+1 from rfl,run_equalIn_agg w 9999 140 _ _ hS2 hp2]
 simp only [Program.fieldsOf,Tryz.underlying140]
 clear hS hp hS2 hp2
 go_simp
 by_cases h1:a=a'<;>by_cases h2:b=b'<;>by_cases h3:c=c'<;>by_cases h4:d=d'<;>by_cases h5:g=g'<;>by_cases h6:h=h'<;>simp [h1,h2,h3,h4,h5,h6]
theorem take_one_more {α:Type} {l m:List α} {k:Nat} (h:l.take k=m.take k) (h1:k < l.length) (h2:k < m.length) (he:l[k]=m[k]):l.take (k+1)=m.take (k+1):=by
 rw [List.take_succ_eq_append_getElem h1,List.take_succ_eq_append_getElem h2,h,he]
theorem get_ne {α:Type} {l m:List α} {k:Nat} (h1:k < l.length) (h2:k < m.length) (he:l[k]≠m[k]):l≠m:=fun e=>he (by subst e;rfl)
set_option maxRecDepth 100000 in
set_option maxHeartbeats 1000000 in
theorem sameInts_any (l m:List Int) (A B:Option Addr) (c d:Nat) (w:World) (hr:Row w A (l.map (Value.int .i64))) (hs:Row w B (m.map (Value.int .i64))) (hl:l.length≤1000000) :
  Calls Tryz.prog 44 #[.slice A l.length c,.slice B m.length d] w fun e w'=>e=.returned (.bool (decide (l=m)))∧Below w.heap.size w w':=by
 have HR:=hid hr
 have HS:=hid hs
 clear hr hs
 by_cases hlen:l.length=m.length
 ·have HT0:=hid (show l.take 0=m.take 0 by simp)
  have HLM:=hid hlen
  go_enter Tryz.func44,Tryz.ntmps44
  rw [← hlen]
  clear hlen
  go_wp2
  go_loopw [5] (fun i wr=>∃ k:Nat,k≤l.length∧i=.int .i64 k∧Hid (l.take k=m.take k)∧Hid (Below w.heap.size w wr)) (fun i _=>l.length - (intOf i).toNat)
  case atStart=>exact ⟨0,Nat.zero_le _,rfl,HT0,hid (Below.refl _ _)⟩
  case round =>
   obtain ⟨k,hk,rfl,HT,HB⟩:=hrel
   by_cases hlt:k < l.length
   ·have hlt2:k < m.length:=by have:=HLM.out;omega
    obtain ⟨g,off,rfl,hg,ca⟩:=row_one HR.out (k:=k) (by simpa using hlt)
    obtain ⟨g2,off2,rfl,hg2,cb⟩:=row_one HS.out (k:=k) (by simpa using hlt2)
    have a0:=(HB.out.cell (p:=⟨g,off+k,none⟩) hg).trans (ca k (by simpa using hlt))
    have b0:=(HB.out.cell (p:=⟨g2,off2+k,none⟩) hg2).trans (cb k (by simpa using hlt2))
    rw [List.getElem_map] at a0 b0
    have hk1:(0:Int)≤(k:Int):=by omega
    have hk2:(k:Int) < (l.length:Int):=by omega
    have HMO:=hid (fun h=>take_one_more HT.out hlt hlt2 h)
    have HNO:=hid (fun h=>get_ne hlt hlt2 h)
    clear ca cb
    generalize l[k]=p at *
    generalize m[k]=q at *
    clear hlt2
    by_cases he:p=q
    ·have HT2:=hid (HMO.out he)
     have d1:(p != q)=false:=by simp [he]
     clear he HMO HNO
     go_wp2
     go_region
     go_wp2
     go_roundw
     case rel=>exact ⟨k+1,hlt,by go_num,HT2,hid (below_drewN HB.out 1)⟩
     case measure=>simp [intOf];omega
    ·have HF:Hid (decide (l=m)=false):=hid (decide_eq_false (HNO.out he))
     have d1:(p != q)=true:=by simp [he]
     clear he HMO HNO
     go_wp2
     go_region
     go_wp2
     go_ret
     rw [HF.out]
     exact ⟨rfl,below_drewN HB.out 1⟩
   ·obtain rfl:k=l.length:=by omega
    have HF:Hid (decide (l=m)=true):=hid (decide_eq_true (by
     have h:=HT.out
     rw [List.take_length,HLM.out,List.take_length] at h
     exact h))
    go_wp2
    go_ret
    rw [HF.out]
    exact ⟨rfl,HB.out⟩
 ·have d1:((l.length:Int) != (m.length:Int))=true:=bne_iff_ne.2 (by omega)
  have HF:Hid (decide (l=m)=false):=hid (decide_eq_false (fun h=>hlen (congrArg List.length h)))
  clear hlen
  go_enter Tryz.func44,Tryz.ntmps44
  go_wp2
  go_ret
  rw [HF.out]
  exact ⟨rfl,Below.refl _ _⟩
theorem step_eq_iff (s t:Step):(decide (s.arc=t.arc)&&(decide ((s.to.1,s.to.2)=(t.to.1,t.to.2))&&(decide ((s.center.1,s.center.2)=(t.center.1,t.center.2))&&decide (s.cw=t.cw))))=decide (s=t):=by
 obtain ⟨a,⟨b1,b2⟩,⟨c1,c2⟩,d⟩:=s
 obtain ⟨a',⟨b1',b2'⟩,⟨c1',c2'⟩,d'⟩:=t
 rw [Bool.eq_iff_iff]
 simp [Pa.Step.mk.injEq]
theorem out_eq_iff (s t:Outline):s=t ↔ s.circle=t.circle∧s.center=t.center∧s.radius=t.radius∧s.steps=t.steps:=by
 obtain ⟨a,b,c,d⟩:=s
 obtain ⟨a',b',c',d'⟩:=t
 simp [Pa.Outline.mk.injEq]
set_option maxRecDepth 100000 in
set_option maxHeartbeats 2000000 in
theorem sameOutline_any {TS TS':TypeId} {base base':Nat} (a b:OutM) (w:World) (ha:OutIn TS base w a) (hb:OutIn TS' base' w b) :
  Calls Tryz.prog 45 #[.agg (outCells a).toArray,.agg (outCells b).toArray] w fun e w'=>e=.returned (.bool (decide (a.o=b.o)))∧Below w.heap.size w w':=by
 have hb1:=bel1 w (.cells #[.bool a.o.circle,.int .i64 a.o.center.1,.int .i64 a.o.center.2,.int .i64 a.o.radius,.slice a.A a.o.steps.length a.d] 38)
 have hb2:=bel1 (w.alloc (.cells #[.bool a.o.circle,.int .i64 a.o.center.1,.int .i64 a.o.center.2,.int .i64 a.o.radius,.slice a.A a.o.steps.length a.d] 38)) (.cells #[.bool b.o.circle,.int .i64 b.o.center.1,.int .i64 b.o.center.2,.int .i64 b.o.radius,.slice b.A b.o.steps.length b.d] 38)
 have hz:(w.alloc (.cells #[.bool a.o.circle,.int .i64 a.o.center.1,.int .i64 a.o.center.2,.int .i64 a.o.radius,.slice a.A a.o.steps.length a.d] 38)).heap.size=w.heap.size+1:=by simp
 have HN1:=hid (p_below (heap_new w (.cells #[.bool a.o.circle,.int .i64 a.o.center.1,.int .i64 a.o.center.2,.int .i64 a.o.radius,.slice a.A a.o.steps.length a.d] 38)) hb2)
 have HN2:Hid (((w.alloc (.cells #[.bool a.o.circle,.int .i64 a.o.center.1,.int .i64 a.o.center.2,.int .i64 a.o.radius,.slice a.A a.o.steps.length a.d] 38)).alloc (.cells #[.bool b.o.circle,.int .i64 b.o.center.1,.int .i64 b.o.center.2,.int .i64 b.o.radius,.slice b.A b.o.steps.length b.d] 38)).heap[w.heap.size+1]? = some (.cells #[.bool b.o.circle,.int .i64 b.o.center.1,.int .i64 b.o.center.2,.int .i64 b.o.radius,.slice b.A b.o.steps.length b.d] 38)):=hid (by have:=heap_new (w.alloc (.cells #[.bool a.o.circle,.int .i64 a.o.center.1,.int .i64 a.o.center.2,.int .i64 a.o.radius,.slice a.A a.o.steps.length a.d] 38)) (.cells #[.bool b.o.circle,.int .i64 b.o.center.1,.int .i64 b.o.center.2,.int .i64 b.o.radius,.slice b.A b.o.steps.length b.d] 38);rw [hz] at this;exact this)
 have HBB:=hid (hb1.trans (hb2.mono (by omega)))
 have HAA:=hid ((ha.below hb1).below hb2)
 have HAB:=hid ((hb.below hb1).below hb2)
 have HEQ:=hid (out_eq_iff a.o b.o)
 clear ha hb hb1 hb2 hz
 obtain ⟨q,HQ⟩:∃ q,Hid (decide (a.o=b.o)=q):=⟨_,hid rfl⟩
 rw [HQ.out]
 obtain ⟨⟨ci,⟨mx,my⟩,ra,st⟩,A,dA⟩:=a
 obtain ⟨⟨ci2,⟨mx2,my2⟩,ra2,st2⟩,B,dB⟩:=b
 simp only at HEQ HQ HAA HAB HN1 HN2 HBB
 simp only [outCells]
 go_enter Tryz.func45,Tryz.ntmps45
 go_upto_region 1 with fail
 generalize (w.alloc (.cells #[.bool ci,.int .i64 mx,.int .i64 my,.int .i64 ra,.slice A st.length dA] 38)).alloc (.cells #[.bool ci2,.int .i64 mx2,.int .i64 my2,.int .i64 ra2,.slice B st2.length dB] 38)=W at *
 have hne:∀ x y u v W,(binOp .neq 35 (.agg #[.int .i64 x,.int .i64 y]) (.agg #[.int .i64 u,.int .i64 v])).run Tryz.prog W=.ok (.bool (!decide ((x,y)=(u,v)))) W:=fun x y u v W=>neq_vec x y u v W
 have x0:=cell_of HN1.out 0 _ rfl
 have y0:=cell_of HN2.out 0 _ rfl
 have x1:=cell_of HN1.out 1 _ rfl
 have y1:=cell_of HN2.out 1 _ rfl
 have x2:=cell_of HN1.out 2 _ rfl
 have y2:=cell_of HN2.out 2 _ rfl
 have x3:=cell_of HN1.out 3 _ rfl
 have y3:=cell_of HN2.out 3 _ rfl
 have x4:=cell_of HN1.out 4 _ rfl
 have y4:=cell_of HN2.out 4 _ rfl
 by_cases h1:ci=ci2
 rotate_left
 ·have d1:(ci == ci2)=false:=beq_eq_false_iff_ne.2 h1
  have HF:q=false:=HQ.out.symm.trans (decide_eq_false (fun e=>h1 (HEQ.out.1 e).1))
  subst HF
  clear HQ HEQ
  go_wp2
  go_ret
  exact ⟨rfl,HBB.out⟩
 have d1:(ci == ci2)=true:=beq_iff_eq.2 h1
 by_cases h2:(mx,my)=(mx2,my2)
 rotate_left
 ·have d2:(!decide ((mx,my)=(mx2,my2)))=true:=by simp only [h2];rfl
  have HF:q=false:=HQ.out.symm.trans (decide_eq_false (fun e=>h2 (HEQ.out.1 e).2.1))
  subst HF
  clear HQ HEQ
  have hn:∀ W,(binOp .neq 35 (.agg #[.int .i64 mx,.int .i64 my]) (.agg #[.int .i64 mx2,.int .i64 my2])).run Tryz.prog W=.ok (.bool true) W:=fun W=>by rw [hne,d2]
  clear hne
  go_wp2
  go_ret
  exact ⟨rfl,HBB.out⟩
 have hn:∀ W,(binOp .neq 35 (.agg #[.int .i64 mx,.int .i64 my]) (.agg #[.int .i64 mx2,.int .i64 my2])).run Tryz.prog W=.ok (.bool false) W:=fun W=>by rw [hne,decide_eq_true h2];rfl
 clear hne
 by_cases h3:ra=ra2
 rotate_left
 ·have d3:(ra != ra2)=true:=by simp [h3]
  have HF:q=false:=HQ.out.symm.trans (decide_eq_false (fun e=>h3 (HEQ.out.1 e).2.2.1))
  subst HF
  clear HQ HEQ
  go_wp2
  go_ret
  exact ⟨rfl,HBB.out⟩
 have d3:(ra != ra2)=false:=by simp [h3]
 by_cases hlen:st.length=st2.length
 rotate_left
 ·have d4:((st.length:Int) != (st2.length:Int))=true:=bne_iff_ne.2 (by omega)
  have HF:q=false:=HQ.out.symm.trans (decide_eq_false (fun e=>hlen (congrArg List.length (HEQ.out.1 e).2.2.2)))
  subst HF
  clear HQ HEQ
  go_wp2
  go_ret
  exact ⟨rfl,HBB.out⟩
 have d4:((st.length:Int) != (st2.length:Int))=false:=by simp [hlen]
 have HQ2:Hid (decide (st=st2)=q):=hid (by rw [← HQ.out];exact decide_eq_decide.2 ⟨fun e=>HEQ.out.2 ⟨h1,h2,h3,e⟩,fun e=>(HEQ.out.1 e).2.2.2⟩)
 have HLM:=hid hlen
 have HT0:=hid (show st.take 0=st2.take 0 by simp)
 have HR:=hid HAA.out.1.1
 have HS:=hid HAB.out.1.1
 have hl:=HAA.out.2.2
 dsimp only at hl
 clear HQ HEQ h1 h2 h3 hlen HAA HAB
 go_wp2
 go_loopw [5] (fun i wr=>∃ k:Nat,k≤st.length∧i=.int .i64 k∧Hid (st.take k=st2.take k)∧Hid (Below W.heap.size W wr)) (fun i _=>st.length - (intOf i).toNat)
 case atStart=>exact ⟨0,Nat.zero_le _,rfl,HT0,hid (Below.refl _ _)⟩
 case round =>
  obtain ⟨k,hk,rfl,HT,HB⟩:=hrel
  clear x0 x1 x2 x3 x4 y0 y1 y2 y3 y4 hn d1 d3 d4
  have x4:=cell_of (p_below HN1.out HB.out) 4 _ rfl
  have y4:=cell_of (p_below HN2.out HB.out) 4 _ rfl
  by_cases hlt:k < st.length
  ·have hlt2:k < st2.length:=by have:=HLM.out;omega
   obtain ⟨g,off,rfl,hg,ca⟩:=row_get step_len (by decide) (HR.out.below HB.out) (by omega)
   obtain ⟨g2,off2,rfl,hg2,cb⟩:=row_get step_len (by decide) (HS.out.below HB.out) (by omega)
   have a0:=ca k hlt 0 (by decide)
   have b0:=cb k hlt2 0 (by decide)
   have a1:=ca k hlt 1 (by decide)
   have b1:=cb k hlt2 1 (by decide)
   have a2:=ca k hlt 2 (by decide)
   have b2:=cb k hlt2 2 (by decide)
   have a3:=ca k hlt 3 (by decide)
   have b3:=cb k hlt2 3 (by decide)
   have a4:=ca k hlt 4 (by decide)
   have b4:=cb k hlt2 4 (by decide)
   have a5:=ca k hlt 5 (by decide)
   have b5:=cb k hlt2 5 (by decide)
   have hk1:(0:Int)≤(k:Int):=by omega
   have hk2:(k:Int) < (st.length:Int):=by omega
   have hk3:(k:Int) < (st2.length:Int):=by omega
   have HMO:=hid (fun h=>take_one_more HT.out hlt hlt2 h)
   have HNO:=hid (fun h=>get_ne hlt hlt2 h)
   clear ca cb
   generalize st[k]=p at *
   generalize st2[k]=r at *
   have hn:=neq_stepR p.arc p.cw r.arc r.cw p.to.1 p.to.2 p.center.1 p.center.2 r.to.1 r.to.2 r.center.1 r.center.2
   simp only [step_eq_iff] at hn
   simp only [stepCells,List.getElem?_cons_zero,List.getElem?_cons_succ,Nat.add_zero] at a0 a1 a2 a3 a4 a5 b0 b1 b2 b3 b4 b5
   clear hlt2
   by_cases he:p=r
   ·have HT2:=hid (HMO.out he)
    simp only [decide_eq_true he,Bool.not_true] at hn
    clear he HMO HNO
    go_wp2
    go_region
    go_wp2
    go_roundw
    case rel=>exact ⟨k+1,hlt,by go_num,HT2,hid (below_drewN HB.out 1)⟩
    case measure=>simp [intOf];omega
   ·have HF:q=false:=HQ2.out.symm.trans (decide_eq_false (HNO.out he))
    subst HF
    simp only [decide_eq_false he,Bool.not_false] at hn
    clear he HMO HNO
    go_wp2
    go_region
    go_wp2
    go_ret
    exact ⟨rfl,HBB.out.trans (below_drewN (HB.out.mono HBB.out.size) 1)⟩
  ·obtain rfl:k=st.length:=by omega
   have HF:q=true:=HQ2.out.symm.trans (decide_eq_true (by
    have h:=HT.out
    rw [List.take_length,HLM.out,List.take_length] at h
    exact h))
   subst HF
   go_wp2
   go_ret
   exact ⟨rfl,HBB.out.trans (HB.out.mono HBB.out.size)⟩
end Go.Proofs.YtnkkcknogkgdkaaGreatDoor.PaW

namespace Go.Proofs.YtnkkcknogkgdkaaGreatDoor.PaW
open Lib (hid)
open Go Go.RowKit Go.Proofs.YtnkkcknogkgdkaaGreatDoor.Mem Go.Proofs.YtnkkcknogkgdkaaGreatDoor.Pa
open Go.Proofs.YtnkkcknogkgdkaaGreatDoor.Ge (V)
open Go.Proofs.YtnkkcknogkgdkaaGreatDoor.Lex (Tok)
open Go.Proofs.YtnkkcknogkgdkaaGreatDoor.LexW (tokCells)
attribute [local go_sem ↓] Go.wp_at_zero Go.wp_at_succ

open Go.Proofs.YtnkkcknogkgdkaaGreatDoor.GeW (row_one)
theorem info_rstep:(Tryz.prog.info? 140).map (fun i=>(i.zero,i.size,i.bytes))=some (some (.agg #[.bool false,.int .i64 0,.int .i64 0,.int .i64 0,.int .i64 0,.bool false]),6,48):=by kernel_rfl
set_option maxRecDepth 100000 in
set_option maxHeartbeats 4000000 in
theorem their_any {TS:TypeId} {base:Nat} (a:OutM) (w:World) (ha:OutIn TS base w a) :
  Calls Tryz.prog 46 #[.agg (outCells a).toArray] w fun e w'=>(∃ m:OutM,m.o=a.o∧e=.returned (.agg (outCells m).toArray)∧OutIn 140 0 w' m)∧Below w.heap.size w w':=by
 obtain ⟨⟨ci,⟨mx,my⟩,ra,st⟩,A,dA⟩:=a
 obtain ⟨i0,ia,ib,ic,id⟩:=info_parts info_rstep
 have HR:=hid ha.1.1
 have hl:=ha.2.2
 dsimp only at hl
 clear ha
 have hb1:=bel1 w (.cells #[.bool ci,.int .i64 mx,.int .i64 my,.int .i64 ra,.slice A st.length dA] 55)
 have hb2:=bel1 (w.alloc (.cells #[.bool ci,.int .i64 mx,.int .i64 my,.int .i64 ra,.slice A st.length dA] 55)) (.cells #[.bool false,.int .i64 0,.int .i64 0,.int .i64 0,.slice none 0 0] 38)
 have hb3:=bel1 ((w.alloc (.cells #[.bool ci,.int .i64 mx,.int .i64 my,.int .i64 ra,.slice A st.length dA] 55)).alloc (.cells #[.bool false,.int .i64 0,.int .i64 0,.int .i64 0,.slice none 0 0] 38)) (.cells #[.bool ci,.int .i64 mx,.int .i64 my,.int .i64 ra,.slice none 0 0] 38)
 have hz:(w.alloc (.cells #[.bool ci,.int .i64 mx,.int .i64 my,.int .i64 ra,.slice A st.length dA] 55)).heap.size=w.heap.size+1:=by simp
 have hz2:((w.alloc (.cells #[.bool ci,.int .i64 mx,.int .i64 my,.int .i64 ra,.slice A st.length dA] 55)).alloc (.cells #[.bool false,.int .i64 0,.int .i64 0,.int .i64 0,.slice none 0 0] 38)).heap.size=w.heap.size+2:=by simp
 have H10:=hid (p_below (p_below (heap_new w (.cells #[.bool ci,.int .i64 mx,.int .i64 my,.int .i64 ra,.slice A st.length dA] 55)) hb2) hb3)
 have H20:Hid ((((w.alloc (.cells #[.bool ci,.int .i64 mx,.int .i64 my,.int .i64 ra,.slice A st.length dA] 55)).alloc (.cells #[.bool false,.int .i64 0,.int .i64 0,.int .i64 0,.slice none 0 0] 38)).alloc (.cells #[.bool ci,.int .i64 mx,.int .i64 my,.int .i64 ra,.slice none 0 0] 38)).heap[w.heap.size+1]? = some (.cells #[.bool false,.int .i64 0,.int .i64 0,.int .i64 0,.slice none 0 0] 38)):=hid (by have:=p_below (heap_new (w.alloc (.cells #[.bool ci,.int .i64 mx,.int .i64 my,.int .i64 ra,.slice A st.length dA] 55)) (.cells #[.bool false,.int .i64 0,.int .i64 0,.int .i64 0,.slice none 0 0] 38)) hb3;rw [hz] at this;exact this)
 have H30:Hid ((((w.alloc (.cells #[.bool ci,.int .i64 mx,.int .i64 my,.int .i64 ra,.slice A st.length dA] 55)).alloc (.cells #[.bool false,.int .i64 0,.int .i64 0,.int .i64 0,.slice none 0 0] 38)).alloc (.cells #[.bool ci,.int .i64 mx,.int .i64 my,.int .i64 ra,.slice none 0 0] 38)).heap[w.heap.size+2]? = some (.cells #[.bool ci,.int .i64 mx,.int .i64 my,.int .i64 ra,.slice none 0 0] 38)):=hid (by have:=heap_new ((w.alloc (.cells #[.bool ci,.int .i64 mx,.int .i64 my,.int .i64 ra,.slice A st.length dA] 55)).alloc (.cells #[.bool false,.int .i64 0,.int .i64 0,.int .i64 0,.slice none 0 0] 38)) (.cells #[.bool ci,.int .i64 mx,.int .i64 my,.int .i64 ra,.slice none 0 0] 38);rw [hz2] at this;exact this)
 have HBB:=hid ((hb1.trans (hb2.mono (by omega))).trans (hb3.mono (by omega)))
 clear hb1 hb2 hb3 hz hz2
 simp only [outCells]
 go_enter Tryz.func46,Tryz.ntmps46
 go_upto_region 3 with fail
 generalize (((w.alloc (.cells #[.bool ci,.int .i64 mx,.int .i64 my,.int .i64 ra,.slice A st.length dA] 55)).alloc (.cells #[.bool false,.int .i64 0,.int .i64 0,.int .i64 0,.slice none 0 0] 38)).alloc (.cells #[.bool ci,.int .i64 mx,.int .i64 my,.int .i64 ra,.slice none 0 0] 38))=W at *
 have HO0:Hid (W.ownsRow (w.heap.size+3) 140 6 (.slice none 0 0) 0 ((st.take 0).flatMap stepCells)):=hid (by simpa using World.ownsRow_nil W (w.heap.size+3) 140 6)
 go_loopw [4] (fun i wr=>∃ (k:Nat) (B:Option Addr) (d:Nat),k≤st.length∧i=.int .i64 (k:Int)∧Hid (wr.heap[w.heap.size]? = some (.cells #[.bool ci,.int .i64 mx,.int .i64 my,.int .i64 ra,.slice A st.length dA] 55))∧Hid (wr.heap[w.heap.size+1]? = some (.cells #[.bool false,.int .i64 0,.int .i64 0,.int .i64 0,.slice none 0 0] 38))∧Hid (wr.heap[w.heap.size+2]? = some (.cells #[.bool ci,.int .i64 mx,.int .i64 my,.int .i64 ra,.slice B k d] 38))∧Hid (wr.ownsRow (w.heap.size+3) 140 6 (.slice B k d) k ((st.take k).flatMap stepCells))∧Hid (Below w.heap.size w wr)) (fun i _=>st.length - (intOf i).toNat)
 case atStart=>exact ⟨0,none,0,Nat.zero_le _,rfl,H10,H20,H30,HO0,HBB⟩
 case round =>
  obtain ⟨k,B,d,hk,rfl,H1,H2,H3,HO,HB⟩:=hrel
  have x4:=cell_of H1.out 4 _ rfl
  by_cases hlt:k < st.length
  ·have hk1:(0:Int)≤(k:Int):=by omega
   have hk2:(k:Int) < (st.length:Int):=by omega
   obtain ⟨g,off,rfl,hg,ca⟩:=row_get step_len (by decide) HR.out (by omega)
   have HTK:Hid ((st.take (k+1)).flatMap stepCells=(st.take k).flatMap stepCells++stepCells st[k]):=hid (by rw [List.take_succ_eq_append_getElem hlt,List.flatMap_append,List.flatMap_cons,List.flatMap_nil,List.append_nil])
   have a0:=(HB.out.cell (p:=⟨g,off+k*6,none⟩) hg).trans (ca k hlt 0 (by decide))
   have a1:=(HB.out.cell (p:=⟨g,off+k*6+1,none⟩) hg).trans (ca k hlt 1 (by decide))
   have a2:=(HB.out.cell (p:=⟨g,off+k*6+2,none⟩) hg).trans (ca k hlt 2 (by decide))
   have a3:=(HB.out.cell (p:=⟨g,off+k*6+3,none⟩) hg).trans (ca k hlt 3 (by decide))
   have a4:=(HB.out.cell (p:=⟨g,off+k*6+4,none⟩) hg).trans (ca k hlt 4 (by decide))
   have a5:=(HB.out.cell (p:=⟨g,off+k*6+5,none⟩) hg).trans (ca k hlt 5 (by decide))
   clear ca
   generalize st[k]=p at *
   simp only [stepCells,List.getElem?_cons_zero,List.getElem?_cons_succ] at a0 a1 a2 a3 a4 a5
   have CS2:Hid (∀ w',Below (w.heap.size+2) wr w'→(w'.cell? ⟨w.heap.size,4,none⟩=some (.slice (some ⟨g,off,none⟩) st.length dA)∧w'.cell? ⟨g,off+k*6,none⟩=some (.bool p.arc)∧w'.cell? ⟨g,off+k*6+1,none⟩=some (.int .i64 p.to.1)∧w'.cell? ⟨g,off+k*6+2,none⟩=some (.int .i64 p.to.2)∧w'.cell? ⟨g,off+k*6+3,none⟩=some (.int .i64 p.center.1)∧w'.cell? ⟨g,off+k*6+4,none⟩=some (.int .i64 p.center.2)∧w'.cell? ⟨g,off+k*6+5,none⟩=some (.bool p.cw))):=hid (fun w' hb=>⟨(hb.cell (p:=⟨w.heap.size,4,none⟩) (show w.heap.size < w.heap.size+2 by omega)).trans x4,(hb.cell (p:=⟨g,off+k*6,none⟩) (show g < w.heap.size+2 by omega)).trans a0,(hb.cell (p:=⟨g,off+k*6+1,none⟩) (show g < w.heap.size+2 by omega)).trans a1,(hb.cell (p:=⟨g,off+k*6+2,none⟩) (show g < w.heap.size+2 by omega)).trans a2,(hb.cell (p:=⟨g,off+k*6+3,none⟩) (show g < w.heap.size+2 by omega)).trans a3,(hb.cell (p:=⟨g,off+k*6+4,none⟩) (show g < w.heap.size+2 by omega)).trans a4,(hb.cell (p:=⟨g,off+k*6+5,none⟩) (show g < w.heap.size+2 by omega)).trans a5⟩)
   have CS:Hid (∀ w',Below (w.heap.size+3) wr w'→(w'.cell? ⟨w.heap.size,4,none⟩=some (.slice (some ⟨g,off,none⟩) st.length dA)∧w'.cell? ⟨g,off+k*6,none⟩=some (.bool p.arc)∧w'.cell? ⟨g,off+k*6+1,none⟩=some (.int .i64 p.to.1)∧w'.cell? ⟨g,off+k*6+2,none⟩=some (.int .i64 p.to.2)∧w'.cell? ⟨g,off+k*6+3,none⟩=some (.int .i64 p.center.1)∧w'.cell? ⟨g,off+k*6+4,none⟩=some (.int .i64 p.center.2)∧w'.cell? ⟨g,off+k*6+5,none⟩=some (.bool p.cw))):=hid (fun w' hb=>CS2.out w' (hb.mono (by omega)))
   have C3:Hid (k+1≤maxLen∧(k+1)*48≤140737488355328):=hid (by unfold maxLen;omega)
   have HBD:Hid (Below (w.heap.size+3) wr wr.drew):=hid (show Below _ wr wr.drew from below_drewN (Below.refl _ _) 1)
   have z4:wr.drew.cell? ⟨w.heap.size+2,4,none⟩=some (.slice B k d):=cell_of (show wr.drew.heap[w.heap.size+2]? = _ from H3.out) 4 _ rfl
   go_upto_region 5 with fail
   clear a0 a1 a2 a3 a4 a5
   refine wp_region_tillK (k:=10) (S1:=fun w'=>(w'.cell? ⟨w.heap.size,4,none⟩=some (.slice (some ⟨g,off,none⟩) st.length dA)∧w'.cell? ⟨g,off+k*6,none⟩=some (.bool p.arc)∧w'.cell? ⟨g,off+k*6+1,none⟩=some (.int .i64 p.to.1)∧w'.cell? ⟨g,off+k*6+2,none⟩=some (.int .i64 p.to.2)∧w'.cell? ⟨g,off+k*6+3,none⟩=some (.int .i64 p.center.1)∧w'.cell? ⟨g,off+k*6+4,none⟩=some (.int .i64 p.center.2)∧w'.cell? ⟨g,off+k*6+5,none⟩=some (.bool p.cw))) (S2:=fun w'=>w'.cell? ⟨w.heap.size+2,4,none⟩=some (.slice B k d)) (by kernel_rfl) ?_ (fun hHeld=>?_)
   ·exact ⟨CS.out _ HBD.out,z4⟩
   refine tK (i:=0) (v:=?_) rfl (Or.inl ⟨by rfl,?_⟩) ?_
   rotate_left
   ·intro w' hSw
    (try dsimp only at hSw)
    go_simp<;>with_reducible rfl
   try simp only [Act.put,sA]
   refine tK (i:=1) (v:=?_) rfl (Or.inl ⟨by rfl,?_⟩) ?_
   rotate_left
   ·intro w' hSw
    (try dsimp only at hSw)
    go_simp<;>with_reducible rfl
   try simp only [Act.put]
   refine tK (i:=2) (v:=?_) rfl (Or.inl ⟨by rfl,?_⟩) ?_
   rotate_left
   ·intro w' hSw
    (try dsimp only at hSw)
    go_simp<;>with_reducible rfl
   try simp only [Act.put]
   refine tK (i:=3) (v:=?_) rfl (Or.inl ⟨by rfl,?_⟩) ?_
   rotate_left
   ·intro w' hSw
    (try dsimp only at hSw)
    go_simp<;>with_reducible rfl
   try simp only [Act.put]
   refine tK (i:=4) (v:=?_) rfl (Or.inl ⟨by rfl,?_⟩) ?_
   rotate_left
   ·intro w' hSw
    (try dsimp only at hSw)
    go_simp<;>with_reducible rfl
   try simp only [Act.put]
   refine tK (i:=5) (v:=?_) rfl (Or.inl ⟨by rfl,?_⟩) ?_
   rotate_left
   ·intro w' hSw
    (try dsimp only at hSw)
    go_simp<;>with_reducible rfl
   try simp only [Act.put]
   refine tK (i:=6) (v:=?_) rfl (Or.inl ⟨by rfl,?_⟩) ?_
   rotate_left
   ·intro w' hSw
    (try dsimp only at hSw)
    go_simp<;>with_reducible rfl
   try simp only [Act.put]
   refine wpAnyK_one (i:=7) (o:=_) (by kernel_rfl) rfl (fun K hK=>?_)
   go_simp
   have HB7:Hid (Below (w.heap.size+3) wr (wr.drew.alloc (.cells #[.bool p.arc,.int .i64 p.to.1,.int .i64 p.to.2,.int .i64 p.center.1,.int .i64 p.center.2,.bool p.cw] 140))):=hid (HBD.out.trans ((bel1 wr.drew (.cells #[.bool p.arc,.int .i64 p.to.1,.int .i64 p.to.2,.int .i64 p.center.1,.int .i64 p.center.2,.bool p.cw] 140)).mono (show w.heap.size+3≤wr.heap.size from blk_lt H3.out)))
   have HNW:=hid (newN_row wr.drew [.bool p.arc,.int .i64 p.to.1,.int .i64 p.to.2,.int .i64 p.center.1,.int .i64 p.center.2,.bool p.cw] 140)
   have HO7:Hid ((wr.drew.alloc (.cells #[.bool p.arc,.int .i64 p.to.1,.int .i64 p.to.2,.int .i64 p.center.1,.int .i64 p.center.2,.bool p.cw] 140)).ownsRow (w.heap.size+3) 140 6 (.slice B k d) k ((st.take k).flatMap stepCells)):=hid ((HO.out.drew).alloc (.cells #[.bool p.arc,.int .i64 p.to.1,.int .i64 p.to.2,.int .i64 p.center.1,.int .i64 p.center.2,.bool p.cw] 140))
   have H37:=hid ((HB7.out.block (w.heap.size+2) (by omega)).trans H3.out)
   have z7:(wr.drew.alloc (.cells #[.bool p.arc,.int .i64 p.to.1,.int .i64 p.to.2,.int .i64 p.center.1,.int .i64 p.center.2,.bool p.cw] 140)).cell? ⟨w.heap.size+2,4,none⟩=some (.slice B k d):=cell_of H37.out 4 _ rfl
   have C5:Hid (w.heap.size+3≤(wr.drew.alloc (.cells #[.bool p.arc,.int .i64 p.to.1,.int .i64 p.to.2,.int .i64 p.center.1,.int .i64 p.center.2,.bool p.cw] 140)).heap.size):=hid (blk_lt H37.out)
   refine hK.out _ _ ?_ (fun _=>?_) (fun hHeld=>?_)
   ·exact CS.out _ HB7.out
   ·exact z7
   replace hHeld:=And.intro hHeld.1 (hHeld.2 (by decide))
   clear hK K
   try simp only [Act.put,sA,sB,sC]
   refine wpAnyK_one (i:=8) (o:=_) (by kernel_rfl) rfl (fun K hK=>?_)
   refine step_append_row (by rfl) _ _ _ (by rfl) (w.heap.size+3) 140 i0 _ 6 48 Tryz.underlying36 ia ib ic id rfl (by omega) (.slice B k d) k ((st.take k).flatMap stepCells) (by rfl) HO7.out (some ⟨wr.drew.heap.size,0,none⟩) 1 1 [.bool p.arc,.int .i64 p.to.1,.int .i64 p.to.2,.int .i64 p.center.1,.int .i64 p.center.2,.bool p.cw] (by rfl) HNW.out rfl (by intro uu hu;simp at hu;rcases hu with rfl | rfl | rfl | rfl | rfl | rfl<;>rfl) C3.out.1 C3.out.2 C5.out ?_
   intro v8 w8 hown8 hg8
   obtain ⟨B8,d8,rfl,_⟩:=own_shape hown8
   have HB8:Hid (Below (w.heap.size+3) wr w8):=hid (below_grown2 HB7.out hg8 (fun q hq=>(HO7.out.lt q hq).1) C5.out)
   have HO8:=hid hown8
   have H38:=hid ((HB8.out.block (w.heap.size+2) (by omega)).trans H3.out)
   have z8:w8.cell? ⟨w.heap.size+2,4,none⟩=some (.slice B k d):=cell_of H38.out 4 _ rfl
   have q8:=free_of H38.out 4
   clear hown8 hg8 z7 hHeld
   refine hK.out _ _ ?_ (fun _=>?_) (fun hHeld=>?_)
   ·exact CS.out _ HB8.out
   ·exact z8
   replace hHeld:=And.intro hHeld.1 (hHeld.2 (by decide))
   clear hK K
   try simp only [Act.put,sA]
   refine tK (i:=9) (v:=?_) rfl (Or.inl ⟨by rfl,?_⟩) ?_
   rotate_left
   ·intro w' hSw
    (try dsimp only at hSw)
    go_simp<;>with_reducible rfl
   try simp only [Act.put]
   refine wpAnyK_one (i:=10) (o:=_) (by kernel_rfl) rfl (fun K hK=>?_)
   go_simp
   have HB9:Hid (Below (w.heap.size+2) wr (w8.setCell ⟨w.heap.size+2,4,none⟩ (.slice B8 (k+1) d8))):=hid ((HB8.out.mono (by omega:w.heap.size+2≤w.heap.size+3)).setCell (p:=⟨w.heap.size+2,4,none⟩) (Nat.le_refl _) _)
   have H39:Hid ((w8.setCell ⟨w.heap.size+2,4,none⟩ (.slice B8 (k+1) d8)).heap[w.heap.size+2]? = some (.cells #[.bool ci,.int .i64 mx,.int .i64 my,.int .i64 ra,.slice B8 (k+1) d8] 38)):=hid (by simpa using block_set H38.out 4 (.slice B8 (k+1) d8))
   have HO9:=hid (own_old HO8.out (grown_set (grown_refl w8 (some (w.heap.size+2))) 4 (.slice B8 (k+1) d8)) (Nat.lt_succ_self _))
   refine hK.out _ _ ?_ (fun hne=>?_) (fun hHeld=>?_)
   ·exact CS2.out _ HB9.out
   ·exact absurd rfl hne
   clear hK K
   try simp only [Act.put,sA,sB,sC]
   refine wpAnyK_done (by kernel_rfl) ?_ _
   clear hHeld q8 z8 z4
   go_wp2_with fail
   go_roundw
   case rel=>exact ⟨k+1,B8,d8,hlt,by go_num,hid ((HB9.out.block _ (by omega)).trans H1.out),hid ((HB9.out.block _ (by omega)).trans H2.out),H39,hid (by rw [HTK.out];exact HO9.out),hid (HB.out.trans (HB9.out.mono (by omega)))⟩
   case measure=>simp [intOf];omega
  ·obtain rfl:k=st.length:=by omega
   clear x4 i0 ia ib ic id
   have x4:=cell_of H1.out 4 _ rfl
   have y0:=cell_of H3.out 0 (.bool ci) rfl
   have z0:=cell_of H2.out 0 _ rfl
   have q0:=free_of H2.out 0
   have y1:=cell_of H3.out 1 (.int .i64 mx) rfl
   have z1:=cell_of H2.out 1 _ rfl
   have q1:=free_of H2.out 1
   have y2:=cell_of H3.out 2 (.int .i64 my) rfl
   have z2:=cell_of H2.out 2 _ rfl
   have q2:=free_of H2.out 2
   have y3:=cell_of H3.out 3 (.int .i64 ra) rfl
   have z3:=cell_of H2.out 3 _ rfl
   have q3:=free_of H2.out 3
   have y4:=cell_of H3.out 4 (.slice B st.length d) rfl
   have z4:=cell_of H2.out 4 _ rfl
   have q4:=free_of H2.out 4
   have HX:=hid (And.intro (sets_grown [.bool ci,.int .i64 mx,.int .i64 my,.int .i64 ra,.slice B st.length d] 0 _ _ (grown_refl wr (some (w.heap.size+1)))) (sets_block [.bool ci,.int .i64 mx,.int .i64 my,.int .i64 ra,.slice B st.length d] 0 wr [.bool false,.int .i64 0,.int .i64 0,.int .i64 0,.slice none 0 0] H2.out rfl))
   have HX1:Hid ((((((wr.setCell ⟨w.heap.size+1,0,none⟩ (.bool ci)).setCell ⟨w.heap.size+1,1,none⟩ (.int .i64 mx)).setCell ⟨w.heap.size+1,2,none⟩ (.int .i64 my)).setCell ⟨w.heap.size+1,3,none⟩ (.int .i64 ra)).setCell ⟨w.heap.size+1,4,none⟩ (.slice B st.length d)).heap[w.heap.size+1]? = some (.cells #[.bool ci,.int .i64 mx,.int .i64 my,.int .i64 ra,.slice B st.length d] 38 (0,0))):=hid HX.out.2
   have HX2:Hid (wr.grownBy (((((wr.setCell ⟨w.heap.size+1,0,none⟩ (.bool ci)).setCell ⟨w.heap.size+1,1,none⟩ (.int .i64 mx)).setCell ⟨w.heap.size+1,2,none⟩ (.int .i64 my)).setCell ⟨w.heap.size+1,3,none⟩ (.int .i64 ra)).setCell ⟨w.heap.size+1,4,none⟩ (.slice B st.length d)) (some (w.heap.size+1))):=hid HX.out.1
   clear HX
   have hsz:=blk_lt H3.out
   go_wp2_with fail
   clear y0 z0 q0 y1 z1 q1 y2 z2 q2 y3 z3 q3 y4 z4 q4
   generalize (((((wr.setCell ⟨w.heap.size+1,0,none⟩ (.bool ci)).setCell ⟨w.heap.size+1,1,none⟩ (.int .i64 mx)).setCell ⟨w.heap.size+1,2,none⟩ (.int .i64 my)).setCell ⟨w.heap.size+1,3,none⟩ (.int .i64 ra)).setCell ⟨w.heap.size+1,4,none⟩ (.slice B st.length d))=WF at HX1 HX2 ⊢
   have z0:=cell_of HX1.out 0 _ rfl
   have z1:=cell_of HX1.out 1 _ rfl
   have z2:=cell_of HX1.out 2 _ rfl
   have z3:=cell_of HX1.out 3 _ rfl
   have z4:=cell_of HX1.out 4 _ rfl
   refine bodyPost_ret (v:=.agg #[.bool ci,.int .i64 mx,.int .i64 my,.int .i64 ra,.slice B st.length d]) (by simp [results,Tryz.results46,go_sem,z0,z1,z2,z3,z4]) rfl ?_
   have HOF:=own_old HO.out HX2.out (by omega)
   rw [List.take_length] at HOF
   obtain ⟨_,_,e5,hd5⟩:=own_shape HOF
   injection e5 with e5 e6 e7
   exact ⟨⟨⟨⟨ci,(mx,my),ra,st⟩,B,d⟩,rfl,rfl,At.of_own HOF,by dsimp only;omega,hl⟩,below_grown2 HB.out HX2.out (fun q hq=>by cases hq;omega) (by omega)⟩
end Go.Proofs.YtnkkcknogkgdkaaGreatDoor.PaW

namespace Go.Proofs.YtnkkcknogkgdkaaGreatDoor.PaW
open Lib (hid)
open Go Go.RowKit Go.Proofs.YtnkkcknogkgdkaaGreatDoor.Mem Go.Proofs.YtnkkcknogkgdkaaGreatDoor.Pa
open Go.Proofs.YtnkkcknogkgdkaaGreatDoor.Ge (V)
open Go.Proofs.YtnkkcknogkgdkaaGreatDoor.Lex (Tok)
open Go.Proofs.YtnkkcknogkgdkaaGreatDoor.LexW (tokCells)
attribute [local go_sem ↓] Go.wp_at_zero Go.wp_at_succ

theorem info_rsrc:(Tryz.prog.info? 41).map (fun i=>(i.zero,i.size,i.bytes))=some (some (.agg #[.string ⟨#[]⟩,.string ⟨#[]⟩,.int .i64 0,.slice none 0 0,.int .i64 0,.bool false,.int .i64 0,.int .i64 0,.int .i64 0,.slice none 0 0,.slice none 0 0]),11,152):=by kernel_rfl
theorem info_rout:(Tryz.prog.info? 38).map (fun i=>(i.zero,i.size,i.bytes))=some (some (.agg #[.bool false,.int .i64 0,.int .i64 0,.int .i64 0,.slice none 0 0]),5,56):=by kernel_rfl
theorem OutIn.mono {TS:TypeId} {base base':Nat} {w:World} {m:OutM} (h:OutIn TS base w m) (hb:base≤base'):OutIn TS base' w m:=⟨h.1.mono hb,h.2⟩
set_option maxRecDepth 100000 in
set_option maxHeartbeats 8000000 in
theorem theirs_any {TT TO TS:TypeId} {base:Nat} (ms:List SrcM) (A:Option Addr) (c:Nat) (w:World) (h:SrcsIn TT TO TS base w A ms) (hl:ms.length≤1000000) (hbs:base≤w.heap.size) :
  Calls Tryz.prog 16 #[.slice A ms.length c] w fun e w'=>(∃ (ms':List SrcM) (B:Option Addr) (d:Nat),ms'.map SrcM.src=ms.map SrcM.src∧e=.returned (.slice B ms.length d)∧w'.ownsRow w.heap.size 41 11 (.slice B ms.length d) ms.length (ms'.flatMap srcCells)∧∀ m∈ms',SrcIn 38 140 base w' m)∧Below w.heap.size w w':=by
 obtain ⟨i0,ia,ib,ic,id⟩:=info_parts info_rsrc
 obtain ⟨j0,ja,jb,jc,jd⟩:=info_parts info_rout
 have HR:=hid h.1.1
 have HSI:=hid h.2
 clear h
 go_enter Tryz.func16,Tryz.ntmps16
 go_wp2
 go_loopw [3,4,5,6] (fun out i _ _ wr=>∃ (k:Nat) (ms':List SrcM) (B:Option Addr) (d:Nat),i=.int .i64 (k:Int)∧k≤ms.length∧out=.slice B k d∧Hid (ms'.map SrcM.src=(ms.take k).map SrcM.src)∧Hid (wr.ownsRow w.heap.size 41 11 (.slice B k d) k (ms'.flatMap srcCells))∧Hid (∀ m∈ms',SrcIn 38 140 base wr m)∧Hid (Below w.heap.size w wr)) (fun _ i _ _ _=>ms.length - (intOf i).toNat)
 case atStart=>exact ⟨0,[],none,0,rfl,Nat.zero_le _,rfl,hid (by simp),hid (World.ownsRow_nil _ _ _ _),hid (fun m hm=>by cases hm),hid (Below.refl _ _)⟩
 case round =>
  obtain ⟨k,ms1,B,d,rfl,hk,rfl,HMS,HOJ,HSJ,HB⟩:=hrel
  by_cases hlt:k < ms.length
  ·have hk1:(0:Int)≤(k:Int):=by omega
   have hk2:(k:Int) < (ms.length:Int):=by omega
   obtain ⟨g,off,rfl,hg,ca⟩:=row_get src_len (by decide) HR.out (by omega)
   have HTK:Hid ((ms.take (k+1)).map SrcM.src=(ms.take k).map SrcM.src++[ms[k].src]):=hid (by rw [List.take_succ_eq_append_getElem hlt,List.map_append,List.map_cons,List.map_nil])
   have HM:=hid ((HSI.out ms[k] (List.getElem_mem _)).below HB.out)
   have a0:=(HB.out.cell (p:=⟨g,off+k*11,none⟩) hg).trans (ca k hlt 0 (by decide))
   have a1:=(HB.out.cell (p:=⟨g,off+k*11+1,none⟩) hg).trans (ca k hlt 1 (by decide))
   have a2:=(HB.out.cell (p:=⟨g,off+k*11+2,none⟩) hg).trans (ca k hlt 2 (by decide))
   have a3:=(HB.out.cell (p:=⟨g,off+k*11+3,none⟩) hg).trans (ca k hlt 3 (by decide))
   have a4:=(HB.out.cell (p:=⟨g,off+k*11+4,none⟩) hg).trans (ca k hlt 4 (by decide))
   have a5:=(HB.out.cell (p:=⟨g,off+k*11+5,none⟩) hg).trans (ca k hlt 5 (by decide))
   have a6:=(HB.out.cell (p:=⟨g,off+k*11+6,none⟩) hg).trans (ca k hlt 6 (by decide))
   have a7:=(HB.out.cell (p:=⟨g,off+k*11+7,none⟩) hg).trans (ca k hlt 7 (by decide))
   have a8:=(HB.out.cell (p:=⟨g,off+k*11+8,none⟩) hg).trans (ca k hlt 8 (by decide))
   have a9:=(HB.out.cell (p:=⟨g,off+k*11+9,none⟩) hg).trans (ca k hlt 9 (by decide))
   have a10:=(HB.out.cell (p:=⟨g,off+k*11+10,none⟩) hg).trans (ca k hlt 10 (by decide))
   have hgw:g < wr.heap.size:=Nat.lt_of_lt_of_le hg HB.out.size
   clear ca
   generalize ms[k]=m at *
   obtain ⟨nm,gr,gn,ts,tA,tc,tl,⟨⟨ci,⟨mx,my⟩,ra,st⟩,oA,od⟩,hs,hA,hc⟩:=m
   simp only [srcCells,strV,List.getElem?_cons_zero,List.getElem?_cons_succ] at a0 a1 a2 a3 a4 a5 a6 a7 a8 a9 a10
   have HOI:Hid (OutIn TS base wr ⟨⟨ci,(mx,my),ra,st⟩,oA,od⟩):=hid HM.out.2.1
   have HTH:Hid (∀ W,OutIn TS base W ⟨⟨ci,(mx,my),ra,st⟩,oA,od⟩→_):=hid (fun W hW=>their_any (TS:=TS) (base:=base) ⟨⟨ci,(mx,my),ra,st⟩,oA,od⟩ W hW)
   simp only [outCells] at HTH
   have CS:Hid (∀ w',Below wr.heap.size wr w'→w'.cell? ⟨g,off+k*11,none⟩=some (.string ⟨nm.toArray⟩)∧w'.cell? ⟨g,off+k*11+1,none⟩=some (.string ⟨gr.toArray⟩)∧w'.cell? ⟨g,off+k*11+2,none⟩=some (.int .i64 gn)∧w'.cell? ⟨g,off+k*11+3,none⟩=some (.slice tA ts.length tc)∧w'.cell? ⟨g,off+k*11+4,none⟩=some (.int .i64 tl)∧w'.cell? ⟨g,off+k*11+5,none⟩=some (.bool ci)∧w'.cell? ⟨g,off+k*11+6,none⟩=some (.int .i64 mx)∧w'.cell? ⟨g,off+k*11+7,none⟩=some (.int .i64 my)∧w'.cell? ⟨g,off+k*11+8,none⟩=some (.int .i64 ra)∧w'.cell? ⟨g,off+k*11+9,none⟩=some (.slice oA st.length od)∧Below wr.heap.size wr w'):=hid (fun w' hb=>⟨(hb.cell (p:=⟨g,off+k*11,none⟩) hgw).trans a0,(hb.cell (p:=⟨g,off+k*11+1,none⟩) hgw).trans a1,(hb.cell (p:=⟨g,off+k*11+2,none⟩) hgw).trans a2,(hb.cell (p:=⟨g,off+k*11+3,none⟩) hgw).trans a3,(hb.cell (p:=⟨g,off+k*11+4,none⟩) hgw).trans a4,(hb.cell (p:=⟨g,off+k*11+5,none⟩) hgw).trans a5,(hb.cell (p:=⟨g,off+k*11+6,none⟩) hgw).trans a6,(hb.cell (p:=⟨g,off+k*11+7,none⟩) hgw).trans a7,(hb.cell (p:=⟨g,off+k*11+8,none⟩) hgw).trans a8,(hb.cell (p:=⟨g,off+k*11+9,none⟩) hgw).trans a9,hb⟩)
   go_upto_region 5 with fail
   go_cut [5] from 13 to 44 (fun p wc=>∃ (xb:Nat) (oA1:Option Addr) (od1:Nat),p=.pointer (some ⟨xb,0,none⟩)∧Hid (wc.heap[xb]? = some (.cells #[.string ⟨nm.toArray⟩,.string ⟨gr.toArray⟩,.int .i64 gn,.slice tA ts.length tc,.int .i64 tl,.bool ci,.int .i64 mx,.int .i64 my,.int .i64 ra,.slice oA1 st.length od1,.slice none 0 0] 41))∧Hid (OutIn 140 0 wc ⟨⟨ci,(mx,my),ra,st⟩,oA1,od1⟩)∧wr.heap.size≤xb∧Hid (Below wr.heap.size wr wc))
   case first =>
    clear a0 a1 a2 a3 a4 a5 a6 a7 a8 a9 a10
    go_wp2_with fail
    refine wp_region_held_drew (S:=fun w'=>w'.cell? ⟨g,off+k*11,none⟩=some (.string ⟨nm.toArray⟩)∧w'.cell? ⟨g,off+k*11+1,none⟩=some (.string ⟨gr.toArray⟩)∧w'.cell? ⟨g,off+k*11+2,none⟩=some (.int .i64 gn)∧w'.cell? ⟨g,off+k*11+3,none⟩=some (.slice tA ts.length tc)∧w'.cell? ⟨g,off+k*11+4,none⟩=some (.int .i64 tl)∧w'.cell? ⟨g,off+k*11+5,none⟩=some (.bool ci)∧w'.cell? ⟨g,off+k*11+6,none⟩=some (.int .i64 mx)∧w'.cell? ⟨g,off+k*11+7,none⟩=some (.int .i64 my)∧w'.cell? ⟨g,off+k*11+8,none⟩=some (.int .i64 ra)∧w'.cell? ⟨g,off+k*11+9,none⟩=some (.slice oA st.length od)∧Below wr.heap.size wr w') (by kernel_rfl) ?_ (fun hHeld=>?_)
    ·exact CS.out _ (below_drewN (Below.refl _ _) 1)
    refine tH (i:=0) (v:=?_) rfl (Or.inl ⟨by rfl,?_⟩) ?_
    rotate_left
    ·intro w' hSw
     (try dsimp only at hSw)
     go_simp<;>with_reducible rfl
    try simp only [Act.put,sA]
    refine tH (i:=1) (v:=?_) rfl (Or.inl ⟨by rfl,?_⟩) ?_
    rotate_left
    ·intro w' hSw
     (try dsimp only at hSw)
     go_simp<;>with_reducible rfl
    try simp only [Act.put]
    refine tH (i:=2) (v:=?_) rfl (Or.inl ⟨by rfl,?_⟩) ?_
    rotate_left
    ·intro w' hSw
     (try dsimp only at hSw)
     go_simp<;>with_reducible rfl
    try simp only [Act.put]
    refine tH (i:=3) (v:=?_) rfl (Or.inl ⟨by rfl,?_⟩) ?_
    rotate_left
    ·intro w' hSw
     (try dsimp only at hSw)
     go_simp<;>with_reducible rfl
    try simp only [Act.put]
    refine tH (i:=4) (v:=?_) rfl (Or.inl ⟨by rfl,?_⟩) ?_
    rotate_left
    ·intro w' hSw
     (try dsimp only at hSw)
     go_simp<;>with_reducible rfl
    try simp only [Act.put]
    refine tH (i:=5) (v:=?_) rfl (Or.inl ⟨by rfl,?_⟩) ?_
    rotate_left
    ·intro w' hSw
     (try dsimp only at hSw)
     go_simp<;>with_reducible rfl
    try simp only [Act.put]
    refine tH (i:=6) (v:=?_) rfl (Or.inl ⟨by rfl,?_⟩) ?_
    rotate_left
    ·intro w' hSw
     (try dsimp only at hSw)
     go_simp<;>with_reducible rfl
    try simp only [Act.put]
    refine tH (i:=7) (v:=?_) rfl (Or.inl ⟨by rfl,?_⟩) ?_
    rotate_left
    ·intro w' hSw
     (try dsimp only at hSw)
     go_simp<;>with_reducible rfl
    try simp only [Act.put]
    refine tH (i:=8) (v:=?_) rfl (Or.inl ⟨by rfl,?_⟩) ?_
    rotate_left
    ·intro w' hSw
     (try dsimp only at hSw)
     go_simp<;>with_reducible rfl
    try simp only [Act.put]
    refine tH (i:=9) (v:=?_) rfl (Or.inl ⟨by rfl,?_⟩) ?_
    rotate_left
    ·intro w' hSw
     (try dsimp only at hSw)
     go_simp<;>with_reducible rfl
    try simp only [Act.put]
    refine tH (i:=10) (v:=?_) rfl (Or.inl ⟨by rfl,?_⟩) ?_
    rotate_left
    ·intro w' hSw
     (try dsimp only at hSw)
     go_simp<;>with_reducible rfl
    try simp only [Act.put]
    refine tH (i:=11) (v:=?_) rfl (Or.inl ⟨by rfl,?_⟩) ?_
    rotate_left
    ·intro w' hSw
     (try dsimp only at hSw)
     go_simp<;>with_reducible rfl
    try simp only [Act.put]
    refine tH (i:=12) (v:=?_) rfl (Or.inl ⟨by rfl,?_⟩) ?_
    rotate_left
    ·intro w' hSw
     (try dsimp only at hSw)
     go_simp<;>with_reducible rfl
    try simp only [Act.put]
    refine tH (i:=13) (v:=?_) rfl (Or.inl ⟨by rfl,?_⟩) ?_
    rotate_left
    ·intro w' hSw
     (try dsimp only at hSw)
     go_simp<;>with_reducible rfl
    try simp only [Act.put]
    refine tH (i:=14) (v:=?_) rfl (Or.inl ⟨by rfl,?_⟩) ?_
    rotate_left
    ·intro w' hSw
     (try dsimp only at hSw)
     go_simp<;>with_reducible rfl
    try simp only [Act.put]
    refine tH (i:=15) (v:=?_) rfl (Or.inl ⟨by rfl,?_⟩) ?_
    rotate_left
    ·intro w' hSw
     (try dsimp only at hSw)
     go_simp<;>with_reducible rfl
    try simp only [Act.put]
    refine tH (i:=16) (v:=?_) rfl (Or.inl ⟨by rfl,?_⟩) ?_
    rotate_left
    ·intro w' hSw
     (try dsimp only at hSw)
     go_simp<;>with_reducible rfl
    try simp only [Act.put]
    refine tH (i:=17) (v:=?_) rfl (Or.inl ⟨by rfl,?_⟩) ?_
    rotate_left
    ·intro w' hSw
     (try dsimp only at hSw)
     go_simp<;>with_reducible rfl
    try simp only [Act.put]
    refine tH (i:=18) (v:=?_) rfl (Or.inl ⟨by rfl,?_⟩) ?_
    rotate_left
    ·intro w' hSw
     (try dsimp only at hSw)
     go_simp<;>with_reducible rfl
    try simp only [Act.put]
    refine tH (i:=19) (v:=?_) rfl (Or.inl ⟨by rfl,?_⟩) ?_
    rotate_left
    ·intro w' hSw
     (try dsimp only at hSw)
     go_simp<;>with_reducible rfl
    try simp only [Act.put]
    refine tH (i:=20) (v:=?_) rfl (Or.inl ⟨by rfl,?_⟩) ?_
    rotate_left
    ·intro w' hSw
     (try dsimp only at hSw)
     go_simp<;>with_reducible rfl
    try simp only [Act.put]
    refine tH (i:=21) (v:=?_) rfl (Or.inl ⟨by rfl,?_⟩) ?_
    rotate_left
    ·intro w' hSw
     (try dsimp only at hSw)
     go_simp<;>with_reducible rfl
    try simp only [Act.put]
    refine tH (i:=22) (v:=?_) rfl (Or.inl ⟨by rfl,?_⟩) ?_
    rotate_left
    ·intro w' hSw
     (try dsimp only at hSw)
     go_simp<;>with_reducible rfl
    try simp only [Act.put]
    refine tH (i:=23) (v:=?_) rfl (Or.inl ⟨by rfl,?_⟩) ?_
    rotate_left
    ·intro w' hSw
     (try dsimp only at hSw)
     go_simp<;>with_reducible rfl
    try simp only [Act.put]
    refine tH (i:=24) (v:=?_) rfl (Or.inl ⟨by rfl,?_⟩) ?_
    rotate_left
    ·intro w' hSw
     (try dsimp only at hSw)
     go_simp<;>with_reducible rfl
    try simp only [Act.put]
    refine tH (i:=25) (v:=?_) rfl (Or.inl ⟨by rfl,?_⟩) ?_
    rotate_left
    ·intro w' hSw
     (try dsimp only at hSw)
     go_simp<;>with_reducible rfl
    try simp only [Act.put]
    refine tH (i:=26) (v:=?_) rfl (Or.inl ⟨by rfl,?_⟩) ?_
    rotate_left
    ·intro w' hSw
     (try dsimp only at hSw)
     go_simp<;>with_reducible rfl
    try simp only [Act.put]
    refine tH (i:=27) (v:=?_) rfl (Or.inl ⟨by rfl,?_⟩) ?_
    rotate_left
    ·intro w' hSw
     (try dsimp only at hSw)
     go_simp<;>with_reducible rfl
    try simp only [Act.put]
    refine tH (i:=28) (v:=?_) rfl (Or.inl ⟨by rfl,?_⟩) ?_
    rotate_left
    ·intro w' hSw
     (try dsimp only at hSw)
     go_simp<;>with_reducible rfl
    try simp only [Act.put]
    refine tH (i:=29) (v:=?_) rfl (Or.inl ⟨by rfl,?_⟩) ?_
    rotate_left
    ·intro w' hSw
     (try dsimp only at hSw)
     go_simp<;>with_reducible rfl
    try simp only [Act.put]
    refine wpAnyH_ready (rs:=[30,32]) (by kernel_rfl) (by simp) ?_
    refine AllReadyH.cons (o := { dst:=some 43,op:=Op.call { callee:=Callee.value (Operand.func 46),args:=#[Operand.tmp 42],argTypes:=#[55] },type:=38,pos := "law.go:51",after:=#[{ on:=29,ground:=Ground.data }],guard:=none }) rfl (fun K hK=>?_) (AllReadyH.cons (o := { dst:=some 5,op:=Op.alloc 41,type:=0,pos := "law.go:51",after:=#[],guard:=none }) rfl (fun K hK=>?_) AllReadyH.nil)
    ·have hbx:=hHeld.2.2.2.2.2.2.2.2.2.2
     clear hHeld
     go_simp
     go_at_call 46
     refine (HTH.out _ (HOI.out.below hbx)).mono ?_
     rintro e w6 ⟨⟨⟨mo,oA1,od1⟩,hmo,rfl,hoi⟩,hb60⟩
     have hb6:Below wr.heap.size wr w6:=hbx.trans (hb60.mono (Below.size hbx))
     simp only at hmo
     subst hmo
     dsimp only
     refine hK.out _ _ ?_ (fun hHeld=>?_)
     ·exact CS.out _ hb6
     clear hK K
     try simp only [Act.put,sA,sB,sC]
     refine tH (i:=31) (v:=?_) rfl (Or.inl ⟨by rfl,?_⟩) ?_
     rotate_left
     ·intro w' hSw
      (try dsimp only at hSw)
      go_simp<;>with_reducible rfl
     try simp only [Act.put,sA]
     refine wpAnyH_ready (rs:=[32]) (by kernel_rfl) (by simp) ?_
     refine AllReadyH.cons (o := { dst:=some 5,op:=Op.alloc 41,type:=0,pos := "law.go:51",after:=#[],guard:=none }) rfl (fun K hK=>?_) AllReadyH.nil
     go_simp
     refine hK.out _ _ ?_ (fun hHeld=>?_)
     ·exact CS.out _ (hb6.alloc hb6.size (.cells #[.string ⟨#[]⟩,.string ⟨#[]⟩,.int .i64 0,.slice none 0 0,.int .i64 0,.bool false,.int .i64 0,.int .i64 0,.int .i64 0,.slice none 0 0,.slice none 0 0] 41))
     clear hK K
     try simp only [Act.put,sA,sB,sC]
     have HN:Hid ((w6.alloc (.cells #[.string ⟨#[]⟩,.string ⟨#[]⟩,.int .i64 0,.slice none 0 0,.int .i64 0,.bool false,.int .i64 0,.int .i64 0,.int .i64 0,.slice none 0 0,.slice none 0 0] 41)).heap[w6.heap.size]? = some (.cells #[.string ⟨#[]⟩,.string ⟨#[]⟩,.int .i64 0,.slice none 0 0,.int .i64 0,.bool false,.int .i64 0,.int .i64 0,.int .i64 0,.slice none 0 0,.slice none 0 0] 41)):=hid (heap_new w6 (.cells #[.string ⟨#[]⟩,.string ⟨#[]⟩,.int .i64 0,.slice none 0 0,.int .i64 0,.bool false,.int .i64 0,.int .i64 0,.int .i64 0,.slice none 0 0,.slice none 0 0] 41))
     have HB7:Hid (Below wr.heap.size wr (w6.alloc (.cells #[.string ⟨#[]⟩,.string ⟨#[]⟩,.int .i64 0,.slice none 0 0,.int .i64 0,.bool false,.int .i64 0,.int .i64 0,.int .i64 0,.slice none 0 0,.slice none 0 0] 41))):=hid (hb6.alloc hb6.size (.cells #[.string ⟨#[]⟩,.string ⟨#[]⟩,.int .i64 0,.slice none 0 0,.int .i64 0,.bool false,.int .i64 0,.int .i64 0,.int .i64 0,.slice none 0 0,.slice none 0 0] 41))
     have HOI7:=hid (OutIn.below hoi (bel1 w6 (.cells #[.string ⟨#[]⟩,.string ⟨#[]⟩,.int .i64 0,.slice none 0 0,.int .i64 0,.bool false,.int .i64 0,.int .i64 0,.int .i64 0,.slice none 0 0,.slice none 0 0] 41)))
     have hx7:wr.heap.size≤w6.heap.size:=hb6.size
     clear hoi hb60
     generalize w6.alloc (.cells #[.string ⟨#[]⟩,.string ⟨#[]⟩,.int .i64 0,.slice none 0 0,.int .i64 0,.bool false,.int .i64 0,.int .i64 0,.int .i64 0,.slice none 0 0,.slice none 0 0] 41)=W7 at *
     have HX:=hid (And.intro (sets_grown [.string ⟨nm.toArray⟩,.string ⟨gr.toArray⟩,.int .i64 gn,.slice tA ts.length tc,.int .i64 tl,.bool ci,.int .i64 mx,.int .i64 my,.int .i64 ra,.slice oA1 st.length od1,.slice none 0 0] 0 _ _ (grown_refl W7 (some (w6.heap.size)))) (sets_block [.string ⟨nm.toArray⟩,.string ⟨gr.toArray⟩,.int .i64 gn,.slice tA ts.length tc,.int .i64 tl,.bool ci,.int .i64 mx,.int .i64 my,.int .i64 ra,.slice oA1 st.length od1,.slice none 0 0] 0 W7 [.string ⟨#[]⟩,.string ⟨#[]⟩,.int .i64 0,.slice none 0 0,.int .i64 0,.bool false,.int .i64 0,.int .i64 0,.int .i64 0,.slice none 0 0,.slice none 0 0] HN.out rfl))
     have z0:=cell_of HN.out 0 _ rfl
     have q0:=free_of HN.out 0
     have z1:=cell_of HN.out 1 _ rfl
     have q1:=free_of HN.out 1
     have z2:=cell_of HN.out 2 _ rfl
     have q2:=free_of HN.out 2
     have z3:=cell_of HN.out 3 _ rfl
     have q3:=free_of HN.out 3
     have z4:=cell_of HN.out 4 _ rfl
     have q4:=free_of HN.out 4
     have z5:=cell_of HN.out 5 _ rfl
     have q5:=free_of HN.out 5
     have z6:=cell_of HN.out 6 _ rfl
     have q6:=free_of HN.out 6
     have z7:=cell_of HN.out 7 _ rfl
     have q7:=free_of HN.out 7
     have z8:=cell_of HN.out 8 _ rfl
     have q8:=free_of HN.out 8
     have z9:=cell_of HN.out 9 _ rfl
     have q9:=free_of HN.out 9
     have z10:=cell_of HN.out 10 _ rfl
     have q10:=free_of HN.out 10
     refine wpAnyH_ready (rs:=[33]) (by kernel_rfl) (by simp) ?_
     refine AllReadyH.cons (o := { dst:=none,op:=Op.store 41 (Operand.tmp 5) (Operand.tmp 44),type:=0,pos := "law.go:51",after:=#[{ on:=32,ground:=Ground.data },{ on:=31,ground:=Ground.data },{ on:=30,ground:=Ground.chain },{ on:=0,ground:=Ground.phase },{ on:=1,ground:=Ground.phase },{ on:=2,ground:=Ground.phase },{ on:=3,ground:=Ground.phase },{ on:=4,ground:=Ground.phase },{ on:=5,ground:=Ground.phase },{ on:=6,ground:=Ground.phase },{ on:=7,ground:=Ground.phase },{ on:=8,ground:=Ground.phase },{ on:=9,ground:=Ground.phase },{ on:=10,ground:=Ground.phase },{ on:=11,ground:=Ground.phase },{ on:=12,ground:=Ground.phase },{ on:=13,ground:=Ground.phase },{ on:=14,ground:=Ground.phase },{ on:=15,ground:=Ground.phase },{ on:=16,ground:=Ground.phase },{ on:=17,ground:=Ground.phase },{ on:=18,ground:=Ground.phase },{ on:=19,ground:=Ground.phase },{ on:=20,ground:=Ground.phase },{ on:=21,ground:=Ground.phase },{ on:=22,ground:=Ground.phase },{ on:=23,ground:=Ground.phase },{ on:=24,ground:=Ground.phase },{ on:=25,ground:=Ground.phase },{ on:=26,ground:=Ground.phase },{ on:=27,ground:=Ground.phase },{ on:=28,ground:=Ground.phase },{ on:=29,ground:=Ground.phase },{ on:=30,ground:=Ground.phase },{ on:=31,ground:=Ground.phase },{ on:=32,ground:=Ground.phase }],guard:=none }) rfl (fun K hK=>?_) AllReadyH.nil
     clear hHeld
     go_simp
     clear z0 q0 z1 q1 z2 q2 z3 q3 z4 q4 z5 q5 z6 q6 z7 q7 z8 q8 z9 q9 z10 q10
     have HX1:Hid ((((((((((((W7.setCell ⟨w6.heap.size,0,none⟩ (.string ⟨nm.toArray⟩)).setCell ⟨w6.heap.size,1,none⟩ (.string ⟨gr.toArray⟩)).setCell ⟨w6.heap.size,2,none⟩ (.int .i64 gn)).setCell ⟨w6.heap.size,3,none⟩ (.slice tA ts.length tc)).setCell ⟨w6.heap.size,4,none⟩ (.int .i64 tl)).setCell ⟨w6.heap.size,5,none⟩ (.bool ci)).setCell ⟨w6.heap.size,6,none⟩ (.int .i64 mx)).setCell ⟨w6.heap.size,7,none⟩ (.int .i64 my)).setCell ⟨w6.heap.size,8,none⟩ (.int .i64 ra)).setCell ⟨w6.heap.size,9,none⟩ (.slice oA1 st.length od1)).setCell ⟨w6.heap.size,10,none⟩ (.slice none 0 0)).heap[w6.heap.size]? = some (.cells #[.string ⟨nm.toArray⟩,.string ⟨gr.toArray⟩,.int .i64 gn,.slice tA ts.length tc,.int .i64 tl,.bool ci,.int .i64 mx,.int .i64 my,.int .i64 ra,.slice oA1 st.length od1,.slice none 0 0] 41 (0,0))):=hid HX.out.2
     have HX2:Hid (W7.grownBy (((((((((((W7.setCell ⟨w6.heap.size,0,none⟩ (.string ⟨nm.toArray⟩)).setCell ⟨w6.heap.size,1,none⟩ (.string ⟨gr.toArray⟩)).setCell ⟨w6.heap.size,2,none⟩ (.int .i64 gn)).setCell ⟨w6.heap.size,3,none⟩ (.slice tA ts.length tc)).setCell ⟨w6.heap.size,4,none⟩ (.int .i64 tl)).setCell ⟨w6.heap.size,5,none⟩ (.bool ci)).setCell ⟨w6.heap.size,6,none⟩ (.int .i64 mx)).setCell ⟨w6.heap.size,7,none⟩ (.int .i64 my)).setCell ⟨w6.heap.size,8,none⟩ (.int .i64 ra)).setCell ⟨w6.heap.size,9,none⟩ (.slice oA1 st.length od1)).setCell ⟨w6.heap.size,10,none⟩ (.slice none 0 0)) (some (w6.heap.size))):=hid HX.out.1
     clear HX
     generalize (((((((((((W7.setCell ⟨w6.heap.size,0,none⟩ (.string ⟨nm.toArray⟩)).setCell ⟨w6.heap.size,1,none⟩ (.string ⟨gr.toArray⟩)).setCell ⟨w6.heap.size,2,none⟩ (.int .i64 gn)).setCell ⟨w6.heap.size,3,none⟩ (.slice tA ts.length tc)).setCell ⟨w6.heap.size,4,none⟩ (.int .i64 tl)).setCell ⟨w6.heap.size,5,none⟩ (.bool ci)).setCell ⟨w6.heap.size,6,none⟩ (.int .i64 mx)).setCell ⟨w6.heap.size,7,none⟩ (.int .i64 my)).setCell ⟨w6.heap.size,8,none⟩ (.int .i64 ra)).setCell ⟨w6.heap.size,9,none⟩ (.slice oA1 st.length od1)).setCell ⟨w6.heap.size,10,none⟩ (.slice none 0 0))=W9 at HX1 HX2 ⊢
     have hb9:Below wr.heap.size wr W9:=below_grown2 HB7.out HX2.out (fun q hq=>by cases hq;exact hx7) HB7.out.size
     have HOI9:=hid (HOI7.out.keep (T := 41) HX2.out (RowW.at HN.out (Nat.zero_le _)) (by decide))
     refine hK.out _ _ ?_ (fun hHeld=>?_)
     ·exact CS.out _ hb9
     clear hK K
     try simp only [Act.put,sA,sB,sC]
     refine wpAnyH_done (by kernel_rfl) ?_ _
     clear hHeld
     go_wp2_with fail
     go_meet
     exact ⟨_,oA1,od1,rfl,HX1,HOI9,hx7,hid hb9⟩
    ·go_simp
     refine hK.out _ _ ?_ (fun hHeld=>?_)
     ·exact CS.out _ ((show Below wr.heap.size wr wr.drew from below_drewN (Below.refl _ _) 1).alloc (Nat.le_refl _) (.cells #[.string ⟨#[]⟩,.string ⟨#[]⟩,.int .i64 0,.slice none 0 0,.int .i64 0,.bool false,.int .i64 0,.int .i64 0,.int .i64 0,.slice none 0 0,.slice none 0 0] 41))
     clear hK K
     try simp only [Act.put,sA,sB,sC]
     refine wpAnyH_ready (rs:=[30]) (by kernel_rfl) (by simp) ?_
     refine AllReadyH.cons (o := { dst:=some 43,op:=Op.call { callee:=Callee.value (Operand.func 46),args:=#[Operand.tmp 42],argTypes:=#[55] },type:=38,pos := "law.go:51",after:=#[{ on:=29,ground:=Ground.data }],guard:=none }) rfl (fun K hK=>?_) AllReadyH.nil
     have hbx:=hHeld.2.2.2.2.2.2.2.2.2.2
     clear hHeld
     go_simp
     go_at_call 46
     refine (HTH.out _ (HOI.out.below hbx)).mono ?_
     rintro e w6 ⟨⟨⟨mo,oA1,od1⟩,hmo,rfl,hoi⟩,hb60⟩
     have hb6:Below wr.heap.size wr w6:=hbx.trans (hb60.mono (Below.size hbx))
     simp only at hmo
     subst hmo
     dsimp only
     refine hK.out _ _ ?_ (fun hHeld=>?_)
     ·exact CS.out _ hb6
     clear hK K
     try simp only [Act.put,sA,sB,sC]
     refine tH (i:=31) (v:=?_) rfl (Or.inl ⟨by rfl,?_⟩) ?_
     rotate_left
     ·intro w' hSw
      (try dsimp only at hSw)
      go_simp<;>with_reducible rfl
     try simp only [Act.put,sA]
     have HN:Hid (w6.heap[wr.heap.size]? = some (.cells #[.string ⟨#[]⟩,.string ⟨#[]⟩,.int .i64 0,.slice none 0 0,.int .i64 0,.bool false,.int .i64 0,.int .i64 0,.int .i64 0,.slice none 0 0,.slice none 0 0] 41)):=hid (p_below (heap_new wr.drew (.cells #[.string ⟨#[]⟩,.string ⟨#[]⟩,.int .i64 0,.slice none 0 0,.int .i64 0,.bool false,.int .i64 0,.int .i64 0,.int .i64 0,.slice none 0 0,.slice none 0 0] 41)) hb60)
     have HB7:=hid hb6
     have HOI7:=hid hoi
     have hx7:wr.heap.size≤wr.heap.size:=Nat.le_refl _
     clear hoi hb60
     have HX:=hid (And.intro (sets_grown [.string ⟨nm.toArray⟩,.string ⟨gr.toArray⟩,.int .i64 gn,.slice tA ts.length tc,.int .i64 tl,.bool ci,.int .i64 mx,.int .i64 my,.int .i64 ra,.slice oA1 st.length od1,.slice none 0 0] 0 _ _ (grown_refl w6 (some (wr.heap.size)))) (sets_block [.string ⟨nm.toArray⟩,.string ⟨gr.toArray⟩,.int .i64 gn,.slice tA ts.length tc,.int .i64 tl,.bool ci,.int .i64 mx,.int .i64 my,.int .i64 ra,.slice oA1 st.length od1,.slice none 0 0] 0 w6 [.string ⟨#[]⟩,.string ⟨#[]⟩,.int .i64 0,.slice none 0 0,.int .i64 0,.bool false,.int .i64 0,.int .i64 0,.int .i64 0,.slice none 0 0,.slice none 0 0] HN.out rfl))
     have z0:=cell_of HN.out 0 _ rfl
     have q0:=free_of HN.out 0
     have z1:=cell_of HN.out 1 _ rfl
     have q1:=free_of HN.out 1
     have z2:=cell_of HN.out 2 _ rfl
     have q2:=free_of HN.out 2
     have z3:=cell_of HN.out 3 _ rfl
     have q3:=free_of HN.out 3
     have z4:=cell_of HN.out 4 _ rfl
     have q4:=free_of HN.out 4
     have z5:=cell_of HN.out 5 _ rfl
     have q5:=free_of HN.out 5
     have z6:=cell_of HN.out 6 _ rfl
     have q6:=free_of HN.out 6
     have z7:=cell_of HN.out 7 _ rfl
     have q7:=free_of HN.out 7
     have z8:=cell_of HN.out 8 _ rfl
     have q8:=free_of HN.out 8
     have z9:=cell_of HN.out 9 _ rfl
     have q9:=free_of HN.out 9
     have z10:=cell_of HN.out 10 _ rfl
     have q10:=free_of HN.out 10
     refine wpAnyH_ready (rs:=[33]) (by kernel_rfl) (by simp) ?_
     refine AllReadyH.cons (o := { dst:=none,op:=Op.store 41 (Operand.tmp 5) (Operand.tmp 44),type:=0,pos := "law.go:51",after:=#[{ on:=32,ground:=Ground.data },{ on:=31,ground:=Ground.data },{ on:=30,ground:=Ground.chain },{ on:=0,ground:=Ground.phase },{ on:=1,ground:=Ground.phase },{ on:=2,ground:=Ground.phase },{ on:=3,ground:=Ground.phase },{ on:=4,ground:=Ground.phase },{ on:=5,ground:=Ground.phase },{ on:=6,ground:=Ground.phase },{ on:=7,ground:=Ground.phase },{ on:=8,ground:=Ground.phase },{ on:=9,ground:=Ground.phase },{ on:=10,ground:=Ground.phase },{ on:=11,ground:=Ground.phase },{ on:=12,ground:=Ground.phase },{ on:=13,ground:=Ground.phase },{ on:=14,ground:=Ground.phase },{ on:=15,ground:=Ground.phase },{ on:=16,ground:=Ground.phase },{ on:=17,ground:=Ground.phase },{ on:=18,ground:=Ground.phase },{ on:=19,ground:=Ground.phase },{ on:=20,ground:=Ground.phase },{ on:=21,ground:=Ground.phase },{ on:=22,ground:=Ground.phase },{ on:=23,ground:=Ground.phase },{ on:=24,ground:=Ground.phase },{ on:=25,ground:=Ground.phase },{ on:=26,ground:=Ground.phase },{ on:=27,ground:=Ground.phase },{ on:=28,ground:=Ground.phase },{ on:=29,ground:=Ground.phase },{ on:=30,ground:=Ground.phase },{ on:=31,ground:=Ground.phase },{ on:=32,ground:=Ground.phase }],guard:=none }) rfl (fun K hK=>?_) AllReadyH.nil
     clear hHeld
     go_simp
     clear z0 q0 z1 q1 z2 q2 z3 q3 z4 q4 z5 q5 z6 q6 z7 q7 z8 q8 z9 q9 z10 q10
     have HX1:Hid ((((((((((((w6.setCell ⟨wr.heap.size,0,none⟩ (.string ⟨nm.toArray⟩)).setCell ⟨wr.heap.size,1,none⟩ (.string ⟨gr.toArray⟩)).setCell ⟨wr.heap.size,2,none⟩ (.int .i64 gn)).setCell ⟨wr.heap.size,3,none⟩ (.slice tA ts.length tc)).setCell ⟨wr.heap.size,4,none⟩ (.int .i64 tl)).setCell ⟨wr.heap.size,5,none⟩ (.bool ci)).setCell ⟨wr.heap.size,6,none⟩ (.int .i64 mx)).setCell ⟨wr.heap.size,7,none⟩ (.int .i64 my)).setCell ⟨wr.heap.size,8,none⟩ (.int .i64 ra)).setCell ⟨wr.heap.size,9,none⟩ (.slice oA1 st.length od1)).setCell ⟨wr.heap.size,10,none⟩ (.slice none 0 0)).heap[wr.heap.size]? = some (.cells #[.string ⟨nm.toArray⟩,.string ⟨gr.toArray⟩,.int .i64 gn,.slice tA ts.length tc,.int .i64 tl,.bool ci,.int .i64 mx,.int .i64 my,.int .i64 ra,.slice oA1 st.length od1,.slice none 0 0] 41 (0,0))):=hid HX.out.2
     have HX2:Hid (w6.grownBy (((((((((((w6.setCell ⟨wr.heap.size,0,none⟩ (.string ⟨nm.toArray⟩)).setCell ⟨wr.heap.size,1,none⟩ (.string ⟨gr.toArray⟩)).setCell ⟨wr.heap.size,2,none⟩ (.int .i64 gn)).setCell ⟨wr.heap.size,3,none⟩ (.slice tA ts.length tc)).setCell ⟨wr.heap.size,4,none⟩ (.int .i64 tl)).setCell ⟨wr.heap.size,5,none⟩ (.bool ci)).setCell ⟨wr.heap.size,6,none⟩ (.int .i64 mx)).setCell ⟨wr.heap.size,7,none⟩ (.int .i64 my)).setCell ⟨wr.heap.size,8,none⟩ (.int .i64 ra)).setCell ⟨wr.heap.size,9,none⟩ (.slice oA1 st.length od1)).setCell ⟨wr.heap.size,10,none⟩ (.slice none 0 0)) (some (wr.heap.size))):=hid HX.out.1
     clear HX
     generalize (((((((((((w6.setCell ⟨wr.heap.size,0,none⟩ (.string ⟨nm.toArray⟩)).setCell ⟨wr.heap.size,1,none⟩ (.string ⟨gr.toArray⟩)).setCell ⟨wr.heap.size,2,none⟩ (.int .i64 gn)).setCell ⟨wr.heap.size,3,none⟩ (.slice tA ts.length tc)).setCell ⟨wr.heap.size,4,none⟩ (.int .i64 tl)).setCell ⟨wr.heap.size,5,none⟩ (.bool ci)).setCell ⟨wr.heap.size,6,none⟩ (.int .i64 mx)).setCell ⟨wr.heap.size,7,none⟩ (.int .i64 my)).setCell ⟨wr.heap.size,8,none⟩ (.int .i64 ra)).setCell ⟨wr.heap.size,9,none⟩ (.slice oA1 st.length od1)).setCell ⟨wr.heap.size,10,none⟩ (.slice none 0 0))=W9 at HX1 HX2 ⊢
     have hb9:Below wr.heap.size wr W9:=below_grown2 HB7.out HX2.out (fun q hq=>by cases hq;exact hx7) HB7.out.size
     have HOI9:=hid (HOI7.out.keep (T := 41) HX2.out (RowW.at HN.out (Nat.zero_le _)) (by decide))
     refine hK.out _ _ ?_ (fun hHeld=>?_)
     ·exact CS.out _ hb9
     clear hK K
     try simp only [Act.put,sA,sB,sC]
     refine wpAnyH_done (by kernel_rfl) ?_ _
     clear hHeld
     go_wp2_with fail
     go_meet
     exact ⟨_,oA1,od1,rfl,HX1,HOI9,hx7,hid hb9⟩
   case rest =>
   obtain ⟨xb,oA1,od1,rfl,HX0,HOX0,hxb,HBC⟩:=hcut
   have CS10:Hid (∀ w',Below wr.heap.size wr w'→w'.cell? ⟨g,off+k*11+10,none⟩=some (.slice hA hs.length hc)):=hid (fun w' hb=>(hb.cell (p:=⟨g,off+k*11+10,none⟩) hgw).trans a10)
   clear a0 a1 a2 a3 a4 a5 a6 a7 a8 a9 a10 HOI HTH CS
   go_upto_region 7 with fail
   obtain ⟨wo,rfl⟩:∃ wo,wo=wr:=⟨_,rfl⟩
   go_loopw [6] (fun jv wr=>∃ (j:Nat) (hs2:List OutM) (hA2:Option Addr) (hc2:Nat),jv=.int .i64 (j:Int)∧j≤hs.length∧Hid (hs2.length=j)∧Hid (hs2.map OutM.o=(hs.take j).map OutM.o)∧Hid (wr.heap[xb]? = some (.cells #[.string ⟨nm.toArray⟩,.string ⟨gr.toArray⟩,.int .i64 gn,.slice tA ts.length tc,.int .i64 tl,.bool ci,.int .i64 mx,.int .i64 my,.int .i64 ra,.slice oA1 st.length od1,.slice hA2 hs2.length hc2] 41))∧Hid (OutIn 140 0 wr ⟨⟨ci,(mx,my),ra,st⟩,oA1,od1⟩)∧Hid (∀ h∈hs2,OutIn 140 0 wr h)∧Hid (wr.ownsRow (xb+1) 38 5 (.slice hA2 hs2.length hc2) hs2.length (hs2.flatMap outCells))∧Hid (Below wo.heap.size wo wr)) (fun j _=>hs.length - (intOf j).toNat)
   case atStart=>exact ⟨0,[],none,0,rfl,Nat.zero_le _,hid rfl,hid (by simp),HX0,HOX0,hid (fun h hh=>by cases hh),hid (World.ownsRow_nil _ _ _ _),HBC⟩
   case round =>
    obtain ⟨j,hs2,hA2,hc2,rfl,hj,hj2,HHM,HX,HOX,HHS,HOW,HBI⟩:=hrel
    have a10:=CS10.out wr HBI.out
    by_cases hltj:j < hs.length
    ·have hj5:=HM.out.2.2.2.2.2
     dsimp only at hj5
     have hj3:(0:Int)≤(j:Int):=by omega
     have hj4:(j:Int) < (hs.length:Int):=by omega
     have HHR:=hid ((HM.out.below HBI.out).2.2.1.1)
     dsimp only at HHR
     obtain ⟨hg0,hoff0,e0,hhg0,_⟩:=HM.out.2.2.1.1 (by intro e;have e2:=congrArg List.length e;simp only at e2;rw [flatMap_len out_len] at e2;simp at e2;omega)
     obtain ⟨hg,hoff,rfl,hhg,cb⟩:=row_get out_len (by decide) HHR.out (by omega)
     have HHG:Hid (hg < wo.heap.size):=hid (by cases e0;exact hhg0)
     clear e0 hhg0
     have HTJ:Hid ((hs.take (j+1)).map OutM.o=(hs.take j).map OutM.o++[hs[j].o]):=hid (by rw [List.take_succ_eq_append_getElem hltj,List.map_append,List.map_cons,List.map_nil])
     have HOI9:Hid (OutIn TS base wr.drew hs[j]):=hid (((HM.out.2.2.2.1 hs[j] (List.getElem_mem _)).below HBI.out).below (show Below wr.heap.size wr wr.drew from below_drewN (Below.refl _ _) 1))
     have b0:=cb j hltj 0 (by decide)
     have b1:=cb j hltj 1 (by decide)
     have b2:=cb j hltj 2 (by decide)
     have b3:=cb j hltj 3 (by decide)
     have b4:=cb j hltj 4 (by decide)
     clear cb HHR
     generalize hs[j]=p at *
     obtain ⟨⟨hci,⟨hmx,hmy⟩,hra,hst⟩,hoA,hod⟩:=p
     simp only [outCells,List.getElem?_cons_zero,List.getElem?_cons_succ] at b0 b1 b2 b3 b4
     have HTH9:Hid (∀ W,OutIn TS base W ⟨⟨hci,(hmx,hmy),hra,hst⟩,hoA,hod⟩→_):=hid (fun W hW=>their_any (TS:=TS) (base:=base) ⟨⟨hci,(hmx,hmy),hra,hst⟩,hoA,hod⟩ W hW)
     simp only [outCells] at HTH9
     have hhg2:hg < wo.heap.size:=HHG.out
     have CS9:Hid (∀ w',Below wo.heap.size wo w'→(w'.cell? ⟨g,off+k*11+10,none⟩=some (.slice (some ⟨hg,hoff,none⟩) hs.length hc)∧w'.cell? ⟨hg,hoff+j*5,none⟩=some (.bool hci)∧w'.cell? ⟨hg,hoff+j*5+1,none⟩=some (.int .i64 hmx)∧w'.cell? ⟨hg,hoff+j*5+2,none⟩=some (.int .i64 hmy)∧w'.cell? ⟨hg,hoff+j*5+3,none⟩=some (.int .i64 hra)∧w'.cell? ⟨hg,hoff+j*5+4,none⟩=some (.slice hoA hst.length hod))):=hid (fun w' hb=>⟨CS10.out w' hb,((hb.cell (p:=⟨hg,hoff+j*5,none⟩) hhg2).trans (HBI.out.cell (p:=⟨hg,hoff+j*5,none⟩) hhg2).symm).trans b0,((hb.cell (p:=⟨hg,hoff+j*5+1,none⟩) hhg2).trans (HBI.out.cell (p:=⟨hg,hoff+j*5+1,none⟩) hhg2).symm).trans b1,((hb.cell (p:=⟨hg,hoff+j*5+2,none⟩) hhg2).trans (HBI.out.cell (p:=⟨hg,hoff+j*5+2,none⟩) hhg2).symm).trans b2,((hb.cell (p:=⟨hg,hoff+j*5+3,none⟩) hhg2).trans (HBI.out.cell (p:=⟨hg,hoff+j*5+3,none⟩) hhg2).symm).trans b3,((hb.cell (p:=⟨hg,hoff+j*5+4,none⟩) hhg2).trans (HBI.out.cell (p:=⟨hg,hoff+j*5+4,none⟩) hhg2).symm).trans b4⟩)
     have C3:Hid (hs2.length+1≤maxLen∧(hs2.length+1)*56≤140737488355328):=hid (by have:=HM.out.2.2.2.2.2;dsimp only at this;have:=hj2.out;unfold maxLen;omega)
     have HBD:Hid (Below wo.heap.size wo wr.drew):=hid (below_drewN HBI.out 1)
     have x10:wr.drew.cell? ⟨xb,10,none⟩=some (.slice hA2 hs2.length hc2):=cell_of (show wr.drew.heap[xb]? = _ from HX.out) 10 _ rfl
     go_upto_region 9 with fail
     clear b0 b1 b2 b3 b4 a10
     refine wp_region_tillK (k:=14) (S1:=fun w'=>(w'.cell? ⟨g,off+k*11+10,none⟩=some (.slice (some ⟨hg,hoff,none⟩) hs.length hc)∧w'.cell? ⟨hg,hoff+j*5,none⟩=some (.bool hci)∧w'.cell? ⟨hg,hoff+j*5+1,none⟩=some (.int .i64 hmx)∧w'.cell? ⟨hg,hoff+j*5+2,none⟩=some (.int .i64 hmy)∧w'.cell? ⟨hg,hoff+j*5+3,none⟩=some (.int .i64 hra)∧w'.cell? ⟨hg,hoff+j*5+4,none⟩=some (.slice hoA hst.length hod))) (S2:=fun w'=>w'.cell? ⟨xb,10,none⟩=some (.slice hA2 hs2.length hc2)) (by kernel_rfl) ?_ (fun hHeld=>?_)
     ·exact ⟨CS9.out _ HBD.out,x10⟩
     refine tK (i:=0) (v:=?_) rfl (Or.inl ⟨by rfl,?_⟩) ?_
     rotate_left
     ·intro w' hSw
      (try dsimp only at hSw)
      go_simp<;>with_reducible rfl
     try simp only [Act.put,sA]
     refine tK (i:=1) (v:=?_) rfl (Or.inl ⟨by rfl,?_⟩) ?_
     rotate_left
     ·intro w' hSw
      (try dsimp only at hSw)
      go_simp<;>with_reducible rfl
     try simp only [Act.put]
     refine tK (i:=2) (v:=?_) rfl (Or.inl ⟨by rfl,?_⟩) ?_
     rotate_left
     ·intro w' hSw
      (try dsimp only at hSw)
      go_simp<;>with_reducible rfl
     try simp only [Act.put]
     refine tK (i:=3) (v:=?_) rfl (Or.inl ⟨by rfl,?_⟩) ?_
     rotate_left
     ·intro w' hSw
      (try dsimp only at hSw)
      go_simp<;>with_reducible rfl
     try simp only [Act.put]
     refine tK (i:=4) (v:=?_) rfl (Or.inl ⟨by rfl,?_⟩) ?_
     rotate_left
     ·intro w' hSw
      (try dsimp only at hSw)
      go_simp<;>with_reducible rfl
     try simp only [Act.put]
     refine tK (i:=5) (v:=?_) rfl (Or.inl ⟨by rfl,?_⟩) ?_
     rotate_left
     ·intro w' hSw
      (try dsimp only at hSw)
      go_simp<;>with_reducible rfl
     try simp only [Act.put]
     refine tK (i:=6) (v:=?_) rfl (Or.inl ⟨by rfl,?_⟩) ?_
     rotate_left
     ·intro w' hSw
      (try dsimp only at hSw)
      go_simp<;>with_reducible rfl
     try simp only [Act.put]
     refine tK (i:=7) (v:=?_) rfl (Or.inl ⟨by rfl,?_⟩) ?_
     rotate_left
     ·intro w' hSw
      (try dsimp only at hSw)
      go_simp<;>with_reducible rfl
     try simp only [Act.put]
     refine tK (i:=8) (v:=?_) rfl (Or.inl ⟨by rfl,?_⟩) ?_
     rotate_left
     ·intro w' hSw
      (try dsimp only at hSw)
      go_simp<;>with_reducible rfl
     try simp only [Act.put]
     refine tK (i:=9) (v:=?_) rfl (Or.inl ⟨by rfl,?_⟩) ?_
     rotate_left
     ·intro w' hSw
      (try dsimp only at hSw)
      go_simp<;>with_reducible rfl
     try simp only [Act.put]
     refine wpAnyK_one (i:=10) (o:=_) (by kernel_rfl) rfl (fun K hK=>?_)
     clear hHeld
     go_simp
     go_at_call 46
     refine (HTH9.out wr.drew HOI9.out).mono ?_
     rintro e w10 ⟨⟨⟨mo,oA2,od2⟩,hmo,rfl,hoi⟩,hb10d⟩
     have hb10:Below wr.heap.size wr w10:=(show Below wr.heap.size wr wr.drew from below_drewN (Below.refl _ _) 1).trans hb10d
     simp only at hmo
     subst hmo
     dsimp only
     have HB10:=hid (HBI.out.trans (hb10.mono HBI.out.size))
     have HX10:=hid (p_below HX.out hb10)
     have HOX10:=hid (HOX.out.below hb10)
     have HHS10:=hid (fun h hh=>(HHS.out h hh).below hb10)
     have HOW10:=hid (own_keep (row:=none) (T := 41) (base:=0) (grown_below (grown_refl wr none) hb10) (RowW.none _ _ _) (by decide) HOW.out)
     have HNH:=hid hoi
     have y10:=cell_of HX10.out 10 (.slice hA2 hs2.length hc2) rfl
     clear hoi hb10d hb10 x10
     refine hK.out _ _ ?_ (fun _=>?_) (fun hHeld=>?_)
     ·exact CS9.out _ HB10.out
     ·exact y10
     replace hHeld:=And.intro hHeld.1 (hHeld.2 (by decide))
     clear hK K
     try simp only [Act.put,sA,sB,sC]
     refine wpAnyK_one (i:=11) (o:=_) (by kernel_rfl) rfl (fun K hK=>?_)
     go_simp
     have HB11:=hid (HB10.out.alloc HB10.out.size (.cells #[.bool hci,.int .i64 hmx,.int .i64 hmy,.int .i64 hra,.slice oA2 hst.length od2] 38))
     have HX11:=hid (p_below HX10.out (bel1 w10 (.cells #[.bool hci,.int .i64 hmx,.int .i64 hmy,.int .i64 hra,.slice oA2 hst.length od2] 38)))
     have HOX11:=hid (HOX10.out.below (bel1 w10 (.cells #[.bool hci,.int .i64 hmx,.int .i64 hmy,.int .i64 hra,.slice oA2 hst.length od2] 38)))
     have HHS11:=hid (fun h hh=>(HHS10.out h hh).below (bel1 w10 (.cells #[.bool hci,.int .i64 hmx,.int .i64 hmy,.int .i64 hra,.slice oA2 hst.length od2] 38)))
     have HNH11:=hid (OutIn.below HNH.out (bel1 w10 (.cells #[.bool hci,.int .i64 hmx,.int .i64 hmy,.int .i64 hra,.slice oA2 hst.length od2] 38)))
     have HOW11:=hid (own_keep (row:=none) (T := 41) (base:=0) (grown_below (grown_refl w10 none) (bel1 w10 (.cells #[.bool hci,.int .i64 hmx,.int .i64 hmy,.int .i64 hra,.slice oA2 hst.length od2] 38))) (RowW.none _ _ _) (by decide) HOW10.out)
     have HNW:=hid (newN_row w10 [.bool hci,.int .i64 hmx,.int .i64 hmy,.int .i64 hra,.slice oA2 hst.length od2] 38)
     have y11:=cell_of HX11.out 10 (.slice hA2 hs2.length hc2) rfl
     have C5:Hid (xb+1≤(w10.alloc (.cells #[.bool hci,.int .i64 hmx,.int .i64 hmy,.int .i64 hra,.slice oA2 hst.length od2] 38)).heap.size):=hid (blk_lt HX11.out)
     refine hK.out _ _ ?_ (fun _=>?_) (fun hHeld=>?_)
     ·exact CS9.out _ HB11.out
     ·exact y11
     replace hHeld:=And.intro hHeld.1 (hHeld.2 (by decide))
     clear hK K
     try simp only [Act.put,sA,sB,sC]
     refine wpAnyK_one (i:=12) (o:=_) (by kernel_rfl) rfl (fun K hK=>?_)
     refine step_append_row (by rfl) _ _ _ (by rfl) (xb+1) 38 j0 _ 5 56 Tryz.underlying39 ja jb jc jd rfl (by omega) (.slice hA2 hs2.length hc2) hs2.length (hs2.flatMap outCells) (by rfl) HOW11.out (some ⟨w10.heap.size,0,none⟩) 1 1 [.bool hci,.int .i64 hmx,.int .i64 hmy,.int .i64 hra,.slice oA2 hst.length od2] (by rfl) HNW.out rfl (by intro uu hu;simp at hu;rcases hu with rfl | rfl | rfl | rfl | rfl<;>rfl) C3.out.1 C3.out.2 C5.out ?_
     intro v12 w12 hown12 hg12
     obtain ⟨B12,d12,rfl,_⟩:=own_shape hown12
     have HB12:=hid (below_grown2 HB11.out hg12 (fun q hq=>by have:=(HOW11.out.lt q hq).1;have:=hxb;omega) HB11.out.size)
     have HX12:=hid (heap_keep hg12 (RowW.own HOW11.out) (by decide) HX11.out)
     have HOX12:=hid (HOX11.out.keep hg12 ((RowW.own HOW11.out).mono (Nat.zero_le _)) (by decide))
     have HHS12:=hid (fun h hh=>(HHS11.out h hh).keep hg12 ((RowW.own HOW11.out).mono (Nat.zero_le _)) (by decide))
     have HNH12:=hid (HNH11.out.keep hg12 ((RowW.own HOW11.out).mono (Nat.zero_le _)) (by decide))
     have HOW12:=hid hown12
     have y12:=cell_of HX12.out 10 (.slice hA2 hs2.length hc2) rfl
     have q12:=free_of HX12.out 10
     clear hown12 hg12 y10 y11 hHeld
     refine hK.out _ _ ?_ (fun _=>?_) (fun hHeld=>?_)
     ·exact CS9.out _ HB12.out
     ·exact y12
     replace hHeld:=And.intro hHeld.1 (hHeld.2 (by decide))
     clear hK K
     try simp only [Act.put,sA]
     refine tK (i:=13) (v:=?_) rfl (Or.inl ⟨by rfl,?_⟩) ?_
     rotate_left
     ·intro w' hSw
      (try dsimp only at hSw)
      go_simp<;>with_reducible rfl
     try simp only [Act.put]
     refine wpAnyK_one (i:=14) (o:=_) (by kernel_rfl) rfl (fun K hK=>?_)
     go_simp
     have HG14:=hid (grown_set (grown_refl w12 (some xb)) 10 (.slice B12 (hs2.length+1) d12))
     have HB14:Hid (Below wo.heap.size wo (w12.setCell ⟨xb,10,none⟩ (.slice B12 (hs2.length+1) d12))):=hid (HB12.out.setCell (p:=⟨xb,10,none⟩) hxb _)
     have HX14:Hid ((w12.setCell ⟨xb,10,none⟩ (.slice B12 (hs2.length+1) d12)).heap[xb]? = some (.cells #[.string ⟨nm.toArray⟩,.string ⟨gr.toArray⟩,.int .i64 gn,.slice tA ts.length tc,.int .i64 tl,.bool ci,.int .i64 mx,.int .i64 my,.int .i64 ra,.slice oA1 st.length od1,.slice B12 (hs2.length+1) d12] 41)):=hid (by simpa using block_set HX12.out 10 (.slice B12 (hs2.length+1) d12))
     have HOX14:=hid (HOX12.out.keep HG14.out (RowW.at HX12.out (Nat.zero_le _)) (by decide))
     have HHS14:=hid (fun h hh=>(HHS12.out h hh).keep HG14.out (RowW.at HX12.out (Nat.zero_le _)) (by decide))
     have HNH14:=hid (HNH12.out.keep HG14.out (RowW.at HX12.out (Nat.zero_le _)) (by decide))
     have HOW14:=hid (own_keep HG14.out (RowW.at HX12.out (Nat.zero_le _)) (by decide) HOW12.out)
     refine hK.out _ _ ?_ (fun hne=>?_) (fun hHeld=>?_)
     ·exact CS9.out _ HB14.out
     ·exact absurd rfl hne
     clear hK K
     try simp only [Act.put,sA,sB,sC]
     refine wpAnyK_done (by kernel_rfl) ?_ _
     clear hHeld q12 y12
     go_wp2_with fail
     go_roundw
     case rel=>exact ⟨j+1,hs2++[⟨⟨hci,(hmx,hmy),hra,hst⟩,oA2,od2⟩],B12,d12,by go_num,hltj,hid (by rw [List.length_append,hj2.out];rfl),hid (by rw [HTJ.out,List.map_append,HHM.out];rfl),hid (by rw [List.length_append];exact HX14.out),HOX14,hid (fun h hh=>by rcases List.mem_append.1 hh with hh | hh;exact HHS14.out h hh;rw [List.mem_singleton.1 hh];exact HNH14.out),hid (by rw [List.length_append,List.flatMap_append];exact HOW14.out),HB14⟩
     case measure=>simp [intOf];omega
    ·have hje:j=hs.length:=by omega
     have HH1:Hid (hs2.map OutM.o=hs.map OutM.o):=hid (by have:=HHM.out;rw [hje,List.take_length] at this;exact this)
     have hsz:=HBI.out.size
     have HBF:=hid (HB.out.trans (HBI.out.mono HB.out.size))
     have HOJ2:=hid (own_keep (row:=none) (T := 38) (base:=0) (grown_below (grown_refl wo none) HBI.out) (RowW.none _ _ _) (by decide) HOJ.out)
     have HOJ3:=hid (own_keep (row:=none) (T := 38) (base:=0) (grown_below (grown_refl wr none) (bel1 wr (.cells #[.string ⟨nm.toArray⟩,.string ⟨gr.toArray⟩,.int .i64 gn,.slice tA ts.length tc,.int .i64 tl,.bool ci,.int .i64 mx,.int .i64 my,.int .i64 ra,.slice oA1 st.length od1,.slice hA2 hs2.length hc2] 41))) (RowW.none _ _ _) (by decide) HOJ2.out)
     have HSJ3:=hid (fun m hm=>((HSJ.out m hm).below HBI.out).below (bel1 wr (.cells #[.string ⟨nm.toArray⟩,.string ⟨gr.toArray⟩,.int .i64 gn,.slice tA ts.length tc,.int .i64 tl,.bool ci,.int .i64 mx,.int .i64 my,.int .i64 ra,.slice oA1 st.length od1,.slice hA2 hs2.length hc2] 41)))
     have HXN:Hid (SrcIn 38 140 base (wr.alloc (.cells #[.string ⟨nm.toArray⟩,.string ⟨gr.toArray⟩,.int .i64 gn,.slice tA ts.length tc,.int .i64 tl,.bool ci,.int .i64 mx,.int .i64 my,.int .i64 ra,.slice oA1 st.length od1,.slice hA2 hs2.length hc2] 41)) ⟨nm,gr,gn,ts,tA,tc,tl,⟨⟨ci,(mx,my),ra,st⟩,oA1,od1⟩,hs2,hA2,hc2⟩):=hid (SrcIn.below ⟨(HM.out.1.below HBI.out),HOX.out.mono (Nat.zero_le _),At.of_own HOW.out,fun h hh=>(HHS.out h hh).mono (Nat.zero_le _),HM.out.2.2.2.2.1,by have:=HM.out.2.2.2.2.2;dsimp only at this ⊢;have:=hj2.out;omega⟩ (bel1 wr (.cells #[.string ⟨nm.toArray⟩,.string ⟨gr.toArray⟩,.int .i64 gn,.slice tA ts.length tc,.int .i64 tl,.bool ci,.int .i64 mx,.int .i64 my,.int .i64 ra,.slice oA1 st.length od1,.slice hA2 hs2.length hc2] 41)))
     have HNW:=hid (newN_row wr [.string ⟨nm.toArray⟩,.string ⟨gr.toArray⟩,.int .i64 gn,.slice tA ts.length tc,.int .i64 tl,.bool ci,.int .i64 mx,.int .i64 my,.int .i64 ra,.slice oA1 st.length od1,.slice hA2 hs2.length hc2] 41)
     have C3:Hid (k+1≤maxLen∧(k+1)*152≤140737488355328):=hid (by unfold maxLen;omega)
     have C5:Hid (w.heap.size≤(wr.alloc (.cells #[.string ⟨nm.toArray⟩,.string ⟨gr.toArray⟩,.int .i64 gn,.slice tA ts.length tc,.int .i64 tl,.bool ci,.int .i64 mx,.int .i64 my,.int .i64 ra,.slice oA1 st.length od1,.slice hA2 hs2.length hc2] 41)).heap.size):=hid (by have:=HBF.out.size;simp;omega)
     have x0:=cell_of HX.out 0 (.string ⟨nm.toArray⟩) rfl
     have x1:=cell_of HX.out 1 (.string ⟨gr.toArray⟩) rfl
     have x2:=cell_of HX.out 2 (.int .i64 gn) rfl
     have x3:=cell_of HX.out 3 (.slice tA ts.length tc) rfl
     have x4:=cell_of HX.out 4 (.int .i64 tl) rfl
     have x5:=cell_of HX.out 5 (.bool ci) rfl
     have x6:=cell_of HX.out 6 (.int .i64 mx) rfl
     have x7:=cell_of HX.out 7 (.int .i64 my) rfl
     have x8:=cell_of HX.out 8 (.int .i64 ra) rfl
     have x9:=cell_of HX.out 9 (.slice oA1 st.length od1) rfl
     have x10:=cell_of HX.out 10 (.slice hA2 hs2.length hc2) rfl
     go_wp2_with (at_builtin;refine wpList_append_row _ rfl _ _ 27 rfl w.heap.size 41 i0 _ 11 152 Tryz.underlying27 ia ib ic id rfl (by omega) (.slice B k d) k (ms1.flatMap srcCells) rfl HOJ3.out (some ⟨wr.heap.size,0,none⟩) 1 1 [.string ⟨nm.toArray⟩,.string ⟨gr.toArray⟩,.int .i64 gn,.slice tA ts.length tc,.int .i64 tl,.bool ci,.int .i64 mx,.int .i64 my,.int .i64 ra,.slice oA1 st.length od1,.slice hA2 hs2.length hc2] rfl HNW.out rfl (by intro uu hu;simp at hu;rcases hu with rfl | rfl | rfl | rfl | rfl | rfl | rfl | rfl | rfl | rfl | rfl<;>rfl) C3.out.1 C3.out.2 C5.out ?_;intro v' wa hown hg1)
     clear x0 x1 x2 x3 x4 x5 x6 x7 x8 x9 x10 a10
     obtain ⟨Ba,da,rfl,_⟩:=own_shape hown
     have HBA:=hid (below_grown2 (HBF.out.alloc HBF.out.size (.cells #[.string ⟨nm.toArray⟩,.string ⟨gr.toArray⟩,.int .i64 gn,.slice tA ts.length tc,.int .i64 tl,.bool ci,.int .i64 mx,.int .i64 my,.int .i64 ra,.slice oA1 st.length od1,.slice hA2 hs2.length hc2] 41)) hg1 (fun q hq=>(HOJ3.out.lt q hq).1) C5.out)
     have hrw:=(RowW.own HOJ3.out).mono hbs
     have HSN:=hid (HXN.out.keep hg1 hrw (by decide) (by decide) (by decide))
     have HSA:=hid (fun m hm=>(HSJ3.out m hm).keep hg1 hrw (by decide) (by decide) (by decide))
     go_wp2
     go_roundw
     case rel=>exact ⟨k+1,ms1++[⟨nm,gr,gn,ts,tA,tc,tl,⟨⟨ci,(mx,my),ra,st⟩,oA1,od1⟩,hs2,hA2,hc2⟩],Ba,da,by go_num,hlt,rfl,hid (by rw [HTK.out,List.map_append,HMS.out];simp [SrcM.src,HH1.out]),hid (by rw [List.flatMap_append];exact hown),hid (fun m hm=>by rcases List.mem_append.1 hm with hm | hm;exact HSA.out m hm;rw [List.mem_singleton.1 hm];exact HSN.out),HBA⟩
     case measure=>simp [intOf];omega
  ·obtain rfl:k=ms.length:=by omega
   go_wp2
   go_ret
   have h1:=HMS.out
   rw [List.take_length] at h1
   exact ⟨⟨ms1,B,d,h1,rfl,HOJ.out,HSJ.out⟩,HB.out⟩
end Go.Proofs.YtnkkcknogkgdkaaGreatDoor.PaW
