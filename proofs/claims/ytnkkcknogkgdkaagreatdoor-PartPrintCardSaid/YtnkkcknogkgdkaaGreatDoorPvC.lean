/- Walk: which sources are valid, by the reference. Conditions: they lie in memory. -/
import Derived.Test.YtnkkcknogkgdkaaGreatDoorPpC
import Derived.Test.YtnkkcknogkgdkaaGreatDoorPcC
import Derived.Test.YtnkkcknogkgdkaaGreatDoorPpA
import Derived.Test.YtnkkcknogkgdkaaGreatDoorPaM
import Derived.Test.YtnkkcknogkgdkaaGreatDoorPaV

namespace Go.Proofs.YtnkkcknogkgdkaaGreatDoor.PaW
open Lib (hid)
open Go Go.RowKit Go.Proofs.YtnkkcknogkgdkaaGreatDoor.Mem Go.Proofs.YtnkkcknogkgdkaaGreatDoor.Pa
open Go.Proofs.YtnkkcknogkgdkaaGreatDoor.Ge (V)
open Go.Proofs.YtnkkcknogkgdkaaGreatDoor.Lex (Tok)
open Go.Proofs.YtnkkcknogkgdkaaGreatDoor.LexW (tokCells)
attribute [local go_sem ↓] Go.wp_at_zero Go.wp_at_succ

open Go.Proofs.YtnkkcknogkgdkaaGreatDoor.Ge (within)
open Go.Proofs.YtnkkcknogkgdkaaGreatDoor.PqW (writeString_k strCells_mk byteCells_app isBuilder_below b_new)
open Go.Proofs.YtnkkcknogkgdkaaGreatDoor.GeW (rwithin_any)
set_option maxRecDepth 100000 in
theorem rturn_any (t:Int) (w:World):Calls Tryz.prog 118 #[.int .i64 t] w fun e w'=>e=.returned (.bool (decide (0≤t∧t≤7)))∧Below w.heap.size w w':=by
 by_cases h1:0≤t
 ·by_cases h2:t < 8
  ·rw [decide_eq_true (show 0≤t∧t≤7 by omega)]
   go_enter Tryz.func118,Tryz.ntmps118
   go_wp2
   go_ret
   exact ⟨rfl,Below.refl _ _⟩
  ·rw [decide_eq_false (show ¬ (0≤t∧t≤7) by omega)]
   go_enter Tryz.func118,Tryz.ntmps118
   go_wp2
   go_ret
   exact ⟨rfl,Below.refl _ _⟩
 ·rw [decide_eq_false (show ¬ (0≤t∧t≤7) by omega)]
  go_enter Tryz.func118,Tryz.ntmps118
  go_wp2
  go_ret
  exact ⟨rfl,Below.refl _ _⟩
set_option maxRecDepth 100000 in
set_option maxHeartbeats 2000000 in
theorem rturns_any (l:List Int) (A:Option Addr) (c:Nat) (w:World) (hr:Row w A (l.map (Value.int .i64))) (hl:l.length≤1000000) :
  Calls Tryz.prog 59 #[.slice A l.length c] w fun e w'=>e=.returned (.bool (turnsOk l))∧Below w.heap.size w w':=by
 have HR:=hid hr
 have HNO:Hid (∀ k (h:k < l.length),¬ goodT l k h→turnsOk l=false):=hid (fun k h hn=>by
  cases ht:turnsOk l
  ·rfl
  ·exact absurd (((turns_ix l).1 ht).2 k h) hn)
 have HYES:Hid ((∀ k (h:k < l.length),goodT l k h)→turnsOk l=decide (1≤l.length)):=hid (fun h=>by
  by_cases h1:1≤l.length
  ·rw [decide_eq_true h1];exact (turns_ix l).2 ⟨h1,h⟩
  ·rw [decide_eq_false h1]
   cases ht:turnsOk l
   ·rfl
   ·exact absurd ((turns_ix l).1 ht).1 h1)
 clear hr
 obtain ⟨KT,HKT⟩:∃ KT,Hid (turnsOk l=KT):=⟨_,hid rfl⟩
 rw [HKT.out] at HNO HYES ⊢
 clear HKT
 go_enter Tryz.func59,Tryz.ntmps59
 go_wp2_with fail
 go_loopw [3] (fun v wr=>∃ k:Nat,v=.int .i64 (k:Int)∧k≤l.length∧Hid (∀ m (h:m < l.length),m < k→goodT l m h)∧Hid (Below w.heap.size w wr)) (fun v _=>l.length - (intOf v).toNat)
 case atStart=>exact ⟨0,rfl,Nat.zero_le _,hid (fun m h h0=>absurd h0 (by omega)),hid (Below.refl _ _)⟩
 case round =>
  obtain ⟨k,rfl,hk,HG,HB⟩:=hrel
  by_cases hlt:k < l.length
  ·obtain ⟨g,off,rfl,hg,hc⟩:=int_get (HR.out.below HB.out) hlt
   have a0:=hc k hlt
   have HLT:=hid hlt
   have HN:=hid (HNO.out k hlt)
   have HS:Hid (goodT l k hlt→∀ m (h:m < l.length),m < k+1→goodT l m h):=hid (fun hgk m h hm=>by
    rcases Nat.lt_or_ge m k with h1 | h1
    ·exact HG.out m h h1
    ·obtain rfl:m=k:=by omega
     exact hgk)
   have hk1:(0:Int)≤(k:Int):=by omega
   have hk2:(k:Int) < (l.length:Int):=by omega
   unfold goodT at HN HS
   clear HNO HYES HG
   rcases k with _ | j
   ·rw [Nat.add_zero] at a0
    have HN2:=hid (fun (h : ¬ (0≤l[0]∧l[0]≤7))=>HN.out (fun hh=>h hh.1))
    have HS2:=hid (fun (h:0≤l[0]∧l[0]≤7)=>HS.out ⟨h,fun h1=>absurd h1 (by omega)⟩)
    have HV:=hid (fun W=>rturn_any l[0] W)
    clear HN HS hc
    generalize l[0]=t at *
    by_cases c1:0≤t∧t≤7
    ·rw [decide_eq_true c1] at HV
     have HS3:=hid (HS2.out c1)
     clear HN2 HS2 c1 hlt
     go_upto_region 4 with fail
     refine wp_region_det (fun w'=>Below wr.heap.size wr w') (by kernel_rfl) (below_drewN (Below.refl _ _) 1) ?_
     refine tD (i:=0) (v:=?_) (some 10) rfl (Or.inl (Or.inl ⟨by rfl,?_⟩)) ?_
     rotate_left
     ·intro w' hSw
      (try dsimp only at hSw)
      have hs0:=(hSw.cell (p:=⟨g,off,none⟩) hg).trans a0
      go_simp<;>with_reducible rfl
     try simp only [Act.put,sA,sB,sC]
     refine tD (i:=1) (v:=?_) (some 11) rfl (Or.inl (Or.inl ⟨by rfl,?_⟩)) ?_
     rotate_left
     ·intro w' hSw
      (try dsimp only at hSw)
      have hs0:=(hSw.cell (p:=⟨g,off,none⟩) hg).trans a0
      go_simp<;>with_reducible rfl
     try simp only [Act.put,sA,sB,sC]
     refine tD (i:=2) (v:=?_) (some 12) rfl (Or.inl (Or.inl ⟨by rfl,?_⟩)) ?_
     rotate_left
     ·intro w' hSw
      (try dsimp only at hSw)
      have hs0:=(hSw.cell (p:=⟨g,off,none⟩) hg).trans a0
      go_simp<;>with_reducible rfl
     try simp only [Act.put,sA,sB,sC]
     refine tD (i:=3) (v:=?_) (some 13) rfl (Or.inl (Or.inl ⟨by rfl,?_⟩)) ?_
     rotate_left
     ·intro w' hSw
      (try dsimp only at hSw)
      have hs0:=(hSw.cell (p:=⟨g,off,none⟩) hg).trans a0
      go_simp<;>with_reducible rfl
     try simp only [Act.put,sA,sB,sC]
     refine tD (i:=4) (v:=(.bool true)) (some 14) rfl (Or.inr ⟨by rfl, 118,#[.int .i64 t],?_,?_⟩) ?_
     ·intro w' hSw
      (try dsimp only at hSw)
      first | rfl | (go_simp;done) | (go_simp;with_reducible rfl)
     ·intro w' hSw
      exact (HV.out w').mono fun e u ⟨he,hb⟩=>⟨he,hSw.trans (hb.mono hSw.size)⟩
     try simp only [Act.put,sA,sB,sC]
     refine tD (i:=5) (v:=?_) (some 15) rfl (Or.inl (Or.inl ⟨by rfl,?_⟩)) ?_
     rotate_left
     ·intro w' hSw
      (try dsimp only at hSw)
      have hs0:=(hSw.cell (p:=⟨g,off,none⟩) hg).trans a0
      go_simp<;>with_reducible rfl
     try simp only [Act.put,sA,sB,sC]
     refine tD (i:=6) (v:=?_) (some 16) rfl (Or.inl (Or.inl ⟨by rfl,?_⟩)) ?_
     rotate_left
     ·intro w' hSw
      (try dsimp only at hSw)
      have hs0:=(hSw.cell (p:=⟨g,off,none⟩) hg).trans a0
      go_simp<;>with_reducible rfl
     try simp only [Act.put,sA,sB,sC]
     refine tD (i:=7) (v:=?_) (some 17) rfl (Or.inl (Or.inl ⟨by rfl,?_⟩)) ?_
     rotate_left
     ·intro w' hSw
      (try dsimp only at hSw)
      have hs0:=(hSw.cell (p:=⟨g,off,none⟩) hg).trans a0
      go_simp<;>with_reducible rfl
     try simp only [Act.put,sA,sB,sC]
     refine tD (i:=8) (v:=?_) (some 18) rfl (Or.inl (Or.inl ⟨by rfl,?_⟩)) ?_
     rotate_left
     ·intro w' hSw
      (try dsimp only at hSw)
      have hs0:=(hSw.cell (p:=⟨g,off,none⟩) hg).trans a0
      go_simp<;>with_reducible rfl
     try simp only [Act.put,sA,sB,sC]
     refine tD (i:=9) (v:=?_) (some 19) rfl (Or.inl (Or.inl ⟨by rfl,?_⟩)) ?_
     rotate_left
     ·intro w' hSw
      (try dsimp only at hSw)
      have hs0:=(hSw.cell (p:=⟨g,off,none⟩) hg).trans a0
      go_simp<;>with_reducible rfl
     try simp only [Act.put,sA,sB,sC]
     refine tD (i:=10) (v:=undef) (some 20) rfl (Or.inl (Or.inr ⟨by rfl,rfl⟩)) ?_
     try simp only [Act.put,sA,sB,sC]
     refine tD (i:=11) (v:=undef) (some 21) rfl (Or.inl (Or.inr ⟨by rfl,rfl⟩)) ?_
     try simp only [Act.put,sA,sB,sC]
     refine tD (i:=12) (v:=undef) (some 22) rfl (Or.inl (Or.inr ⟨by rfl,rfl⟩)) ?_
     try simp only [Act.put,sA,sB,sC]
     refine tD (i:=13) (v:=undef) (some 23) rfl (Or.inl (Or.inr ⟨by rfl,rfl⟩)) ?_
     try simp only [Act.put,sA,sB,sC]
     refine tD (i:=14) (v:=undef) (some 24) rfl (Or.inl (Or.inr ⟨by rfl,rfl⟩)) ?_
     try simp only [Act.put,sA,sB,sC]
     refine tD (i:=15) (v:=undef) (some 25) rfl (Or.inl (Or.inr ⟨by rfl,rfl⟩)) ?_
     try simp only [Act.put,sA,sB,sC]
     refine tD (i:=16) (v:=undef) (some 26) rfl (Or.inl (Or.inr ⟨by rfl,rfl⟩)) ?_
     try simp only [Act.put,sA,sB,sC]
     refine tD (i:=17) (v:=undef) (some 27) rfl (Or.inl (Or.inr ⟨by rfl,rfl⟩)) ?_
     try simp only [Act.put,sA,sB,sC]
     refine tD (i:=18) (v:=undef) (some 28) rfl (Or.inl (Or.inr ⟨by rfl,rfl⟩)) ?_
     try simp only [Act.put,sA,sB,sC]
     refine tD (i:=19) (v:=undef) (some 29) rfl (Or.inl (Or.inr ⟨by rfl,rfl⟩)) ?_
     try simp only [Act.put,sA,sB,sC]
     refine tD (i:=20) (v:=?_) (some 30) rfl (Or.inl (Or.inl ⟨by rfl,?_⟩)) ?_
     rotate_left
     ·intro w' hSw
      (try dsimp only at hSw)
      have hs0:=(hSw.cell (p:=⟨g,off,none⟩) hg).trans a0
      go_simp<;>with_reducible rfl
     try simp only [Act.put,sA,sB,sC]
     refine tD (i:=21) (v:=?_) (some 31) rfl (Or.inl (Or.inl ⟨by rfl,?_⟩)) ?_
     rotate_left
     ·intro w' hSw
      (try dsimp only at hSw)
      have hs0:=(hSw.cell (p:=⟨g,off,none⟩) hg).trans a0
      go_simp<;>with_reducible rfl
     try simp only [Act.put,sA,sB,sC]
     refine wpAnyD_done (by kernel_rfl) (fun w' hSw=>?_) _
     go_wp2
     go_roundw
     case rel=>exact ⟨0+1,by go_num,by have:=HLT.out;omega,HS3,hid (HB.out.trans (hSw.mono HB.out.size))⟩
     case measure=>simp [intOf];have:=HLT.out;omega
    ·rw [decide_eq_false c1] at HV
     have e1:=hid (HN2.out c1)
     clear HN2 HS2 c1 hlt
     go_upto_region 4 with fail
     refine wp_region_det (fun w'=>Below wr.heap.size wr w') (by kernel_rfl) (below_drewN (Below.refl _ _) 1) ?_
     refine tD (i:=0) (v:=?_) (some 10) rfl (Or.inl (Or.inl ⟨by rfl,?_⟩)) ?_
     rotate_left
     ·intro w' hSw
      (try dsimp only at hSw)
      have hs0:=(hSw.cell (p:=⟨g,off,none⟩) hg).trans a0
      go_simp<;>with_reducible rfl
     try simp only [Act.put,sA,sB,sC]
     refine tD (i:=1) (v:=?_) (some 11) rfl (Or.inl (Or.inl ⟨by rfl,?_⟩)) ?_
     rotate_left
     ·intro w' hSw
      (try dsimp only at hSw)
      have hs0:=(hSw.cell (p:=⟨g,off,none⟩) hg).trans a0
      go_simp<;>with_reducible rfl
     try simp only [Act.put,sA,sB,sC]
     refine tD (i:=2) (v:=?_) (some 12) rfl (Or.inl (Or.inl ⟨by rfl,?_⟩)) ?_
     rotate_left
     ·intro w' hSw
      (try dsimp only at hSw)
      have hs0:=(hSw.cell (p:=⟨g,off,none⟩) hg).trans a0
      go_simp<;>with_reducible rfl
     try simp only [Act.put,sA,sB,sC]
     refine tD (i:=3) (v:=?_) (some 13) rfl (Or.inl (Or.inl ⟨by rfl,?_⟩)) ?_
     rotate_left
     ·intro w' hSw
      (try dsimp only at hSw)
      have hs0:=(hSw.cell (p:=⟨g,off,none⟩) hg).trans a0
      go_simp<;>with_reducible rfl
     try simp only [Act.put,sA,sB,sC]
     refine tD (i:=4) (v:=(.bool false)) (some 14) rfl (Or.inr ⟨by rfl, 118,#[.int .i64 t],?_,?_⟩) ?_
     ·intro w' hSw
      (try dsimp only at hSw)
      first | rfl | (go_simp;done) | (go_simp;with_reducible rfl)
     ·intro w' hSw
      exact (HV.out w').mono fun e u ⟨he,hb⟩=>⟨he,hSw.trans (hb.mono hSw.size)⟩
     try simp only [Act.put,sA,sB,sC]
     refine tD (i:=5) (v:=?_) (some 15) rfl (Or.inl (Or.inl ⟨by rfl,?_⟩)) ?_
     rotate_left
     ·intro w' hSw
      (try dsimp only at hSw)
      have hs0:=(hSw.cell (p:=⟨g,off,none⟩) hg).trans a0
      go_simp<;>with_reducible rfl
     try simp only [Act.put,sA,sB,sC]
     refine tD (i:=6) (v:=?_) (some 16) rfl (Or.inl (Or.inl ⟨by rfl,?_⟩)) ?_
     rotate_left
     ·intro w' hSw
      (try dsimp only at hSw)
      have hs0:=(hSw.cell (p:=⟨g,off,none⟩) hg).trans a0
      go_simp<;>with_reducible rfl
     try simp only [Act.put,sA,sB,sC]
     refine tD (i:=7) (v:=undef) (some 17) rfl (Or.inl (Or.inr ⟨by rfl,rfl⟩)) ?_
     try simp only [Act.put,sA,sB,sC]
     refine tD (i:=8) (v:=undef) (some 18) rfl (Or.inl (Or.inr ⟨by rfl,rfl⟩)) ?_
     try simp only [Act.put,sA,sB,sC]
     refine tD (i:=9) (v:=undef) (some 19) rfl (Or.inl (Or.inr ⟨by rfl,rfl⟩)) ?_
     try simp only [Act.put,sA,sB,sC]
     refine tD (i:=10) (v:=undef) (some 20) rfl (Or.inl (Or.inr ⟨by rfl,rfl⟩)) ?_
     try simp only [Act.put,sA,sB,sC]
     refine tD (i:=11) (v:=undef) (some 21) rfl (Or.inl (Or.inr ⟨by rfl,rfl⟩)) ?_
     try simp only [Act.put,sA,sB,sC]
     refine tD (i:=12) (v:=undef) (some 22) rfl (Or.inl (Or.inr ⟨by rfl,rfl⟩)) ?_
     try simp only [Act.put,sA,sB,sC]
     refine tD (i:=13) (v:=undef) (some 23) rfl (Or.inl (Or.inr ⟨by rfl,rfl⟩)) ?_
     try simp only [Act.put,sA,sB,sC]
     refine tD (i:=14) (v:=undef) (some 24) rfl (Or.inl (Or.inr ⟨by rfl,rfl⟩)) ?_
     try simp only [Act.put,sA,sB,sC]
     refine tD (i:=15) (v:=undef) (some 25) rfl (Or.inl (Or.inr ⟨by rfl,rfl⟩)) ?_
     try simp only [Act.put,sA,sB,sC]
     refine tD (i:=16) (v:=undef) (some 26) rfl (Or.inl (Or.inr ⟨by rfl,rfl⟩)) ?_
     try simp only [Act.put,sA,sB,sC]
     refine tD (i:=17) (v:=undef) (some 27) rfl (Or.inl (Or.inr ⟨by rfl,rfl⟩)) ?_
     try simp only [Act.put,sA,sB,sC]
     refine tD (i:=18) (v:=undef) (some 28) rfl (Or.inl (Or.inr ⟨by rfl,rfl⟩)) ?_
     try simp only [Act.put,sA,sB,sC]
     refine tD (i:=19) (v:=undef) (some 29) rfl (Or.inl (Or.inr ⟨by rfl,rfl⟩)) ?_
     try simp only [Act.put,sA,sB,sC]
     refine tD (i:=20) (v:=undef) (some 30) rfl (Or.inl (Or.inr ⟨by rfl,rfl⟩)) ?_
     try simp only [Act.put,sA,sB,sC]
     refine tD (i:=21) (v:=?_) (some 31) rfl (Or.inl (Or.inl ⟨by rfl,?_⟩)) ?_
     rotate_left
     ·intro w' hSw
      (try dsimp only at hSw)
      have hs0:=(hSw.cell (p:=⟨g,off,none⟩) hg).trans a0
      go_simp<;>with_reducible rfl
     try simp only [Act.put,sA,sB,sC]
     refine wpAnyD_done (by kernel_rfl) (fun w' hSw=>?_) _
     go_wp2
     go_ret
     exact ⟨by rw [e1.out];all_goals rfl,HB.out.trans (hSw.mono HB.out.size)⟩
   ·have hj:j < l.length:=by omega
    have a1:=hc j hj
    have hjw:IntKind.i64.wrap ((j:Int)+1 - 1)=(j:Int):=by rw [wrapEq];unfold wrap64;omega
    have hjw2:IntKind.i64.wrap (j:Int)=(j:Int):=by rw [wrapEq];unfold wrap64;omega
    have hj1:(0:Int)≤(j:Int):=by omega
    have hj2:(j:Int) < (l.length:Int):=by omega
    have hj3:(0:Int)≤(j:Int)+1:=by omega
    have hj4:(j:Int)+1 < (l.length:Int):=by omega
    have d0:decide ((0:Int) < (j:Int)+1)=true:=decide_eq_true (by omega)
    have d1:((0:Int) < (j:Int)+1)=True:=eq_true (by omega)
    have HN2:=hid (fun (h : ¬ ((0≤l[j+1]∧l[j+1]≤7)∧l[j] < l[j+1]))=>HN.out (fun hh=>h ⟨hh.1,hh.2 (by omega)⟩))
    have HS2:=hid (fun (h:(0≤l[j+1]∧l[j+1]≤7)∧l[j] < l[j+1])=>HS.out ⟨h.1,fun _=>h.2⟩)
    have HV:=hid (fun W=>rturn_any l[j+1] W)
    clear HN HS hc
    generalize l[j+1]=t at *
    generalize l[j]=u at *
    by_cases c1:0≤t∧t≤7
    ·rw [decide_eq_true c1] at HV
     by_cases c2:t≤u
     ·have e1:=hid (HN2.out (by omega))
      clear HN2 HS2 c1 hlt
      go_upto_region 4 with fail
      refine wp_region_det (fun w'=>Below wr.heap.size wr w') (by kernel_rfl) (below_drewN (Below.refl _ _) 1) ?_
      refine tD (i:=0) (v:=?_) (some 10) rfl (Or.inl (Or.inl ⟨by rfl,?_⟩)) ?_
      rotate_left
      ·intro w' hSw
       (try dsimp only at hSw)
       have hs0:=(hSw.cell (p:=⟨g,off+(j+1),none⟩) hg).trans a0;have hs1:=(hSw.cell (p:=⟨g,off+j,none⟩) hg).trans a1
       go_simp<;>with_reducible rfl
      try simp only [Act.put,sA,sB,sC]
      refine tD (i:=1) (v:=?_) (some 11) rfl (Or.inl (Or.inl ⟨by rfl,?_⟩)) ?_
      rotate_left
      ·intro w' hSw
       (try dsimp only at hSw)
       have hs0:=(hSw.cell (p:=⟨g,off+(j+1),none⟩) hg).trans a0;have hs1:=(hSw.cell (p:=⟨g,off+j,none⟩) hg).trans a1
       go_simp<;>with_reducible rfl
      try simp only [Act.put,sA,sB,sC]
      refine tD (i:=2) (v:=?_) (some 12) rfl (Or.inl (Or.inl ⟨by rfl,?_⟩)) ?_
      rotate_left
      ·intro w' hSw
       (try dsimp only at hSw)
       have hs0:=(hSw.cell (p:=⟨g,off+(j+1),none⟩) hg).trans a0;have hs1:=(hSw.cell (p:=⟨g,off+j,none⟩) hg).trans a1
       go_simp<;>with_reducible rfl
      try simp only [Act.put,sA,sB,sC]
      refine tD (i:=3) (v:=?_) (some 13) rfl (Or.inl (Or.inl ⟨by rfl,?_⟩)) ?_
      rotate_left
      ·intro w' hSw
       (try dsimp only at hSw)
       have hs0:=(hSw.cell (p:=⟨g,off+(j+1),none⟩) hg).trans a0;have hs1:=(hSw.cell (p:=⟨g,off+j,none⟩) hg).trans a1
       go_simp<;>with_reducible rfl
      try simp only [Act.put,sA,sB,sC]
      refine tD (i:=4) (v:=(.bool true)) (some 14) rfl (Or.inr ⟨by rfl, 118,#[.int .i64 t],?_,?_⟩) ?_
      ·intro w' hSw
       (try dsimp only at hSw)
       first | rfl | (go_simp;done) | (go_simp;with_reducible rfl)
      ·intro w' hSw
       exact (HV.out w').mono fun e u ⟨he,hb⟩=>⟨he,hSw.trans (hb.mono hSw.size)⟩
      try simp only [Act.put,sA,sB,sC]
      refine tD (i:=5) (v:=?_) (some 15) rfl (Or.inl (Or.inl ⟨by rfl,?_⟩)) ?_
      rotate_left
      ·intro w' hSw
       (try dsimp only at hSw)
       have hs0:=(hSw.cell (p:=⟨g,off+(j+1),none⟩) hg).trans a0;have hs1:=(hSw.cell (p:=⟨g,off+j,none⟩) hg).trans a1
       go_simp<;>with_reducible rfl
      try simp only [Act.put,sA,sB,sC]
      refine tD (i:=6) (v:=?_) (some 16) rfl (Or.inl (Or.inl ⟨by rfl,?_⟩)) ?_
      rotate_left
      ·intro w' hSw
       (try dsimp only at hSw)
       have hs0:=(hSw.cell (p:=⟨g,off+(j+1),none⟩) hg).trans a0;have hs1:=(hSw.cell (p:=⟨g,off+j,none⟩) hg).trans a1
       go_simp<;>with_reducible rfl
      try simp only [Act.put,sA,sB,sC]
      refine tD (i:=7) (v:=?_) (some 17) rfl (Or.inl (Or.inl ⟨by rfl,?_⟩)) ?_
      rotate_left
      ·intro w' hSw
       (try dsimp only at hSw)
       have hs0:=(hSw.cell (p:=⟨g,off+(j+1),none⟩) hg).trans a0;have hs1:=(hSw.cell (p:=⟨g,off+j,none⟩) hg).trans a1
       go_simp<;>with_reducible rfl
      try simp only [Act.put,sA,sB,sC]
      refine tD (i:=8) (v:=?_) (some 18) rfl (Or.inl (Or.inl ⟨by rfl,?_⟩)) ?_
      rotate_left
      ·intro w' hSw
       (try dsimp only at hSw)
       have hs0:=(hSw.cell (p:=⟨g,off+(j+1),none⟩) hg).trans a0;have hs1:=(hSw.cell (p:=⟨g,off+j,none⟩) hg).trans a1
       go_simp<;>with_reducible rfl
      try simp only [Act.put,sA,sB,sC]
      refine tD (i:=9) (v:=?_) (some 19) rfl (Or.inl (Or.inl ⟨by rfl,?_⟩)) ?_
      rotate_left
      ·intro w' hSw
       (try dsimp only at hSw)
       have hs0:=(hSw.cell (p:=⟨g,off+(j+1),none⟩) hg).trans a0;have hs1:=(hSw.cell (p:=⟨g,off+j,none⟩) hg).trans a1
       go_simp<;>with_reducible rfl
      try simp only [Act.put,sA,sB,sC]
      refine tD (i:=10) (v:=?_) (some 20) rfl (Or.inl (Or.inl ⟨by rfl,?_⟩)) ?_
      rotate_left
      ·intro w' hSw
       (try dsimp only at hSw)
       have hs0:=(hSw.cell (p:=⟨g,off+(j+1),none⟩) hg).trans a0;have hs1:=(hSw.cell (p:=⟨g,off+j,none⟩) hg).trans a1
       go_simp<;>with_reducible rfl
      try simp only [Act.put,sA,sB,sC]
      refine tD (i:=11) (v:=?_) (some 21) rfl (Or.inl (Or.inl ⟨by rfl,?_⟩)) ?_
      rotate_left
      ·intro w' hSw
       (try dsimp only at hSw)
       have hs0:=(hSw.cell (p:=⟨g,off+(j+1),none⟩) hg).trans a0;have hs1:=(hSw.cell (p:=⟨g,off+j,none⟩) hg).trans a1
       go_simp<;>with_reducible rfl
      try simp only [Act.put,sA,sB,sC]
      refine tD (i:=12) (v:=?_) (some 22) rfl (Or.inl (Or.inl ⟨by rfl,?_⟩)) ?_
      rotate_left
      ·intro w' hSw
       (try dsimp only at hSw)
       have hs0:=(hSw.cell (p:=⟨g,off+(j+1),none⟩) hg).trans a0;have hs1:=(hSw.cell (p:=⟨g,off+j,none⟩) hg).trans a1
       go_simp<;>with_reducible rfl
      try simp only [Act.put,sA,sB,sC]
      refine tD (i:=13) (v:=?_) (some 23) rfl (Or.inl (Or.inl ⟨by rfl,?_⟩)) ?_
      rotate_left
      ·intro w' hSw
       (try dsimp only at hSw)
       have hs0:=(hSw.cell (p:=⟨g,off+(j+1),none⟩) hg).trans a0;have hs1:=(hSw.cell (p:=⟨g,off+j,none⟩) hg).trans a1
       go_simp<;>with_reducible rfl
      try simp only [Act.put,sA,sB,sC]
      refine tD (i:=14) (v:=?_) (some 24) rfl (Or.inl (Or.inl ⟨by rfl,?_⟩)) ?_
      rotate_left
      ·intro w' hSw
       (try dsimp only at hSw)
       have hs0:=(hSw.cell (p:=⟨g,off+(j+1),none⟩) hg).trans a0;have hs1:=(hSw.cell (p:=⟨g,off+j,none⟩) hg).trans a1
       go_simp<;>with_reducible rfl
      try simp only [Act.put,sA,sB,sC]
      refine tD (i:=15) (v:=?_) (some 25) rfl (Or.inl (Or.inl ⟨by rfl,?_⟩)) ?_
      rotate_left
      ·intro w' hSw
       (try dsimp only at hSw)
       have hs0:=(hSw.cell (p:=⟨g,off+(j+1),none⟩) hg).trans a0;have hs1:=(hSw.cell (p:=⟨g,off+j,none⟩) hg).trans a1
       go_simp<;>with_reducible rfl
      try simp only [Act.put,sA,sB,sC]
      refine tD (i:=16) (v:=?_) (some 26) rfl (Or.inl (Or.inl ⟨by rfl,?_⟩)) ?_
      rotate_left
      ·intro w' hSw
       (try dsimp only at hSw)
       have hs0:=(hSw.cell (p:=⟨g,off+(j+1),none⟩) hg).trans a0;have hs1:=(hSw.cell (p:=⟨g,off+j,none⟩) hg).trans a1
       go_simp<;>with_reducible rfl
      try simp only [Act.put,sA,sB,sC]
      refine tD (i:=17) (v:=?_) (some 27) rfl (Or.inl (Or.inl ⟨by rfl,?_⟩)) ?_
      rotate_left
      ·intro w' hSw
       (try dsimp only at hSw)
       have hs0:=(hSw.cell (p:=⟨g,off+(j+1),none⟩) hg).trans a0;have hs1:=(hSw.cell (p:=⟨g,off+j,none⟩) hg).trans a1
       go_simp<;>with_reducible rfl
      try simp only [Act.put,sA,sB,sC]
      refine tD (i:=18) (v:=?_) (some 28) rfl (Or.inl (Or.inl ⟨by rfl,?_⟩)) ?_
      rotate_left
      ·intro w' hSw
       (try dsimp only at hSw)
       have hs0:=(hSw.cell (p:=⟨g,off+(j+1),none⟩) hg).trans a0;have hs1:=(hSw.cell (p:=⟨g,off+j,none⟩) hg).trans a1
       go_simp<;>with_reducible rfl
      try simp only [Act.put,sA,sB,sC]
      refine tD (i:=19) (v:=?_) (some 29) rfl (Or.inl (Or.inl ⟨by rfl,?_⟩)) ?_
      rotate_left
      ·intro w' hSw
       (try dsimp only at hSw)
       have hs0:=(hSw.cell (p:=⟨g,off+(j+1),none⟩) hg).trans a0;have hs1:=(hSw.cell (p:=⟨g,off+j,none⟩) hg).trans a1
       go_simp<;>with_reducible rfl
      try simp only [Act.put,sA,sB,sC]
      refine tD (i:=20) (v:=?_) (some 30) rfl (Or.inl (Or.inl ⟨by rfl,?_⟩)) ?_
      rotate_left
      ·intro w' hSw
       (try dsimp only at hSw)
       have hs0:=(hSw.cell (p:=⟨g,off+(j+1),none⟩) hg).trans a0;have hs1:=(hSw.cell (p:=⟨g,off+j,none⟩) hg).trans a1
       go_simp<;>with_reducible rfl
      try simp only [Act.put,sA,sB,sC]
      refine tD (i:=21) (v:=?_) (some 31) rfl (Or.inl (Or.inl ⟨by rfl,?_⟩)) ?_
      rotate_left
      ·intro w' hSw
       (try dsimp only at hSw)
       have hs0:=(hSw.cell (p:=⟨g,off+(j+1),none⟩) hg).trans a0;have hs1:=(hSw.cell (p:=⟨g,off+j,none⟩) hg).trans a1
       go_simp<;>with_reducible rfl
      try simp only [Act.put,sA,sB,sC]
      refine wpAnyD_done (by kernel_rfl) (fun w' hSw=>?_) _
      go_wp2
      go_ret
      exact ⟨by rw [e1.out];all_goals rfl,HB.out.trans (hSw.mono HB.out.size)⟩
     ·have HS3:=hid (HS2.out (by omega))
      clear HN2 HS2 c1 hlt
      go_upto_region 4 with fail
      refine wp_region_det (fun w'=>Below wr.heap.size wr w') (by kernel_rfl) (below_drewN (Below.refl _ _) 1) ?_
      refine tD (i:=0) (v:=?_) (some 10) rfl (Or.inl (Or.inl ⟨by rfl,?_⟩)) ?_
      rotate_left
      ·intro w' hSw
       (try dsimp only at hSw)
       have hs0:=(hSw.cell (p:=⟨g,off+(j+1),none⟩) hg).trans a0;have hs1:=(hSw.cell (p:=⟨g,off+j,none⟩) hg).trans a1
       go_simp<;>with_reducible rfl
      try simp only [Act.put,sA,sB,sC]
      refine tD (i:=1) (v:=?_) (some 11) rfl (Or.inl (Or.inl ⟨by rfl,?_⟩)) ?_
      rotate_left
      ·intro w' hSw
       (try dsimp only at hSw)
       have hs0:=(hSw.cell (p:=⟨g,off+(j+1),none⟩) hg).trans a0;have hs1:=(hSw.cell (p:=⟨g,off+j,none⟩) hg).trans a1
       go_simp<;>with_reducible rfl
      try simp only [Act.put,sA,sB,sC]
      refine tD (i:=2) (v:=?_) (some 12) rfl (Or.inl (Or.inl ⟨by rfl,?_⟩)) ?_
      rotate_left
      ·intro w' hSw
       (try dsimp only at hSw)
       have hs0:=(hSw.cell (p:=⟨g,off+(j+1),none⟩) hg).trans a0;have hs1:=(hSw.cell (p:=⟨g,off+j,none⟩) hg).trans a1
       go_simp<;>with_reducible rfl
      try simp only [Act.put,sA,sB,sC]
      refine tD (i:=3) (v:=?_) (some 13) rfl (Or.inl (Or.inl ⟨by rfl,?_⟩)) ?_
      rotate_left
      ·intro w' hSw
       (try dsimp only at hSw)
       have hs0:=(hSw.cell (p:=⟨g,off+(j+1),none⟩) hg).trans a0;have hs1:=(hSw.cell (p:=⟨g,off+j,none⟩) hg).trans a1
       go_simp<;>with_reducible rfl
      try simp only [Act.put,sA,sB,sC]
      refine tD (i:=4) (v:=(.bool true)) (some 14) rfl (Or.inr ⟨by rfl, 118,#[.int .i64 t],?_,?_⟩) ?_
      ·intro w' hSw
       (try dsimp only at hSw)
       first | rfl | (go_simp;done) | (go_simp;with_reducible rfl)
      ·intro w' hSw
       exact (HV.out w').mono fun e u ⟨he,hb⟩=>⟨he,hSw.trans (hb.mono hSw.size)⟩
      try simp only [Act.put,sA,sB,sC]
      refine tD (i:=5) (v:=?_) (some 15) rfl (Or.inl (Or.inl ⟨by rfl,?_⟩)) ?_
      rotate_left
      ·intro w' hSw
       (try dsimp only at hSw)
       have hs0:=(hSw.cell (p:=⟨g,off+(j+1),none⟩) hg).trans a0;have hs1:=(hSw.cell (p:=⟨g,off+j,none⟩) hg).trans a1
       go_simp<;>with_reducible rfl
      try simp only [Act.put,sA,sB,sC]
      refine tD (i:=6) (v:=?_) (some 16) rfl (Or.inl (Or.inl ⟨by rfl,?_⟩)) ?_
      rotate_left
      ·intro w' hSw
       (try dsimp only at hSw)
       have hs0:=(hSw.cell (p:=⟨g,off+(j+1),none⟩) hg).trans a0;have hs1:=(hSw.cell (p:=⟨g,off+j,none⟩) hg).trans a1
       go_simp<;>with_reducible rfl
      try simp only [Act.put,sA,sB,sC]
      refine tD (i:=7) (v:=?_) (some 17) rfl (Or.inl (Or.inl ⟨by rfl,?_⟩)) ?_
      rotate_left
      ·intro w' hSw
       (try dsimp only at hSw)
       have hs0:=(hSw.cell (p:=⟨g,off+(j+1),none⟩) hg).trans a0;have hs1:=(hSw.cell (p:=⟨g,off+j,none⟩) hg).trans a1
       go_simp<;>with_reducible rfl
      try simp only [Act.put,sA,sB,sC]
      refine tD (i:=8) (v:=?_) (some 18) rfl (Or.inl (Or.inl ⟨by rfl,?_⟩)) ?_
      rotate_left
      ·intro w' hSw
       (try dsimp only at hSw)
       have hs0:=(hSw.cell (p:=⟨g,off+(j+1),none⟩) hg).trans a0;have hs1:=(hSw.cell (p:=⟨g,off+j,none⟩) hg).trans a1
       go_simp<;>with_reducible rfl
      try simp only [Act.put,sA,sB,sC]
      refine tD (i:=9) (v:=?_) (some 19) rfl (Or.inl (Or.inl ⟨by rfl,?_⟩)) ?_
      rotate_left
      ·intro w' hSw
       (try dsimp only at hSw)
       have hs0:=(hSw.cell (p:=⟨g,off+(j+1),none⟩) hg).trans a0;have hs1:=(hSw.cell (p:=⟨g,off+j,none⟩) hg).trans a1
       go_simp<;>with_reducible rfl
      try simp only [Act.put,sA,sB,sC]
      refine tD (i:=10) (v:=?_) (some 20) rfl (Or.inl (Or.inl ⟨by rfl,?_⟩)) ?_
      rotate_left
      ·intro w' hSw
       (try dsimp only at hSw)
       have hs0:=(hSw.cell (p:=⟨g,off+(j+1),none⟩) hg).trans a0;have hs1:=(hSw.cell (p:=⟨g,off+j,none⟩) hg).trans a1
       go_simp<;>with_reducible rfl
      try simp only [Act.put,sA,sB,sC]
      refine tD (i:=11) (v:=?_) (some 21) rfl (Or.inl (Or.inl ⟨by rfl,?_⟩)) ?_
      rotate_left
      ·intro w' hSw
       (try dsimp only at hSw)
       have hs0:=(hSw.cell (p:=⟨g,off+(j+1),none⟩) hg).trans a0;have hs1:=(hSw.cell (p:=⟨g,off+j,none⟩) hg).trans a1
       go_simp<;>with_reducible rfl
      try simp only [Act.put,sA,sB,sC]
      refine tD (i:=12) (v:=?_) (some 22) rfl (Or.inl (Or.inl ⟨by rfl,?_⟩)) ?_
      rotate_left
      ·intro w' hSw
       (try dsimp only at hSw)
       have hs0:=(hSw.cell (p:=⟨g,off+(j+1),none⟩) hg).trans a0;have hs1:=(hSw.cell (p:=⟨g,off+j,none⟩) hg).trans a1
       go_simp<;>with_reducible rfl
      try simp only [Act.put,sA,sB,sC]
      refine tD (i:=13) (v:=?_) (some 23) rfl (Or.inl (Or.inl ⟨by rfl,?_⟩)) ?_
      rotate_left
      ·intro w' hSw
       (try dsimp only at hSw)
       have hs0:=(hSw.cell (p:=⟨g,off+(j+1),none⟩) hg).trans a0;have hs1:=(hSw.cell (p:=⟨g,off+j,none⟩) hg).trans a1
       go_simp<;>with_reducible rfl
      try simp only [Act.put,sA,sB,sC]
      refine tD (i:=14) (v:=?_) (some 24) rfl (Or.inl (Or.inl ⟨by rfl,?_⟩)) ?_
      rotate_left
      ·intro w' hSw
       (try dsimp only at hSw)
       have hs0:=(hSw.cell (p:=⟨g,off+(j+1),none⟩) hg).trans a0;have hs1:=(hSw.cell (p:=⟨g,off+j,none⟩) hg).trans a1
       go_simp<;>with_reducible rfl
      try simp only [Act.put,sA,sB,sC]
      refine tD (i:=15) (v:=?_) (some 25) rfl (Or.inl (Or.inl ⟨by rfl,?_⟩)) ?_
      rotate_left
      ·intro w' hSw
       (try dsimp only at hSw)
       have hs0:=(hSw.cell (p:=⟨g,off+(j+1),none⟩) hg).trans a0;have hs1:=(hSw.cell (p:=⟨g,off+j,none⟩) hg).trans a1
       go_simp<;>with_reducible rfl
      try simp only [Act.put,sA,sB,sC]
      refine tD (i:=16) (v:=?_) (some 26) rfl (Or.inl (Or.inl ⟨by rfl,?_⟩)) ?_
      rotate_left
      ·intro w' hSw
       (try dsimp only at hSw)
       have hs0:=(hSw.cell (p:=⟨g,off+(j+1),none⟩) hg).trans a0;have hs1:=(hSw.cell (p:=⟨g,off+j,none⟩) hg).trans a1
       go_simp<;>with_reducible rfl
      try simp only [Act.put,sA,sB,sC]
      refine tD (i:=17) (v:=?_) (some 27) rfl (Or.inl (Or.inl ⟨by rfl,?_⟩)) ?_
      rotate_left
      ·intro w' hSw
       (try dsimp only at hSw)
       have hs0:=(hSw.cell (p:=⟨g,off+(j+1),none⟩) hg).trans a0;have hs1:=(hSw.cell (p:=⟨g,off+j,none⟩) hg).trans a1
       go_simp<;>with_reducible rfl
      try simp only [Act.put,sA,sB,sC]
      refine tD (i:=18) (v:=?_) (some 28) rfl (Or.inl (Or.inl ⟨by rfl,?_⟩)) ?_
      rotate_left
      ·intro w' hSw
       (try dsimp only at hSw)
       have hs0:=(hSw.cell (p:=⟨g,off+(j+1),none⟩) hg).trans a0;have hs1:=(hSw.cell (p:=⟨g,off+j,none⟩) hg).trans a1
       go_simp<;>with_reducible rfl
      try simp only [Act.put,sA,sB,sC]
      refine tD (i:=19) (v:=?_) (some 29) rfl (Or.inl (Or.inl ⟨by rfl,?_⟩)) ?_
      rotate_left
      ·intro w' hSw
       (try dsimp only at hSw)
       have hs0:=(hSw.cell (p:=⟨g,off+(j+1),none⟩) hg).trans a0;have hs1:=(hSw.cell (p:=⟨g,off+j,none⟩) hg).trans a1
       go_simp<;>with_reducible rfl
      try simp only [Act.put,sA,sB,sC]
      refine tD (i:=20) (v:=?_) (some 30) rfl (Or.inl (Or.inl ⟨by rfl,?_⟩)) ?_
      rotate_left
      ·intro w' hSw
       (try dsimp only at hSw)
       have hs0:=(hSw.cell (p:=⟨g,off+(j+1),none⟩) hg).trans a0;have hs1:=(hSw.cell (p:=⟨g,off+j,none⟩) hg).trans a1
       go_simp<;>with_reducible rfl
      try simp only [Act.put,sA,sB,sC]
      refine tD (i:=21) (v:=?_) (some 31) rfl (Or.inl (Or.inl ⟨by rfl,?_⟩)) ?_
      rotate_left
      ·intro w' hSw
       (try dsimp only at hSw)
       have hs0:=(hSw.cell (p:=⟨g,off+(j+1),none⟩) hg).trans a0;have hs1:=(hSw.cell (p:=⟨g,off+j,none⟩) hg).trans a1
       go_simp<;>with_reducible rfl
      try simp only [Act.put,sA,sB,sC]
      refine wpAnyD_done (by kernel_rfl) (fun w' hSw=>?_) _
      go_wp2
      go_roundw
      case rel=>exact ⟨j+1+1,by go_num,by have:=HLT.out;omega,HS3,hid (HB.out.trans (hSw.mono HB.out.size))⟩
      case measure=>simp [intOf];have:=HLT.out;omega
    ·rw [decide_eq_false c1] at HV
     have e1:=hid (HN2.out (by omega))
     clear HN2 HS2 c1 hlt
     go_upto_region 4 with fail
     refine wp_region_det (fun w'=>Below wr.heap.size wr w') (by kernel_rfl) (below_drewN (Below.refl _ _) 1) ?_
     refine tD (i:=0) (v:=?_) (some 10) rfl (Or.inl (Or.inl ⟨by rfl,?_⟩)) ?_
     rotate_left
     ·intro w' hSw
      (try dsimp only at hSw)
      have hs0:=(hSw.cell (p:=⟨g,off+(j+1),none⟩) hg).trans a0;have hs1:=(hSw.cell (p:=⟨g,off+j,none⟩) hg).trans a1
      go_simp<;>with_reducible rfl
     try simp only [Act.put,sA,sB,sC]
     refine tD (i:=1) (v:=?_) (some 11) rfl (Or.inl (Or.inl ⟨by rfl,?_⟩)) ?_
     rotate_left
     ·intro w' hSw
      (try dsimp only at hSw)
      have hs0:=(hSw.cell (p:=⟨g,off+(j+1),none⟩) hg).trans a0;have hs1:=(hSw.cell (p:=⟨g,off+j,none⟩) hg).trans a1
      go_simp<;>with_reducible rfl
     try simp only [Act.put,sA,sB,sC]
     refine tD (i:=2) (v:=?_) (some 12) rfl (Or.inl (Or.inl ⟨by rfl,?_⟩)) ?_
     rotate_left
     ·intro w' hSw
      (try dsimp only at hSw)
      have hs0:=(hSw.cell (p:=⟨g,off+(j+1),none⟩) hg).trans a0;have hs1:=(hSw.cell (p:=⟨g,off+j,none⟩) hg).trans a1
      go_simp<;>with_reducible rfl
     try simp only [Act.put,sA,sB,sC]
     refine tD (i:=3) (v:=?_) (some 13) rfl (Or.inl (Or.inl ⟨by rfl,?_⟩)) ?_
     rotate_left
     ·intro w' hSw
      (try dsimp only at hSw)
      have hs0:=(hSw.cell (p:=⟨g,off+(j+1),none⟩) hg).trans a0;have hs1:=(hSw.cell (p:=⟨g,off+j,none⟩) hg).trans a1
      go_simp<;>with_reducible rfl
     try simp only [Act.put,sA,sB,sC]
     refine tD (i:=4) (v:=(.bool false)) (some 14) rfl (Or.inr ⟨by rfl, 118,#[.int .i64 t],?_,?_⟩) ?_
     ·intro w' hSw
      (try dsimp only at hSw)
      first | rfl | (go_simp;done) | (go_simp;with_reducible rfl)
     ·intro w' hSw
      exact (HV.out w').mono fun e u ⟨he,hb⟩=>⟨he,hSw.trans (hb.mono hSw.size)⟩
     try simp only [Act.put,sA,sB,sC]
     refine tD (i:=5) (v:=?_) (some 15) rfl (Or.inl (Or.inl ⟨by rfl,?_⟩)) ?_
     rotate_left
     ·intro w' hSw
      (try dsimp only at hSw)
      have hs0:=(hSw.cell (p:=⟨g,off+(j+1),none⟩) hg).trans a0;have hs1:=(hSw.cell (p:=⟨g,off+j,none⟩) hg).trans a1
      go_simp<;>with_reducible rfl
     try simp only [Act.put,sA,sB,sC]
     refine tD (i:=6) (v:=?_) (some 16) rfl (Or.inl (Or.inl ⟨by rfl,?_⟩)) ?_
     rotate_left
     ·intro w' hSw
      (try dsimp only at hSw)
      have hs0:=(hSw.cell (p:=⟨g,off+(j+1),none⟩) hg).trans a0;have hs1:=(hSw.cell (p:=⟨g,off+j,none⟩) hg).trans a1
      go_simp<;>with_reducible rfl
     try simp only [Act.put,sA,sB,sC]
     refine tD (i:=7) (v:=undef) (some 17) rfl (Or.inl (Or.inr ⟨by rfl,rfl⟩)) ?_
     try simp only [Act.put,sA,sB,sC]
     refine tD (i:=8) (v:=undef) (some 18) rfl (Or.inl (Or.inr ⟨by rfl,rfl⟩)) ?_
     try simp only [Act.put,sA,sB,sC]
     refine tD (i:=9) (v:=undef) (some 19) rfl (Or.inl (Or.inr ⟨by rfl,rfl⟩)) ?_
     try simp only [Act.put,sA,sB,sC]
     refine tD (i:=10) (v:=undef) (some 20) rfl (Or.inl (Or.inr ⟨by rfl,rfl⟩)) ?_
     try simp only [Act.put,sA,sB,sC]
     refine tD (i:=11) (v:=undef) (some 21) rfl (Or.inl (Or.inr ⟨by rfl,rfl⟩)) ?_
     try simp only [Act.put,sA,sB,sC]
     refine tD (i:=12) (v:=undef) (some 22) rfl (Or.inl (Or.inr ⟨by rfl,rfl⟩)) ?_
     try simp only [Act.put,sA,sB,sC]
     refine tD (i:=13) (v:=undef) (some 23) rfl (Or.inl (Or.inr ⟨by rfl,rfl⟩)) ?_
     try simp only [Act.put,sA,sB,sC]
     refine tD (i:=14) (v:=undef) (some 24) rfl (Or.inl (Or.inr ⟨by rfl,rfl⟩)) ?_
     try simp only [Act.put,sA,sB,sC]
     refine tD (i:=15) (v:=undef) (some 25) rfl (Or.inl (Or.inr ⟨by rfl,rfl⟩)) ?_
     try simp only [Act.put,sA,sB,sC]
     refine tD (i:=16) (v:=undef) (some 26) rfl (Or.inl (Or.inr ⟨by rfl,rfl⟩)) ?_
     try simp only [Act.put,sA,sB,sC]
     refine tD (i:=17) (v:=undef) (some 27) rfl (Or.inl (Or.inr ⟨by rfl,rfl⟩)) ?_
     try simp only [Act.put,sA,sB,sC]
     refine tD (i:=18) (v:=undef) (some 28) rfl (Or.inl (Or.inr ⟨by rfl,rfl⟩)) ?_
     try simp only [Act.put,sA,sB,sC]
     refine tD (i:=19) (v:=undef) (some 29) rfl (Or.inl (Or.inr ⟨by rfl,rfl⟩)) ?_
     try simp only [Act.put,sA,sB,sC]
     refine tD (i:=20) (v:=undef) (some 30) rfl (Or.inl (Or.inr ⟨by rfl,rfl⟩)) ?_
     try simp only [Act.put,sA,sB,sC]
     refine tD (i:=21) (v:=?_) (some 31) rfl (Or.inl (Or.inl ⟨by rfl,?_⟩)) ?_
     rotate_left
     ·intro w' hSw
      (try dsimp only at hSw)
      have hs0:=(hSw.cell (p:=⟨g,off+(j+1),none⟩) hg).trans a0;have hs1:=(hSw.cell (p:=⟨g,off+j,none⟩) hg).trans a1
      go_simp<;>with_reducible rfl
     try simp only [Act.put,sA,sB,sC]
     refine wpAnyD_done (by kernel_rfl) (fun w' hSw=>?_) _
     go_wp2
     go_ret
     exact ⟨by rw [e1.out];all_goals rfl,HB.out.trans (hSw.mono HB.out.size)⟩
  ·obtain rfl:k=l.length:=by omega
   have e1:=hid (HYES.out (fun m h=>HG.out m h h))
   clear HNO HYES HG
   by_cases c1:1≤l.length
   ·rw [decide_eq_true c1] at e1
    have d1:((0:Int) < (l.length:Int))=True:=eq_true (by omega)
    have d2:(0 < l.length)=True:=eq_true (by omega)
    clear c1
    go_wp2
    go_ret
    exact ⟨by rw [e1.out];all_goals rfl,HB.out⟩
   ·rw [decide_eq_false c1] at e1
    have d1:((0:Int) < (l.length:Int))=False:=eq_false (by omega)
    have d2:(0 < l.length)=False:=eq_false (by omega)
    clear c1
    go_wp2
    go_ret
    exact ⟨by rw [e1.out];all_goals rfl,HB.out⟩
end Go.Proofs.YtnkkcknogkgdkaaGreatDoor.PaW

namespace Go.Proofs.YtnkkcknogkgdkaaGreatDoor.PaW
open Lib (hid)
open Go Go.RowKit Go.Proofs.YtnkkcknogkgdkaaGreatDoor.Mem Go.Proofs.YtnkkcknogkgdkaaGreatDoor.Pa
open Go.Proofs.YtnkkcknogkgdkaaGreatDoor.Ge (V)
open Go.Proofs.YtnkkcknogkgdkaaGreatDoor.Lex (Tok)
open Go.Proofs.YtnkkcknogkgdkaaGreatDoor.LexW (tokCells)
attribute [local go_sem ↓] Go.wp_at_zero Go.wp_at_succ

open Go.Proofs.YtnkkcknogkgdkaaGreatDoor.Ge (within)
open Go.Proofs.YtnkkcknogkgdkaaGreatDoor.PqW (writeString_k strCells_mk byteCells_app isBuilder_below b_new)
open Go.Proofs.YtnkkcknogkgdkaaGreatDoor.GeW (rwithin_any)
set_option maxRecDepth 100000 in
set_option maxHeartbeats 2000000 in
theorem rcircleOk_any (cx cy ra:Int) (st:List Step) (A:Option Addr) (d:Nat) (w:World) :
  Calls Tryz.prog 77 #[.agg #[.bool true,.int .i64 cx,.int .i64 cy,.int .i64 ra,.slice A st.length d]] w fun e w'=>e=.returned (.bool (outlineOk ⟨true,(cx,cy),ra,st⟩))∧Below w.heap.size w w':=by
 have HW:=hid (fun W=>rwithin_any cx cy 2000 W (by omega))
 have HO:=hid (heap_new w (.cells #[.bool true,.int .i64 cx,.int .i64 cy,.int .i64 ra,.slice A st.length d] 38))
 have HB:=hid (bel1 w (.cells #[.bool true,.int .i64 cx,.int .i64 cy,.int .i64 ra,.slice A st.length d] 38))
 have HKT:Hid (outlineOk ⟨true,(cx,cy),ra,st⟩=(within (cx,cy) 2000&&(decide (1≤ra)&&(decide (ra≤2000)&&decide (st.length=0))))):=hid rfl
 obtain ⟨KT,HK2⟩:∃ KT,Hid (outlineOk ⟨true,(cx,cy),ra,st⟩=KT):=⟨_,hid rfl⟩
 rw [HK2.out] at HKT ⊢
 clear HK2
 generalize within (cx,cy) 2000=q at *
 go_enter Tryz.func77,Tryz.ntmps77
 go_upto_region 1 with fail
 generalize w.alloc (.cells #[.bool true,.int .i64 cx,.int .i64 cy,.int .i64 ra,.slice A st.length d] 38)=W0 at *
 have o0:=cell_of HO.out 0 _ rfl
 have o1:=cell_of HO.out 1 _ rfl
 have o2:=cell_of HO.out 2 _ rfl
 have o3:=cell_of HO.out 3 _ rfl
 have o4:=cell_of HO.out 4 _ rfl
 by_cases c0:st.length=0
 case neg =>
  have HE:Hid (KT=false):=hid (by rw [HKT.out,decide_eq_false c0];simp)
  have f0:((st.length:Int) == 0)=false:=by rw [beq_eq_false_iff_ne];omega
  have f1:(st.length=0)=False:=eq_false c0
  clear c0 HKT
  go_wp2
  go_ret
  exact ⟨by rw [HE.out];all_goals rfl,HB.out⟩
 case pos =>
 have f0:((st.length:Int) == 0)=true:=by rw [beq_iff_eq];omega
 have HE:Hid (KT=(q&&(decide (1≤ra)&&decide (ra≤2000)))):=hid (by rw [HKT.out,decide_eq_true c0,Bool.and_true])
 clear HKT c0
 go_wp2_with fail
 refine (HW.out W0).mono ?_
 rintro e w1 ⟨rfl,hb⟩
 have HO1:=hid (p_below HO.out hb)
 have HB1:=hid (HB.out.trans (hb.mono HB.out.size))
 clear hb HW HO HB o0 o1 o2 o3 o4
 have o0:=cell_of HO1.out 0 _ rfl
 have o1:=cell_of HO1.out 1 _ rfl
 have o2:=cell_of HO1.out 2 _ rfl
 have o3:=cell_of HO1.out 3 _ rfl
 have o4:=cell_of HO1.out 4 _ rfl
 cases q
 ·go_wp2
  go_ret
  exact ⟨by rw [HE.out];all_goals rfl,HB1.out⟩
 by_cases c1:1≤ra
 case neg =>
  have f1:(1≤ra)=False:=eq_false c1
  have HF:Hid (KT=false):=hid (by rw [HE.out,decide_eq_false c1];rfl)
  clear c1 HE
  go_wp2
  go_ret
  exact ⟨by rw [HF.out];all_goals rfl,HB1.out⟩
 case pos =>
 have f1:(1≤ra)=True:=eq_true c1
 by_cases c2:ra≤2000
 ·have f2:(ra≤2000)=True:=eq_true c2
  have HF:Hid (KT=true):=hid (by rw [HE.out,decide_eq_true c1,decide_eq_true c2];rfl)
  clear c1 c2 HE
  go_wp2
  go_ret
  exact ⟨by rw [HF.out];all_goals rfl,HB1.out⟩
 ·have f2:(ra≤2000)=False:=eq_false c2
  have HF:Hid (KT=false):=hid (by rw [HE.out,decide_eq_true c1,decide_eq_false c2];rfl)
  clear c1 c2 HE
  go_wp2
  go_ret
  exact ⟨by rw [HF.out];all_goals rfl,HB1.out⟩
theorem stepsOk_split {st:List Step} (h1:1≤st.length):stepsOk st=(!(st[0]'(by omega)).arc&&st.all (stepOk false)):=by
 match st,h1 with
 | s::r,_ =>
  simp only [stepsOk,List.all_cons,List.getElem_cons_zero]
  unfold stepOk
  cases s.arc<;>simp
theorem all_false {α:Type} {p:α→Bool} {l:List α} (k:Nat) (h:k < l.length) (hp:p l[k]=false):l.all p=false:=by
 rw [List.all_eq_false]
 exact ⟨_,List.getElem_mem h,by simp [hp]⟩
theorem all_true {α:Type} {p:α→Bool} {l:List α} (h:∀ k (h:k < l.length),p l[k]=true):l.all p=true:=by
 rw [List.all_eq_true]
 intro x hx
 obtain ⟨k,hk,rfl⟩:=List.getElem_of_mem hx
 exact h k hk
set_option maxRecDepth 100000 in
set_option maxHeartbeats 4000000 in
theorem rpathOk_any {TS:TypeId} {base:Nat} (cx cy ra:Int) (st:List Step) (A:Option Addr) (d:Nat) (w:World) (hr:At TS base w A (st.flatMap stepCells)) (hl:st.length≤1000000) :
  Calls Tryz.prog 77 #[.agg #[.bool false,.int .i64 cx,.int .i64 cy,.int .i64 ra,.slice A st.length d]] w fun e w'=>e=.returned (.bool (outlineOk ⟨false,(cx,cy),ra,st⟩))∧Below w.heap.size w w':=by
 have HR:=hid hr.1
 have HO:=hid (heap_new w (.cells #[.bool false,.int .i64 cx,.int .i64 cy,.int .i64 ra,.slice A st.length d] 38))
 have HB:=hid (bel1 w (.cells #[.bool false,.int .i64 cx,.int .i64 cy,.int .i64 ra,.slice A st.length d] 38))
 have HKT:Hid (outlineOk ⟨false,(cx,cy),ra,st⟩=(stepsOk st&&(decide ((cx,cy)=((0:Int),(0:Int)))&&(decide (ra=0)&&(decide (1≤st.length)&&decide (st.length≤40)))))):=hid rfl
 obtain ⟨KT,HK2⟩:∃ KT,Hid (outlineOk ⟨false,(cx,cy),ra,st⟩=KT):=⟨_,hid rfl⟩
 rw [HK2.out] at HKT ⊢
 clear HK2 hr
 have hnc:=fun W=>neq_vec cx cy 0 0 W
 go_enter Tryz.func77,Tryz.ntmps77
 go_upto_region 1 with fail
 generalize w.alloc (.cells #[.bool false,.int .i64 cx,.int .i64 cy,.int .i64 ra,.slice A st.length d] 38)=W0 at *
 have o0:=cell_of HO.out 0 _ rfl
 have o1:=cell_of HO.out 1 _ rfl
 have o2:=cell_of HO.out 2 _ rfl
 have o3:=cell_of HO.out 3 _ rfl
 have o4:=cell_of HO.out 4 _ rfl
 by_cases c1:st.length < 1
 case pos =>
  have HE:Hid (KT=false):=hid (by rw [HKT.out,decide_eq_false (show ¬ 1≤st.length by omega)];simp)
  obtain rfl:st=[]:=List.length_eq_zero_iff.1 (by omega)
  clear c1 HKT hnc
  go_wp2
  go_ret
  exact ⟨by rw [HE.out];all_goals rfl,HB.out⟩
 case neg =>
 have f1:((st.length:Int) < 1)=False:=eq_false (by omega)
 have f1b:(st.length < 1)=False:=eq_false c1
 have f1c:(st.length=0)=False:=eq_false (by omega)
 have f1d:(st=[])=False:=eq_false (by rintro rfl;simp at c1)
 by_cases c2:40 < st.length
 case pos =>
  have f2:((40:Int) < (st.length:Int))=True:=eq_true (by omega)
  have HE:Hid (KT=false):=hid (by rw [HKT.out,decide_eq_false (show ¬ st.length≤40 by omega)];simp)
  clear c1 c2 HKT hnc
  go_wp2
  go_ret
  exact ⟨by rw [HE.out];all_goals rfl,HB.out⟩
 case neg =>
 have f2:((40:Int) < (st.length:Int))=False:=eq_false (by omega)
 obtain ⟨z,hz⟩:∃ z,decide ((cx,cy)=((0:Int),(0:Int)))=z:=⟨_,rfl⟩
 rw [hz] at HKT
 simp only [hz] at hnc
 clear hz
 cases z
 case false =>
  have HE:Hid (KT=false):=hid (by rw [HKT.out];simp)
  clear c1 c2 HKT
  go_wp2
  go_ret
  exact ⟨by rw [HE.out];all_goals rfl,HB.out⟩
 case true =>
 by_cases c3:ra=0
 case neg =>
  have f3:(ra != 0)=true:=bne_iff_ne.2 c3
  have HE:Hid (KT=false):=hid (by rw [HKT.out,decide_eq_false c3];simp)
  clear c1 c2 c3 HKT
  go_wp2
  go_ret
  exact ⟨by rw [HE.out];all_goals rfl,HB.out⟩
 case pos =>
 subst c3
 have f3:((0:Int) != 0)=false:=rfl
 obtain ⟨g0,off0,hA0,hg0,ca0⟩:=row_get step_len (by decide) (HR.out.below HB.out) (by omega)
 have b0:=ca0 0 (by omega) 0 (by decide)
 have HSP:Hid (KT=(!(st[0]'(by omega)).arc&&st.all (stepOk false))):=hid (by rw [HKT.out,stepsOk_split (by omega),decide_eq_true (show 1≤st.length by omega),decide_eq_true (show st.length≤40 by omega)];simp)
 have hi2:(0:Int) < (st.length:Int):=by omega
 have hi3:((st.length:Int)≤0)=False:=eq_false (by omega)
 have hmx:st.length≤40:=by omega
 clear ca0 HKT
 simp only [stepCells,List.getElem?_cons_zero,Nat.zero_mul,Nat.add_zero] at b0
 generalize (st[0]'(by omega)).arc=a0 at *
 rw [hA0]
 clear c1 c2
 cases a0
 case true =>
  have HE:Hid (KT=false):=hid (by rw [HSP.out];rfl)
  clear HSP
  subst hA0
  go_wp2
  go_ret
  exact ⟨by rw [HE.out];all_goals rfl,HB.out⟩
 case false =>
 have HNO:Hid (∀ k (h:k < st.length),stepOk false st[k]=false→KT=false):=hid (fun k h hn=>by rw [HSP.out,all_false k h hn];rfl)
 have HYES:Hid ((∀ k (h:k < st.length),stepOk false st[k]=true)→KT=true):=hid (fun h=>by rw [HSP.out,all_true h];rfl)
 clear HSP
 subst hA0
 go_wp2_with fail
 clear b0 o0 o1 o2 o3 o4
 go_loopw [3] (fun v wr=>∃ k:Nat,v=.int .i64 (k:Int)∧k≤st.length∧Hid (∀ m (h:m < st.length),m < k→stepOk false st[m]=true)∧Hid (Below W0.heap.size W0 wr)) (fun v _=>st.length - (intOf v).toNat)
 case atStart=>exact ⟨0,rfl,Nat.zero_le _,hid (fun m h h0=>absurd h0 (by omega)),hid (Below.refl _ _)⟩
 case round =>
  obtain ⟨k,rfl,hk,HG,HB0⟩:=hrel
  have HBW:=hid (HB.out.trans (HB0.out.mono HB.out.size))
  have HOR:=hid (p_below HO.out HB0.out)
  have o4:=cell_of HOR.out 4 _ rfl
  by_cases hlt:k < st.length
  ·obtain ⟨g,off,hAe,hg,ca⟩:=row_get step_len (by decide) (HR.out.below HBW.out) (by omega)
   cases hAe
   have a0:=ca k hlt 0 (by decide)
   have a1:=ca k hlt 1 (by decide)
   have a2:=ca k hlt 2 (by decide)
   have a3:=ca k hlt 3 (by decide)
   have a4:=ca k hlt 4 (by decide)
   have a5:=ca k hlt 5 (by decide)
   have HLT:=hid hlt
   have HN:=hid (HNO.out k hlt)
   have HS:Hid (stepOk false st[k]=true→∀ m (h:m < st.length),m < k+1→stepOk false st[m]=true):=hid (fun hgk m h hm=>by
    rcases Nat.lt_or_ge m k with h1 | h1
    ·exact HG.out m h h1
    ·obtain rfl:m=k:=by omega
     exact hgk)
   have hk1:(0:Int)≤(k:Int):=by omega
   have hk2:(k:Int) < (st.length:Int):=by omega
   clear ca HG HNO HYES
   generalize st[k]=s at *
   clear hlt
   obtain ⟨arc,⟨tx,ty⟩,⟨ux,uy⟩,cw⟩:=s
   simp only [stepCells,List.getElem?_cons_zero,List.getElem?_cons_succ,Nat.add_zero] at a0 a1 a2 a3 a4 a5
   have HW1:=hid (fun W=>rwithin_any tx ty 2000 W (by omega))
   have HW2:=hid (fun W=>rwithin_any ux uy 2000 W (by omega))
   have HSV:Hid (stepOk false ⟨arc,(tx,ty),(ux,uy),cw⟩=(within (tx,ty) 2000&&(within (ux,uy) 2000&&(arc || (decide ((ux,uy)=((0:Int),(0:Int))) && !cw))))):=hid (by unfold stepOk;simp only [Bool.false_and,Bool.not_false,Bool.and_true])
   generalize within (tx,ty) 2000=q1 at *
   generalize within (ux,uy) 2000=q2 at *
   have hnu:=fun W=>neq_vec ux uy 0 0 W
   obtain ⟨z,hz⟩:∃ z,decide ((ux,uy)=((0:Int),(0:Int)))=z:=⟨_,rfl⟩
   rw [hz] at HSV
   simp only [hz] at hnu
   clear hz
   have HSX:=hid (heap_new wr (.cells #[.bool arc,.int .i64 tx,.int .i64 ty,.int .i64 ux,.int .i64 uy,.bool cw] 140))
   have HB1k:=hid (bel1 wr (.cells #[.bool arc,.int .i64 tx,.int .i64 ty,.int .i64 ux,.int .i64 uy,.bool cw] 140))
   have HB1:=hid (HBW.out.trans (HB1k.out.mono HBW.out.size))
   go_upto_region 9 with fail
   clear a0 a1 a2 a3 a4 a5 o4
   generalize wr.alloc (.cells #[.bool arc,.int .i64 tx,.int .i64 ty,.int .i64 ux,.int .i64 uy,.bool cw] 140)=W1 at *
   have x0:=cell_of HSX.out 0 _ rfl
   have x1:=cell_of HSX.out 1 _ rfl
   have x2:=cell_of HSX.out 2 _ rfl
   have x3:=cell_of HSX.out 3 _ rfl
   have x4:=cell_of HSX.out 4 _ rfl
   have x5:=cell_of HSX.out 5 _ rfl
   go_wp2_with fail
   refine (HW1.out W1).mono ?_
   rintro e w2 ⟨rfl,hb⟩
   have HS2:=hid (p_below HSX.out hb)
   have HB2:=hid (HB1.out.trans (hb.mono HB1.out.size))
   have HB2k:=hid (hb)
   clear x0 x1 x2 x3 x4 x5 hb
   have x0:=cell_of HS2.out 0 _ rfl
   have x1:=cell_of HS2.out 1 _ rfl
   have x2:=cell_of HS2.out 2 _ rfl
   have x3:=cell_of HS2.out 3 _ rfl
   have x4:=cell_of HS2.out 4 _ rfl
   have x5:=cell_of HS2.out 5 _ rfl
   cases q1
   ·have e1:=hid (HN.out (by rw [HSV.out];simp))
    clear HN HS HSV
    go_wp2
    go_ret
    exact ⟨by rw [e1.out];all_goals rfl,HB2.out⟩
   go_wp2_with fail
   refine (HW2.out w2).mono ?_
   rintro e w3 ⟨rfl,hb⟩
   have HS3:=hid (p_below HS2.out hb)
   have HB3:=hid (HB2.out.trans (hb.mono HB2.out.size))
   have HB3k:Hid (Below W0.heap.size W0 w3):=hid (HB0.out.trans ((HB1k.out.trans ((HB2k.out.trans (hb.mono HB2k.out.size)).mono HB1k.out.size)).mono HB0.out.size))
   clear x0 x1 x2 x3 x4 x5 hb
   have x0:=cell_of HS3.out 0 _ rfl
   have x1:=cell_of HS3.out 1 _ rfl
   have x2:=cell_of HS3.out 2 _ rfl
   have x3:=cell_of HS3.out 3 _ rfl
   have x4:=cell_of HS3.out 4 _ rfl
   have x5:=cell_of HS3.out 5 _ rfl
   cases q2
   ·have e1:=hid (HN.out (by rw [HSV.out];simp))
    clear HN HS HSV
    go_wp2
    go_ret
    exact ⟨by rw [e1.out];all_goals rfl,HB3.out⟩
   cases arc
   ·cases z
    ·have e1:=hid (HN.out (by rw [HSV.out];simp))
     clear HN HS HSV
     go_wp2
     go_ret
     exact ⟨by rw [e1.out];all_goals rfl,HB3.out⟩
    cases cw
    ·have HSG:=hid (HS.out (by rw [HSV.out];simp))
     clear HN HS HSV
     go_wp2
     go_roundw
     case rel=>exact ⟨k+1,by go_num,by have:=HLT.out;omega,HSG,HB3k⟩
     case measure=>simp [intOf];have:=HLT.out;omega
    ·have e1:=hid (HN.out (by rw [HSV.out];simp))
     clear HN HS HSV
     go_wp2
     go_ret
     exact ⟨by rw [e1.out];all_goals rfl,HB3.out⟩
   ·have HSG:=hid (HS.out (by rw [HSV.out];simp))
    clear HN HS HSV
    go_wp2
    go_roundw
    case rel=>exact ⟨k+1,by go_num,by have:=HLT.out;omega,HSG,HB3k⟩
    case measure=>simp [intOf];have:=HLT.out;omega
  ·obtain rfl:k=st.length:=by omega
   have e1:=hid (HYES.out (fun m h=>HG.out m h h))
   clear HNO HYES HG hlt hk
   go_wp2
   go_ret
   exact ⟨by rw [e1.out];all_goals rfl,HBW.out⟩
theorem rvalidOutline_any {TS:TypeId} {base:Nat} (x:OutM) (w:World) (ho:OutIn TS base w x):Calls Tryz.prog 77 #[outV x.o x.A x.d] w fun e w'=>e=.returned (.bool (outlineOk x.o))∧Below w.heap.size w w':=by
 obtain ⟨⟨circ,⟨cx,cy⟩,ra,st⟩,A,d⟩:=x
 cases circ with
 | true=>exact rcircleOk_any cx cy ra st A d w
 | false=>exact rpathOk_any cx cy ra st A d w ho.1 ho.2.2
end Go.Proofs.YtnkkcknogkgdkaaGreatDoor.PaW

namespace Go.Proofs.YtnkkcknogkgdkaaGreatDoor.PaW
open Lib (hid)
open Go Go.RowKit Go.Proofs.YtnkkcknogkgdkaaGreatDoor.Mem Go.Proofs.YtnkkcknogkgdkaaGreatDoor.Pa
open Go.Proofs.YtnkkcknogkgdkaaGreatDoor.Ge (V)
open Go.Proofs.YtnkkcknogkgdkaaGreatDoor.Lex (Tok)
open Go.Proofs.YtnkkcknogkgdkaaGreatDoor.LexW (tokCells)
attribute [local go_sem ↓] Go.wp_at_zero Go.wp_at_succ

open Go.Proofs.YtnkkcknogkgdkaaGreatDoor.Ge (within)
open Go.Proofs.YtnkkcknogkgdkaaGreatDoor.PqW (writeString_k strCells_mk byteCells_app isBuilder_below b_new)
open Go.Proofs.YtnkkcknogkgdkaaGreatDoor.LexW (risName_any Returns)
theorem rname_of (nm:List UInt8) (h:nm.length≤1000000) (w:World):Calls Tryz.prog 58 #[.string ⟨nm.toArray⟩] w fun e w'=>e=.returned (.bool (Lex.isName nm))∧Below w.heap.size w w':=by
 have:=risName_any ⟨nm.toArray⟩ w (by rw [str_size];exact h)
 exact this.mono fun e w' hr=>⟨hr.1,by have:=hr.2;subst this;exact Below.refl _ _⟩
set_option maxRecDepth 100000 in
set_option maxHeartbeats 8000000 in
theorem rvalid_any {TT TO TS:TypeId} {base:Nat} (ms:List SrcM) (A:Option Addr) (c:Nat) (w:World) (h:SrcsIn TT TO TS base w A ms) (hl:ms.length≤1000000) (hn:∀ m∈ms,m.name.length≤1000000∧m.grade.length≤1000000) :
  Calls Tryz.prog 34 #[.slice A ms.length c] w fun e w'=>e=.returned (.bool (sourcesOk (ms.map SrcM.src)))∧Below w.heap.size w w':=by
 have HR:=hid h.1.1
 have HS:=hid h.2
 have HNM:=hid hn
 have HNO:Hid (∀ k (h:k < ms.length),sourceOk ms[k].src=false→sourcesOk (ms.map SrcM.src)=false):=hid (fun k h hn=>by
  unfold sourcesOk
  rw [all_false k (by rw [List.length_map];exact h) (by rw [List.getElem_map];exact hn)]
  rfl)
 have HYES:Hid ((∀ k (h:k < ms.length),sourceOk ms[k].src=true)→sourcesOk (ms.map SrcM.src)=decide (ms.length≤20)):=hid (fun h=>by
  unfold sourcesOk
  rw [all_true (fun k hk=>by rw [List.getElem_map];exact h k (by rwa [List.length_map] at hk)),Bool.true_and,List.length_map])
 obtain ⟨KT,HKT⟩:∃ KT,Hid (sourcesOk (ms.map SrcM.src)=KT):=⟨_,hid rfl⟩
 rw [HKT.out] at HNO HYES ⊢
 clear HKT h hn
 go_enter Tryz.func34,Tryz.ntmps34
 go_wp2_with fail
 go_loopw [3] (fun v wr=>∃ k:Nat,v=.int .i64 (k:Int)∧k≤ms.length∧Hid (∀ m (h:m < ms.length),m < k→sourceOk ms[m].src=true)∧Hid (Below w.heap.size w wr)) (fun v _=>ms.length - (intOf v).toNat)
 case atStart=>exact ⟨0,rfl,Nat.zero_le _,hid (fun m h h0=>absurd h0 (by omega)),hid (Below.refl _ _)⟩
 case round =>
  obtain ⟨k,rfl,hk,HG,HB⟩:=hrel
  by_cases hkl:k < ms.length
  ·obtain ⟨g,off,rfl,hg,ca⟩:=row_get src_len (by decide) (HR.out.below HB.out) (by omega)
   have a0:=ca k hkl 0 (by decide)
   have a1:=ca k hkl 1 (by decide)
   have a2:=ca k hkl 2 (by decide)
   have a3:=ca k hkl 3 (by decide)
   have a4:=ca k hkl 4 (by decide)
   have a5:=ca k hkl 5 (by decide)
   have a6:=ca k hkl 6 (by decide)
   have a7:=ca k hkl 7 (by decide)
   have a8:=ca k hkl 8 (by decide)
   have a9:=ca k hkl 9 (by decide)
   have a10:=ca k hkl 10 (by decide)
   have HIN:=hid ((HS.out ms[k] (List.getElem_mem hkl)).below HB.out)
   have HNK:=hid (HNM.out ms[k] (List.getElem_mem hkl))
   have HKL:=hid hkl
   have HN:=hid (HNO.out k hkl)
   have HSG:Hid (sourceOk ms[k].src=true→∀ m (h:m < ms.length),m < k+1→sourceOk ms[m].src=true):=hid (fun hgk m h hm=>by
    rcases Nat.lt_or_ge m k with h1 | h1
    ·exact HG.out m h h1
    ·obtain rfl:m=k:=by omega
     exact hgk)
   have hk1:(0:Int)≤(k:Int):=by omega
   have hk2:(k:Int) < (ms.length:Int):=by omega
   clear ca HG HNO HYES hk
   generalize ms[k]=m at *
   clear hkl
   simp only [srcCells,strV,List.getElem?_cons_zero,List.getElem?_cons_succ,Nat.add_zero] at a0 a1 a2 a3 a4 a5 a6 a7 a8 a9 a10
   have HSO:Hid (sourceOk m.src=((Lex.isName m.name&&(Lex.isName m.grade&&(decide (0≤m.grain)&&(decide (m.grain≤2)&&turnsOk m.turns))))&&(decide (1≤m.tol)&&(decide (m.tol≤50)&&(outlineOk m.outer.o&&(decide (m.holes.length≤6)&&(m.holes.map OutM.o).all outlineOk)))))):=hid (by
    show (_&&(_&&(_&&(_&&(decide ((m.holes.map OutM.o).length≤6)&&_)))))=_
    rw [List.length_map]
    rfl)
   have hbx:=bel1 wr (.cells #[.string ⟨m.name.toArray⟩,.string ⟨m.grade.toArray⟩,.int .i64 m.grain,.slice m.tA m.turns.length m.tc,.int .i64 m.tol,.bool m.outer.o.circle,.int .i64 m.outer.o.center.1,.int .i64 m.outer.o.center.2,.int .i64 m.outer.o.radius,.slice m.outer.A m.outer.o.steps.length m.outer.d,.slice m.hA m.holes.length m.hc] 41)
   have HX0:=hid (heap_new wr (.cells #[.string ⟨m.name.toArray⟩,.string ⟨m.grade.toArray⟩,.int .i64 m.grain,.slice m.tA m.turns.length m.tc,.int .i64 m.tol,.bool m.outer.o.circle,.int .i64 m.outer.o.center.1,.int .i64 m.outer.o.center.2,.int .i64 m.outer.o.radius,.slice m.outer.A m.outer.o.steps.length m.outer.d,.slice m.hA m.holes.length m.hc] 41))
   have HI0:=hid (HIN.out.below hbx)
   have HB0:=hid (HB.out.trans (hbx.mono HB.out.size))
   go_upto_region 5 with fail
   clear a0 a1 a2 a3 a4 a5 a6 a7 a8 a9 a10 hbx HB HIN
   generalize wr.alloc (.cells #[.string ⟨m.name.toArray⟩,.string ⟨m.grade.toArray⟩,.int .i64 m.grain,.slice m.tA m.turns.length m.tc,.int .i64 m.tol,.bool m.outer.o.circle,.int .i64 m.outer.o.center.1,.int .i64 m.outer.o.center.2,.int .i64 m.outer.o.radius,.slice m.outer.A m.outer.o.steps.length m.outer.d,.slice m.hA m.holes.length m.hc] 41)=W0 at *
   generalize wr.heap.size=xb at *
   have x0:=cell_of HX0.out 0 _ rfl
   have x1:=cell_of HX0.out 1 _ rfl
   have x2:=cell_of HX0.out 2 _ rfl
   have x3:=cell_of HX0.out 3 _ rfl
   have x4:=cell_of HX0.out 4 _ rfl
   have x5:=cell_of HX0.out 5 _ rfl
   have x6:=cell_of HX0.out 6 _ rfl
   have x7:=cell_of HX0.out 7 _ rfl
   have x8:=cell_of HX0.out 8 _ rfl
   have x9:=cell_of HX0.out 9 _ rfl
   have x10:=cell_of HX0.out 10 _ rfl
   have HI1:=HI0
   have HE1:=hid (rname_of m.name HNK.out.1 W0)
   go_wp2_with fail
   refine HE1.out.mono ?_
   rintro e w1 ⟨rfl,hb⟩
   have HB01:=hid ((Below.refl W0.heap.size W0).trans (hb.mono (Below.refl W0.heap.size W0).size))
   have HX1:=hid (p_below HX0.out hb)
   have HB1:=hid (HB0.out.trans (hb.mono HB0.out.size))
   clear x0 x1 x2 x3 x4 x5 x6 x7 x8 x9 x10 hb HE1 HX0 HB0
   have x0:=cell_of HX1.out 0 _ rfl
   have x1:=cell_of HX1.out 1 _ rfl
   have x2:=cell_of HX1.out 2 _ rfl
   have x3:=cell_of HX1.out 3 _ rfl
   have x4:=cell_of HX1.out 4 _ rfl
   have x5:=cell_of HX1.out 5 _ rfl
   have x6:=cell_of HX1.out 6 _ rfl
   have x7:=cell_of HX1.out 7 _ rfl
   have x8:=cell_of HX1.out 8 _ rfl
   have x9:=cell_of HX1.out 9 _ rfl
   have x10:=cell_of HX1.out 10 _ rfl
   generalize Lex.isName m.name=q1 at *
   cases q1
   ·have e1:=hid (HN.out (by rw [HSO.out];rfl))
    clear HSG HN
    go_wp2
    go_ret
    exact ⟨by rw [e1.out];all_goals rfl,HB1.out⟩
   have HE2:=hid (rname_of m.grade HNK.out.2 w1)
   go_wp2_with fail
   refine HE2.out.mono ?_
   rintro e w2 ⟨rfl,hb⟩
   have HB02:=hid (HB01.out.trans (hb.mono HB01.out.size))
   have HX2:=hid (p_below HX1.out hb)
   have HB2:=hid (HB1.out.trans (hb.mono HB1.out.size))
   clear x0 x1 x2 x3 x4 x5 x6 x7 x8 x9 x10 hb HE2 HX1 HB1
   have x0:=cell_of HX2.out 0 _ rfl
   have x1:=cell_of HX2.out 1 _ rfl
   have x2:=cell_of HX2.out 2 _ rfl
   have x3:=cell_of HX2.out 3 _ rfl
   have x4:=cell_of HX2.out 4 _ rfl
   have x5:=cell_of HX2.out 5 _ rfl
   have x6:=cell_of HX2.out 6 _ rfl
   have x7:=cell_of HX2.out 7 _ rfl
   have x8:=cell_of HX2.out 8 _ rfl
   have x9:=cell_of HX2.out 9 _ rfl
   have x10:=cell_of HX2.out 10 _ rfl
   generalize Lex.isName m.grade=q2 at *
   cases q2
   ·have e1:=hid (HN.out (by rw [HSO.out];rfl))
    clear HSG HN
    go_wp2
    go_ret
    exact ⟨by rw [e1.out];all_goals rfl,HB2.out⟩
   by_cases c1:0≤m.grain
   case neg =>
    have e1:=hid (HN.out (by rw [HSO.out,decide_eq_false c1];simp))
    have f1:(m.grain < 0)=True:=eq_true (by omega)
    clear c1
    clear HSG HN
    go_wp2
    go_ret
    exact ⟨by rw [e1.out];all_goals rfl,HB2.out⟩
   case pos =>
   have f1:(m.grain < 0)=False:=eq_false (by omega)
   by_cases c2:m.grain≤2
   case neg =>
    have e1:=hid (HN.out (by rw [HSO.out,decide_eq_false c2];simp))
    have f2:(2 < m.grain)=True:=eq_true (by omega)
    clear c2
    clear HSG HN
    go_wp2
    go_ret
    exact ⟨by rw [e1.out];all_goals rfl,HB2.out⟩
   case pos =>
   have f2:(2 < m.grain)=False:=eq_false (by omega)
   have HTR:=hid (show Row w2 m.tA (m.turns.map (Value.int .i64)) from HI1.out.1.1.below HB02.out)
   have HE3:=hid (rturns_any m.turns m.tA m.tc w2 HTR.out HI1.out.2.2.2.2.1)
   go_wp2_with fail
   refine HE3.out.mono ?_
   rintro e w3 ⟨rfl,hb⟩
   have HB03:=hid (HB02.out.trans (hb.mono HB02.out.size))
   have HX3:=hid (p_below HX2.out hb)
   have HB3:=hid (HB2.out.trans (hb.mono HB2.out.size))
   clear x0 x1 x2 x3 x4 x5 x6 x7 x8 x9 x10 hb HE3 HX2 HB2
   have x0:=cell_of HX3.out 0 _ rfl
   have x1:=cell_of HX3.out 1 _ rfl
   have x2:=cell_of HX3.out 2 _ rfl
   have x3:=cell_of HX3.out 3 _ rfl
   have x4:=cell_of HX3.out 4 _ rfl
   have x5:=cell_of HX3.out 5 _ rfl
   have x6:=cell_of HX3.out 6 _ rfl
   have x7:=cell_of HX3.out 7 _ rfl
   have x8:=cell_of HX3.out 8 _ rfl
   have x9:=cell_of HX3.out 9 _ rfl
   have x10:=cell_of HX3.out 10 _ rfl
   generalize turnsOk m.turns=q3 at *
   cases q3
   ·have e1:=hid (HN.out (by rw [HSO.out];simp))
    clear HTR
    clear HSG HN
    go_wp2
    go_ret
    exact ⟨by rw [e1.out];all_goals rfl,HB3.out⟩
   by_cases c3:1≤m.tol
   case neg =>
    have e1:=hid (HN.out (by rw [HSO.out,decide_eq_false c3];simp))
    have f3:(m.tol < 1)=True:=eq_true (by omega)
    clear c3
    clear HSG HN
    go_wp2
    go_ret
    exact ⟨by rw [e1.out];all_goals rfl,HB3.out⟩
   case pos =>
   have f3:(m.tol < 1)=False:=eq_false (by omega)
   by_cases c4:m.tol≤50
   case neg =>
    have e1:=hid (HN.out (by rw [HSO.out,decide_eq_false c4];simp))
    have f4:(50 < m.tol)=True:=eq_true (by omega)
    clear c4
    clear HSG HN
    go_wp2
    go_ret
    exact ⟨by rw [e1.out];all_goals rfl,HB3.out⟩
   case pos =>
   have f4:(50 < m.tol)=False:=eq_false (by omega)
   have HOI:=hid (HI1.out.2.1.below HB03.out)
   have HE4:=hid (rvalidOutline_any m.outer w3 HOI.out)
   unfold outV at HE4
   go_wp2_with fail
   refine HE4.out.mono ?_
   rintro e w4 ⟨rfl,hb⟩
   have HB04:=hid (HB03.out.trans (hb.mono HB03.out.size))
   have HX4:=hid (p_below HX3.out hb)
   have HB4:=hid (HB3.out.trans (hb.mono HB3.out.size))
   clear x0 x1 x2 x3 x4 x5 x6 x7 x8 x9 x10 hb HE4 HX3 HB3
   have x0:=cell_of HX4.out 0 _ rfl
   have x1:=cell_of HX4.out 1 _ rfl
   have x2:=cell_of HX4.out 2 _ rfl
   have x3:=cell_of HX4.out 3 _ rfl
   have x4:=cell_of HX4.out 4 _ rfl
   have x5:=cell_of HX4.out 5 _ rfl
   have x6:=cell_of HX4.out 6 _ rfl
   have x7:=cell_of HX4.out 7 _ rfl
   have x8:=cell_of HX4.out 8 _ rfl
   have x9:=cell_of HX4.out 9 _ rfl
   have x10:=cell_of HX4.out 10 _ rfl
   generalize outlineOk m.outer.o=q4 at *
   cases q4
   ·have e1:=hid (HN.out (by rw [HSO.out];simp))
    clear HSG HN
    go_wp2
    go_ret
    exact ⟨by rw [e1.out];all_goals rfl,HB4.out⟩
   by_cases c5:m.holes.length≤6
   case neg =>
    have e1:=hid (HN.out (by rw [HSO.out,decide_eq_false c5];simp))
    have f5:((6:Int) < (m.holes.length:Int))=True:=eq_true (by omega)
    clear c5
    clear HSG HN
    go_wp2
    go_ret
    exact ⟨by rw [e1.out];all_goals rfl,HB4.out⟩
   case pos =>
   have f5:((6:Int) < (m.holes.length:Int))=False:=eq_false (by omega)
   have HSE:Hid (sourceOk m.src=(m.holes.map OutM.o).all outlineOk):=hid (by rw [HSO.out,decide_eq_true c1,decide_eq_true c2,decide_eq_true c3,decide_eq_true c4,decide_eq_true c5];simp)
   have HNH:Hid (∀ q (h:q < m.holes.length),outlineOk m.holes[q].o=false→KT=false):=hid (fun q h hn=>HN.out (by rw [HSE.out];exact all_false q (by rw [List.length_map];exact h) (by rw [List.getElem_map];exact hn)))
   have HYH:Hid ((∀ q (h:q < m.holes.length),outlineOk m.holes[q].o=true)→sourceOk m.src=true):=hid (fun h=>by rw [HSE.out];exact all_true (fun q hq=>by rw [List.getElem_map];exact h q (by rwa [List.length_map] at hq)))
   have HHR:=hid (HI1.out.2.2.1.1.below HB04.out)
   have HHI:=hid (fun h hh=>(HI1.out.2.2.2.1 h hh).below HB04.out)
   have hmh:=c5
   clear c1 c2 c3 c4 c5 HSO HSE HN HI1 f1 f2 f3 f4 HTR HOI
   go_wp2_with fail
   clear x0 x1 x2 x3 x4 x5 x6 x7 x8 x9 x10 f5
   obtain ⟨wo,rfl⟩:∃ wo,wo=w4:=⟨_,rfl⟩
   go_loopw [5] (fun v wh=>∃ q:Nat,v=.int .i64 (q:Int)∧q≤m.holes.length∧Hid (∀ p (h:p < m.holes.length),p < q→outlineOk m.holes[p].o=true)∧Hid (Below wo.heap.size wo wh)) (fun v _=>m.holes.length - (intOf v).toNat)
   case atStart=>exact ⟨0,rfl,Nat.zero_le _,hid (fun p h h0=>absurd h0 (by omega)),hid (Below.refl _ _)⟩
   case round =>
    obtain ⟨q,rfl,hq,HGQ,HBQ⟩:=hrel
    have HXQ:=hid (p_below HX4.out HBQ.out)
    have x10:=cell_of HXQ.out 10 (.slice m.hA m.holes.length m.hc) rfl
    have HBT:=hid (HB4.out.trans (HBQ.out.mono HB4.out.size))
    by_cases hql:q < m.holes.length
    ·obtain ⟨tg,toff,hta,htg,ca⟩:=row_get out_len (by decide) (HHR.out.below HBQ.out) (by omega)
     have a0:=ca q hql 0 (by decide)
     have a1:=ca q hql 1 (by decide)
     have a2:=ca q hql 2 (by decide)
     have a3:=ca q hql 3 (by decide)
     have a4:=ca q hql 4 (by decide)
     have HQL:=hid hql
     have HIH:=hid ((HHI.out m.holes[q] (List.getElem_mem hql)).below HBQ.out)
     have HN2:=hid (HNH.out q hql)
     have HS2:Hid (outlineOk m.holes[q].o=true→∀ p (h:p < m.holes.length),p < q+1→outlineOk m.holes[p].o=true):=hid (fun hgk p h hp=>by
      rcases Nat.lt_or_ge p q with h1 | h1
      ·exact HGQ.out p h h1
      ·obtain rfl:p=q:=by omega
       exact hgk)
     have hq1:(0:Int)≤(q:Int):=by omega
     have hq2:(q:Int) < (m.holes.length:Int):=by omega
     clear ca HGQ hq
     rw [hta] at x10
     clear hta
     generalize m.holes[q]=h at *
     clear hql
     simp only [outCells,List.getElem?_cons_zero,List.getElem?_cons_succ,Nat.add_zero] at a0 a1 a2 a3 a4
     have HE:=hid (rvalidOutline_any h wr HIH.out)
     unfold outV at HE
     generalize outlineOk h.o=qo at *
     go_wp2_with fail
     refine HE.out.mono ?_
     rintro e w6 ⟨rfl,hb⟩
     have HBE:=hid (HBQ.out.trans (hb.mono HBQ.out.size))
     have HBU:=hid (HBT.out.trans (hb.mono HBT.out.size))
     clear a0 a1 a2 a3 a4 hb HE x10
     cases qo
     ·have e1:=hid (HN2.out rfl)
      clear HN2 HS2
      go_wp2
      go_ret
      exact ⟨by rw [e1.out];all_goals rfl,HBU.out⟩
     ·have HSQ:=hid (HS2.out rfl)
      clear HN2 HS2
      go_wp2
      go_roundw
      case rel=>exact ⟨q+1,by go_num,by have:=HQL.out;omega,HSQ,HBE⟩
      case measure=>simp [intOf];have:=HQL.out;omega
    ·obtain rfl:q=m.holes.length:=by omega
     have HSK:=hid (HSG.out (HYH.out (fun p h=>HGQ.out p h h)))
     clear HSG HYH HNH HGQ hq hql
     go_wp2
     go_roundw
     case rel=>exact ⟨k+1,by go_num,by have:=HKL.out;omega,HSK,HBT⟩
     case measure=>simp [intOf];have:=HKL.out;omega
  ·obtain rfl:k=ms.length:=by omega
   have e1:=hid (HYES.out (fun m h=>HG.out m h h))
   clear HNO HYES HG hk hkl
   by_cases c1:ms.length≤20
   ·rw [decide_eq_true c1] at e1
    have f1:((ms.length:Int)≤20)=True:=eq_true (by omega)
    clear c1
    go_wp2
    go_ret
    exact ⟨by rw [e1.out];all_goals rfl,HB.out⟩
   ·rw [decide_eq_false c1] at e1
    have f1:((ms.length:Int)≤20)=False:=eq_false (by omega)
    clear c1
    go_wp2
    go_ret
    exact ⟨by rw [e1.out];all_goals rfl,HB.out⟩
end Go.Proofs.YtnkkcknogkgdkaaGreatDoor.PaW
