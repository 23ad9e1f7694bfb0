/- Walk: which sources are valid, by the reference. Conditions: they lie in memory. -/
import Derived.Test.YtnkkcknogkgdkaaGreatDoorPpC
import Derived.Test.YtnkkcknogkgdkaaGreatDoorPcC
import Derived.Test.YtnkkcknogkgdkaaGreatDoorPpA
import Derived.Test.YtnkkcknogkgdkaaGreatDoorPaM
import Derived.Test.YtnkkcknogkgdkaaGreatDoorPaV

namespace Go.Proofs.YtnkkcknogkgdkaaGreatDoor.PaW
open Lib (hid)
open Go Go.RowKit Go.Proofs.YtnkkcknogkgdkaaGreatDoor.Mem Go.Proofs.YtnkkcknogkgdkaaGreatDoor.Pa
open Go.Proofs.YtnkkcknogkgdkaaGreatDoor.Ge (V)
open Go.Proofs.YtnkkcknogkgdkaaGreatDoor.Lex (Tok)
open Go.Proofs.YtnkkcknogkgdkaaGreatDoor.LexW (tokCells)
attribute [local go_sem ↓] Go.wp_at_zero Go.wp_at_succ

open Go.Proofs.YtnkkcknogkgdkaaGreatDoor.Ge (within)
open Go.Proofs.YtnkkcknogkgdkaaGreatDoor.PqW (writeString_k strCells_mk byteCells_app isBuilder_below b_new)
open Go.Proofs.YtnkkcknogkgdkaaGreatDoor.GeW (rwithin_any)
set_option maxRecDepth 100000 in
theorem rturn_any (t:Int) (w:World):Calls Tryz.prog 118 #[.int .i64 t] w fun e w'=>e=.returned (.bool (decide (0≤t∧t≤7)))∧Below w.heap.size w w':=by
 by_cases h1:0≤t
 ·by_cases h2:t < 8
  ·rw [decide_eq_true (show 0≤t∧t≤7 by omega)]
   go_enter Tryz.func118,Tryz.ntmps118
   go_wp2
   go_ret
   exact ⟨rfl,Below.refl _ _⟩
  ·rw [decide_eq_false (show ¬ (0≤t∧t≤7) by omega)]
   go_enter Tryz.func118,Tryz.ntmps118
   go_wp2
   go_ret
   exact ⟨rfl,Below.refl _ _⟩
 ·rw [decide_eq_false (show ¬ (0≤t∧t≤7) by omega)]
  go_enter Tryz.func118,Tryz.ntmps118
  go_wp2
  go_ret
  exact ⟨rfl,Below.refl _ _⟩
set_option maxRecDepth 100000 in
set_option maxHeartbeats 2000000 in
theorem rturns_any (l:List Int) (A:Option Addr) (c:Nat) (w:World) (hr:Row w A (l.map (Value.int .i64))) (hl:l.length≤1000000) :
  Calls Tryz.prog 59 #[.slice A l.length c] w fun e w'=>e=.returned (.bool (turnsOk l))∧Below w.heap.size w w':=by
 have HR:=hid hr
 have HNO:Hid (∀ k (h:k < l.length),¬ goodT l k h→turnsOk l=false):=hid (fun k h hn=>by
  cases ht:turnsOk l
  ·rfl
  ·exact absurd (((turns_ix l).1 ht).2 k h) hn)
 have HYES:Hid ((∀ k (h:k < l.length),goodT l k h)→turnsOk l=decide (1≤l.length)):=hid (fun h=>by
  by_cases h1:1≤l.length
  ·rw [decide_eq_true h1];exact (turns_ix l).2 ⟨h1,h⟩
  ·rw [decide_eq_false h1]
   cases ht:turnsOk l
   ·rfl
   ·exact absurd ((turns_ix l).1 ht).1 h1)
 clear hr
 obtain ⟨KT,HKT⟩:∃ KT,Hid (turnsOk l=KT):=⟨_,hid rfl⟩
 rw [HKT.out] at HNO HYES ⊢
 clear HKT
 go_enter Tryz.func59,Tryz.ntmps59
 go_wp2_with fail
 go_loopw [3] (fun v wr=>∃ k:Nat,v=.int .i64 (k:Int)∧k≤l.length∧Hid (∀ m (h:m < l.length),m < k→goodT l m h)∧Hid (Below w.heap.size w wr)) (fun v _=>l.length - (intOf v).toNat)
 case atStart=>exact ⟨0,rfl,Nat.zero_le _,hid (fun m h h0=>absurd h0 (by omega)),hid (Below.refl _ _)⟩
 case round =>
  obtain ⟨k,rfl,hk,HG,HB⟩:=hrel
  by_cases hlt:k < l.length
  ·obtain ⟨g,off,rfl,hg,hc⟩:=int_get (HR.out.below HB.out) hlt
   have a0:=hc k hlt
   have HLT:=hid hlt
   have HN:=hid (HNO.out k hlt)
   have HS:Hid (goodT l k hlt→∀ m (h:m < l.length),m < k+1→goodT l m h):=hid (fun hgk m h hm=>by
    rcases Nat.lt_or_ge m k with h1 | h1
    ·exact HG.out m h h1
    ·obtain rfl:m=k:=by omega
     exact hgk)
   have hk1:(0:Int)≤(k:Int):=by omega
   have hk2:(k:Int) < (l.length:Int):=by omega
   unfold goodT at HN HS
   clear HNO HYES HG
   rcases k with _ | j
   ·rw [Nat.add_zero] at a0
    have HN2:=hid (fun (h : ¬ (0≤l[0]∧l[0]≤7))=>HN.out (fun hh=>h hh.1))
    have HS2:=hid (fun (h:0≤l[0]∧l[0]≤7)=>HS.out ⟨h,fun h1=>absurd h1 (by omega)⟩)
    have HV:=hid (fun W=>rturn_any l[0] W)
    clear HN HS hc
    generalize l[0]=t at *
    by_cases c1:0≤t∧t≤7
    ·rw [decide_eq_true c1] at HV
     have HS3:=hid (HS2.out c1)
     clear HN2 HS2 c1 hlt
     go_upto_region 4 with fail
     refine wp_region_det (fun w'=>Below wr.heap.size wr w') (by kernel_rfl) (below_drewN (Below.refl _ _) 1) ?_
     refine tD (i:=0) (v:=?_) (some 10) rfl (Or.inl (Or.inl ⟨by rfl,?_⟩)) ?_
     rotate_left
     ·intro w' hSw
      (try dsimp only at hSw)
      have hs0:=(hSw.cell (p:=⟨g,off,none⟩) hg).trans a0
      go_simp<;>with_reducible rfl
     try simp only [Act.put,sA,sB,sC]
     refine tD (i:=1) (v:=?_) (some 11) rfl (Or.inl (Or.inl ⟨by rfl,?_⟩)) ?_
     rotate_left
     ·intro w' hSw
      (try dsimp only at hSw)
      have hs0:=(hSw.cell (p:=⟨g,off,none⟩) hg).trans a0
      go_simp<;>with_reducible rfl
     try simp only [Act.put,sA,sB,sC]
     refine tD (i:=2) (v:=?_) (some 12) rfl (Or.inl (Or.inl ⟨by rfl,?_⟩)) ?_
     rotate_left
     ·intro w' hSw
      (try dsimp only at hSw)
      have hs0:=(hSw.cell (p:=⟨g,off,none⟩) hg).trans a0
      go_simp<;>with_reducible rfl
     try simp only [Act.put,sA,sB,sC]
     refine tD (i:=3) (v:=?_) (some 13) rfl (Or.inl (Or.inl ⟨by rfl,?_⟩)) ?_
     rotate_left
     ·intro w' hSw
      (try dsimp only at hSw)
      have hs0:=(hSw.cell (p:=⟨g,off,none⟩) hg).trans a0
      go_simp<;>with_reducible rfl
     try simp only [Act.put,sA,sB,sC]
     refine tD (i:=4) (v:=(.bool true)) (some 14) rfl (Or.inr ⟨by rfl, 118,#[.int .i64 t],?_,?_⟩) ?_
     ·intro w' hSw
      (try dsimp only at hSw)
      first | rfl | (go_simp;done) | (go_simp;with_reducible rfl)
     ·intro w' hSw
      exact (HV.out w').mono fun e u ⟨he,hb⟩=>⟨he,hSw.trans (hb.mono hSw.size)⟩
     try simp only [Act.put,sA,sB,sC]
     refine tD (i:=5) (v:=?_) (some 15) rfl (Or.inl (Or.inl ⟨by rfl,?_⟩)) ?_
     rotate_left
     ·intro w' hSw
      (try dsimp only at hSw)
      have hs0:=(hSw.cell (p:=⟨g,off,none⟩) hg).trans a0
      go_simp<;>with_reducible rfl
     try simp only [Act.put,sA,sB,sC]
     refine tD (i:=6) (v:=?_) (some 16) rfl (Or.inl (Or.inl ⟨by rfl,?_⟩)) ?_
     rotate_left
     ·intro w' hSw
      (try dsimp only at hSw)
      have hs0:=(hSw.cell (p:=⟨g,off,none⟩) hg).trans a0
      go_simp<;>with_reducible rfl
     try simp only [Act.put,sA,sB,sC]
     refine tD (i:=7) (v:=?_) (some 17) rfl (Or.inl (Or.inl ⟨by rfl,?_⟩)) ?_
     rotate_left
     ·intro w' hSw
      (try dsimp only at hSw)
      have hs0:=(hSw.cell (p:=⟨g,off,none⟩) hg).trans a0
      go_simp<;>with_reducible rfl
     try simp only [Act.put,sA,sB,sC]
     refine tD (i:=8) (v:=?_) (some 18) rfl (Or.inl (Or.inl ⟨by rfl,?_⟩)) ?_
     rotate_left
     ·intro w' hSw
      (try dsimp only at hSw)
      have hs0:=(hSw.cell (p:=⟨g,off,none⟩) hg).trans a0
      go_simp<;>with_reducible rfl
     try simp only [Act.put,sA,sB,sC]
     refine tD (i:=9) (v:=?_) (some 19) rfl (Or.inl (Or.inl ⟨by rfl,?_⟩)) ?_
     rotate_left
     ·intro w' hSw
      (try dsimp only at hSw)
      have hs0:=(hSw.cell (p:=⟨g,off,none⟩) hg).trans a0
      go_simp<;>with_reducible rfl
     try simp only [Act.put,sA,sB,sC]
     refine tD (i:=10) (v:=undef) (some 20) rfl (Or.inl (Or.inr ⟨by rfl,rfl⟩)) ?_
     try simp only [Act.put,sA,sB,sC]
     refine tD (i:=11) (v:=undef) (some 21) rfl (Or.inl (Or.inr ⟨by rfl,rfl⟩)) ?_
     try simp only [Act.put,sA,sB,sC]
     refine tD (i:=12) (v:=undef) (some 22) rfl (Or.inl (Or.inr ⟨by rfl,rfl⟩)) ?_
     try simp only [Act.put,sA,sB,sC]
     refine tD (i:=13) (v:=undef) (some 23) rfl (Or.inl (Or.inr ⟨by rfl,rfl⟩)) ?_
     try simp only [Act.put,sA,sB,sC]
     refine tD (i:=14) (v:=undef) (some 24) rfl (Or.inl (Or.inr ⟨by rfl,rfl⟩)) ?_
     try simp only [Act.put,sA,sB,sC]
     refine tD (i:=15) (v:=undef) (some 25) rfl (Or.inl (Or.inr ⟨by rfl,rfl⟩)) ?_
     try simp only [Act.put,sA,sB,sC]
     refine tD (i:=16) (v:=undef) (some 26) rfl (Or.inl (Or.inr ⟨by rfl,rfl⟩)) ?_
     try simp only [Act.put,sA,sB,sC]
     refine tD (i:=17) (v:=undef) (some 27) rfl (Or.inl (Or.inr ⟨by rfl,rfl⟩)) ?_
     try simp only [Act.put,sA,sB,sC]
     refine tD (i:=18) (v:=undef) (some 28) rfl (Or.inl (Or.inr ⟨by rfl,rfl⟩)) ?_
     try simp only [Act.put,sA,sB,sC]
     refine tD (i:=19) (v:=undef) (some 29) rfl (Or.inl (Or.inr ⟨by rfl,rfl⟩)) ?_
     try simp only [Act.put,sA,sB,sC]
     refine tD (i:=20) (v:=?_) (some 30) rfl (Or.inl (Or.inl ⟨by rfl,?_⟩)) ?_
     rotate_left
     ·intro w' hSw
      (try dsimp only at hSw)
      have hs0:=(hSw.cell (p:=⟨g,off,none⟩) hg).trans a0
      go_simp<;>with_reducible rfl
     try simp only [Act.put,sA,sB,sC]
     refine tD (i:=21) (v:=?_) (some 31) rfl (Or.inl (Or.inl ⟨by rfl,?_⟩)) ?_
     rotate_left
     ·intro w' hSw
      (try dsimp only at hSw)
      have hs0:=(hSw.cell (p:=⟨g,off,none⟩) hg).trans a0
      go_simp<;>with_reducible rfl
     try simp only [Act.put,sA,sB,sC]
     refine wpAnyD_done (by kernel_rfl) (fun w' hSw=>?_) _
     go_wp2
     go_roundw
     case rel=>exact ⟨0+1,by go_num,by have:=HLT.out;omega,HS3,hid (HB.out.trans (hSw.mono HB.out.size))⟩
     case measure=>simp [intOf];have:=HLT.out;omega
    ·rw [decide_eq_false c1] at HV
     have e1:=hid (HN2.out c1)
     clear HN2 HS2 c1 hlt
     go_upto_region 4 with fail
     refine wp_region_det (fun w'=>Below wr.heap.size wr w') (by kernel_rfl) (below_drewN (Below.refl _ _) 1) ?_
     refine tD (i:=0) (v:=?_) (some 10) rfl (Or.inl (Or.inl ⟨by rfl,?_⟩)) ?_
     rotate_left
     ·intro w' hSw
      (try dsimp only at hSw)
      have hs0:=(hSw.cell (p:=⟨g,off,none⟩) hg).trans a0
      go_simp<;>with_reducible rfl
     try simp only [Act.put,sA,sB,sC]
     refine tD (i:=1) (v:=?_) (some 11) rfl (Or.inl (Or.inl ⟨by rfl,?_⟩)) ?_
     rotate_left
     ·intro w' hSw
      (try dsimp only at hSw)
      have hs0:=(hSw.cell (p:=⟨g,off,none⟩) hg).trans a0
      go_simp<;>with_reducible rfl
     try simp only [Act.put,sA,sB,sC]
     refine tD (i:=2) (v:=?_) (some 12) rfl (Or.inl (Or.inl ⟨by rfl,?_⟩)) ?_
     rotate_left
     ·intro w' hSw
      (try dsimp only at hSw)
      have hs0:=(hSw.cell (p:=⟨g,off,none⟩) hg).trans a0
      go_simp<;>with_reducible rfl
     try simp only [Act.put,sA,sB,sC]
     refine tD (i:=3) (v:=?_) (some 13) rfl (Or.inl (Or.inl ⟨by rfl,?_⟩)) ?_
     rotate_left
     ·intro w' hSw
      (try dsimp only at hSw)
      have hs0:=(hSw.cell (p:=⟨g,off,none⟩) hg).trans a0
      go_simp<;>with_reducible rfl
     try simp only [Act.put,sA,sB,sC]
     refine tD (i:=4) (v:=(.bool false)) (some 14) rfl (Or.inr ⟨by rfl, 118,#[.int .i64 t],?_,?_⟩) ?_
     ·intro w' hSw
      (try dsimp only at hSw)
      first | rfl | (go_simp;done) | (go_simp;with_reducible rfl)
     ·intro w' hSw
      exact (HV.out w').mono fun e u ⟨he,hb⟩=>⟨he,hSw.trans (hb.mono hSw.size)⟩
     try simp only [Act.put,sA,sB,sC]
     refine tD (i:=5) (v:=?_) (some 15) rfl (Or.inl (Or.inl ⟨by rfl,?_⟩)) ?_
     rotate_left
     ·intro w' hSw
      (try dsimp only at hSw)
      have hs0:=(hSw.cell (p:=⟨g,off,none⟩) hg).trans a0
      go_simp<;>with_reducible rfl
     try simp only [Act.put,sA,sB,sC]
     refine tD (i:=6) (v:=?_) (some 16) rfl (Or.inl (Or.inl ⟨by rfl,?_⟩)) ?_
     rotate_left
     ·intro w' hSw
      (try dsimp only at hSw)
      have hs0:=(hSw.cell (p:=⟨g,off,none⟩) hg).trans a0
      go_simp<;>with_reducible rfl
     try simp only [Act.put,sA,sB,sC]
     refine tD (i:=7) (v:=undef) (some 17) rfl (Or.inl (Or.inr ⟨by rfl,rfl⟩)) ?_
     try simp only [Act.put,sA,sB,sC]
     refine tD (i:=8) (v:=undef) (some 18) rfl (Or.inl (Or.inr ⟨by rfl,rfl⟩)) ?_
     try simp only [Act.put,sA,sB,sC]
     refine tD (i:=9) (v:=undef) (some 19) rfl (Or.inl (Or.inr ⟨by rfl,rfl⟩)) ?_
     try simp only [Act.put,sA,sB,sC]
     refine tD (i:=10) (v:=undef) (some 20) rfl (Or.inl (Or.inr ⟨by rfl,rfl⟩)) ?_
     try simp only [Act.put,sA,sB,sC]
     refine tD (i:=11) (v:=undef) (some 21) rfl (Or.inl (Or.inr ⟨by rfl,rfl⟩)) ?_
     try simp only [Act.put,sA,sB,sC]
     refine tD (i:=12) (v:=undef) (some 22) rfl (Or.inl (Or.inr ⟨by rfl,rfl⟩)) ?_
     try simp only [Act.put,sA,sB,sC]
     refine tD (i:=13) (v:=undef) (some 23) rfl (Or.inl (Or.inr ⟨by rfl,rfl⟩)) ?_
     try simp only [Act.put,sA,sB,sC]
     refine tD (i:=14) (v:=undef) (some 24) rfl (Or.inl (Or.inr ⟨by rfl,rfl⟩)) ?_
     try simp only [Act.put,sA,sB,sC]
     refine tD (i:=15) (v:=undef) (some 25) rfl (Or.inl (Or.inr ⟨by rfl,rfl⟩)) ?_
     try simp only [Act.put,sA,sB,sC]
     refine tD (i:=16) (v:=undef) (some 26) rfl (Or.inl (Or.inr ⟨by rfl,rfl⟩)) ?_
     try simp only [Act.put,sA,sB,sC]
     refine tD (i:=17) (v:=undef) (some 27) rfl (Or.inl (Or.inr ⟨by rfl,rfl⟩)) ?_
     try simp only [Act.put,sA,sB,sC]
     refine tD (i:=18) (v:=undef) (some 28) rfl (Or.inl (Or.inr ⟨by rfl,rfl⟩)) ?_
     try simp only [Act.put,sA,sB,sC]
     refine tD (i:=19) (v:=undef) (some 29) rfl (Or.inl (Or.inr ⟨by rfl,rfl⟩)) ?_
     try simp only [Act.put,sA,sB,sC]
     refine tD (i:=20) (v:=undef) (some 30) rfl (Or.inl (Or.inr ⟨by rfl,rfl⟩)) ?_
     try simp only [Act.put,sA,sB,sC]
     refine tD (i:=21) (v:=?_) (some 31) rfl (Or.inl (Or.inl ⟨by rfl,?_⟩)) ?_
     rotate_left
     ·intro w' hSw
      (try dsimp only at hSw)
      have hs0:=(hSw.cell (p:=⟨g,off,none⟩) hg).trans a0
      go_simp<;>with_reducible rfl
     try simp only [Act.put,sA,sB,sC]
     refine wpAnyD_done (by kernel_rfl) (fun w' hSw=>?_) _
     go_wp2
     go_ret
     exact ⟨by rw [e1.out];all_goals rfl,HB.out.trans (hSw.mono HB.out.size)⟩
   ·have hj:j < l.length:=by omega
    have a1:=hc j hj
    have hjw:IntKind.i64.wrap ((j:Int)+1 - 1)=(j:Int):=by rw [wrapEq];unfold wrap64;omega
    have hjw2:IntKind.i64.wrap (j:Int)=(j:Int):=by rw [wrapEq];unfold wrap64;omega
    have hj1:(0:Int)≤(j:Int):=by omega
    have hj2:(j:Int) < (l.length:Int):=by omega
    have hj3:(0:Int)≤(j:Int)+1:=by omega
    have hj4:(j:Int)+1 < (l.length:Int):=by omega
    have d0:decide ((0:Int) < (j:Int)+1)=true:=decide_eq_true (by omega)
    have d1:((0:Int) < (j:Int)+1)=True:=eq_true (by omega)
    have HN2:=hid (fun (h : ¬ ((0≤l[j+1]∧l[j+1]≤7)∧l[j] < l[j+1]))=>HN.out (fun hh=>h ⟨hh.1,hh.2 (by omega)⟩))
    have HS2:=hid (fun (h:(0≤l[j+1]∧l[j+1]≤7)∧l[j] < l[j+1])=>HS.out ⟨h.1,fun _=>h.2⟩)
    have HV:=hid (fun W=>rturn_any l[j+1] W)
    clear HN HS hc
    generalize l[j+1]=t at *
    generalize l[j]=u at *
    by_cases c1:0≤t∧t≤7
    ·rw [decide_eq_true c1] at HV
     by_cases c2:t≤u
     ·have e1:=hid (HN2.out (by omega))
      clear HN2 HS2 c1 hlt
      go_upto_region 4 with fail
      refine wp_region_det (fun w'=>Below wr.heap.size wr w') (by kernel_rfl) (below_drewN (Below.refl _ _) 1) ?_
      refine tD (i:=0) (v:=?_) (some 10) rfl (Or.inl (Or.inl ⟨by rfl,?_⟩)) ?_
      rotate_left
      ·intro w' hSw
       (try dsimp only at hSw)
       have hs0:=(hSw.cell (p:=⟨g,off+(j+1),none⟩) hg).trans a0;have hs1:=(hSw.cell (p:=⟨g,off+j,none⟩) hg).trans a1
       go_simp<;>with_reducible rfl
      try simp only [Act.put,sA,sB,sC]
      refine tD (i:=1) (v:=?_) (some 11) rfl (Or.inl (Or.inl ⟨by rfl,?_⟩)) ?_
      rotate_left
      ·intro w' hSw
       (try dsimp only at hSw)
       have hs0:=(hSw.cell (p:=⟨g,off+(j+1),none⟩) hg).trans a0;have hs1:=(hSw.cell (p:=⟨g,off+j,none⟩) hg).trans a1
       go_simp<;>with_reducible rfl
      try simp only [Act.put,sA,sB,sC]
      refine tD (i:=2) (v:=?_) (some 12) rfl (Or.inl (Or.inl ⟨by rfl,?_⟩)) ?_
      rotate_left
      ·intro w' hSw
       (try dsimp only at hSw)
       have hs0:=(hSw.cell (p:=⟨g,off+(j+1),none⟩) hg).trans a0;have hs1:=(hSw.cell (p:=⟨g,off+j,none⟩) hg).trans a1
       go_simp<;>with_reducible rfl
      try simp only [Act.put,sA,sB,sC]
      refine tD (i:=3) (v:=?_) (some 13) rfl (Or.inl (Or.inl ⟨by rfl,?_⟩)) ?_
      rotate_left
      ·intro w' hSw
       (try dsimp only at hSw)
       have hs0:=(hSw.cell (p:=⟨g,off+(j+1),none⟩) hg).trans a0;have hs1:=(hSw.cell (p:=⟨g,off+j,none⟩) hg).trans a1
       go_simp<;>with_reducible rfl
      try simp only [Act.put,sA,sB,sC]
      refine tD (i:=4) (v:=(.bool true)) (some 14) rfl (Or.inr ⟨by rfl, 118,#[.int .i64 t],?_,?_⟩) ?_
      ·intro w' hSw
       (try dsimp only at hSw)
       first | rfl | (go_simp;done) | (go_simp;with_reducible rfl)
      ·intro w' hSw
       exact (HV.out w').mono fun e u ⟨he,hb⟩=>⟨he,hSw.trans (hb.mono hSw.size)⟩
      try simp only [Act.put,sA,sB,sC]
      refine tD (i:=5) (v:=?_) (some 15) rfl (Or.inl (Or.inl ⟨by rfl,?_⟩)) ?_
      rotate_left
      ·intro w' hSw
       (try dsimp only at hSw)
       have hs0:=(hSw.cell (p:=⟨g,off+(j+1),none⟩) hg).trans a0;have hs1:=(hSw.cell (p:=⟨g,off+j,none⟩) hg).trans a1
       go_simp<;>with_reducible rfl
      try simp only [Act.put,sA,sB,sC]
      refine tD (i:=6) (v:=?_) (some 16) rfl (Or.inl (Or.inl ⟨by rfl,?_⟩)) ?_
      rotate_left
      ·intro w' hSw
       (try dsimp only at hSw)
       have hs0:=(hSw.cell (p:=⟨g,off+(j+1),none⟩) hg).trans a0;have hs1:=(hSw.cell (p:=⟨g,off+j,none⟩) hg).trans a1
       go_simp<;>with_reducible rfl
      try simp only [Act.put,sA,sB,sC]
      refine tD (i:=7) (v:=?_) (some 17) rfl (Or.inl (Or.inl ⟨by rfl,?_⟩)) ?_
      rotate_left
      ·intro w' hSw
       (try dsimp only at hSw)
       have hs0:=(hSw.cell (p:=⟨g,off+(j+1),none⟩) hg).trans a0;have hs1:=(hSw.cell (p:=⟨g,off+j,none⟩) hg).trans a1
       go_simp<;>with_reducible rfl
      try simp only [Act.put,sA,sB,sC]
      refine tD (i:=8) (v:=?_) (some 18) rfl (Or.inl (Or.inl ⟨by rfl,?_⟩)) ?_
      rotate_left
      ·intro w' hSw
       (try dsimp only at hSw)
       have hs0:=(hSw.cell (p:=⟨g,off+(j+1),none⟩) hg).trans a0;have hs1:=(hSw.cell (p:=⟨g,off+j,none⟩) hg).trans a1
       go_simp<;>with_reducible rfl
      try simp only [Act.put,sA,sB,sC]
      refine tD (i:=9) (v:=?_) (some 19) rfl (Or.inl (Or.inl ⟨by rfl,?_⟩)) ?_
      rotate_left
      ·intro w' hSw
       (try dsimp only at hSw)
       have hs0:=(hSw.cell (p:=⟨g,off+(j+1),none⟩) hg).trans a0;have hs1:=(hSw.cell (p:=⟨g,off+j,none⟩) hg).trans a1
       go_simp<;>with_reducible rfl
      try simp only [Act.put,sA,sB,sC]
      refine tD (i:=10) (v:=?_) (some 20) rfl (Or.inl (Or.inl ⟨by rfl,?_⟩)) ?_
      rotate_left
      ·intro w' hSw
       (try dsimp only at hSw)
       have hs0:=(hSw.cell (p:=⟨g,off+(j+1),none⟩) hg).trans a0;have hs1:=(hSw.cell (p:=⟨g,off+j,none⟩) hg).trans a1
       go_simp<;>with_reducible rfl
      try simp only [Act.put,sA,sB,sC]
      refine tD (i:=11) (v:=?_) (some 21) rfl (Or.inl (Or.inl ⟨by rfl,?_⟩)) ?_
      rotate_left
      ·intro w' hSw
       (try dsimp only at hSw)
       have hs0:=(hSw.cell (p:=⟨g,off+(j+1),none⟩) hg).trans a0;have hs1:=(hSw.cell (p:=⟨g,off+j,none⟩) hg).trans a1
       go_simp<;>with_reducible rfl
      try simp only [Act.put,sA,sB,sC]
      refine tD (i:=12) (v:=?_) (some 22) rfl (Or.inl (Or.inl ⟨by rfl,?_⟩)) ?_
      rotate_left
      ·intro w' hSw
       (try dsimp only at hSw)
       have hs0:=(hSw.cell (p:=⟨g,off+(j+1),none⟩) hg).trans a0;have hs1:=(hSw.cell (p:=⟨g,off+j,none⟩) hg).trans a1
       go_simp<;>with_reducible rfl
      try simp only [Act.put,sA,sB,sC]
      refine tD (i:=13) (v:=?_) (some 23) rfl (Or.inl (Or.inl ⟨by rfl,?_⟩)) ?_
      rotate_left
      ·intro w' hSw
       (try dsimp only at hSw)
       have hs0:=(hSw.cell (p:=⟨g,off+(j+1),none⟩) hg).trans a0;have hs1:=(hSw.cell (p:=⟨g,off+j,none⟩) hg).trans a1
       go_simp<;>with_reducible rfl
      try simp only [Act.put,sA,sB,sC]
      refine tD (i:=14) (v:=?_) (some 24) rfl (Or.inl (Or.inl ⟨by rfl,?_⟩)) ?_
      rotate_left
      ·intro w' hSw
       (try dsimp only at hSw)
       have hs0:=(hSw.cell (p:=⟨g,off+(j+1),none⟩) hg).trans a0;have hs1:=(hSw.cell (p:=⟨g,off+j,none⟩) hg).trans a1
       go_simp<;>with_reducible rfl
      try simp only [Act.put,sA,sB,sC]
      refine tD (i:=15) (v:=?_) (some 25) rfl (Or.inl (Or.inl ⟨by rfl,?_⟩)) ?_
      rotate_left
      ·intro w' hSw
       (try dsimp only at hSw)
       have hs0:=(hSw.cell (p:=⟨g,off+(j+1),none⟩) hg).trans a0;have hs1:=(hSw.cell (p:=⟨g,off+j,none⟩) hg).trans a1
       go_simp<;>with_reducible rfl
      try simp only [Act.put,sA,sB,sC]
      refine tD (i:=16) (v:=?_) (some 26) rfl (Or.inl (Or.inl ⟨by rfl,?_⟩)) ?_
      rotate_left
      ·intro w' hSw
       (try dsimp only at hSw)
       have hs0:=(hSw.cell (p:=⟨g,off+(j+1),none⟩) hg).trans a0;have hs1:=(hSw.cell (p:=⟨g,off+j,none⟩) hg).trans a1
       go_simp<;>with_reducible rfl
      try simp only [Act.put,sA,sB,sC]
      refine tD (i:=17) (v:=?_) (some 27) rfl (Or.inl (Or.inl ⟨by rfl,?_⟩)) ?_
      rotate_left
      ·intro w' hSw
       (try dsimp only at hSw)
       have hs0:=(hSw.cell (p:=⟨g,off+(j+1),none⟩) hg).trans a0;have hs1:=(hSw.cell (p:=⟨g,off+j,none⟩) hg).trans a1
       go_simp<;>with_reducible rfl
      try simp only [Act.put,sA,sB,sC]
      refine tD (i:=18) (v:=?_) (some 28) rfl (Or.inl (Or.inl ⟨by rfl,?_⟩)) ?_
      rotate_left
      ·intro w' hSw
       (try dsimp only at hSw)
       have hs0:=(hSw.cell (p:=⟨g,off+(j+1),none⟩) hg).trans a0;have hs1:=(hSw.cell (p:=⟨g,off+j,none⟩) hg).trans a1
       go_simp<;>with_reducible rfl
      try simp only [Act.put,sA,sB,sC]
      refine tD (i:=19) (v:=?_) (some 29) rfl (Or.inl (Or.inl ⟨by rfl,?_⟩)) ?_
      rotate_left
      ·intro w' hSw
       (try dsimp only at hSw)
       have hs0:=(hSw.cell (p:=⟨g,off+(j+1),none⟩) hg).trans a0;have hs1:=(hSw.cell (p:=⟨g,off+j,none⟩) hg).trans a1
       go_simp<;>with_reducible rfl
      try simp only [Act.put,sA,sB,sC]
      refine tD (i:=20) (v:=?_) (some 30) rfl (Or.inl (Or.inl ⟨by rfl,?_⟩)) ?_
      rotate_left
      ·intro w' hSw
       (try dsimp only at hSw)
       have hs0:=(hSw.cell (p:=⟨g,off+(j+1),none⟩) hg).trans a0;have hs1:=(hSw.cell (p:=⟨g,off+j,none⟩) hg).trans a1
       go_simp<;>with_reducible rfl
      try simp only [Act.put,sA,sB,sC]
      refine tD (i:=21) (v:=?_) (some 31) rfl (Or.inl (Or.inl ⟨by rfl,?_⟩)) ?_
      rotate_left
      ·intro w' hSw
       (try dsimp only at hSw)
       have hs0:=(hSw.cell (p:=⟨g,off+(j+1),none⟩) hg).trans a0;have hs1:=(hSw.cell (p:=⟨g,off+j,none⟩) hg).trans a1
       go_simp<;>with_reducible rfl
      try simp only [Act.put,sA,sB,sC]
      refine wpAnyD_done (by kernel_rfl) (fun w' hSw=>?_) _
      go_wp2
      go_ret
      exact ⟨by rw [e1.out];all_goals rfl,HB.out.trans (hSw.mono HB.out.size)⟩
     ·have HS3:=hid (HS2.out (by omega))
      clear HN2 HS2 c1 hlt
      go_upto_region 4 with fail
      refine wp_region_det (fun w'=>Below wr.heap.size wr w') (by kernel_rfl) (below_drewN (Below.refl _ _) 1) ?_
      refine tD (i:=0) (v:=?_) (some 10) rfl (Or.inl (Or.inl ⟨by rfl,?_⟩)) ?_
      rotate_left
      ·intro w' hSw
       (try dsimp only at hSw)
       have hs0:=(hSw.cell (p:=⟨g,off+(j+1),none⟩) hg).trans a0;have hs1:=(hSw.cell (p:=⟨g,off+j,none⟩) hg).trans a1
       go_simp<;>with_reducible rfl
      try simp only [Act.put,sA,sB,sC]
      refine tD (i:=1) (v:=?_) (some 11) rfl (Or.inl (Or.inl ⟨by rfl,?_⟩)) ?_
      rotate_left
      ·intro w' hSw
       (try dsimp only at hSw)
       have hs0:=(hSw.cell (p:=⟨g,off+(j+1),none⟩) hg).trans a0;have hs1:=(hSw.cell (p:=⟨g,off+j,none⟩) hg).trans a1
       go_simp<;>with_reducible rfl
      try simp only [Act.put,sA,sB,sC]
      refine tD (i:=2) (v:=?_) (some 12) rfl (Or.inl (Or.inl ⟨by rfl,?_⟩)) ?_
      rotate_left
      ·intro w' hSw
       (try dsimp only at hSw)
       have hs0:=(hSw.cell (p:=⟨g,off+(j+1),none⟩) hg).trans a0;have hs1:=(hSw.cell (p:=⟨g,off+j,none⟩) hg).trans a1
       go_simp<;>with_reducible rfl
      try simp only [Act.put,sA,sB,sC]
      refine tD (i:=3) (v:=?_) (some 13) rfl (Or.inl (Or.inl ⟨by rfl,?_⟩)) ?_
      rotate_left
      ·intro w' hSw
       (try dsimp only at hSw)
       have hs0:=(hSw.cell (p:=⟨g,off+(j+1),none⟩) hg).trans a0;have hs1:=(hSw.cell (p:=⟨g,off+j,none⟩) hg).trans a1
       go_simp<;>with_reducible rfl
      try simp only [Act.put,sA,sB,sC]
      refine tD (i:=4) (v:=(.bool true)) (some 14) rfl (Or.inr ⟨by rfl, 118,#[.int .i64 t],?_,?_⟩) ?_
      ·intro w' hSw
       (try dsimp only at hSw)
       first | rfl | (go_simp;done) | (go_simp;with_reducible rfl)
      ·intro w' hSw
       exact (HV.out w').mono fun e u ⟨he,hb⟩=>⟨he,hSw.trans (hb.mono hSw.size)⟩
      try simp only [Act.put,sA,sB,sC]
      refine tD (i:=5) (v:=?_) (some 15) rfl (Or.inl (Or.inl ⟨by rfl,?_⟩)) ?_
      rotate_left
      ·intro w' hSw
       (try dsimp only at hSw)
       have hs0:=(hSw.cell (p:=⟨g,off+(j+1),none⟩) hg).trans a0;have hs1:=(hSw.cell (p:=⟨g,off+j,none⟩) hg).trans a1
       go_simp<;>with_reducible rfl
      try simp only [Act.put,sA,sB,sC]
      refine tD (i:=6) (v:=?_) (some 16) rfl (Or.inl (Or.inl ⟨by rfl,?_⟩)) ?_
      rotate_left
      ·intro w' hSw
       (try dsimp only at hSw)
       have hs0:=(hSw.cell (p:=⟨g,off+(j+1),none⟩) hg).trans a0;have hs1:=(hSw.cell (p:=⟨g,off+j,none⟩) hg).trans a1
       go_simp<;>with_reducible rfl
      try simp only [Act.put,sA,sB,sC]
      refine tD (i:=7) (v:=?_) (some 17) rfl (Or.inl (Or.inl ⟨by rfl,?_⟩)) ?_
      rotate_left
      ·intro w' hSw
       (try dsimp only at hSw)
       have hs0:=(hSw.cell (p:=⟨g,off+(j+1),none⟩) hg).trans a0;have hs1:=(hSw.cell (p:=⟨g,off+j,none⟩) hg).trans a1
       go_simp<;>with_reducible rfl
      try simp only [Act.put,sA,sB,sC]
      refine tD (i:=8) (v:=?_) (some 18) rfl (Or.inl (Or.inl ⟨by rfl,?_⟩)) ?_
      rotate_left
      ·intro w' hSw
       (try dsimp only at hSw)
       have hs0:=(hSw.cell (p:=⟨g,off+(j+1),none⟩) hg).trans a0;have hs1:=(hSw.cell (p:=⟨g,off+j,none⟩) hg).trans a1
       go_simp<;>with_reducible rfl
      try simp only [Act.put,sA,sB,sC]
      refine tD (i:=9) (v:=?_) (some 19) rfl (Or.inl (Or.inl ⟨by rfl,?_⟩)) ?_
      rotate_left
      ·intro w' hSw
       (try dsimp only at hSw)
       have hs0:=(hSw.cell (p:=⟨g,off+(j+1),none⟩) hg).trans a0;have hs1:=(hSw.cell (p:=⟨g,off+j,none⟩) hg).trans a1
       go_simp<;>with_reducible rfl
      try simp only [Act.put,sA,sB,sC]
      refine tD (i:=10) (v:=?_) (some 20) rfl (Or.inl (Or.inl ⟨by rfl,?_⟩)) ?_
      rotate_left
      ·intro w' hSw
       (try dsimp only at hSw)
       have hs0:=(hSw.cell (p:=⟨g,off+(j+1),none⟩) hg).trans a0;have hs1:=(hSw.cell (p:=⟨g,off+j,none⟩) hg).trans a1
       go_simp<;>with_reducible rfl
      try simp only [Act.put,sA,sB,sC]
      refine tD (i:=11) (v:=?_) (some 21) rfl (Or.inl (Or.inl ⟨by rfl,?_⟩)) ?_
      rotate_left
      ·intro w' hSw
       (try dsimp only at hSw)
       have hs0:=(hSw.cell (p:=⟨g,off+(j+1),none⟩) hg).trans a0;have hs1:=(hSw.cell (p:=⟨g,off+j,none⟩) hg).trans a1
       go_simp<;>with_reducible rfl
      try simp only [Act.put,sA,sB,sC]
      refine tD (i:=12) (v:=?_) (some 22) rfl (Or.inl (Or.inl ⟨by rfl,?_⟩)) ?_
      rotate_left
      ·intro w' hSw
       (try dsimp only at hSw)
       have hs0:=(hSw.cell (p:=⟨g,off+(j+1),none⟩) hg).trans a0;have hs1:=(hSw.cell (p:=⟨g,off+j,none⟩) hg).trans a1
       go_simp<;>with_reducible rfl
      try simp only [Act.put,sA,sB,sC]
      refine tD (i:=13) (v:=?_) (some 23) rfl (Or.inl (Or.inl ⟨by rfl,?_⟩)) ?_
      rotate_left
      ·intro w' hSw
       (try dsimp only at hSw)
       have hs0:=(hSw.cell (p:=⟨g,off+(j+1),none⟩) hg).trans a0;have hs1:=(hSw.cell (p:=⟨g,off+j,none⟩) hg).trans a1
       go_simp<;>with_reducible rfl
      try simp only [Act.put,sA,sB,sC]
      refine tD (i:=14) (v:=?_) (some 24) rfl (Or.inl (Or.inl ⟨by rfl,?_⟩)) ?_
      rotate_left
      ·intro w' hSw
       (try dsimp only at hSw)
       have hs0:=(hSw.cell (p:=⟨g,off+(j+1),none⟩) hg).trans a0;have hs1:=(hSw.cell (p:=⟨g,off+j,none⟩) hg).trans a1
       go_simp<;>with_reducible rfl
      try simp only [Act.put,sA,sB,sC]
      refine tD (i:=15) (v:=?_) (some 25) rfl (Or.inl (Or.inl ⟨by rfl,?_⟩)) ?_
      rotate_left
      ·intro w' hSw
       (try dsimp only at hSw)
       have hs0:=(hSw.cell (p:=⟨g,off+(j+1),none⟩) hg).trans a0;have hs1:=(hSw.cell (p:=⟨g,off+j,none⟩) hg).trans a1
       go_simp<;>with_reducible rfl
      try simp only [Act.put,sA,sB,sC]
      refine tD (i:=16) (v:=?_) (some 26) rfl (Or.inl (Or.inl ⟨by rfl,?_⟩)) ?_
      rotate_left
      ·intro w' hSw
       (try dsimp only at hSw)
       have hs0:=(hSw.cell (p:=⟨g,off+(j+1),none⟩) hg).trans a0;have hs1:=(hSw.cell (p:=⟨g,off+j,none⟩) hg).trans a1
       go_simp<;>with_reducible rfl
      try simp only [Act.put,sA,sB,sC]
      refine tD (i:=17) (v:=?_) (some 27) rfl (Or.inl (Or.inl ⟨by rfl,?_⟩)) ?_
      rotate_left
      ·intro w' hSw
       (try dsimp only at hSw)
       have hs0:=(hSw.cell (p:=⟨g,off+(j+1),none⟩) hg).trans a0;have hs1:=(hSw.cell (p:=⟨g,off+j,none⟩) hg).trans a1
       go_simp<;>with_reducible rfl
      try simp only [Act.put,sA,sB,sC]
      refine tD (i:=18) (v:=?_) (some 28) rfl (Or.inl (Or.inl ⟨by rfl,?_⟩)) ?_
      rotate_left
      ·intro w' hSw
       (try dsimp only at hSw)
       have hs0:=(hSw.cell (p:=⟨g,off+(j+1),none⟩) hg).trans a0;have hs1:=(hSw.cell (p:=⟨g,off+j,none⟩) hg).trans a1
       go_simp<;>with_reducible rfl
      try simp only [Act.put,sA,sB,sC]
      refine tD (i:=19) (v:=?_) (some 29) rfl (Or.inl (Or.inl ⟨by rfl,?_⟩)) ?_
      rotate_left
      ·intro w' hSw
       (try dsimp only at hSw)
       have hs0:=(hSw.cell (p:=⟨g,off+(j+1),none⟩) hg).trans a0;have hs1:=(hSw.cell (p:=⟨g,off+j,none⟩) hg).trans a1
       go_simp<;>with_reducible rfl
      try simp only [Act.put,sA,sB,sC]
      refine tD (i:=20) (v:=?_) (some 30) rfl (Or.inl (Or.inl ⟨by rfl,?_⟩)) ?_
      rotate_left
      ·intro w' hSw
       (try dsimp only at hSw)
       have hs0:=(hSw.cell (p:=⟨g,off+(j+1),none⟩) hg).trans a0;have hs1:=(hSw.cell (p:=⟨g,off+j,none⟩) hg).trans a1
       go_simp<;>with_reducible rfl
      try simp only [Act.put,sA,sB,sC]
      refine tD (i:=21) (v:=?_) (some 31) rfl (Or.inl (Or.inl ⟨by rfl,?_⟩)) ?_
      rotate_left
      ·intro w' hSw
       (try dsimp only at hSw)
       have hs0:=(hSw.cell (p:=⟨g,off+(j+1),none⟩) hg).trans a0;have hs1:=(hSw.cell (p:=⟨g,off+j,none⟩) hg).trans a1
       go_simp<;>with_reducible rfl
      try simp only [Act.put,sA,sB,sC]
      refine wpAnyD_done (by kernel_rfl) (fun w' hSw=>?_) _
      go_wp2
      go_roundw
      case rel=>exact ⟨j+1+1,by go_num,by have:=HLT.out;omega,HS3,hid (HB.out.trans (hSw.mono HB.out.size))⟩
      case measure=>simp [intOf];have:=HLT.out;omega
    ·rw [decide_eq_false c1] at HV
     have e1:=hid (HN2.out (by omega))
     clear HN2 HS2 c1 hlt
     go_upto_region 4 with fail
     refine wp_region_det (fun w'=>Below wr.heap.size wr w') (by kernel_rfl) (below_drewN (Below.refl _ _) 1) ?_
     refine tD (i:=0) (v:=?_) (some 10) rfl (Or.inl (Or.inl ⟨by rfl,?_⟩)) ?_
     rotate_left
     ·intro w' hSw
      (try dsimp only at hSw)
      have hs0:=(hSw.cell (p:=⟨g,off+(j+1),none⟩) hg).trans a0;have hs1:=(hSw.cell (p:=⟨g,off+j,none⟩) hg).trans a1
      go_simp<;>with_reducible rfl
     try simp only [Act.put,sA,sB,sC]
     refine tD (i:=1) (v:=?_) (some 11) rfl (Or.inl (Or.inl ⟨by rfl,?_⟩)) ?_
     rotate_left
     ·intro w' hSw
      (try dsimp only at hSw)
      have hs0:=(hSw.cell (p:=⟨g,off+(j+1),none⟩) hg).trans a0;have hs1:=(hSw.cell (p:=⟨g,off+j,none⟩) hg).trans a1
      go_simp<;>with_reducible rfl
     try simp only [Act.put,sA,sB,sC]
     refine tD (i:=2) (v:=?_) (some 12) rfl (Or.inl (Or.inl ⟨by rfl,?_⟩)) ?_
     rotate_left
     ·intro w' hSw
      (try dsimp only at hSw)
      have hs0:=(hSw.cell (p:=⟨g,off+(j+1),none⟩) hg).trans a0;have hs1:=(hSw.cell (p:=⟨g,off+j,none⟩) hg).trans a1
      go_simp<;>with_reducible rfl
     try simp only [Act.put,sA,sB,sC]
     refine tD (i:=3) (v:=?_) (some 13) rfl (Or.inl (Or.inl ⟨by rfl,?_⟩)) ?_
     rotate_left
     ·intro w' hSw
      (try dsimp only at hSw)
      have hs0:=(hSw.cell (p:=⟨g,off+(j+1),none⟩) hg).trans a0;have hs1:=(hSw.cell (p:=⟨g,off+j,none⟩) hg).trans a1
      go_simp<;>with_reducible rfl
     try simp only [Act.put,sA,sB,sC]
     refine tD (i:=4) (v:=(.bool false)) (some 14) rfl (Or.inr ⟨by rfl, 118,#[.int .i64 t],?_,?_⟩) ?_
     ·intro w' hSw
      (try dsimp only at hSw)
      first | rfl | (go_simp;done) | (go_simp;with_reducible rfl)
     ·intro w' hSw
      exact (HV.out w').mono fun e u ⟨he,hb⟩=>⟨he,hSw.trans (hb.mono hSw.size)⟩
     try simp only [Act.put,sA,sB,sC]
     refine tD (i:=5) (v:=?_) (some 15) rfl (Or.inl (Or.inl ⟨by rfl,?_⟩)) ?_
     rotate_left
     ·intro w' hSw
      (try dsimp only at hSw)
      have hs0:=(hSw.cell (p:=⟨g,off+(j+1),none⟩) hg).trans a0;have hs1:=(hSw.cell (p:=⟨g,off+j,none⟩) hg).trans a1
      go_simp<;>with_reducible rfl
     try simp only [Act.put,sA,sB,sC]
     refine tD (i:=6) (v:=?_) (some 16) rfl (Or.inl (Or.inl ⟨by rfl,?_⟩)) ?_
     rotate_left
     ·intro w' hSw
      (try dsimp only at hSw)
      have hs0:=(hSw.cell (p:=⟨g,off+(j+1),none⟩) hg).trans a0;have hs1:=(hSw.cell (p:=⟨g,off+j,none⟩) hg).trans a1
      go_simp<;>with_reducible rfl
     try simp only [Act.put,sA,sB,sC]
     refine tD (i:=7) (v:=undef) (some 17) rfl (Or.inl (Or.inr ⟨by rfl,rfl⟩)) ?_
     try simp only [Act.put,sA,sB,sC]
     refine tD (i:=8) (v:=undef) (some 18) rfl (Or.inl (Or.inr ⟨by rfl,rfl⟩)) ?_
     try simp only [Act.put,sA,sB,sC]
     refine tD (i:=9) (v:=undef) (some 19) rfl (Or.inl (Or.inr ⟨by rfl,rfl⟩)) ?_
     try simp only [Act.put,sA,sB,sC]
     refine tD (i:=10) (v:=undef) (some 20) rfl (Or.inl (Or.inr ⟨by rfl,rfl⟩)) ?_
     try simp only [Act.put,sA,sB,sC]
     refine tD (i:=11) (v:=undef) (some 21) rfl (Or.inl (Or.inr ⟨by rfl,rfl⟩)) ?_
     try simp only [Act.put,sA,sB,sC]
     refine tD (i:=12) (v:=undef) (some 22) rfl (Or.inl (Or.inr ⟨by rfl,rfl⟩)) ?_
     try simp only [Act.put,sA,sB,sC]
     refine tD (i:=13) (v:=undef) (some 23) rfl (Or.inl (Or.inr ⟨by rfl,rfl⟩)) ?_
     try simp only [Act.put,sA,sB,sC]
     refine tD (i:=14) (v:=undef) (some 24) rfl (Or.inl (Or.inr ⟨by rfl,rfl⟩)) ?_
     try simp only [Act.put,sA,sB,sC]
     refine tD (i:=15) (v:=undef) (some 25) rfl (Or.inl (Or.inr ⟨by rfl,rfl⟩)) ?_
     try simp only [Act.put,sA,sB,sC]
     refine tD (i:=16) (v:=undef) (some 26) rfl (Or.inl (Or.inr ⟨by rfl,rfl⟩)) ?_
     try simp only [Act.put,sA,sB,sC]
     refine tD (i:=17) (v:=undef) (some 27) rfl (Or.inl (Or.inr ⟨by rfl,rfl⟩)) ?_
     try simp only [Act.put,sA,sB,sC]
     refine tD (i:=18) (v:=undef) (some 28) rfl (Or.inl (Or.inr ⟨by rfl,rfl⟩)) ?_
     try simp only [Act.put,sA,sB,sC]
     refine tD (i:=19) (v:=undef) (some 29) rfl (Or.inl (Or.inr ⟨by rfl,rfl⟩)) ?_
     try simp only [Act.put,sA,sB,sC]
     refine tD (i:=20) (v:=undef) (some 30) rfl (Or.inl (Or.inr ⟨by rfl,rfl⟩)) ?_
     try simp only [Act.put,sA,sB,sC]
     refine tD (i:=21) (v:=?_) (some 31) rfl (Or.inl (Or.inl ⟨by rfl,?_⟩)) ?_
     rotate_left
     ·intro w' hSw
      (try dsimp only at hSw)
      have hs0:=(hSw.cell (p:=⟨g,off+(j+1),none⟩) hg).trans a0;have hs1:=(hSw.cell (p:=⟨g,off+j,none⟩) hg).trans a1
      go_simp<;>with_reducible rfl
     try simp only [Act.put,sA,sB,sC]
     refine wpAnyD_done (by kernel_rfl) (fun w' hSw=>?_) _
     go_wp2
     go_ret
     exact ⟨by rw [e1.out];all_goals rfl,HB.out.trans (hSw.mono HB.out.size)⟩
  ·obtain rfl:k=l.length:=by omega
   have e1:=hid (HYES.out (fun m h=>HG.out m h h))
   clear HNO HYES HG
   by_cases c1:1≤l.length
   ·rw [decide_eq_true c1] at e1
    have d1:((0:Int) < (l.length:Int))=True:=eq_true (by omega)
    have d2:(0 < l.length)=True:=eq_true (by omega)
    clear c1
    go_wp2
    go_ret
    exact ⟨by rw [e1.out];all_goals rfl,HB.out⟩
   ·rw [decide_eq_false c1] at e1
    have d1:((0:Int) < (l.length:Int))=False:=eq_false (by omega)
    have d2:(0 < l.length)=False:=eq_false (by omega)
    clear c1
    go_wp2
    go_ret
    exact ⟨by rw [e1.out];all_goals rfl,HB.out⟩
end Go.Proofs.YtnkkcknogkgdkaaGreatDoor.PaW

namespace Go.Proofs.YtnkkcknogkgdkaaGreatDoor.PaW
open Lib (hid)
open Go Go.RowKit Go.Proofs.YtnkkcknogkgdkaaGreatDoor.Mem Go.Proofs.YtnkkcknogkgdkaaGreatDoor.Pa
open Go.Proofs.YtnkkcknogkgdkaaGreatDoor.Ge (V)
open Go.Proofs.YtnkkcknogkgdkaaGreatDoor.Lex (Tok)
open Go.Proofs.YtnkkcknogkgdkaaGreatDoor.LexW (tokCells)
attribute [local go_sem ↓] Go.wp_at_zero Go.wp_at_succ

open Go.Proofs.YtnkkcknogkgdkaaGreatDoor.Ge (within)
open Go.Proofs.YtnkkcknogkgdkaaGreatDoor.PqW (writeString_k strCells_mk byteCells_app isBuilder_below b_new)
open Go.Proofs.YtnkkcknogkgdkaaGreatDoor.GeW (rwithin_any)
theorem all_false {α:Type} {p:α→Bool} {l:List α} (k:Nat) (h:k < l.length) (hp:p l[k]=false):l.all p=false:=by
 rw [List.all_eq_false]
 exact ⟨_,List.getElem_mem h,by simp [hp]⟩
theorem all_true {α:Type} {p:α→Bool} {l:List α} (h:∀ k (h:k < l.length),p l[k]=true):l.all p=true:=by
 rw [List.all_eq_true]
 intro x hx
 obtain ⟨k,hk,rfl⟩:=List.getElem_of_mem hx
 exact h k hk
end Go.Proofs.YtnkkcknogkgdkaaGreatDoor.PaW

namespace Go.Proofs.YtnkkcknogkgdkaaGreatDoor.PaW
open Lib (hid)
open Go Go.RowKit Go.Proofs.YtnkkcknogkgdkaaGreatDoor.Mem Go.Proofs.YtnkkcknogkgdkaaGreatDoor.Pa
open Go.Proofs.YtnkkcknogkgdkaaGreatDoor.Ge (V)
open Go.Proofs.YtnkkcknogkgdkaaGreatDoor.Lex (Tok)
open Go.Proofs.YtnkkcknogkgdkaaGreatDoor.LexW (tokCells)
attribute [local go_sem ↓] Go.wp_at_zero Go.wp_at_succ

open Go.Proofs.YtnkkcknogkgdkaaGreatDoor.Ge (within)
open Go.Proofs.YtnkkcknogkgdkaaGreatDoor.PqW (writeString_k strCells_mk byteCells_app isBuilder_below b_new)
open Go.Proofs.YtnkkcknogkgdkaaGreatDoor.LexW (risName_any Returns)
theorem rname_of (nm:List UInt8) (h:nm.length≤1000000) (w:World):Calls Tryz.prog 58 #[.string ⟨nm.toArray⟩] w fun e w'=>e=.returned (.bool (Lex.isName nm))∧Below w.heap.size w w':=by
 have:=risName_any ⟨nm.toArray⟩ w (by rw [str_size];exact h)
 exact this.mono fun e w' hr=>⟨hr.1,by have:=hr.2;subst this;exact Below.refl _ _⟩
end Go.Proofs.YtnkkcknogkgdkaaGreatDoor.PaW
