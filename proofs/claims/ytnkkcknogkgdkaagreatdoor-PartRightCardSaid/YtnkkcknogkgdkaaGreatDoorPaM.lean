/- Walks: whether an outline among some has too many steps; whether one is not valid. Conditions: the outlines lie in memory. -/
import Derived.Test.YtnkkcknogkgdkaaGreatDoorPaE
import Derived.Test.YtnkkcknogkgdkaaGreatDoorGeC
import Derived.Laws.StructEq
import Derived.Test.YtnkkcknogkgdkaaGreatDoorPaSize
import Derived.Test.YtnkkcknogkgdkaaGreatDoorPaL

namespace Go.Proofs.YtnkkcknogkgdkaaGreatDoor.PaW
open Lib (hid)
open Go Go.RowKit Go.Proofs.YtnkkcknogkgdkaaGreatDoor.Mem
open Go.Proofs.YtnkkcknogkgdkaaGreatDoor.Ge (V within)
attribute [local go_sem ↓] Go.wp_at_zero Go.wp_at_succ
theorem within_mm (v:V):within v 2000=(decide (max v.1 v.2≤2000)&&decide (-2000≤min v.1 v.2)):=by
 unfold within
 rw [Bool.eq_iff_iff]
 simp only [Bool.and_eq_true,decide_eq_true_eq]
 omega
set_option maxRecDepth 100000 in
theorem near_any (v:V) (w:World):Calls Tryz.prog 134 #[.agg #[.int .i64 v.1,.int .i64 v.2]] w fun e w'=>e=.returned (.bool (within v 2000))∧Below w.heap.size w w':=by
 rw [within_mm]
 obtain ⟨x,y⟩:=v
 simp only
 by_cases h1:max x y≤2000
 ·have d1:decide (max x y≤2000)=true:=decide_eq_true h1
  rw [d1,Bool.true_and]
  go_enter Tryz.func134,Tryz.ntmps134
  go_wp2_with fail
  go_ret
  exact ⟨rfl,(Below.refl _ _).alloc (Nat.le_refl _) _⟩
 ·have d1:decide (max x y≤2000)=false:=decide_eq_false h1
  rw [d1,Bool.false_and]
  go_enter Tryz.func134,Tryz.ntmps134
  go_wp2_with fail
  go_ret
  exact ⟨rfl,(Below.refl _ _).alloc (Nat.le_refl _) _⟩
end Go.Proofs.YtnkkcknogkgdkaaGreatDoor.PaW

namespace Go.Proofs.YtnkkcknogkgdkaaGreatDoor.PaW
open Lib (hid)
open Go Go.RowKit Go.Proofs.YtnkkcknogkgdkaaGreatDoor.Mem Go.Proofs.YtnkkcknogkgdkaaGreatDoor.Pa
open Go.Proofs.YtnkkcknogkgdkaaGreatDoor.Ge (V)
open Go.Proofs.YtnkkcknogkgdkaaGreatDoor.Lex (Tok)
open Go.Proofs.YtnkkcknogkgdkaaGreatDoor.LexW (tokCells)
attribute [local go_sem ↓] Go.wp_at_zero Go.wp_at_succ

open Go.Proofs.YtnkkcknogkgdkaaGreatDoor.Ge (within)
set_option maxRecDepth 100000 in
set_option maxHeartbeats 1000000 in
theorem circleOk_any (cx cy ra:Int) (A:Option Addr) (n c:Nat) (w:World) :
  Calls Tryz.prog 75 #[.agg #[.bool true,.int .i64 cx,.int .i64 cy,.int .i64 ra,.slice A n c]] w fun e w'=>e=.returned (.bool (within (cx,cy) 2000&&(decide (1≤ra)&&(decide (ra≤2000)&&decide (n=0)))))∧Below w.heap.size w w':=by
 have HN:=hid (fun W=>near_any (cx,cy) W)
 simp only at HN
 have HO:=hid (heap_new w (.cells #[.bool true,.int .i64 cx,.int .i64 cy,.int .i64 ra,.slice A n c] 55))
 have HB:=hid ((Below.refl w.heap.size w).alloc (Nat.le_refl _) (.cells #[.bool true,.int .i64 cx,.int .i64 cy,.int .i64 ra,.slice A n c] 55))
 obtain ⟨q,HQ⟩:∃ q,Hid (within (cx,cy) 2000=q):=⟨_,hid rfl⟩
 rw [HQ.out] at HN ⊢
 clear HQ
 have hn:((n:Int) == 0)=decide (n=0):=by
  rw [Bool.eq_iff_iff]
  simp
 go_enter Tryz.func75,Tryz.ntmps75
 go_upto_region 1 with fail
 generalize w.alloc (.cells #[.bool true,.int .i64 cx,.int .i64 cy,.int .i64 ra,.slice A n c] 55)=W0 at *
 have o0:=cell_of HO.out 0 _ rfl
 have o1:=cell_of HO.out 1 _ rfl
 have o2:=cell_of HO.out 2 _ rfl
 have o3:=cell_of HO.out 3 _ rfl
 have o4:=cell_of HO.out 4 _ rfl
 go_wp2_with fail
 refine (HN.out W0).mono ?_
 rintro e w1 ⟨rfl,hb⟩
 have HO1:=hid (p_below HO.out hb)
 have HB1:=hid (HB.out.trans (hb.mono HB.out.size))
 clear o0 o1 o2 o3 o4 hb
 have o0:=cell_of HO1.out 0 _ rfl
 have o1:=cell_of HO1.out 1 _ rfl
 have o2:=cell_of HO1.out 2 _ rfl
 have o3:=cell_of HO1.out 3 _ rfl
 have o4:=cell_of HO1.out 4 _ rfl
 cases q
 ·go_wp2
  go_ret
  exact ⟨rfl,HB1.out⟩
 by_cases h1:1≤ra
 case neg =>
  have d1:decide (1≤ra)=false:=decide_eq_false h1
  go_wp2
  go_ret
  exact ⟨by simp [d1],HB1.out⟩
 case pos =>
 have d1:decide (1≤ra)=true:=decide_eq_true h1
 by_cases h2:ra≤2000
 case neg =>
  have d2:decide (ra≤2000)=false:=decide_eq_false h2
  go_wp2
  go_ret
  exact ⟨by simp [d1,d2],HB1.out⟩
 case pos =>
 have d2:decide (ra≤2000)=true:=decide_eq_true h2
 go_wp2
 go_ret
 exact ⟨by simp [d1,d2],HB1.out⟩
end Go.Proofs.YtnkkcknogkgdkaaGreatDoor.PaW

namespace Go.Proofs.YtnkkcknogkgdkaaGreatDoor.PaW
open Lib (hid)
open Go Go.RowKit Go.Proofs.YtnkkcknogkgdkaaGreatDoor.Mem
theorem eql_vec (x y u v:Int) (w:World):(binOp .eql 35 (.agg #[.int .i64 x,.int .i64 y]) (.agg #[.int .i64 u,.int .i64 v])).run Tryz.prog w=.ok (.bool (decide ((x,y)=(u,v)))) w:=by
 have u3:=Tryz.underlying3
 have a3:=Tryz.isAgg3
 have z3:=Tryz.sizeOf3
 have hS : Tryz.prog.underlying 35 = some (.struct (Tryz.prog.fieldsOf 35)):=by kernel_rfl
 have hp : Tryz.prog.stoodInHeld 35 = false:=by kernel_rfl
 rw [run_eql_struct,show (10000:Nat)=9999+1 from rfl,run_equalIn_agg w 9999 35 _ _ hS hp]
 simp only [Program.fieldsOf,Tryz.underlying35]
 go_simp
 by_cases h1:x=u<;>by_cases h2:y=v<;>simp [h1,h2]
set_option maxHeartbeats 2000000 in
theorem neq_step (g h g' h':Bool) (a b c d a' b' c' d':Int) (w:World):(binOp .neq 153 (.agg #[.bool g,.int .i64 a,.int .i64 b,.int .i64 c,.int .i64 d,.bool h]) (.agg #[.bool g',.int .i64 a',.int .i64 b',.int .i64 c',.int .i64 d',.bool h'])).run Tryz.prog w=.ok (.bool (!(decide (g=g')&&(decide ((a,b)=(a',b'))&&(decide ((c,d)=(c',d'))&&decide (h=h')))))) w:=by
 have u3:=Tryz.underlying3
 have a3:=Tryz.isAgg3
 have z3:=Tryz.sizeOf3
 have u4:=Tryz.underlying4
 have a4:=Tryz.isAgg4
 have z4:=Tryz.sizeOf4
 have av:=Tryz.isAgg35
 have zv:=Tryz.sizeOf35
 have hS : Tryz.prog.underlying 35 = some (.struct (Tryz.prog.fieldsOf 35)):=by kernel_rfl
 have hp : Tryz.prog.stoodInHeld 35 = false:=by kernel_rfl
 have hS2 : Tryz.prog.underlying 153 = some (.struct (Tryz.prog.fieldsOf 153)):=by kernel_rfl
 have hp2 : Tryz.prog.stoodInHeld 153 = false:=by kernel_rfl
 have hv:∀ (x y u v:Int) (w:World),(Op.equalIn 9999 35 (.agg #[.int .i64 x,.int .i64 y]) (.agg #[.int .i64 u,.int .i64 v])).run Tryz.prog w=.ok (decide ((x,y)=(u,v))) w:=by
  intro x y u v w
  rw [show (9999:Nat)=9998+1 from rfl,run_equalIn_agg w 9998 35 _ _ hS hp]
  simp only [Program.fieldsOf,Tryz.underlying35]
  go_simp
  by_cases h1:x=u<;>by_cases h2:y=v<;>simp [h1,h2]
 rw [run_neq_struct,show (10000:Nat)=9999+1 from rfl,run_equalIn_agg w 9999 153 _ _ hS2 hp2]
 simp only [Program.fieldsOf,Tryz.underlying153]
 clear hS hp hS2 hp2
 go_simp
 by_cases h1:a=a'<;>by_cases h2:b=b'<;>by_cases h3:c=c'<;>by_cases h4:d=d'<;>by_cases h5:g=g'<;>by_cases h6:h=h'<;>simp [h1,h2,h3,h4,h5,h6]
open Go Go.RowKit Go.Proofs.YtnkkcknogkgdkaaGreatDoor.Mem Go.Proofs.YtnkkcknogkgdkaaGreatDoor.Pa
open Go.Proofs.YtnkkcknogkgdkaaGreatDoor.Ge (V)
open Go.Proofs.YtnkkcknogkgdkaaGreatDoor.Lex (Tok)
open Go.Proofs.YtnkkcknogkgdkaaGreatDoor.LexW (tokCells)
attribute [local go_sem ↓] Go.wp_at_zero Go.wp_at_succ

open Go.Proofs.YtnkkcknogkgdkaaGreatDoor.Ge (within)
theorem step_len (s:Step):(stepCells s).length=6:=rfl
theorem steps_ix:∀ l:List Step,stepsOk l=true ↔ ∀ k (h:k < l.length),stepOk (decide (k=0)) l[k]=true
 | []=>by simp [stepsOk]
 | a::r=>by
  rw [stepsOk,Bool.and_eq_true,List.all_eq_true]
  constructor
  ·rintro ⟨h1,h2⟩ k hk
   cases k with
   | zero=>exact h1
   | succ k=>exact h2 _ (List.getElem_mem _)
  ·intro h
   refine ⟨h 0 (by simp),fun x hx=>?_⟩
   obtain ⟨k,hk,rfl⟩:=List.getElem_of_mem hx
   exact h (k+1) (by simpa using hk)
set_option maxRecDepth 100000 in
set_option maxHeartbeats 2000000 in
theorem pathOk_any (cx cy ra:Int) (st:List Step) (A:Option Addr) (c:Nat) (w:World) (hr:Row w A (st.flatMap stepCells)) (hl:st.length≤1000000) :
  Calls Tryz.prog 75 #[.agg #[.bool false,.int .i64 cx,.int .i64 cy,.int .i64 ra,.slice A st.length c]] w fun e w'=>e=.returned (.bool (outlineOk ⟨false,(cx,cy),ra,st⟩))∧Below w.heap.size w w':=by
 have HNE:=hid (fun v W=>near_any v W)
 have HR:=hid hr
 have HO:=hid (heap_new w (.cells #[.bool false,.int .i64 cx,.int .i64 cy,.int .i64 ra,.slice A st.length c] 55))
 have HB:=hid ((Below.refl w.heap.size w).alloc (Nat.le_refl _) (.cells #[.bool false,.int .i64 cx,.int .i64 cy,.int .i64 ra,.slice A st.length c] 55))
 have HNO:Hid (∀ k (h:k < st.length),stepOk (decide (k=0)) st[k]=false→outlineOk ⟨false,(cx,cy),ra,st⟩=false):=hid (fun k h hn=>by
  unfold outlineOk
  simp only [Bool.false_eq_true,if_false]
  cases hs:stepsOk st
  ·rfl
  ·rw [(steps_ix st).1 hs k h] at hn
   cases hn)
 have HYES:Hid ((∀ k (h:k < st.length),stepOk (decide (k=0)) st[k]=true)→outlineOk ⟨false,(cx,cy),ra,st⟩=(decide ((cx,cy)=((0:Int),(0:Int)))&&(decide (ra=0)&&(decide (1≤st.length)&&decide (st.length≤40))))):=hid (fun h=>by
  unfold outlineOk
  simp only [Bool.false_eq_true,if_false]
  rw [(steps_ix st).2 h,Bool.true_and])
 obtain ⟨KT,HKT⟩:∃ KT,Hid (outlineOk ⟨false,(cx,cy),ra,st⟩=KT):=⟨_,hid rfl⟩
 rw [HKT.out] at HNO HYES ⊢
 clear HKT hr
 go_enter Tryz.func75,Tryz.ntmps75
 go_upto_region 1 with fail
 generalize w.alloc (.cells #[.bool false,.int .i64 cx,.int .i64 cy,.int .i64 ra,.slice A st.length c] 55)=W0 at *
 have o0:=cell_of HO.out 0 _ rfl
 have o1:=cell_of HO.out 1 _ rfl
 have o2:=cell_of HO.out 2 _ rfl
 have o3:=cell_of HO.out 3 _ rfl
 have o4:=cell_of HO.out 4 _ rfl
 go_wp2_with fail
 clear o0 o1 o2 o3 o4
 go_loopw [29] (fun v wr=>∃ k:Nat,v=.int .i64 (k:Int)∧k≤st.length∧Hid (∀ m (h:m < st.length),m < k→stepOk (decide (m=0)) st[m]=true)∧Hid (Below W0.heap.size W0 wr)) (fun v _=>st.length - (intOf v).toNat)
 case atStart=>exact ⟨0,rfl,Nat.zero_le _,hid (fun m h h0=>absurd h0 (by omega)),hid (Below.refl _ _)⟩
 case round =>
  obtain ⟨k,rfl,hk,HG,HB0⟩:=hrel
  have HBW:=hid (HB.out.trans (HB0.out.mono HB.out.size))
  by_cases hlt:k < st.length
  ·obtain ⟨g,off,rfl,hg,ca⟩:=row_get step_len (by decide) (HR.out.below HBW.out) (by omega)
   have a0:=ca k hlt 0 (by decide)
   have a1:=ca k hlt 1 (by decide)
   have a2:=ca k hlt 2 (by decide)
   have a3:=ca k hlt 3 (by decide)
   have a4:=ca k hlt 4 (by decide)
   have a5:=ca k hlt 5 (by decide)
   have HN:=hid (HNO.out k hlt)
   have HS:Hid (stepOk (decide (k=0)) st[k]=true→∀ m (h:m < st.length),m < k+1→stepOk (decide (m=0)) st[m]=true):=hid (fun hgk m h hm=>by
    rcases Nat.lt_or_ge m k with h1 | h1
    ·exact HG.out m h h1
    ·obtain rfl:m=k:=by omega
     exact hgk)
   have hk1:(0:Int)≤(k:Int):=by omega
   have hk2:(k:Int) < (st.length:Int):=by omega
   clear ca HG HNO HYES
   generalize st[k]=s at *
   obtain ⟨arc,⟨tx,ty⟩,⟨ux,uy⟩,cw⟩:=s
   simp only [stepCells,List.getElem?_cons_zero,List.getElem?_cons_succ,Nat.add_zero] at a0 a1 a2 a3 a4 a5
   have HNT:=hid (HNE.out (tx,ty))
   have HNU:=hid (HNE.out (ux,uy))
   simp only at HNT HNU
   unfold stepOk at HN HS
   simp only at HN HS
   generalize within (tx,ty) 2000=q1 at *
   generalize within (ux,uy) 2000=q2 at *
   have HSX:=hid (heap_new wr (.cells #[.bool arc,.int .i64 tx,.int .i64 ty,.int .i64 ux,.int .i64 uy,.bool cw] 153))
   have HB1:=hid (HB0.out.trans ((bel1 wr (.cells #[.bool arc,.int .i64 tx,.int .i64 ty,.int .i64 ux,.int .i64 uy,.bool cw] 153)).mono HB0.out.size))
   have HK0:Hid (((k:Int) == 0)=decide (k=0)):=hid (by rw [Bool.eq_iff_iff];simp)
   have hk0:=HK0.out
   obtain ⟨k0,hkz⟩:∃ k0,decide (k=0)=k0:=⟨_,rfl⟩
   rw [hkz] at hk0 HN HS
   clear hkz HK0
   have hnq:=fun W=>neq_step arc cw false false tx ty ux uy tx ty 0 0 W
   go_upto_region 6 with fail
   clear a0 a1 a2 a3 a4 a5
   generalize wr.alloc (.cells #[.bool arc,.int .i64 tx,.int .i64 ty,.int .i64 ux,.int .i64 uy,.bool cw] 153)=W1 at *
   have x0:=cell_of HSX.out 0 _ rfl
   have x1:=cell_of HSX.out 1 _ rfl
   have x2:=cell_of HSX.out 2 _ rfl
   have x3:=cell_of HSX.out 3 _ rfl
   have x4:=cell_of HSX.out 4 _ rfl
   have x5:=cell_of HSX.out 5 _ rfl
   go_wp2_with fail
   refine (HNT.out W1).mono ?_
   rintro e w2 ⟨rfl,hb2⟩
   have HS2:=hid (p_below HSX.out hb2)
   have HB2:=hid (HB1.out.trans (hb2.mono HB1.out.size))
   clear x0 x1 x2 x3 x4 x5 hb2
   have x0:=cell_of HS2.out 0 _ rfl
   have x1:=cell_of HS2.out 1 _ rfl
   have x2:=cell_of HS2.out 2 _ rfl
   have x3:=cell_of HS2.out 3 _ rfl
   have x4:=cell_of HS2.out 4 _ rfl
   have x5:=cell_of HS2.out 5 _ rfl
   cases q1
   ·have e1:=HN.out rfl
    subst e1
    go_wp2
    go_ret
    exact ⟨rfl,HB.out.trans (HB2.out.mono HB.out.size)⟩
   go_wp2_with fail
   refine (HNU.out w2).mono ?_
   rintro e w3 ⟨rfl,hb3⟩
   have HS3:=hid (p_below HS2.out hb3)
   have HB3:=hid (HB2.out.trans (hb3.mono HB2.out.size))
   clear x0 x1 x2 x3 x4 x5 hb3
   have x0:=cell_of HS3.out 0 _ rfl
   have x1:=cell_of HS3.out 1 _ rfl
   have x2:=cell_of HS3.out 2 _ rfl
   have x3:=cell_of HS3.out 3 _ rfl
   have x4:=cell_of HS3.out 4 _ rfl
   have x5:=cell_of HS3.out 5 _ rfl
   cases q2
   ·have e1:=HN.out rfl
    subst e1
    go_wp2
    go_ret
    exact ⟨rfl,HB.out.trans (HB3.out.mono HB.out.size)⟩
   cases arc
   ·obtain ⟨z,hz⟩:∃ z,decide ((ux,uy)=((0:Int),(0:Int)))=z:=⟨_,rfl⟩
    have hq:∀ W,(binOp .neq 153 (.agg #[.bool false,.int .i64 tx,.int .i64 ty,.int .i64 ux,.int .i64 uy,.bool cw]) (.agg #[.bool false,.int .i64 tx,.int .i64 ty,.int .i64 0,.int .i64 0,.bool false])).run Tryz.prog W=.ok (.bool (!(z && !cw))) W:=fun W=>by
     rw [hnq,hz]
     cases cw<;>simp
    rw [hz] at HN HS
    clear hnq hz
    cases z
    ·simp only [Bool.false_and,Bool.not_false] at hq
     have e1:=HN.out (by simp)
     subst e1
     go_wp2
     go_ret
     exact ⟨rfl,HB.out.trans (HB3.out.mono HB.out.size)⟩
    cases cw
    ·simp only [Bool.not_false,Bool.and_true,Bool.not_true] at hq
     cases k0
     ·have HSG:=hid (HS.out (by simp))
      clear HN HS
      go_wp2
      go_roundw
      case rel=>exact ⟨k+1,by go_num,by omega,HSG,HB3⟩
      case measure=>simp [intOf];omega
     ·have HSG:=hid (HS.out (by simp))
      clear HN HS
      go_wp2
      go_roundw
      case rel=>exact ⟨k+1,by go_num,by omega,HSG,HB3⟩
      case measure=>simp [intOf];omega
    ·simp only [Bool.not_true,Bool.and_false,Bool.not_false] at hq
     have e1:=HN.out (by simp)
     subst e1
     go_wp2
     go_ret
     exact ⟨rfl,HB.out.trans (HB3.out.mono HB.out.size)⟩
   ·clear hnq
    cases k0
    ·have HSG:=hid (HS.out (by simp))
     clear HN HS
     go_wp2
     go_roundw
     case rel=>exact ⟨k+1,by go_num,by omega,HSG,HB3⟩
     case measure=>simp [intOf];omega
    ·have e1:=HN.out (by simp)
     subst e1
     go_wp2
     go_ret
     exact ⟨rfl,HB.out.trans (HB3.out.mono HB.out.size)⟩
  ·obtain rfl:k=st.length:=by omega
   have e1:=hid (HYES.out (fun m h=>HG.out m h h))
   have HOW:=hid (p_below HO.out HB0.out)
   have o0:=cell_of HOW.out 0 _ rfl
   have o1:=cell_of HOW.out 1 _ rfl
   have o2:=cell_of HOW.out 2 _ rfl
   have o3:=cell_of HOW.out 3 _ rfl
   have o4:=cell_of HOW.out 4 _ rfl
   have hq:=fun W=>eql_vec cx cy 0 0 W
   have hra:(ra == 0)=decide (ra=0):=by rw [Bool.eq_iff_iff];simp
   have d1:decide ((1:Int)≤(st.length:Int))=decide (1≤st.length):=by simp only [decide_eq_decide];omega
   have d2:decide ((st.length:Int)≤40)=decide (st.length≤40):=by simp only [decide_eq_decide];omega
   obtain ⟨z,hz⟩:∃ z,decide ((cx,cy)=((0:Int),(0:Int)))=z:=⟨_,rfl⟩
   obtain ⟨z2,hz2⟩:∃ z,decide (ra=0)=z:=⟨_,rfl⟩
   obtain ⟨z3,hz3⟩:∃ z,decide (1≤st.length)=z:=⟨_,rfl⟩
   have HZ:Hid ((decide ((cx,cy)=((0:Int),(0:Int)))&&(decide (ra=0)&&(decide (1≤st.length)&&decide (st.length≤40))))=(z&&(z2&&(z3&&decide (st.length≤40))))):=hid (by rw [hz,hz2,hz3])
   simp only [hz] at hq
   rw [hz2] at hra
   rw [hz3] at d1
   have E2:=hid (e1.out.trans HZ.out)
   clear hz hz2 hz3 HZ e1 HYES HNO
   cases z
   ·have e3:KT=false:=E2.out
    subst e3
    go_wp2
    go_ret
    exact ⟨rfl,HBW.out⟩
   cases z2
   ·have e3:KT=false:=E2.out
    subst e3
    go_wp2
    go_ret
    exact ⟨rfl,HBW.out⟩
   cases z3
   ·have e3:KT=false:=E2.out
    subst e3
    go_wp2
    go_ret
    exact ⟨rfl,HBW.out⟩
   have e3:KT=decide (st.length≤40):=E2.out
   subst e3
   go_wp2
   go_ret
   exact ⟨rfl,HBW.out⟩
end Go.Proofs.YtnkkcknogkgdkaaGreatDoor.PaW

namespace Go.Proofs.YtnkkcknogkgdkaaGreatDoor.PaW
open Lib (hid)
open Go Go.RowKit Go.Proofs.YtnkkcknogkgdkaaGreatDoor.Mem Go.Proofs.YtnkkcknogkgdkaaGreatDoor.Pa
theorem validOutline_any (o:Outline) (A:Option Addr) (c:Nat) (w:World) (hr:Row w A (o.steps.flatMap stepCells)) (hl:o.steps.length≤1000000) :
  Calls Tryz.prog 75 #[outV o A c] w fun e w'=>e=.returned (.bool (outlineOk o))∧Below w.heap.size w w':=by
 obtain ⟨ci,⟨cx,cy⟩,ra,st⟩:=o
 cases ci
 ·exact pathOk_any cx cy ra st A c w hr hl
 ·exact circleOk_any cx cy ra A st.length c w
open Go.Proofs.YtnkkcknogkgdkaaGreatDoor.Ge (V)
open Go.Proofs.YtnkkcknogkgdkaaGreatDoor.Lex (Tok)
open Go.Proofs.YtnkkcknogkgdkaaGreatDoor.LexW (tokCells)
attribute [local go_sem ↓] Go.wp_at_zero Go.wp_at_succ

def idx {α:Type} (p:α→Bool):List α→Nat→Int
 | [],_ => -1
 | x::r,i=>if p x then (i:Int) else idx p r (i+1)
theorem idx_ge {α:Type} (p:α→Bool):∀ (l:List α) (i:Nat),decide ((0:Int)≤idx p l i)=l.any p
 | [],_=>rfl
 | x::r,i=>by
  unfold idx
  rw [List.any_cons]
  cases hp:p x
  ·simp only [Bool.false_eq_true,if_false,Bool.false_or];exact idx_ge p r (i+1)
  ·simp
theorem idx_no {α:Type} (p:α→Bool) (l:List α) (k:Nat) (h:k < l.length) (hp:p l[k]=false):idx p (l.drop k) k=idx p (l.drop (k+1)) (k+1):=by
 rw [List.drop_eq_getElem_cons h,idx,hp];rfl
theorem idx_yes {α:Type} (p:α→Bool) (l:List α) (k:Nat) (h:k < l.length) (hp:p l[k]=true):idx p (l.drop k) k=(k:Int):=by
 rw [List.drop_eq_getElem_cons h,idx,hp];rfl

theorem lexF_len:∀ (f:Nat) (l:List UInt8) (p:Nat),(Lex.lexF f l p).toks.length≤f
 | 0,_,_=>by simp [Lex.lexF]
 | f+1,[],_=>by simp [Lex.lexF]
 | f+1,c::r,p=>by
  simp only [Lex.lexF]
  split
  ·exact Nat.le_succ_of_le (lexF_len f _ _)
  ·split
   ·exact Nat.le_succ_of_le (lexF_len f _ _)
   ·split
    ·unfold Lex.LR.cons
     split
     ·simp only [List.length_cons]
      have:=lexF_len f ((c::r).drop (Lex.tokL (c::r)).len) (p+(Lex.tokL (c::r)).len)
      omega
     ·simp
    ·simp
theorem tokens_len (l:List UInt8):(Lex.tokens l).toks.length≤20000:=by
 unfold Lex.tokens
 split
 ·simp
 ·have:=lexF_len l.length l 0
  unfold Lex.lex
  omega

/-- Sources in memory. -/
def SrcsIn (TT TO TS:TypeId) (base:Nat) (w:World) (A:Option Addr) (ms:List SrcM):Prop:=At TT base w A (ms.flatMap srcCells)∧∀ m∈ms,SrcIn TO TS base w m
theorem SrcsIn.below {TT TO TS:TypeId} {base:Nat} {w w':World} {A:Option Addr} {ms:List SrcM} (h:SrcsIn TT TO TS base w A ms) (hb:Below w.heap.size w w'):SrcsIn TT TO TS base w' A ms:=⟨h.1.below hb,fun m hm=>(h.2 m hm).below hb⟩
theorem long_any {TS:TypeId} {base:Nat} (m:OutM) (w:World) (_ho:OutIn TS base w m) :
  Calls Tryz.prog 41 #[outV m.o m.A m.d] w fun e w'=>e=.returned (.bool (long m.o))∧Below w.heap.size w w':=by
 have HB:=hid (bel1 w (.cells #[.bool m.o.circle,.int .i64 m.o.center.1,.int .i64 m.o.center.2,.int .i64 m.o.radius,.slice m.A m.o.steps.length m.d] 55))
 have HN:=hid (heap_new w (.cells #[.bool m.o.circle,.int .i64 m.o.center.1,.int .i64 m.o.center.2,.int .i64 m.o.radius,.slice m.A m.o.steps.length m.d] 55))
 have d1:decide ((40:Int) < (m.o.steps.length:Int))=decide (40 < m.o.steps.length):=by simp only [decide_eq_decide];omega
 have o4:=cell_of HN.out 4 _ rfl
 unfold outV long
 go_enter Tryz.func41,Tryz.ntmps41
 go_wp2
 go_ret
 exact ⟨rfl,HB.out⟩
set_option maxRecDepth 100000 in
theorem valid1_any {TS:TypeId} {base:Nat} (m:OutM) (w:World) (ho:OutIn TS base w m) :
  Calls Tryz.prog 76 #[outV m.o m.A m.d] w fun e w'=>e=.returned (.bool (!outlineOk m.o))∧Below w.heap.size w w':=by
 have HB:=hid (bel1 w (.cells #[.bool m.o.circle,.int .i64 m.o.center.1,.int .i64 m.o.center.2,.int .i64 m.o.radius,.slice m.A m.o.steps.length m.d] 55))
 have HN:=hid (heap_new w (.cells #[.bool m.o.circle,.int .i64 m.o.center.1,.int .i64 m.o.center.2,.int .i64 m.o.radius,.slice m.A m.o.steps.length m.d] 55))
 have HV:=hid (validOutline_any m.o m.A m.d _ (ho.1.1.below HB.out) ho.2.2)
 unfold outV at HV ⊢
 have o0:=cell_of HN.out 0 _ rfl
 have o1:=cell_of HN.out 1 _ rfl
 have o2:=cell_of HN.out 2 _ rfl
 have o3:=cell_of HN.out 3 _ rfl
 have o4:=cell_of HN.out 4 _ rfl
 generalize outlineOk m.o=q at *
 clear ho
 go_enter Tryz.func76,Tryz.ntmps76
 go_wp2_with fail
 refine HV.out.mono ?_
 rintro e w2 ⟨rfl,hb⟩
 go_wp2
 go_ret
 exact ⟨rfl,HB.out.trans (hb.mono HB.out.size)⟩
set_option maxRecDepth 100000 in
set_option maxHeartbeats 1000000 in
theorem longIndex_any {TS:TypeId} {base:Nat} (l:List OutM) (A:Option Addr) (c:Nat) (w:World) (hr:Row w A (l.flatMap outCells)) (ho:∀ m∈l,OutIn TS base w m) (hl:l.length≤1000000) :
  Calls Tryz.prog 89 #[.slice A l.length c,.func (.func 41) #[] #[]] w fun e w'=>e=.returned (.int .i64 (idx (fun m:OutM=>long m.o) l 0))∧Below w.heap.size w w':=by
 have HR:=hid hr
 have HO:=hid ho
 clear hr ho
 have hst:=hid (show idx (fun m:OutM=>long m.o) l 0=idx (fun m:OutM=>long m.o) (l.drop 0) 0 by simp)
 go_enter Tryz.func89,Tryz.ntmps89
 go_wp2
 go_loopw [5,8] (fun _ t wr=>∃ k:Nat,k≤l.length∧t=.int .i64 k∧Hid (idx (fun m:OutM=>long m.o) l 0=idx (fun m:OutM=>long m.o) (l.drop k) k)∧Below w.heap.size w wr) (fun _ t _=>l.length - (intOf t).toNat)
 case atStart=>exact ⟨0,Nat.zero_le _,rfl,hst,Below.refl _ _⟩
 case round =>
  obtain ⟨k,hk,rfl,hd,hbel⟩:=hrel
  by_cases hlt:k < l.length
  ·obtain ⟨g,off,rfl,hg,ca⟩:=row_get out_len (by decide) HR.out (by omega)
   have a0:=(hbel.cell (p:=⟨g,off+k*5,none⟩) hg).trans (ca k hlt 0 (by decide))
   have a1:=(hbel.cell (p:=⟨g,off+k*5+1,none⟩) hg).trans (ca k hlt 1 (by decide))
   have a2:=(hbel.cell (p:=⟨g,off+k*5+2,none⟩) hg).trans (ca k hlt 2 (by decide))
   have a3:=(hbel.cell (p:=⟨g,off+k*5+3,none⟩) hg).trans (ca k hlt 3 (by decide))
   have a4:=(hbel.cell (p:=⟨g,off+k*5+4,none⟩) hg).trans (ca k hlt 4 (by decide))
   have hno:=hid (idx_no (fun m:OutM=>long m.o) l k hlt)
   have hyes:=hid (idx_yes (fun m:OutM=>long m.o) l k hlt)
   have HOK:=hid ((HO.out l[k] (List.getElem_mem _)).below hbel)
   have HM:=hid (fun W (hW:OutIn TS base W l[k])=>long_any l[k] W hW)
   have hk1:(0:Int)≤(k:Int):=by omega
   have hk2:(k:Int) < (l.length:Int):=by omega
   clear ca
   generalize l[k]=m at *
   obtain ⟨⟨ci,⟨mx,my⟩,ra,st⟩,mA,md⟩:=m
   simp only [outCells,List.getElem?_cons_zero,List.getElem?_cons_succ] at a0 a1 a2 a3 a4
   unfold outV at HM
   simp only at HM hno hyes
   generalize long ⟨ci,(mx,my),ra,st⟩=b at *
   cases b
   ·go_wp2_with fail
    refine (HM.out _ HOK.out).mono ?_
    rintro e w2 ⟨rfl,hb2⟩
    have HB2:=hid (hbel.trans (hb2.mono hbel.size))
    clear hb2
    go_wp2
    go_roundw
    case rel=>exact ⟨k+1,hlt,by go_num,hid (hd.out.trans (hno.out trivial)),HB2.out⟩
    case measure=>simp [intOf];omega
   ·go_wp2_with fail
    refine (HM.out _ HOK.out).mono ?_
    rintro e w2 ⟨rfl,hb2⟩
    have HB2:=hid (hbel.trans (hb2.mono hbel.size))
    clear hb2
    go_wp2
    go_ret
    rw [hd.out,hyes.out trivial]
    exact ⟨rfl,HB2.out⟩
  ·obtain rfl:k=l.length:=by omega
   go_wp2
   go_ret
   rw [hd.out,List.drop_length]
   exact ⟨rfl,hbel⟩
set_option maxRecDepth 100000 in
theorem longAny_any {TS:TypeId} {base:Nat} (l:List OutM) (A:Option Addr) (c:Nat) (w:World) (hr:Row w A (l.flatMap outCells)) (ho:∀ m∈l,OutIn TS base w m) (hl:l.length≤1000000) :
  Calls Tryz.prog 42 #[.slice A l.length c,.func (.func 41) #[] #[]] w fun e w'=>e=.returned (.bool (l.any fun m=>long m.o))∧Below w.heap.size w w':=by
 have hi:=hid (longIndex_any l A c w hr ho hl)
 have hq:=hid (idx_ge (fun m:OutM=>long m.o) l 0)
 clear hr ho
 go_enter Tryz.func42,Tryz.ntmps42
 go_wp2_with fail
 refine hi.out.mono ?_
 rintro e w1 ⟨rfl,hb1⟩
 go_wp2
 go_ret
 rw [hq.out]
 exact ⟨rfl,hb1⟩
set_option maxRecDepth 100000 in
set_option maxHeartbeats 1000000 in
theorem badIndex_any {TS:TypeId} {base:Nat} (l:List OutM) (A:Option Addr) (c:Nat) (w:World) (hr:Row w A (l.flatMap outCells)) (ho:∀ m∈l,OutIn TS base w m) (hl:l.length≤1000000) :
  Calls Tryz.prog 89 #[.slice A l.length c,.func (.func 76) #[] #[]] w fun e w'=>e=.returned (.int .i64 (idx (fun m:OutM => !outlineOk m.o) l 0))∧Below w.heap.size w w':=by
 have HR:=hid hr
 have HO:=hid ho
 clear hr ho
 have hst:=hid (show idx (fun m:OutM => !outlineOk m.o) l 0=idx (fun m:OutM => !outlineOk m.o) (l.drop 0) 0 by simp)
 go_enter Tryz.func89,Tryz.ntmps89
 go_wp2
 go_loopw [5,8] (fun _ t wr=>∃ k:Nat,k≤l.length∧t=.int .i64 k∧Hid (idx (fun m:OutM => !outlineOk m.o) l 0=idx (fun m:OutM => !outlineOk m.o) (l.drop k) k)∧Below w.heap.size w wr) (fun _ t _=>l.length - (intOf t).toNat)
 case atStart=>exact ⟨0,Nat.zero_le _,rfl,hst,Below.refl _ _⟩
 case round =>
  obtain ⟨k,hk,rfl,hd,hbel⟩:=hrel
  by_cases hlt:k < l.length
  ·obtain ⟨g,off,rfl,hg,ca⟩:=row_get out_len (by decide) HR.out (by omega)
   have a0:=(hbel.cell (p:=⟨g,off+k*5,none⟩) hg).trans (ca k hlt 0 (by decide))
   have a1:=(hbel.cell (p:=⟨g,off+k*5+1,none⟩) hg).trans (ca k hlt 1 (by decide))
   have a2:=(hbel.cell (p:=⟨g,off+k*5+2,none⟩) hg).trans (ca k hlt 2 (by decide))
   have a3:=(hbel.cell (p:=⟨g,off+k*5+3,none⟩) hg).trans (ca k hlt 3 (by decide))
   have a4:=(hbel.cell (p:=⟨g,off+k*5+4,none⟩) hg).trans (ca k hlt 4 (by decide))
   have hno:=hid (idx_no (fun m:OutM => !outlineOk m.o) l k hlt)
   have hyes:=hid (idx_yes (fun m:OutM => !outlineOk m.o) l k hlt)
   have HOK:=hid ((HO.out l[k] (List.getElem_mem _)).below hbel)
   have HM:=hid (fun W (hW:OutIn TS base W l[k])=>valid1_any l[k] W hW)
   have hk1:(0:Int)≤(k:Int):=by omega
   have hk2:(k:Int) < (l.length:Int):=by omega
   clear ca
   generalize l[k]=m at *
   obtain ⟨⟨ci,⟨mx,my⟩,ra,st⟩,mA,md⟩:=m
   simp only [outCells,List.getElem?_cons_zero,List.getElem?_cons_succ] at a0 a1 a2 a3 a4
   unfold outV at HM
   simp only at HM hno hyes
   generalize (!outlineOk ⟨ci,(mx,my),ra,st⟩)=b at *
   cases b
   ·go_wp2_with fail
    refine (HM.out _ HOK.out).mono ?_
    rintro e w2 ⟨rfl,hb2⟩
    have HB2:=hid (hbel.trans (hb2.mono hbel.size))
    clear hb2
    go_wp2
    go_roundw
    case rel=>exact ⟨k+1,hlt,by go_num,hid (hd.out.trans (hno.out trivial)),HB2.out⟩
    case measure=>simp [intOf];omega
   ·go_wp2_with fail
    refine (HM.out _ HOK.out).mono ?_
    rintro e w2 ⟨rfl,hb2⟩
    have HB2:=hid (hbel.trans (hb2.mono hbel.size))
    clear hb2
    go_wp2
    go_ret
    rw [hd.out,hyes.out trivial]
    exact ⟨rfl,HB2.out⟩
  ·obtain rfl:k=l.length:=by omega
   go_wp2
   go_ret
   rw [hd.out,List.drop_length]
   exact ⟨rfl,hbel⟩
set_option maxRecDepth 100000 in
theorem badAny_any {TS:TypeId} {base:Nat} (l:List OutM) (A:Option Addr) (c:Nat) (w:World) (hr:Row w A (l.flatMap outCells)) (ho:∀ m∈l,OutIn TS base w m) (hl:l.length≤1000000) :
  Calls Tryz.prog 42 #[.slice A l.length c,.func (.func 76) #[] #[]] w fun e w'=>e=.returned (.bool (l.any fun m => !outlineOk m.o))∧Below w.heap.size w w':=by
 have hi:=hid (badIndex_any l A c w hr ho hl)
 have hq:=hid (idx_ge (fun m:OutM => !outlineOk m.o) l 0)
 clear hr ho
 go_enter Tryz.func42,Tryz.ntmps42
 go_wp2_with fail
 refine hi.out.mono ?_
 rintro e w1 ⟨rfl,hb1⟩
 go_wp2
 go_ret
 rw [hq.out]
 exact ⟨rfl,hb1⟩
end Go.Proofs.YtnkkcknogkgdkaaGreatDoor.PaW
