/- Walks: the program's order of points. Conditions: none. -/
import Derived.Test.YtnmmhcchpcbeeaaGreatProg
import Derived.Test.YtnmmhcchpcbeeaaGreatGeH
import Derived.Test.YtnmmhcchpcbeeaaGreatMem2
import Derived.WalkLawsBesides
import Derived.Lib.Hide
import Derived.Deep.RegionHeld3
import Derived.Deep.DrawnRows
import Derived.Deep.CutRange

namespace Go.Proofs.YtnmmhcchpcbeeaaGreat.GeW
open Lib (hid)
open Go Go.RowKit Go.Proofs.YtnmmhcchpcbeeaaGreat.Mem Go.Proofs.YtnmmhcchpcbeeaaGreat.Ge
attribute [local go_sem ↓] Go.wp_at_zero Go.wp_at_succ
theorem lt_of_block {w:World} {b:Nat} {o:Obj} (h:w.heap[b]? = some o):b < w.heap.size:=by
 rcases Nat.lt_or_ge b w.heap.size with hlt | hge
 ·exact hlt
 ·rw [Array.getElem?_eq_none hge] at h;cases h
theorem heap_alloc_new (w:World) (o:Obj):(w.alloc o).heap[w.heap.size]? = some o:=Array.getElem?_push_size
theorem heap_alloc_old (w:World) (o:Obj) {b:Nat} (h:b < w.heap.size):(w.alloc o).heap[b]? = w.heap[b]?:=((Below.refl w.heap.size w).alloc (Nat.le_refl _) o).block b h
theorem pair_at {w w':World} {b:Nat} {x y:Value} {t:TypeId} (h:w.heap[b]? = some (.cells #[x,y] t (0,0))) (hb:Below w.heap.size w w'):w'.cell? ⟨b,0,none⟩=some x∧w'.cell? ⟨b,1,none⟩=some y:=by
 have h':=(hb.block b (lt_of_block h)).trans h
 constructor<;>simp [World.cell?,h']
theorem three_vecs (w:World) (o1 o2 o3:Obj):(((w.alloc o1).alloc o2).alloc o3).heap[w.heap.size]? = some o1∧(((w.alloc o1).alloc o2).alloc o3).heap[w.heap.size+1]? = some o2∧(((w.alloc o1).alloc o2).alloc o3).heap[w.heap.size+1+1]? = some o3∧Below w.heap.size w (((w.alloc o1).alloc o2).alloc o3):=by
 have e1:(w.alloc o1).heap.size=w.heap.size+1:=by simp
 have e2:((w.alloc o1).alloc o2).heap.size=w.heap.size+1+1:=by simp
 refine ⟨?_,?_,?_,(((Below.refl _ _).alloc (Nat.le_refl _) _).alloc (by simp) _).alloc (by simp;omega) _⟩
 ·rw [heap_alloc_old _ _ (by rw [e2];omega),heap_alloc_old _ _ (by rw [e1];omega)];exact heap_alloc_new _ _
 ·rw [heap_alloc_old _ _ (by rw [e2];omega),← e1];exact heap_alloc_new _ _
 ·rw [← e2];exact heap_alloc_new _ _
theorem below_drew {B:Nat} {a w:World} (h:Below B a w):Below B a w.drew:=⟨h.os,h.tape,h.output,h.size,h.block⟩
theorem mul_small {a b:Int} (ha : -1000000≤a∧a≤1000000) (hb : -1000000≤b∧b≤1000000) : -4000000000000000000≤a*b∧a*b≤4000000000000000000:=by
 have h1:(a*b).natAbs≤1000000*1000000:=by
  rw [Int.natAbs_mul]
  exact Nat.mul_le_mul (by omega) (by omega)
 omega
set_option maxRecDepth 100000 in
theorem sub_any (x y u v:Int) (w:World) (hx : -1000000000000≤x∧x≤1000000000000) (hy : -1000000000000≤y∧y≤1000000000000) (hu : -1000000000000≤u∧u≤1000000000000) (hv : -1000000000000≤v∧v≤1000000000000) :
  Calls Tryz.prog 94 #[.agg #[.int .i64 x,.int .i64 y],.agg #[.int .i64 u,.int .i64 v]] w fun e w'=>e=.returned (.agg #[.int .i64 (x - u),.int .i64 (y - v)])∧Below w.heap.size w w':=by
 obtain ⟨hx1,hx2⟩:=hx
 obtain ⟨hy1,hy2⟩:=hy
 obtain ⟨hu1,hu2⟩:=hu
 obtain ⟨hv1,hv2⟩:=hv
 go_enter Tryz.func94,Tryz.ntmps94
 go_wp2
 refine bodyPost_ret (v:=.agg #[.int .i64 (x - u),.int .i64 (y - v)]) (by simp [results,Tryz.results94,go_sem]) rfl ⟨rfl,?_⟩
 exact (((Below.refl _ _).alloc (Nat.le_refl _) _).alloc (by simp) _).alloc (by simp;omega) _
set_option maxRecDepth 100000 in
theorem rsub_any (x y u v:Int) (w:World) (hx : -1000000000000≤x∧x≤1000000000000) (hy : -1000000000000≤y∧y≤1000000000000) (hu : -1000000000000≤u∧u≤1000000000000) (hv : -1000000000000≤v∧v≤1000000000000) :
  Calls Tryz.prog 40 #[.agg #[.int .i64 x,.int .i64 y],.agg #[.int .i64 u,.int .i64 v]] w fun e w'=>e=.returned (.agg #[.int .i64 (x - u),.int .i64 (y - v)])∧Below w.heap.size w w':=by
 obtain ⟨hx1,hx2⟩:=hx
 obtain ⟨hy1,hy2⟩:=hy
 obtain ⟨hu1,hu2⟩:=hu
 obtain ⟨hv1,hv2⟩:=hv
 go_enter Tryz.func40,Tryz.ntmps40
 go_wp2
 refine bodyPost_ret (v:=.agg #[.int .i64 (x - u),.int .i64 (y - v)]) (by simp [results,Tryz.results40,go_sem]) rfl ⟨rfl,?_⟩
 exact (((Below.refl _ _).alloc (Nat.le_refl _) _).alloc (by simp) _).alloc (by simp;omega) _
set_option maxRecDepth 100000 in
theorem cross_any (x y u v:Int) (w:World) (h1 : -4000000000000000000≤x*v∧x*v≤4000000000000000000) (h2 : -4000000000000000000≤y*u∧y*u≤4000000000000000000) :
  Calls Tryz.prog 149 #[.agg #[.int .i64 x,.int .i64 y],.agg #[.int .i64 u,.int .i64 v]] w fun e w'=>e=.returned (.int .i64 (x*v - y*u))∧Below w.heap.size w w':=by
 obtain ⟨a1,a2⟩:=h1
 obtain ⟨b1,b2⟩:=h2
 have WW1:IntKind.i64.wrap (x*v)=x*v:=by rw [IntKind.wrap_i64];omega
 have WW2:IntKind.i64.wrap (y*u)=y*u:=by rw [IntKind.wrap_i64];omega
 have WW3:IntKind.i64.wrap (x*v - y*u)=x*v - y*u:=by rw [IntKind.wrap_i64];omega
 have HB:=hid (((Below.refl w.heap.size w).alloc (Nat.le_refl _) (.cells #[.int .i64 x,.int .i64 y] 53)).alloc (by simp) (.cells #[.int .i64 u,.int .i64 v] 53))
 clear a1 a2 b1 b2
 go_enter Tryz.func149,Tryz.ntmps149
 go_wp2
 go_ret
 exact ⟨rfl,HB.out⟩
set_option maxRecDepth 100000 in
theorem rcross_any (x y u v:Int) (w:World) (h1 : -4000000000000000000≤x*v∧x*v≤4000000000000000000) (h2 : -4000000000000000000≤y*u∧y*u≤4000000000000000000) :
  Calls Tryz.prog 157 #[.agg #[.int .i64 x,.int .i64 y],.agg #[.int .i64 u,.int .i64 v]] w fun e w'=>e=.returned (.int .i64 (x*v - y*u))∧Below w.heap.size w w':=by
 obtain ⟨a1,a2⟩:=h1
 obtain ⟨b1,b2⟩:=h2
 have WW1:IntKind.i64.wrap (x*v)=x*v:=by rw [IntKind.wrap_i64];omega
 have WW2:IntKind.i64.wrap (y*u)=y*u:=by rw [IntKind.wrap_i64];omega
 have WW3:IntKind.i64.wrap (x*v - y*u)=x*v - y*u:=by rw [IntKind.wrap_i64];omega
 have HB:=hid (((Below.refl w.heap.size w).alloc (Nat.le_refl _) (.cells #[.int .i64 x,.int .i64 y] 53)).alloc (by simp) (.cells #[.int .i64 u,.int .i64 v] 53))
 clear a1 a2 b1 b2
 go_enter Tryz.func157,Tryz.ntmps157
 go_wp2
 go_ret
 exact ⟨rfl,HB.out⟩
theorem nan_any (a:Int) (w:World):Calls Tryz.prog 171 #[.int .i64 a] w fun e w'=>e=.returned (.bool false)∧w'=w:=by
 go_enter Tryz.func171,Tryz.ntmps171
 go_wp2
 go_ret
 exact ⟨rfl,rfl⟩
def cmp3 (a b:Int):Int:=if a < b then -1 else if b < a then 1 else 0
theorem ccmp_any (a b:Int) (w:World):Calls Tryz.prog 119 #[.int .i64 a,.int .i64 b] w fun e w'=>e=.returned (.int .i64 (cmp3 a b))∧w'=w:=by
 have HN:=hid (fun a w=>nan_any a w)
 unfold cmp3
 by_cases h1:a < b
 ·have d1:decide (a < b)=true:=decide_eq_true h1
  rw [if_pos h1]
  clear h1
  go_enter Tryz.func119,Tryz.ntmps119
  go_wp2_with (go_at_call 171;refine (HN.out _ _).mono ?_;rintro e w1 ⟨rfl,rfl⟩)
  go_ret
  exact ⟨rfl,rfl⟩
 ·have d1:decide (a < b)=false:=decide_eq_false h1
  rw [if_neg h1]
  clear h1
  by_cases h2:b < a
  ·have d2:decide (b < a)=true:=decide_eq_true h2
   rw [if_pos h2]
   clear h2
   go_enter Tryz.func119,Tryz.ntmps119
   go_wp2_with (go_at_call 171;refine (HN.out _ _).mono ?_;rintro e w1 ⟨rfl,rfl⟩)
   go_ret
   exact ⟨rfl,rfl⟩
  ·have d2:decide (b < a)=false:=decide_eq_false h2
   rw [if_neg h2]
   clear h2
   go_enter Tryz.func119,Tryz.ntmps119
   go_wp2_with (go_at_call 171;refine (HN.out _ _).mono ?_;rintro e w1 ⟨rfl,rfl⟩)
   go_ret
   exact ⟨rfl,rfl⟩
theorem cmp3_zero (n:Int):cmp3 n 0=sgn n:=by
 unfold cmp3 sgn
 split
 ·rfl
 ·split
  ·rw [if_neg (by omega)]
  ·rw [if_pos (by omega)]
theorem ccmp0_any (n:Int) (w:World):Calls Tryz.prog 119 #[.int .i64 n,.int .i64 0] w fun e w'=>e=.returned (.int .i64 (sgn n))∧w'=w:=by
 rw [← cmp3_zero]
 exact ccmp_any n 0 w
theorem sign_any (n:Int) (w:World):Calls Tryz.prog 173 #[.int .i64 n] w fun e w'=>e=.returned (.int .i64 (sgn n))∧w'=w:=by
 unfold sgn
 by_cases h1:n < 0
 ·rw [if_pos h1]
  have d1:decide ((0:Int) < n)=false:=decide_eq_false (by omega)
  have d2:decide (n < (0:Int))=true:=decide_eq_true h1
  clear h1
  go_enter Tryz.func173,Tryz.ntmps173
  go_wp2
  go_ret
  exact ⟨rfl,rfl⟩
 ·rw [if_neg h1]
  have d2:decide (n < (0:Int))=false:=decide_eq_false h1
  by_cases h2:n=0
  ·subst h2
   clear h1 d2
   go_enter Tryz.func173,Tryz.ntmps173
   go_wp2
   go_ret
   exact ⟨rfl,rfl⟩
  ·rw [if_neg h2]
   have d1:decide ((0:Int) < n)=true:=decide_eq_true (by omega)
   clear h1 h2
   go_enter Tryz.func173,Tryz.ntmps173
   go_wp2
   go_ret
   exact ⟨rfl,rfl⟩
set_option maxRecDepth 100000 in
set_option maxHeartbeats 2000000 in
theorem turn_any (x y u v p q:Int) (w:World) (hx : -100000≤x∧x≤100000) (hy : -100000≤y∧y≤100000) (hu : -100000≤u∧u≤100000) (hv : -100000≤v∧v≤100000) (hp : -100000≤p∧p≤100000) (hq : -100000≤q∧q≤100000) :
  Calls Tryz.prog 130 #[.agg #[.int .i64 x,.int .i64 y],.agg #[.int .i64 u,.int .i64 v],.agg #[.int .i64 p,.int .i64 q]] w fun e w'=>e=.returned (.int .i64 (turn (x,y) (u,v) (p,q)))∧Below w.heap.size w w':=by
 have HS1:=hid (fun W=>sub_any u v x y W (by omega) (by omega) (by omega) (by omega))
 have HS2:=hid (fun W=>sub_any p q x y W (by omega) (by omega) (by omega) (by omega))
 have HCR:=hid (fun W=>cross_any (u - x) (v - y) (p - x) (q - y) W (mul_small (by omega) (by omega)) (mul_small (by omega) (by omega)))
 have HT:Hid (turn (x,y) (u,v) (p,q)=sgn ((u - x)*(q - y) - (v - y)*(p - x))):=hid rfl
 rw [HT.out]
 have HO:=hid (three_vecs w (.cells #[.int .i64 x,.int .i64 y] 53) (.cells #[.int .i64 u,.int .i64 v] 53) (.cells #[.int .i64 p,.int .i64 q] 53))
 have HSG:=hid (fun W=>ccmp0_any ((u - x)*(q - y) - (v - y)*(p - x)) W)
 clear hx hy hu hv hp hq
 go_enter Tryz.func130,Tryz.ntmps130
 go_upto_region 1 with fail
 generalize ((w.alloc (.cells #[.int .i64 x,.int .i64 y] 53)).alloc (.cells #[.int .i64 u,.int .i64 v] 53)).alloc (.cells #[.int .i64 p,.int .i64 q] 53)=W at *
 have CS:Hid (∀ w',Below W.heap.size W w'→w'.cell? ⟨w.heap.size,0,none⟩=some (.int .i64 x)∧w'.cell? ⟨w.heap.size,1,none⟩=some (.int .i64 y)∧w'.cell? ⟨w.heap.size+1,0,none⟩=some (.int .i64 u)∧w'.cell? ⟨w.heap.size+1,1,none⟩=some (.int .i64 v)∧w'.cell? ⟨w.heap.size+1+1,0,none⟩=some (.int .i64 p)∧w'.cell? ⟨w.heap.size+1+1,1,none⟩=some (.int .i64 q)∧Below W.heap.size W w'):=hid (fun w' hb=>by
  obtain ⟨a0,a1⟩:=pair_at HO.out.1 hb
  obtain ⟨b0,b1⟩:=pair_at HO.out.2.1 hb
  obtain ⟨c0,c1⟩:=pair_at HO.out.2.2.1 hb
  exact ⟨a0,a1,b0,b1,c0,c1,hb⟩)
 have tok:=hid trivial
 obtain ⟨q0,q1,q2,q3,q4,q5,q6⟩:=CS.out W (Below.refl _ _)
 go_region_held3 (fun w'=>w'.cell? ⟨w.heap.size,0,none⟩=some (.int .i64 x)∧w'.cell? ⟨w.heap.size,1,none⟩=some (.int .i64 y)∧w'.cell? ⟨w.heap.size+1,0,none⟩=some (.int .i64 u)∧w'.cell? ⟨w.heap.size+1,1,none⟩=some (.int .i64 v)∧w'.cell? ⟨w.heap.size+1+1,0,none⟩=some (.int .i64 p)∧w'.cell? ⟨w.heap.size+1+1,1,none⟩=some (.int .i64 q)∧Below W.heap.size W w')
  (first | assumption | exact CS.out _ (below_drew (by assumption)) | exact CS.out _ (by assumption))
  (first
   | (go_at_call_of 94 (Value.agg #[Value.int .i64 u,Value.int .i64 v]);obtain ⟨_,_,_,_,_,_,hbx⟩ := ‹_∧_∧_∧_∧_∧_∧Below _ _ _›;refine (HS1.out _).mono ?_;rintro e w4 ⟨rfl,hb40⟩;have hb4:Below W.heap.size W w4:=hbx.trans (hb40.mono (Below.size hbx)))
   | (go_at_call_of 94 (Value.agg #[Value.int .i64 p,Value.int .i64 q]);refine (HS2.out _).mono ?_;rintro e w5 ⟨rfl,hb50⟩;have hb5:Below W.heap.size W w5:=hb4.trans (hb50.mono (Below.size hb4)))
   | (go_at_call 149;refine (HCR.out _).mono ?_;rintro e w6 ⟨rfl,hb60⟩;have hb6:Below W.heap.size W w6:=hb5.trans (hb60.mono (Below.size hb5)))
   | (go_at_call 119;refine (HSG.out _).mono ?_;rintro e w7 ⟨rfl,rfl⟩))
 go_wp2
 go_ret
 exact ⟨rfl,HO.out.2.2.2.trans (hb6.mono (Below.size HO.out.2.2.2))⟩
set_option maxRecDepth 100000 in
set_option maxHeartbeats 2000000 in
theorem rturn_any (x y u v p q:Int) (w:World) (hx : -100000≤x∧x≤100000) (hy : -100000≤y∧y≤100000) (hu : -100000≤u∧u≤100000) (hv : -100000≤v∧v≤100000) (hp : -100000≤p∧p≤100000) (hq : -100000≤q∧q≤100000) :
  Calls Tryz.prog 122 #[.agg #[.int .i64 x,.int .i64 y],.agg #[.int .i64 u,.int .i64 v],.agg #[.int .i64 p,.int .i64 q]] w fun e w'=>e=.returned (.int .i64 (turn (x,y) (u,v) (p,q)))∧Below w.heap.size w w':=by
 have HS1:=hid (fun W=>rsub_any u v x y W (by omega) (by omega) (by omega) (by omega))
 have HS2:=hid (fun W=>rsub_any p q x y W (by omega) (by omega) (by omega) (by omega))
 have HCR:=hid (fun W=>rcross_any (u - x) (v - y) (p - x) (q - y) W (mul_small (by omega) (by omega)) (mul_small (by omega) (by omega)))
 have HT:Hid (turn (x,y) (u,v) (p,q)=sgn ((u - x)*(q - y) - (v - y)*(p - x))):=hid rfl
 rw [HT.out]
 have HO:=hid (three_vecs w (.cells #[.int .i64 x,.int .i64 y] 53) (.cells #[.int .i64 u,.int .i64 v] 53) (.cells #[.int .i64 p,.int .i64 q] 53))
 have HSG:=hid (fun W=>sign_any ((u - x)*(q - y) - (v - y)*(p - x)) W)
 clear hx hy hu hv hp hq
 go_enter Tryz.func122,Tryz.ntmps122
 go_upto_region 1 with fail
 generalize ((w.alloc (.cells #[.int .i64 x,.int .i64 y] 53)).alloc (.cells #[.int .i64 u,.int .i64 v] 53)).alloc (.cells #[.int .i64 p,.int .i64 q] 53)=W at *
 have CS:Hid (∀ w',Below W.heap.size W w'→w'.cell? ⟨w.heap.size,0,none⟩=some (.int .i64 x)∧w'.cell? ⟨w.heap.size,1,none⟩=some (.int .i64 y)∧w'.cell? ⟨w.heap.size+1,0,none⟩=some (.int .i64 u)∧w'.cell? ⟨w.heap.size+1,1,none⟩=some (.int .i64 v)∧w'.cell? ⟨w.heap.size+1+1,0,none⟩=some (.int .i64 p)∧w'.cell? ⟨w.heap.size+1+1,1,none⟩=some (.int .i64 q)∧Below W.heap.size W w'):=hid (fun w' hb=>by
  obtain ⟨a0,a1⟩:=pair_at HO.out.1 hb
  obtain ⟨b0,b1⟩:=pair_at HO.out.2.1 hb
  obtain ⟨c0,c1⟩:=pair_at HO.out.2.2.1 hb
  exact ⟨a0,a1,b0,b1,c0,c1,hb⟩)
 have tok:=hid trivial
 obtain ⟨q0,q1,q2,q3,q4,q5,q6⟩:=CS.out W (Below.refl _ _)
 go_region_held3 (fun w'=>w'.cell? ⟨w.heap.size,0,none⟩=some (.int .i64 x)∧w'.cell? ⟨w.heap.size,1,none⟩=some (.int .i64 y)∧w'.cell? ⟨w.heap.size+1,0,none⟩=some (.int .i64 u)∧w'.cell? ⟨w.heap.size+1,1,none⟩=some (.int .i64 v)∧w'.cell? ⟨w.heap.size+1+1,0,none⟩=some (.int .i64 p)∧w'.cell? ⟨w.heap.size+1+1,1,none⟩=some (.int .i64 q)∧Below W.heap.size W w')
  (first | assumption | exact CS.out _ (below_drew (by assumption)) | exact CS.out _ (by assumption))
  (first
   | (go_at_call_of 40 (Value.agg #[Value.int .i64 u,Value.int .i64 v]);obtain ⟨_,_,_,_,_,_,hbx⟩ := ‹_∧_∧_∧_∧_∧_∧Below _ _ _›;refine (HS1.out _).mono ?_;rintro e w4 ⟨rfl,hb40⟩;have hb4:Below W.heap.size W w4:=hbx.trans (hb40.mono (Below.size hbx)))
   | (go_at_call_of 40 (Value.agg #[Value.int .i64 p,Value.int .i64 q]);refine (HS2.out _).mono ?_;rintro e w5 ⟨rfl,hb50⟩;have hb5:Below W.heap.size W w5:=hb4.trans (hb50.mono (Below.size hb4)))
   | (go_at_call 157;refine (HCR.out _).mono ?_;rintro e w6 ⟨rfl,hb60⟩;have hb6:Below W.heap.size W w6:=hb5.trans (hb60.mono (Below.size hb5)))
   | (go_at_call 173;refine (HSG.out _).mono ?_;rintro e w7 ⟨rfl,rfl⟩))
 go_wp2
 go_ret
 exact ⟨rfl,HO.out.2.2.2.trans (hb6.mono (Below.size HO.out.2.2.2))⟩
set_option maxRecDepth 100000 in
theorem within_any (x y m:Int) (w:World) (hm:0≤m∧m≤1000000000000000) :
  Calls Tryz.prog 113 #[.agg #[.int .i64 x,.int .i64 y],.int .i64 m] w fun e w'=>e=.returned (.bool (within (x,y) m))∧Below w.heap.size w w':=by
 obtain ⟨m1,m2⟩:=hm
 have HB:=hid ((Below.refl w.heap.size w).alloc (Nat.le_refl _) (.cells #[.int .i64 x,.int .i64 y] 53))
 unfold within
 simp only
 by_cases h0 : -m≤x
 case neg =>
  have d0:decide (-m≤x)=false:=decide_eq_false h0
  rw [d0]
  simp only [Bool.false_and]
  clear h0
  go_enter Tryz.func113,Tryz.ntmps113
  go_wp2
  go_ret
  exact ⟨rfl,HB.out⟩
 have d0:decide (-m≤x)=true:=decide_eq_true h0
 rw [d0]
 clear h0
 by_cases h1:x≤m
 case neg =>
  have d1:decide (x≤m)=false:=decide_eq_false h1
  rw [d1]
  simp only [Bool.false_and,Bool.true_and]
  clear h1
  go_enter Tryz.func113,Tryz.ntmps113
  go_wp2
  go_ret
  exact ⟨rfl,HB.out⟩
 have d1:decide (x≤m)=true:=decide_eq_true h1
 rw [d1]
 clear h1
 by_cases h2 : -m≤y
 case neg =>
  have d2:decide (-m≤y)=false:=decide_eq_false h2
  rw [d2]
  simp only [Bool.false_and,Bool.true_and]
  clear h2
  go_enter Tryz.func113,Tryz.ntmps113
  go_wp2
  go_ret
  exact ⟨rfl,HB.out⟩
 have d2:decide (-m≤y)=true:=decide_eq_true h2
 rw [d2]
 clear h2
 by_cases h3:y≤m
 case neg =>
  have d3:decide (y≤m)=false:=decide_eq_false h3
  rw [d3]
  simp only [Bool.true_and]
  clear h3
  go_enter Tryz.func113,Tryz.ntmps113
  go_wp2
  go_ret
  exact ⟨rfl,HB.out⟩
 have d3:decide (y≤m)=true:=decide_eq_true h3
 rw [d3]
 clear h3
 simp only [Bool.true_and]
 go_enter Tryz.func113,Tryz.ntmps113
 go_wp2
 go_ret
 exact ⟨rfl,HB.out⟩
set_option maxRecDepth 100000 in
theorem rwithin_any (x y m:Int) (w:World) (hm:0≤m∧m≤1000000000000000) :
  Calls Tryz.prog 126 #[.agg #[.int .i64 x,.int .i64 y],.int .i64 m] w fun e w'=>e=.returned (.bool (within (x,y) m))∧Below w.heap.size w w':=by
 obtain ⟨m1,m2⟩:=hm
 have HB:=hid ((Below.refl w.heap.size w).alloc (Nat.le_refl _) (.cells #[.int .i64 x,.int .i64 y] 53))
 unfold within
 simp only
 by_cases h0 : -m≤x
 case neg =>
  have d0:decide (-m≤x)=false:=decide_eq_false h0
  rw [d0]
  simp only [Bool.false_and]
  clear h0
  go_enter Tryz.func126,Tryz.ntmps126
  go_wp2
  go_ret
  exact ⟨rfl,HB.out⟩
 have d0:decide (-m≤x)=true:=decide_eq_true h0
 rw [d0]
 clear h0
 by_cases h1:x≤m
 case neg =>
  have d1:decide (x≤m)=false:=decide_eq_false h1
  rw [d1]
  simp only [Bool.false_and,Bool.true_and]
  clear h1
  go_enter Tryz.func126,Tryz.ntmps126
  go_wp2
  go_ret
  exact ⟨rfl,HB.out⟩
 have d1:decide (x≤m)=true:=decide_eq_true h1
 rw [d1]
 clear h1
 by_cases h2 : -m≤y
 case neg =>
  have d2:decide (-m≤y)=false:=decide_eq_false h2
  rw [d2]
  simp only [Bool.false_and,Bool.true_and]
  clear h2
  go_enter Tryz.func126,Tryz.ntmps126
  go_wp2
  go_ret
  exact ⟨rfl,HB.out⟩
 have d2:decide (-m≤y)=true:=decide_eq_true h2
 rw [d2]
 clear h2
 by_cases h3:y≤m
 case neg =>
  have d3:decide (y≤m)=false:=decide_eq_false h3
  rw [d3]
  simp only [Bool.true_and]
  clear h3
  go_enter Tryz.func126,Tryz.ntmps126
  go_wp2
  go_ret
  exact ⟨rfl,HB.out⟩
 have d3:decide (y≤m)=true:=decide_eq_true h3
 rw [d3]
 clear h3
 simp only [Bool.true_and]
 go_enter Tryz.func126,Tryz.ntmps126
 go_wp2
 go_ret
 exact ⟨rfl,HB.out⟩
set_option maxRecDepth 100000 in
theorem rless_any (x y u v:Int) (w:World) :
  Calls Tryz.prog 28 #[.agg #[.int .i64 x,.int .i64 y],.agg #[.int .i64 u,.int .i64 v]] w fun e w'=>e=.returned (.bool (less (x,y) (u,v)))∧Below w.heap.size w w':=by
 have HB:=hid (((Below.refl w.heap.size w).alloc (Nat.le_refl _) (.cells #[.int .i64 x,.int .i64 y] 53)).alloc (by simp) (.cells #[.int .i64 u,.int .i64 v] 53))
 unfold less
 simp only
 by_cases h0:y < v
 ·have d0:decide (y < v)=true:=decide_eq_true h0
  rw [d0]
  simp only [Bool.true_or]
  clear h0
  go_enter Tryz.func28,Tryz.ntmps28
  go_wp2
  go_ret
  exact ⟨rfl,HB.out⟩
 ·have d0:decide (y < v)=false:=decide_eq_false h0
  rw [d0]
  simp only [Bool.false_or]
  clear h0
  by_cases h1:y=v
  ·subst h1
   have d1:decide (y=y)=true:=decide_eq_true rfl
   rw [d1]
   simp only [Bool.true_and]
   clear d1
   go_enter Tryz.func28,Tryz.ntmps28
   go_wp2
   go_ret
   exact ⟨rfl,HB.out⟩
  ·have d1:decide (y=v)=false:=decide_eq_false h1
   have d2:(y == v)=false:=beq_eq_false_iff_ne.2 h1
   rw [d1]
   simp only [Bool.false_and]
   clear h1
   go_enter Tryz.func28,Tryz.ntmps28
   go_wp2
   go_ret
   exact ⟨rfl,HB.out⟩
attribute [local go_sem ↓] Go.wp_at_zero Go.wp_at_succ
theorem two_vecs (w:World) (o1 o2:Obj):((w.alloc o1).alloc o2).heap[w.heap.size]? = some o1∧((w.alloc o1).alloc o2).heap[w.heap.size+1]? = some o2:=by
 have e1:(w.alloc o1).heap.size=w.heap.size+1:=by simp
 refine ⟨?_,?_⟩
 ·rw [heap_alloc_old _ _ (by rw [e1];omega)];exact heap_alloc_new _ _
 ·rw [← e1];exact heap_alloc_new _ _
theorem or_any (a c:Int) (b:Nat) (w:World) (h:w.heap[b]? = some (.cells #[.int .i64 a,.int .i64 c] 3 (0,0))) :
  Calls Tryz.prog 118 #[.slice (some ⟨b,0,none⟩) 2 2] w fun e w'=>e=.returned (.int .i64 (if a=0 then c else a))∧w'=w:=by
 have hlt:=lt_of_block h
 obtain ⟨x0,x1⟩:=pair_at h (Below.refl _ _)
 clear h
 by_cases ha:a=0
 ·rw [if_pos ha]
  subst ha
  by_cases hc:c=0
  ·subst hc
   go_enter Tryz.func118,Tryz.ntmps118
   go_wp2
   go_loopw [5,8] (fun _ i wr=>∃ j:Nat,i=.int .i64 (j:Int)∧j≤2∧wr=w) (fun _ i _=>2 - (intOf i).toNat)
   case atStart=>exact ⟨0,rfl,by omega,rfl⟩
   case round =>
    obtain ⟨j,rfl,hj,rfl⟩:=hrel
    rcases (show j=0∨j=1∨j=2 by omega) with rfl | rfl | rfl
    ·go_wp2
     go_roundw
     case rel=>exact ⟨1,rfl,by omega,by first | rfl | trivial⟩
     case measure=>simp [intOf]
    ·go_wp2
     go_roundw
     case rel=>exact ⟨2,rfl,by omega,by first | rfl | trivial⟩
     case measure=>simp [intOf]
    ·go_wp2
     go_ret
     exact ⟨rfl,rfl⟩
  ·have hc1:(c != 0)=true:=bne_iff_ne.2 hc
   have hc2:(c=0)=False:=eq_false hc
   clear hc
   go_enter Tryz.func118,Tryz.ntmps118
   go_wp2
   go_loopw [5,8] (fun _ i wr=>∃ j:Nat,i=.int .i64 (j:Int)∧j≤1∧wr=w) (fun _ i _=>2 - (intOf i).toNat)
   case atStart=>exact ⟨0,rfl,by omega,rfl⟩
   case round =>
    obtain ⟨j,rfl,hj,rfl⟩:=hrel
    rcases (show j=0∨j=1 by omega) with rfl | rfl
    ·go_wp2
     go_roundw
     case rel=>exact ⟨1,rfl,by omega,by first | rfl | trivial⟩
     case measure=>simp [intOf]
    ·go_wp2
     go_ret
     exact ⟨rfl,rfl⟩
 ·rw [if_neg ha]
  have hc1:(a != 0)=true:=bne_iff_ne.2 ha
  have hc2:(a=0)=False:=eq_false ha
  clear ha
  go_enter Tryz.func118,Tryz.ntmps118
  go_wp2
  go_loopw [5,8] (fun _ i wr=>i=.int .i64 0∧wr=w) (fun _ i _=>2 - (intOf i).toNat)
  case atStart=>exact ⟨rfl,rfl⟩
  case round =>
   obtain ⟨rfl,rfl⟩:=hrel
   go_wp2
   go_ret
   exact ⟨rfl,rfl⟩
theorem cmp3_sub (a b:Int):cmp3 a b=sgn (a - b):=by
 unfold cmp3 sgn
 split
 ·rw [if_pos (by omega)]
 ·split
  ·rw [if_neg (by omega),if_neg (by omega)]
  ·rw [if_neg (by omega),if_pos (by omega)]
set_option maxRecDepth 100000 in
set_option maxHeartbeats 2000000 in
theorem vcmp_any (x y u v:Int) (w:World) :
  Calls Tryz.prog 58 #[.agg #[.int .i64 x,.int .i64 y],.agg #[.int .i64 u,.int .i64 v]] w fun e w'=>e=.returned (.int .i64 (vcmp (x,y) (u,v)))∧Below w.heap.size w w':=by
 have HT:Hid (vcmp (x,y) (u,v)=if cmp3 y v=0 then cmp3 x u else cmp3 y v):=hid (by rw [cmp3_sub,cmp3_sub];rfl)
 rw [HT.out]
 have HC1:=hid (fun W=>ccmp_any y v W)
 have HC2:=hid (fun W=>ccmp_any x u W)
 have HOR:=hid (fun b W h=>or_any (cmp3 y v) (cmp3 x u) b W h)
 clear HT
 generalize (if cmp3 y v=0 then cmp3 x u else cmp3 y v)=r at *
 have HB:=hid (((Below.refl w.heap.size w).alloc (Nat.le_refl _) (.cells #[.int .i64 x,.int .i64 y] 53)).alloc (by simp) (.cells #[.int .i64 u,.int .i64 v] 53))
 have HX:Hid (((w.alloc (.cells #[.int .i64 x,.int .i64 y] 53)).alloc (.cells #[.int .i64 u,.int .i64 v] 53)).heap[w.heap.size]? = some (.cells #[.int .i64 x,.int .i64 y] 53)∧((w.alloc (.cells #[.int .i64 x,.int .i64 y] 53)).alloc (.cells #[.int .i64 u,.int .i64 v] 53)).heap[w.heap.size+1]? = some (.cells #[.int .i64 u,.int .i64 v] 53)):=hid (two_vecs w _ _)
 generalize cmp3 y v=c1 at *
 generalize cmp3 x u=c2 at *
 go_enter Tryz.func58,Tryz.ntmps58
 go_upto_region 1 with fail
 generalize (w.alloc (.cells #[.int .i64 x,.int .i64 y] 53)).alloc (.cells #[.int .i64 u,.int .i64 v] 53)=W at *
 have CS:Hid (∀ w',Below W.heap.size W w'→w'.cell? ⟨w.heap.size,0,none⟩=some (.int .i64 x)∧w'.cell? ⟨w.heap.size,1,none⟩=some (.int .i64 y)∧w'.cell? ⟨w.heap.size+1,0,none⟩=some (.int .i64 u)∧w'.cell? ⟨w.heap.size+1,1,none⟩=some (.int .i64 v)∧Below W.heap.size W w'):=hid (fun w' hb=>by
  obtain ⟨a0,a1⟩:=pair_at HX.out.1 hb
  obtain ⟨b0,b1⟩:=pair_at HX.out.2 hb
  exact ⟨a0,a1,b0,b1,hb⟩)
 obtain ⟨q0,q1,q2,q3,q4⟩:=CS.out W (Below.refl _ _)
 go_region_held3 (fun w'=>w'.cell? ⟨w.heap.size,0,none⟩=some (.int .i64 x)∧w'.cell? ⟨w.heap.size,1,none⟩=some (.int .i64 y)∧w'.cell? ⟨w.heap.size+1,0,none⟩=some (.int .i64 u)∧w'.cell? ⟨w.heap.size+1,1,none⟩=some (.int .i64 v)∧Below W.heap.size W w')
  (first | assumption | exact CS.out _ (below_drew q4) | exact CS.out _ q4 | exact CS.out _ (below_drew (q4.alloc (Nat.le_refl _) _)) | exact CS.out _ (q4.alloc (Nat.le_refl _) _))
  (first
   | (go_at_call_of 119 (Value.int .i64 y);refine (HC1.out _).mono ?_;rintro e w4 ⟨rfl,rfl⟩)
   | (go_at_call_of 119 (Value.int .i64 x);refine (HC2.out _).mono ?_;rintro e w5 ⟨rfl,rfl⟩)
   | (go_at_call 118;refine Calls.mono (HOR.out W.heap.size _ (by exact heap_alloc_new W (.cells #[.int .i64 c1,.int .i64 c2] 3))) ?_;rintro e w6 ⟨rfl,rfl⟩))
 go_wp2
 go_ret
 exact ⟨rfl,HB.out.trans ((Below.mono (by first | exact (below_drew (q4.alloc (Nat.le_refl _) _)) | exact (q4.alloc (Nat.le_refl _) _)) (Below.size HB.out)))⟩
theorem vcmp_less (a b:V):decide (vcmp a b < 0)=less a b:=by
 unfold vcmp less sgn
 have e:(a.2 - b.2 < 0)=(a.2 < b.2):=propext (by omega)
 have e0:(a.2 - b.2=0)=(a.2=b.2):=propext (by omega)
 have f:(a.1 - b.1 < 0)=(a.1 < b.1):=propext (by omega)
 simp only [e,e0,f]
 by_cases h1:a.2 < b.2
 ·have h2 : ¬ a.2=b.2:=by omega
  simp [h1,h2]
 ·by_cases h2:a.2=b.2
  ·have h3 : ¬ b.2 < b.2:=by omega
   by_cases h4:a.1 < b.1
   ·simp [h2,h4]
   ·by_cases h5:a.1 - b.1=0
    ·simp [h2,h4,h5]
    ·simp [h2,h4,h5]
  ·simp [h1,h2]
set_option maxRecDepth 100000 in
theorem less_any (x y u v:Int) (w:World) :
  Calls Tryz.prog 197 #[.agg #[.int .i64 x,.int .i64 y],.agg #[.int .i64 u,.int .i64 v]] w fun e w'=>e=.returned (.bool (less (x,y) (u,v)))∧Below w.heap.size w w':=by
 have HC:=hid (fun W=>vcmp_any x y u v W)
 have HB:=hid (((Below.refl w.heap.size w).alloc (Nat.le_refl _) (.cells #[.int .i64 x,.int .i64 y] 53)).alloc (by simp) (.cells #[.int .i64 u,.int .i64 v] 53))
 rw [← vcmp_less]
 generalize vcmp (x,y) (u,v)=n at *
 go_enter Tryz.func197,Tryz.ntmps197
 go_wp2_with fail
 refine (HC.out _).mono ?_
 rintro e w1 ⟨rfl,hb1⟩
 go_wp2
 go_ret
 exact ⟨rfl,HB.out.trans (hb1.mono (Below.size HB.out))⟩
end Go.Proofs.YtnmmhcchpcbeeaaGreat.GeW
