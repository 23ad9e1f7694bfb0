/- Plain: the rings of shapes that lie apart are apart, and none lies inside of a ring of another shape. No function is in sight. Conditions: the shapes are valid. -/
import Derived.Test.YtnmmhcchpcbeeaaGreatDgD
import Derived.Test.YtnmmhcchpcbeeaaGreatOgQ

namespace Go.Proofs.YtnmmhcchpcbeeaaGreat.Ge
open Go
theorem least {P:Nat→Prop} : ∀ n,P n→∃ m,m≤n∧P m∧∀ k,k < m→¬ P k:=by
 intro n
 induction n using Nat.strongRecOn with
 | ind n ih =>
  intro h
  by_cases c:∃ k,k < n∧P k
  ·obtain ⟨k,hk,hp⟩:=c
   obtain ⟨m,hm,h1,h2⟩:=ih k hk hp
   exact ⟨m,by omega,h1,h2⟩
  ·exact ⟨n,Nat.le_refl _,h,fun k hk hp=>c ⟨k,hk,hp⟩⟩
/-- A number that is not nought, or one. -/
def nz (a:Int):Nat:=if a=0 then 1 else a.natAbs
theorem nz_pos (a:Int):0 < nz a:=by unfold nz;split<;>omega
def prodN:List Nat→Nat
 | []=>1
 | a::l=>a*prodN l
theorem prodN_pos:∀ l:List Nat,(∀ a∈l,0 < a)→0 < prodN l
 | [],_=>Nat.one_pos
 | a::l,h=>Nat.mul_pos (h a List.mem_cons_self) (prodN_pos l fun x hx=>h x (List.mem_cons_of_mem _ hx))
theorem dvd_prodN:∀ (l:List Nat) (a:Nat),a∈l→a ∣ prodN l
 | b::l,a,h=>by
  rcases List.mem_cons.1 h with rfl | h
  ·exact Nat.dvd_mul_right _ _
  ·exact Nat.dvd_trans (dvd_prodN l a h) (Nat.dvd_mul_left _ _)
/-- A multiple of a number's size is a multiple of the number. -/
theorem nz_dvd {a:Int} {n:Nat} (ha:a≠0) (h:nz a ∣ n):∃ m:Int,(n:Int)=m*a:=by
 unfold nz at h
 rw [if_neg ha] at h
 obtain ⟨m,rfl⟩:=h
 rcases Int.natAbs_eq a with e | e
 ·exact ⟨m,by rw [Int.natCast_mul,← e,Int.mul_comm]⟩
 ·exact ⟨-m,by rw [Int.natCast_mul];rw [show a = -(a.natAbs:Int) from e] ;simp only [Int.natAbs_neg,Int.natAbs_natCast];rw [Int.neg_mul_neg,Int.mul_comm]⟩
def walkTo (n:Nat) (v w:V) (t:Int):V:=((n:Int)*v.1+t*(w.1 - v.1),(n:Int)*v.2+t*(w.2 - v.2))
theorem cr_walk (n:Nat) (e:S) (v w:V) (t:Int):cr (sS n e) (walkTo n v w t)=n*(n*cr e v - t*(cr e v - cr e w)):=by
 simp only [cr,cross,sub,sS,sm,walkTo];grind
theorem cr_walked (n:Nat) (v w q:V) (t:Int):cr (sm n v,walkTo n v w t) (sm n q)=t*(n*cr (v,w) q):=by
 simp only [cr,cross,sub,sm,walkTo];grind
theorem pos_mul {t c:Int} (ht:0 < t):(0 < t*c ↔ 0 < c)∧(t*c < 0 ↔ c < 0)∧(t*c=0 ↔ c=0):=by
 have h1:=lt_sm (a:=0) (b:=c) ht
 have h2:=lt_sm (a:=c) (b:=0) ht
 rw [Int.mul_zero] at h1 h2
 refine ⟨h1,h2,?_⟩
 omega
/-- A whole point on the way, made larger, is one of the steps. -/
theorem step_of {n:Nat} {v w q:V} {t:Int} (hn:0 < n) (ht:0 < t) (hx:w.1 - v.1≠0→nz (w.1 - v.1) ∣ n) (hy:w.2 - v.2≠0→nz (w.2 - v.2) ∣ n) (hne:v≠w) (h:edgeOn (sm n v,walkTo n v w t) (sm n q)=true):∃ k:Int,0≤k∧k≤t∧sm n q=walkTo n v w k:=by
 obtain ⟨hc,bx,bY⟩:=on_cr.1 h
 rw [cr_walked,(pos_mul ht).2.2,(pos_mul (show (0:Int) < n by omega)).2.2] at hc
 simp only [cr,cross,sub] at hc
 simp only [sm,walkTo] at bx bY
 have rng:∀ {d g:Int} {k:Int},d≠0→g=k*d→min 0 (t*d)≤g→g≤max 0 (t*d)→0≤k∧k≤t:=by
  intro d g k hd hg h1 h2
  subst hg
  rcases Int.lt_or_gt_of_ne hd with c | c
  ·have a1:=lt_sm (n:=- d) (a:=k) (b:=0) (by omega)
   have a2:=lt_sm (n:=- d) (a:=t) (b:=k) (by omega)
   have a3:t*d < 0:=Int.mul_neg_of_pos_of_neg ht c
   rw [Int.neg_mul,Int.neg_mul] at a1 a2
   rw [Int.mul_comm d k] at a1 a2
   rw [Int.mul_comm d t] at a2
   omega
  ·have a1:=lt_sm (n:=d) (a:=k) (b:=0) c
   have a2:=lt_sm (n:=d) (a:=t) (b:=k) c
   have a3:=Int.mul_pos ht c
   rw [Int.mul_comm d k] at a1 a2
   rw [Int.mul_comm d t] at a2
   omega
 by_cases cx:w.1 - v.1=0
 ·have cy:w.2 - v.2≠0:=fun cy=>hne (Prod.ext (by omega) (by omega))
  obtain ⟨m,hm⟩:=nz_dvd cy (hy cy)
  have e1:q.1=v.1:=by
   rw [cx,Int.zero_mul,Int.zero_sub] at hc
   rcases Int.mul_eq_zero.1 (show (w.2 - v.2)*(q.1 - v.1)=0 by omega) with z | z
   ·exact absurd z cy
   ·omega
  have r:=rng (k:=m*(q.2 - v.2)) cy (g:=(n:Int)*q.2 - n*v.2) (by rw [hm];grind) (by omega) (by omega)
  refine ⟨m*(q.2 - v.2),r.1,r.2,Prod.ext ?_ ?_⟩
  ·simp only [sm,walkTo];rw [cx,e1];omega
  ·simp only [sm,walkTo];rw [hm];grind
 ·obtain ⟨m,hm⟩:=nz_dvd cx (hx cx)
  have r:=rng (k:=m*(q.1 - v.1)) cx (g:=(n:Int)*q.1 - n*v.1) (by rw [hm];grind) (by omega) (by omega)
  refine ⟨m*(q.1 - v.1),r.1,r.2,Prod.ext ?_ ?_⟩
  ·simp only [sm,walkTo];rw [hm];grind
  ·simp only [sm,walkTo];rw [hm];grind
theorem walk_zero (n:Nat) (v w:V):walkTo n v w 0=sm n v:=by simp [walkTo,sm]
theorem walk_end (n:Nat) (v w:V):walkTo n v w n=sm n w:=by
 refine Prod.ext ?_ ?_<;>(simp only [walkTo,sm];grind)
theorem on_first' (e:S):edgeOn e e.1=true:=on_conv (d:=1) (k:=0) (by omega) (by omega) (by omega) (by omega) (by omega)
theorem on_last' (e:S):edgeOn e e.2=true:=on_conv (d:=1) (k:=1) (by omega) (by omega) (by omega) (by omega) (by omega)
/-- On the way to the first point of some edges, a part of the way is apart from an edge that the way's end is not on. -/
theorem way_free {n:Nat} {v w:V} {t:Nat} {e f:S} (hn:0 < n) (ht:0 < t) (hx:w.1 - v.1≠0→nz (w.1 - v.1) ∣ n) (hy:w.2 - v.2≠0→nz (w.2 - v.2) ∣ n) (hne:v≠w) (hD:nz (cr e v - cr e w) ∣ n)
  (hv:edgeOn e v=false) (hfe:Disj f e) (hq:edgeOn (sS n f) (walkTo n v w t)=true) (hmin:∀ k:Nat,k < t→edgeOn (sS n e) (walkTo n v w k)=false):Disj (sm n v,walkTo n v w t) (sS n e):=by
 have hn':(0:Int) < n:=by omega
 have ht':(0:Int) < t:=by omega
 have hqe:edgeOn (sS n e) (walkTo n v w t)=false:=by
  cases c:edgeOn (sS n e) (walkTo n v w t)
  ·rfl
  ·exact (disj_no (disj_sm hn' hfe) hq c).elim
 have ends:∀ q:V,edgeOn (sS n e) (sm n q)=true→edgeOn (sm n v,walkTo n v w t) (sm n q)=false:=by
  intro q hqq
  cases c:edgeOn (sm n v,walkTo n v w t) (sm n q)
  ·rfl
  ·obtain ⟨k,k0,k1,hk⟩:=step_of hn ht' hx hy hne c
   obtain ⟨j,rfl⟩:∃ j:Nat,k=j:=⟨k.toNat,by omega⟩
   rw [hk] at hqq
   rcases Nat.lt_or_ge j t with hj | hj
   ·exact (not_on (hmin j hj) hqq).elim
   ·have:j=t:=by omega
    subst this
    exact (not_on hqe hqq).elim
 refine ⟨by rw [on_sm hn'];exact hv,hqe,ends e.1 ?_,ends e.2 ?_,?_⟩
 ·rw [on_sm hn'];exact on_first' e
 ·rw [on_sm hn'];exact on_last' e
 ·rintro ⟨x1,x2⟩
  change opp (cr (sS n e) (sm n v)) (cr (sS n e) (walkTo n v w t)) at x1
  change opp (cr (sm n v,walkTo n v w t) (sm n e.1)) (cr (sm n v,walkTo n v w t) (sm n e.2)) at x2
  rw [cr_sm,cr_walk] at x1
  rw [cr_walked,cr_walked] at x2
  have hD2:cr e v - cr e w=cr (v,w) e.2 - cr (v,w) e.1:=by simp only [cr,cross,sub];grind
  obtain ⟨o1,e1⟩:∃ o1,o1=cr e v:=⟨_,rfl⟩
  obtain ⟨D,eD⟩:∃ D,D=cr e v - cr e w:=⟨_,rfl⟩
  obtain ⟨o3,e3⟩:∃ o3,o3=cr (v,w) e.1:=⟨_,rfl⟩
  obtain ⟨o4,e4⟩:∃ o4,o4=cr (v,w) e.2:=⟨_,rfl⟩
  have hD3:D=o4 - o3:=by omega
  rw [← eD,← e1] at x1
  rw [← e3,← e4] at x2
  have y2:opp o3 o4:=by
   unfold opp at x2 ⊢
   rw [(pos_mul ht').1,(pos_mul ht').1,(pos_mul ht').2.1,(pos_mul ht').2.1,(pos_mul hn').1,(pos_mul hn').1,(pos_mul hn').2.1,(pos_mul hn').2.1] at x2
   exact x2
  have y1:opp o1 (n*o1 - t*D):=by
   unfold opp at x1 ⊢
   rw [(pos_mul hn').1,(pos_mul hn').1,(pos_mul hn').1,(pos_mul hn').2.1,(pos_mul hn').2.1,(pos_mul hn').2.1] at x1
   exact x1
  have hDn:D≠0:=by unfold opp at y2;omega
  rw [← eD] at hD
  obtain ⟨m,hm⟩:=nz_dvd hDn hD
  have hk:m*o1*D=n*o1:=by rw [hm];grind
  have rng:0 < m*o1∧m*o1 < t:=by
   rcases Int.lt_or_gt_of_ne hDn with c | c
   ·have a1:=lt_sm (n:=- D) (a:=0) (b:=m*o1) (by omega)
    have a2:=lt_sm (n:=- D) (a:=m*o1) (b:=t) (by omega)
    rw [Int.neg_mul,Int.neg_mul,Int.mul_zero,Int.mul_comm D (m*o1),hk] at a1
    rw [Int.neg_mul,Int.neg_mul,Int.mul_comm D (m*o1),hk,Int.mul_comm D t] at a2
    have a3:=(pos_mul (c:=o1) hn')
    have a4:(t:Int)*D < 0:=Int.mul_neg_of_pos_of_neg ht' c
    unfold opp at y1
    omega
   ·have a1:=lt_sm (n:=D) (a:=0) (b:=m*o1) c
    have a2:=lt_sm (n:=D) (a:=m*o1) (b:=t) c
    rw [Int.mul_zero,Int.mul_comm D (m*o1),hk] at a1
    rw [Int.mul_comm D (m*o1),hk,Int.mul_comm D t] at a2
    have a3:=(pos_mul (c:=o1) hn')
    have a4:0 < (t:Int)*D:=Int.mul_pos ht' c
    unfold opp at y1
    omega
  obtain ⟨j,hj⟩:∃ j:Nat,m*o1=j:=⟨(m*o1).toNat,by omega⟩
  have hon:edgeOn (sS n e) (walkTo n v w j)=true:=by
   have hjD:(j:Int)*D=n*o1:=by rw [← hj];exact hk
   rcases Int.lt_or_gt_of_ne hDn with c | c
   ·refine on_conv (d:=- D) (k:=o3) (by omega) (by unfold opp at y2;omega) (by unfold opp at y2;omega) ?_ ?_
    ·have key:D*(walkTo n v w j).1=n*(D*v.1+o1*(w.1 - v.1)):=by simp only [walkTo];grind
     have key2:D*v.1+o1*(w.1 - v.1)=D*e.1.1 - o3*(e.2.1 - e.1.1):=by rw [eD,e1,e3];simp only [cr,cross,sub];grind
     rw [key2] at key
     simp only [sS,sm]
     grind
    ·have key:D*(walkTo n v w j).2=n*(D*v.2+o1*(w.2 - v.2)):=by simp only [walkTo];grind
     have key2:D*v.2+o1*(w.2 - v.2)=D*e.1.2 - o3*(e.2.2 - e.1.2):=by rw [eD,e1,e3];simp only [cr,cross,sub];grind
     rw [key2] at key
     simp only [sS,sm]
     grind
   ·refine on_conv (d:=D) (k:=- o3) (by omega) (by unfold opp at y2;omega) (by unfold opp at y2;omega) ?_ ?_
    ·have key:D*(walkTo n v w j).1=n*(D*v.1+o1*(w.1 - v.1)):=by simp only [walkTo];grind
     have key2:D*v.1+o1*(w.1 - v.1)=D*e.1.1 - o3*(e.2.1 - e.1.1):=by rw [eD,e1,e3];simp only [cr,cross,sub];grind
     rw [key2] at key
     simp only [sS,sm]
     grind
    ·have key:D*(walkTo n v w j).2=n*(D*v.2+o1*(w.2 - v.2)):=by simp only [walkTo];grind
     have key2:D*v.2+o1*(w.2 - v.2)=D*e.1.2 - o3*(e.2.2 - e.1.2):=by rw [eD,e1,e3];simp only [cr,cross,sub];grind
     rw [key2] at key
     simp only [sS,sm]
     grind
  exact not_on (hmin j (by omega)) hon
/-- From a point outside of the edges of two rings that are apart: it lies to the one ring as the other's points, or to the other as the one's. -/
theorem first_hit {x y:List V} {v:V} {cx cy:Bool} (hne:edges x≠[]) (hxy:∀ e∈edges x,∀ f∈edges y,Disj e f) (hvx:∀ e∈edges x,edgeOn e v=false) (hvy:∀ e∈edges y,edgeOn e v=false)
  (hcx:∀ e∈edges x,In y e.1=cx) (hcy:∀ e∈edges y,In x e.1=cy):In y v=cx∨In x v=cy:=by
 obtain ⟨f0,hf0⟩:=List.exists_mem_of_ne_nil _ hne
 obtain ⟨w,hw⟩:∃ w,w=f0.1:=⟨_,rfl⟩
 have hvw:v≠w:=by
  rintro rfl
  exact not_on (hvx f0 hf0) (hw ▸ on_first' f0)
 obtain ⟨L,hL⟩:∃ L,L=nz (w.1 - v.1)::nz (w.2 - v.2)::((edges x++edges y).map fun e=>nz (cr e v - cr e w)):=⟨_,rfl⟩
 obtain ⟨n,hnL⟩:∃ n,n=prodN L:=⟨_,rfl⟩
 have hn:0 < n:=by
  rw [hnL]
  refine prodN_pos L fun a ha=>?_
  rw [hL] at ha
  rcases List.mem_cons.1 ha with rfl | ha
  ·exact nz_pos _
  ·rcases List.mem_cons.1 ha with rfl | ha
   ·exact nz_pos _
   ·obtain ⟨e,_,rfl⟩:=List.mem_map.1 ha
    exact nz_pos _
 have hn':(0:Int) < n:=by omega
 have dx:nz (w.1 - v.1) ∣ n:=by rw [hnL];exact dvd_prodN L _ (by rw [hL];exact List.mem_cons_self)
 have dy:nz (w.2 - v.2) ∣ n:=by rw [hnL];exact dvd_prodN L _ (by rw [hL];exact List.mem_cons_of_mem _ List.mem_cons_self)
 have dD:∀ e∈edges x++edges y,nz (cr e v - cr e w) ∣ n:=fun e he=>by
  rw [hnL]
  exact dvd_prodN L _ (by rw [hL];exact List.mem_cons_of_mem _ (List.mem_cons_of_mem _ (List.mem_map_of_mem he)))
 obtain ⟨t,htn,⟨f,hf,hft⟩,hmin⟩:=least (P:=fun t:Nat=>∃ f∈edges x++edges y,edgeOn (sS n f) (walkTo n v w t)=true) n ⟨f0,List.mem_append_left _ hf0,by
  rw [walk_end,on_sm hn',hw]
  exact on_first' f0⟩
 have ht:0 < t:=by
  rcases Nat.eq_zero_or_pos t with h | h
  ·subst h
   rw [show ((0:Nat):Int)=0 from rfl,walk_zero,on_sm hn'] at hft
   rcases List.mem_append.1 hf with hf | hf
   ·exact (not_on (hvx f hf) hft).elim
   ·exact (not_on (hvy f hf) hft).elim
  ·exact h
 have hmin':∀ e∈edges x++edges y,∀ k:Nat,k < t→edgeOn (sS n e) (walkTo n v w k)=false:=by
  intro e he k hk
  cases c:edgeOn (sS n e) (walkTo n v w k)
  ·rfl
  ·exact (hmin k hk ⟨e,he,c⟩).elim
 have core:∀ (z:List V) (c:Bool),(∀ e∈edges z,e∈edges x++edges y∧edgeOn e v=false∧Disj f e)→In z f.1=c→In z v=c:=by
  intro z c hz hc
  have g1:In (z.map (sm n)) (sm n v)=In (z.map (sm n)) (walkTo n v w t):=in_const (s:=(sm n v,walkTo n v w t)) (fun e he=>by
   rw [edges_sm] at he
   obtain ⟨e0,he0,rfl⟩:=List.mem_map.1 he
   obtain ⟨h1,h2,h3⟩:=hz e0 he0
   exact way_free hn ht (fun _=>dx) (fun _=>dy) hvw (dD e0 h1) h2 h3 hft (hmin' e0 h1))
  have g2:In (z.map (sm n)) (sm n f.1)=In (z.map (sm n)) (walkTo n v w t):=in_const (s:=(sm n f.1,walkTo n v w t)) (fun e he=>by
   rw [edges_sm] at he
   obtain ⟨e0,he0,rfl⟩:=List.mem_map.1 he
   exact disj_sub (s:=sS n f) (disj_sm hn' (hz e0 he0).2.2) hft)
  rw [in_sm hn'] at g1 g2
  rw [g1,← g2,hc]
 rcases List.mem_append.1 hf with hf | hf
 ·exact .inl (core y cx (fun e he=>⟨List.mem_append_right _ he,hvy e he,hxy f hf e he⟩) (hcx f hf))
 ·exact .inr (core x cy (fun e he=>⟨List.mem_append_left _ he,hvx e he,(hxy e he f hf).symm⟩) (hcy f hf))
theorem sgn_prod' {m n:Int} : sgn m*sgn n < 0 ↔ opp m n:=by rw [sgn_prod];rfl
theorem on_edge {e:S} {p:V} (h:segOk e=true):on e p=edgeOn e p:=by
 rw [Bool.eq_iff_iff,on_iff h,on_cr,inBox_iff]
 unfold cr
 omega
theorem disj_iff {s t:S} (hs:segOk s=true) (ht:segOk t=true):meetK s t=0 ↔ Disj s t:=by
 rw [meet_zero,rmeet_zero hs ht,common_nil hs ht,on_edge hs,on_edge hs,on_edge ht,on_edge ht]
 unfold turn
 rw [sgn_prod',sgn_prod']
 constructor
 ·rintro ⟨⟨a,b,c,d⟩,hx⟩
  exact ⟨a,b,c,d,fun h=>hx ⟨h.2,h.1⟩⟩
 ·rintro ⟨a,b,c,d,hx⟩
  exact ⟨⟨a,b,c,d⟩,fun h=>hx ⟨h.2,h.1⟩⟩
/-- The edges of two rings have no point in common. -/
def Off (a b:List V):Prop:=∀ e∈edges a,∀ f∈edges b,Disj e f
theorem Off.symm {a b:List V} (h:Off a b):Off b a:=fun e he f hf=>(h f hf e he).symm
theorem apart_off' {a b:List V} (ha:near a=true) (hb:near b=true):apartB a b=true ↔ Off a b:=by
 unfold apartB Off
 simp only [List.all_eq_true,decide_eq_true_eq]
 exact ⟨fun h e he f hf=>(disj_iff (edge_near ha he) (edge_near hb hf)).1 (h e he f hf),fun h e he f hf=>(disj_iff (edge_near ha he) (edge_near hb hf)).2 (h e he f hf)⟩
theorem where_ring {r:List V} {p:V} (hr:ringB r=true) (hp:within p 4000=true):whereB r p=whereL (edges r) p false:=by
 unfold whereB
 rw [hp,hr]
 rfl
theorem where_is {r:List V} {p:V} (hr:ringB r=true) (hp:within p 4000=true) (h:∀ e∈edges r,edgeOn e p=false):whereB r p=if In r p=true then 2 else 0:=by
 rw [where_ring hr hp,where_par p _ _ h]
 unfold In
 cases oddL (edges r) p<;>rfl
theorem hd_getD {l:List V} : hd l=l.getD 0 (0,0):=by cases l<;>rfl
theorem edge_at {r:List V} (h2:2≤r.length) {i:Nat} (hi:i < r.length):(r.getD i (0,0),nxt r i)∈edges r:=by
 rw [edges_get h2]
 exact List.mem_map.2 ⟨i,List.mem_range.2 hi,rfl⟩
theorem edge_fst {r:List V} {e:S} (he:e∈edges r):e.1∈r∧2≤r.length:=by
 unfold edges at he
 split at he
 ·cases he
 ·rename_i h
  obtain ⟨i,hi,rfl⟩:=List.mem_map.1 he
  exact ⟨getD_mem (List.mem_range.1 hi) _,by omega⟩
/-- The vertices of a ring that is apart from another lie all on one side of it. -/
theorem in_all {a b:List V} (h2:2≤a.length) (h:Off a b):∀ v∈a,In b v=In b (hd a):=by
 have key:∀ i,i < a.length→In b (a.getD i (0,0))=In b (hd a):=by
  intro i
  induction i with
  | zero=>intro _;rw [hd_getD]
  | succ i ih =>
   intro hi
   rw [← ih (by omega)]
   have h1:=in_const (s:=(a.getD i (0,0),nxt a i)) (h _ (edge_at h2 (show i < a.length by omega)))
   have e:nxt a i=a.getD (i+1) (0,0):=by unfold nxt;rw [Nat.mod_eq_of_lt hi]
   rw [e] at h1
   exact h1.symm
 intro v hv
 obtain ⟨i,hi,rfl⟩:=List.getElem_of_mem hv
 have:=key i hi
 rwa [List.getD_eq_getElem?_getD,List.getElem?_eq_getElem hi] at this
theorem hd_mem' {a:List V} (h:0 < a.length):hd a∈a:=by
 rw [hd_getD]
 exact getD_mem h _
theorem vert_free {a b:List V} (h2:2≤a.length) (h:Off a b):∀ v∈a,∀ f∈edges b,edgeOn f v=false:=by
 intro v hv f hf
 obtain ⟨i,hi,rfl⟩:=List.getElem_of_mem hv
 have:=(h _ (edge_at h2 hi) f hf).h1
 simp only at this
 rwa [List.getD_eq_getElem?_getD,List.getElem?_eq_getElem hi] at this
theorem far_free {r:List V} (hn:near r=true):In r (0,2001)=false∧∀ e∈edges r,edgeOn e (0,2001)=false:=by
 have hv:∀ e∈edges r,e.1.2≤2000∧e.2.2≤2000:=by
  intro e he
  unfold edges at he
  split at he
  ·cases he
  ·obtain ⟨i,hi,rfl⟩:=List.mem_map.1 he
   have a1:=near_at hn i
   have a2:=near_at hn ((i+1) % r.length)
   rw [within_iff] at a1 a2
   unfold at' at a1 a2
   exact ⟨a1.2.2.2,a2.2.2.2⟩
 refine ⟨?_,fun e he=>?_⟩
 ·unfold In
  generalize edges r=l at *
  induction l with
  | nil=>rfl
  | cons e l ih =>
   have:=hv e List.mem_cons_self
   rw [oddL,ih fun x hx=>hv x (List.mem_cons_of_mem _ hx)]
   unfold tE
   rw [decide_eq_false (by simp only;omega),decide_eq_false (by simp only;omega)]
   rfl
 ·have:=hv e he
  cases c:edgeOn e (0,2001)
  ·rfl
  ·have:=(on_cr.1 c).2.2
   simp only at this
   omega
/-- Of two rings that are apart not each lies inside of the other. -/
theorem no_nest {a b:List V} (ha:ringB a=true) (hb:ringB b=true) (h:Off a b) : ¬ (In b (hd a)=true∧In a (hd b)=true):=by
 rintro ⟨h1,h2⟩
 obtain ⟨na,la,_⟩:=ring_near ha
 obtain ⟨nb,lb,_⟩:=ring_near hb
 have f1:=far_free na
 have f2:=far_free nb
 have hne:edges a≠[]:=by
  intro e
  have:=edge_at (r:=a) (by omega) (i:=0) (by omega)
  rw [e] at this
  cases this
 have:=first_hit (cx:=true) (cy:=true) hne h f1.2 f2.2 (fun e he=>by rw [in_all (by omega) h e.1 (edge_fst he).1,h1]) (fun e he=>by rw [in_all (by omega) h.symm e.1 (edge_fst he).1,h2])
 rw [f1.1,f2.1] at this
 rcases this with h | h<;>cases h
/-- First hit, for rings. -/
theorem hit {a b:List V} {v:V} (la:2≤a.length) (lb:2≤b.length) (h:Off a b) (va:∀ e∈edges a,edgeOn e v=false) (vb:∀ e∈edges b,edgeOn e v=false):In b v=In b (hd a)∨In a v=In a (hd b):=by
 have hne:edges a≠[]:=by
  intro e
  have:=edge_at (r:=a) la (i:=0) (by omega)
  rw [e] at this
  cases this
 exact first_hit hne h va vb (fun e he=>in_all la h e.1 (edge_fst he).1) (fun e he=>in_all lb h.symm e.1 (edge_fst he).1)
/-- Rings that are apart from a third and lie on different sides of it are apart. -/
theorem off_sides {a b z:List V} (la:2≤a.length) (lb:2≤b.length) (ha:Off a z) (hb:Off b z) (h:In z (hd a)≠In z (hd b)):Off a b:=by
 intro e he f hf
 by_cases c:Disj e f
 ·exact c
 ·have h1:=same_side (ha e he) (hb f hf) c
  rw [in_all la ha e.1 (edge_fst he).1,in_all lb hb f.1 (edge_fst hf).1] at h1
  exact absurd h1 h
abbrev Shp:=List V×List (List V)
/-- How a ring lies to another one: inside of it. -/
def Ins (a b:List V):Bool:=In b (hd a)
/-- Two shapes lie apart: no outer ring inside of the other. -/
structure Far (s t:Shp):Prop where
 off:Off s.1 t.1
 in1:Ins s.1 t.1=false
 in2:Ins t.1 s.1=false
theorem Far.symm {s t:Shp} (h:Far s t):Far t s:=⟨h.off.symm,h.in2,h.in1⟩
/-- A shape, as its rings lie. -/
structure Good (s:Shp):Prop where
 few:s.2.length≤6
 rings:∀ r∈s.1::s.2,ringB r=true
 sum:total (s.1::s.2)≤80
 holes:∀ h∈s.2,Off h s.1∧Ins h s.1=true
 pairs:s.2.Pairwise fun h k=>Off h k∧Ins h k=false∧Ins k h=false
theorem two_of {r:List V} (h:ringB r=true):2≤r.length:=by have:=(ring_near h).2.1;omega
theorem hd_near {r:List V} (h:ringB r=true):within (hd r) 4000=true:=by
 obtain ⟨n,l,_⟩:=ring_near h
 exact within_more (List.all_eq_true.1 n _ (hd_mem' (by omega))) (by omega)
theorem mem_near {r:List V} (h:ringB r=true) {v:V} (hv:v∈r):within v 4000=true:=within_more (List.all_eq_true.1 (ring_near h).1 v hv) (by omega)
theorem all_side {a b:List V} (ha:ringB a=true) (hb:ringB b=true) (h:Off a b) (x:Bool):allB a b (if x=true then 2 else 0)=decide (Ins a b=x):=by
 unfold allB Ins
 rw [Bool.eq_iff_iff,List.all_eq_true]
 simp only [decide_eq_true_eq]
 have hw:∀ v∈a,whereB b v=if In b (hd a)=true then 2 else 0:=fun v hv=>by
  rw [where_is hb (mem_near ha hv) (vert_free (two_of ha) h v hv),in_all (two_of ha) h v hv]
 constructor
 ·intro g
  have:=g (hd a) (hd_mem' (by have:=two_of ha;omega))
  rw [hw _ (hd_mem' (by have:=two_of ha;omega))] at this
  cases hb2:In b (hd a)<;>rw [hb2] at this<;>cases x<;>simp at this ⊢
 ·intro g v hv
  rw [hw v hv,g]
theorem good_iff {s:Shp} : shapeB s.1 s.2=true ↔ Good s:=by
 rw [shape_iff]
 constructor
 ·rintro ⟨h1,h2,h3,h4,h5⟩
  have ro:=h2 s.1 List.mem_cons_self
  have rh:∀ h∈s.2,ringB h=true:=fun h hh=>h2 h (List.mem_cons_of_mem _ hh)
  refine ⟨h1,h2,h3,fun h hh=>?_,?_⟩
  ·obtain ⟨a,b⟩:=h4 h hh
   have o:=(apart_off' (ring_near (rh h hh)).1 (ring_near ro).1).1 b
   have:=all_side (rh h hh) ro o true
   rw [if_pos rfl,a] at this
   exact ⟨o,of_decide_eq_true this.symm⟩
  ·refine List.Pairwise.imp_of_mem ?_ h5
   intro h k hh hk hp
   have r1:=rh h hh
   have r2:=rh k hk
   unfold pairB at hp
   simp only [Bool.and_eq_true] at hp
   have o:=(apart_off' (ring_near r2).1 (ring_near r1).1).1 hp.1
   have a1:=all_side r2 r1 o false
   have a2:=all_side r1 r2 o.symm false
   rw [if_neg (by decide),hp.2.1] at a1
   rw [if_neg (by decide),hp.2.2] at a2
   exact ⟨o.symm,of_decide_eq_true a2.symm,of_decide_eq_true a1.symm⟩
 ·rintro ⟨h1,h2,h3,h4,h5⟩
  have ro:=h2 s.1 List.mem_cons_self
  have rh:∀ h∈s.2,ringB h=true:=fun h hh=>h2 h (List.mem_cons_of_mem _ hh)
  refine ⟨h1,h2,h3,fun h hh=>?_,?_⟩
  ·obtain ⟨o,i⟩:=h4 h hh
   have:=all_side (rh h hh) ro o true
   rw [if_pos rfl,i] at this
   exact ⟨this,(apart_off' (ring_near (rh h hh)).1 (ring_near ro).1).2 o⟩
  ·refine List.Pairwise.imp_of_mem ?_ h5
   intro h k hh hk hp
   have r1:=rh h hh
   have r2:=rh k hk
   obtain ⟨o,i1,i2⟩:=hp
   have a1:=all_side r2 r1 o.symm false
   have a2:=all_side r1 r2 o false
   rw [if_neg (by decide),i2] at a1
   rw [if_neg (by decide),i1] at a2
   unfold pairB
   rw [(apart_off' (ring_near r2).1 (ring_near r1).1).2 o.symm,a1,a2]
   rfl
section
variable {s t:Shp}
theorem Good.outer (h:Good s):ringB s.1=true:=h.rings _ List.mem_cons_self
theorem Good.hole (h:Good s) {k:List V} (hk:k∈s.2):ringB k=true:=h.rings _ (List.mem_cons_of_mem _ hk)
/-- The outer ring does not lie inside of a hole of its own. -/
theorem own_out (h:Good s) {k:List V} (hk:k∈s.2):Ins s.1 k=false:=by
 cases c:Ins s.1 k
 ·rfl
 ·exact (no_nest (h.hole hk) h.outer (h.holes k hk).1 ⟨(h.holes k hk).2,c⟩).elim
theorem far_hole_off (hs:Good s) (ht:Good t) (f:Far s t) {k:List V} (hk:k∈t.2):Off k s.1:=by
 refine off_sides (z:=t.1) (two_of (ht.hole hk)) (two_of hs.outer) (ht.holes k hk).1 f.off ?_
 have h1:=(ht.holes k hk).2
 have h2:=f.in1
 unfold Ins at h1 h2
 rw [h1,h2]
 decide
theorem ins_hit {a b c:List V} (ha:ringB a=true) (hb:ringB b=true) (hc:ringB c=true) (h:Off a b) (ca:Off c a) (cb:Off c b):Ins c b=Ins a b∨Ins c a=Ins b a :=
 hit (two_of ha) (two_of hb) h (vert_free (two_of hc) ca _ (hd_mem' (by have:=two_of hc;omega))) (vert_free (two_of hc) cb _ (hd_mem' (by have:=two_of hc;omega)))
theorem far_hole_out (hs:Good s) (ht:Good t) (f:Far s t) {k:List V} (hk:k∈t.2):Ins k s.1=false:=by
 rcases ins_hit ht.outer hs.outer (ht.hole hk) f.off.symm (ht.holes k hk).1 (far_hole_off hs ht f hk) with h | h
 ·rw [h];exact f.in2
 ·rw [(ht.holes k hk).2,f.in1] at h;cases h
theorem far_holes_off (hs:Good s) (ht:Good t) (f:Far s t) {k j:List V} (hk:k∈t.2) (hj:j∈s.2):Off k j:=by
 refine off_sides (z:=s.1) (two_of (ht.hole hk)) (two_of (hs.hole hj)) (far_hole_off hs ht f hk) (hs.holes j hj).1 ?_
 have h1:=(hs.holes j hj).2
 have h2:=far_hole_out hs ht f hk
 unfold Ins at h1 h2
 rw [h1,h2]
 decide
theorem far_outer_out (hs:Good s) (ht:Good t) (f:Far s t) {k:List V} (hk:k∈t.2):Ins s.1 k=false:=by
 rcases ins_hit (ht.hole hk) ht.outer hs.outer (ht.holes k hk).1 (far_hole_off hs ht f hk).symm f.off with h | h
 ·rw [(ht.holes k hk).2,f.in1] at h;cases h
 ·rw [h];exact own_out ht hk
theorem far_holes_out (hs:Good s) (ht:Good t) (f:Far s t) {k j:List V} (hk:k∈t.2) (hj:j∈s.2):Ins j k=false:=by
 rcases ins_hit (ht.hole hk) ht.outer (hs.hole hj) (ht.holes k hk).1 (far_holes_off hs ht f hk hj).symm (far_hole_off ht hs f.symm hj) with h | h
 ·rw [(ht.holes k hk).2,far_hole_out ht hs f.symm hj] at h;cases h
 ·rw [h];exact own_out ht hk
/-- Rings of two shapes that lie apart are apart, and none lies inside of the other. -/
theorem far_rings (hs:Good s) (ht:Good t) (f:Far s t) {a b:List V} (ha:a∈s.1::s.2) (hb:b∈t.1::t.2):Off a b∧Ins a b=false:=by
 rcases List.mem_cons.1 ha with rfl | ha
 ·rcases List.mem_cons.1 hb with rfl | hb
  ·exact ⟨f.off,f.in1⟩
  ·exact ⟨(far_hole_off hs ht f hb).symm,far_outer_out hs ht f hb⟩
 ·rcases List.mem_cons.1 hb with rfl | hb
  ·exact ⟨far_hole_off ht hs f.symm ha,far_hole_out ht hs f.symm ha⟩
  ·exact ⟨(far_holes_off hs ht f hb ha).symm,far_holes_out hs ht f hb ha⟩
end
end Go.Proofs.YtnmmhcchpcbeeaaGreat.Ge
