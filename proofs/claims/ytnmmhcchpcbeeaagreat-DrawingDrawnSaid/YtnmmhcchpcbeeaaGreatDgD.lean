/- Plain: the plane made larger; two segments that meet lie on one side of a ring that they are apart from. No function is in sight. Conditions: none. -/
import Derived.Test.YtnmmhcchpcbeeaaGreatGeH

namespace Go.Proofs.YtnmmhcchpcbeeaaGreat.Ge
open Go
theorem lg (a b:Int):a < b∨b≤a:=by omega
theorem pos_of {x y z:Int} (hy:0 < y) (h:x*y=z) (hz:0 < z):0 < x:=by
 rcases Int.lt_trichotomy x 0 with c | c | c
 ·have:=Int.mul_neg_of_neg_of_pos c hy;omega
 ·subst c;omega
 ·exact c
theorem neg_of {x y z:Int} (hy:0 < y) (h:x*y=z) (hz:z < 0):x < 0:=by
 rcases Int.lt_trichotomy x 0 with c | c | c
 ·exact c
 ·subst c;omega
 ·have:=Int.mul_pos c hy;omega
theorem nonpos_of {x y z:Int} (hy:0 < y) (h:x*y=z) (hz:z≤0):x≤0:=by
 rcases lg 0 x with c | c
 ·have:=Int.mul_pos c hy;omega
 ·exact c
/-- Two segments that go up, apart from each other: the signs at the two ends of the heights they share are the same. -/
theorem sep_core {A B U W o1 o2 o3 o4:Int} (hAB:A≤B) (hUW:U≤W)
  (f1:o1*(W - U)=o4*(A - U) - o3*(B - U)) (f2:o2*(W - U)=o3*(W - B) - o4*(W - A))
  (f3:o3*(B - A)=o2*(U - A) - o1*(W - A)) (f4:o4*(B - A)=o1*(B - W) - o2*(B - U))
  (hu:A < B→A≤U→U≤B→o1≠0) (hv:A < B→A≤W→W≤B→o2≠0) (ha:U < W→U≤A→A≤W→o3≠0) (hb:U < W→U≤B→B≤W→o4≠0)
  (hx : ¬ (((o1 < 0∧0 < o2)∨(0 < o1∧o2 < 0))∧((o3 < 0∧0 < o4)∨(0 < o3∧o4 < 0))))
  (hs:U=A→W=A→A < B→¬ (0 < o1∧o2 < 0)∧¬ (o1 < 0∧0 < o2)) (he:A=W→B=W→U < W→¬ (o3 < 0∧0 < o4)∧¬ (0 < o3∧o4 < 0)) :
  (decide (A≤U∧U < B∧0 < o1) != decide (A≤W∧W < B∧0 < o2))=(decide (U < A∧A≤W∧o3 < 0) != decide (U < B∧B≤W∧o4 < 0)):=by
 rcases lg U B with c1 | c1
 case inr =>
  rw [decide_eq_false (by omega),decide_eq_false (by omega),decide_eq_false (by omega),decide_eq_false (by omega)]
 rcases lg W A with c2 | c2
 ·rw [decide_eq_false (by omega),decide_eq_false (by omega),decide_eq_false (by omega),decide_eq_false (by omega)]
 rcases lg U A with c3 | c3
 ·rcases lg W B with c4 | c4
  ·-- U < A ≤ W < B
   have k3:=ha (by omega) (by omega) (by omega)
   have k2:=hv (by omega) (by omega) (by omega)
   have key:o3 < 0 ↔ 0 < o2:=by
    constructor
    ·intro h3
     rcases lg 0 o2 with h2 | h2
     ·exact h2
     ·exfalso
      have h2':o2 < 0:=by omega
      have p1:=Int.mul_pos_of_neg_of_neg h3 (show W - B < 0 by omega)
      have p2:=Int.mul_neg_of_neg_of_pos h2' (show 0 < W - U by omega)
      have h4:0 < o4:=by
       rcases lg 0 o4 with h | h
       ·exact h
       ·have:=Int.mul_nonpos_of_nonpos_of_nonneg h (show 0≤W - A by omega);omega
      have p3:=Int.mul_pos h4 (show 0 < A - U by omega)
      have p4:=Int.mul_neg_of_neg_of_pos h3 (show 0 < B - U by omega)
      have h1:=pos_of (show 0 < W - U by omega) f1 (by omega)
      exact hx ⟨.inr ⟨h1,h2'⟩,.inl ⟨h3,h4⟩⟩
    ·intro h2
     rcases lg o3 0 with h3 | h3
     ·exact h3
     ·exfalso
      have h3':0 < o3:=by omega
      have p1:=Int.mul_neg_of_pos_of_neg h3' (show W - B < 0 by omega)
      have p2:=Int.mul_pos h2 (show 0 < W - U by omega)
      have h4:o4 < 0:=by
       rcases lg o4 0 with h | h
       ·exact h
       ·have:=Int.mul_nonneg h (show 0≤W - A by omega);omega
      have p3:=Int.mul_neg_of_neg_of_pos h4 (show 0 < A - U by omega)
      have p4:=Int.mul_pos h3' (show 0 < B - U by omega)
      have h1:=neg_of (show 0 < W - U by omega) f1 (by omega)
      exact hx ⟨.inl ⟨h1,h2⟩,.inr ⟨h3',h4⟩⟩
   rw [decide_eq_false (show ¬ (A≤U∧U < B∧0 < o1) by omega),decide_eq_false (show ¬ (U < B∧B≤W∧o4 < 0) by omega),decide_eq_decide.2 (show (A≤W∧W < B∧0 < o2) ↔ (U < A∧A≤W∧o3 < 0) by omega)]
   cases decide (U < A∧A≤W∧o3 < 0)<;>rfl
  ·-- U < A ≤ B ≤ W
   have k3:=ha (by omega) (by omega) (by omega)
   have k4:=hb (by omega) (by omega) (by omega)
   have key:o3 < 0 ↔ o4 < 0:=by
    constructor
    ·intro h3
     rcases lg o4 0 with h4 | h4
     ·exact h4
     ·exfalso
      have h4':0 < o4:=by omega
      have p1:=Int.mul_pos h4' (show 0 < A - U by omega)
      have p2:=Int.mul_neg_of_neg_of_pos h3 (show 0 < B - U by omega)
      have h1:=pos_of (show 0 < W - U by omega) f1 (by omega)
      have p3:=Int.mul_nonpos_of_nonpos_of_nonneg (Int.le_of_lt h3) (show 0≤W - B by omega)
      have p4:=Int.mul_nonneg (Int.le_of_lt h4') (show 0≤W - A by omega)
      have h2:=nonpos_of (show 0 < W - U by omega) f2 (by omega)
      rcases lg o2 0 with h2' | h2'
      ·exact hx ⟨.inr ⟨h1,h2'⟩,.inl ⟨h3,h4'⟩⟩
      ·have h20:o2=0:=by omega
       rw [h20,Int.zero_mul] at f2
       rcases lg 0 (W - B) with c | c
       ·have:=Int.mul_neg_of_neg_of_pos h3 c;omega
       ·rcases lg 0 (W - A) with d | d
        ·have:=Int.mul_pos h4' d;omega
        ·exact (he (by omega) (by omega) (by omega)).1 ⟨h3,h4'⟩
    ·intro h4
     rcases lg o3 0 with h3 | h3
     ·exact h3
     ·exfalso
      have h3':0 < o3:=by omega
      have p1:=Int.mul_neg_of_neg_of_pos h4 (show 0 < A - U by omega)
      have p2:=Int.mul_pos h3' (show 0 < B - U by omega)
      have h1:=neg_of (show 0 < W - U by omega) f1 (by omega)
      have p3:=Int.mul_nonneg (Int.le_of_lt h3') (show 0≤W - B by omega)
      have p4:=Int.mul_nonpos_of_nonpos_of_nonneg (Int.le_of_lt h4) (show 0≤W - A by omega)
      rcases lg 0 o2 with h2' | h2'
      ·exact hx ⟨.inl ⟨h1,h2'⟩,.inr ⟨h3',h4⟩⟩
      ·have p5:=Int.mul_nonpos_of_nonpos_of_nonneg h2' (show 0≤W - U by omega)
       rcases lg 0 (W - B) with c | c
       ·have:=Int.mul_pos h3' c;omega
       ·rcases lg 0 (W - A) with d | d
        ·have:=Int.mul_neg_of_neg_of_pos h4 d;omega
        ·exact (he (by omega) (by omega) (by omega)).2 ⟨h3',h4⟩
   rw [decide_eq_false (show ¬ (A≤U∧U < B∧0 < o1) by omega),decide_eq_false (show ¬ (A≤W∧W < B∧0 < o2) by omega),decide_eq_decide.2 (show (U < A∧A≤W∧o3 < 0) ↔ (U < B∧B≤W∧o4 < 0) by omega)]
   cases decide (U < B∧B≤W∧o4 < 0)<;>rfl
 ·rcases lg W B with c4 | c4
  ·-- A ≤ U ≤ W < B
   have k1:=hu (by omega) (by omega) (by omega)
   have k2:=hv (by omega) (by omega) (by omega)
   have key:0 < o1 ↔ 0 < o2:=by
    constructor
    ·intro h1
     rcases lg 0 o2 with h2 | h2
     ·exact h2
     ·exfalso
      have h2':o2 < 0:=by omega
      have p1:=Int.mul_nonpos_of_nonpos_of_nonneg (Int.le_of_lt h2') (show 0≤U - A by omega)
      have p2:=Int.mul_nonneg (Int.le_of_lt h1) (show 0≤W - A by omega)
      have p3:=Int.mul_pos h1 (show 0 < B - W by omega)
      have p4:=Int.mul_neg_of_neg_of_pos h2' (show 0 < B - U by omega)
      have h4:=pos_of (show 0 < B - A by omega) f4 (by omega)
      rcases lg o3 0 with h3 | h3
      ·exact hx ⟨.inr ⟨h1,h2'⟩,.inl ⟨h3,h4⟩⟩
      ·have p5:=Int.mul_nonneg h3 (show 0≤B - A by omega)
       rcases lg 0 (W - A) with c | c
       ·have:=Int.mul_pos h1 c;omega
       ·exact (hs (by omega) (by omega) (by omega)).1 ⟨h1,h2'⟩
    ·intro h2
     rcases lg 0 o1 with h1 | h1
     ·exact h1
     ·exfalso
      have h1':o1 < 0:=by omega
      have p1:=Int.mul_nonneg (Int.le_of_lt h2) (show 0≤U - A by omega)
      have p2:=Int.mul_nonpos_of_nonpos_of_nonneg (Int.le_of_lt h1') (show 0≤W - A by omega)
      have p3:=Int.mul_neg_of_neg_of_pos h1' (show 0 < B - W by omega)
      have p4:=Int.mul_pos h2 (show 0 < B - U by omega)
      have h4:=neg_of (show 0 < B - A by omega) f4 (by omega)
      rcases lg 0 o3 with h3 | h3
      ·exact hx ⟨.inl ⟨h1',h2⟩,.inr ⟨h3,h4⟩⟩
      ·have p5:=Int.mul_nonpos_of_nonpos_of_nonneg h3 (show 0≤B - A by omega)
       rcases lg 0 (W - A) with c | c
       ·have:=Int.mul_neg_of_neg_of_pos h1' c;omega
       ·exact (hs (by omega) (by omega) (by omega)).2 ⟨h1',h2⟩
   rw [decide_eq_false (show ¬ (U < A∧A≤W∧o3 < 0) by omega),decide_eq_false (show ¬ (U < B∧B≤W∧o4 < 0) by omega),decide_eq_decide.2 (show (A≤U∧U < B∧0 < o1) ↔ (A≤W∧W < B∧0 < o2) by omega)]
   cases decide (A≤W∧W < B∧0 < o2)<;>rfl
  ·-- A ≤ U < B ≤ W
   have k1:=hu (by omega) (by omega) (by omega)
   have k4:=hb (by omega) (by omega) (by omega)
   have key:0 < o1 ↔ o4 < 0:=by
    constructor
    ·intro h1
     rcases lg o4 0 with h4 | h4
     ·exact h4
     ·exfalso
      have h4':0 < o4:=by omega
      have p1:=Int.mul_pos h1 (show 0 < W - U by omega)
      have p2:=Int.mul_nonpos_of_nonneg_of_nonpos (Int.le_of_lt h4') (show A - U≤0 by omega)
      have h3:o3 < 0:=by
       rcases lg o3 0 with h | h
       ·exact h
       ·have:=Int.mul_nonneg h (show 0≤B - U by omega);omega
      have p3:=Int.mul_nonpos_of_nonpos_of_nonneg (Int.le_of_lt h3) (show 0≤W - B by omega)
      have p4:=Int.mul_pos h4' (show 0 < W - A by omega)
      have h2:=neg_of (show 0 < W - U by omega) f2 (by omega)
      exact hx ⟨.inr ⟨h1,h2⟩,.inl ⟨h3,h4'⟩⟩
    ·intro h4
     rcases lg 0 o1 with h1 | h1
     ·exact h1
     ·exfalso
      have h1':o1 < 0:=by omega
      have p1:=Int.mul_neg_of_neg_of_pos h1' (show 0 < W - U by omega)
      have p2:=Int.mul_nonneg_of_nonpos_of_nonpos (Int.le_of_lt h4) (show A - U≤0 by omega)
      have h3:0 < o3:=by
       rcases lg 0 o3 with h | h
       ·exact h
       ·have:=Int.mul_nonpos_of_nonpos_of_nonneg h (show 0≤B - U by omega);omega
      have p3:=Int.mul_nonneg (Int.le_of_lt h3) (show 0≤W - B by omega)
      have p4:=Int.mul_neg_of_neg_of_pos h4 (show 0 < W - A by omega)
      have h2:=pos_of (show 0 < W - U by omega) f2 (by omega)
      exact hx ⟨.inl ⟨h1',h2⟩,.inr ⟨h3,h4⟩⟩
   rw [decide_eq_false (show ¬ (A≤W∧W < B∧0 < o2) by omega),decide_eq_false (show ¬ (U < A∧A≤W∧o3 < 0) by omega),decide_eq_decide.2 (show (A≤U∧U < B∧0 < o1) ↔ (U < B∧B≤W∧o4 < 0) by omega)]
   cases decide (U < B∧B≤W∧o4 < 0)<;>rfl
theorem bne_c (a b:Bool):(a != b)=(b != a):=by cases a<;>cases b<;>rfl
def cr (e:S) (p:V):Int:=cross (sub e.2 e.1) (sub p e.1)
/-- The ray from a point to the right goes through an edge. -/
def tE (e:S) (p:V):Bool:=decide (e.1.2≤p.2∧p.2 < e.2.2∧0 < cr e p) || decide (e.2.2≤p.2∧p.2 < e.1.2∧cr e p < 0)
/-- A point lies to the right of a segment. -/
def gS (s:S) (p:V):Bool:=decide (s.1.2 < p.2∧p.2≤s.2.2∧cr s p < 0) || decide (s.2.2 < p.2∧p.2≤s.1.2∧0 < cr s p)
def opp (a b:Int):Prop:=(a < 0∧0 < b)∨(0 < a∧b < 0)
/-- Segments without a point in common. -/
structure Disj (s e:S):Prop where
 h1:edgeOn e s.1=false
 h2:edgeOn e s.2=false
 h3:edgeOn s e.1=false
 h4:edgeOn s e.2=false
 hx : ¬ (opp (cr e s.1) (cr e s.2)∧opp (cr s e.1) (cr s e.2))
theorem cr_swap (e:S) (p:V):cr (e.2,e.1) p = - cr e p:=by
 simp only [cr,cross,sub];grind
theorem on_cr {e:S} {p:V} : edgeOn e p=true ↔ cr e p=0∧(min e.1.1 e.2.1≤p.1∧p.1≤max e.1.1 e.2.1)∧min e.1.2 e.2.2≤p.2∧p.2≤max e.1.2 e.2.2:=by
 unfold edgeOn cr
 simp only [Bool.and_eq_true,decide_eq_true_eq]
 omega
theorem on_swap (e:S) (p:V):edgeOn (e.2,e.1) p=edgeOn e p:=by
 rw [Bool.eq_iff_iff,on_cr,on_cr,cr_swap]
 simp only
 omega
theorem tE_swap (e:S) (p:V):tE (e.2,e.1) p=tE e p:=by
 unfold tE
 rw [cr_swap,Bool.or_comm]
 congr 1
 ·exact decide_eq_decide.2 (by simp only;omega)
 ·exact decide_eq_decide.2 (by simp only;omega)
theorem gS_swap (s:S) (p:V):gS (s.2,s.1) p=gS s p:=by
 unfold gS
 rw [cr_swap,Bool.or_comm]
 congr 1
 ·exact decide_eq_decide.2 (by simp only;omega)
 ·exact decide_eq_decide.2 (by simp only;omega)
theorem opp_swap {a b:Int} : opp a b→opp b a:=by unfold opp;omega
theorem opp_neg {a b:Int} : opp (-a) (-b) ↔ opp a b:=by unfold opp;omega
theorem Disj.symm {s e:S} (h:Disj s e):Disj e s:=⟨h.h3,h.h4,h.h1,h.h2,fun x=>h.hx ⟨x.2,x.1⟩⟩
theorem Disj.swap {s e:S} (h:Disj s e):Disj (s.2,s.1) e :=
 ⟨h.h2,h.h1,by rw [on_swap];exact h.h3,by rw [on_swap];exact h.h4,fun x=>h.hx ⟨opp_swap x.1,by rw [cr_swap,cr_swap] at x;exact opp_neg.1 x.2⟩⟩
theorem on_of {e:S} {p:V} (hc:cr e p=0) (h1:e.1.2 < e.2.2) (h2:e.1.2≤p.2) (h3:p.2≤e.2.2):edgeOn e p=true:=by
 have hs:=box_share (a:=e.1) (b:=e.2) (p:=p) (d:=e.2.2 - e.1.2) (k:=p.2 - e.1.2) (by omega) (by simp only [cr,cross,sub] at hc;grind) (by grind) (Or.inr (by omega))
 have hi:=hs.2 ⟨by omega,by omega⟩
 rw [inBox_iff] at hi
 rw [on_cr]
 exact ⟨hc,by omega⟩
theorem sep_up {s e:S} (h:Disj s e) (hs:s.1.2≤s.2.2) (he:e.1.2≤e.2.2):(tE e s.1 != tE e s.2)=(gS s e.1 != gS s e.2):=by
 have t1:∀ p:V,tE e p=decide (e.1.2≤p.2∧p.2 < e.2.2∧0 < cr e p):=fun p=>by
  unfold tE
  rw [decide_eq_false (show ¬ (e.2.2≤p.2∧p.2 < e.1.2∧cr e p < 0) by omega),Bool.or_false]
 have g1:∀ p:V,gS s p=decide (s.1.2 < p.2∧p.2≤s.2.2∧cr s p < 0):=fun p=>by
  unfold gS
  rw [decide_eq_false (show ¬ (s.2.2 < p.2∧p.2≤s.1.2∧0 < cr s p) by omega),Bool.or_false]
 rw [t1,t1,g1,g1]
 have ne:∀ {b:Bool},b=false→¬ b=true:=fun h=>by rw [h];decide
 refine sep_core he hs ?_ ?_ ?_ ?_ ?_ ?_ ?_ ?_ ?_ ?_ ?_
 ·simp only [cr,cross,sub];grind
 ·simp only [cr,cross,sub];grind
 ·simp only [cr,cross,sub];grind
 ·simp only [cr,cross,sub];grind
 ·exact fun a b c hz=>ne h.h1 (on_of hz a b c)
 ·exact fun a b c hz=>ne h.h2 (on_of hz a b c)
 ·exact fun a b c hz=>ne h.h3 (on_of hz a b c)
 ·exact fun a b c hz=>ne h.h4 (on_of hz a b c)
 ·exact h.hx
 ·intro a b _
  have e1:(e.1.1 - s.1.1)*(e.2.2 - e.1.2)=cr e s.1:=by
   simp only [cr,cross,sub];rw [a];grind
  have e2:(s.2.1 - e.1.1)*(e.2.2 - e.1.2) = - cr e s.2:=by
   simp only [cr,cross,sub];rw [b];grind
  have e3:cr s e.1=0:=by
   simp only [cr,cross,sub];rw [a,b];grind
  refine ⟨fun hh=>?_,fun hh=>?_⟩
  ·have p1:=pos_of (by omega) e1 hh.1
   have p2:=pos_of (by omega) e2 (by omega)
   exact ne h.h3 (on_cr.2 ⟨e3,by omega⟩)
  ·have p1:=neg_of (by omega) e1 hh.1
   have p2:=neg_of (by omega) e2 (by omega)
   exact ne h.h3 (on_cr.2 ⟨e3,by omega⟩)
 ·intro a b _
  have e1:(s.2.1 - e.1.1)*(s.2.2 - s.1.2)=cr s e.1:=by
   simp only [cr,cross,sub];rw [a];grind
  have e2:(e.2.1 - s.2.1)*(s.2.2 - s.1.2) = - cr s e.2:=by
   simp only [cr,cross,sub];rw [b];grind
  have e3:cr e s.2=0:=by
   simp only [cr,cross,sub];rw [a,b];grind
  refine ⟨fun hh=>?_,fun hh=>?_⟩
  ·have p1:=neg_of (by omega) e1 hh.1
   have p2:=neg_of (by omega) e2 (by omega)
   exact ne h.h2 (on_cr.2 ⟨e3,by omega⟩)
  ·have p1:=pos_of (by omega) e1 hh.1
   have p2:=pos_of (by omega) e2 (by omega)
   exact ne h.h2 (on_cr.2 ⟨e3,by omega⟩)
/-- Segments apart from each other: how often the rays from the ends of the one go through the other is told by the ends of the other. -/
theorem sep {s e:S} (h:Disj s e):(tE e s.1 != tE e s.2)=(gS s e.1 != gS s e.2):=by
 have step:∀ {s e:S},Disj s e→e.1.2≤e.2.2→(tE e s.1 != tE e s.2)=(gS s e.1 != gS s e.2):=fun {s e} h he=>by
  rcases Int.le_total s.1.2 s.2.2 with c | c
  ·exact sep_up h c he
  ·have:=sep_up (s:=(s.2,s.1)) h.swap c he
   rw [gS_swap,gS_swap] at this
   rw [bne_c]
   exact this
 rcases Int.le_total e.1.2 e.2.2 with c | c
 ·exact step h c
 ·have:=step (e:=(e.2,e.1)) h.symm.swap.symm c
  rw [tE_swap,tE_swap] at this
  rw [this]
  exact bne_c _ _
theorem tE_same (e:S) (p:V):redgeTurns e p=tE e p:=by
 unfold redgeTurns tE cr
 rw [Bool.eq_iff_iff]
 simp only [Bool.or_eq_true,Bool.and_eq_true,decide_eq_true_eq,sgn_pos,sgn_neg,and_assoc]
/-- How often the ray from a point goes through edges: odd or even. -/
def oddL (l:List S) (p:V):Bool :=
 match l with
 | []=>false
 | e::l=>tE e p != oddL l p
theorem where_par (p:V):∀ (l:List S) (ins:Bool),(∀ e∈l,edgeOn e p=false)→whereL l p ins=if (oddL l p != ins)=true then 2 else 0
 | [],ins,_=>by cases ins<;>rfl
 | e::l,ins,h=>by
  have h0:=h e List.mem_cons_self
  rw [whereL,h0,if_neg (by decide),where_par p l _ (fun x hx=>h x (List.mem_cons_of_mem _ hx)),← edgeTurns_same h0,tE_same,oddL]
  cases tE e p<;>cases oddL l p<;>cases ins<;>rfl
theorem par_diff {u v:V} {g:V→Bool} : ∀ {l:List S},(∀ e∈l,(tE e u != tE e v)=(g e.1 != g e.2))→∀ c:Bool,(l.foldl (fun b e=>b != (g e.1 != g e.2)) c)=(c != (oddL l u != oddL l v))
 | [],_,c=>by cases c<;>rfl
 | e::l,h,c=>by
  rw [List.foldl_cons,par_diff (fun x hx=>h x (List.mem_cons_of_mem _ hx)),← h e List.mem_cons_self,oddL,oddL]
  cases c<;>cases tE e u<;>cases tE e v<;>cases oddL l u<;>cases oddL l v<;>rfl
def In (r:List V) (p:V):Bool:=oddL (edges r) p
theorem closed_sum (g:V→Bool) (r:List V) (k:Nat) (hk:k+1≤r.length):(((List.range k).map fun i=>(r.getD i (0,0),nxt r i)).foldl (fun b e=>b != (g e.1 != g e.2)) false)=(g (r.getD 0 (0,0)) != g (r.getD k (0,0))):=by
 induction k with
 | zero=>cases g (r.getD 0 (0,0))<;>rfl
 | succ k ih =>
  rw [List.range_succ,List.map_append,List.foldl_append,ih (by omega)]
  have e:nxt r k=r.getD (k+1) (0,0):=by unfold nxt;rw [Nat.mod_eq_of_lt (by omega)]
  simp only [List.map_cons,List.map_nil,List.foldl_cons,List.foldl_nil]
  rw [e]
  cases g (r.getD 0 (0,0))<;>cases g (r.getD k (0,0))<;>cases g (r.getD (k+1) (0,0))<;>rfl
/-- Along a segment that is apart from a ring, inside stays inside. -/
theorem in_const {r:List V} {s:S} (h:∀ e∈edges r,Disj s e):In r s.1=In r s.2:=by
 have h1:=par_diff (l:=edges r) (u:=s.1) (v:=s.2) (g:=gS s) (fun e he=>sep (h e he)) false
 have h2:(edges r).foldl (fun b e=>b != (gS s e.1 != gS s e.2)) false=false:=by
  unfold edges
  split
  ·rfl
  ·rename_i hn
   obtain ⟨k,hk⟩:∃ k,r.length=k+1:=⟨r.length - 1,by omega⟩
   rw [hk,List.range_succ,List.map_append,List.foldl_append,closed_sum _ _ _ (by omega)]
   have e:nxt r k=r.getD 0 (0,0):=by unfold nxt;rw [hk,Nat.mod_self]
   simp only [List.map_cons,List.map_nil,List.foldl_cons,List.foldl_nil]
   rw [e]
   cases gS s (r.getD 0 (0,0))<;>cases gS s (r.getD k (0,0))<;>rfl
 rw [h2] at h1
 unfold In
 cases h3:oddL (edges r) s.1<;>cases h4:oddL (edges r) s.2<;>rw [h3,h4] at h1<;>first | rfl | cases h1
/-! ### Points of a segment -/
theorem on_conv {e:S} {p:V} {d k:Int} (hd:0 < d) (h0:0≤k) (h1:k≤d) (hx:d*(p.1 - e.1.1)=k*(e.2.1 - e.1.1)) (hy:d*(p.2 - e.1.2)=k*(e.2.2 - e.1.2)):edgeOn e p=true:=by
 have b1:=betw hd hx h0 h1
 have b2:=betw hd hy h0 h1
 rw [on_cr]
 refine ⟨?_,by omega,by omega⟩
 have:d*cr e p=0:=by
  simp only [cr,cross,sub];grind
 rcases Int.mul_eq_zero.1 this with h | h
 ·omega
 ·exact h
theorem conv_on {e:S} {p:V} (h:edgeOn e p=true):∃ d k:Int,0 < d∧0≤k∧k≤d∧d*(p.1 - e.1.1)=k*(e.2.1 - e.1.1)∧d*(p.2 - e.1.2)=k*(e.2.2 - e.1.2)∧(d=e.2.1 - e.1.1∨d=e.1.1 - e.2.1∨d=e.2.2 - e.1.2∨d=e.1.2 - e.2.2∨d=1):=by
 obtain ⟨hc,hx,hy⟩:=on_cr.1 h
 simp only [cr,cross,sub] at hc
 rcases Int.lt_trichotomy e.1.1 e.2.1 with c | c | c
 ·exact ⟨e.2.1 - e.1.1,p.1 - e.1.1,by omega,by omega,by omega,by grind,by grind,by omega⟩
 ·rcases Int.lt_trichotomy e.1.2 e.2.2 with b | b | b
  ·exact ⟨e.2.2 - e.1.2,p.2 - e.1.2,by omega,by omega,by omega,by rw [show p.1 - e.1.1=0 by omega,show e.2.1 - e.1.1=0 by omega];omega,by grind,by omega⟩
  ·exact ⟨1,0,by omega,by omega,by omega,by omega,by omega,by omega⟩
  ·exact ⟨e.1.2 - e.2.2,e.1.2 - p.2,by omega,by omega,by omega,by rw [show p.1 - e.1.1=0 by omega,show e.2.1 - e.1.1=0 by omega];omega,by grind,by omega⟩
 ·exact ⟨e.1.1 - e.2.1,e.1.1 - p.1,by omega,by omega,by omega,by grind,by grind,by omega⟩
/-- The side of a point between two others. -/
theorem cr_conv {e s:S} {p:V} {d k:Int} (hx:d*(p.1 - s.1.1)=k*(s.2.1 - s.1.1)) (hy:d*(p.2 - s.1.2)=k*(s.2.2 - s.1.2)):d*cr e p=(d - k)*cr e s.1+k*cr e s.2:=by
 simp only [cr,cross,sub];grind
theorem cr_sub {s:S} {p q:V} {d k:Int} (hx:d*(p.1 - s.1.1)=k*(s.2.1 - s.1.1)) (hy:d*(p.2 - s.1.2)=k*(s.2.2 - s.1.2)):d*cr (s.1,p) q=k*cr s q:=by
 simp only [cr,cross,sub];grind
theorem on_x {e:S} {p:V} (hc:cr e p=0) (hn:e.1.1≠e.2.1) (hx:min e.1.1 e.2.1≤p.1∧p.1≤max e.1.1 e.2.1):edgeOn e p=true:=by
 simp only [cr,cross,sub] at hc
 rcases Int.lt_or_gt_of_ne hn with c | c
 ·exact on_conv (d:=e.2.1 - e.1.1) (k:=p.1 - e.1.1) (by omega) (by omega) (by omega) (by grind) (by grind)
 ·exact on_conv (d:=e.1.1 - e.2.1) (k:=e.1.1 - p.1) (by omega) (by omega) (by omega) (by grind) (by grind)
theorem on_y {e:S} {p:V} (hc:cr e p=0) (hn:e.1.2≠e.2.2) (hx:min e.1.2 e.2.2≤p.2∧p.2≤max e.1.2 e.2.2):edgeOn e p=true:=by
 simp only [cr,cross,sub] at hc
 rcases Int.lt_or_gt_of_ne hn with c | c
 ·exact on_conv (d:=e.2.2 - e.1.2) (k:=p.2 - e.1.2) (by omega) (by omega) (by omega) (by grind) (by grind)
 ·exact on_conv (d:=e.1.2 - e.2.2) (k:=e.1.2 - p.2) (by omega) (by omega) (by omega) (by grind) (by grind)
theorem not_on {b:Bool} (h:b=false) : ¬ b=true:=by rw [h];decide
/-- Between two numbers with weights: the numbers have opposite signs or are both nought. -/
theorem mid_zero {a b d k:Int} (h0:0 < k) (h1:k < d) (h:(d - k)*a+k*b=0):opp a b∨(a=0∧b=0):=by
 unfold opp
 rcases Int.lt_trichotomy a 0 with c | c | c
 ·rcases lg 0 b with e | e
  ·omega
  ·have:=Int.mul_neg_of_pos_of_neg (show 0 < d - k by omega) c
   have:=Int.mul_nonpos_of_nonneg_of_nonpos (show 0≤k by omega) e
   omega
 ·subst c
  rw [Int.mul_zero,Int.zero_add] at h
  rcases Int.mul_eq_zero.1 h with h | h<;>omega
 ·rcases lg b 0 with e | e
  ·omega
  ·have:=Int.mul_pos (show 0 < d - k by omega) c
   have:=Int.mul_nonneg (show 0≤k by omega) e
   omega
/-- Segments apart have no point of the plane's whole points in common. -/
theorem disj_no {s e:S} (h:Disj s e) {p:V} (hs:edgeOn s p=true) (he:edgeOn e p=true):False:=by
 obtain ⟨d,k,hd,k0,k1,kx,ky,_⟩:=conv_on hs
 obtain ⟨f,m,hf,m0,m1,mx,my,_⟩:=conv_on he
 have es:=(on_cr.1 hs).1
 have ee:=(on_cr.1 he).1
 have at1:∀ {s:S} {d k:Int},0 < d→d*(p.1 - s.1.1)=k*(s.2.1 - s.1.1)→d*(p.2 - s.1.2)=k*(s.2.2 - s.1.2)→k=0→p=s.1:=by
  intro s d k hd hx hy hk
  rw [hk,Int.zero_mul] at hx hy
  rcases Int.mul_eq_zero.1 hx with h | h
  ·omega
  ·rcases Int.mul_eq_zero.1 hy with h' | h'
   ·omega
   ·exact Prod.ext (by omega) (by omega)
 have at2:∀ {s:S} {d k:Int},0 < d→d*(p.1 - s.1.1)=k*(s.2.1 - s.1.1)→d*(p.2 - s.1.2)=k*(s.2.2 - s.1.2)→k=d→p=s.2:=by
  intro s d k hd hx hy hk
  rw [hk] at hx hy
  have hx:=Int.eq_of_mul_eq_mul_left (by omega) hx
  have hy:=Int.eq_of_mul_eq_mul_left (by omega) hy
  exact Prod.ext (by omega) (by omega)
 rcases Int.lt_or_eq_of_le k0 with k0 | k0
 case inr=>exact not_on h.h1 (at1 hd kx ky k0.symm ▸ he)
 rcases Int.lt_or_eq_of_le k1 with k1 | k1
 case inr=>exact not_on h.h2 (at2 hd kx ky k1 ▸ he)
 rcases Int.lt_or_eq_of_le m0 with m0 | m0
 case inr=>exact not_on h.h3 (at1 hf mx my m0.symm ▸ hs)
 rcases Int.lt_or_eq_of_le m1 with m1 | m1
 case inr=>exact not_on h.h4 (at2 hf mx my m1 ▸ hs)
 have z1:=cr_conv (e:=e) kx ky
 rw [ee,Int.mul_zero] at z1
 have z2:=cr_conv (e:=s) mx my
 rw [es,Int.mul_zero] at z2
 have hD:cr e s.1 - cr e s.2=cr s e.2 - cr s e.1:=by simp only [cr,cross,sub];grind
 rcases mid_zero k0 k1 z1.symm with o1 | ⟨o1,o2⟩
 ·rcases mid_zero m0 m1 z2.symm with o3 | ⟨o3,o4⟩
  ·exact h.hx ⟨o1,o3⟩
  ·unfold opp at o1;omega
 ·rcases mid_zero m0 m1 z2.symm with o3 | ⟨o3,o4⟩
  ·unfold opp at o3;omega
  ·have hsb:=on_cr.1 hs
   have heb:=on_cr.1 he
   by_cases cx:e.1.1=e.2.1
   ·by_cases cy:e.1.2=e.2.2
    ·have:p=e.1:=Prod.ext (by omega) (by omega)
     exact not_on h.h3 (this ▸ hs)
    ·-- upright
     have u1 : ¬ (min e.1.2 e.2.2≤s.1.2∧s.1.2≤max e.1.2 e.2.2):=fun hh=>not_on h.h1 (on_y o1 cy hh)
     have u2 : ¬ (min e.1.2 e.2.2≤s.2.2∧s.2.2≤max e.1.2 e.2.2):=fun hh=>not_on h.h2 (on_y o2 cy hh)
     have u3:s.1.2≠s.2.2→¬ (min s.1.2 s.2.2≤e.1.2∧e.1.2≤max s.1.2 s.2.2):=fun hn hh=>not_on h.h3 (on_y o3 hn hh)
     have u4:s.1.2≠s.2.2→¬ (min s.1.2 s.2.2≤e.2.2∧e.2.2≤max s.1.2 s.2.2):=fun hn hh=>not_on h.h4 (on_y o4 hn hh)
     omega
   ·have u1 : ¬ (min e.1.1 e.2.1≤s.1.1∧s.1.1≤max e.1.1 e.2.1):=fun hh=>not_on h.h1 (on_x o1 cx hh)
    have u2 : ¬ (min e.1.1 e.2.1≤s.2.1∧s.2.1≤max e.1.1 e.2.1):=fun hh=>not_on h.h2 (on_x o2 cx hh)
    have u3:s.1.1≠s.2.1→¬ (min s.1.1 s.2.1≤e.1.1∧e.1.1≤max s.1.1 s.2.1):=fun hn hh=>not_on h.h3 (on_x o3 hn hh)
    have u4:s.1.1≠s.2.1→¬ (min s.1.1 s.2.1≤e.2.1∧e.2.1≤max s.1.1 s.2.1):=fun hn hh=>not_on h.h4 (on_x o4 hn hh)
    omega
theorem opp_scale {a b a' b' d k:Int} (hd:0 < d) (hk:0 < k) (h1:d*a'=k*a) (h2:d*b'=k*b) (h:opp a' b'):opp a b:=by
 have sg:∀ {x x':Int},d*x'=k*x→(0 < x'→0 < x)∧(x' < 0→x < 0):=by
  intro x x' hh
  constructor
  ·intro c
   have:=Int.mul_pos hd c
   exact pos_of hk (by rw [Int.mul_comm];exact hh.symm) this
  ·intro c
   have:=Int.mul_neg_of_pos_of_neg hd c
   exact neg_of hk (by rw [Int.mul_comm];exact hh.symm) this
 unfold opp at *
 have g1:=sg h1
 have g2:=sg h2
 omega
/-- A part of a segment is apart from what the segment is apart from. -/
theorem disj_sub {s e:S} (h:Disj s e) {p:V} (hp:edgeOn s p=true):Disj (s.1,p) e:=by
 obtain ⟨d,k,hd,k0,k1,kx,ky,_⟩:=conv_on hp
 have inn:∀ {q:V},edgeOn (s.1,p) q=true→edgeOn s q=true:=by
  intro q hq
  have hb:=on_cr.1 hp
  have hqb:=on_cr.1 hq
  simp only at hqb
  rcases Int.lt_or_eq_of_le k0 with k0 | k0
  ·have z:=cr_sub (q:=q) kx ky
   rw [hqb.1,Int.mul_zero] at z
   have z0:cr s q=0:=by
    rcases Int.mul_eq_zero.1 z.symm with z | z
    ·omega
    ·exact z
   exact on_cr.2 ⟨z0,by omega⟩
  ·rw [← k0,Int.zero_mul] at kx ky
   have e1:p.1=s.1.1:=by rcases Int.mul_eq_zero.1 kx with z | z<;>omega
   have e2:p.2=s.1.2:=by rcases Int.mul_eq_zero.1 ky with z | z<;>omega
   have:q=s.1:=Prod.ext (by omega) (by omega)
   rw [this,on_cr]
   refine ⟨?_,by omega,by omega⟩
   simp only [cr,cross,sub];grind
 refine ⟨h.h1,?_,?_,?_,?_⟩
 ·cases c:edgeOn e p
  ·rfl
  ·exact (disj_no h hp c).elim
 ·cases c:edgeOn (s.1,p) e.1
  ·rfl
  ·exact (not_on h.h3 (inn c)).elim
 ·cases c:edgeOn (s.1,p) e.2
  ·rfl
  ·exact (not_on h.h4 (inn c)).elim
 ·rintro ⟨x1,x2⟩
  simp only at x1 x2
  have z:=cr_conv (e:=e) kx ky
  rcases Int.lt_or_eq_of_le k0 with k0 | k0
  ·refine h.hx ⟨?_,opp_scale hd k0 (cr_sub kx ky) (cr_sub kx ky) x2⟩
   unfold opp at x1 ⊢
   rcases x1 with ⟨x,y⟩ | ⟨x,y⟩
   ·refine .inl ⟨x,?_⟩
    have p1:=Int.mul_pos hd y
    have p2:=Int.mul_nonpos_of_nonneg_of_nonpos (show 0≤d - k by omega) (Int.le_of_lt x)
    exact pos_of k0 (by rw [Int.mul_comm]) (show 0 < k*cr e s.2 by omega)
   ·refine .inr ⟨x,?_⟩
    have p1:=Int.mul_neg_of_pos_of_neg hd y
    have p2:=Int.mul_nonneg (show 0≤d - k by omega) (Int.le_of_lt x)
    exact neg_of k0 (by rw [Int.mul_comm]) (show k*cr e s.2 < 0 by omega)
  ·have z2:=cr_sub (q:=e.1) kx ky
   rw [← k0,Int.zero_mul] at z2
   rcases Int.mul_eq_zero.1 z2 with z2 | z2
   ·omega
   ·unfold opp at x2;omega
/-! ### The plane made larger -/
def sm (n:Int) (p:V):V:=(n*p.1,n*p.2)
def sS (n:Int) (s:S):S:=(sm n s.1,sm n s.2)
theorem le_sm {n a b:Int} (hn:0 < n):n*a≤n*b ↔ a≤b:=by
 constructor
 ·intro h
  rcases lg b a with c | c
  ·have:=Int.mul_lt_mul_of_pos_left c hn;omega
  ·exact c
 ·exact fun h=>Int.mul_le_mul_of_nonneg_left h (by omega)
theorem lt_sm {n a b:Int} (hn:0 < n):n*a < n*b ↔ a < b:=by
 have:=le_sm (a:=b) (b:=a) hn
 omega
theorem cr_sm (n:Int) (e:S) (p:V):cr (sS n e) (sm n p)=n*(n*cr e p):=by
 simp only [cr,cross,sub,sS,sm];grind
theorem pos_sm {n c:Int} (hn:0 < n):0 < n*(n*c) ↔ 0 < c:=by
 have h1:=lt_sm (a:=0) (b:=n*c) hn
 have h2:=lt_sm (a:=0) (b:=c) hn
 rw [Int.mul_zero] at h1 h2
 rw [h1,h2]
theorem neg_sm {n c:Int} (hn:0 < n):n*(n*c) < 0 ↔ c < 0:=by
 have h1:=lt_sm (a:=n*c) (b:=0) hn
 have h2:=lt_sm (a:=c) (b:=0) hn
 rw [Int.mul_zero] at h1 h2
 rw [h1,h2]
theorem tE_sm {n:Int} (hn:0 < n) (e:S) (p:V):tE (sS n e) (sm n p)=tE e p:=by
 unfold tE
 rw [cr_sm,Bool.eq_iff_iff]
 simp only [Bool.or_eq_true,decide_eq_true_eq,sS,sm,le_sm hn,lt_sm hn,pos_sm hn,neg_sm hn]
theorem opp_sm {n a b:Int} (hn:0 < n):opp (n*(n*a)) (n*(n*b)) ↔ opp a b:=by
 unfold opp
 rw [pos_sm hn,pos_sm hn,neg_sm hn,neg_sm hn]
theorem on_sm {n:Int} (hn:0 < n) (e:S) (p:V):edgeOn (sS n e) (sm n p)=edgeOn e p:=by
 rw [Bool.eq_iff_iff,on_cr,on_cr,cr_sm]
 have z:n*(n*cr e p)=0 ↔ cr e p=0:=by
  have h1:=pos_sm (c:=cr e p) hn
  have h2:=neg_sm (c:=cr e p) hn
  omega
 rw [z]
 simp only [sS,sm]
 have a1:=le_sm (a:=e.1.1) (b:=p.1) hn
 have a2:=le_sm (a:=e.2.1) (b:=p.1) hn
 have a3:=le_sm (a:=p.1) (b:=e.1.1) hn
 have a4:=le_sm (a:=p.1) (b:=e.2.1) hn
 have b1:=le_sm (a:=e.1.2) (b:=p.2) hn
 have b2:=le_sm (a:=e.2.2) (b:=p.2) hn
 have b3:=le_sm (a:=p.2) (b:=e.1.2) hn
 have b4:=le_sm (a:=p.2) (b:=e.2.2) hn
 omega
theorem disj_sm {n:Int} (hn:0 < n) {s e:S} (h:Disj s e):Disj (sS n s) (sS n e):=by
 refine ⟨?_,?_,?_,?_,?_⟩
 ·show edgeOn (sS n e) (sm n s.1)=false
  rw [on_sm hn];exact h.h1
 ·show edgeOn (sS n e) (sm n s.2)=false
  rw [on_sm hn];exact h.h2
 ·show edgeOn (sS n s) (sm n e.1)=false
  rw [on_sm hn];exact h.h3
 ·show edgeOn (sS n s) (sm n e.2)=false
  rw [on_sm hn];exact h.h4
 ·show ¬ (opp (cr (sS n e) (sm n s.1)) (cr (sS n e) (sm n s.2))∧opp (cr (sS n s) (sm n e.1)) (cr (sS n s) (sm n e.2)))
  rw [cr_sm,cr_sm,cr_sm,cr_sm,opp_sm hn,opp_sm hn]
  exact h.hx
theorem getD_sm (n:Int) (r:List V) (i:Nat):(r.map (sm n)).getD i (0,0)=sm n (r.getD i (0,0)):=by
 rw [List.getD_eq_getElem?_getD,List.getD_eq_getElem?_getD,List.getElem?_map]
 cases r[i]? with
 | none=>simp [sm]
 | some v=>rfl
theorem edges_sm (n:Int) (r:List V):edges (r.map (sm n))=(edges r).map (sS n):=by
 unfold edges
 rw [List.length_map]
 split
 ·rfl
 ·rw [List.map_map]
  refine List.map_congr_left fun i _=>?_
  rw [getD_sm]
  have e:nxt (r.map (sm n)) i=sm n (nxt r i):=by
   unfold nxt
   rw [getD_sm,List.length_map]
  rw [e]
  rfl
theorem par_sm {n:Int} (hn:0 < n) (p:V):∀ l:List S,oddL (l.map (sS n)) (sm n p)=oddL l p
 | []=>rfl
 | e::l=>by rw [List.map_cons,oddL,oddL,tE_sm hn,par_sm hn p l]
theorem in_sm {n:Int} (hn:0 < n) (r:List V) (p:V):In (r.map (sm n)) (sm n p)=In r p:=by
 unfold In
 rw [edges_sm,par_sm hn]
/-- Two segments apart from a ring that meet lie on one side of it. -/
theorem same_side {z:List V} {h k:S} (hh:∀ e∈edges z,Disj h e) (hk:∀ e∈edges z,Disj k e) (hn : ¬ Disj h k):In z h.1=In z k.1:=by
 have c1:=in_const hh
 have c2:=in_const hk
 cases a1:edgeOn k h.1
 case true=>exact (in_const (s:=(k.1,h.1)) (fun e he=>disj_sub (hk e he) a1)).symm
 cases a2:edgeOn k h.2
 case true=>rw [c1];exact (in_const (s:=(k.1,h.2)) (fun e he=>disj_sub (hk e he) a2)).symm
 cases a3:edgeOn h k.1
 case true=>exact in_const (s:=(h.1,k.1)) (fun e he=>disj_sub (hh e he) a3)
 cases a4:edgeOn h k.2
 case true=>rw [c2];exact in_const (s:=(h.1,k.2)) (fun e he=>disj_sub (hh e he) a4)
 by_cases hx:opp (cr k h.1) (cr k h.2)∧opp (cr h k.1) (cr h k.2)
 case neg=>exact (hn ⟨a1,a2,a3,a4,hx⟩).elim
 have core:∀ {h k:S},(∀ e∈edges z,Disj h e)→(∀ e∈edges z,Disj k e)→0 < cr k h.1→cr k h.2 < 0→opp (cr h k.1) (cr h k.2)→In z h.1=In z k.1:=by
  intro h k hh hk p1 p2 ho
  have hD:cr k h.1 - cr k h.2=cr h k.2 - cr h k.1:=by simp only [cr,cross,sub];grind
  obtain ⟨D,hDe⟩:∃ D,D=cr k h.1 - cr k h.2:=⟨_,rfl⟩
  obtain ⟨o1,e1⟩:∃ o1,o1=cr k h.1:=⟨_,rfl⟩
  obtain ⟨o3,e3⟩:∃ o3,o3=cr h k.1:=⟨_,rfl⟩
  have hDp:0 < D:=by omega
  have q1:o3 < 0∧- o3 < D:=by unfold opp at ho;omega
  obtain ⟨X,hX⟩:∃ X:V,X=(D*h.1.1+o1*(h.2.1 - h.1.1),D*h.1.2+o1*(h.2.2 - h.1.2)):=⟨_,rfl⟩
  have x1:edgeOn (sS D h) X=true:=by
   refine on_conv (d:=D) (k:=o1) hDp (by omega) (by omega) ?_ ?_
   ·rw [hX];simp only [sS,sm];grind
   ·rw [hX];simp only [sS,sm];grind
  have x2:edgeOn (sS D k) X=true:=by
   refine on_conv (d:=D) (k:=- o3) hDp (by omega) (by omega) ?_ ?_
   ·rw [hX];simp only [sS,sm];rw [hDe,e1,e3];simp only [cr,cross,sub];grind
   ·rw [hX];simp only [sS,sm];rw [hDe,e1,e3];simp only [cr,cross,sub];grind
  have g1:In (z.map (sm D)) (sm D h.1)=In (z.map (sm D)) X:=in_const (s:=(sm D h.1,X)) (fun e he=>by
   rw [edges_sm] at he
   obtain ⟨e0,he0,rfl⟩:=List.mem_map.1 he
   exact disj_sub (s:=sS D h) (disj_sm hDp (hh e0 he0)) x1)
  have g2:In (z.map (sm D)) (sm D k.1)=In (z.map (sm D)) X:=in_const (s:=(sm D k.1,X)) (fun e he=>by
   rw [edges_sm] at he
   obtain ⟨e0,he0,rfl⟩:=List.mem_map.1 he
   exact disj_sub (s:=sS D k) (disj_sm hDp (hk e0 he0)) x2)
  rw [in_sm hDp] at g1 g2
  rw [g1,g2]
 rcases hx.1 with ⟨p1,p2⟩ | ⟨p1,p2⟩
 ·rw [c1]
  refine core (h:=(h.2,h.1)) (fun e he=>(hh e he).swap) hk p2 p1 ?_
  rw [cr_swap,cr_swap]
  exact opp_neg.2 hx.2
 ·exact core hh hk p1 p2 hx.2
end Go.Proofs.YtnmmhcchpcbeeaaGreat.Ge
