/- Plain laws: two ways to tell whether a shape is valid say the same. Conditions: none. -/
import Derived.Test.YtnkkcknogkgdkaaGreatDoorGeM

namespace Go.Proofs.YtnkkcknogkgdkaaGreatDoor.Ge
def allFrom (p:Nat→Bool):Nat→Nat→Bool
 | 0,_=>true
 | n+1,i=>p i&&allFrom p n (i+1)
theorem allFrom_iff {p:Nat→Bool} : ∀ {n i:Nat},allFrom p n i=true ↔ ∀ j,i≤j→j < i+n→p j=true:=by
 intro n
 induction n with
 | zero =>
  intro i
  exact iff_of_true rfl (fun j h1 h2=>by omega)
 | succ n ih =>
  intro i
  unfold allFrom
  rw [Bool.and_eq_true,ih]
  constructor
  ·rintro ⟨h1,h2⟩ j hj hn
   by_cases h:j=i
   ·exact h ▸ h1
   ·exact h2 j (by omega) (by omega)
  ·intro h
   exact ⟨h i (Nat.le_refl _) (by omega),fun j h1 h2=>h j (by omega) (by omega)⟩
theorem allFrom_step {p:Nat→Bool} {n k:Nat} (h:k < n):allFrom p (n - k) k=(p k&&allFrom p (n - (k+1)) (k+1)):=by
 rw [show n - k=(n - (k+1))+1 by omega]
 rfl
theorem allFrom_end (p:Nat→Bool) (n:Nat):allFrom p (n - n) n=true:=by
 rw [Nat.sub_self]
 rfl
theorem allFrom_congr {p q:Nat→Bool} {n i:Nat} (h:∀ j,i≤j→j < i+n→p j=q j):allFrom p n i=allFrom q n i:=by
 rw [Bool.eq_iff_iff,allFrom_iff,allFrom_iff]
 constructor
 ·intro g j h1 h2
  rw [← h j h1 h2]
  exact g j h1 h2
 ·intro g j h1 h2
  rw [h j h1 h2]
  exact g j h1 h2
theorem all_range (p:Nat→Bool) (n:Nat):(List.range n).all p=allFrom p n 0:=by
 rw [Bool.eq_iff_iff,allFrom_iff,List.all_eq_true]
 simp only [List.mem_range]
 exact ⟨fun h j _ hj=>h j (by omega),fun h j hj=>h j (Nat.zero_le _) (by omega)⟩
/-! ### Shapes -/
def apartB (a b:List V):Bool:=(edges a).all fun x=>(edges b).all fun y=>decide (meetK x y=0)
def allB (r c:List V) (k:Int):Bool:=r.all fun v=>decide (whereB c v=k)
def hAt (hs:List (List V)) (i:Nat):List V:=hs.getD i []
def total:List (List V)→Nat
 | []=>0
 | r::rs=>r.length+total rs
def pairB (h k:List V):Bool:=apartB h k&&(allB h k 0&&allB k h 0)
def holeB (o:List V) (hs:List (List V)) (i:Nat):Bool:=(allB (hAt hs i) o 2&&apartB (hAt hs i) o)&&allFrom (fun k=>pairB (hAt hs i) (hAt hs k)) i 0
def shapeB (o:List V) (hs:List (List V)):Bool :=
 decide (hs.length≤6)&&((o::hs).all ringB&&(decide (total (o::hs)≤80)&&allFrom (holeB o hs) hs.length 0))
theorem edges_get {r:List V} (h:2≤r.length):edges r=(List.range r.length).map fun i=>(r.getD i (0,0),nxt r i):=by
 unfold edges
 rw [if_neg (by omega)]
theorem ring_near {r:List V} (h:ringB r=true):near r=true∧3≤r.length∧r.length≤40:=by
 unfold ringB at h
 simp only [Bool.and_eq_true,decide_eq_true_eq] at h
 exact ⟨h.2.2.1,h.1,h.2.1⟩
end Go.Proofs.YtnkkcknogkgdkaaGreatDoor.Ge
