/- Plain laws: two ways to tell how segments meet, whether a ring is valid, and where a point lies, say the same. Conditions: none. -/
import Derived.Test.YtnkkcknogkgdkaaGreatDoorGeC

namespace Go.Proofs.YtnkkcknogkgdkaaGreatDoor.Ge
/-- A number by which points of small coordinates are ordered. -/
def key (p:V):Int:=p.2*10000+p.1
theorem within_iff {p:V} {m:Int} : within p m=true ↔ -m≤p.1∧p.1≤m∧-m≤p.2∧p.2≤m:=by
 unfold within
 simp only [Bool.and_eq_true,decide_eq_true_eq]
def at' (r:List V) (i:Nat):V:=r.getD i (0,0)
theorem near_at {r:List V} (h:near r=true) (i:Nat):within (at' r i) 2000=true:=by
 unfold at'
 rw [List.getD_eq_getElem?_getD]
 by_cases hi:i < r.length
 ·rw [List.getElem?_eq_getElem hi,Option.getD_some]
  exact List.all_eq_true.1 h _ (List.getElem_mem hi)
 ·rw [List.getElem?_eq_none (by omega)]
  decide
theorem within_more {p:V} {m n:Int} (h:within p m=true) (hm:m≤n):within p n=true:=by
 rw [within_iff] at *
 omega
/-- Does an edge bear a point? As the program asks. -/
def edgeOn (e:S) (p:V):Bool :=
 decide (cross (sub e.2 e.1) (sub p e.1)=0)&&(decide (min (p.1 - e.1.1) (p.1 - e.2.1)≤0)&&(decide (0≤max (p.1 - e.1.1) (p.1 - e.2.1))&&(decide (min (p.2 - e.1.2) (p.2 - e.2.2)≤0)&&decide (0≤max (p.2 - e.1.2) (p.2 - e.2.2)))))
def edgeTurns (e:S) (p:V):Bool :=
 (decide (0≤p.2 - e.1.2) != decide (0≤p.2 - e.2.2))&&(decide (0≤p.2 - e.1.2) == decide (0 < cross (sub e.2 e.1) (sub p e.1)))
def whereL:List S→V→Bool→Int
 | [],_,ins=>if ins then 2 else 0
 | e::es,p,ins=>if edgeOn e p then 1 else whereL es p (if edgeTurns e p then !ins else ins)
def whereB (r:List V) (p:V):Int:=if within p 4000&&ringB r then whereL (edges r) p false else 0
end Go.Proofs.YtnkkcknogkgdkaaGreatDoor.Ge
