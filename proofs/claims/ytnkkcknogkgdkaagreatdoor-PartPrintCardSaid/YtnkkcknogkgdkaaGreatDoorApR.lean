/- An append onto a row of the call's own inside a region that draws its order; rows' heads and rests; new rows. No function is in sight. Conditions: as stated. -/
import Derived.Test.YtnkkcknogkgdkaaGreatDoorMem2
import Derived.Test.YtnkkcknogkgdkaaGreatDoorGeE
import Derived.Deep.RegionLaw
import Derived.Deep.RegionHeld3
import Derived.Deep.DrawnRows

namespace Go.Proofs.YtnkkcknogkgdkaaGreatDoor.GeW
open Go Go.RowKit Go.Proofs.YtnkkcknogkgdkaaGreatDoor.Mem
/-- At a step of a region that draws its order. -/
theorem step_append_row {P:Program} {w:World} {ops:Array Oper} {o:Oper} {a:Act} {K:Act→World→Prop} {Q:Exit→Act→World→Prop} {E:Prop} (hgd:o.guard=none) (s x:Operand) (t:TypeId)
  (ho:o.op=.call { callee:=.builtin .append,args:=#[s,x],argTypes:=#[t,t] })
  (base:Nat) (e:TypeId) (i:TypeInfo) (z:Value) (size bytes:Nat) (ht:P.underlying t=some (.slice e)) (hi:P.info? e=some i) (hz:i.zero=some z)
  (hsize:i.size=size) (hby:i.bytes=bytes) (hzs:z.cells.size=size) (hsz:0 < size)
  (v:Value) (n:Nat) (xs:List Value) (hs:a.eval s=v) (hown:w.ownsRow base e size v n xs)
  (A:Option Addr) (m c:Nat) (news:List Value) (hx:a.eval x=.slice A m c) (hr:Row w A news) (hl:news.length=m*size) (h1:∀ u∈news,u.oneCell'=true)
  (h63:n+m≤maxLen) (hbytes:(n+m)*bytes≤140737488355328) (hbase:base≤w.heap.size)
  (h:∀ v' w',w'.ownsRow base e size v' (n+m) (xs++news)→w.grownBy w' v.ownBlock→K (a.put o.dst v') w') :
  if Region.wanted o (yielded ops a.tmps)=true then Oper.wp P o a w K Q else E:=by
 have hw:Region.wanted o (yielded ops a.tmps)=true:=by simp [Region.wanted,hgd]
 rw [if_pos hw]
 exact wp_append_row w s x t ho base e i z size bytes ht hi hz hsize hby hzs hsz v n xs hs hown A m c news hx hr hl h1 h63 hbytes hbase h
theorem Row.rest {w:World} {g off:Nat} {xs ys:List Value} (h:Row w (some ⟨g,off,none⟩) (xs++ys)):Row w (some ⟨g,off+xs.length,none⟩) ys:=by
 intro hne
 obtain ⟨g',off',e,hg,hc⟩:=h (by cases ys<;>simp_all)
 cases e
 refine ⟨g,off+xs.length,rfl,hg,fun j hj=>?_⟩
 have:=hc (xs.length+j) (by rw [List.length_append];omega)
 rw [List.getElem?_append_right (by omega),show xs.length+j - xs.length=j by omega,← Nat.add_assoc] at this
 exact this
theorem Row.alloc {w:World} {A:Option Addr} {xs:List Value} (h:Row w A xs) (o:Obj):Row (w.alloc o) A xs:=h.below ((Below.refl _ _).alloc (Nat.le_refl _) o)
theorem Row.drew {w:World} {A:Option Addr} {xs:List Value} (h:Row w A xs):Row w.drew A xs:=h
theorem row_grown {w w':World} {g off:Nat} {xs:List Value} {row:Option Nat} (h:Row w (some ⟨g,off,none⟩) xs) (hg:w.grownBy w' row) (hne:row≠some g):Row w' (some ⟨g,off,none⟩) xs:=fun hx=>by
 obtain ⟨g',off',e,h1,h2⟩:=h hx
 cases e
 refine ⟨g,off,rfl,Nat.lt_of_lt_of_le h1 hg.size,fun j hj=>?_⟩
 rw [← h2 j hj]
 exact World.grownBy.cell_far hg _ h1 (fun e=>hne e.symm)
theorem bel1 (W:World) (o:Obj):Below W.heap.size W (W.alloc o):=(Below.refl _ _).alloc (Nat.le_refl _) o
theorem newN_row (w:World) (xs:List Value) (T:TypeId):Row (w.alloc (.cells xs.toArray T)) (some ⟨w.heap.size,0,none⟩) xs:=fun _ =>
 ⟨_,_,rfl,by simp,fun j hj=>by unfold World.cell?;rw [heap_alloc_new];simp⟩
end Go.Proofs.YtnkkcknogkgdkaaGreatDoor.GeW
