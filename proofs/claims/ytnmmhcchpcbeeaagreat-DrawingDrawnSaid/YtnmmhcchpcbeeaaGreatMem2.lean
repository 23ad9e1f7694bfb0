/- Append onto a row of the call's own, the source nil, empty or not, behind a guard or not. Conditions: as stated. -/
import Derived.WalkKit
import Derived.Laws.OwnMore
import Derived.Deep.Draws
import Derived.Laws.AppendOwnNone

namespace Go.Proofs.YtnmmhcchpcbeeaaGreat.Mem
open Go Go.RowKit
theorem sA {α:Type} (l:List α) (i:Nat) (a:α):l.toArray.setIfInBounds i a=(l.set i a).toArray:=List.setIfInBounds_toArray ..
theorem sB {α:Type} (x:α) (xs:List α) (a:α):(x::xs).set 0 a=a::xs:=rfl
theorem sC {α:Type} (x:α) (xs:List α) (n:Nat) (a:α):(x::xs).set (n+1) a=x::xs.set n a:=rfl

/-- From its address on a row of cells can be read. -/
def Row (w:World) (A:Option Addr) (xs:List Value):Prop :=
 xs≠[]→∃ g off,A=some ⟨g,off,none⟩∧g < w.heap.size∧∀ j,j < xs.length→w.cell? ⟨g,off+j,none⟩=xs[j]?

theorem Row.nil (w:World) (A:Option Addr):Row w A []:=fun h=>absurd rfl h
theorem Row.below {w w':World} {A:Option Addr} {xs:List Value} (h:Row w A xs) (hb:Below w.heap.size w w'):Row w' A xs:=fun hne=>by
 obtain ⟨g,off,e,hg,hc⟩:=h hne
 exact ⟨g,off,e,Nat.lt_of_lt_of_le hg hb.size,fun j hj=>(hb.cell (p:=⟨g,off+j,none⟩) hg).trans (hc j hj)⟩
theorem Row.of_own {w:World} {base:Nat} {e:TypeId} {size n c:Nat} {A:Option Addr} {xs:List Value} (h:w.ownsRow base e size (.slice A n c) n xs):Row w A xs:=by
 intro hne
 rcases h.2 with ⟨h0,h1⟩ | ⟨g,cap,cur,hv,hb,hh,hn,hc,hs,ht⟩
 ·subst h1
  exact absurd (List.eq_nil_of_length_eq_zero (by simpa using h.1)) hne
 ·injection hv with hv
  subst hv
  refine ⟨g,0,rfl,?_,fun j hj=>?_⟩
  ·rcases Nat.lt_or_ge g w.heap.size with hlt | hge
   ·exact hlt
   ·rw [Array.getElem?_eq_none hge] at hh;cases hh
  ·rw [Nat.zero_add]
   have hx:=h.cells (g:=g) rfl j xs[j] (List.getElem?_eq_getElem hj)
   rw [List.getElem?_eq_getElem hj,← hx]
   simp only [Addr.add]
   by_cases h0:j=0
   ·subst h0;rfl
   ·rw [if_neg h0];simp

theorem own_shape {w:World} {base:Nat} {e:TypeId} {size n:Nat} {v:Value} {xs:List Value} (h:w.ownsRow base e size v n xs):∃ A c,v=.slice A n c∧n≤c:=by
 rcases h.2 with ⟨rfl,rfl⟩ | ⟨g,cap,cur,rfl,_,_,hn,_⟩
 ·exact ⟨none,0,rfl,Nat.le_refl _⟩
 ·exact ⟨_,_,rfl,hn⟩
theorem own_more {w:World} {base base':Nat} {e:TypeId} {size n:Nat} {v:Value} {xs:List Value} (h:w.ownsRow base e size v n xs) (hb:base'≤base):w.ownsRow base' e size v n xs:=by
 refine ⟨h.1,?_⟩
 rcases h.2 with h0 | ⟨g,cap,cur,hv,hg,r⟩
 ·exact .inl h0
 ·exact .inr ⟨g,cap,cur,hv,by omega,r⟩
theorem own_below {w w':World} {base:Nat} {e:TypeId} {size n:Nat} {v:Value} {xs:List Value} (h:w.ownsRow base e size v n xs) (hb:Below w.heap.size w w'):w'.ownsRow base e size v n xs:=by
 refine ⟨h.1,?_⟩
 rcases h.2 with h0 | ⟨g,cap,cur,hv,hg,hh,r⟩
 ·exact .inl h0
 ·refine .inr ⟨g,cap,cur,hv,hg,?_,r⟩
  have hlt:g < w.heap.size:=by
   rcases Nat.lt_or_ge g w.heap.size with hlt | hge
   ·exact hlt
   ·rw [Array.getElem?_eq_none hge] at hh;cases hh
  rw [hb.block g hlt];exact hh
/-- The written row is one of the call's own. -/
theorem own_block {w:World} {base:Nat} {e:TypeId} {size n:Nat} {v:Value} {xs:List Value} (h:w.ownsRow base e size v n xs):∀ k,v.ownBlock=some k→base≤k:=fun k hk=>(h.lt k hk).1
/-- An append onto a row of the call's own, behind new blocks. -/
theorem below_append {B:Nat} {w w1 w2:World} {base:Nat} {e:TypeId} {size n:Nat} {v:Value} {xs:List Value} (hb:Below B w w1) (hB:B≤w1.heap.size) (h:w1.ownsRow base e size v n xs) (hg:w1.grownBy w2 v.ownBlock) (hbase:B≤base):Below B w w2 :=
 hb.grown hg hB fun k hk=>Nat.le_trans hbase (own_block h k hk)
theorem Row.len {w:World} {A:Option Addr} {xs:List Value} (h:Row w A xs) {g off:Nat} (e:A=some ⟨g,off,none⟩) (hne:xs≠[]):g < w.heap.size∧∀ j,j < xs.length→w.cell? ⟨g,off+j,none⟩=xs[j]?:=by
 obtain ⟨g',off',e',hg,hc⟩:=h hne
 rw [e] at e'
 cases e'
 exact ⟨hg,hc⟩
theorem below_drewN {B:Nat} {a w:World} (h:Below B a w) (n:Nat):Below B a (w.drewN n):=⟨h.os,h.tape,h.output,h.size,h.block⟩
theorem flatMap_len {α:Type} {f:α→List Value} {n:Nat} (hf:∀ x,(f x).length=n):∀ l:List α,(l.flatMap f).length=l.length*n
 | []=>by simp
 | x::r=>by
  rw [List.flatMap_cons,List.length_append,hf,flatMap_len hf r,List.length_cons,Nat.add_mul];omega
theorem flatMap_get {α:Type} {f:α→List Value} {n:Nat} (hf:∀ x,(f x).length=n):∀ (l:List α) (k j:Nat) (h:k < l.length),j < n→(l.flatMap f)[k*n+j]? = (f l[k])[j]?
 | [],k,j,h,_=>by simp at h
 | x::r,0,j,_,hj=>by
  rw [List.flatMap_cons,Nat.zero_mul,Nat.zero_add,List.getElem?_append_left (by rw [hf];exact hj)];rfl
 | x::r,k+1,j,h,hj=>by
  have e:(k+1)*n+j - (f x).length=k*n+j:=by rw [hf,Nat.add_mul];omega
  rw [List.flatMap_cons,List.getElem?_append_right (by rw [hf,Nat.add_mul];omega),e,flatMap_get hf r k j (by simpa using h) hj];rfl
/-- The cells of an element. -/
theorem row_get {α:Type} {f:α→List Value} {n:Nat} (hf:∀ x,(f x).length=n) (hn:0 < n) {w:World} {A:Option Addr} {l:List α} (h:Row w A (l.flatMap f)) (hl:0 < l.length) :
  ∃ g off,A=some ⟨g,off,none⟩∧g < w.heap.size∧∀ (k:Nat) (hk:k < l.length) (j:Nat),j < n→w.cell? ⟨g,off+k*n+j,none⟩=(f l[k])[j]?:=by
 have hlen:=flatMap_len hf l
 have hm:n≤l.length*n:=Nat.le_mul_of_pos_left n hl
 obtain ⟨g,off,e,hg,hc⟩:=h (by
  intro h0
  rw [h0] at hlen
  simp at hlen
  omega)
 refine ⟨g,off,e,hg,fun k hk j hj=>?_⟩
 have hlt:k*n+j < l.length*n:=by
  have:(k+1)*n≤l.length*n:=Nat.mul_le_mul_right n hk
  rw [Nat.add_mul] at this
  omega
 have h1:=hc (k*n+j) (by rw [hlen];exact hlt)
 rw [← Nat.add_assoc] at h1
 exact h1.trans (flatMap_get hf l k j hk hj)
/-- The cells of an element of a row that the call owns. -/
theorem own_get {α:Type} {f:α→List Value} {n:Nat} (hf:∀ x,(f x).length=n) {w:World} {base:Nat} {e:TypeId} {v:Value} {l:List α} {m:Nat} (hm:m=l.length) (h:w.ownsRow base e n v m (l.flatMap f)) (hl:0 < m) :
  ∃ g c,v=.slice (some ⟨g,0,none⟩) m c∧m≤c∧base≤g∧g < w.heap.size∧∀ (k:Nat) (hk:k < l.length) (j:Nat),j < n→w.cell? ⟨g,k*n+j,none⟩=(f l[k])[j]?:=by
 rcases h.2 with ⟨h0,h1⟩ | ⟨g,cap,cur,hv,hb,hh,hn',hc,hs,ht⟩
 ·omega
 ·subst hv
  refine ⟨g,cap,rfl,hn',hb,?_,fun k hk j hj=>?_⟩
  ·rcases Nat.lt_or_ge g w.heap.size with hlt | hge
   ·exact hlt
   ·rw [Array.getElem?_eq_none hge] at hh;cases hh
  ·have hlt:k*n+j < m*n:=by
    have:(k+1)*n≤m*n:=Nat.mul_le_mul_right n (by omega)
    rw [Nat.add_mul] at this
    omega
   exact (h.cellAt (k*n+j) hlt).trans (flatMap_get hf l k j hk hj)
theorem flatMap_snoc {α:Type} (f:α→List Value) (l:List α) (x:α):(l++[x]).flatMap f=l.flatMap f++f x:=by simp
theorem take_snoc' {α:Type} (l:List α) (k:Nat) (h:k < l.length):l.take (k+1)=l.take k++[l[k]]:=by
 rw [List.take_succ_eq_append_getElem h]
section
variable {P:Program} (w:World)
theorem run_append_none_any (base:Nat) (t ty e:TypeId) (i:TypeInfo) (size:Nat) (ht:P.underlying t=some (.slice e)) (hi:P.info? e=some i)
  (v:Value) (n:Nat) (xs:List Value) (hown:w.ownsRow base e size v n xs) (c:Nat):(Builtin.append_ #[t,t] ty #[v,.slice none 0 c]).run P w=.ok v w:=by
 rcases hown.2 with ⟨rfl,rfl⟩ | ⟨g,cap,cur,rfl,_,_,hnc,_⟩
 ·simp [Builtin.append_,run_underlying ht,sizeOf,typeInfo,hi,Builtin.lenOf,Builtin.firstCells]
 ·simp [Builtin.append_,run_underlying ht,sizeOf,typeInfo,hi,Builtin.lenOf,Builtin.firstCells,hnc,storeCells]

theorem wp_append_row {o:Oper} {a:Act} {K:Act→World→Prop} {Q:Exit→Act→World→Prop} (s x:Operand) (t:TypeId)
  (ho:o.op=.call { callee:=.builtin .append,args:=#[s,x],argTypes:=#[t,t] })
  (base:Nat) (e:TypeId) (i:TypeInfo) (z:Value) (size bytes:Nat) (ht:P.underlying t=some (.slice e)) (hi:P.info? e=some i) (hz:i.zero=some z)
  (hsize:i.size=size) (hby:i.bytes=bytes) (hzs:z.cells.size=size) (hsz:0 < size)
  (v:Value) (n:Nat) (xs:List Value) (hs:a.eval s=v) (hown:w.ownsRow base e size v n xs)
  (A:Option Addr) (m c:Nat) (news:List Value) (hx:a.eval x=.slice A m c) (hr:Row w A news) (hl:news.length=m*size) (h1:∀ u∈news,u.oneCell'=true)
  (h63:n+m≤maxLen) (hbytes:(n+m)*bytes≤140737488355328) (hbase:base≤w.heap.size)
  (h:∀ v' w',w'.ownsRow base e size v' (n+m) (xs++news)→w.grownBy w' v.ownBlock→K (a.put o.dst v') w'):o.wp P a w K Q:=by
 rcases A with _ | ad
 ·have hm:m=0:=by
   rcases Nat.eq_zero_or_pos m with h0 | h0
   ·exact h0
   ·have hne:news≠[]:=by
     intro h;rw [h] at hl
     have:=Nat.mul_pos h0 hsz
     simp at hl;omega
    obtain ⟨g,off,hg,_⟩:=hr hne
    cases hg
  subst hm
  have hn:news=[]:=List.eq_nil_of_length_eq_zero (by simpa using hl)
  subst hn
  have hrun:=run_append_none_any (P:=P) w base t o.type e i size ht hi v n xs hown c
  unfold Oper.wp execOp
  simp only [ho,resolve,invoke,builtin,Sem.run_bind,Sem.run_pure,Result.andThen_ok,List.map_toArray,List.map_cons,List.map_nil,hs,hx,hrun]
  exact h v w (by simpa using hown) (World.grownBy.refl w _)
 ·refine wp_append_own w s x t ho base e i z size bytes ht hi hz hsize hby hzs hsz v n xs hs hown ad m c news hx hl ?_ h1 h63 hbytes hbase fun v' w' h2 h3 _=>h v' w' h2 h3
  intro j u hu
  have hne:news≠[]:=by rintro rfl;simp at hu
  obtain ⟨g,off,hg,_,hc⟩:=hr hne
  cases hg
  have hj:j < news.length:=(List.getElem?_eq_some_iff.1 hu).1
  have:=(hc j hj).trans hu
  simp only [Addr.add]
  by_cases h0:j=0
  ·subst h0;simpa using this
  ·rw [if_neg h0];exact this

theorem wpList_append_row {ops:Array Oper} {rest:List Oper} {o:Oper} {a:Act} {Q:Exit→Act→World→Prop} (hw:Region.wanted o (yielded ops a.tmps)=true) (s x:Operand) (t:TypeId)
  (ho:o.op=.call { callee:=.builtin .append,args:=#[s,x],argTypes:=#[t,t] })
  (base:Nat) (e:TypeId) (i:TypeInfo) (z:Value) (size bytes:Nat) (ht:P.underlying t=some (.slice e)) (hi:P.info? e=some i) (hz:i.zero=some z)
  (hsize:i.size=size) (hby:i.bytes=bytes) (hzs:z.cells.size=size) (hsz:0 < size)
  (v:Value) (n:Nat) (xs:List Value) (hs:a.eval s=v) (hown:w.ownsRow base e size v n xs)
  (A:Option Addr) (m c:Nat) (news:List Value) (hx:a.eval x=.slice A m c) (hr:Row w A news) (hl:news.length=m*size) (h1:∀ u∈news,u.oneCell'=true)
  (h63:n+m≤maxLen) (hbytes:(n+m)*bytes≤140737488355328) (hbase:base≤w.heap.size)
  (h:∀ v' w',w'.ownsRow base e size v' (n+m) (xs++news)→w.grownBy w' v.ownBlock→wpList P ops Q rest (a.put o.dst v') w'):wpList P ops Q (o::rest) a w :=
 wpList_step fun K hK=>by
  rw [if_pos hw]
  exact wp_append_row w s x t ho base e i z size bytes ht hi hz hsize hby hzs hsz v n xs hs hown A m c news hx hr hl h1 h63 hbytes hbase fun v' w' h2 h3=>hK _ _ (h v' w' h2 h3)
end
end Go.Proofs.YtnmmhcchpcbeeaaGreat.Mem
