/- The text of what is read is not much longer than the source, plain. No function is in sight. Conditions: none. -/
import Derived.Test.YtnkkcknogkgdkaaGreatDoorPfA
import Derived.Test.YtnkkcknogkgdkaaGreatDoorNumW

namespace Go.Proofs.YtnkkcknogkgdkaaGreatDoor.Pa
open Go
open Go.Proofs.YtnkkcknogkgdkaaGreatDoor.Ge (V within)
open Go.Proofs.YtnkkcknogkgdkaaGreatDoor.Lex (Tok key lex LR stop Word letter digit inner isName)

/-! ### Texts that are lexed as tokens of given keys, wherever they stand -/
abbrev K:=Int×List UInt8×Int
def kM (w:List UInt8):K:=(3,w,0)
/-! ### What is printed -/
def pointT (v:V):List UInt8:=40::(Lib.itoa v.1++(44::32::(Lib.itoa v.2++[41])))
/-! ### The keys of what is printed -/
/-! ### Which sources are valid -/
def stepOk (first:Bool) (s:Step):Bool:=within s.to 2000&&(within s.center 2000&&((s.arc || (decide (s.center=(0,0)) && !s.cw)) && !(first&&s.arc)))
def stepsOk:List Step→Bool
 | []=>true
 | s::r=>stepOk true s&&r.all (stepOk false)
def outlineOk (o:Outline):Bool :=
 if o.circle=true then within o.center 2000&&(decide (1≤o.radius)&&(decide (o.radius≤2000)&&decide (o.steps.length=0)))
 else stepsOk o.steps&&(decide (o.center=(0,0))&&(decide (o.radius=0)&&(decide (1≤o.steps.length)&&decide (o.steps.length≤40))))
def turnsOk:List Int→Bool
 | []=>false
 | [a]=>decide (0≤a)&&decide (a≤7)
 | a::b::r=>decide (0≤a)&&(decide (a≤7)&&(decide (a < b)&&turnsOk (b::r)))
def namedOk (name grade:List UInt8) (g:Int) (ts:List Int):Bool:=isName name&&(isName grade&&(decide (0≤g)&&(decide (g≤2)&&turnsOk ts)))
def sourceOk (x:Source):Bool:=namedOk x.name x.grade x.grain x.turns&&(decide (1≤x.tol)&&(decide (x.tol≤50)&&(outlineOk x.outer&&(decide (x.holes.length≤6)&&x.holes.all outlineOk))))
def sourcesOk (l:List Source):Bool:=l.all sourceOk&&decide (l.length≤20)

/-! ### The text's keys -/
end Go.Proofs.YtnkkcknogkgdkaaGreatDoor.Pa

namespace Go.Proofs.YtnkkcknogkgdkaaGreatDoor.Pa
open Go
open Go.Proofs.YtnkkcknogkgdkaaGreatDoor.Ge (V within)
open Go.Proofs.YtnkkcknogkgdkaaGreatDoor.Lex (Tok key lex isName)
/-- The next token is this word or mark. -/
def headIs (s:List UInt8) (ks:List K):Bool:=match ks with
 | k::_=>decide (k.1≠2)&&decide (k.2.1=s)
 | []=>false
/-- F passes the tokens ks and answers a, if none of the words bad follows. -/
def Eats {α} (F:Op α) (ks:List K) (a:α) (bad:List (List UInt8)):Prop:=∀ (L:List Tok) (i:Nat) (p:List K),(L.map key).drop i=ks++p→(∀ s∈bad,headIs s p=false)→F L i=.ok a (i+ks.length)
/-- What comes next shuts these words out. -/
def Shuts (ks:List K) (b1 b2:List (List UInt8)):Prop:=∀ p,(∀ s∈b2,headIs s p=false)→∀ s∈b1,headIs s (ks++p)=false
theorem Eats.bnd {α β} {F:Op α} {G:α→Op β} {k1 k2:List K} {a:α} {b:β} {b1 b2:List (List UInt8)} (h1:Eats F k1 a b1) (h2:Eats (G a) k2 b b2) (hs:Shuts k2 b1 b2):Eats (bnd F G) (k1++k2) b b2:=fun L i p h hb=>by
 rw [List.append_assoc] at h
 unfold Pa.bnd
 rw [h1 L i (k2++p) h (hs p hb)]
 have hd:(L.map key).drop (i+k1.length)=k2++p:=by rw [← List.drop_drop,h,List.drop_left]
 show G a L (i+k1.length)=_
 rw [h2 L _ p hd hb,List.length_append,Nat.add_assoc]
theorem shuts_nil (ks:List K) (b2):Shuts ks [] b2:=fun _ _ _ h=>by cases h
theorem Eats.map {α β} {F:Op α} {ks:List K} {a:α} {bad} (h:Eats F ks a bad) (g:α→β):Eats (Pa.bnd F fun x=>ret (g x)) ks (g a) bad:=fun L i p hd hb=>by
 unfold Pa.bnd ret
 rw [h L i p hd hb]
/-- A first operation that passes one token. -/
theorem Eats.then {α β} {F:Op α} {G:α→Op β} {k:K} {ks:List K} {a:α} {b:β} {bad} (h1:Eats F [k] a []) (h2:Eats (G a) ks b bad):Eats (Pa.bnd F G) (k::ks) b bad:=h1.bnd h2 (shuts_nil _ _)
/-- A first operation that passes none. -/
theorem Eats.none {α β} {F:Op α} {G:α→Op β} {ks:List K} {a:α} {b:β} {b1 bad} (h1:Eats F [] a b1) (h2:Eats (G a) ks b bad) (hs:Shuts ks b1 bad):Eats (Pa.bnd F G) ks b bad:=h1.bnd h2 hs
theorem mk {c:UInt8} {s:List UInt8} (h:s=[c]):(kM s).1≠2∧(kM s).2.1=s:=by subst h;exact ⟨by simp [kM],rfl⟩
theorem Eats.more {α} {F:Op α} {ks:List K} {a:α} {b1 b2:List (List UInt8)} (h:Eats F ks a b1) (hb:∀ s∈b1,s∈b2):Eats F ks a b2:=fun L i p hd hx=>h L i p hd fun s hs=>hx s (hb s hs)

/-! ### The reader -/
/-! ### The reader looks at the keys alone -/
def Keyed {α} (F:Op α):Prop:=∀ L L' i,L.map key=L'.map key→F L i=F L' i
theorem Keyed.bnd {α β} {F:Op α} {G:α→Op β} (hF:Keyed F) (hG:∀ a,Keyed (G a)):Keyed (bnd F G):=fun L L' i h=>by
 unfold Pa.bnd
 rw [hF L L' i h]
 cases F L' i with
 | ok a j=>exact hG a L L' j h
 | no k e=>rfl
/-! ### What is read holds this -/
section
variable {L:List Tok}
/-- What F answers holds P. -/
def Gv {α} (L:List Tok) (F:Op α) (P:α→Prop):Prop:=∀ i a j,F L i=.ok a j→P a
theorem Gv.bnd {α β} {F:Op α} {G:α→Op β} {P:α→Prop} {Q:β→Prop} (hF:Gv L F P) (hG:∀ a,P a→Gv L (G a) Q):Gv L (bnd F G) Q:=fun i b j h=>by
 unfold Pa.bnd at h
 cases hx:F L i with
 | ok a k=>rw [hx] at h;exact hG a (hF i a k hx) k b j h
 | no k e=>rw [hx] at h;cases h
end
def wt (t:Tok):Nat:=(Lex.write t).length+6
def Sm (L:List Tok) (i:Nat):Nat:=((L.take i).map wt).sum
section
variable {L:List Tok}
/-- What F answers is paid by the tokens that it passes, and by c. -/
def Sz {α} (L:List Tok) (F:Op α) (f:α→Nat) (c:Nat):Prop:=∀ i a j,F L i=.ok a j→Sm L i+f a≤Sm L j+c
theorem Sz.bnd {α β} {F:Op α} {G:α→Op β} {f:α→Nat} {h:β→Nat} {c:Nat} (hF:Sz L F f 0) (hG:∀ a,Sz L (G a) h (f a+c)):Sz L (bnd F G) h c:=fun i b j e=>by
 unfold Pa.bnd at e
 cases hx:F L i with
 | ok a k =>
  rw [hx] at e
  have h1:=hF i a k hx
  have h2:=hG a k b j e
  omega
 | no k r=>rw [hx] at e;cases e
theorem Sz.less {α} {F:Op α} {f g:α→Nat} {c d:Nat} (h:Sz L F f c) (hg:∀ a,g a≤f a+d):Sz L F g (c+d):=fun i a j e=>by
 have:=h i a j e
 have:=hg a
 omega
theorem Sz.more {α} {F:Op α} {f:α→Nat} {c d:Nat} (h:Sz L F f c) (hd:c≤d):Sz L F f d:=fun i a j e=>by
 have:=h i a j e
 omega
end
end Go.Proofs.YtnkkcknogkgdkaaGreatDoor.Pa
