/- The part language, plain: where the first wrong token ends. No function is in sight. Conditions: none. -/
import Derived.Test.YtnkkcknogkgdkaaGreatDoorLexLaws
import Derived.Test.YtnkkcknogkgdkaaGreatDoorGeC

namespace Go.Proofs.YtnkkcknogkgdkaaGreatDoor.Pa
open Go
open Go.Proofs.YtnkkcknogkgdkaaGreatDoor.Ge (V)
open Go.Proofs.YtnkkcknogkgdkaaGreatDoor.Lex (Tok)

structure Step where
 arc:Bool
 «to» : V
 center:V
 cw:Bool
 deriving DecidableEq
structure Outline where
 circle:Bool
 center:V
 radius:Int
 steps:List Step
 deriving DecidableEq
structure Source where
 name:List UInt8
 grade:List UInt8
 grain:Int
 turns:List Int
 tol:Int
 outer:Outline
 holes:List Outline
 deriving DecidableEq

/-! ### Steps of the reader -/
inductive R (α:Type) where
 | ok (a:α) (i:Nat)
 | no (k:Nat) (e:Int)
abbrev Op (α:Type):=List Tok→Nat→R α
def R.idx {α} : R α→Nat
 | .ok _ i=>i
 | .no k _=>k
def bnd {α β} (F:Op α) (G:α→Op β):Op β:=fun L i=>match F L i with
 | .ok a j=>G a L j
 | .no k e=>.no k e
def ret {α} (a:α):Op α:=fun _ i=>.ok a i
def isT (L:List Tok) (s:List UInt8) (i:Nat):Bool:=match L[i]? with
 | some t=>decide (t.kind≠2)&&decide (t.text=s)
 | none=>false
def need (s:List UInt8):Op Unit:=fun L i=>if isT L s i=true then .ok () (i+1) else .no i 3
def nameO:Op (List UInt8):=fun L i=>match L[i]? with
 | some t=>if t.kind=1 then .ok t.text (i+1) else .no i 3
 | none=>.no i 3
def numO (lo hi:Int):Op Int:=fun L i=>match L[i]? with
 | some t=>if t.kind=2 then (if t.n < lo∨hi < t.n then .no i 2 else .ok t.n (i+1)) else .no i 3
 | none=>.no i 3
def optO (s:List UInt8):Op Bool:=fun L i=>if isT L s i=true then .ok true (i+1) else .ok false i
def failO {α} : Op α:=fun _ i=>.no i 3
def kOpen:List UInt8:=[40]
def kShut:List UInt8:=[41]
def kComma:List UInt8:=[44]
def kSemi:List UInt8:=[59]
def kBegin:List UInt8:=[123]
def kEnd:List UInt8:=[125]
def kArc:List UInt8:=[97,114,99]
def kAround:List UInt8:=[97,114,111,117,110,100]
def kClock:List UInt8:=[99,108,111,99,107,119,105,115,101]
def kCircle:List UInt8:=[99,105,114,99,108,101]
def kRadius:List UInt8:=[114,97,100,105,117,115]
def kPart:List UInt8:=[112,97,114,116]
def kGrade:List UInt8:=[103,114,97,100,101]
def kGrain:List UInt8:=[103,114,97,105,110]
def kX:List UInt8:=[120]
def kY:List UInt8:=[121]
def kTurns:List UInt8:=[116,117,114,110,115]
def kTol:List UInt8:=[116,111,108,101,114,97,110,99,101]
def kRing:List UInt8:=[114,105,110,103]
def kHole:List UInt8:=[104,111,108,101]
def big:Nat:=20001
def pointO:Op V:=bnd (need kOpen) fun _=>bnd (numO (-2000) 2000) fun x=>bnd (need kComma) fun _=>bnd (numO (-2000) 2000) fun y=>bnd (need kShut) fun _=>ret (x,y)
def arcO:Op Step:=bnd pointO fun t=>bnd (need kAround) fun _=>bnd pointO fun c=>bnd (optO kClock) fun b=>ret ⟨true,t,c,b⟩
def lineO:Op Step:=bnd pointO fun t=>ret ⟨false,t,(0,0),false⟩
def stepO:Op Step:=bnd (optO kArc) fun b=>if b=true then arcO else lineO
def stepsO:Nat→List Step→Op (List Step)
 | 0,acc=>ret acc
 | f+1,acc=>bnd (optO kSemi) fun b=>if b=true then ret acc else bnd stepO fun s=>stepsO f (acc++[s])
def circleO:Op Outline:=bnd pointO fun c=>bnd (need kRadius) fun _=>bnd (numO 1 2000) fun r=>bnd (need kSemi) fun _=>ret ⟨true,c,r,[]⟩
def pathO:Op Outline:=bnd pointO fun p=>bnd (stepsO big [⟨false,p,(0,0),false⟩]) fun l=>ret ⟨false,(0,0),0,l⟩
def outlineO:Op Outline:=bnd (optO kCircle) fun b=>if b=true then circleO else pathO
def grainO:Op Int:=bnd (optO kGrain) fun g=>if g=true then
  bnd (optO kX) fun x=>if x=true then bnd (need kSemi) fun _=>ret 1 else
   bnd (optO kY) fun y=>if y=true then bnd (need kSemi) fun _=>ret 2 else failO
 else ret 0
def turnsO:Nat→List Int→Op (List Int)
 | 0,acc=>ret acc
 | f+1,acc=>bnd (optO kComma) fun b=>if b=true then bnd (numO (acc.getLastD 0+1) 7) fun n=>turnsO f (acc++[n]) else ret acc
def tolO:Op Int:=bnd (optO kTol) fun b=>if b=true then bnd (numO 1 50) fun n=>bnd (need kSemi) fun _=>ret n else ret 1
def holesO:Nat→List Outline→Op (List Outline)
 | 0,acc=>ret acc
 | f+1,acc=>bnd (optO kHole) fun b=>if b=true then bnd outlineO fun o=>holesO f (acc++[o]) else ret acc
def sourceO:Op Source:=bnd (need kPart) fun _=>bnd nameO fun nm=>bnd (need kBegin) fun _=>bnd (need kGrade) fun _=>bnd nameO fun gr=>bnd (need kSemi) fun _ =>
 bnd grainO fun g=>bnd (need kTurns) fun _=>bnd (numO 0 7) fun t=>bnd (turnsO big [t]) fun ts=>bnd (need kSemi) fun _=>bnd tolO fun tol =>
 bnd (need kRing) fun _=>bnd outlineO fun o=>bnd (holesO big []) fun hs=>bnd (need kEnd) fun _=>ret ⟨nm,gr,g,ts,tol,o,hs⟩
def partsO:Nat→List Source→Op (List Source)
 | 0,acc=>ret acc
 | f+1,acc=>fun L i=>if i < L.length then bnd sourceO (fun x=>partsO f (acc++[x])) L i else .ok acc i
def long (o:Outline):Bool:=decide (40 < o.steps.length)
def tooMany (l:List Source):Bool:=decide (20 < l.length) || l.any fun x=>decide (6 < x.holes.length) || (long x.outer || x.holes.any long)
def offs (L:List Tok) (E k:Nat):Nat:=match L[k]? with
 | some t=>t.pos
 | none=>E
def parse (s:List UInt8):List Source×Nat×Int :=
 if (Lex.tokens s).err≠0 then ([],(Lex.tokens s).pos,(Lex.tokens s).err) else match partsO big [] (Lex.tokens s).toks 0 with
 | .no k e=>([],offs (Lex.tokens s).toks s.length k,e)
 | .ok l _=>if tooMany l=true then ([],0,9) else (l,0,0)

/-! ### It goes on, and looks no further than where it stands -/
def Adv {α} (F:Op α):Prop:=∀ L i,i≤(F L i).idx∧(i≤L.length→(F L i).idx≤L.length)
def Loc {α} (F:Op α):Prop:=∀ L L' i,(∀ m,m≤(F L i).idx→L'[m]? = L[m]?)→F L' i=F L i
/-- Where it succeeds, it has passed all that it has looked at. -/
def Tight {α} (F:Op α):Prop:=∀ L L' i a j,F L i=.ok a j→i < j∧((∀ m,m < j→L'[m]? = L[m]?)→F L' i=.ok a j)
theorem Adv.bnd {α β} {F:Op α} {G:α→Op β} (hF:Adv F) (hG:∀ a,Adv (G a)):Adv (bnd F G):=fun L i=>by
 have h1:=hF L i
 unfold Pa.bnd
 cases hx:F L i with
 | ok a j =>
  rw [hx] at h1
  have h2:=hG a L j
  exact ⟨Nat.le_trans h1.1 h2.1,fun h=>h2.2 (h1.2 h)⟩
 | no k e=>rw [hx] at h1;exact h1
theorem Loc.bnd {α β} {F:Op α} {G:α→Op β} (hF:Loc F) (hG:∀ a,Loc (G a)) (hA:∀ a,Adv (G a)):Loc (bnd F G):=fun L L' i h=>by
 unfold Pa.bnd at h ⊢
 cases hx:F L i with
 | ok a j =>
  rw [hx] at h
  simp only at h
  have h2:=(hA a L j).1
  rw [hF L L' i (by rw [hx];exact fun m hm=>h m (Nat.le_trans hm h2)),hx]
  exact hG a L L' j h
 | no k e =>
  rw [hx] at h
  rw [hF L L' i (by rw [hx];exact h),hx]
theorem Tight.bnd {α β} {F:Op α} {G:α→Op β} (hF:Loc F) (hA:Adv F) (hG:∀ a,Tight (G a)):Tight (bnd F G):=fun L L' i b j h=>by
 unfold Pa.bnd at h ⊢
 cases hx:F L i with
 | ok a j1 =>
  rw [hx] at h
  obtain ⟨h1,h2⟩:=hG a L L' j1 b j h
  have h3:=(hA L i).1
  rw [hx] at h3
  refine ⟨Nat.lt_of_le_of_lt h3 h1,fun hm=>?_⟩
  rw [hF L L' i (by rw [hx];exact fun m hm2=>hm m (Nat.lt_of_le_of_lt hm2 h1)),hx]
  exact h2 hm
 | no k e=>rw [hx] at h;cases h
theorem tight_bnd_ret {α β} {F:Op α} {g:α→β} (hF:Tight F):Tight (bnd F fun a=>ret (g a)):=fun L L' i b j h=>by
 unfold Pa.bnd ret at h ⊢
 cases hx:F L i with
 | ok a j1 =>
  rw [hx] at h
  obtain ⟨rfl,rfl⟩:g a=b∧j1=j:=by simp only [R.ok.injEq] at h;exact h
  obtain ⟨h1,h2⟩:=hF L L' i a j1 hx
  exact ⟨h1,fun hm=>by rw [h2 hm]⟩
 | no k e=>rw [hx] at h;cases h
theorem adv_ret {α} (a:α):Adv (ret a):=fun _ _=>⟨Nat.le_refl _,id⟩
theorem loc_ret {α} (a:α):Loc (ret a):=fun _ _ _ _=>rfl
theorem adv_fail {α} : Adv (failO:Op α):=fun _ _=>⟨Nat.le_refl _,id⟩
theorem loc_fail {α} : Loc (failO:Op α):=fun _ _ _ _=>rfl
theorem isT_lt {L:List Tok} {s:List UInt8} {i:Nat} (h:isT L s i=true):i < L.length:=by
 unfold isT at h
 cases hx:L[i]? with
 | none=>rw [hx] at h;cases h
 | some t=>exact (List.getElem?_eq_some_iff.1 hx).1
theorem isT_loc {L L':List Tok} {i:Nat} (s:List UInt8) (h:L'[i]? = L[i]?):isT L' s i=isT L s i:=by unfold isT;rw [h]
theorem adv_need (s):Adv (need s):=fun L i=>by
 unfold need
 split
 ·rename_i h
  have:=isT_lt h
  exact ⟨by simp [R.idx],fun _=>by simp only [R.idx];omega⟩
 ·exact ⟨Nat.le_refl _,id⟩
theorem loc_need (s):Loc (need s):=fun L L' i h=>by
 have:L'[i]? = L[i]?:=h i (adv_need s L i).1
 unfold need
 rw [isT_loc s this]
theorem tight_need (s):Tight (need s):=fun L L' i a j h=>by
 unfold need at h ⊢
 split at h
 ·rename_i h1
  obtain ⟨rfl,rfl⟩:()=a∧i+1=j:=by simp only [R.ok.injEq] at h;exact ⟨rfl,h.2⟩
  exact ⟨by omega,fun hm=>by rw [isT_loc s (hm i (by omega)),if_pos h1]⟩
 ·cases h
theorem adv_opt (s):Adv (optO s):=fun L i=>by
 unfold optO
 split
 ·rename_i h
  have:=isT_lt h
  exact ⟨by simp [R.idx],fun _=>by simp only [R.idx];omega⟩
 ·exact ⟨Nat.le_refl _,id⟩
theorem loc_opt (s):Loc (optO s):=fun L L' i h=>by
 have:L'[i]? = L[i]?:=h i (adv_opt s L i).1
 unfold optO
 rw [isT_loc s this]
theorem adv_name:Adv nameO:=fun L i=>by
 unfold nameO
 cases hx:L[i]? with
 | none=>exact ⟨Nat.le_refl _,id⟩
 | some t =>
  have:=(List.getElem?_eq_some_iff.1 hx).1
  simp only
  split
  ·exact ⟨by simp [R.idx],fun _=>by simp only [R.idx];omega⟩
  ·exact ⟨Nat.le_refl _,id⟩
theorem loc_name:Loc nameO:=fun L L' i h=>by
 have:L'[i]? = L[i]?:=h i (adv_name L i).1
 unfold nameO
 rw [this]
theorem adv_num (lo hi):Adv (numO lo hi):=fun L i=>by
 unfold numO
 cases hx:L[i]? with
 | none=>exact ⟨Nat.le_refl _,id⟩
 | some t =>
  have:=(List.getElem?_eq_some_iff.1 hx).1
  simp only
  split
  ·split
   ·exact ⟨Nat.le_refl _,id⟩
   ·exact ⟨by simp [R.idx],fun _=>by simp only [R.idx];omega⟩
  ·exact ⟨Nat.le_refl _,id⟩
theorem loc_num (lo hi):Loc (numO lo hi):=fun L L' i h=>by
 have:L'[i]? = L[i]?:=h i (adv_num lo hi L i).1
 unfold numO
 rw [this]
theorem adv_if {α} {c:Prop} [Decidable c] {F G:Op α} (hF:Adv F) (hG:Adv G):Adv (if c then F else G):=by split<;>assumption
theorem loc_if {α} {c:Prop} [Decidable c] {F G:Op α} (hF:Loc F) (hG:Loc G):Loc (if c then F else G):=by split<;>assumption
theorem adv_point:Adv pointO:=(adv_need _).bnd fun _=>(adv_num _ _).bnd fun _=>(adv_need _).bnd fun _=>(adv_num _ _).bnd fun _=>(adv_need _).bnd fun _=>adv_ret _
theorem loc_point:Loc pointO:=(loc_need _).bnd (fun _=>(loc_num _ _).bnd (fun _=>(loc_need _).bnd (fun _=>(loc_num _ _).bnd (fun _=>(loc_need _).bnd (fun _=>loc_ret _) (fun _=>adv_ret _)) (fun _=>(adv_need _).bnd fun _=>adv_ret _)) (fun _=>(adv_num _ _).bnd fun _=>(adv_need _).bnd fun _=>adv_ret _)) (fun _=>(adv_need _).bnd fun _=>(adv_num _ _).bnd fun _=>(adv_need _).bnd fun _=>adv_ret _)) (fun _=>(adv_num _ _).bnd fun _=>(adv_need _).bnd fun _=>(adv_num _ _).bnd fun _=>(adv_need _).bnd fun _=>adv_ret _)
/-- Both at once. -/
def Good {α} (F:Op α):Prop:=Adv F∧Loc F
theorem Good.bnd {α β} {F:Op α} {G:α→Op β} (hF:Good F) (hG:∀ a,Good (G a)):Good (bnd F G):=⟨hF.1.bnd fun a=>(hG a).1,hF.2.bnd (fun a=>(hG a).2) (fun a=>(hG a).1)⟩
theorem good_ret {α} (a:α):Good (ret a):=⟨adv_ret a,loc_ret a⟩
theorem good_fail {α} : Good (failO:Op α):=⟨adv_fail,loc_fail⟩
theorem good_need (s):Good (need s):=⟨adv_need s,loc_need s⟩
theorem good_opt (s):Good (optO s):=⟨adv_opt s,loc_opt s⟩
theorem good_name:Good nameO:=⟨adv_name,loc_name⟩
theorem good_num (lo hi):Good (numO lo hi):=⟨adv_num lo hi,loc_num lo hi⟩
theorem good_if {α} {c:Prop} [Decidable c] {F G:Op α} (hF:Good F) (hG:Good G):Good (if c then F else G):=⟨adv_if hF.1 hG.1,loc_if hF.2 hG.2⟩
theorem good_point:Good pointO:=⟨adv_point,loc_point⟩
theorem good_arc:Good arcO:=good_point.bnd fun _=>(good_need _).bnd fun _=>good_point.bnd fun _=>(good_opt _).bnd fun _=>good_ret _
theorem good_line:Good lineO:=good_point.bnd fun _=>good_ret _
theorem good_step:Good stepO:=(good_opt _).bnd fun _=>good_if good_arc good_line
theorem good_steps:∀ f acc,Good (stepsO f acc)
 | 0,acc=>good_ret acc
 | f+1,acc=>(good_opt _).bnd fun _=>good_if (good_ret acc) (good_step.bnd fun _=>good_steps f _)
theorem good_circle:Good circleO:=good_point.bnd fun _=>(good_need _).bnd fun _=>(good_num _ _).bnd fun _=>(good_need _).bnd fun _=>good_ret _
theorem good_path:Good pathO:=good_point.bnd fun _=>(good_steps _ _).bnd fun _=>good_ret _
theorem good_outline:Good outlineO:=(good_opt _).bnd fun _=>good_if good_circle good_path
theorem good_grain:Good grainO:=(good_opt _).bnd fun _=>good_if ((good_opt _).bnd fun _=>good_if ((good_need _).bnd fun _=>good_ret _) ((good_opt _).bnd fun _=>good_if ((good_need _).bnd fun _=>good_ret _) good_fail)) (good_ret _)
theorem good_turns:∀ f acc,Good (turnsO f acc)
 | 0,acc=>good_ret acc
 | f+1,acc=>(good_opt _).bnd fun _=>good_if ((good_num _ _).bnd fun _=>good_turns f _) (good_ret acc)
theorem good_tol:Good tolO:=(good_opt _).bnd fun _=>good_if ((good_num _ _).bnd fun _=>(good_need _).bnd fun _=>good_ret _) (good_ret _)
theorem good_holes:∀ f acc,Good (holesO f acc)
 | 0,acc=>good_ret acc
 | f+1,acc=>(good_opt _).bnd fun _=>good_if (good_outline.bnd fun _=>good_holes f _) (good_ret acc)
theorem tight_from {α β} {F:Op α} {G:α→Op β} (hF:Good F) (hG:∀ a,Tight (G a)):Tight (bnd F G):=Tight.bnd hF.2 hF.1 hG
theorem tight_source:Tight sourceO:=tight_from (good_need _) fun _=>tight_from good_name fun _=>tight_from (good_need _) fun _=>tight_from (good_need _) fun _=>tight_from good_name fun _=>tight_from (good_need _) fun _ =>
 tight_from good_grain fun _=>tight_from (good_need _) fun _=>tight_from (good_num _ _) fun _=>tight_from (good_turns _ _) fun _=>tight_from (good_need _) fun _=>tight_from good_tol fun _ =>
 tight_from (good_need _) fun _=>tight_from good_outline fun _=>tight_from (good_holes _ _) fun _=>tight_bnd_ret (tight_need _)
theorem source_more {L:List Tok} {i:Nat} {x:Source} {j:Nat} (h:sourceO L i=.ok x j):i < j:=(tight_source L L i x j h).1

/-! ### Behind other tokens -/
def R.shift {α} (n:Nat):R α→R α
 | .ok a i=>.ok a (n+i)
 | .no k e=>.no (n+k) e
/-- A reader does not see what lies ahead of where it begins, nor the offsets. -/
def Sh {α} (F:Op α):Prop:=∀ A L i,F (A++L) (A.length+i)=(F L i).shift A.length
theorem Sh.bnd {α β} {F:Op α} {G:α→Op β} (hF:Sh F) (hG:∀ a,Sh (G a)):Sh (bnd F G):=fun A L i=>by
 unfold Pa.bnd
 rw [hF A L i]
 cases F L i with
 | ok a j=>exact hG a A L j
 | no k e=>rfl
/-! ### The keys of tokens alone matter -/
/-- Tokens that are alike but for their offsets are read alike. -/
def Key {α} (F:Op α):Prop:=∀ L L' i,L'.map Lex.key=L.map Lex.key→F L' i=F L i
theorem Key.bnd {α β} {F:Op α} {G:α→Op β} (hF:Key F) (hG:∀ a,Key (G a)):Key (bnd F G):=fun L L' i h=>by
 unfold Pa.bnd
 rw [hF L L' i h]
 cases F L i with
 | ok a j=>exact hG a L L' j h
 | no k e=>rfl
end Go.Proofs.YtnkkcknogkgdkaaGreatDoor.Pa

namespace Go.Proofs.YtnkkcknogkgdkaaGreatDoor.Pa
open Go
open Go.Proofs.YtnkkcknogkgdkaaGreatDoor.Ge (V)
open Go.Proofs.YtnkkcknogkgdkaaGreatDoor.Lex (Tok LR)

/-! ### The list of sources -/
def R.pre (acc:List Source):R (List Source)→R (List Source)
 | .ok l i=>.ok (acc++l) i
 | .no k e=>.no k e
/-- A reader's error is one. -/
def NoZ {α} (F:Op α):Prop:=∀ L i k,F L i≠.no k 0
theorem NoZ.bnd {α β} {F:Op α} {G:α→Op β} (hF:NoZ F) (hG:∀ a,NoZ (G a)):NoZ (bnd F G):=fun L i k h=>by
 unfold Pa.bnd at h
 cases hx:F L i with
 | ok a j=>rw [hx] at h;exact hG a L j k h
 | no k2 e =>
  rw [hx] at h
  simp only [R.no.injEq] at h
  obtain ⟨rfl,rfl⟩:=h
  exact hF L i k2 hx
/-! ### Texts -/
theorem lexF_len:∀ (f:Nat) (l:List UInt8) (p:Nat),(Lex.lexF f l p).toks.length≤f
 | 0,_,_=>by simp [Lex.lexF]
 | f+1,[],_=>by simp [Lex.lexF]
 | f+1,c::r,p=>by
  unfold Lex.lexF
  split
  ·have:=lexF_len f r (p+1);omega
  ·split
   ·have:=lexF_len f ((c::r).dropWhile Lex.notFeed) (p+((c::r).takeWhile Lex.notFeed).length);omega
   ·split
    ·have:=lexF_len f ((c::r).drop (Lex.tokL (c::r)).len) (p+(Lex.tokL (c::r)).len)
     unfold Lex.LR.cons
     split
     ·simp;omega
     ·simp
    ·simp
end Go.Proofs.YtnkkcknogkgdkaaGreatDoor.Pa

namespace Go.Proofs.YtnkkcknogkgdkaaGreatDoor.Pa
open Go
open Go.Proofs.YtnkkcknogkgdkaaGreatDoor.Lex (Tok)
inductive St where
 | ok (i:Nat)
 | bad (k:Nat) (e:Int)
/-- From state st the reader F answers a and stands in state t: a failed state stays. -/
def Ran {α} (F:Op α) (L:List Tok) (E:Nat) (st:St) (a:α) (t:St):Prop:=match st with
 | .bad k e=>t=.bad k e
 | .ok i=>match F L i with
  | .ok x j=>a=x∧t=.ok j
  | .no k e=>t=.bad (offs L E k) e
theorem Ran.bnd {α β} {F:Op α} {G:α→Op β} {L:List Tok} {E:Nat} {s t u:St} {a:α} {b:β} (h1:Ran F L E s a t) (h2:Ran (G a) L E t b u):Ran (bnd F G) L E s b u:=by
 cases s with
 | bad k e =>
  have e1:t=.bad k e:=h1
  subst e1
  exact h2
 | ok i =>
  unfold Ran at h1 ⊢
  simp only at h1 ⊢
  unfold Pa.bnd
  cases hx:F L i with
  | ok x j =>
   rw [hx] at h1
   obtain ⟨rfl,rfl⟩:=h1
   exact h2
  | no k e =>
   rw [hx] at h1
   subst h1
   exact h2
theorem Ran.same {α} {F G:Op α} {L:List Tok} {E:Nat} {s t:St} {a:α} (h:Ran F L E s a t) (he:∀ i,s=.ok i→F L i=G L i):Ran G L E s a t:=by
 cases s with
 | bad k e=>exact h
 | ok i =>
  unfold Ran at h ⊢
  simp only at h ⊢
  rw [← he i rfl]
  exact h
theorem bnd_ok {α β} {F:Op α} {G:α→Op β} {L:List Tok} {i j:Nat} {a:α} (h:F L i=.ok a j):bnd F G L i=G a L j:=by unfold bnd;rw [h]
theorem bnd_no {α β} {F:Op α} {G:α→Op β} {L:List Tok} {i k:Nat} {e:Int} (h:F L i=.no k e):bnd F G L i=.no k e:=by unfold bnd;rw [h]
theorem tight_point:Tight pointO:=tight_from (good_need _) fun _=>tight_from (good_num _ _) fun _=>tight_from (good_need _) fun _=>tight_from (good_num _ _) fun _=>tight_bnd_ret (tight_need _)
theorem tight_line:Tight lineO:=tight_bnd_ret tight_point
theorem step_on {L:List Tok} {i j:Nat} {s:Step} (h:stepO L i=.ok s j):i < j:=by
 rcases Nat.lt_or_ge i j with h1 | h1
 ·exact h1
 ·exfalso
  have:=(good_step.1 L i).1
  rw [h] at this
  have e:j=i:=by simp only [R.idx] at this;omega
  subst e
  unfold stepO bnd optO at h
  cases ha:isT L kArc j with
  | true =>
   simp only [ha,if_true] at h
   have h3:=(good_arc.1 L (j+1)).1
   rw [h] at h3
   simp only [R.idx] at h3
   omega
  | false =>
   simp only [ha,Bool.false_eq_true,if_false] at h
   have hl:=tight_line L L j s j h
   omega
/-- The offsets of tokens ascend. -/
def Asc (L:List Tok):Prop:=∀ i j (hi:i < j) (h:j < L.length),(L[i]'(by omega)).pos < L[j].pos
end Go.Proofs.YtnkkcknogkgdkaaGreatDoor.Pa
