/- The text of what is read is not much longer than the source, plain. No function is in sight. Conditions: none. -/
import Derived.Test.YtnkkcknogkgdkaaGreatDoorPfA
import Derived.Test.YtnkkcknogkgdkaaGreatDoorNumW

namespace Go.Proofs.YtnkkcknogkgdkaaGreatDoor.Pa
open Go
open Go.Proofs.YtnkkcknogkgdkaaGreatDoor.Ge (V within)
open Go.Proofs.YtnkkcknogkgdkaaGreatDoor.Lex (Tok key lex LR stop Word letter digit inner isName)

/-! ### Texts that are lexed as tokens of given keys, wherever they stand -/
abbrev K:=Int×List UInt8×Int
def kN (w:List UInt8):K:=(1,w,0)
def kM (w:List UInt8):K:=(3,w,0)
def kI (n:Int):K:=(2,[],n)
def Lx (s:List UInt8) (ks:List K):Prop:=∀ p,(lex s p).err=0∧(lex s p).toks.map key=ks
theorem lx_nil:Lx [] []:=fun p=>by rw [Lex.lex_nil];exact ⟨rfl,rfl⟩
theorem lx_skip {c:UInt8} {s:List UInt8} {ks:List K} (hc:Lex.blank c=true) (h:Lx s ks):Lx (c::s) ks:=fun p=>by
 rw [Lex.lex_blank s p hc]
 exact h _
theorem cons_key {t:Tok} {r:LR} {ks:List K} (h:r.err=0∧r.toks.map key=ks):(LR.cons t r).err=0∧(LR.cons t r).toks.map key=key t::ks:=by
 unfold LR.cons
 rw [if_pos h.1]
 exact ⟨rfl,by simp [h.2]⟩
theorem lx_word {t:Tok} {w s:List UInt8} {ks:List K} (hw:Word t w) (hs:stop s=true) (h:Lx s ks):Lx (w++s) (key t::ks):=fun p=>by
 rw [Word.lex_eq hw hs p]
 exact cons_key (t:=⟨t.kind,t.text,t.n,p⟩) (h _)
theorem lx_mark {c:UInt8} {s:List UInt8} {ks:List K} (h1:letter c=false) (h2:(digit c || decide (c=45))=false) (h3:Lex.mark c=true) (hb:Lex.blank c=false) (hn:c≠35) (h:Lx s ks):Lx (c::s) (kM [c]::ks):=fun p=>by
 have ht:=Lex.tokL_mark (r:=s) h1 h2 h3
 rw [Lex.lex_tok s p hb hn (by rw [ht]),ht]
 exact cons_key (t:=⟨3,[c],0,p⟩) (h _)
theorem word_name {w:List UInt8} (h:isName w=true):Word ⟨1,w,0,0⟩ w:=by
 unfold isName at h
 simp only [Bool.and_eq_true,decide_eq_true_eq] at h
 obtain ⟨⟨⟨h1,h2⟩,h3⟩,h4⟩:=h
 cases w with
 | nil=>simp at h1
 | cons c r =>
  have htw:(c::r).takeWhile inner=c::r:=by
   have:=Lex.takeWhile_stop (p:=inner) (fun _ h=>h) (w:=c::r) (rest:=[]) h4 rfl
   rwa [List.append_nil] at this
  have ht:=Lex.tokL_name (c:=c) (r:=r) h3 (by rw [htw];exact h2)
  rw [htw] at ht
  exact ⟨c,r,by rw [ht],by rw [ht],by rw [ht],by rw [ht],by rw [ht];simp⟩
theorem lx_name {w s:List UInt8} {ks:List K} (hw:isName w=true) (hs:stop s=true) (h:Lx s ks):Lx (w++s) (kN w::ks):=lx_word (word_name hw) hs h
theorem lx_num {n:Int} {s:List UInt8} {ks:List K} (hn : -999999999≤n∧n≤999999999) (hs:stop s=true) (h:Lx s ks):Lx (Lib.itoa n++s) (kI n::ks):=lx_word (Wd.word_num hn) hs h
theorem lx_open {s:List UInt8} {ks:List K} (h:Lx s ks):Lx (40::s) (kM kOpen::ks):=lx_mark (by decide) (by decide) (by decide) (by decide) (by decide) h
theorem lx_shut {s:List UInt8} {ks:List K} (h:Lx s ks):Lx (41::s) (kM kShut::ks):=lx_mark (by decide) (by decide) (by decide) (by decide) (by decide) h
theorem lx_comma {s:List UInt8} {ks:List K} (h:Lx s ks):Lx (44::s) (kM kComma::ks):=lx_mark (by decide) (by decide) (by decide) (by decide) (by decide) h
theorem lx_semi {s:List UInt8} {ks:List K} (h:Lx s ks):Lx (59::s) (kM kSemi::ks):=lx_mark (by decide) (by decide) (by decide) (by decide) (by decide) h
theorem lx_begin {s:List UInt8} {ks:List K} (h:Lx s ks):Lx (123::s) (kM kBegin::ks):=lx_mark (by decide) (by decide) (by decide) (by decide) (by decide) h
theorem lx_end {s:List UInt8} {ks:List K} (h:Lx s ks):Lx (125::s) (kM kEnd::ks):=lx_mark (by decide) (by decide) (by decide) (by decide) (by decide) h
theorem lx_sp {s:List UInt8} {ks:List K} (h:Lx s ks):Lx (32::s) ks:=lx_skip (by decide) h
theorem lx_tab {s:List UInt8} {ks:List K} (h:Lx s ks):Lx (9::s) ks:=lx_skip (by decide) h
theorem lx_feed {s:List UInt8} {ks:List K} (h:Lx s ks):Lx (10::s) ks:=lx_skip (by decide) h
theorem stop_of {c:UInt8} {s:List UInt8} (h:inner c=false):stop (c::s)=true:=by simp [stop,h]

/-! ### What is printed -/
def pointT (v:V):List UInt8:=40::(Lib.itoa v.1++(44::32::(Lib.itoa v.2++[41])))
def stepT (s:Step):List UInt8:=(if s.arc=true then kArc++(32::(pointT s.to++(32::(kAround++(32::pointT s.center))))) else pointT s.to)++(if s.cw=true then 32::kClock else [])
def joinB (sep:List UInt8):List (List UInt8)→List UInt8
 | []=>[]
 | [a]=>a
 | a::b::r=>a++(sep++joinB sep (b::r))
def outlineT (o:Outline):List UInt8 :=
 if o.circle=true then kCircle++(32::(pointT o.center++(32::(kRadius++(32::Lib.itoa o.radius))))) else joinB [32] (o.steps.map stepT)
def lineT (w t:List UInt8):List UInt8:=9::(w++(32::(t++[59,10])))
def grainT (g:Int):List UInt8:=if g=1 then lineT kGrain kX else if g=2 then lineT kGrain kY else []
def tolT (t:Int):List UInt8:=if t=1 then [] else lineT kTol (Lib.itoa t)
def sourceT (x:Source):List UInt8 :=
 kPart++(32::(x.name++(32::123::10::(lineT kGrade x.grade++(grainT x.grain++(lineT kTurns (joinB [44,32] (x.turns.map Lib.itoa))++(tolT x.tol++(lineT kRing (outlineT x.outer)++(x.holes.flatMap (fun o=>lineT kHole (outlineT o))++[125,10])))))))))
def printT (l:List Source):List UInt8:=l.flatMap sourceT

/-! ### The keys of what is printed -/
def pointK (v:V):List K:=[kM kOpen,kI v.1,kM kComma,kI v.2,kM kShut]
def stepK (s:Step):List K:=(if s.arc=true then kN kArc::(pointK s.to++(kN kAround::pointK s.center)) else pointK s.to)++(if s.cw=true then [kN kClock] else [])
def outlineK (o:Outline):List K:=if o.circle=true then kN kCircle::(pointK o.center++[kN kRadius,kI o.radius]) else o.steps.flatMap stepK
def grainK (g:Int):List K:=if g=1 then [kN kGrain,kN kX,kM kSemi] else if g=2 then [kN kGrain,kN kY,kM kSemi] else []
def tolK (t:Int):List K:=if t=1 then [] else [kN kTol,kI t,kM kSemi]
def turnsK:List Int→List K
 | []=>[]
 | [a]=>[kI a]
 | a::b::r=>kI a::kM kComma::turnsK (b::r)
def sourceK (x:Source):List K :=
 kN kPart::kN x.name::kM kBegin::kN kGrade::kN x.grade::kM kSemi::(grainK x.grain++(kN kTurns::(turnsK x.turns++(kM kSemi::(tolK x.tol++(kN kRing::(outlineK x.outer++(kM kSemi::(x.holes.flatMap (fun o=>kN kHole::(outlineK o++[kM kSemi]))++[kM kEnd])))))))))

/-! ### Which sources are valid -/
def stepOk (first:Bool) (s:Step):Bool:=within s.to 2000&&(within s.center 2000&&((s.arc || (decide (s.center=(0,0)) && !s.cw)) && !(first&&s.arc)))
def stepsOk:List Step→Bool
 | []=>true
 | s::r=>stepOk true s&&r.all (stepOk false)
def outlineOk (o:Outline):Bool :=
 if o.circle=true then within o.center 2000&&(decide (1≤o.radius)&&(decide (o.radius≤2000)&&decide (o.steps.length=0)))
 else stepsOk o.steps&&(decide (o.center=(0,0))&&(decide (o.radius=0)&&(decide (1≤o.steps.length)&&decide (o.steps.length≤40))))
def turnsOk:List Int→Bool
 | []=>false
 | [a]=>decide (0≤a)&&decide (a≤7)
 | a::b::r=>decide (0≤a)&&(decide (a≤7)&&(decide (a < b)&&turnsOk (b::r)))
def namedOk (name grade:List UInt8) (g:Int) (ts:List Int):Bool:=isName name&&(isName grade&&(decide (0≤g)&&(decide (g≤2)&&turnsOk ts)))
def sourceOk (x:Source):Bool:=namedOk x.name x.grade x.grain x.turns&&(decide (1≤x.tol)&&(decide (x.tol≤50)&&(outlineOk x.outer&&(decide (x.holes.length≤6)&&x.holes.all outlineOk))))
def sourcesOk (l:List Source):Bool:=l.all sourceOk&&decide (l.length≤20)

/-! ### The text's keys -/
theorem w_num {v:Int} (h : -2000≤v∧v≤2000) : -999999999≤v∧v≤999999999:=by omega
theorem within_parts {v:V} (h:within v 2000=true):(-2000≤v.1∧v.1≤2000)∧(-2000≤v.2∧v.2≤2000):=by
 unfold within at h
 simp only [Bool.and_eq_true,decide_eq_true_eq] at h
 omega
theorem lx_point {v:V} (hv:within v 2000=true) {s:List UInt8} {ks:List K} (h:Lx s ks):Lx (pointT v++s) (pointK v++ks):=by
 obtain ⟨h1,h2⟩:=within_parts hv
 unfold pointT pointK
 simp only [List.cons_append,List.append_assoc,List.nil_append]
 exact lx_open (lx_num (w_num h1) (stop_of (by decide)) (lx_comma (lx_sp (lx_num (w_num h2) (stop_of (by decide)) (lx_shut h)))))
theorem name_arc:isName kArc=true:=by decide
theorem name_around:isName kAround=true:=by decide
theorem name_clock:isName kClock=true:=by decide
theorem name_circle:isName kCircle=true:=by decide
theorem name_radius:isName kRadius=true:=by decide
theorem lx_step {b:Bool} {x:Step} (hx:stepOk b x=true) {s:List UInt8} {ks:List K} (hs:stop s=true) (h:Lx s ks):Lx (stepT x++s) (stepK x++ks):=by
 unfold stepOk at hx
 simp only [Bool.and_eq_true] at hx
 obtain ⟨h1,h2,h3,_⟩:=hx
 have htail:∀ (u:List UInt8) (us:List K),Lx (u++s) (us++ks)→True:=fun _ _ _=>trivial
 have hend:Lx ((if x.cw=true then 32::kClock else [])++s) ((if x.cw=true then [kN kClock] else [])++ks):=by
  cases x.cw
  ·simpa using h
  ·simp only [if_true,List.cons_append,List.nil_append]
   exact lx_sp (lx_name name_clock hs h)
 have hst:stop ((if x.cw=true then 32::kClock else [])++s)=true:=by
  cases x.cw
  ·simpa using hs
  ·exact stop_of (by decide)
 unfold stepT stepK
 clear htail
 generalize (if x.cw=true then 32::kClock else [])=E at *
 generalize (if x.cw=true then [kN kClock] else [])=EK at *
 cases x.arc
 ·simp only [Bool.false_eq_true,if_false,List.append_assoc]
  exact lx_point h1 hend
 ·simp only [if_true,List.cons_append,List.append_assoc]
  exact lx_name name_arc (stop_of (by decide)) (lx_sp (lx_point h1 (lx_sp (lx_name name_around (stop_of (by decide)) (lx_sp (lx_point h2 hend))))))
theorem joinB_cons (sep a:List UInt8) (l:List (List UInt8)) (h:l≠[]):joinB sep (a::l)=a++(sep++joinB sep l):=by
 cases l with
 | nil=>exact absurd rfl h
 | cons b r=>rfl
theorem lx_steps:∀ (l:List Step),(∀ x∈l,∃ b,stepOk b x=true)→∀ {s:List UInt8} {ks:List K},stop s=true→Lx s ks→Lx (joinB [32] (l.map stepT)++s) (l.flatMap stepK++ks)
 | [],_,s,ks,_,h=>by simpa [joinB] using h
 | [a],ha,s,ks,hs,h=>by
  obtain ⟨b,hb⟩:=ha a (by simp)
  simpa [joinB] using lx_step hb hs h
 | a::b::r,ha,s,ks,hs,h=>by
  obtain ⟨q,hq⟩:=ha a (by simp)
  have ih:=lx_steps (b::r) (fun x hx=>ha x (by simp [hx])) hs h
  rw [List.map_cons,joinB_cons _ _ _ (by simp),List.flatMap_cons,List.append_assoc,List.append_assoc,List.append_assoc]
  exact lx_step hq (stop_of (by decide)) (lx_sp ih)
theorem outline_steps {o:Outline} (ho:outlineOk o=true) (hc:o.circle=false):∀ x∈o.steps,∃ b,stepOk b x=true:=by
 unfold outlineOk at ho
 rw [hc,if_neg (by decide)] at ho
 simp only [Bool.and_eq_true] at ho
 have h1:=ho.1
 cases hl:o.steps with
 | nil=>simp
 | cons a r =>
  rw [hl] at h1
  unfold stepsOk at h1
  simp only [Bool.and_eq_true,List.all_eq_true] at h1
  intro x hx
  rcases List.mem_cons.1 hx with rfl | hx
  ·exact ⟨_,h1.1⟩
  ·exact ⟨_,h1.2 x hx⟩
theorem lx_outline {o:Outline} (ho:outlineOk o=true) {s:List UInt8} {ks:List K} (hs:stop s=true) (h:Lx s ks):Lx (outlineT o++s) (outlineK o++ks):=by
 cases hc:o.circle
 ·have hp:=outline_steps ho hc
  unfold outlineT outlineK
  rw [hc,if_neg (by decide),if_neg (by decide)]
  exact lx_steps _ hp hs h
 ·unfold outlineOk at ho
  rw [hc,if_pos rfl] at ho
  simp only [Bool.and_eq_true,decide_eq_true_eq] at ho
  obtain ⟨h1,h2,h3,_⟩:=ho
  unfold outlineT outlineK
  rw [hc,if_pos rfl,if_pos rfl]
  simp only [List.cons_append,List.append_assoc,List.nil_append]
  exact lx_name name_circle (stop_of (by decide)) (lx_sp (lx_point h1 (lx_sp (lx_name name_radius (stop_of (by decide)) (lx_sp (lx_num (by omega) hs h))))))
/-- A line: a word, a blank, what follows, a semicolon. -/
theorem lx_line {w t:List UInt8} {us ks:List K} {s:List UInt8} (hw:isName w=true) (ht:∀ {r:List UInt8} {rs:List K},stop r=true→Lx r rs→Lx (t++r) (us++rs)) (h:Lx s ks):Lx (lineT w t++s) (kN w::(us++(kM kSemi::ks))):=by
 unfold lineT
 simp only [List.cons_append,List.append_assoc,List.nil_append]
 exact lx_tab (lx_name hw (stop_of (by decide)) (lx_sp (ht (stop_of (by decide)) (lx_semi (lx_feed h)))))
theorem lx_turns:∀ (l:List Int),turnsOk l=true→∀ {s:List UInt8} {ks:List K},stop s=true→Lx s ks→Lx (joinB [44,32] (l.map Lib.itoa)++s) (turnsK l++ks)
 | [],h,_,_,_,_=>by cases h
 | [a],h,s,ks,hs,hx=>by
  unfold turnsOk at h
  simp only [Bool.and_eq_true,decide_eq_true_eq] at h
  simpa [joinB,turnsK] using lx_num (n:=a) (by omega) hs hx
 | a::b::r,h,s,ks,hs,hx=>by
  unfold turnsOk at h
  simp only [Bool.and_eq_true,decide_eq_true_eq] at h
  have ih:=lx_turns (b::r) h.2.2.2 hs hx
  rw [List.map_cons,joinB_cons _ _ _ (by simp),turnsK,List.append_assoc,List.append_assoc]
  exact lx_num (n:=a) (by omega) (stop_of (by decide)) (lx_comma (lx_sp ih))
theorem lx_grain (g:Int) {s:List UInt8} {ks:List K} (h:Lx s ks):Lx (grainT g++s) (grainK g++ks):=by
 unfold grainT grainK
 split
 ·exact lx_line (us:=[kN kX]) (by decide) (fun hs h=>lx_name (by decide) hs h) h
 ·split
  ·exact lx_line (us:=[kN kY]) (by decide) (fun hs h=>lx_name (by decide) hs h) h
  ·exact h
theorem lx_tol {t:Int} (ht:1≤t∧t≤50) {s:List UInt8} {ks:List K} (h:Lx s ks):Lx (tolT t++s) (tolK t++ks):=by
 unfold tolT tolK
 split
 ·exact h
 ·exact lx_line (us:=[kI t]) (by decide) (fun hs h=>lx_num (by omega) hs h) h
theorem lx_holes:∀ (l:List Outline),l.all outlineOk=true→∀ {s:List UInt8} {ks:List K},Lx s ks→Lx (l.flatMap (fun o=>lineT kHole (outlineT o))++s) (l.flatMap (fun o=>kN kHole::(outlineK o++[kM kSemi]))++ks)
 | [],_,_,_,h=>h
 | o::r,hl,s,ks,h=>by
  rw [List.all_cons,Bool.and_eq_true] at hl
  rw [List.flatMap_cons,List.flatMap_cons,List.append_assoc,List.append_assoc]
  have:=lx_line (w:=kHole) (t:=outlineT o) (us:=outlineK o) (by decide) (fun hs h=>lx_outline hl.1 hs h) (lx_holes r hl.2 h)
  simpa using this
theorem lx_source {x:Source} (hx:sourceOk x=true) {s:List UInt8} {ks:List K} (h:Lx s ks):Lx (sourceT x++s) (sourceK x++ks):=by
 unfold sourceOk namedOk at hx
 simp only [Bool.and_eq_true,decide_eq_true_eq] at hx
 obtain ⟨⟨h1,h2,h3,h4,h5⟩,h6,h7,h8,h9,h10⟩:=hx
 unfold sourceT sourceK
 simp only [List.cons_append,List.append_assoc,List.nil_append]
 refine lx_name (by decide) (stop_of (by decide)) (lx_sp (lx_name h1 (stop_of (by decide)) (lx_sp (lx_begin (lx_feed ?_)))))
 refine lx_line (us:=[kN x.grade]) (by decide) (fun hs h=>lx_name h2 hs h) (lx_grain _ ?_)
 refine lx_line (by decide) (fun hs h=>lx_turns _ h5 hs h) (lx_tol ⟨h6,h7⟩ ?_)
 exact lx_line (by decide) (fun hs h=>lx_outline h8 hs h) (lx_holes _ (by simpa using h10) (lx_end (lx_feed h)))
theorem lx_print:∀ (l:List Source),l.all sourceOk=true→Lx (printT l) (l.flatMap sourceK)
 | [],_=>lx_nil
 | x::r,h=>by
  rw [List.all_cons,Bool.and_eq_true] at h
  exact lx_source h.1 (lx_print r h.2)
end Go.Proofs.YtnkkcknogkgdkaaGreatDoor.Pa

namespace Go.Proofs.YtnkkcknogkgdkaaGreatDoor.Pa
open Go
open Go.Proofs.YtnkkcknogkgdkaaGreatDoor.Ge (V within)
open Go.Proofs.YtnkkcknogkgdkaaGreatDoor.Lex (Tok key lex isName)
/-- The next token is this word or mark. -/
def headIs (s:List UInt8) (ks:List K):Bool:=match ks with
 | k::_=>decide (k.1≠2)&&decide (k.2.1=s)
 | []=>false
theorem drop_get {L:List Tok} {i:Nat} {k:K} {p:List K} (h:(L.map key).drop i=k::p):∃ t,L[i]? = some t∧key t=k∧(L.map key).drop (i+1)=p∧i < L.length:=by
 have hi:i < L.length:=by
  rcases Nat.lt_or_ge i L.length with h1 | h1
  ·exact h1
  ·rw [List.drop_of_length_le (by simpa using h1)] at h
   cases h
 rw [List.drop_eq_getElem_cons (by simpa using hi),List.getElem_map] at h
 obtain ⟨h1,h2⟩:=List.cons.inj h
 exact ⟨L[i],by simp [hi],h1,h2,hi⟩
theorem drop_end {L:List Tok} {i:Nat} (h:(L.map key).drop i=[]):L[i]? = none:=by
 have:=List.drop_eq_nil_iff.1 h
 exact List.getElem?_eq_none (by simpa using this)
theorem isT_head {L:List Tok} {i:Nat} {p:List K} (h:(L.map key).drop i=p) (s:List UInt8):isT L s i=headIs s p:=by
 unfold isT
 cases p with
 | nil=>rw [drop_end h];rfl
 | cons k p =>
  obtain ⟨t,ht,hk,_,_⟩:=drop_get h
  rw [ht,← hk]
  rfl
/-- F passes the tokens ks and answers a, if none of the words bad follows. -/
def Eats {α} (F:Op α) (ks:List K) (a:α) (bad:List (List UInt8)):Prop:=∀ (L:List Tok) (i:Nat) (p:List K),(L.map key).drop i=ks++p→(∀ s∈bad,headIs s p=false)→F L i=.ok a (i+ks.length)
/-- What comes next shuts these words out. -/
def Shuts (ks:List K) (b1 b2:List (List UInt8)):Prop:=∀ p,(∀ s∈b2,headIs s p=false)→∀ s∈b1,headIs s (ks++p)=false
theorem Eats.bnd {α β} {F:Op α} {G:α→Op β} {k1 k2:List K} {a:α} {b:β} {b1 b2:List (List UInt8)} (h1:Eats F k1 a b1) (h2:Eats (G a) k2 b b2) (hs:Shuts k2 b1 b2):Eats (bnd F G) (k1++k2) b b2:=fun L i p h hb=>by
 rw [List.append_assoc] at h
 unfold Pa.bnd
 rw [h1 L i (k2++p) h (hs p hb)]
 have hd:(L.map key).drop (i+k1.length)=k2++p:=by rw [← List.drop_drop,h,List.drop_left]
 show G a L (i+k1.length)=_
 rw [h2 L _ p hd hb,List.length_append,Nat.add_assoc]
theorem shuts_nil (ks:List K) (b2):Shuts ks [] b2:=fun _ _ _ h=>by cases h
theorem eats_ret {α} (a:α):Eats (ret a) [] a []:=fun _ _ _ _ _=>rfl
theorem Eats.map {α β} {F:Op α} {ks:List K} {a:α} {bad} (h:Eats F ks a bad) (g:α→β):Eats (Pa.bnd F fun x=>ret (g x)) ks (g a) bad:=fun L i p hd hb=>by
 unfold Pa.bnd ret
 rw [h L i p hd hb]
theorem eats_need {s:List UInt8} {k:K} (hk:k.1≠2∧k.2.1=s):Eats (need s) [k] () []:=fun L i p h _=>by
 unfold need
 rw [isT_head h,if_pos (by simp [headIs,hk.1,hk.2])]
 rfl
theorem eats_name (w:List UInt8):Eats nameO [kN w] w []:=fun L i p h _=>by
 obtain ⟨t,ht,hk,_,_⟩:=drop_get h
 have e1:t.kind=1:=congrArg (·.1) hk
 have e2:t.text=w:=congrArg (·.2.1) hk
 unfold nameO
 rw [ht]
 simp only [e1,e2,if_true]
 rfl
theorem eats_num {lo hi n:Int} (h1:lo≤n) (h2:n≤hi):Eats (numO lo hi) [kI n] n []:=fun L i p h _=>by
 obtain ⟨t,ht,hk,_,_⟩:=drop_get h
 have e1:t.kind=2:=congrArg (·.1) hk
 have e2:t.n=n:=congrArg (·.2.2) hk
 unfold numO
 rw [ht]
 simp only [e1,e2,if_true]
 rw [if_neg (by omega)]
 rfl
theorem eats_yes {s:List UInt8} {k:K} (hk:k.1≠2∧k.2.1=s):Eats (optO s) [k] true []:=fun L i p h _=>by
 unfold optO
 rw [isT_head h,if_pos (by simp [headIs,hk.1,hk.2])]
 rfl
theorem eats_not (s:List UInt8):Eats (optO s) [] false [s]:=fun L i p h hb=>by
 unfold optO
 rw [isT_head (p:=p) h,if_neg (by rw [hb s (by simp)];simp)]
 rfl
/-- A first operation that passes one token. -/
theorem Eats.then {α β} {F:Op α} {G:α→Op β} {k:K} {ks:List K} {a:α} {b:β} {bad} (h1:Eats F [k] a []) (h2:Eats (G a) ks b bad):Eats (Pa.bnd F G) (k::ks) b bad:=h1.bnd h2 (shuts_nil _ _)
/-- A first operation that passes none. -/
theorem Eats.none {α β} {F:Op α} {G:α→Op β} {ks:List K} {a:α} {b:β} {b1 bad} (h1:Eats F [] a b1) (h2:Eats (G a) ks b bad) (hs:Shuts ks b1 bad):Eats (Pa.bnd F G) ks b bad:=h1.bnd h2 hs
theorem mk {c:UInt8} {s:List UInt8} (h:s=[c]):(kM s).1≠2∧(kM s).2.1=s:=by subst h;exact ⟨by simp [kM],rfl⟩
theorem mk2 (s:List UInt8):(kM s).1≠2∧(kM s).2.1=s:=⟨by simp [kM],rfl⟩
theorem nk (s:List UInt8):(kN s).1≠2∧(kN s).2.1=s:=⟨by simp [kN],rfl⟩
theorem Eats.more {α} {F:Op α} {ks:List K} {a:α} {b1 b2:List (List UInt8)} (h:Eats F ks a b1) (hb:∀ s∈b1,s∈b2):Eats F ks a b2:=fun L i p hd hx=>h L i p hd fun s hs=>hx s (hb s hs)

/-! ### The reader -/
theorem eats_point {v:V} (hv:within v 2000=true):Eats pointO (pointK v) v []:=by
 obtain ⟨⟨h1,h2⟩,h3,h4⟩:=within_parts hv
 unfold pointO pointK
 exact (eats_need (mk2 _)).then ((eats_num h1 h2).then ((eats_need (mk2 _)).then ((eats_num h3 h4).then ((eats_need (mk2 _)).map fun _=>v))))
theorem shuts_of {k:K} {ks:List K} {s:List UInt8} {b2} (h:(decide (k.1≠2)&&decide (k.2.1=s))=false):Shuts (k::ks) [s] b2:=fun p _ t ht=>by
 obtain rfl:t=s:=by simpa using ht
 exact h
theorem point_head (v:V):∃ r,pointK v=kM kOpen::r:=⟨_,rfl⟩
theorem step_head (s:Step):∃ r,stepK s=kM kOpen::r∨stepK s=kN kArc::r:=by
 unfold stepK
 cases s.arc
 ·exact ⟨_,.inl rfl⟩
 ·exact ⟨_,.inr rfl⟩
theorem eats_step {b:Bool} {s:Step} (h:stepOk b s=true):Eats stepO (stepK s) s [kClock]:=by
 unfold stepOk at h
 simp only [Bool.and_eq_true,Bool.or_eq_true,decide_eq_true_eq] at h
 obtain ⟨h1,h2,h3,_⟩:=h
 obtain ⟨ar,t0,ce,cw⟩:=s
 simp only at h1 h2 h3
 unfold stepO stepK
 cases ar
 ·obtain ⟨rfl,hcw⟩:ce=(0,0)∧cw=false:=by simpa using h3
  subst hcw
  simp only [Bool.false_eq_true,if_false,List.append_nil]
  have hl:Eats lineO (pointK t0) ⟨false,t0,(0,0),false⟩ []:=by
   unfold lineO
   exact (eats_point h1).map fun t=>(⟨false,t,(0,0),false⟩:Step)
  refine ((eats_not kArc).none (G:=fun b=>if b=true then arcO else lineO) hl ?_).more (by simp)
  obtain ⟨r,hr⟩:=point_head t0
  rw [hr]
  exact shuts_of (by decide)
 ·simp only [if_true,List.cons_append,List.append_assoc]
  refine (eats_yes (nk kArc)).then (G:=fun b=>if b=true then arcO else lineO) ?_
  show Eats arcO _ _ _
  unfold arcO
  refine (eats_point h1).bnd ?_ (shuts_nil _ _)
  refine (eats_need (nk kAround)).then ?_
  refine (eats_point h2).bnd ?_ (shuts_nil _ _)
  cases cw
  ·simp only [Bool.false_eq_true,if_false]
   exact (eats_not kClock).map fun b=>(⟨true,t0,ce,b⟩:Step)
  ·simp only [if_true]
   exact ((eats_yes (nk kClock)).map fun b=>(⟨true,t0,ce,b⟩:Step)).more (by simp)
theorem shuts_steps (l:List Step) (b2):Shuts (l.flatMap stepK++[kM kSemi]) [kClock] b2:=by
 cases l with
 | nil=>exact shuts_of (by decide)
 | cons a r =>
  obtain ⟨q,h | h⟩:=step_head a
  ·rw [List.flatMap_cons,h];exact shuts_of (by decide)
  ·rw [List.flatMap_cons,h];exact shuts_of (by decide)
theorem eats_steps:∀ (l:List Step),(∀ x∈l,∃ b,stepOk b x=true)→∀ (f:Nat) (acc:List Step),l.length < f→Eats (stepsO f acc) (l.flatMap stepK++[kM kSemi]) (acc++l) []
 | [],_,f+1,acc,_=>by
  rw [List.append_nil]
  unfold stepsO
  exact (eats_yes (mk2 kSemi)).then (G:=fun b=>if b=true then ret acc else _) (eats_ret acc)
 | a::r,ha,f+1,acc,hf=>by
  obtain ⟨b,hb⟩:=ha a (by simp)
  have ih:=eats_steps r (fun x hx=>ha x (by simp [hx])) f (acc++[a]) (by simpa using hf)
  rw [List.append_assoc] at ih
  unfold stepsO
  rw [List.flatMap_cons,List.append_assoc]
  refine (eats_not kSemi).none (G:=fun b=>if b=true then ret acc else Pa.bnd stepO fun s=>stepsO f (acc++[s])) ?_ ?_
  ·show Eats (Pa.bnd stepO fun s=>stepsO f (acc++[s])) _ _ _
   exact (eats_step hb).bnd ih (shuts_steps r _)
  ·obtain ⟨q,h | h⟩:=step_head a
   ·rw [h];exact shuts_of (by decide)
   ·rw [h];exact shuts_of (by decide)
theorem eats_outline {o:Outline} (ho:outlineOk o=true):Eats outlineO (outlineK o++[kM kSemi]) o []:=by
 have ho2:=ho
 unfold outlineOk at ho2
 obtain ⟨ci,ce,ra,st⟩:=o
 cases ci
 ·have hp:=outline_steps ho rfl
  simp only [Bool.false_eq_true,if_false,Bool.and_eq_true,decide_eq_true_eq] at ho2 hp
  obtain ⟨h1,rfl,rfl,h4,h5⟩:=ho2
  unfold outlineO outlineK
  simp only [Bool.false_eq_true,if_false]
  cases st with
  | nil=>simp at h4
  | cons a r =>
   unfold stepsOk at h1
   simp only [Bool.and_eq_true] at h1
   have ha:=h1.1
   unfold stepOk at ha
   simp only [Bool.and_eq_true,Bool.or_eq_true,decide_eq_true_eq,Bool.not_eq_true',Bool.and_eq_false_imp] at ha
   obtain ⟨p1,p2,p3,p4⟩:=ha
   obtain ⟨ar,t0,ca,cw⟩:=a
   simp only at p1 p2 p3 p4
   have har:ar=false:=p4 trivial
   subst har
   obtain ⟨rfl,hcw⟩:ca=(0,0)∧cw=false:=by simpa using p3
   subst hcw
   have hsk:stepK ⟨false,t0,(0,0),false⟩=pointK t0:=by simp [stepK]
   rw [List.flatMap_cons,hsk,List.append_assoc]
   refine (eats_not kCircle).none (G:=fun b=>if b=true then circleO else pathO) ?_ ?_
   ·show Eats pathO _ _ _
    unfold pathO
    refine (eats_point p1).bnd ?_ (shuts_nil _ _)
    have:=eats_steps r (fun x hx=>hp x (by simp [hx])) big [⟨false,t0,(0,0),false⟩] (by simp at h5;unfold big;omega)
    exact this.map fun l=>(⟨false,(0,0),0,l⟩:Outline)
   ·obtain ⟨q,hq⟩:=point_head t0
    rw [hq]
    exact shuts_of (by decide)
 ·simp only [if_true,Bool.and_eq_true,decide_eq_true_eq] at ho2
  obtain ⟨h1,h2,h3,h4⟩:=ho2
  obtain rfl:st=[]:=List.eq_nil_of_length_eq_zero h4
  unfold outlineO outlineK
  simp only [if_true,List.cons_append,List.append_assoc,List.nil_append]
  refine (eats_yes (nk kCircle)).then (G:=fun b=>if b=true then circleO else pathO) ?_
  show Eats circleO _ _ _
  unfold circleO
  exact (eats_point h1).bnd ((eats_need (nk kRadius)).then ((eats_num h2 h3).then ((eats_need (mk2 kSemi)).map fun _=>(⟨true,ce,ra,[]⟩:Outline)))) (shuts_nil _ _)
theorem eats_grain {g:Int} (h:0≤g∧g≤2):Eats grainO (grainK g) g [kGrain]:=by
 unfold grainO grainK
 by_cases h1:g=1
 ·subst h1
  rw [if_pos rfl]
  exact ((eats_yes (nk kGrain)).then ((eats_yes (nk kX)).then ((eats_need (mk2 kSemi)).map fun _=>(1:Int)))).more (by simp)
 ·rw [if_neg h1]
  by_cases h2:g=2
  ·subst h2
   rw [if_pos rfl]
   refine Eats.more (b1:=[]) ((eats_yes (nk kGrain)).then ?_) (by simp)
   refine Eats.none (a:=false) (eats_not kX) ?_ (shuts_of (by decide))
   exact (eats_yes (nk kY)).then ((eats_need (mk2 kSemi)).map fun _=>(2:Int))
  ·rw [if_neg h2]
   obtain rfl:g=0:=by omega
   exact Eats.none (a:=false) (G:=fun g=>if g=true then _ else ret 0) (eats_not kGrain) ((eats_ret (0:Int)).more (by simp)) (fun p hp=>hp)
theorem eats_tol {t:Int} (h:1≤t∧t≤50):Eats tolO (tolK t) t [kTol]:=by
 unfold tolO tolK
 by_cases h1:t=1
 ·subst h1
  rw [if_pos rfl]
  exact Eats.none (a:=false) (G:=fun g=>if g=true then _ else ret 1) (eats_not kTol) ((eats_ret (1:Int)).more (by simp)) (fun p hp=>hp)
 ·rw [if_neg h1]
  exact ((eats_yes (nk kTol)).then ((eats_num h.1 h.2).then ((eats_need (mk2 kSemi)).map fun _=>t))).more (by simp)
theorem turnsK_cons (a:Int) (l:List Int):turnsK (a::l)=kI a::l.flatMap fun n=>[kM kComma,kI n]:=by
 induction l generalizing a with
 | nil=>rfl
 | cons b r ih=>rw [turnsK,ih];rfl
theorem eats_turns:∀ (l:List Int) (q:Int) (acc:List Int) (f:Nat),turnsOk (q::l)=true→acc.getLastD 0=q→l.length < f→Eats (turnsO f acc) (l.flatMap fun n=>[kM kComma,kI n]) (acc++l) [kComma]
 | [],q,acc,f+1,_,_,_=>by
  rw [List.append_nil]
  unfold turnsO
  exact Eats.none (a:=false) (G:=fun b=>if b=true then _ else ret acc) (eats_not kComma) (eats_ret acc |>.more (by simp)) (fun p hp=>hp)
 | b::r,q,acc,f+1,h,hq,hf=>by
  unfold turnsOk at h
  simp only [Bool.and_eq_true,decide_eq_true_eq] at h
  obtain ⟨h1,h2,h3,h4⟩:=h
  have hb7:b≤7:=by
   unfold turnsOk at h4
   split at h4<;>simp_all
  have ih:=eats_turns r b (acc++[b]) f h4 (by simp) (by simpa using hf)
  rw [List.append_assoc] at ih
  unfold turnsO
  rw [List.flatMap_cons]
  refine (eats_yes (mk2 kComma)).then (G:=fun b=>if b=true then Pa.bnd (numO (acc.getLastD 0+1) 7) fun n=>turnsO f (acc++[n]) else ret acc) ?_
  show Eats (Pa.bnd (numO (acc.getLastD 0+1) 7) fun n=>turnsO f (acc++[n])) _ _ _
  exact (eats_num (by rw [hq];omega) hb7).then ih
theorem eats_holes:∀ (l:List Outline),l.all outlineOk=true→∀ (f:Nat) (acc:List Outline),l.length < f→Eats (holesO f acc) (l.flatMap fun o=>kN kHole::(outlineK o++[kM kSemi])) (acc++l) [kHole]
 | [],_,f+1,acc,_=>by
  rw [List.append_nil]
  unfold holesO
  exact Eats.none (a:=false) (G:=fun b=>if b=true then _ else ret acc) (eats_not kHole) (eats_ret acc |>.more (by simp)) (fun p hp=>hp)
 | o::r,h,f+1,acc,hf=>by
  rw [List.all_cons,Bool.and_eq_true] at h
  have ih:=eats_holes r h.2 f (acc++[o]) (by simpa using hf)
  rw [List.append_assoc] at ih
  unfold holesO
  rw [List.flatMap_cons]
  refine (eats_yes (nk kHole)).then (G:=fun b=>if b=true then Pa.bnd outlineO fun o=>holesO f (acc++[o]) else ret acc) ?_
  show Eats (Pa.bnd outlineO fun o=>holesO f (acc++[o])) _ _ _
  exact (eats_outline h.1).bnd ih (shuts_nil _ _)
theorem turns_len {l:List Int} (h:turnsOk l=true):∀ a∈l,0≤a∧a≤7:=by
 induction l with
 | nil=>cases h
 | cons a r ih =>
  cases r with
  | nil =>
   unfold turnsOk at h
   simp only [Bool.and_eq_true,decide_eq_true_eq] at h
   simpa using h
  | cons b r =>
   unfold turnsOk at h
   simp only [Bool.and_eq_true,decide_eq_true_eq] at h
   intro x hx
   rcases List.mem_cons.1 hx with rfl | hx
   ·exact ⟨h.1,h.2.1⟩
   ·exact ih h.2.2.2 x hx
theorem turns_room:∀ (l:List Int) (a:Int),turnsOk (a::l)=true→(l.length:Int)+a≤7
 | [],a,h=>by
  unfold turnsOk at h
  simp only [Bool.and_eq_true,decide_eq_true_eq] at h
  simpa using h.2
 | b::r,a,h=>by
  unfold turnsOk at h
  simp only [Bool.and_eq_true,decide_eq_true_eq] at h
  have:=turns_room r b h.2.2.2
  rw [List.length_cons]
  omega
theorem eats_source {x:Source} (hx:sourceOk x=true):Eats sourceO (sourceK x) x []:=by
 unfold sourceOk namedOk at hx
 simp only [Bool.and_eq_true,decide_eq_true_eq] at hx
 obtain ⟨⟨h1,h2,h3,h4,h5⟩,h6,h7,h8,h9,h10⟩:=hx
 obtain ⟨nm,gr,g,ts,tol,o,hs⟩:=x
 simp only at h1 h2 h3 h4 h5 h6 h7 h8 h9 h10
 cases ts with
 | nil=>cases h5
 | cons q tl =>
 have hq:=turns_len h5 q (by simp)
 have hroom:=turns_room tl q h5
 unfold sourceO sourceK
 simp only
 rw [turnsK_cons]
 refine (eats_need (nk kPart)).then ((eats_name nm).then ((eats_need (mk2 kBegin)).then ((eats_need (nk kGrade)).then ((eats_name gr).then ((eats_need (mk2 kSemi)).then ?_)))))
 refine (eats_grain ⟨h3,h4⟩).bnd ?_ (shuts_of (by decide))
 refine (eats_need (nk kTurns)).then ?_
 rw [List.cons_append]
 refine (eats_num hq.1 hq.2).then ?_
 refine (eats_turns tl q [q] big h5 rfl (by unfold big;omega)).bnd ?_ (shuts_of (by decide))
 refine (eats_need (mk2 kSemi)).then ?_
 refine (eats_tol ⟨h6,h7⟩).bnd ?_ (shuts_of (by decide))
 refine (eats_need (nk kRing)).then ?_
 rw [show ∀ r:List K,outlineK o++kM kSemi::r=(outlineK o++[kM kSemi])++r from fun r=>by simp]
 refine (eats_outline h8).bnd ?_ (shuts_nil _ _)
 refine (eats_holes hs h10 big [] (by unfold big;omega)).bnd ?_ (shuts_of (by decide))
 exact (eats_need (mk2 kEnd)).map fun _=>_
theorem sourceK_ne (x:Source):∃ r,sourceK x=kN kPart::r:=⟨_,rfl⟩
theorem read_parts:∀ (l:List Source),l.all sourceOk=true→∀ (f:Nat) (acc:List Source) (L:List Tok) (i:Nat),l.length < f→(L.map key).drop i=l.flatMap sourceK→partsO f acc L i=.ok (acc++l) L.length∨(i ≥ L.length∧partsO f acc L i=.ok (acc++l) i)
 | [],_,f+1,acc,L,i,_,hd=>by
  have:L.length≤i:=by have:=List.drop_eq_nil_iff.1 hd;simpa using this
  right
  unfold partsO
  rw [if_neg (by omega),List.append_nil]
  exact ⟨this,rfl⟩
 | x::r,h,f+1,acc,L,i,hf,hd=>by
  rw [List.all_cons,Bool.and_eq_true] at h
  rw [List.flatMap_cons] at hd
  obtain ⟨q,hq⟩:=sourceK_ne x
  have hi:i < L.length:=by
   rw [hq] at hd
   obtain ⟨_,_,_,_,hi⟩:=drop_get hd
   exact hi
  have hd2:(L.map key).drop (i+(sourceK x).length)=r.flatMap sourceK:=by rw [← List.drop_drop,hd,List.drop_left]
  have ih:=read_parts r h.2 f (acc++[x]) L (i+(sourceK x).length) (by simpa using hf) hd2
  rw [List.append_assoc] at ih
  have e:partsO (f+1) acc L i=partsO f (acc++[x]) L (i+(sourceK x).length):=by
   rw [partsO]
   show (if i < L.length then Pa.bnd sourceO (fun x=>partsO f (acc++[x])) L i else R.ok acc i)=_
   rw [if_pos hi]
   unfold Pa.bnd
   rw [eats_source h.1 L i _ hd (by simp)]
  rw [e]
  rcases ih with ih | ⟨h3,ih⟩
  ·exact .inl ih
  ·left
   rw [ih]
   have hle:i+(sourceK x).length≤L.length:=by
    have:=congrArg List.length hd
    rw [List.length_drop,List.length_map,List.length_append] at this
    omega
   rw [show i+(sourceK x).length=L.length by omega]
   rfl
theorem long_no {o:Outline} (h:outlineOk o=true):long o=false:=by
 unfold outlineOk at h
 unfold long
 split at h
 ·simp only [Bool.and_eq_true,decide_eq_true_eq] at h
  simp;omega
 ·simp only [Bool.and_eq_true,decide_eq_true_eq] at h
  simp;omega
theorem few_no {l:List Source} (h:sourcesOk l=true):tooMany l=false:=by
 unfold sourcesOk at h
 simp only [Bool.and_eq_true,decide_eq_true_eq,List.all_eq_true] at h
 unfold tooMany
 rw [Bool.or_eq_false_iff]
 refine ⟨by simp;omega,?_⟩
 rw [List.any_eq_false]
 intro x hx
 have h1:=h.1 x hx
 unfold sourceOk at h1
 simp only [Bool.and_eq_true,decide_eq_true_eq,List.all_eq_true] at h1
 rw [long_no h1.2.2.2.1]
 have h2:x.holes.any long=false:=by
  rw [List.any_eq_false]
  intro o ho
  rw [long_no (h1.2.2.2.2.2 o ho)]
  simp
 rw [h2]
 simp
 omega
/-- A text whose tokens have the keys of valid sources is read as these. -/
theorem parse_keys {s:List UInt8} {l:List Source} (hs:s.length≤20000) (h:sourcesOk l=true) (he:(lex s 0).err=0) (hk:(lex s 0).toks.map key=l.flatMap sourceK):parse s=(l,0,0):=by
 have h1:l.all sourceOk=true:=by unfold sourcesOk at h;rw [Bool.and_eq_true] at h;exact h.1
 have h2:l.length≤20:=by unfold sourcesOk at h;rw [Bool.and_eq_true,decide_eq_true_eq] at h;exact h.2
 rw [parse_ok hs he]
 have:=read_parts l h1 big [] (lex s 0).toks 0 (by unfold big;omega) (by rw [List.drop_zero];exact hk)
 rw [List.nil_append] at this
 rcases this with e | ⟨_,e⟩<;>rw [e]<;>simp only [few_no h]<;>rfl
/-- A printed text of valid sources is read as these. -/
theorem parse_print {l:List Source} (h:sourcesOk l=true) (hs:(printT l).length≤20000):parse (printT l)=(l,0,0):=by
 have h1:l.all sourceOk=true:=by unfold sourcesOk at h;rw [Bool.and_eq_true] at h;exact h.1
 have:=lx_print l h1 0
 exact parse_keys hs h this.1 this.2
/-! ### The reader looks at the keys alone -/
def Keyed {α} (F:Op α):Prop:=∀ L L' i,L.map key=L'.map key→F L i=F L' i
theorem Keyed.bnd {α β} {F:Op α} {G:α→Op β} (hF:Keyed F) (hG:∀ a,Keyed (G a)):Keyed (bnd F G):=fun L L' i h=>by
 unfold Pa.bnd
 rw [hF L L' i h]
 cases F L' i with
 | ok a j=>exact hG a L L' j h
 | no k e=>rfl
/-! ### What is read holds this -/
section
variable {L:List Tok}
/-- What F answers holds P. -/
def Gv {α} (L:List Tok) (F:Op α) (P:α→Prop):Prop:=∀ i a j,F L i=.ok a j→P a
theorem Gv.bnd {α β} {F:Op α} {G:α→Op β} {P:α→Prop} {Q:β→Prop} (hF:Gv L F P) (hG:∀ a,P a→Gv L (G a) Q):Gv L (bnd F G) Q:=fun i b j h=>by
 unfold Pa.bnd at h
 cases hx:F L i with
 | ok a k=>rw [hx] at h;exact hG a (hF i a k hx) k b j h
 | no k e=>rw [hx] at h;cases h
end
def wt (t:Tok):Nat:=(Lex.write t).length+6
def Sm (L:List Tok) (i:Nat):Nat:=((L.take i).map wt).sum
section
variable {L:List Tok}
/-- What F answers is paid by the tokens that it passes, and by c. -/
def Sz {α} (L:List Tok) (F:Op α) (f:α→Nat) (c:Nat):Prop:=∀ i a j,F L i=.ok a j→Sm L i+f a≤Sm L j+c
theorem Sz.bnd {α β} {F:Op α} {G:α→Op β} {f:α→Nat} {h:β→Nat} {c:Nat} (hF:Sz L F f 0) (hG:∀ a,Sz L (G a) h (f a+c)):Sz L (bnd F G) h c:=fun i b j e=>by
 unfold Pa.bnd at e
 cases hx:F L i with
 | ok a k =>
  rw [hx] at e
  have h1:=hF i a k hx
  have h2:=hG a k b j e
  omega
 | no k r=>rw [hx] at e;cases e
theorem Sz.less {α} {F:Op α} {f g:α→Nat} {c d:Nat} (h:Sz L F f c) (hg:∀ a,g a≤f a+d):Sz L F g (c+d):=fun i a j e=>by
 have:=h i a j e
 have:=hg a
 omega
theorem Sz.more {α} {F:Op α} {f:α→Nat} {c d:Nat} (h:Sz L F f c) (hd:c≤d):Sz L F f d:=fun i a j e=>by
 have:=h i a j e
 omega
theorem line_len (w t:List UInt8):(lineT w t).length=w.length+t.length+4:=by
 unfold lineT
 simp only [List.length_cons,List.length_append,List.length_nil]
 omega
end
end Go.Proofs.YtnkkcknogkgdkaaGreatDoor.Pa
