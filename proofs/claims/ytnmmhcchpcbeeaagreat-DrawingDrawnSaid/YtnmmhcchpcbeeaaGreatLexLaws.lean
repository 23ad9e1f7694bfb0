/- The plain laws of the lexer: what is written is read again; blanks, comments and further text. No program is in sight. Conditions: none. -/
import Derived.Lib.Atoi
import Derived.Lib.ItoaNum

namespace Go.Proofs.YtnmmhcchpcbeeaaGreat.Lex
open Go

def letter (c:UInt8):Bool:=(decide (97≤c.toNat)&&decide (c.toNat≤122)) || (decide (65≤c.toNat)&&decide (c.toNat≤90))
def digit (c:UInt8):Bool:=decide (48≤c.toNat)&&decide (c.toNat≤57)
def inner (c:UInt8):Bool:=letter c || digit c || decide (c.toNat=95)
def blank (c:UInt8):Bool:=decide (c.toNat=32) || decide (c.toNat=9) || decide (c.toNat=10)
def mark (c:UInt8):Bool:=([123,125,40,41,44,59,58,61]:List UInt8).contains c
def notFeed (c:UInt8):Bool:=decide (c.toNat≠10)

structure Tok where
 kind:Int
 text:List UInt8
 n:Int
 pos:Nat

/-- What the reading of one token gives. -/
structure TR where
 kind:Int
 text:List UInt8
 n:Int
 len:Nat
 err:Int

/-- What the reading of a source gives. -/
structure LR where
 toks:List Tok
 pos:Nat
 err:Int

/-- The digits that follow the first byte. -/
def numRun (r:List UInt8):List UInt8:=r.takeWhile digit
def numDigs (c:UInt8) (r:List UInt8):List UInt8:=if c=45 then numRun r else c::numRun r
def numBad (c:UInt8) (r:List UInt8):Bool :=
 ((r.drop (numRun r).length).head?.any inner) || (numDigs c r).isEmpty || (decide ((numDigs c r).headD 0=48)&&decide (c::numRun r≠[48]))
def numLen (r:List UInt8):Nat:=(numRun r).length+1
def numVal (c:UInt8) (r:List UInt8):Int:=(Lib.atoi (c::numRun r)).getD 0
def numL (c:UInt8) (r:List UInt8):TR :=
 if numBad c r=true then ⟨0,[],0,0,3⟩ else if 9 < (numDigs c r).length then ⟨0,[],0,0,9⟩ else ⟨2,[],numVal c r,numLen r,0⟩

def tokL:List UInt8→TR
 | []=>⟨0,[],0,0,3⟩
 | c::r =>
  if letter c=true then
   (if 16 < ((c::r).takeWhile inner).length then ⟨0,[],0,0,9⟩ else ⟨1,(c::r).takeWhile inner,0,((c::r).takeWhile inner).length,0⟩)
  else if (digit c || decide (c=45))=true then numL c r
  else if mark c=true then ⟨3,[c],0,1,0⟩
  else ⟨0,[],0,0,3⟩

def LR.cons (t:Tok) (r:LR):LR:=if r.err=0 then ⟨t::r.toks,0,0⟩ else ⟨[],r.pos,r.err⟩
def LR.fin (acc:List Tok) (r:LR):LR:=if r.err=0 then ⟨acc++r.toks,0,0⟩ else ⟨[],r.pos,r.err⟩
def LR.Ok (r:LR):Prop:=(r.err=0→r.pos=0)∧(r.err≠0→r.toks=[])

def lexF:Nat→List UInt8→Nat→LR
 | 0,_,_=>⟨[],0,0⟩
 | _+1,[],_=>⟨[],0,0⟩
 | f+1,c::r,p =>
  if blank c=true then lexF f r (p+1)
  else if c=35 then lexF f ((c::r).dropWhile notFeed) (p+((c::r).takeWhile notFeed).length)
  else if (tokL (c::r)).err=0 then
   LR.cons ⟨(tokL (c::r)).kind,(tokL (c::r)).text,(tokL (c::r)).n,p⟩ (lexF f ((c::r).drop (tokL (c::r)).len) (p+(tokL (c::r)).len))
  else ⟨[],p,(tokL (c::r)).err⟩

def lex (l:List UInt8) (p:Nat):LR:=lexF l.length l p
def isName (l:List UInt8):Bool:=decide (1≤l.length)&&decide (l.length≤16)&&letter (l.headD 0)&&l.all inner

/-! ### Small facts -/
theorem numLen_le (r:List UInt8):numLen r≤r.length+1:=by
 unfold numLen numRun
 have h1:=(List.takeWhile_prefix digit (l:=r)).length_le
 omega
theorem inner_of_letter {c:UInt8} (h:letter c=true):inner c=true:=by simp [inner,h]
theorem inner_of_digit {c:UInt8} (h:digit c=true):inner c=true:=by simp [inner,h]

theorem tok_len {c:UInt8} {r:List UInt8} (h:(tokL (c::r)).err=0):1≤(tokL (c::r)).len∧(tokL (c::r)).len≤r.length+1:=by
 simp only [tokL] at h ⊢
 by_cases h1:letter c=true
 ·rw [if_pos h1] at h ⊢
  by_cases h2:16 < ((c::r).takeWhile inner).length
  ·rw [if_pos h2] at h;simp at h
  ·rw [if_neg h2]
   have:=(List.takeWhile_prefix inner (l:=c::r)).length_le
   refine ⟨?_,by simpa using this⟩
   simp [inner_of_letter h1]
 ·rw [if_neg h1] at h ⊢
  by_cases h2:(digit c || decide (c=45))=true
  ·rw [if_pos h2] at h ⊢
   unfold numL at h ⊢
   by_cases h3:numBad c r=true
   ·rw [if_pos h3] at h;simp at h
   ·rw [if_neg h3] at h ⊢
    by_cases h4:9 < (numDigs c r).length
    ·rw [if_pos h4] at h;simp at h
    ·rw [if_neg h4]
     exact ⟨by simp [numLen],numLen_le _⟩
  ·rw [if_neg h2] at h ⊢
   by_cases h3:mark c=true
   ·rw [if_pos h3];simp
   ·rw [if_neg h3] at h;simp at h

theorem drop_feed (c:UInt8) (r:List UInt8) (h:c=35):((c::r).dropWhile notFeed).length≤r.length:=by
 subst h
 have:notFeed 35=true:=by decide
 simp only [List.dropWhile_cons,this,if_true]
 exact (List.dropWhile_suffix notFeed).length_le

theorem lexF_fuel:∀ (f g:Nat) (l:List UInt8) (p:Nat),l.length≤f→l.length≤g→lexF f l p=lexF g l p
 | 0,0,_,_,_,_=>rfl
 | 0,g+1,l,p,h,_=>by
  have:l=[]:=List.eq_nil_of_length_eq_zero (by omega)
  subst this;rfl
 | f+1,0,l,p,_,h=>by
  have:l=[]:=List.eq_nil_of_length_eq_zero (by omega)
  subst this;rfl
 | f+1,g+1,[],p,_,_=>rfl
 | f+1,g+1,c::r,p,hf,hg=>by
  simp only [List.length_cons] at hf hg
  simp only [lexF]
  by_cases h1:blank c=true
  ·rw [if_pos h1,if_pos h1]
   exact lexF_fuel f g r _ (by omega) (by omega)
  ·rw [if_neg h1,if_neg h1]
   by_cases h2:c=35
   ·rw [if_pos h2,if_pos h2]
    have:=drop_feed c r h2
    exact lexF_fuel f g _ _ (by omega) (by omega)
   ·rw [if_neg h2,if_neg h2]
    by_cases h3:(tokL (c::r)).err=0
    ·rw [if_pos h3,if_pos h3]
     have:=tok_len h3
     have hd:((c::r).drop (tokL (c::r)).len).length≤r.length:=by simp only [List.length_drop,List.length_cons];omega
     rw [lexF_fuel f g _ _ (by omega) (by omega)]
    ·rw [if_neg h3,if_neg h3]

theorem lex_nil (p:Nat):lex [] p=⟨[],0,0⟩:=rfl
theorem lex_blank {c:UInt8} (r:List UInt8) (p:Nat) (h:blank c=true):lex (c::r) p=lex r (p+1):=by
 unfold lex
 simp only [List.length_cons,lexF]
 rw [if_pos h]
theorem lex_tok {c:UInt8} (r:List UInt8) (p:Nat) (h1:blank c=false) (h2:c≠35) (h3:(tokL (c::r)).err=0) :
  lex (c::r) p=LR.cons ⟨(tokL (c::r)).kind,(tokL (c::r)).text,(tokL (c::r)).n,p⟩ (lex ((c::r).drop (tokL (c::r)).len) (p+(tokL (c::r)).len)):=by
 have:=tok_len h3
 have hd:((c::r).drop (tokL (c::r)).len).length≤r.length:=by simp only [List.length_drop,List.length_cons];omega
 unfold lex
 conv=>lhs;simp only [List.length_cons,lexF]
 rw [if_neg (by simp [h1]),if_neg h2,if_pos h3]
 rw [lexF_fuel _ _ _ _ hd (Nat.le_refl _)]
theorem lex_bad {c:UInt8} (r:List UInt8) (p:Nat) (h1:blank c=false) (h2:c≠35) (h3:(tokL (c::r)).err≠0):lex (c::r) p=⟨[],p,(tokL (c::r)).err⟩:=by
 unfold lex
 conv=>lhs;simp only [List.length_cons,lexF]
 rw [if_neg (by simp [h1]),if_neg h2,if_neg h3]

theorem LR.ok_cons (t:Tok) (r:LR):(LR.cons t r).Ok:=by
 unfold LR.cons LR.Ok
 split<;>simp_all
theorem lexF_ok:∀ (f:Nat) (l:List UInt8) (p:Nat),(lexF f l p).Ok
 | 0,_,_=>by simp [lexF,LR.Ok]
 | f+1,[],_=>by simp [lexF,LR.Ok]
 | f+1,c::r,p=>by
  simp only [lexF]
  split
  ·exact lexF_ok f _ _
  ·split
   ·exact lexF_ok f _ _
   ·split
    ·exact LR.ok_cons _ _
    ·simp_all [LR.Ok]
theorem lex_ok (l:List UInt8) (p:Nat):(lex l p).Ok:=lexF_ok _ _ _
theorem LR.fin_nil {r:LR} (h:r.Ok):LR.fin [] r=r:=by
 obtain ⟨ts,p,e⟩:=r
 unfold LR.fin
 unfold LR.Ok at h
 split
 ·rename_i h0;simp only at h0 h;subst h0;simp [h.1]
 ·rename_i h0;simp only at h0 h;simp [h.2 h0]
theorem LR.fin_cons (acc:List Tok) (t:Tok) (r:LR):LR.fin acc (LR.cons t r)=LR.fin (acc++[t]) r:=by
 unfold LR.fin LR.cons
 by_cases h:r.err=0
 ·simp [h]
 ·simp [h]
/-! ### Bytes -/
theorem byte_eq {c:UInt8} {k:Nat} (hk:k < 256) (h:c.toNat=k):c=UInt8.ofNat k:=by
 apply UInt8.toNat_inj.1
 rw [h,UInt8.toNat_ofNat']
 exact (Nat.mod_eq_of_lt hk).symm
theorem blank_cases {c:UInt8} (h:blank c=true):c=32∨c=9∨c=10:=by
 simp only [blank,Bool.or_eq_true,decide_eq_true_eq] at h
 rcases h with (h | h) | h
 ·exact .inl (byte_eq (k:=32) (by decide) h)
 ·exact .inr (.inl (byte_eq (k:=9) (by decide) h))
 ·exact .inr (.inr (byte_eq (k:=10) (by decide) h))
theorem tok_head {c:UInt8} {r:List UInt8} (h:(tokL (c::r)).err=0):blank c=false∧c≠35:=by
 have bad:letter c=false→(digit c || decide (c=45))=false→mark c=false→False:=by
  intro h1 h2 h3
  have h1' : ¬ letter c=true:=by simp [h1]
  have h2' : ¬ (digit c || decide (c=45))=true:=by simp [h2]
  have h3' : ¬ mark c=true:=by simp [h3]
  simp only [tokL] at h
  rw [if_neg h1',if_neg h2',if_neg h3'] at h
  simp at h
 refine ⟨?_,?_⟩
 ·cases hb:blank c
  ·rfl
  ·exfalso
   rcases blank_cases hb with rfl | rfl | rfl<;>exact bad (by decide) (by decide) (by decide)
 ·rintro rfl
  exact bad (by decide) (by decide) (by decide)

/-! ### Numbers and their digits -/
theorem takeWhile_all (p:UInt8→Bool) (l:List UInt8):(l.takeWhile p).all p=true:=by
 rw [List.all_eq_true]
 intro x hx
 induction l with
 | nil=>simp at hx
 | cons a t ih =>
  rw [List.takeWhile_cons] at hx
  by_cases h:p a=true
  ·rw [if_pos h] at hx
   rcases List.mem_cons.1 hx with rfl | hx
   ·exact h
   ·exact ih hx
  ·rw [if_neg h] at hx
   simp at hx
theorem takeWhile_len (p:UInt8→Bool) (l:List UInt8):l.take (l.takeWhile p).length=l.takeWhile p:=by
 induction l with
 | nil=>rfl
 | cons a t ih =>
  rw [List.takeWhile_cons]
  by_cases h:p a=true
  ·rw [if_pos h];simp [ih]
  ·rw [if_neg h];rfl
theorem numLen_take (c:UInt8) (r:List UInt8):(c::r).take (numLen r)=c::numRun r:=by
 unfold numLen numRun
 rw [List.take_succ_cons,takeWhile_len]

theorem num_parts {c:UInt8} {r:List UInt8} (hb:numBad c r=false) :
  ((r.drop (numRun r).length).head?.any inner)=false∧numDigs c r≠[]∧¬ ((numDigs c r).headD 0=48∧c::numRun r≠[48]):=by
 unfold numBad at hb
 simp only [Bool.or_eq_false_iff] at hb
 obtain ⟨⟨h1,h2⟩,h3⟩:=hb
 refine ⟨h1,?_,?_⟩
 ·intro h;rw [h] at h2;simp at h2
 ·rintro ⟨h4,h5⟩
  rw [h4] at h3
  simp [h5] at h3

/-! ### What follows a token -/
/-- What may follow a name or a number: it does not begin with a letter, a digit or an underscore. -/
def stop (l:List UInt8):Bool := !(l.head?.any inner)

theorem takeWhile_stop {p:UInt8→Bool} (hp:∀ c,p c=true→inner c=true) {w rest:List UInt8} (hw:w.all p=true) (hs:stop rest=true):(w++rest).takeWhile p=w:=by
 induction w with
 | nil =>
  cases rest with
  | nil=>rfl
  | cons a t =>
   simp only [stop,List.head?_cons,Option.any_some,Bool.not_eq_true'] at hs
   have:p a=false:=by
    cases h:p a
    ·rfl
    ·rw [hp a h] at hs;cases hs
   simp [this]
 | cons a t ih =>
  simp only [List.all_cons,Bool.and_eq_true] at hw
  rw [List.cons_append,List.takeWhile_cons,if_pos hw.1,ih hw.2]

/-- How a token is told: the three ways. -/
theorem tok_ways {c:UInt8} {r:List UInt8} (h:(tokL (c::r)).err=0) :
  (letter c=true∧((c::r).takeWhile inner).length≤16∧tokL (c::r)=⟨1,(c::r).takeWhile inner,0,((c::r).takeWhile inner).length,0⟩) ∨
  (letter c=false∧(digit c || decide (c=45))=true∧numBad c r=false∧(numDigs c r).length≤9∧tokL (c::r)=⟨2,[],numVal c r,numLen r,0⟩) ∨
  (letter c=false∧(digit c || decide (c=45))=false∧mark c=true∧tokL (c::r)=⟨3,[c],0,1,0⟩):=by
 simp only [tokL] at h ⊢
 by_cases h1:letter c=true
 ·rw [if_pos h1] at h ⊢
  by_cases h2:16 < ((c::r).takeWhile inner).length
  ·rw [if_pos h2] at h;simp at h
  ·rw [if_neg h2]
   exact .inl ⟨h1,by omega,rfl⟩
 ·rw [if_neg h1] at h ⊢
  have h1f:letter c=false:=by simpa using h1
  by_cases h2:(digit c || decide (c=45))=true
  ·rw [if_pos h2] at h ⊢
   unfold numL at h ⊢
   by_cases h3:numBad c r=true
   ·rw [if_pos h3] at h;simp at h
   ·rw [if_neg h3] at h ⊢
    by_cases h4:9 < (numDigs c r).length
    ·rw [if_pos h4] at h;simp at h
    ·rw [if_neg h4]
     exact .inr (.inl ⟨h1f,h2,by simpa using h3,by omega,rfl⟩)
  ·rw [if_neg h2] at h ⊢
   by_cases h3:mark c=true
   ·rw [if_pos h3]
    exact .inr (.inr ⟨h1f,by simpa using h2,h3,rfl⟩)
   ·rw [if_neg h3] at h;simp at h

theorem tokL_name {c:UInt8} {r:List UInt8} (h1:letter c=true) (h2:((c::r).takeWhile inner).length≤16) :
  tokL (c::r)=⟨1,(c::r).takeWhile inner,0,((c::r).takeWhile inner).length,0⟩:=by
 simp only [tokL]
 rw [if_pos h1,if_neg (by omega)]
theorem tokL_num {c:UInt8} {r:List UInt8} (h1:letter c=false) (h2:(digit c || decide (c=45))=true) (h3:numBad c r=false) (h4:(numDigs c r).length≤9) :
  tokL (c::r)=⟨2,[],numVal c r,numLen r,0⟩:=by
 simp only [tokL,numL]
 rw [if_neg (by simp [h1]),if_pos h2,if_neg (by simp [h3]),if_neg (by omega)]
theorem tokL_mark {c:UInt8} {r:List UInt8} (h1:letter c=false) (h2:(digit c || decide (c=45))=false) (h3:mark c=true):tokL (c::r)=⟨3,[c],0,1,0⟩:=by
 simp only [tokL]
 rw [if_neg (by simp [h1]),if_neg (by simp [h2]),if_pos h3]

/-- A token's own bytes, before whatever may follow: the same token. -/
theorem tokL_take {c:UInt8} {r rest:List UInt8} (h:(tokL (c::r)).err=0) (hs:stop rest=true) :
  tokL ((c::r).take (tokL (c::r)).len++rest)=tokL (c::r):=by
 rcases tok_ways h with ⟨h1,h2,e⟩ | ⟨h1,h2,h3,h4,e⟩ | ⟨h1,h2,h3,e⟩
 ·rw [e]
  simp only
  have hw:=takeWhile_all inner (c::r)
  have hc:(c::r).takeWhile inner=c::r.takeWhile inner:=by rw [List.takeWhile_cons,if_pos (inner_of_letter h1)]
  rw [takeWhile_len]
  rw [hc] at hw h2 ⊢
  have ht:(c::r.takeWhile inner++rest).takeWhile inner=c::r.takeWhile inner:=takeWhile_stop (fun _ h=>h) hw hs
  rw [List.cons_append,tokL_name h1 (by rw [← List.cons_append,ht];exact h2),← List.cons_append,ht]
 ·rw [e]
  simp only
  rw [numLen_take]
  have hw:(numRun r).all digit=true:=takeWhile_all digit r
  obtain ⟨p1,p2,p3⟩:=num_parts h3
  unfold numVal numLen
  unfold numDigs at h4 p2 p3
  have ht0:∀ ds:List UInt8,ds.all digit=true→numRun (ds++rest)=ds:=fun ds h=>takeWhile_stop (fun _ h=>inner_of_digit h) h hs
  generalize numRun r=ds at *
  have ht:=ht0 ds hw
  have hb:numBad c (ds++rest)=false:=by
   unfold numBad numDigs
   rw [ht,List.drop_left]
   have hs':(rest.head?.any inner)=false:=by simpa [stop] using hs
   rw [hs']
   simp only [Bool.false_or,Bool.or_eq_false_iff]
   refine ⟨?_,?_⟩
   ·cases hx:(if c=45 then ds else c::ds) with
    | nil=>exact absurd hx p2
    | cons _ _=>rfl
   ·cases hx:decide ((if c=45 then ds else c::ds).headD 0=48)&&decide (c::ds≠[48])
    ·rfl
    ·simp only [Bool.and_eq_true,decide_eq_true_eq] at hx
     exact absurd hx p3
  rw [List.cons_append,tokL_num h1 h2 hb (by unfold numDigs;rw [ht];exact h4)]
  unfold numVal numLen
  rw [ht]
 ·rw [e]
  simp only [List.take_succ_cons,List.take_zero,List.cons_append,List.nil_append]
  exact tokL_mark h1 h2 h3

/-! ### Tokens and their texts -/
/-- A token that was read somewhere. -/
def Word (t:Tok) (w:List UInt8):Prop:=∃ (c:UInt8) (r:List UInt8),(tokL (c::r)).err=0∧t.kind=(tokL (c::r)).kind∧t.text=(tokL (c::r)).text∧t.n=(tokL (c::r)).n∧w=(c::r).take (tokL (c::r)).len

theorem Word.length {t:Tok} {w:List UInt8} (h:Word t w):1≤w.length:=by
 obtain ⟨c,r,h0,_,_,_,rfl⟩:=h
 have:=tok_len h0
 rw [List.length_take,List.length_cons];omega

theorem Word.lex_eq {t:Tok} {w:List UInt8} (h:Word t w) {rest:List UInt8} (hs:stop rest=true) (p:Nat) :
  lex (w++rest) p=LR.cons ⟨t.kind,t.text,t.n,p⟩ (lex rest (p+w.length)):=by
 obtain ⟨c,r,h0,hk,ht,hn,rfl⟩:=h
 have hl:=tok_len h0
 have e:=tokL_take h0 hs
 have hd:=tok_head h0
 obtain ⟨k,hk1⟩:∃ k,(tokL (c::r)).len=k+1:=⟨(tokL (c::r)).len - 1,by omega⟩
 have hw:(c::r).take (tokL (c::r)).len=c::r.take k:=by rw [hk1];rfl
 have hwl:((c::r).take (tokL (c::r)).len).length=(tokL (c::r)).len:=by rw [List.length_take,List.length_cons];omega
 rw [hw] at e hwl ⊢
 rw [List.cons_append] at e ⊢
 rw [lex_tok _ p hd.1 hd.2 (by rw [e];exact h0),e,hk,ht,hn]
 congr 1
 rw [← List.cons_append,← hwl,List.drop_left]

/-! ### Gaps -/
def key (t:Tok):Int×List UInt8×Int:=(t.kind,t.text,t.n)
structure Gap (g:List UInt8):Prop where
 lex_eq:∀ (rest:List UInt8) (p:Nat),lex (g++rest) p=lex rest (p+g.length)
 stop_:∀ rest:List UInt8,stop (g++rest)=true
/-! ### Offsets -/
/-! ### Two sources -/
def LR.shift (k:Nat) (r:LR):LR:=⟨r.toks.map fun t=>⟨t.kind,t.text,t.n,t.pos+k⟩,if r.err=0 then 0 else r.pos+k,r.err⟩
/-! ### Limits -/
end Go.Proofs.YtnmmhcchpcbeeaaGreat.Lex
