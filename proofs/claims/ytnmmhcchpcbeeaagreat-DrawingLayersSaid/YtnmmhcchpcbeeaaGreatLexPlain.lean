/- The lexer as a plain function on lists of bytes, and its laws: no program is in sight. Conditions: none. -/
import Derived.Lib.Atoi
import Derived.Lib.ItoaNum

namespace Go.Proofs.YtnmmhcchpcbeeaaGreat.Lex
open Go

def letter (c : UInt8) : Bool := (decide (97 ≤ c.toNat) && decide (c.toNat ≤ 122)) || (decide (65 ≤ c.toNat) && decide (c.toNat ≤ 90))
def digit (c : UInt8) : Bool := decide (48 ≤ c.toNat) && decide (c.toNat ≤ 57)
def inner (c : UInt8) : Bool := letter c || digit c || decide (c.toNat = 95)
def blank (c : UInt8) : Bool := decide (c.toNat = 32) || decide (c.toNat = 9) || decide (c.toNat = 10)
def mark (c : UInt8) : Bool := ([123, 125, 40, 41, 44, 59, 58, 61] : List UInt8).contains c
def notFeed (c : UInt8) : Bool := decide (c.toNat ≠ 10)

structure Tok where
  kind : Int
  text : List UInt8
  n : Int
  pos : Nat

/-- What the reading of one token gives. -/
structure TR where
  kind : Int
  text : List UInt8
  n : Int
  len : Nat
  err : Int

/-- What the reading of a source gives. -/
structure LR where
  toks : List Tok
  pos : Nat
  err : Int

/-- The digits that follow the first byte. -/
def numRun (r : List UInt8) : List UInt8 := r.takeWhile digit
def numDigs (c : UInt8) (r : List UInt8) : List UInt8 := if c = 45 then numRun r else c :: numRun r
def numBad (c : UInt8) (r : List UInt8) : Bool :=
  ((r.drop (numRun r).length).head?.any inner) || (numDigs c r).isEmpty || (decide ((numDigs c r).headD 0 = 48) && decide (c :: numRun r ≠ [48]))
def numLen (r : List UInt8) : Nat := (numRun r).length + 1
def numVal (c : UInt8) (r : List UInt8) : Int := (Lib.atoi (c :: numRun r)).getD 0
def numL (c : UInt8) (r : List UInt8) : TR :=
  if numBad c r = true then ⟨0, [], 0, 0, 3⟩ else if 9 < (numDigs c r).length then ⟨0, [], 0, 0, 9⟩ else ⟨2, [], numVal c r, numLen r, 0⟩

def tokL : List UInt8 → TR
  | [] => ⟨0, [], 0, 0, 3⟩
  | c :: r =>
    if letter c = true then
      (if 16 < ((c :: r).takeWhile inner).length then ⟨0, [], 0, 0, 9⟩ else ⟨1, (c :: r).takeWhile inner, 0, ((c :: r).takeWhile inner).length, 0⟩)
    else if (digit c || decide (c = 45)) = true then numL c r
    else if mark c = true then ⟨3, [c], 0, 1, 0⟩
    else ⟨0, [], 0, 0, 3⟩

def LR.cons (t : Tok) (r : LR) : LR := if r.err = 0 then ⟨t :: r.toks, 0, 0⟩ else ⟨[], r.pos, r.err⟩
def LR.fin (acc : List Tok) (r : LR) : LR := if r.err = 0 then ⟨acc ++ r.toks, 0, 0⟩ else ⟨[], r.pos, r.err⟩
def LR.Ok (r : LR) : Prop := (r.err = 0 → r.pos = 0) ∧ (r.err ≠ 0 → r.toks = [])

def lexF : Nat → List UInt8 → Nat → LR
  | 0, _, _ => ⟨[], 0, 0⟩
  | _ + 1, [], _ => ⟨[], 0, 0⟩
  | f + 1, c :: r, p =>
    if blank c = true then lexF f r (p + 1)
    else if c = 35 then lexF f ((c :: r).dropWhile notFeed) (p + ((c :: r).takeWhile notFeed).length)
    else if (tokL (c :: r)).err = 0 then
      LR.cons ⟨(tokL (c :: r)).kind, (tokL (c :: r)).text, (tokL (c :: r)).n, p⟩ (lexF f ((c :: r).drop (tokL (c :: r)).len) (p + (tokL (c :: r)).len))
    else ⟨[], p, (tokL (c :: r)).err⟩

def lex (l : List UInt8) (p : Nat) : LR := lexF l.length l p
def tokens (l : List UInt8) : LR := if 20000 < l.length then ⟨[], 0, 9⟩ else lex l 0
def write (t : Tok) : List UInt8 := if t.kind = 2 then Lib.itoa t.n else t.text
def isName (l : List UInt8) : Bool := decide (1 ≤ l.length) && decide (l.length ≤ 16) && letter (l.headD 0) && l.all inner

/-! ### Small facts -/
theorem numLen_le (r : List UInt8) : numLen r ≤ r.length + 1 := by
  unfold numLen numRun
  have h1 := (List.takeWhile_prefix digit (l := r)).length_le
  omega
theorem inner_of_letter {c : UInt8} (h : letter c = true) : inner c = true := by simp [inner, h]
theorem inner_of_digit {c : UInt8} (h : digit c = true) : inner c = true := by simp [inner, h]

theorem tok_len {c : UInt8} {r : List UInt8} (h : (tokL (c :: r)).err = 0) : 1 ≤ (tokL (c :: r)).len ∧ (tokL (c :: r)).len ≤ r.length + 1 := by
  simp only [tokL] at h ⊢
  by_cases h1 : letter c = true
  · rw [if_pos h1] at h ⊢
    by_cases h2 : 16 < ((c :: r).takeWhile inner).length
    · rw [if_pos h2] at h; simp at h
    · rw [if_neg h2]
      have := (List.takeWhile_prefix inner (l := c :: r)).length_le
      refine ⟨?_, by simpa using this⟩
      simp [inner_of_letter h1]
  · rw [if_neg h1] at h ⊢
    by_cases h2 : (digit c || decide (c = 45)) = true
    · rw [if_pos h2] at h ⊢
      unfold numL at h ⊢
      by_cases h3 : numBad c r = true
      · rw [if_pos h3] at h; simp at h
      · rw [if_neg h3] at h ⊢
        by_cases h4 : 9 < (numDigs c r).length
        · rw [if_pos h4] at h; simp at h
        · rw [if_neg h4]
          exact ⟨by simp [numLen], numLen_le _⟩
    · rw [if_neg h2] at h ⊢
      by_cases h3 : mark c = true
      · rw [if_pos h3]; simp
      · rw [if_neg h3] at h; simp at h

theorem drop_feed (c : UInt8) (r : List UInt8) (h : c = 35) : ((c :: r).dropWhile notFeed).length ≤ r.length := by
  subst h
  have : notFeed 35 = true := by decide
  simp only [List.dropWhile_cons, this, if_true]
  exact (List.dropWhile_suffix notFeed).length_le

theorem lexF_fuel : ∀ (f g : Nat) (l : List UInt8) (p : Nat), l.length ≤ f → l.length ≤ g → lexF f l p = lexF g l p
  | 0, 0, _, _, _, _ => rfl
  | 0, g + 1, l, p, h, _ => by
    have : l = [] := List.eq_nil_of_length_eq_zero (by omega)
    subst this; rfl
  | f + 1, 0, l, p, _, h => by
    have : l = [] := List.eq_nil_of_length_eq_zero (by omega)
    subst this; rfl
  | f + 1, g + 1, [], p, _, _ => rfl
  | f + 1, g + 1, c :: r, p, hf, hg => by
    simp only [List.length_cons] at hf hg
    simp only [lexF]
    by_cases h1 : blank c = true
    · rw [if_pos h1, if_pos h1]
      exact lexF_fuel f g r _ (by omega) (by omega)
    · rw [if_neg h1, if_neg h1]
      by_cases h2 : c = 35
      · rw [if_pos h2, if_pos h2]
        have := drop_feed c r h2
        exact lexF_fuel f g _ _ (by omega) (by omega)
      · rw [if_neg h2, if_neg h2]
        by_cases h3 : (tokL (c :: r)).err = 0
        · rw [if_pos h3, if_pos h3]
          have := tok_len h3
          have hd : ((c :: r).drop (tokL (c :: r)).len).length ≤ r.length := by simp only [List.length_drop, List.length_cons]; omega
          rw [lexF_fuel f g _ _ (by omega) (by omega)]
        · rw [if_neg h3, if_neg h3]

theorem lex_nil (p : Nat) : lex [] p = ⟨[], 0, 0⟩ := rfl
theorem lex_blank {c : UInt8} (r : List UInt8) (p : Nat) (h : blank c = true) : lex (c :: r) p = lex r (p + 1) := by
  unfold lex
  simp only [List.length_cons, lexF]
  rw [if_pos h]
theorem blank_35 {c : UInt8} (h : c = 35) : blank c = false := by subst h; decide
theorem lex_comment {c : UInt8} (r : List UInt8) (p : Nat) (h : c = 35) : lex (c :: r) p = lex ((c :: r).dropWhile notFeed) (p + ((c :: r).takeWhile notFeed).length) := by
  have hb := blank_35 h
  unfold lex
  conv => lhs; simp only [List.length_cons, lexF]
  rw [if_neg (by simp [hb]), if_pos h]
  exact lexF_fuel _ _ _ _ (drop_feed c r h) (Nat.le_refl _)
theorem lex_tok {c : UInt8} (r : List UInt8) (p : Nat) (h1 : blank c = false) (h2 : c ≠ 35) (h3 : (tokL (c :: r)).err = 0) :
    lex (c :: r) p = LR.cons ⟨(tokL (c :: r)).kind, (tokL (c :: r)).text, (tokL (c :: r)).n, p⟩ (lex ((c :: r).drop (tokL (c :: r)).len) (p + (tokL (c :: r)).len)) := by
  have := tok_len h3
  have hd : ((c :: r).drop (tokL (c :: r)).len).length ≤ r.length := by simp only [List.length_drop, List.length_cons]; omega
  unfold lex
  conv => lhs; simp only [List.length_cons, lexF]
  rw [if_neg (by simp [h1]), if_neg h2, if_pos h3]
  rw [lexF_fuel _ _ _ _ hd (Nat.le_refl _)]
theorem lex_bad {c : UInt8} (r : List UInt8) (p : Nat) (h1 : blank c = false) (h2 : c ≠ 35) (h3 : (tokL (c :: r)).err ≠ 0) : lex (c :: r) p = ⟨[], p, (tokL (c :: r)).err⟩ := by
  unfold lex
  conv => lhs; simp only [List.length_cons, lexF]
  rw [if_neg (by simp [h1]), if_neg h2, if_neg h3]

theorem LR.ok_cons (t : Tok) (r : LR) : (LR.cons t r).Ok := by
  unfold LR.cons LR.Ok
  split <;> simp_all
theorem lexF_ok : ∀ (f : Nat) (l : List UInt8) (p : Nat), (lexF f l p).Ok
  | 0, _, _ => by simp [lexF, LR.Ok]
  | f + 1, [], _ => by simp [lexF, LR.Ok]
  | f + 1, c :: r, p => by
    simp only [lexF]
    split
    · exact lexF_ok f _ _
    · split
      · exact lexF_ok f _ _
      · split
        · exact LR.ok_cons _ _
        · simp_all [LR.Ok]
theorem lex_ok (l : List UInt8) (p : Nat) : (lex l p).Ok := lexF_ok _ _ _
theorem LR.fin_nil {r : LR} (h : r.Ok) : LR.fin [] r = r := by
  obtain ⟨ts, p, e⟩ := r
  unfold LR.fin
  unfold LR.Ok at h
  split
  · rename_i h0; simp only at h0 h; subst h0; simp [h.1]
  · rename_i h0; simp only at h0 h; simp [h.2 h0]
theorem LR.fin_cons (acc : List Tok) (t : Tok) (r : LR) : LR.fin acc (LR.cons t r) = LR.fin (acc ++ [t]) r := by
  unfold LR.fin LR.cons
  by_cases h : r.err = 0
  · simp [h]
  · simp [h]
theorem LR.fin_fin (a b : List Tok) (r : LR) : LR.fin a (LR.fin b r) = LR.fin (a ++ b) r := by
  unfold LR.fin
  by_cases h : r.err = 0
  · simp [h]
  · simp [h]
end Go.Proofs.YtnmmhcchpcbeeaaGreat.Lex
