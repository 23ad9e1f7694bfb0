/- Walks: the reference's marks, names and numbers. Conditions: the offset lies in the text; the text has at most a million bytes. -/
import Derived.Test.YtnmmhcchpcbeeaaGreatDoorProg
import Derived.Test.YtnmmhcchpcbeeaaGreatDoorLexLaws
import Derived.WalkKit
import Derived.WalkLawsBesides
import Derived.WalkSpells
import Derived.Lib.Hide
import Derived.BigQuiet
import Derived.Deep.QuietTactic
import Derived.Shelf.Abstract
import Derived.Test.YtnmmhcchpcbeeaaGreatDoorShelf
import Derived.Lib.AtoiErrMem
import Derived.Test.YtnmmhcchpcbeeaaGreatDoorMem2

namespace Go.Proofs.YtnmmhcchpcbeeaaGreatDoor.LexW
open Go Go.RowKit

abbrev Returns (w : World) (v : Value) : Ending → World → Prop := fun e w' => e = .returned v ∧ w = w'

theorem ret_bool {a b : Bool} (h : a = b) : Ending.returned (.bool a) = .returned (.bool b) := by rw [h]
theorem ret_int {k : IntKind} {a b : Int} (h : a = b) : Ending.returned (.int k a) = .returned (.int k b) := by rw [h]
theorem letter_any (c : UInt8) (w : World) : Calls Tryz.prog 56 #[.int .u8 (c.toNat : Int)] w (Returns w (.bool (Lex.letter c))) := by
 rcases (show (97 ≤ c.toNat ∧ c.toNat ≤ 122) ∨ (122 < c.toNat) ∨ (c.toNat < 97 ∧ 65 ≤ c.toNat ∧ c.toNat ≤ 90) ∨ (90 < c.toNat ∧ c.toNat < 97) ∨ c.toNat < 65 by omega) with h | h | h | h | h
 all_goals
  go_enter Tryz.func56, Tryz.ntmps56
  go_wp2
  go_ret
  refine ⟨ret_bool ?_, rfl⟩
  rw [Bool.eq_iff_iff]
  simp [Lex.letter]
  omega
theorem digit_any (c : UInt8) (w : World) : Calls Tryz.prog 96 #[.int .u8 (c.toNat : Int)] w (Returns w (.bool (Lex.digit c))) := by
 rcases (show (48 ≤ c.toNat ∧ c.toNat ≤ 57) ∨ (57 < c.toNat) ∨ c.toNat < 48 by omega) with h | h | h
 all_goals
  go_enter Tryz.func96, Tryz.ntmps96
  go_wp2
  go_ret
  refine ⟨ret_bool ?_, rfl⟩
  rw [Bool.eq_iff_iff]
  simp [Lex.digit]
  omega
theorem letter_yes (c : UInt8) (h : Lex.letter c = true) (w : World) : Calls Tryz.prog 56 #[.int .u8 (c.toNat : Int)] w (Returns w (.bool true)) := by
 have := letter_any c w; rwa [h] at this
theorem letter_no (c : UInt8) (h : Lex.letter c = false) (w : World) : Calls Tryz.prog 56 #[.int .u8 (c.toNat : Int)] w (Returns w (.bool false)) := by
 have := letter_any c w; rwa [h] at this
theorem digit_yes (c : UInt8) (h : Lex.digit c = true) (w : World) : Calls Tryz.prog 96 #[.int .u8 (c.toNat : Int)] w (Returns w (.bool true)) := by
 have := digit_any c w; rwa [h] at this
theorem digit_no (c : UInt8) (h : Lex.digit c = false) (w : World) : Calls Tryz.prog 96 #[.int .u8 (c.toNat : Int)] w (Returns w (.bool false)) := by
 have := digit_any c w; rwa [h] at this
theorem inner_any (c : UInt8) (w : World) : Calls Tryz.prog 58 #[.int .u8 (c.toNat : Int)] w (Returns w (.bool (Lex.inner c))) := by
 cases h1 : Lex.letter c
 ·cases h2 : Lex.digit c
  ·have H1 := Lib.hid h1
   have H2 := Lib.hid h2
   have hI : Lex.inner c = ((c.toNat : Int) == 95) := by
    rw [Bool.eq_iff_iff]; simp [Lex.inner, h1, h2]; omega
   rw [hI]
   clear h1 h2 hI
   cases h3 : ((c.toNat : Int) == 95)
   all_goals
    go_enter Tryz.func58, Tryz.ntmps58
    go_wp2_with (first | (go_at_call 56; refine (letter_no _ H1.out _).mono ?_; rintro e w' ⟨rfl, rfl⟩) | (go_at_call 96; refine (digit_no _ H2.out _).mono ?_; rintro e w' ⟨rfl, rfl⟩))
    go_ret
    exact ⟨rfl, rfl⟩
  ·have H1 := Lib.hid h1
   have H2 := Lib.hid h2
   have hI : Lex.inner c = true := by simp [Lex.inner, h2]
   rw [hI]
   clear h1 h2 hI
   go_enter Tryz.func58, Tryz.ntmps58
   go_wp2_with (first | (go_at_call 56; refine (letter_no _ H1.out _).mono ?_; rintro e w' ⟨rfl, rfl⟩) | (go_at_call 96; refine (digit_yes _ H2.out _).mono ?_; rintro e w' ⟨rfl, rfl⟩))
   go_ret
   exact ⟨rfl, rfl⟩
 ·have H1 := Lib.hid h1
  have hI : Lex.inner c = true := by simp [Lex.inner, h1]
  rw [hI]
  clear h1 hI
  go_enter Tryz.func58, Tryz.ntmps58
  go_wp2_with (go_at_call 56; refine (letter_yes _ H1.out _).mono ?_; rintro e w' ⟨rfl, rfl⟩)
  go_ret
  exact ⟨rfl, rfl⟩
/-! ### The reference -/
theorem rletter_any (c : UInt8) (w : World) : Calls Tryz.prog 101 #[.int .u8 (c.toNat : Int)] w (Returns w (.bool (Lex.letter c))) := by
 rcases (show (97 ≤ c.toNat ∧ c.toNat ≤ 122) ∨ (122 < c.toNat) ∨ (c.toNat < 97 ∧ 65 ≤ c.toNat ∧ c.toNat ≤ 90) ∨ (90 < c.toNat ∧ c.toNat < 97) ∨ c.toNat < 65 by omega) with h | h | h | h | h
 all_goals
  go_enter Tryz.func101, Tryz.ntmps101
  go_wp2
  go_ret
  refine ⟨ret_bool ?_, rfl⟩
  rw [Bool.eq_iff_iff]
  simp [Lex.letter]
  omega
theorem rdigit_any (c : UInt8) (w : World) : Calls Tryz.prog 143 #[.int .u8 (c.toNat : Int)] w (Returns w (.bool (Lex.digit c))) := by
 rcases (show (48 ≤ c.toNat ∧ c.toNat ≤ 57) ∨ (57 < c.toNat) ∨ c.toNat < 48 by omega) with h | h | h
 all_goals
  go_enter Tryz.func143, Tryz.ntmps143
  go_wp2
  go_ret
  refine ⟨ret_bool ?_, rfl⟩
  rw [Bool.eq_iff_iff]
  simp [Lex.digit]
  omega
theorem rblank_any (c : UInt8) (w : World) : Calls Tryz.prog 144 #[.int .u8 (c.toNat : Int)] w (Returns w (.bool (Lex.blank c))) := by
 rcases (show c.toNat = 32 ∨ c.toNat = 9 ∨ c.toNat = 10 ∨ (c.toNat ≠ 32 ∧ c.toNat ≠ 9 ∧ c.toNat ≠ 10) by omega) with h | h | h | h
 all_goals
  go_enter Tryz.func144, Tryz.ntmps144
  go_wp2
  go_ret
  refine ⟨ret_bool ?_, rfl⟩
  rw [Bool.eq_iff_iff]
  simp [Lex.blank]
  omega
theorem rletter_yes (c : UInt8) (h : Lex.letter c = true) (w : World) : Calls Tryz.prog 101 #[.int .u8 (c.toNat : Int)] w (Returns w (.bool true)) := by
 have := rletter_any c w; rwa [h] at this
theorem rletter_no (c : UInt8) (h : Lex.letter c = false) (w : World) : Calls Tryz.prog 101 #[.int .u8 (c.toNat : Int)] w (Returns w (.bool false)) := by
 have := rletter_any c w; rwa [h] at this
theorem rdigit_yes (c : UInt8) (h : Lex.digit c = true) (w : World) : Calls Tryz.prog 143 #[.int .u8 (c.toNat : Int)] w (Returns w (.bool true)) := by
 have := rdigit_any c w; rwa [h] at this
theorem rdigit_no (c : UInt8) (h : Lex.digit c = false) (w : World) : Calls Tryz.prog 143 #[.int .u8 (c.toNat : Int)] w (Returns w (.bool false)) := by
 have := rdigit_any c w; rwa [h] at this
theorem rblank_yes (c : UInt8) (h : Lex.blank c = true) (w : World) : Calls Tryz.prog 144 #[.int .u8 (c.toNat : Int)] w (Returns w (.bool true)) := by
 have := rblank_any c w; rwa [h] at this
theorem rblank_no (c : UInt8) (h : Lex.blank c = false) (w : World) : Calls Tryz.prog 144 #[.int .u8 (c.toNat : Int)] w (Returns w (.bool false)) := by
 have := rblank_any c w; rwa [h] at this
end Go.Proofs.YtnmmhcchpcbeeaaGreatDoor.LexW

namespace Go.Proofs.YtnmmhcchpcbeeaaGreatDoor.LexW
open Go Go.RowKit

/-- How many bytes of a kind stand from an offset on. -/
def run (p : UInt8 → Bool) (s : ByteArray) (k : Nat) : Nat := ((s.data.toList.drop k).takeWhile p).length
theorem size_list (s : ByteArray) : s.data.toList.length = s.size := Array.length_toList
theorem drop_at (s : ByteArray) (k : Nat) (h : k < s.size) : s.data.toList.drop k = s[k] :: s.data.toList.drop (k + 1) := by
 rw [List.drop_eq_getElem_cons (by rw [size_list]; exact h)]
 rfl
theorem run_yes {p : UInt8 → Bool} {s : ByteArray} {k : Nat} (h : k < s.size) (hp : p s[k] = true) : run p s k = run p s (k + 1) + 1 := by
 unfold run
 rw [drop_at s k h, List.takeWhile_cons, if_pos hp, List.length_cons]
theorem run_no {p : UInt8 → Bool} {s : ByteArray} {k : Nat} (h : k < s.size) (hp : p s[k] = false) : run p s k = 0 := by
 unfold run
 rw [drop_at s k h, List.takeWhile_cons, if_neg (by simp [hp]), List.length_nil]
theorem run_end {p : UInt8 → Bool} {s : ByteArray} {k : Nat} (h : s.size ≤ k) : run p s k = 0 := by
 unfold run
 rw [List.drop_of_length_le (by rw [size_list]; exact h)]; rfl
theorem run_le (p : UInt8 → Bool) (s : ByteArray) (k : Nat) (h : k ≤ s.size) : k + run p s k ≤ s.size := by
 have h1 := (List.takeWhile_prefix p (l := s.data.toList.drop k)).length_le
 rw [List.length_drop, size_list] at h1
 unfold run; omega

theorem while_any (g : FuncId) (p : UInt8 → Bool) (eg : Enters Tryz.prog g) (hg : Hid (∀ (c : UInt8) (w : World), Calls Tryz.prog g #[.int .u8 (c.toNat : Int)] w (Returns w (.bool (p c)))))
  (s : ByteArray) (i : Nat) (w : World) (hi : i ≤ s.size) (hs : s.size ≤ 1000000) :
  Calls Tryz.prog 57 #[.string s, .int .i64 (i : Int), .func (.func g) #[] #[]] w (Returns w (.int .i64 ((i + run p s i : Nat) : Int))) := by
 unfold Enters at eg
 go_enter Tryz.func57, Tryz.ntmps57
 go_wp2
 go_loop [1] (fun t => ∃ k : Nat, k ≤ s.size ∧ t = .int .i64 k ∧ i + run p s i = k + run p s k) (fun t => s.size - (intOf t).toNat)
 case atStart => exact ⟨i, hi, rfl, rfl⟩
 case round =>
  obtain ⟨k, hk, rfl, he⟩ := hrel
  have HE := Lib.hid he
  clear he
  by_cases hlt : k < s.size
  ·cases hp : p s[k]
   ·have hc : ∀ w, Calls Tryz.prog g #[.int .u8 (s[k].toNat : Int)] w (Returns w (.bool false)) := fun w => by have := hg.out s[k] w; rwa [hp] at this
    have HC := Lib.hid hc
    have hz := Lib.hid (run_no hlt hp)
    clear hc hp
    go_wp2_with ((with_reducible refine (HC.out _).mono ?_); rintro e w' ⟨rfl, rfl⟩)
    go_ret
    refine ⟨ret_int ?_, rfl⟩
    have e1 := HE.out
    have e2 := hz.out
    omega
   ·have hc : ∀ w, Calls Tryz.prog g #[.int .u8 (s[k].toNat : Int)] w (Returns w (.bool true)) := fun w => by have := hg.out s[k] w; rwa [hp] at this
    have HC := Lib.hid hc
    have hz := Lib.hid (run_yes hlt hp)
    clear hc hp
    go_wp2_with ((with_reducible refine (HC.out _).mono ?_); rintro e w' ⟨rfl, rfl⟩)
    go_round
    case rel => exact ⟨k + 1, by omega, by go_num, by rw [HE.out, hz.out]; omega⟩
    case measure => simp [intOf]; omega
  ·have hz := Lib.hid (run_end (p := p) (s := s) (k := k) (by omega))
   go_wp2
   go_ret
   refine ⟨ret_int ?_, rfl⟩
   have e1 := HE.out
   have e2 := hz.out
   omega
theorem while_inner (s : ByteArray) (i : Nat) (w : World) (hi : i ≤ s.size) (hs : s.size ≤ 1000000) :
  Calls Tryz.prog 57 #[.string s, .int .i64 (i : Int), .func (.func 58) #[] #[]] w (Returns w (.int .i64 ((i + run Lex.inner s i : Nat) : Int))) :=
 while_any _ _ (enters_of Tryz.func58 (by kernel_rfl) rfl) inner_any s i w hi hs
end Go.Proofs.YtnmmhcchpcbeeaaGreatDoor.LexW

namespace Go.Proofs.YtnmmhcchpcbeeaaGreatDoor.LexW
open Go Go.RowKit

def zeroTok : Value := .agg #[.int .i64 0, .string ⟨#[]⟩, .int .i64 0, .int .i64 0]
def okTok (t : Lex.TR) (i : Nat) : Value := .agg #[.int .i64 t.kind, .string ⟨t.text.toArray⟩, .int .i64 t.n, .int .i64 (i : Int)]
/-- What a reader of one token hands back, 'end' being the offset behind it or its length. -/
def trV (t : Lex.TR) (i j : Nat) : Value := if t.err = 0 then .tuple #[okTok t i, .int .i64 (j : Int), .int .i64 0] else .tuple #[zeroTok, .int .i64 0, .int .i64 t.err]

theorem extract_list (s : ByteArray) (a b : Nat) : (s.extract a b).data.toList = (s.data.toList.drop a).take (b - a) := by
 simp only [ByteArray.data_extract, Array.toList_extract, List.extract_eq_take_drop]
theorem get_list (b : ByteArray) (h : 0 < b.size) : b.data.toList = b[0] :: b.data.toList.drop 1 := by
 have := drop_at b 0 h
 simpa using this

theorem next_inner (s : ByteArray) (i : Nat) (h : i + 1 + run Lex.digit s (i + 1) < s.size) :
  (((s.data.toList.drop (i + 1)).drop (Lex.numRun (s.data.toList.drop (i + 1))).length).head?.any Lex.inner) = Lex.inner (s[i + 1 + run Lex.digit s (i + 1)]'h) := by
 rw [List.drop_drop]
 show ((s.data.toList.drop (i + 1 + run Lex.digit s (i + 1))).head?.any Lex.inner) = _
 rw [drop_at s _ h]; rfl
theorem next_none (s : ByteArray) (i : Nat) (h : s.size ≤ i + 1 + run Lex.digit s (i + 1)) :
  (((s.data.toList.drop (i + 1)).drop (Lex.numRun (s.data.toList.drop (i + 1))).length).head?.any Lex.inner) = false := by
 rw [List.drop_drop]
 show ((s.data.toList.drop (i + 1 + run Lex.digit s (i + 1))).head?.any Lex.inner) = _
 rw [List.drop_of_length_le (by rw [size_list]; exact h)]; rfl

def bad3 : Lex.TR := ⟨0, [], 0, 0, 3⟩
def bad9 : Lex.TR := ⟨0, [], 0, 0, 9⟩
theorem trV_bad3 (i j : Nat) : trV bad3 i j = .tuple #[zeroTok, .int .i64 0, .int .i64 3] := rfl
theorem trV_bad9 (i j : Nat) : trV bad9 i j = .tuple #[zeroTok, .int .i64 0, .int .i64 9] := rfl
end Go.Proofs.YtnmmhcchpcbeeaaGreatDoor.LexW

namespace Go.Proofs.YtnmmhcchpcbeeaaGreatDoor.LexW
open Go Go.RowKit

end Go.Proofs.YtnmmhcchpcbeeaaGreatDoor.LexW

namespace Go.Proofs.YtnmmhcchpcbeeaaGreatDoor.LexW
open Go Go.RowKit

theorem trV_ok {t : Lex.TR} (h : t.err = 0) (i j : Nat) : trV t i j = .tuple #[okTok t i, .int .i64 (j : Int), .int .i64 0] := by unfold trV; rw [if_pos h]
theorem trV_bad {t : Lex.TR} (h : t.err ≠ 0) (i j : Nat) : trV t i j = .tuple #[zeroTok, .int .i64 0, .int .i64 t.err] := by unfold trV; rw [if_neg h]

theorem str_eq {b : ByteArray} {l : List UInt8} (h : b.data.toList = l) : b = ⟨l.toArray⟩ := by
 cases b; subst h; simp
theorem name_text (s : ByteArray) (i : Nat) : s.extract i (i + run Lex.inner s i) = ⟨((s.data.toList.drop i).takeWhile Lex.inner).toArray⟩ := by
 apply str_eq
 rw [extract_list, show i + run Lex.inner s i - i = run Lex.inner s i by omega]
 exact Lex.takeWhile_len _ _
theorem one_text (s : ByteArray) (i : Nat) (hi : i < s.size) : s.extract i (i + 1) = ⟨[s[i]].toArray⟩ := by
 apply str_eq
 rw [extract_list, drop_at s i hi, show i + 1 - i = 1 by omega]; rfl

def marks : ByteArray := ⟨#[123, 125, 40, 41, 44, 59, 58, 61]⟩
theorem digit_45 (c : UInt8) (h : Lex.digit c = false) : (Lex.digit c || decide (c = 45)) = ((c.toNat : Int) == 45) := by
 rw [h, Bool.false_or, Bool.eq_iff_iff, decide_eq_true_eq, beq_iff_eq]
 exact ⟨fun h => by rw [h]; rfl, fun h => Lex.byte_eq (k := 45) (by decide) (by omega)⟩

end Go.Proofs.YtnmmhcchpcbeeaaGreatDoor.LexW

namespace Go.Proofs.YtnmmhcchpcbeeaaGreatDoor.LexW
open Go Go.RowKit Go.Proofs.YtnmmhcchpcbeeaaGreatDoor.Mem

def tokCells (t : Lex.Tok) : List Value := [.int .i64 t.kind, .string ⟨t.text.toArray⟩, .int .i64 t.n, .int .i64 (t.pos : Int)]
def toksCells (l : List Lex.Tok) : List Value := l.flatMap tokCells
theorem toksCells_snoc (l : List Lex.Tok) (t : Lex.Tok) : toksCells (l ++ [t]) = toksCells l ++ tokCells t := by simp [toksCells]
/-- Where a round of the lexer stands: what is read so far, and what is still to come, give the whole. -/
def At (S : List UInt8) (k : Nat) (acc : List Lex.Tok) : Prop := Lex.LR.fin acc (Lex.lex (S.drop k) k) = Lex.lex S 0
theorem At.start (S : List UInt8) : At S 0 [] := by
 unfold At
 rw [List.drop_zero, Lex.LR.fin_nil (Lex.lex_ok _ _)]
theorem At.blank {s : ByteArray} {k : Nat} {acc : List Lex.Tok} (h : At s.data.toList k acc) (hk : k < s.size) (hb : Lex.blank s[k] = true) : At s.data.toList (k + 1) acc := by
 unfold At at *
 rw [drop_at s k hk, Lex.lex_blank _ _ hb] at h
 exact h
theorem At.note {s : ByteArray} {k : Nat} {acc : List Lex.Tok} (h : At s.data.toList k acc) (hk : k < s.size) (hb : s[k] = 35) : At s.data.toList (k + run Lex.notFeed s k) acc := by
 unfold At at *
 rw [drop_at s k hk, Lex.lex_comment _ _ hb, ← drop_at s k hk] at h
 have hd := List.drop_left (l₁ := (s.data.toList.drop k).takeWhile Lex.notFeed) (l₂ := (s.data.toList.drop k).dropWhile Lex.notFeed)
 rw [List.takeWhile_append_dropWhile, List.drop_drop] at hd
 rw [← hd] at h
 exact h
theorem At.tok {s : ByteArray} {k : Nat} {acc : List Lex.Tok} (h : At s.data.toList k acc) (hk : k < s.size) (h0 : (Lex.tokL (s.data.toList.drop k)).err = 0) :
  At s.data.toList (k + (Lex.tokL (s.data.toList.drop k)).len) (acc ++ [⟨(Lex.tokL (s.data.toList.drop k)).kind, (Lex.tokL (s.data.toList.drop k)).text, (Lex.tokL (s.data.toList.drop k)).n, k⟩]) := by
 unfold At at *
 have hd := drop_at s k hk
 have h1 : (Lex.tokL (s[k] :: s.data.toList.drop (k + 1))).err = 0 := by rw [← hd]; exact h0
 have hh := Lex.tok_head h1
 have e := Lex.lex_tok _ k hh.1 hh.2 h1
 rw [← hd, List.drop_drop] at e
 rw [e, Lex.LR.fin_cons] at h
 exact h
theorem At.bad {s : ByteArray} {k : Nat} {acc : List Lex.Tok} (h : At s.data.toList k acc) (hk : k < s.size) (hb : Lex.blank s[k] = false) (hc : s[k] ≠ 35) (h0 : (Lex.tokL (s.data.toList.drop k)).err ≠ 0) :
  Lex.lex s.data.toList 0 = ⟨[], k, (Lex.tokL (s.data.toList.drop k)).err⟩ := by
 unfold At at *
 have hd := drop_at s k hk
 have e := Lex.lex_bad (c := s[k]) (s.data.toList.drop (k + 1)) k hb hc (by rw [← hd]; exact h0)
 rw [← hd] at e
 rw [e] at h
 rw [← h]
 unfold Lex.LR.fin
 rw [if_neg h0]
theorem At.done {s : ByteArray} {k : Nat} {acc : List Lex.Tok} (h : At s.data.toList k acc) (hk : s.size ≤ k) : Lex.lex s.data.toList 0 = ⟨acc, 0, 0⟩ := by
 unfold At at h
 rw [List.drop_of_length_le (by rw [size_list]; exact hk), Lex.lex_nil] at h
 rw [← h]
 simp [Lex.LR.fin]

theorem byte_test (c : UInt8) (k : Nat) (hk : k < 256) : ((c.toNat : Int) == (k : Int)) = decide (c = UInt8.ofNat k) := by
 rw [Bool.eq_iff_iff, beq_iff_eq, decide_eq_true_eq]
 exact ⟨fun h => Lex.byte_eq hk (by omega), fun h => by rw [h, UInt8.toNat_ofNat', Nat.mod_eq_of_lt hk]⟩
/-- What the lexer hands back. -/
def TokensPost (T : TypeId) (w : World) (r : Lex.LR) (e : Ending) (w' : World) : Prop :=
 ∃ v, e = .returned (.tuple #[v, .int .i64 (r.pos : Int), .int .i64 r.err]) ∧ w'.ownsRow w.heap.size T 4 v r.toks.length (toksCells r.toks) ∧ Below w.heap.size w w'

end Go.Proofs.YtnmmhcchpcbeeaaGreatDoor.LexW

namespace Go.Proofs.YtnmmhcchpcbeeaaGreatDoor.LexW
open Go Go.RowKit

theorem run_hit {p : UInt8 → Bool} {s : ByteArray} : ∀ {q k : Nat}, q < run p s k → ∃ h : k + q < s.size, p (s[k + q]'h) = true
 | 0, k, hq => by
  by_cases h : k < s.size
  ·cases hp : p s[k]
   ·rw [run_no h hp] at hq; omega
   ·exact ⟨h, hp⟩
  ·rw [run_end (by omega)] at hq; omega
 | q + 1, k, hq => by
  by_cases h : k < s.size
  ·cases hp : p s[k]
   ·rw [run_no h hp] at hq; omega
   ·rw [run_yes h hp] at hq
    obtain ⟨h1, h2⟩ := run_hit (p := p) (s := s) (q := q) (k := k + 1) (by omega)
    have e : k + 1 + q = k + (q + 1) := by omega
    simp only [e] at h1 h2
    exact ⟨h1, h2⟩
  ·rw [run_end (by omega)] at hq; omega
theorem run_stop {p : UInt8 → Bool} {s : ByteArray} {k : Nat} : ∀ {q : Nat}, q = run p s k → ∀ h : k + q < s.size, p (s[k + q]'h) = false := by
 intro q
 induction q generalizing k with
 | zero =>
  intro hq h
  cases hp : p s[k]
  ·rfl
  ·have := run_yes (k := k) h hp; omega
 | succ q ih =>
  intro hq h
  have hk : k < s.size := by omega
  cases hp : p s[k]
  ·rw [run_no hk hp] at hq; omega
  ·rw [run_yes hk hp] at hq
   have e : k + 1 + q = k + (q + 1) := by omega
   have := ih (k := k + 1) (by omega) (by omega)
   simp only [e] at this
   exact this

theorem rnamed_any (s : ByteArray) (i : Nat) (w : World) (hi : i ≤ s.size) (hs : s.size ≤ 1000000) :
  Calls Tryz.prog 102 #[.string s, .int .i64 (i : Int)] w (Returns w (.int .i64 ((run Lex.inner s i : Nat) : Int))) := by
 have hr := run_le Lex.inner s i hi
 have hin := fun q => run_hit (p := Lex.inner) (s := s) (q := q) (k := i)
 have hst := run_stop (p := Lex.inner) (s := s) (k := i) (q := run Lex.inner s i) rfl
 generalize hR : run Lex.inner s i = R at *
 have HIN := Lib.hid hin
 have HST := Lib.hid hst
 clear hin hst hR
 go_enter Tryz.func102, Tryz.ntmps102
 go_wp2
 go_loop [5] (fun t => ∃ q : Nat, q ≤ R ∧ t = .int .i64 q) (fun t => R - (intOf t).toNat)
 case atStart => exact ⟨0, Nat.zero_le _, rfl⟩
 case round =>
  obtain ⟨q, hq, rfl⟩ := hrel
  by_cases hlt : q < R
  ·obtain ⟨hsz, hp⟩ := HIN.out q hlt
   cases h1 : Lex.letter (s[i + q]'hsz)
   ·cases h2 : Lex.digit (s[i + q]'hsz)
    ·have h3 : (((s[i + q]'hsz).toNat : Int) == 95) = true := by
      unfold Lex.inner at hp; rw [h1, h2] at hp
      simp at hp
      simp; omega
     have H1 := Lib.hid h1
     have H2 := Lib.hid h2
     clear h1 h2 hp
     go_wp2_with (first | (go_at_call 101; refine (rletter_no _ H1.out _).mono ?_; rintro e w' ⟨rfl, rfl⟩) | (go_at_call 143; refine (rdigit_no _ H2.out _).mono ?_; rintro e w' ⟨rfl, rfl⟩))
     go_round
     case rel => exact ⟨q + 1, by omega, by go_num⟩
     case measure => simp [intOf]; omega
    ·have H1 := Lib.hid h1
     have H2 := Lib.hid h2
     clear h1 h2 hp
     go_wp2_with (first | (go_at_call 101; refine (rletter_no _ H1.out _).mono ?_; rintro e w' ⟨rfl, rfl⟩) | (go_at_call 143; refine (rdigit_yes _ H2.out _).mono ?_; rintro e w' ⟨rfl, rfl⟩))
     go_round
     case rel => exact ⟨q + 1, by omega, by go_num⟩
     case measure => simp [intOf]; omega
   ·have H1 := Lib.hid h1
    clear h1 hp
    go_wp2_with (go_at_call 101; refine (rletter_yes _ H1.out _).mono ?_; rintro e w' ⟨rfl, rfl⟩)
    go_round
    case rel => exact ⟨q + 1, by omega, by go_num⟩
    case measure => simp [intOf]; omega
  ·obtain rfl : q = R := by omega
   by_cases hsz : i + q < s.size
   ·have hp := HST.out hsz
    have h1 : Lex.letter (s[i + q]'hsz) = false := by
     cases h : Lex.letter (s[i + q]'hsz)
     ·rfl
     ·rw [Lex.inner_of_letter h] at hp; cases hp
    have h2 : Lex.digit (s[i + q]'hsz) = false := by
     cases h : Lex.digit (s[i + q]'hsz)
     ·rfl
     ·rw [Lex.inner_of_digit h] at hp; cases hp
    have h3 : (((s[i + q]'hsz).toNat : Int) == 95) = false := by
     unfold Lex.inner at hp; rw [h1, h2] at hp
     rw [beq_eq_false_iff_ne]
     simp at hp; omega
    have H1 := Lib.hid h1
    have H2 := Lib.hid h2
    clear h1 h2 hp
    go_wp2_with (first | (go_at_call 101; refine (rletter_no _ H1.out _).mono ?_; rintro e w' ⟨rfl, rfl⟩) | (go_at_call 143; refine (rdigit_no _ H2.out _).mono ?_; rintro e w' ⟨rfl, rfl⟩))
    go_ret
    exact ⟨rfl, rfl⟩
   ·go_wp2
    go_ret
    exact ⟨rfl, rfl⟩

/-- The marks, place for place. -/
theorem rmark_any (c : UInt8) (w : World) : Calls Tryz.prog 173 #[.int .u8 (c.toNat : Int)] w (Returns w (.bool (Lex.mark c))) := by
 have key : Lex.mark c = (((123 : Int) == (c.toNat : Int)) || ((125 : Int) == (c.toNat : Int)) || ((40 : Int) == (c.toNat : Int)) || ((41 : Int) == (c.toNat : Int)) || ((44 : Int) == (c.toNat : Int)) || ((59 : Int) == (c.toNat : Int)) || ((58 : Int) == (c.toNat : Int)) || ((61 : Int) == (c.toNat : Int))) := by
  rw [Bool.eq_iff_iff]
  simp only [Lex.mark, List.contains_iff_mem, List.mem_cons, List.not_mem_nil, or_false, Bool.or_eq_true, beq_iff_eq]
  have e : ∀ k : Nat, k < 256 → (c = UInt8.ofNat k ↔ (k : Int) = (c.toNat : Int)) := fun k hk => ⟨fun h => by rw [h, UInt8.toNat_ofNat', Nat.mod_eq_of_lt hk], fun h => Lex.byte_eq hk (by omega)⟩
  have a1 := e 123 (by decide)
  have a2 := e 125 (by decide)
  have a3 := e 40 (by decide)
  have a4 := e 41 (by decide)
  have a5 := e 44 (by decide)
  have a6 := e 59 (by decide)
  have a7 := e 58 (by decide)
  have a8 := e 61 (by decide)
  simp only [or_assoc]
  exact or_congr a1 (or_congr a2 (or_congr a3 (or_congr a4 (or_congr a5 (or_congr a6 (or_congr a7 a8))))))
 go_enter Tryz.func173, Tryz.ntmps173
 go_wp2
 refine wp_loop_rounds 9 ?_
 rw [rounds_succ]
 go_wp2
 ·have h : ((((ByteArray.mk #[123, 125, 40, 41, 44, 59, 58, 61])[0]'(by decide)).toNat : Int) == (c.toNat : Int)) = true := by assumption
  have h' : ((123 : Int) == (c.toNat : Int)) = true := h
  go_ret
  refine ⟨ret_bool ?_, rfl⟩
  rw [key, h']; simp
 have m0 : ((((ByteArray.mk #[123, 125, 40, 41, 44, 59, 58, 61])[0]'(by decide)).toNat : Int) == (c.toNat : Int)) = false := by assumption
 have n0 : ((123 : Int) == (c.toNat : Int)) = false := m0
 have N0 := Lib.hid n0
 clear m0 n0
 rw [rounds_succ]
 go_wp2
 ·have h : ((((ByteArray.mk #[123, 125, 40, 41, 44, 59, 58, 61])[1]'(by decide)).toNat : Int) == (c.toNat : Int)) = true := by assumption
  have h' : ((125 : Int) == (c.toNat : Int)) = true := h
  go_ret
  refine ⟨ret_bool ?_, rfl⟩
  rw [key, h']; simp
 have m1 : ((((ByteArray.mk #[123, 125, 40, 41, 44, 59, 58, 61])[1]'(by decide)).toNat : Int) == (c.toNat : Int)) = false := by assumption
 have n1 : ((125 : Int) == (c.toNat : Int)) = false := m1
 have N1 := Lib.hid n1
 clear m1 n1
 rw [rounds_succ]
 go_wp2
 ·have h : ((((ByteArray.mk #[123, 125, 40, 41, 44, 59, 58, 61])[2]'(by decide)).toNat : Int) == (c.toNat : Int)) = true := by assumption
  have h' : ((40 : Int) == (c.toNat : Int)) = true := h
  go_ret
  refine ⟨ret_bool ?_, rfl⟩
  rw [key, h']; simp
 have m2 : ((((ByteArray.mk #[123, 125, 40, 41, 44, 59, 58, 61])[2]'(by decide)).toNat : Int) == (c.toNat : Int)) = false := by assumption
 have n2 : ((40 : Int) == (c.toNat : Int)) = false := m2
 have N2 := Lib.hid n2
 clear m2 n2
 rw [rounds_succ]
 go_wp2
 ·have h : ((((ByteArray.mk #[123, 125, 40, 41, 44, 59, 58, 61])[3]'(by decide)).toNat : Int) == (c.toNat : Int)) = true := by assumption
  have h' : ((41 : Int) == (c.toNat : Int)) = true := h
  go_ret
  refine ⟨ret_bool ?_, rfl⟩
  rw [key, h']; simp
 have m3 : ((((ByteArray.mk #[123, 125, 40, 41, 44, 59, 58, 61])[3]'(by decide)).toNat : Int) == (c.toNat : Int)) = false := by assumption
 have n3 : ((41 : Int) == (c.toNat : Int)) = false := m3
 have N3 := Lib.hid n3
 clear m3 n3
 rw [rounds_succ]
 go_wp2
 ·have h : ((((ByteArray.mk #[123, 125, 40, 41, 44, 59, 58, 61])[4]'(by decide)).toNat : Int) == (c.toNat : Int)) = true := by assumption
  have h' : ((44 : Int) == (c.toNat : Int)) = true := h
  go_ret
  refine ⟨ret_bool ?_, rfl⟩
  rw [key, h']; simp
 have m4 : ((((ByteArray.mk #[123, 125, 40, 41, 44, 59, 58, 61])[4]'(by decide)).toNat : Int) == (c.toNat : Int)) = false := by assumption
 have n4 : ((44 : Int) == (c.toNat : Int)) = false := m4
 have N4 := Lib.hid n4
 clear m4 n4
 rw [rounds_succ]
 go_wp2
 ·have h : ((((ByteArray.mk #[123, 125, 40, 41, 44, 59, 58, 61])[5]'(by decide)).toNat : Int) == (c.toNat : Int)) = true := by assumption
  have h' : ((59 : Int) == (c.toNat : Int)) = true := h
  go_ret
  refine ⟨ret_bool ?_, rfl⟩
  rw [key, h']; simp
 have m5 : ((((ByteArray.mk #[123, 125, 40, 41, 44, 59, 58, 61])[5]'(by decide)).toNat : Int) == (c.toNat : Int)) = false := by assumption
 have n5 : ((59 : Int) == (c.toNat : Int)) = false := m5
 have N5 := Lib.hid n5
 clear m5 n5
 rw [rounds_succ]
 go_wp2
 ·have h : ((((ByteArray.mk #[123, 125, 40, 41, 44, 59, 58, 61])[6]'(by decide)).toNat : Int) == (c.toNat : Int)) = true := by assumption
  have h' : ((58 : Int) == (c.toNat : Int)) = true := h
  go_ret
  refine ⟨ret_bool ?_, rfl⟩
  rw [key, h']; simp
 have m6 : ((((ByteArray.mk #[123, 125, 40, 41, 44, 59, 58, 61])[6]'(by decide)).toNat : Int) == (c.toNat : Int)) = false := by assumption
 have n6 : ((58 : Int) == (c.toNat : Int)) = false := m6
 have N6 := Lib.hid n6
 clear m6 n6
 rw [rounds_succ]
 go_wp2
 ·have h : ((((ByteArray.mk #[123, 125, 40, 41, 44, 59, 58, 61])[7]'(by decide)).toNat : Int) == (c.toNat : Int)) = true := by assumption
  have h' : ((61 : Int) == (c.toNat : Int)) = true := h
  go_ret
  refine ⟨ret_bool ?_, rfl⟩
  rw [key, h']; simp
 have m7 : ((((ByteArray.mk #[123, 125, 40, 41, 44, 59, 58, 61])[7]'(by decide)).toNat : Int) == (c.toNat : Int)) = false := by assumption
 have n7 : ((61 : Int) == (c.toNat : Int)) = false := m7
 have N7 := Lib.hid n7
 clear m7 n7
 rw [rounds_succ]
 go_wp2
 go_ret
 refine ⟨ret_bool ?_, rfl⟩
 rw [key, N0.out, N1.out, N2.out, N3.out, N4.out, N5.out, N6.out, N7.out]; rfl
end Go.Proofs.YtnmmhcchpcbeeaaGreatDoor.LexW
