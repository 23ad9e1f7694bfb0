/- Walks: a token's text; names. Conditions: numbers are ints; the text of a name has at most a million bytes. -/
import Derived.Test.YtnkkcknogkgdkaaGreatDoorLexW7
import Derived.Lib.LaidTab
import Derived.WalkSmall
import Derived.Laws.BytesString
import Derived.Laws.Concat
import Derived.Lib.AppendIntMem
import Derived.Test.YtnkkcknogkgdkaaGreatDoorShelf

namespace Go.Proofs.YtnkkcknogkgdkaaGreatDoor.LexW
open Go Go.RowKit Go.Proofs.YtnkkcknogkgdkaaGreatDoor.Mem

theorem dec_len : ∀ (k u : Nat), u < 10 ^ (k + 1) → (Lib.decDigits u).length ≤ k + 1
 | 0, u, h => by
  rw [Lib.decDigits, dif_pos (by simpa using h)]; simp
 | k + 1, u, h => by
  rw [Lib.decDigits]
  split
  ·simp
  ·have : u / 10 < 10 ^ (k + 1) := by rw [Nat.pow_succ] at h; omega
   have := dec_len k (u / 10) this
   rw [List.length_append]; simp; omega

theorem str_size (a : List UInt8) : (ByteArray.mk a.toArray).size = a.length := by
 show a.toArray.size = _; simp

/-- Where the loop of digits stands. -/
def DigAt (full : List UInt8) (m : Nat) (acc : List UInt8) : Prop := (m = 0 → acc = full) ∧ (1 ≤ m → Lib.decDigits m ++ acc = full)
theorem DigAt.step {full : List UInt8} {m : Nat} {acc : List UInt8} (h : DigAt full m acc) (hm : 1 ≤ m) : DigAt full (m / 10) (UInt8.ofNat (48 + m % 10) :: acc) := by
 have h2 := h.2 hm
 rw [Lib.decDigits] at h2
 by_cases hs : m < 10
 ·rw [dif_pos hs] at h2
  have e : m % 10 = m := by omega
  rw [e]
  exact ⟨fun _ => h2, fun h => absurd h (by omega)⟩
 ·rw [dif_neg hs, List.append_assoc] at h2
  exact ⟨fun h => absurd h (by omega), fun _ => h2⟩

/-! ### The table that strconv.Itoa reads -/
theorem gPow : Tryz.prog.globalNamed "internal/strconv.uint64pow10" = some 1 := by kernel_rfl
/-- The library's table of powers of ten holds what its text lays. -/
structure Laid (w : World) : Prop where
 tab : Lib.TabIs Tryz.prog w "internal/strconv.uint64pow10" .u64 Lib.pow10Tab
 lt : 1 < w.heap.size
theorem Laid.below {w w' : World} (h : Laid w) (hb : Below w.heap.size w w') : Laid w' :=
 ⟨var?_below hb gPow h.lt h.tab, Nat.lt_of_lt_of_le h.lt hb.size⟩
theorem itoa_any (n : Int) (w : World) (hL : Laid w) (h0 : -9223372036854775808 ≤ n) (h1 : n ≤ 9223372036854775807) :
  Calls Tryz.prog 70 #[.int .i64 n] w fun e w' => e = .returned (.string ⟨(Lib.itoa n).toArray⟩) ∧ Below w.heap.size w w' :=
 (Tryz.strconv_Itoa n h0 h1 w hL.tab).mono fun e w' ⟨he, k, os, hw⟩ => ⟨he, by subst hw; exact Lib.below_grow _ _ (Nat.le_refl _) _ _⟩
end Go.Proofs.YtnkkcknogkgdkaaGreatDoor.LexW

namespace Go.Proofs.YtnkkcknogkgdkaaGreatDoor.LexW
open Go Go.RowKit Go.Proofs.YtnkkcknogkgdkaaGreatDoor.Mem

def I64 (n : Int) : Prop := -9223372036854775808 ≤ n ∧ n ≤ 9223372036854775807
def tokV (t : Lex.Tok) : Value := .agg #[.int .i64 t.kind, .string ⟨t.text.toArray⟩, .int .i64 t.n, .int .i64 (t.pos : Int)]

theorem write_any (k n p : Int) (text : List UInt8) (w : World) (hL : Laid w) (hn : I64 n) :
  Calls Tryz.prog 35 #[.agg #[.int .i64 k, .string ⟨text.toArray⟩, .int .i64 n, .int .i64 p]] w fun e w' => e = .returned (.string ⟨(if k = 2 then Lib.itoa n else text).toArray⟩) ∧ Below w.heap.size w w' := by
 by_cases h : k = 2
 ·rw [if_pos h]
  have hb : (k == 2) = true := by simpa using h
  have HN := Lib.hid hn
  have hL1 := fun o => hL.below ((Below.refl _ w).alloc (Nat.le_refl _) o)
  have HL := Lib.hid hL1
  clear h hn hL hL1
  go_enter Tryz.func35, Tryz.ntmps35
  go_wp2_with (go_at_call 70; refine (itoa_any n _ (HL.out _) HN.out.1 HN.out.2).mono ?_; rintro e w1 ⟨rfl, hb1⟩)
  go_ret
  exact ⟨rfl, ((Below.refl _ _).alloc (Nat.le_refl _) _).trans (hb1.mono (by simp))⟩
 ·rw [if_neg h]
  have hb : (k == 2) = false := by simpa using h
  clear h
  go_enter Tryz.func35, Tryz.ntmps35
  go_wp2
  go_ret
  exact ⟨rfl, (Below.refl _ _).alloc (Nat.le_refl _) _⟩
theorem isName_eq (s : ByteArray) (h0 : 0 < s.size) : Lex.isName s.data.toList = (decide (s.size ≤ 16) && Lex.letter s[0] && decide (run Lex.inner s 0 = s.size)) := by
 have hl := get_list s h0
 have ha : s.data.toList.all Lex.inner = decide (run Lex.inner s 0 = s.size) := by
  rw [Bool.eq_iff_iff, decide_eq_true_eq]
  unfold run
  rw [List.drop_zero, ← size_list]
  constructor
  ·intro h
   have := Lex.takeWhile_stop (p := Lex.inner) (fun _ h => h) (w := s.data.toList) (rest := []) h rfl
   rw [List.append_nil] at this
   rw [this]
  ·intro h
   have h1 := Lex.takeWhile_len Lex.inner s.data.toList
   rw [h, List.take_length] at h1
   have h2 := Lex.takeWhile_all Lex.inner s.data.toList
   rw [← h1] at h2
   exact h2
 unfold Lex.isName
 rw [ha, size_list]
 have h1 : s.data.toList.headD 0 = s[0] := by rw [hl]; rfl
 rw [h1]
 have : decide (1 ≤ s.size) = true := decide_eq_true (by omega)
 rw [this, Bool.true_and]

theorem toList_empty (s : ByteArray) : s.toList.isEmpty = decide (s.size = 0) := by
 rw [Go.ByteArray.toList_eq, Bool.eq_iff_iff, decide_eq_true_eq, List.isEmpty_iff, ← size_list]
 exact ⟨fun h => by rw [h]; rfl, fun h => List.eq_nil_of_length_eq_zero h⟩

set_option maxRecDepth 100000 in
theorem isName_any (s : ByteArray) (w : World) (hs : s.size ≤ 1000000) : Calls Tryz.prog 112 #[.string s] w (Returns w (.bool (Lex.isName s.data.toList))) := by
 have he := toList_empty s
 by_cases h0 : s.size = 0
 ·have hF : Lex.isName s.data.toList = false := by unfold Lex.isName; rw [size_list, h0]; rfl
  rw [hF]
  have h1 : s.toList.isEmpty = true := by rw [he]; simpa using h0
  clear he h0 hF
  go_enter Tryz.func112, Tryz.ntmps112
  go_wp2
  go_ret
  exact ⟨rfl, rfl⟩
 ·have h1 : s.toList.isEmpty = false := by rw [he]; simpa using h0
  have hp : 0 < s.size := by omega
  have hI := isName_eq s hp
  by_cases h16 : s.size ≤ 16
  ·cases hl : Lex.letter s[0]
   ·have hF : Lex.isName s.data.toList = false := by rw [hI, hl]; simp
    rw [hF]
    have HL := Lib.hid hl
    clear he h0 hF hI hl
    go_enter Tryz.func112, Tryz.ntmps112
    go_wp2_with (go_at_call 119; refine (letter_no _ HL.out _).mono ?_; rintro e w' ⟨rfl, rfl⟩)
    go_ret
    exact ⟨rfl, rfl⟩
   ·have hF : Lex.isName s.data.toList = ((run Lex.inner s 0 : Int) == (s.size : Int)) := by
     rw [hI, hl, Bool.eq_iff_iff]; simp [h16]; omega
    rw [hF]
    have HL := Lib.hid hl
    have hW := fun w => while_inner s 0 w (Nat.zero_le _) hs
    rw [Nat.zero_add] at hW
    have HW := Lib.hid hW
    clear he h0 hF hI hl hW
    generalize run Lex.inner s 0 = r at *
    cases hr : ((r : Int) == (s.size : Int))
    all_goals
     go_enter Tryz.func112, Tryz.ntmps112
     go_wp2_with (first | (go_at_call 119; refine (letter_yes _ HL.out _).mono ?_; rintro e w' ⟨rfl, rfl⟩) | (go_at_call 60; refine (HW.out _).mono ?_; rintro e w' ⟨rfl, rfl⟩))
     go_ret
     exact ⟨rfl, rfl⟩
  ·have hF : Lex.isName s.data.toList = false := by rw [hI]; simp [h16]
   rw [hF]
   clear he h0 hF hI
   go_enter Tryz.func112, Tryz.ntmps112
   go_wp2
   go_ret
   exact ⟨rfl, rfl⟩

end Go.Proofs.YtnkkcknogkgdkaaGreatDoor.LexW
