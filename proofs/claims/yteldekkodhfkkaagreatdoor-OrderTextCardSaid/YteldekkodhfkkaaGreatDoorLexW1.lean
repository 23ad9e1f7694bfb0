/- Walks: the classes of bytes, of the program and of the reference. Conditions: none. -/
import Derived.Test.YteldekkodhfkkaaGreatDoorProg
import Derived.Test.YteldekkodhfkkaaGreatDoorLexPlain
import Derived.WalkKit
import Derived.WalkLawsBesides
import Derived.WalkSpells
import Derived.Lib.Hide
import Derived.BigQuiet
import Derived.Deep.QuietTactic
namespace Go.Proofs.YteldekkodhfkkaaGreatDoor.LexW
open Go Go.RowKit

abbrev Returns (w : World) (v : Value) : Ending → World → Prop := fun e w' => e = .returned v ∧ w = w'

theorem ret_bool {a b : Bool} (h : a = b) : Ending.returned (.bool a) = .returned (.bool b) := by rw [h]
theorem ret_int {k : IntKind} {a b : Int} (h : a = b) : Ending.returned (.int k a) = .returned (.int k b) := by rw [h]
theorem byte_lt (c : UInt8) : (c.toNat : Int) < 256 := by have := c.toNat_lt; omega

theorem letter_any (c : UInt8) (w : World) : Calls Tryz.prog 58 #[.int .u8 (c.toNat : Int)] w (Returns w (.bool (Lex.letter c))) := by
  rcases (show (97 ≤ c.toNat ∧ c.toNat ≤ 122) ∨ (122 < c.toNat) ∨ (c.toNat < 97 ∧ 65 ≤ c.toNat ∧ c.toNat ≤ 90) ∨ (90 < c.toNat ∧ c.toNat < 97) ∨ c.toNat < 65 by omega) with h | h | h | h | h
  all_goals
    go_enter Tryz.func58, Tryz.ntmps58
    go_wp2
    go_ret
    refine ⟨ret_bool ?_, rfl⟩
    rw [Bool.eq_iff_iff]
    simp [Lex.letter]
    omega
theorem digit_any (c : UInt8) (w : World) : Calls Tryz.prog 60 #[.int .u8 (c.toNat : Int)] w (Returns w (.bool (Lex.digit c))) := by
  rcases (show (48 ≤ c.toNat ∧ c.toNat ≤ 57) ∨ (57 < c.toNat) ∨ c.toNat < 48 by omega) with h | h | h
  all_goals
    go_enter Tryz.func60, Tryz.ntmps60
    go_wp2
    go_ret
    refine ⟨ret_bool ?_, rfl⟩
    rw [Bool.eq_iff_iff]
    simp [Lex.digit]
    omega
theorem letter_yes (c : UInt8) (h : Lex.letter c = true) (w : World) : Calls Tryz.prog 58 #[.int .u8 (c.toNat : Int)] w (Returns w (.bool true)) := by
  have := letter_any c w; rwa [h] at this
theorem letter_no (c : UInt8) (h : Lex.letter c = false) (w : World) : Calls Tryz.prog 58 #[.int .u8 (c.toNat : Int)] w (Returns w (.bool false)) := by
  have := letter_any c w; rwa [h] at this
theorem digit_yes (c : UInt8) (h : Lex.digit c = true) (w : World) : Calls Tryz.prog 60 #[.int .u8 (c.toNat : Int)] w (Returns w (.bool true)) := by
  have := digit_any c w; rwa [h] at this
theorem digit_no (c : UInt8) (h : Lex.digit c = false) (w : World) : Calls Tryz.prog 60 #[.int .u8 (c.toNat : Int)] w (Returns w (.bool false)) := by
  have := digit_any c w; rwa [h] at this
theorem inner_any (c : UInt8) (w : World) : Calls Tryz.prog 59 #[.int .u8 (c.toNat : Int)] w (Returns w (.bool (Lex.inner c))) := by
  cases h1 : Lex.letter c
  · cases h2 : Lex.digit c
    · have H1 := Lib.hid h1
      have H2 := Lib.hid h2
      have hI : Lex.inner c = ((c.toNat : Int) == 95) := by
        rw [Bool.eq_iff_iff]; simp [Lex.inner, h1, h2]; omega
      rw [hI]
      clear h1 h2 hI
      cases h3 : ((c.toNat : Int) == 95)
      all_goals
        go_enter Tryz.func59, Tryz.ntmps59
        go_wp2_with (first | (go_at_call 58; refine (letter_no _ H1.out _).mono ?_; rintro e w' ⟨rfl, rfl⟩) | (go_at_call 60; refine (digit_no _ H2.out _).mono ?_; rintro e w' ⟨rfl, rfl⟩))
        go_ret
        exact ⟨rfl, rfl⟩
    · have H1 := Lib.hid h1
      have H2 := Lib.hid h2
      have hI : Lex.inner c = true := by simp [Lex.inner, h2]
      rw [hI]
      clear h1 h2 hI
      go_enter Tryz.func59, Tryz.ntmps59
      go_wp2_with (first | (go_at_call 58; refine (letter_no _ H1.out _).mono ?_; rintro e w' ⟨rfl, rfl⟩) | (go_at_call 60; refine (digit_yes _ H2.out _).mono ?_; rintro e w' ⟨rfl, rfl⟩))
      go_ret
      exact ⟨rfl, rfl⟩
  · have H1 := Lib.hid h1
    have hI : Lex.inner c = true := by simp [Lex.inner, h1]
    rw [hI]
    clear h1 hI
    go_enter Tryz.func59, Tryz.ntmps59
    go_wp2_with (go_at_call 58; refine (letter_yes _ H1.out _).mono ?_; rintro e w' ⟨rfl, rfl⟩)
    go_ret
    exact ⟨rfl, rfl⟩
theorem inner_yes (c : UInt8) (h : Lex.inner c = true) (w : World) : Calls Tryz.prog 59 #[.int .u8 (c.toNat : Int)] w (Returns w (.bool true)) := by
  have := inner_any c w; rwa [h] at this
theorem inner_no (c : UInt8) (h : Lex.inner c = false) (w : World) : Calls Tryz.prog 59 #[.int .u8 (c.toNat : Int)] w (Returns w (.bool false)) := by
  have := inner_any c w; rwa [h] at this
theorem feed_any (c : UInt8) (w : World) : Calls Tryz.prog 34 #[.int .u8 (c.toNat : Int)] w (Returns w (.bool (Lex.notFeed c))) := by
  by_cases h : c.toNat = 10
  all_goals
    go_enter Tryz.func34, Tryz.ntmps34
    go_wp2
    go_ret
    refine ⟨ret_bool ?_, rfl⟩
    rw [Bool.eq_iff_iff]
    simp [Lex.notFeed]
    omega

/-! ### The reference -/
theorem rletter_any (c : UInt8) (w : World) : Calls Tryz.prog 63 #[.int .u8 (c.toNat : Int)] w (Returns w (.bool (Lex.letter c))) := by
  rcases (show (97 ≤ c.toNat ∧ c.toNat ≤ 122) ∨ (122 < c.toNat) ∨ (c.toNat < 97 ∧ 65 ≤ c.toNat ∧ c.toNat ≤ 90) ∨ (90 < c.toNat ∧ c.toNat < 97) ∨ c.toNat < 65 by omega) with h | h | h | h | h
  all_goals
    go_enter Tryz.func63, Tryz.ntmps63
    go_wp2
    go_ret
    refine ⟨ret_bool ?_, rfl⟩
    rw [Bool.eq_iff_iff]
    simp [Lex.letter]
    omega
theorem rdigit_any (c : UInt8) (w : World) : Calls Tryz.prog 65 #[.int .u8 (c.toNat : Int)] w (Returns w (.bool (Lex.digit c))) := by
  rcases (show (48 ≤ c.toNat ∧ c.toNat ≤ 57) ∨ (57 < c.toNat) ∨ c.toNat < 48 by omega) with h | h | h
  all_goals
    go_enter Tryz.func65, Tryz.ntmps65
    go_wp2
    go_ret
    refine ⟨ret_bool ?_, rfl⟩
    rw [Bool.eq_iff_iff]
    simp [Lex.digit]
    omega
theorem rblank_any (c : UInt8) (w : World) : Calls Tryz.prog 41 #[.int .u8 (c.toNat : Int)] w (Returns w (.bool (Lex.blank c))) := by
  rcases (show c.toNat = 32 ∨ c.toNat = 9 ∨ c.toNat = 10 ∨ (c.toNat ≠ 32 ∧ c.toNat ≠ 9 ∧ c.toNat ≠ 10) by omega) with h | h | h | h
  all_goals
    go_enter Tryz.func41, Tryz.ntmps41
    go_wp2
    go_ret
    refine ⟨ret_bool ?_, rfl⟩
    rw [Bool.eq_iff_iff]
    simp [Lex.blank]
    omega
theorem rletter_yes (c : UInt8) (h : Lex.letter c = true) (w : World) : Calls Tryz.prog 63 #[.int .u8 (c.toNat : Int)] w (Returns w (.bool true)) := by
  have := rletter_any c w; rwa [h] at this
theorem rletter_no (c : UInt8) (h : Lex.letter c = false) (w : World) : Calls Tryz.prog 63 #[.int .u8 (c.toNat : Int)] w (Returns w (.bool false)) := by
  have := rletter_any c w; rwa [h] at this
theorem rdigit_yes (c : UInt8) (h : Lex.digit c = true) (w : World) : Calls Tryz.prog 65 #[.int .u8 (c.toNat : Int)] w (Returns w (.bool true)) := by
  have := rdigit_any c w; rwa [h] at this
theorem rdigit_no (c : UInt8) (h : Lex.digit c = false) (w : World) : Calls Tryz.prog 65 #[.int .u8 (c.toNat : Int)] w (Returns w (.bool false)) := by
  have := rdigit_any c w; rwa [h] at this
theorem rblank_yes (c : UInt8) (h : Lex.blank c = true) (w : World) : Calls Tryz.prog 41 #[.int .u8 (c.toNat : Int)] w (Returns w (.bool true)) := by
  have := rblank_any c w; rwa [h] at this
theorem rblank_no (c : UInt8) (h : Lex.blank c = false) (w : World) : Calls Tryz.prog 41 #[.int .u8 (c.toNat : Int)] w (Returns w (.bool false)) := by
  have := rblank_any c w; rwa [h] at this
end Go.Proofs.YteldekkodhfkkaaGreatDoor.LexW
