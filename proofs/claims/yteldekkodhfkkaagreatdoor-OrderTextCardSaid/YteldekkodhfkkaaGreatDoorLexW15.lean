/- Walks: a token's text; names. Conditions: numbers are ints; the text of a name has at most a million bytes. -/
import Derived.Test.YteldekkodhfkkaaGreatDoorLexW14
import Derived.Test.YteldekkodhfkkaaGreatDoorLexW7
namespace Go.Proofs.YteldekkodhfkkaaGreatDoor.LexW
open Go Go.RowKit Go.Proofs.YteldekkodhfkkaaGreatDoor.Mem

def I64 (n : Int) : Prop := -9223372036854775808 ≤ n ∧ n ≤ 9223372036854775807
def tokV (t : Lex.Tok) : Value := .agg #[.int .i64 t.kind, .string ⟨t.text.toArray⟩, .int .i64 t.n, .int .i64 (t.pos : Int)]

theorem isName_eq (s : ByteArray) (h0 : 0 < s.size) : Lex.isName s.data.toList = (decide (s.size ≤ 16) && Lex.letter s[0] && decide (run Lex.inner s 0 = s.size)) := by
  have hl := get_list s h0
  have ha : s.data.toList.all Lex.inner = decide (run Lex.inner s 0 = s.size) := by
    rw [Bool.eq_iff_iff, decide_eq_true_eq]
    unfold run
    rw [List.drop_zero, ← size_list]
    constructor
    · intro h
      have := Lex.takeWhile_stop (p := Lex.inner) (fun _ h => h) (w := s.data.toList) (rest := []) h rfl
      rw [List.append_nil] at this
      rw [this]
    · intro h
      have h1 := Lex.takeWhile_len Lex.inner s.data.toList
      rw [h, List.take_length] at h1
      have h2 := Lex.takeWhile_all Lex.inner s.data.toList
      rw [← h1] at h2
      exact h2
  unfold Lex.isName
  rw [ha, size_list]
  have h1 : s.data.toList.headD 0 = s[0] := by rw [hl]; rfl
  rw [h1]
  have : decide (1 ≤ s.size) = true := decide_eq_true (by omega)
  rw [this, Bool.true_and]

theorem toList_empty (s : ByteArray) : s.toList.isEmpty = decide (s.size = 0) := by
  rw [Go.ByteArray.toList_eq, Bool.eq_iff_iff, decide_eq_true_eq, List.isEmpty_iff, ← size_list]
  exact ⟨fun h => by rw [h]; rfl, fun h => List.eq_nil_of_length_eq_zero h⟩

set_option maxRecDepth 100000 in
theorem isName_any (s : ByteArray) (w : World) (hs : s.size ≤ 1000000) : Calls Tryz.prog 69 #[.string s] w (Returns w (.bool (Lex.isName s.data.toList))) := by
  have he := toList_empty s
  by_cases h0 : s.size = 0
  · have hF : Lex.isName s.data.toList = false := by unfold Lex.isName; rw [size_list, h0]; rfl
    rw [hF]
    have h1 : s.toList.isEmpty = true := by rw [he]; simpa using h0
    clear he h0 hF
    go_enter Tryz.func69, Tryz.ntmps69
    go_wp2
    go_ret
    exact ⟨rfl, rfl⟩
  · have h1 : s.toList.isEmpty = false := by rw [he]; simpa using h0
    have hp : 0 < s.size := by omega
    have hI := isName_eq s hp
    by_cases h16 : s.size ≤ 16
    · cases hl : Lex.letter s[0]
      · have hF : Lex.isName s.data.toList = false := by rw [hI, hl]; simp
        rw [hF]
        have HL := Lib.hid hl
        clear he h0 hF hI hl
        go_enter Tryz.func69, Tryz.ntmps69
        go_wp2_with (go_at_call 58; refine (letter_no _ HL.out _).mono ?_; rintro e w' ⟨rfl, rfl⟩)
        go_ret
        exact ⟨rfl, rfl⟩
      · have hF : Lex.isName s.data.toList = ((run Lex.inner s 0 : Int) == (s.size : Int)) := by
          rw [hI, hl, Bool.eq_iff_iff]; simp [h16]; omega
        rw [hF]
        have HL := Lib.hid hl
        have hW := fun w => while_inner s 0 w (Nat.zero_le _) hs
        rw [Nat.zero_add] at hW
        have HW := Lib.hid hW
        clear he h0 hF hI hl hW
        generalize run Lex.inner s 0 = r at *
        cases hr : ((r : Int) == (s.size : Int))
        all_goals
          go_enter Tryz.func69, Tryz.ntmps69
          go_wp2_with (first | (go_at_call 58; refine (letter_yes _ HL.out _).mono ?_; rintro e w' ⟨rfl, rfl⟩) | (go_at_call 33; refine (HW.out _).mono ?_; rintro e w' ⟨rfl, rfl⟩))
          go_ret
          exact ⟨rfl, rfl⟩
    · have hF : Lex.isName s.data.toList = false := by rw [hI]; simp [h16]
      rw [hF]
      clear he h0 hF hI
      go_enter Tryz.func69, Tryz.ntmps69
      go_wp2
      go_ret
      exact ⟨rfl, rfl⟩

set_option maxRecDepth 100000 in
theorem risName_any (s : ByteArray) (w : World) (hs : s.size ≤ 1000000) : Calls Tryz.prog 49 #[.string s] w (Returns w (.bool (Lex.isName s.data.toList))) := by
  by_cases h0 : s.size = 0
  · have hF : Lex.isName s.data.toList = false := by unfold Lex.isName; rw [size_list, h0]; rfl
    rw [hF]
    have h1 : s.size ≤ 0 := by omega
    clear h0 hF
    go_enter Tryz.func49, Tryz.ntmps49
    go_wp2
    go_ret
    exact ⟨rfl, rfl⟩
  · have hp : 0 < s.size := by omega
    have hp1 : 1 ≤ s.size := by omega
    have hI := isName_eq s hp
    by_cases h16 : s.size ≤ 16
    · cases hl : Lex.letter s[0]
      · have hF : Lex.isName s.data.toList = false := by rw [hI, hl]; simp
        rw [hF]
        have HL := Lib.hid hl
        clear h0 hF hI hl
        go_enter Tryz.func49, Tryz.ntmps49
        go_wp2_with (go_at_call 63; refine (rletter_no _ HL.out _).mono ?_; rintro e w' ⟨rfl, rfl⟩)
        go_ret
        exact ⟨rfl, rfl⟩
      · have hF : Lex.isName s.data.toList = ((run Lex.inner s 0 : Int) == (s.size : Int)) := by
          rw [hI, hl, Bool.eq_iff_iff]; simp [h16]; omega
        rw [hF]
        have HL := Lib.hid hl
        have hW := fun w => rnamed_any s 0 w (Nat.zero_le _) hs
        have HW := Lib.hid hW
        clear h0 hF hI hl hW
        generalize run Lex.inner s 0 = r at *
        cases hr : ((r : Int) == (s.size : Int))
        all_goals
          go_enter Tryz.func49, Tryz.ntmps49
          go_wp2_with (first | (go_at_call 63; refine (rletter_yes _ HL.out _).mono ?_; rintro e w' ⟨rfl, rfl⟩) | (go_at_call 64; refine (HW.out _).mono ?_; rintro e w' ⟨rfl, rfl⟩))
          go_ret
          exact ⟨rfl, rfl⟩
    · have hF : Lex.isName s.data.toList = false := by rw [hI]; simp [h16]
      rw [hF]
      clear h0 hF hI
      go_enter Tryz.func49, Tryz.ntmps49
      go_wp2
      go_ret
      exact ⟨rfl, rfl⟩
end Go.Proofs.YteldekkodhfkkaaGreatDoor.LexW
