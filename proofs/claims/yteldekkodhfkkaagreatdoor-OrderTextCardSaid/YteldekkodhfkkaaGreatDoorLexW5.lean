/- Walks: the program's reader of one token. Conditions: the offset lies in the text; the text has at most a million bytes. -/
import Derived.Test.YteldekkodhfkkaaGreatDoorLexW4
namespace Go.Proofs.YteldekkodhfkkaaGreatDoor.LexW
open Go Go.RowKit

theorem trV_ok {t : Lex.TR} (h : t.err = 0) (i j : Nat) : trV t i j = .tuple #[okTok t i, .int .i64 (j : Int), .int .i64 0] := by unfold trV; rw [if_pos h]
theorem trV_bad {t : Lex.TR} (h : t.err ≠ 0) (i j : Nat) : trV t i j = .tuple #[zeroTok, .int .i64 0, .int .i64 t.err] := by unfold trV; rw [if_neg h]

theorem number_any (s : ByteArray) (i : Nat) (w : World) (hi : i < s.size) (hs : s.size ≤ 1000000) (hc : (Lex.digit s[i] || decide (s[i] = 45)) = true) :
    Calls Tryz.prog 61 #[.string s, .int .i64 (i : Int)] w fun e w' => e = .returned (trV (Lex.numL s[i] (s.data.toList.drop (i + 1))) i (i + 1 + run Lex.digit s (i + 1))) ∧ Below w.heap.size w w' := by
  by_cases hend : i + 1 + run Lex.digit s (i + 1) < s.size
  · cases hin : Lex.inner (s[i + 1 + run Lex.digit s (i + 1)]'hend)
    · exact number_in s i w hi hs hc hend hin
    · have hb : Lex.numL s[i] (s.data.toList.drop (i + 1)) = bad3 := by
        unfold Lex.numL
        rw [if_pos (by unfold Lex.numBad; rw [(next_inner s i hend).trans hin]; simp)]; rfl
      rw [hb, trV_bad3]
      exact number_glued s i w hi hs hend hin
  · exact number_end s i w hi hs hc (by omega)
theorem number_ok (s : ByteArray) (i : Nat) (w : World) (hi : i < s.size) (hs : s.size ≤ 1000000) (hc : (Lex.digit s[i] || decide (s[i] = 45)) = true) (h : (Lex.numL s[i] (s.data.toList.drop (i + 1))).err = 0) :
    Calls Tryz.prog 61 #[.string s, .int .i64 (i : Int)] w fun e w' => e = .returned (.tuple #[okTok (Lex.numL s[i] (s.data.toList.drop (i + 1))) i, .int .i64 ((i + 1 + run Lex.digit s (i + 1) : Nat) : Int), .int .i64 0]) ∧ Below w.heap.size w w' := by
  have := number_any s i w hi hs hc
  rwa [trV_ok h] at this
theorem number_bad (s : ByteArray) (i : Nat) (w : World) (hi : i < s.size) (hs : s.size ≤ 1000000) (hc : (Lex.digit s[i] || decide (s[i] = 45)) = true) (h : (Lex.numL s[i] (s.data.toList.drop (i + 1))).err ≠ 0) :
    Calls Tryz.prog 61 #[.string s, .int .i64 (i : Int)] w fun e w' => e = .returned (.tuple #[zeroTok, .int .i64 0, .int .i64 (Lex.numL s[i] (s.data.toList.drop (i + 1))).err]) ∧ Below w.heap.size w w' := by
  have := number_any s i w hi hs hc
  rwa [trV_bad h] at this

theorem str_eq {b : ByteArray} {l : List UInt8} (h : b.data.toList = l) : b = ⟨l.toArray⟩ := by
  cases b; subst h; simp
theorem name_text (s : ByteArray) (i : Nat) : s.extract i (i + run Lex.inner s i) = ⟨((s.data.toList.drop i).takeWhile Lex.inner).toArray⟩ := by
  apply str_eq
  rw [extract_list, show i + run Lex.inner s i - i = run Lex.inner s i by omega]
  exact Lex.takeWhile_len _ _
theorem one_text (s : ByteArray) (i : Nat) (hi : i < s.size) : s.extract i (i + 1) = ⟨[s[i]].toArray⟩ := by
  apply str_eq
  rw [extract_list, drop_at s i hi, show i + 1 - i = 1 by omega]; rfl

theorem index_mark (l : List UInt8) (c : UInt8) : (l.contains c = true → 0 ≤ Lib.indexByte l c) ∧ (l.contains c = false → Lib.indexByte l c = -1) := by
  induction l with
  | nil => exact ⟨fun h => by simp at h, fun _ => rfl⟩
  | cons b t ih =>
    simp only [Lib.indexByte, List.contains_cons]
    by_cases hb : b = c
    · subst hb; simp
    · have h1 : (b == c) = false := by simpa using hb
      have h2 : (c == b) = false := by simpa using Ne.symm hb
      rw [h1, h2]
      simp only [Bool.false_or, Bool.false_eq_true, if_false]
      refine ⟨fun h => ?_, fun h => ?_⟩
      · have := ih.1 h
        split <;> rename_i hx
        · simp only [beq_iff_eq] at hx; omega
        · omega
      · rw [ih.2 h]; rfl
def marks : ByteArray := ⟨#[123, 125, 40, 41, 44, 59, 58, 61]⟩
theorem index_yes (c : UInt8) (h : Lex.mark c = true) (w : World) : Calls Tryz.prog 62 #[.string ⟨#[123, 125, 40, 41, 44, 59, 58, 61]⟩, .int .u8 (c.toNat : Int)] w fun e w' => (∃ m : Int, e = .returned (.int .i64 m) ∧ 0 ≤ m) ∧ w = w' := by
  refine (Tryz.strings_IndexByte _ _ _).mono fun e w' ⟨he, hw⟩ => ⟨⟨_, he, ?_⟩, hw.symm⟩
  rw [Int.toNat_natCast, show c.toNat.toUInt8 = c by simp [Nat.toUInt8]]
  exact (index_mark _ c).1 h
theorem index_no (c : UInt8) (h : Lex.mark c = false) (w : World) : Calls Tryz.prog 62 #[.string ⟨#[123, 125, 40, 41, 44, 59, 58, 61]⟩, .int .u8 (c.toNat : Int)] w (Returns w (.int .i64 (-1))) := by
  refine (Tryz.strings_IndexByte _ _ _).mono fun e w' ⟨he, hw⟩ => ⟨?_, hw.symm⟩
  rw [he, Int.toNat_natCast, show c.toNat.toUInt8 = c by simp [Nat.toUInt8]]
  exact ret_int ((index_mark _ c).2 h)

theorem digit_45 (c : UInt8) (h : Lex.digit c = false) : (Lex.digit c || decide (c = 45)) = ((c.toNat : Int) == 45) := by
  rw [h, Bool.false_or, Bool.eq_iff_iff, decide_eq_true_eq, beq_iff_eq]
  exact ⟨fun h => by rw [h]; rfl, fun h => Lex.byte_eq (k := 45) (by decide) (by omega)⟩

set_option maxRecDepth 100000 in
theorem token_long (s : ByteArray) (i : Nat) (w : World) (hi : i < s.size) (hs : s.size ≤ 1000000) (h1 : Lex.letter s[i] = true) (h2 : 16 < run Lex.inner s i) :
    Calls Tryz.prog 35 #[.string s, .int .i64 (i : Int)] w fun e w' => e = .returned (.tuple #[zeroTok, .int .i64 0, .int .i64 9]) ∧ Below w.heap.size w w' := by
  have hr := run_le Lex.inner s i (by omega)
  generalize hk : run Lex.inner s i = k at *
  have HK := Lib.hid hk
  have H1 := Lib.hid h1
  clear hk h1
  go_enter Tryz.func35, Tryz.ntmps35
  go_wp2_with (first | (go_at_call 58; refine (letter_yes _ H1.out _).mono ?_; rintro e w' ⟨rfl, rfl⟩) | (go_at_call 33; refine (while_inner s i _ (by omega) hs).mono ?_; rintro e w' ⟨rfl, rfl⟩; rw [HK.out]))
  exact bodyPost_ret (v := .tuple #[zeroTok, .int .i64 0, .int .i64 9]) (by simp [results, Tryz.results35, go_sem, zeroTok]) rfl ⟨rfl, (Below.refl _ _).alloc (Nat.le_refl _) _⟩

set_option maxRecDepth 100000 in
theorem token_name (s : ByteArray) (i : Nat) (w : World) (hi : i < s.size) (hs : s.size ≤ 1000000) (h1 : Lex.letter s[i] = true) (h2 : run Lex.inner s i ≤ 16) :
    Calls Tryz.prog 35 #[.string s, .int .i64 (i : Int)] w fun e w' => e = .returned (.tuple #[.agg #[.int .i64 1, .string (s.extract i (i + run Lex.inner s i)), .int .i64 0, .int .i64 (i : Int)], .int .i64 ((i + run Lex.inner s i : Nat) : Int), .int .i64 0]) ∧ Below w.heap.size w w' := by
  have hr := run_le Lex.inner s i (by omega)
  generalize hk : run Lex.inner s i = k at *
  have HK := Lib.hid hk
  have H1 := Lib.hid h1
  clear hk h1
  go_enter Tryz.func35, Tryz.ntmps35
  go_wp2_with (first | (go_at_call 58; refine (letter_yes _ H1.out _).mono ?_; rintro e w' ⟨rfl, rfl⟩) | (go_at_call 33; refine (while_inner s i _ (by omega) hs).mono ?_; rintro e w' ⟨rfl, rfl⟩; rw [HK.out]))
  exact bodyPost_ret (v := .tuple #[.agg #[.int .i64 1, .string (s.extract i (i + k)), .int .i64 0, .int .i64 (i : Int)], .int .i64 ((i + k : Nat) : Int), .int .i64 0]) (by simp [results, Tryz.results35, go_sem]) rfl ⟨rfl, (Below.refl _ _).alloc (Nat.le_refl _) _⟩

set_option maxRecDepth 100000 in
theorem token_mark (s : ByteArray) (i : Nat) (w : World) (hi : i < s.size) (hs : s.size ≤ 1000000) (h1 : Lex.letter s[i] = false) (h2 : Lex.digit s[i] = false) (h3 : ((s[i].toNat : Int) == 45) = false) (h4 : Lex.mark s[i] = true) :
    Calls Tryz.prog 35 #[.string s, .int .i64 (i : Int)] w fun e w' => e = .returned (.tuple #[.agg #[.int .i64 3, .string (s.extract i (i + 1)), .int .i64 0, .int .i64 (i : Int)], .int .i64 ((i + 1 : Nat) : Int), .int .i64 0]) ∧ Below w.heap.size w w' := by
  have H1 := Lib.hid h1
  have H2 := Lib.hid h2
  have H4 := Lib.hid h4
  clear h1 h2 h4
  go_enter Tryz.func35, Tryz.ntmps35
  go_wp2_with (first | (go_at_call 58; refine (letter_no _ H1.out _).mono ?_; rintro e w' ⟨rfl, rfl⟩) | (go_at_call 60; refine (digit_no _ H2.out _).mono ?_; rintro e w' ⟨rfl, rfl⟩) | (go_at_call 62; refine (index_yes _ H4.out _).mono ?_; rintro e w' ⟨⟨m, rfl, hm⟩, rfl⟩))
  exact bodyPost_ret (v := .tuple #[.agg #[.int .i64 3, .string (s.extract i (i + 1)), .int .i64 0, .int .i64 (i : Int)], .int .i64 ((i + 1 : Nat) : Int), .int .i64 0]) (by simp [results, Tryz.results35, go_sem]) rfl ⟨rfl, (Below.refl _ _).alloc (Nat.le_refl _) _⟩

set_option maxRecDepth 100000 in
theorem token_none (s : ByteArray) (i : Nat) (w : World) (hi : i < s.size) (_hs : s.size ≤ 1000000) (h1 : Lex.letter s[i] = false) (h2 : Lex.digit s[i] = false) (h3 : ((s[i].toNat : Int) == 45) = false) (h4 : Lex.mark s[i] = false) :
    Calls Tryz.prog 35 #[.string s, .int .i64 (i : Int)] w fun e w' => e = .returned (.tuple #[zeroTok, .int .i64 0, .int .i64 3]) ∧ Below w.heap.size w w' := by
  have H1 := Lib.hid h1
  have H2 := Lib.hid h2
  have H4 := Lib.hid h4
  clear h1 h2 h4
  go_enter Tryz.func35, Tryz.ntmps35
  go_wp2_with (first | (go_at_call 58; refine (letter_no _ H1.out _).mono ?_; rintro e w' ⟨rfl, rfl⟩) | (go_at_call 60; refine (digit_no _ H2.out _).mono ?_; rintro e w' ⟨rfl, rfl⟩) | (go_at_call 62; refine (index_no _ H4.out _).mono ?_; rintro e w' ⟨rfl, rfl⟩))
  exact bodyPost_ret (v := .tuple #[zeroTok, .int .i64 0, .int .i64 3]) (by simp [results, Tryz.results35, go_sem, zeroTok]) rfl ⟨rfl, (Below.refl _ _).alloc (Nat.le_refl _) _⟩

/-- What the reader of a number is told: a digit, or a minus sign. -/
theorem token_num (s : ByteArray) (i : Nat) (w : World) (hi : i < s.size) (h1 : Lex.letter s[i] = false) (hc : (Lex.digit s[i] || decide (s[i] = 45)) = true)
    (a b c d : Value) (j e0 : Int) (hn : Hid (∀ w, Calls Tryz.prog 61 #[.string s, .int .i64 (i : Int)] w fun e w' => e = .returned (.tuple #[.agg #[a, b, c, d], .int .i64 j, .int .i64 e0]) ∧ Below w.heap.size w w'))
    (ha : ∃ k x, a = .int k x) (hb : ∃ x, b = .string x) (hc' : ∃ k x, c = .int k x) (hd : ∃ k x, d = .int k x) :
    Calls Tryz.prog 35 #[.string s, .int .i64 (i : Int)] w fun e w' => e = .returned (.tuple #[.agg #[a, b, c, d], .int .i64 j, .int .i64 e0]) ∧ Below w.heap.size w w' := by
  obtain ⟨ka, xa, rfl⟩ := ha
  obtain ⟨xb, rfl⟩ := hb
  obtain ⟨kc, xc, rfl⟩ := hc'
  obtain ⟨kd, xd, rfl⟩ := hd
  have H1 := Lib.hid h1
  cases h2 : Lex.digit s[i]
  · have h3 := (digit_45 s[i] h2).symm.trans hc
    have H2 := Lib.hid h2
    clear h1 h2 hc
    go_enter Tryz.func35, Tryz.ntmps35
    go_wp2_with (first | (go_at_call 58; refine (letter_no _ H1.out _).mono ?_; rintro e w' ⟨rfl, rfl⟩) | (go_at_call 60; refine (digit_no _ H2.out _).mono ?_; rintro e w' ⟨rfl, rfl⟩) | (go_at_call 61; refine (hn.out _).mono ?_; rintro e w1 ⟨rfl, hb⟩; obtain ⟨q0, q1, q2, q3⟩ := tok_cells hb; have f0 := tok_frozen hb 0; have f1 := tok_frozen hb 1; have f2 := tok_frozen hb 2; have f3 := tok_frozen hb 3; have hz := hb.size; simp only [World.size_alloc] at hz))
    refine bodyPost_ret (v := .tuple #[.agg #[.int ka xa, .string xb, .int kc xc, .int kd xd], .int .i64 j, .int .i64 e0]) (by simp [results, Tryz.results35, go_sem, q0, q1, q2, q3]) rfl ⟨rfl, ?_⟩
    exact (((((((Below.refl _ _).alloc (Nat.le_refl _) _).trans (hb.mono (by simp))).setCell (by simp) _).setCell (by simp) _).setCell (by simp) _).setCell (by simp) _)
  · have H2 := Lib.hid h2
    clear h1 h2 hc
    go_enter Tryz.func35, Tryz.ntmps35
    go_wp2_with (first | (go_at_call 58; refine (letter_no _ H1.out _).mono ?_; rintro e w' ⟨rfl, rfl⟩) | (go_at_call 60; refine (digit_yes _ H2.out _).mono ?_; rintro e w' ⟨rfl, rfl⟩) | (go_at_call 61; refine (hn.out _).mono ?_; rintro e w1 ⟨rfl, hb⟩; obtain ⟨q0, q1, q2, q3⟩ := tok_cells hb; have f0 := tok_frozen hb 0; have f1 := tok_frozen hb 1; have f2 := tok_frozen hb 2; have f3 := tok_frozen hb 3; have hz := hb.size; simp only [World.size_alloc] at hz))
    refine bodyPost_ret (v := .tuple #[.agg #[.int ka xa, .string xb, .int kc xc, .int kd xd], .int .i64 j, .int .i64 e0]) (by simp [results, Tryz.results35, go_sem, q0, q1, q2, q3]) rfl ⟨rfl, ?_⟩
    exact (((((((Below.refl _ _).alloc (Nat.le_refl _) _).trans (hb.mono (by simp))).setCell (by simp) _).setCell (by simp) _).setCell (by simp) _).setCell (by simp) _)

theorem token_any (s : ByteArray) (i : Nat) (w : World) (hi : i < s.size) (hs : s.size ≤ 1000000) :
    Calls Tryz.prog 35 #[.string s, .int .i64 (i : Int)] w fun e w' => e = .returned (trV (Lex.tokL (s.data.toList.drop i)) i (i + (Lex.tokL (s.data.toList.drop i)).len)) ∧ Below w.heap.size w w' := by
  have hd := drop_at s i hi
  cases h1 : Lex.letter s[i]
  · cases hc : (Lex.digit s[i] || decide (s[i] = 45))
    · have h2 : Lex.digit s[i] = false := by
        cases h : Lex.digit s[i]
        · rfl
        · rw [h] at hc; simp at hc
      have h3 := (digit_45 s[i] h2).symm.trans hc
      cases h4 : Lex.mark s[i]
      · have e : Lex.tokL (s.data.toList.drop i) = bad3 := by
          rw [hd]; simp only [Lex.tokL]
          rw [if_neg (by simp [h1]), if_neg (by rw [hc]; simp), if_neg (by simp [h4])]; rfl
        rw [e, trV_bad3]
        exact token_none s i w hi hs h1 h2 h3 h4
      · have e : Lex.tokL (s.data.toList.drop i) = ⟨3, [s[i]], 0, 1, 0⟩ := by rw [hd]; exact Lex.tokL_mark h1 hc h4
        rw [e, trV_ok rfl]
        have := token_mark s i w hi hs h1 h2 h3 h4
        rw [one_text s i hi] at this
        exact this
    · have e : Lex.tokL (s.data.toList.drop i) = Lex.numL s[i] (s.data.toList.drop (i + 1)) := by
        rw [hd]; simp only [Lex.tokL]
        rw [if_neg (by simp [h1]), if_pos hc]
      rw [e]
      by_cases h0 : (Lex.numL s[i] (s.data.toList.drop (i + 1))).err = 0
      · rw [trV_ok h0]
        have hl : i + (Lex.numL s[i] (s.data.toList.drop (i + 1))).len = i + 1 + run Lex.digit s (i + 1) := by
          unfold Lex.numL at h0 ⊢
          split at h0
          · simp at h0
          · rename_i hb
            rw [if_neg hb]
            split at h0
            · simp at h0
            · rename_i hb
              rw [if_neg hb]
              show i + ((Lex.numRun _).length + 1) = i + 1 + (Lex.numRun _).length
              omega
        rw [hl]
        exact token_num s i w hi h1 hc _ _ _ _ _ _ (Lib.hid fun w => number_ok s i w hi hs hc h0) ⟨_, _, rfl⟩ ⟨_, rfl⟩ ⟨_, _, rfl⟩ ⟨_, _, rfl⟩
      · rw [trV_bad h0]
        exact token_num s i w hi h1 hc _ _ _ _ _ _ (Lib.hid fun w => number_bad s i w hi hs hc h0) ⟨_, _, rfl⟩ ⟨_, rfl⟩ ⟨_, _, rfl⟩ ⟨_, _, rfl⟩
  · have hrun : (s[i] :: s.data.toList.drop (i + 1)).takeWhile Lex.inner = (s.data.toList.drop i).takeWhile Lex.inner := by rw [hd]
    have hlen : ((s.data.toList.drop i).takeWhile Lex.inner).length = run Lex.inner s i := rfl
    by_cases h2 : run Lex.inner s i ≤ 16
    · have e : Lex.tokL (s.data.toList.drop i) = ⟨1, (s.data.toList.drop i).takeWhile Lex.inner, 0, run Lex.inner s i, 0⟩ := by
        rw [← hlen, hd]
        exact Lex.tokL_name h1 (by rw [hrun, hlen]; exact h2)
      rw [e, trV_ok rfl]
      have := token_name s i w hi hs h1 h2
      rw [name_text] at this
      exact this
    · have e : Lex.tokL (s.data.toList.drop i) = bad9 := by
        rw [hd]; simp only [Lex.tokL]
        rw [if_pos h1, hrun, hlen, if_pos (by omega)]; rfl
      rw [e, trV_bad9]
      exact token_long s i w hi hs h1 (by omega)
end Go.Proofs.YteldekkodhfkkaaGreatDoor.LexW
