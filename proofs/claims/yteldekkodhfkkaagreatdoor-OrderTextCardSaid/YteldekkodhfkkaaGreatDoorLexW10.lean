/- Walks: the reference's reader of one token. Conditions: the offset lies in the text; the text has at most a million bytes. -/
import Derived.Test.YteldekkodhfkkaaGreatDoorLexW9
namespace Go.Proofs.YteldekkodhfkkaaGreatDoor.LexW
open Go Go.RowKit Go.Proofs.YteldekkodhfkkaaGreatDoor.Mem

theorem rnV_ok {t : Lex.TR} (h : t.err = 0) : rnV t = .tuple #[.int .i64 t.n, .int .i64 (t.len : Int), .int .i64 0] := by unfold rnV; rw [if_pos h]
theorem rnV_bad {t : Lex.TR} (h : t.err ≠ 0) : rnV t = .tuple #[.int .i64 0, .int .i64 0, .int .i64 t.err] := by unfold rnV; rw [if_neg h]

theorem next_ways (s : ByteArray) (i : Nat) :
    ((((s.data.toList.drop (i + 1)).drop (Lex.numRun (s.data.toList.drop (i + 1))).length).head?.any Lex.inner) = true ∧ Glued s (i + (run Lex.digit s (i + 1) + 1))) ∨
    ((((s.data.toList.drop (i + 1)).drop (Lex.numRun (s.data.toList.drop (i + 1))).length).head?.any Lex.inner) = false ∧ Free s (i + (run Lex.digit s (i + 1) + 1))) := by
  have e : i + (run Lex.digit s (i + 1) + 1) = i + 1 + run Lex.digit s (i + 1) := by omega
  rw [e]
  by_cases h : i + 1 + run Lex.digit s (i + 1) < s.size
  · rw [next_inner s i h]
    have hd := run_stop (p := Lex.digit) (s := s) (k := i + 1) rfl h
    have h95 : (((s[i + 1 + run Lex.digit s (i + 1)]'h).toNat : Int) == 95) = decide ((s[i + 1 + run Lex.digit s (i + 1)]'h).toNat = 95) := by rw [Bool.eq_iff_iff]; simp; omega
    cases hl : Lex.letter (s[i + 1 + run Lex.digit s (i + 1)]'h)
    · by_cases hu : (s[i + 1 + run Lex.digit s (i + 1)]'h).toNat = 95
      · left
        exact ⟨by simp [Lex.inner, hu], h, .inr ⟨hl, by rw [h95]; simpa using hu⟩⟩
      · right
        exact ⟨by simp [Lex.inner, hu, hl, hd], fun _ => ⟨hl, by rw [h95]; simpa using hu⟩⟩
    · left
      exact ⟨Lex.inner_of_letter hl, h, .inl hl⟩
  · right
    exact ⟨next_none s i (by omega), fun h' => absurd h' h⟩
theorem eq48 (c : UInt8) : ((c.toNat : Int) == 48) = decide (c = 48) := byte_test c 48 (by decide)
theorem eq45 (c : UInt8) : ((c.toNat : Int) == 45) = decide (c = 45) := byte_test c 45 (by decide)

theorem rnumber_any (s : ByteArray) (i : Nat) (w : World) (hi : i < s.size) (hs : s.size ≤ 1000000) (hc : (Lex.digit s[i] || decide (s[i] = 45)) = true) :
    Calls Tryz.prog 66 #[.string s, .int .i64 (i : Int)] w (Returns w (rnV (Lex.numL s[i] (s.data.toList.drop (i + 1))))) := by
  have hR : (Lex.numRun (s.data.toList.drop (i + 1))).length = run Lex.digit s (i + 1) := rfl
  have bad : Lex.numBad s[i] (s.data.toList.drop (i + 1)) = true → Lex.numL s[i] (s.data.toList.drop (i + 1)) = bad3 := fun h => by unfold Lex.numL; rw [if_pos h]; rfl
  have long : Lex.numBad s[i] (s.data.toList.drop (i + 1)) = false → 9 < (Lex.numDigs s[i] (s.data.toList.drop (i + 1))).length → Lex.numL s[i] (s.data.toList.drop (i + 1)) = bad9 := fun h h9 => by
    unfold Lex.numL; rw [if_neg (by simp [h]), if_pos h9]; rfl
  have good : Lex.numBad s[i] (s.data.toList.drop (i + 1)) = false → (Lex.numDigs s[i] (s.data.toList.drop (i + 1))).length ≤ 9 → rnV (Lex.numL s[i] (s.data.toList.drop (i + 1))) = .tuple #[.int .i64 (Lex.numVal s[i] (s.data.toList.drop (i + 1))), .int .i64 ((run Lex.digit s (i + 1) + 1 : Nat) : Int), .int .i64 0] := fun h h9 => by
    unfold Lex.numL; rw [if_neg (by simp [h]), if_neg (by omega)]; rfl
  have r3 : rnV bad3 = .tuple #[.int .i64 0, .int .i64 0, .int .i64 3] := rfl
  have r9 : rnV bad9 = .tuple #[.int .i64 0, .int .i64 0, .int .i64 9] := rfl
  by_cases h45 : s[i] = 45
  · have hm : ((s[i].toNat : Int) == 45) = true := by rw [eq45]; simpa using h45
    have hdigs : Lex.numDigs s[i] (s.data.toList.drop (i + 1)) = Lex.numRun (s.data.toList.drop (i + 1)) := by unfold Lex.numDigs; rw [if_pos h45]
    have hne : s[i] :: Lex.numRun (s.data.toList.drop (i + 1)) ≠ [48] := by rw [h45]; simp
    by_cases h0 : 1 ≤ run Lex.digit s (i + 1)
    · obtain ⟨hz, hdz⟩ := run_hit (p := Lex.digit) (s := s) (k := i + 1) (q := 0) (by omega)
      have hz' : i + 1 < s.size := hz
      have hhd : (Lex.numRun (s.data.toList.drop (i + 1))).headD 0 = s[i + 1] := by
        unfold Lex.numRun
        rw [drop_at s (i + 1) hz', List.takeWhile_cons, if_pos hdz]; rfl
      have hemp : (Lex.numRun (s.data.toList.drop (i + 1))).isEmpty = false := by
        cases h : Lex.numRun (s.data.toList.drop (i + 1)) with
        | nil => rw [h] at hR; simp at hR; omega
        | cons _ _ => rfl
      by_cases h48 : s[i + 1] = 48
      · rw [bad (by unfold Lex.numBad; rw [hdigs, hhd]; simp [h48, h45]), r3]
        exact rnum_minus_nought s i w hi hs hm h0 hz' (by rw [eq48]; simpa using h48)
      · have h48' : (((s[i + 1]'hz').toNat : Int) == 48) = false := by rw [eq48]; simpa using h48
        rcases next_ways s i with ⟨hn, hg⟩ | ⟨hn, hf⟩
        · rw [bad (by unfold Lex.numBad; rw [hn]; simp), r3]
          exact rnum_glued_m s i w hi hs hm h0 hz' h48' hg
        · have hb : Lex.numBad s[i] (s.data.toList.drop (i + 1)) = false := by
            unfold Lex.numBad
            rw [hn, hdigs, hemp, hhd]; simp [h48]
          by_cases h9 : 9 < run Lex.digit s (i + 1)
          · rw [long hb (by rw [hdigs, hR]; exact h9), r9]
            exact rnum_long_m s i w hi hs hm h0 hz' h48' hf h9
          · rw [good hb (by rw [hdigs, hR]; omega)]
            have := rnum_ok_m s i w hi hs hm h0 hz' h48' (by omega) hf
            rw [← numVal_m s i h0] at this
            rw [h45]
            exact this
    · have hemp : Lex.numRun (s.data.toList.drop (i + 1)) = [] := List.eq_nil_of_length_eq_zero (by rw [hR]; omega)
      rw [bad (by unfold Lex.numBad; rw [hdigs, hemp]; simp), r3]
      exact rnum_minus_none s i w hi hs hm (by omega)
  · have hm : ((s[i].toNat : Int) == 45) = false := by rw [eq45]; simpa using h45
    have hd : Lex.digit s[i] = true := by simpa [h45] using hc
    have hdigs : Lex.numDigs s[i] (s.data.toList.drop (i + 1)) = s[i] :: Lex.numRun (s.data.toList.drop (i + 1)) := by unfold Lex.numDigs; rw [if_neg h45]
    have hlen : (Lex.numDigs s[i] (s.data.toList.drop (i + 1))).length = run Lex.digit s (i + 1) + 1 := by rw [hdigs, List.length_cons, hR]
    by_cases h48 : s[i] = 48
    · have h48' : ((s[i].toNat : Int) == 48) = true := by rw [eq48]; simpa using h48
      by_cases h0 : 1 ≤ run Lex.digit s (i + 1)
      · have hne : s[i] :: Lex.numRun (s.data.toList.drop (i + 1)) ≠ [48] := by
          intro h
          have := congrArg List.length h
          rw [List.length_cons, hR] at this; simp at this; omega
        rw [bad (by unfold Lex.numBad; rw [hdigs]; simp only [List.headD_cons]; simp [h48]; right; intro h; rw [h] at hR; simp at hR; omega), r3]
        exact rnum_nought s i w hi hs hm h0 h48'
      · have hemp : Lex.numRun (s.data.toList.drop (i + 1)) = [] := List.eq_nil_of_length_eq_zero (by rw [hR]; omega)
        rcases next_ways s i with ⟨hn, hg⟩ | ⟨hn, hf⟩
        · rw [bad (by unfold Lex.numBad; rw [hn]; simp), r3]
          exact rnum_glued_z s i w hi hs hm (by omega) h48' hg
        · have hb : Lex.numBad s[i] (s.data.toList.drop (i + 1)) = false := by
            unfold Lex.numBad
            rw [hn, hdigs, hemp, h48]; rfl
          rw [good hb (by rw [hlen]; omega)]
          have := rnum_ok_z s i w hi hs hm (by omega) h48' hd hf
          rw [← numVal_d s i hi hd] at this
          exact this
    · have h48' : ((s[i].toNat : Int) == 48) = false := by rw [eq48]; simpa using h48
      rcases next_ways s i with ⟨hn, hg⟩ | ⟨hn, hf⟩
      · rw [bad (by unfold Lex.numBad; rw [hn]; simp), r3]
        exact rnum_glued_d s i w hi hs hm h48' hg
      · have hb : Lex.numBad s[i] (s.data.toList.drop (i + 1)) = false := by
          unfold Lex.numBad
          rw [hn, hdigs]; simp [h48]
        by_cases h9 : 8 < run Lex.digit s (i + 1)
        · rw [long hb (by rw [hlen]; omega), r9]
          exact rnum_long_d s i w hi hs hm h48' hf h9
        · rw [good hb (by rw [hlen]; omega)]
          have := rnum_ok_d s i w hi hs hm h48' (by omega) hd hf
          rw [← numVal_d s i hi hd] at this
          exact this

theorem rmark_yes (c : UInt8) (h : Lex.mark c = true) (w : World) : Calls Tryz.prog 67 #[.int .u8 (c.toNat : Int)] w (Returns w (.bool true)) := by
  have := rmark_any c w; rwa [h] at this
theorem rmark_no (c : UInt8) (h : Lex.mark c = false) (w : World) : Calls Tryz.prog 67 #[.int .u8 (c.toNat : Int)] w (Returns w (.bool false)) := by
  have := rmark_any c w; rwa [h] at this

set_option maxRecDepth 100000 in
theorem rtoken_long (s : ByteArray) (i : Nat) (w : World) (hi : i < s.size) (hs : s.size ≤ 1000000) (h1 : Lex.letter s[i] = true) (h2 : 16 < run Lex.inner s i) :
    Calls Tryz.prog 42 #[.string s, .int .i64 (i : Int)] w fun e w' => e = .returned (.tuple #[zeroTok, .int .i64 0, .int .i64 9]) ∧ Below w.heap.size w w' := by
  have hr := run_le Lex.inner s i (by omega)
  generalize hk : run Lex.inner s i = k at *
  have HK := Lib.hid hk
  have H1 := Lib.hid h1
  clear hk h1
  go_enter Tryz.func42, Tryz.ntmps42
  go_wp2_with (first | (go_at_call 63; refine (rletter_yes _ H1.out _).mono ?_; rintro e w' ⟨rfl, rfl⟩) | (go_at_call 64; refine (rnamed_any s i _ (by omega) hs).mono ?_; rintro e w' ⟨rfl, rfl⟩; rw [HK.out]))
  exact bodyPost_ret (v := .tuple #[zeroTok, .int .i64 0, .int .i64 9]) (by simp [results, Tryz.results42, go_sem, zeroTok]) rfl ⟨rfl, (Below.refl _ _).alloc (Nat.le_refl _) _⟩

set_option maxRecDepth 100000 in
theorem rtoken_name (s : ByteArray) (i : Nat) (w : World) (hi : i < s.size) (hs : s.size ≤ 1000000) (h1 : Lex.letter s[i] = true) (h2 : run Lex.inner s i ≤ 16) :
    Calls Tryz.prog 42 #[.string s, .int .i64 (i : Int)] w fun e w' => e = .returned (.tuple #[.agg #[.int .i64 1, .string (s.extract i (i + run Lex.inner s i)), .int .i64 0, .int .i64 (i : Int)], .int .i64 ((run Lex.inner s i : Nat) : Int), .int .i64 0]) ∧ Below w.heap.size w w' := by
  have hr := run_le Lex.inner s i (by omega)
  generalize hk : run Lex.inner s i = k at *
  have HK := Lib.hid hk
  have H1 := Lib.hid h1
  clear hk h1
  go_enter Tryz.func42, Tryz.ntmps42
  go_wp2_with (first | (go_at_call 63; refine (rletter_yes _ H1.out _).mono ?_; rintro e w' ⟨rfl, rfl⟩) | (go_at_call 64; refine (rnamed_any s i _ (by omega) hs).mono ?_; rintro e w' ⟨rfl, rfl⟩; rw [HK.out]))
  exact bodyPost_ret (v := .tuple #[.agg #[.int .i64 1, .string (s.extract i (i + k)), .int .i64 0, .int .i64 (i : Int)], .int .i64 ((k : Nat) : Int), .int .i64 0]) (by simp [results, Tryz.results42, go_sem]) rfl ⟨rfl, (Below.refl _ _).alloc (Nat.le_refl _) _⟩

set_option maxRecDepth 100000 in
theorem rtoken_mark (s : ByteArray) (i : Nat) (w : World) (hi : i < s.size) (hs : s.size ≤ 1000000) (h1 : Lex.letter s[i] = false) (h2 : Lex.digit s[i] = false) (h3 : ((s[i].toNat : Int) == 45) = false) (h4 : Lex.mark s[i] = true) :
    Calls Tryz.prog 42 #[.string s, .int .i64 (i : Int)] w fun e w' => e = .returned (.tuple #[.agg #[.int .i64 3, .string (s.extract i (i + 1)), .int .i64 0, .int .i64 (i : Int)], .int .i64 1, .int .i64 0]) ∧ Below w.heap.size w w' := by
  have H1 := Lib.hid h1
  have H2 := Lib.hid h2
  have H4 := Lib.hid h4
  clear h1 h2 h4
  go_enter Tryz.func42, Tryz.ntmps42
  go_wp2_with (first | (go_at_call 63; refine (rletter_no _ H1.out _).mono ?_; rintro e w' ⟨rfl, rfl⟩) | (go_at_call 65; refine (rdigit_no _ H2.out _).mono ?_; rintro e w' ⟨rfl, rfl⟩) | (go_at_call 67; refine (rmark_yes _ H4.out _).mono ?_; rintro e w' ⟨rfl, rfl⟩))
  exact bodyPost_ret (v := .tuple #[.agg #[.int .i64 3, .string (s.extract i (i + 1)), .int .i64 0, .int .i64 (i : Int)], .int .i64 1, .int .i64 0]) (by simp [results, Tryz.results42, go_sem]) rfl ⟨rfl, (Below.refl _ _).alloc (Nat.le_refl _) _⟩

set_option maxRecDepth 100000 in
theorem rtoken_none (s : ByteArray) (i : Nat) (w : World) (hi : i < s.size) (_hs : s.size ≤ 1000000) (h1 : Lex.letter s[i] = false) (h2 : Lex.digit s[i] = false) (h3 : ((s[i].toNat : Int) == 45) = false) (h4 : Lex.mark s[i] = false) :
    Calls Tryz.prog 42 #[.string s, .int .i64 (i : Int)] w fun e w' => e = .returned (.tuple #[zeroTok, .int .i64 0, .int .i64 3]) ∧ Below w.heap.size w w' := by
  have H1 := Lib.hid h1
  have H2 := Lib.hid h2
  have H4 := Lib.hid h4
  clear h1 h2 h4
  go_enter Tryz.func42, Tryz.ntmps42
  go_wp2_with (first | (go_at_call 63; refine (rletter_no _ H1.out _).mono ?_; rintro e w' ⟨rfl, rfl⟩) | (go_at_call 65; refine (rdigit_no _ H2.out _).mono ?_; rintro e w' ⟨rfl, rfl⟩) | (go_at_call 67; refine (rmark_no _ H4.out _).mono ?_; rintro e w' ⟨rfl, rfl⟩))
  exact bodyPost_ret (v := .tuple #[zeroTok, .int .i64 0, .int .i64 3]) (by simp [results, Tryz.results42, go_sem, zeroTok]) rfl ⟨rfl, (Below.refl _ _).alloc (Nat.le_refl _) _⟩

/-- A number, read or refused. -/
theorem rtoken_num (s : ByteArray) (i : Nat) (w : World) (hi : i < s.size) (hs : s.size ≤ 1000000) (h1 : Lex.letter s[i] = false) (hc : (Lex.digit s[i] || decide (s[i] = 45)) = true) :
    Calls Tryz.prog 42 #[.string s, .int .i64 (i : Int)] w fun e w' => e = .returned (trV (Lex.numL s[i] (s.data.toList.drop (i + 1))) i (Lex.numL s[i] (s.data.toList.drop (i + 1))).len) ∧ Below w.heap.size w w' := by
  have hn := fun w => rnumber_any s i w hi hs hc
  have htext : (Lex.numL s[i] (s.data.toList.drop (i + 1))).err = 0 → (Lex.numL s[i] (s.data.toList.drop (i + 1))).kind = 2 ∧ (Lex.numL s[i] (s.data.toList.drop (i + 1))).text = [] := by
    intro h
    unfold Lex.numL at h ⊢
    split at h
    · simp at h
    · rename_i hb
      rw [if_neg hb]
      split at h
      · simp at h
      · rename_i hb
        rw [if_neg hb]; exact ⟨rfl, rfl⟩
  generalize Lex.numL s[i] (s.data.toList.drop (i + 1)) = t at *
  have H1 := Lib.hid h1
  clear h1
  by_cases h0 : t.err = 0
  · rw [trV_ok h0]
    simp only [rnV_ok h0] at hn
    obtain ⟨hk, ht⟩ := htext h0
    simp only [okTok, hk, ht]
    have HN := Lib.hid hn
    clear hn htext hk ht h0
    cases h2 : Lex.digit s[i]
    · have h3 := (digit_45 s[i] h2).symm.trans hc
      have H2 := Lib.hid h2
      clear h2 hc
      go_enter Tryz.func42, Tryz.ntmps42
      go_wp2_with (first | (go_at_call 63; refine (rletter_no _ H1.out _).mono ?_; rintro e w' ⟨rfl, rfl⟩) | (go_at_call 65; refine (rdigit_no _ H2.out _).mono ?_; rintro e w' ⟨rfl, rfl⟩) | (go_at_call 66; refine (HN.out _).mono ?_; rintro e w' ⟨rfl, rfl⟩))
      exact bodyPost_ret (v := .tuple #[.agg #[.int .i64 2, .string ⟨#[]⟩, .int .i64 t.n, .int .i64 (i : Int)], .int .i64 (t.len : Int), .int .i64 0]) (by simp [results, Tryz.results42, go_sem]) rfl ⟨rfl, (Below.refl _ _).alloc (Nat.le_refl _) _⟩
    · have H2 := Lib.hid h2
      clear h2 hc
      go_enter Tryz.func42, Tryz.ntmps42
      go_wp2_with (first | (go_at_call 63; refine (rletter_no _ H1.out _).mono ?_; rintro e w' ⟨rfl, rfl⟩) | (go_at_call 65; refine (rdigit_yes _ H2.out _).mono ?_; rintro e w' ⟨rfl, rfl⟩) | (go_at_call 66; refine (HN.out _).mono ?_; rintro e w' ⟨rfl, rfl⟩))
      exact bodyPost_ret (v := .tuple #[.agg #[.int .i64 2, .string ⟨#[]⟩, .int .i64 t.n, .int .i64 (i : Int)], .int .i64 (t.len : Int), .int .i64 0]) (by simp [results, Tryz.results42, go_sem]) rfl ⟨rfl, (Below.refl _ _).alloc (Nat.le_refl _) _⟩
  · rw [trV_bad h0]
    simp only [rnV_bad h0] at hn
    have HN := Lib.hid hn
    have hne : (t.err != 0) = true := by simpa using h0
    clear hn htext h0
    generalize t.err = er at *
    cases h2 : Lex.digit s[i]
    · have h3 := (digit_45 s[i] h2).symm.trans hc
      have H2 := Lib.hid h2
      clear h2 hc
      go_enter Tryz.func42, Tryz.ntmps42
      go_wp2_with (first | (go_at_call 63; refine (rletter_no _ H1.out _).mono ?_; rintro e w' ⟨rfl, rfl⟩) | (go_at_call 65; refine (rdigit_no _ H2.out _).mono ?_; rintro e w' ⟨rfl, rfl⟩) | (go_at_call 66; refine (HN.out _).mono ?_; rintro e w' ⟨rfl, rfl⟩))
      exact bodyPost_ret (v := .tuple #[zeroTok, .int .i64 0, .int .i64 er]) (by simp [results, Tryz.results42, go_sem, zeroTok]) rfl ⟨rfl, (Below.refl _ _).alloc (Nat.le_refl _) _⟩
    · have H2 := Lib.hid h2
      clear h2 hc
      go_enter Tryz.func42, Tryz.ntmps42
      go_wp2_with (first | (go_at_call 63; refine (rletter_no _ H1.out _).mono ?_; rintro e w' ⟨rfl, rfl⟩) | (go_at_call 65; refine (rdigit_yes _ H2.out _).mono ?_; rintro e w' ⟨rfl, rfl⟩) | (go_at_call 66; refine (HN.out _).mono ?_; rintro e w' ⟨rfl, rfl⟩))
      exact bodyPost_ret (v := .tuple #[zeroTok, .int .i64 0, .int .i64 er]) (by simp [results, Tryz.results42, go_sem, zeroTok]) rfl ⟨rfl, (Below.refl _ _).alloc (Nat.le_refl _) _⟩

theorem rtoken_any (s : ByteArray) (i : Nat) (w : World) (hi : i < s.size) (hs : s.size ≤ 1000000) :
    Calls Tryz.prog 42 #[.string s, .int .i64 (i : Int)] w fun e w' => e = .returned (trV (Lex.tokL (s.data.toList.drop i)) i (Lex.tokL (s.data.toList.drop i)).len) ∧ Below w.heap.size w w' := by
  have hd := drop_at s i hi
  cases h1 : Lex.letter s[i]
  · cases hc : (Lex.digit s[i] || decide (s[i] = 45))
    · have h2 : Lex.digit s[i] = false := by
        cases h : Lex.digit s[i]
        · rfl
        · rw [h] at hc; simp at hc
      have h3 := (digit_45 s[i] h2).symm.trans hc
      cases h4 : Lex.mark s[i]
      · have e : Lex.tokL (s.data.toList.drop i) = bad3 := by
          rw [hd]; simp only [Lex.tokL]
          rw [if_neg (by simp [h1]), if_neg (by rw [hc]; simp), if_neg (by simp [h4])]; rfl
        rw [e, trV_bad3]
        exact rtoken_none s i w hi hs h1 h2 h3 h4
      · have e : Lex.tokL (s.data.toList.drop i) = ⟨3, [s[i]], 0, 1, 0⟩ := by rw [hd]; exact Lex.tokL_mark h1 hc h4
        rw [e, trV_ok rfl]
        have := rtoken_mark s i w hi hs h1 h2 h3 h4
        rw [one_text s i hi] at this
        exact this
    · have e : Lex.tokL (s.data.toList.drop i) = Lex.numL s[i] (s.data.toList.drop (i + 1)) := by
        rw [hd]; simp only [Lex.tokL]
        rw [if_neg (by simp [h1]), if_pos hc]
      rw [e]
      exact rtoken_num s i w hi hs h1 hc
  · have hrun : (s[i] :: s.data.toList.drop (i + 1)).takeWhile Lex.inner = (s.data.toList.drop i).takeWhile Lex.inner := by rw [hd]
    have hlen : ((s.data.toList.drop i).takeWhile Lex.inner).length = run Lex.inner s i := rfl
    by_cases h2 : run Lex.inner s i ≤ 16
    · have e : Lex.tokL (s.data.toList.drop i) = ⟨1, (s.data.toList.drop i).takeWhile Lex.inner, 0, run Lex.inner s i, 0⟩ := by
        rw [← hlen, hd]
        exact Lex.tokL_name h1 (by rw [hrun, hlen]; exact h2)
      rw [e, trV_ok rfl]
      have := rtoken_name s i w hi hs h1 h2
      rw [name_text] at this
      exact this
    · have e : Lex.tokL (s.data.toList.drop i) = bad9 := by
        rw [hd]; simp only [Lex.tokL]
        rw [if_pos h1, hrun, hlen, if_pos (by omega)]; rfl
      rw [e, trV_bad9]
      exact rtoken_long s i w hi hs h1 (by omega)
end Go.Proofs.YteldekkodhfkkaaGreatDoor.LexW
