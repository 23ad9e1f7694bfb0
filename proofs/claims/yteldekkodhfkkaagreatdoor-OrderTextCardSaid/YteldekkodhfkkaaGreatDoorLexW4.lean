/- Walks: the program's reader of a number, whole. Conditions: the offset lies in the text; the text has at most a million bytes. -/
import Derived.Test.YteldekkodhfkkaaGreatDoorLexW3
namespace Go.Proofs.YteldekkodhfkkaaGreatDoor.LexW
open Go Go.RowKit

set_option maxRecDepth 100000 in
set_option maxHeartbeats 1000000 in
theorem number_in (s : ByteArray) (i : Nat) (w : World) (hi : i < s.size) (hs : s.size ≤ 1000000) (hc : (Lex.digit s[i] || decide (s[i] = 45)) = true) (hend : i + 1 + run Lex.digit s (i + 1) < s.size) (hin : Lex.inner (s[i + 1 + run Lex.digit s (i + 1)]'hend) = false) :
    Calls Tryz.prog 61 #[.string s, .int .i64 (i : Int)] w fun e w' => e = .returned (trV (Lex.numL s[i] (s.data.toList.drop (i + 1))) i (i + 1 + run Lex.digit s (i + 1))) ∧ Below w.heap.size w w' := by
  have hr := run_le Lex.digit s (i + 1) (by omega)
  obtain ⟨tb, ht⟩ : ∃ tb, s.extract i (i + 1 + run Lex.digit s (i + 1)) = tb := ⟨_, rfl⟩
  obtain ⟨db, hd⟩ : ∃ db : ByteArray, ⟨(Lib.trimPrefix tb.data.toList (ByteArray.mk #[45]).data.toList).toArray⟩ = db := ⟨_, rfl⟩
  have htl := text_list s i hi
  rw [ht] at htl
  have hdl : db.data.toList = Lex.numDigs s[i] (s.data.toList.drop (i + 1)) := by
    rw [← hd, htl]; exact trim_list _ _
  have htz : tb.size = 1 + run Lex.digit s (i + 1) := by rw [← size_list, htl, List.length_cons, Nat.add_comm]; rfl
  have hcases := num_cases s[i] _ hc tb db htl hdl ((next_inner s i hend).trans hin)
  have hsz : db.size + 1 ≥ tb.size := by
    rw [← size_list, hdl, htz]
    show (Lex.numDigs s[i] _).length + 1 ≥ 1 + (Lex.numRun _).length
    unfold Lex.numDigs
    split
    · omega
    · simp only [List.length_cons]; omega
  generalize hk : run Lex.digit s (i + 1) = k at *
  generalize Lex.numL s[i] (s.data.toList.drop (i + 1)) = t at *
  have HK := Lib.hid hk
  have HT := Lib.hid ht
  have HD := Lib.hid hd
  have HN := Lib.hid hin
  clear hin
  clear hk ht hd htl hdl htz hc
  rcases hcases with ⟨e1, hF⟩ | ⟨hp, e1, e2, e3, hF⟩ | ⟨hp, e1, e2, e3, h9, hF, hA⟩ | ⟨hp, e1, e2, h9, hF⟩ | ⟨hp, e1, e2, h9, hF, hA⟩
  · have HF := Lib.hid hF
    clear hF
    go_enter Tryz.func61, Tryz.ntmps61
    go_wp2_with fail
    refine (while_digit s (i + 1) _ (by omega) hs).mono ?_
    rintro e w' ⟨rfl, rfl⟩
    rw [HK.out]
    go_wp2_with fail
    rw [HT.out]
    refine (Tryz.strings_TrimPrefix _ _ _).mono ?_
    rintro e w' ⟨rfl, rfl⟩
    rw [HD.out]
    go_wp2_with (go_at_call 59; refine (inner_no _ HN.out _).mono ?_; rintro e w' ⟨rfl, rfl⟩)
    rw [HF.out]
    exact bodyPost_ret (v := .tuple #[zeroTok, .int .i64 0, .int .i64 3]) (by simp [results, Tryz.results61, go_sem, zeroTok]) rfl ⟨rfl, (Below.refl _ _).alloc (Nat.le_refl _) _⟩
  · have HF := Lib.hid hF
    clear hF
    go_enter Tryz.func61, Tryz.ntmps61
    go_wp2_with fail
    refine (while_digit s (i + 1) _ (by omega) hs).mono ?_
    rintro e w' ⟨rfl, rfl⟩
    rw [HK.out]
    go_wp2_with fail
    rw [HT.out]
    refine (Tryz.strings_TrimPrefix _ _ _).mono ?_
    rintro e w' ⟨rfl, rfl⟩
    rw [HD.out]
    go_wp2_with (go_at_call 59; refine (inner_no _ HN.out _).mono ?_; rintro e w' ⟨rfl, rfl⟩)
    rw [HF.out]
    exact bodyPost_ret (v := .tuple #[zeroTok, .int .i64 0, .int .i64 3]) (by simp [results, Tryz.results61, go_sem, zeroTok]) rfl ⟨rfl, (Below.refl _ _).alloc (Nat.le_refl _) _⟩
  · have HF := Lib.hid hF
    clear hF
    have HA := Lib.hid hA
    clear hA
    go_enter Tryz.func61, Tryz.ntmps61
    go_wp2_with fail
    refine (while_digit s (i + 1) _ (by omega) hs).mono ?_
    rintro e w' ⟨rfl, rfl⟩
    rw [HK.out]
    go_wp2_with fail
    rw [HT.out]
    refine (Tryz.strings_TrimPrefix _ _ _).mono ?_
    rintro e w' ⟨rfl, rfl⟩
    rw [HD.out]
    go_wp2_with (go_at_call 59; refine (inner_no _ HN.out _).mono ?_; rintro e w' ⟨rfl, rfl⟩)
    refine (atoi_text tb _ (by omega) HA.out _).mono ?_
    rintro e w1 ⟨rfl, hb⟩
    obtain ⟨q0, q1, q2, q3⟩ := tok_cells hb
    have f0 := tok_frozen hb 0
    have f1 := tok_frozen hb 1
    have f2 := tok_frozen hb 2
    have f3 := tok_frozen hb 3
    have hz := hb.size
    simp only [World.size_alloc] at hz
    go_wp2_with fail
    rw [HF.out]
    refine bodyPost_ret (v := .tuple #[.agg #[.int .i64 2, .string ⟨#[]⟩, .int .i64 (Lex.numVal s[i] (s.data.toList.drop (i + 1))), .int .i64 (i : Int)], .int .i64 (i + 1 + k : Nat), .int .i64 0]) (by simp [results, Tryz.results61, go_sem, q0, q1, q2, q3]) rfl ⟨rfl, ?_⟩
    exact (((((((Below.refl _ _).alloc (Nat.le_refl _) _).trans (hb.mono (by simp))).setCell (by simp) _).setCell (by simp) _).setCell (by simp) _).setCell (by simp) _)
  · have HF := Lib.hid hF
    clear hF
    go_enter Tryz.func61, Tryz.ntmps61
    go_wp2_with fail
    refine (while_digit s (i + 1) _ (by omega) hs).mono ?_
    rintro e w' ⟨rfl, rfl⟩
    rw [HK.out]
    go_wp2_with fail
    rw [HT.out]
    refine (Tryz.strings_TrimPrefix _ _ _).mono ?_
    rintro e w' ⟨rfl, rfl⟩
    rw [HD.out]
    go_wp2_with (go_at_call 59; refine (inner_no _ HN.out _).mono ?_; rintro e w' ⟨rfl, rfl⟩)
    rw [HF.out]
    exact bodyPost_ret (v := .tuple #[zeroTok, .int .i64 0, .int .i64 9]) (by simp [results, Tryz.results61, go_sem, zeroTok]) rfl ⟨rfl, (Below.refl _ _).alloc (Nat.le_refl _) _⟩
  · have HF := Lib.hid hF
    clear hF
    have HA := Lib.hid hA
    clear hA
    go_enter Tryz.func61, Tryz.ntmps61
    go_wp2_with fail
    refine (while_digit s (i + 1) _ (by omega) hs).mono ?_
    rintro e w' ⟨rfl, rfl⟩
    rw [HK.out]
    go_wp2_with fail
    rw [HT.out]
    refine (Tryz.strings_TrimPrefix _ _ _).mono ?_
    rintro e w' ⟨rfl, rfl⟩
    rw [HD.out]
    go_wp2_with (go_at_call 59; refine (inner_no _ HN.out _).mono ?_; rintro e w' ⟨rfl, rfl⟩)
    refine (atoi_text tb _ (by omega) HA.out _).mono ?_
    rintro e w1 ⟨rfl, hb⟩
    obtain ⟨q0, q1, q2, q3⟩ := tok_cells hb
    have f0 := tok_frozen hb 0
    have f1 := tok_frozen hb 1
    have f2 := tok_frozen hb 2
    have f3 := tok_frozen hb 3
    have hz := hb.size
    simp only [World.size_alloc] at hz
    go_wp2_with fail
    rw [HF.out]
    refine bodyPost_ret (v := .tuple #[.agg #[.int .i64 2, .string ⟨#[]⟩, .int .i64 (Lex.numVal s[i] (s.data.toList.drop (i + 1))), .int .i64 (i : Int)], .int .i64 (i + 1 + k : Nat), .int .i64 0]) (by simp [results, Tryz.results61, go_sem, q0, q1, q2, q3]) rfl ⟨rfl, ?_⟩
    exact (((((((Below.refl _ _).alloc (Nat.le_refl _) _).trans (hb.mono (by simp))).setCell (by simp) _).setCell (by simp) _).setCell (by simp) _).setCell (by simp) _)

set_option maxRecDepth 100000 in
set_option maxHeartbeats 1000000 in
theorem number_end (s : ByteArray) (i : Nat) (w : World) (hi : i < s.size) (hs : s.size ≤ 1000000) (hc : (Lex.digit s[i] || decide (s[i] = 45)) = true) (hend : s.size ≤ i + 1 + run Lex.digit s (i + 1)) :
    Calls Tryz.prog 61 #[.string s, .int .i64 (i : Int)] w fun e w' => e = .returned (trV (Lex.numL s[i] (s.data.toList.drop (i + 1))) i (i + 1 + run Lex.digit s (i + 1))) ∧ Below w.heap.size w w' := by
  have hr := run_le Lex.digit s (i + 1) (by omega)
  obtain ⟨tb, ht⟩ : ∃ tb, s.extract i (i + 1 + run Lex.digit s (i + 1)) = tb := ⟨_, rfl⟩
  obtain ⟨db, hd⟩ : ∃ db : ByteArray, ⟨(Lib.trimPrefix tb.data.toList (ByteArray.mk #[45]).data.toList).toArray⟩ = db := ⟨_, rfl⟩
  have htl := text_list s i hi
  rw [ht] at htl
  have hdl : db.data.toList = Lex.numDigs s[i] (s.data.toList.drop (i + 1)) := by
    rw [← hd, htl]; exact trim_list _ _
  have htz : tb.size = 1 + run Lex.digit s (i + 1) := by rw [← size_list, htl, List.length_cons, Nat.add_comm]; rfl
  have hcases := num_cases s[i] _ hc tb db htl hdl ((next_none s i hend))
  have hsz : db.size + 1 ≥ tb.size := by
    rw [← size_list, hdl, htz]
    show (Lex.numDigs s[i] _).length + 1 ≥ 1 + (Lex.numRun _).length
    unfold Lex.numDigs
    split
    · omega
    · simp only [List.length_cons]; omega
  generalize hk : run Lex.digit s (i + 1) = k at *
  generalize Lex.numL s[i] (s.data.toList.drop (i + 1)) = t at *
  have HK := Lib.hid hk
  have HT := Lib.hid ht
  have HD := Lib.hid hd
  clear hk ht hd htl hdl htz hc
  rcases hcases with ⟨e1, hF⟩ | ⟨hp, e1, e2, e3, hF⟩ | ⟨hp, e1, e2, e3, h9, hF, hA⟩ | ⟨hp, e1, e2, h9, hF⟩ | ⟨hp, e1, e2, h9, hF, hA⟩
  · have HF := Lib.hid hF
    clear hF
    go_enter Tryz.func61, Tryz.ntmps61
    go_wp2_with fail
    refine (while_digit s (i + 1) _ (by omega) hs).mono ?_
    rintro e w' ⟨rfl, rfl⟩
    rw [HK.out]
    go_wp2_with fail
    rw [HT.out]
    refine (Tryz.strings_TrimPrefix _ _ _).mono ?_
    rintro e w' ⟨rfl, rfl⟩
    rw [HD.out]
    go_wp2_with fail
    rw [HF.out]
    exact bodyPost_ret (v := .tuple #[zeroTok, .int .i64 0, .int .i64 3]) (by simp [results, Tryz.results61, go_sem, zeroTok]) rfl ⟨rfl, (Below.refl _ _).alloc (Nat.le_refl _) _⟩
  · have HF := Lib.hid hF
    clear hF
    go_enter Tryz.func61, Tryz.ntmps61
    go_wp2_with fail
    refine (while_digit s (i + 1) _ (by omega) hs).mono ?_
    rintro e w' ⟨rfl, rfl⟩
    rw [HK.out]
    go_wp2_with fail
    rw [HT.out]
    refine (Tryz.strings_TrimPrefix _ _ _).mono ?_
    rintro e w' ⟨rfl, rfl⟩
    rw [HD.out]
    go_wp2_with fail
    rw [HF.out]
    exact bodyPost_ret (v := .tuple #[zeroTok, .int .i64 0, .int .i64 3]) (by simp [results, Tryz.results61, go_sem, zeroTok]) rfl ⟨rfl, (Below.refl _ _).alloc (Nat.le_refl _) _⟩
  · have HF := Lib.hid hF
    clear hF
    have HA := Lib.hid hA
    clear hA
    go_enter Tryz.func61, Tryz.ntmps61
    go_wp2_with fail
    refine (while_digit s (i + 1) _ (by omega) hs).mono ?_
    rintro e w' ⟨rfl, rfl⟩
    rw [HK.out]
    go_wp2_with fail
    rw [HT.out]
    refine (Tryz.strings_TrimPrefix _ _ _).mono ?_
    rintro e w' ⟨rfl, rfl⟩
    rw [HD.out]
    go_wp2_with fail
    refine (atoi_text tb _ (by omega) HA.out _).mono ?_
    rintro e w1 ⟨rfl, hb⟩
    obtain ⟨q0, q1, q2, q3⟩ := tok_cells hb
    have f0 := tok_frozen hb 0
    have f1 := tok_frozen hb 1
    have f2 := tok_frozen hb 2
    have f3 := tok_frozen hb 3
    have hz := hb.size
    simp only [World.size_alloc] at hz
    go_wp2_with fail
    rw [HF.out]
    refine bodyPost_ret (v := .tuple #[.agg #[.int .i64 2, .string ⟨#[]⟩, .int .i64 (Lex.numVal s[i] (s.data.toList.drop (i + 1))), .int .i64 (i : Int)], .int .i64 (i + 1 + k : Nat), .int .i64 0]) (by simp [results, Tryz.results61, go_sem, q0, q1, q2, q3]) rfl ⟨rfl, ?_⟩
    exact (((((((Below.refl _ _).alloc (Nat.le_refl _) _).trans (hb.mono (by simp))).setCell (by simp) _).setCell (by simp) _).setCell (by simp) _).setCell (by simp) _)
  · have HF := Lib.hid hF
    clear hF
    go_enter Tryz.func61, Tryz.ntmps61
    go_wp2_with fail
    refine (while_digit s (i + 1) _ (by omega) hs).mono ?_
    rintro e w' ⟨rfl, rfl⟩
    rw [HK.out]
    go_wp2_with fail
    rw [HT.out]
    refine (Tryz.strings_TrimPrefix _ _ _).mono ?_
    rintro e w' ⟨rfl, rfl⟩
    rw [HD.out]
    go_wp2_with fail
    rw [HF.out]
    exact bodyPost_ret (v := .tuple #[zeroTok, .int .i64 0, .int .i64 9]) (by simp [results, Tryz.results61, go_sem, zeroTok]) rfl ⟨rfl, (Below.refl _ _).alloc (Nat.le_refl _) _⟩
  · have HF := Lib.hid hF
    clear hF
    have HA := Lib.hid hA
    clear hA
    go_enter Tryz.func61, Tryz.ntmps61
    go_wp2_with fail
    refine (while_digit s (i + 1) _ (by omega) hs).mono ?_
    rintro e w' ⟨rfl, rfl⟩
    rw [HK.out]
    go_wp2_with fail
    rw [HT.out]
    refine (Tryz.strings_TrimPrefix _ _ _).mono ?_
    rintro e w' ⟨rfl, rfl⟩
    rw [HD.out]
    go_wp2_with fail
    refine (atoi_text tb _ (by omega) HA.out _).mono ?_
    rintro e w1 ⟨rfl, hb⟩
    obtain ⟨q0, q1, q2, q3⟩ := tok_cells hb
    have f0 := tok_frozen hb 0
    have f1 := tok_frozen hb 1
    have f2 := tok_frozen hb 2
    have f3 := tok_frozen hb 3
    have hz := hb.size
    simp only [World.size_alloc] at hz
    go_wp2_with fail
    rw [HF.out]
    refine bodyPost_ret (v := .tuple #[.agg #[.int .i64 2, .string ⟨#[]⟩, .int .i64 (Lex.numVal s[i] (s.data.toList.drop (i + 1))), .int .i64 (i : Int)], .int .i64 (i + 1 + k : Nat), .int .i64 0]) (by simp [results, Tryz.results61, go_sem, q0, q1, q2, q3]) rfl ⟨rfl, ?_⟩
    exact (((((((Below.refl _ _).alloc (Nat.le_refl _) _).trans (hb.mono (by simp))).setCell (by simp) _).setCell (by simp) _).setCell (by simp) _).setCell (by simp) _)
end Go.Proofs.YteldekkodhfkkaaGreatDoor.LexW
