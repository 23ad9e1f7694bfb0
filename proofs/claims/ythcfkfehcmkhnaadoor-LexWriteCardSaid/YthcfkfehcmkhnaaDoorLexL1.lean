/- The law LexTokens, walked: Tokens returns the specified tokens, or the specified offset and error. Conditions: none. -/
import Derived.Test.YthcfkfehcmkhnaaDoorLexW13
namespace Go.Proofs.YthcfkfehcmkhnaaDoor.LexW
open Go Go.RowKit Go.Proofs.YthcfkfehcmkhnaaDoor.Mem

theorem tokEq_refl (offs : Bool) (x : Lex.Tok) : tokEq offs x x = true := by unfold tokEq; simp
theorem same_refl (offs : Bool) (l : List Lex.Tok) : same offs l l = true := by
  induction l with
  | nil => rfl
  | cons x r ih => simp [same, tokEq_refl, ih]
theorem lexF_len : ∀ (f : Nat) (l : List UInt8) (p : Nat), (Lex.lexF f l p).toks.length ≤ f
  | 0, _, _ => by simp [Lex.lexF]
  | f + 1, [], _ => by simp [Lex.lexF]
  | f + 1, c :: r, p => by
    simp only [Lex.lexF]
    split
    · exact Nat.le_succ_of_le (lexF_len f _ _)
    · split
      · exact Nat.le_succ_of_le (lexF_len f _ _)
      · split
        · unfold Lex.LR.cons
          split
          · simp only [List.length_cons]
            have := lexF_len f ((c :: r).drop (Lex.tokL (c :: r)).len) (p + (Lex.tokL (c :: r)).len)
            omega
          · simp
        · simp
theorem tokens_len (l : List UInt8) : (Lex.tokens l).toks.length ≤ 20000 := by
  unfold Lex.tokens
  split
  · simp
  · have := lexF_len l.length l 0
    unfold Lex.lex
    omega

set_option maxRecDepth 100000 in
set_option maxHeartbeats 1000000 in
theorem lexTokens_walk (s : ByteArray) (w : World) : Calls Tryd.prog 3 #[.string s] w fun e w' => e = .returned (.bool true) ∧ Below w.heap.size w w' := by
  by_cases hs : s.size ≤ 600
  · have hlen := tokens_len s.data.toList
    have ht := fun W => tokens_any s W
    have hr := fun W => rtokens_any s W
    generalize Lex.tokens s.data.toList = R at *
    obtain ⟨toks, pos, err⟩ := R
    simp only at hlen
    have HT := Lib.hid ht
    have HR := Lib.hid hr
    clear ht hr
    go_enter Tryd.func3, Tryd.ntmps3
    go_wp2_with fail
    refine (awake_any _).mono ?_
    rintro e w1 ⟨rfl, hb1⟩
    go_wp2_with fail
    refine (HT.out _).mono ?_
    rintro e w2 ⟨v2, rfl, hown2, hb2⟩
    obtain ⟨A2, c2, rfl, _⟩ := own_shape hown2
    have hr2 := Row.of_own hown2
    have hb12 := hb1.trans (hb2.mono hb1.size)
    clear hown2
    go_wp2_with fail
    refine (HR.out _).mono ?_
    rintro e w3 ⟨v3, rfl, hown3, hb3⟩
    obtain ⟨A3, c3, rfl, _⟩ := own_shape hown3
    have hr3 := Row.of_own hown3
    have hb13 := hb12.trans (hb3.mono hb12.size)
    have hr23 := hr2.below hb3
    clear hown3 hr2 hb2 hb3 hb12 hb1
    go_wp2_with fail
    refine (theirs_any toks A2 c2 _ hr23 (by omega)).mono ?_
    rintro e w4 ⟨⟨v4, rfl, hown4⟩, hb4⟩
    obtain ⟨A4, c4, rfl, _⟩ := own_shape hown4
    have hr4 := Row.of_own hown4
    have hr34 := hr3.below hb4
    have hb14 := hb13.trans (hb4.mono hb13.size)
    clear hown4 hr3 hb4 hb13
    go_wp2_with fail
    refine (rsame_any toks toks A4 A3 c4 c3 true _ hr4 hr34 (by omega) (by omega)).mono ?_
    rintro e w5 ⟨rfl, hb5⟩
    have hb15 := hb14.trans (hb5.mono hb14.size)
    rw [same_refl]
    go_wp2
    go_ret
    exact ⟨rfl, hb15⟩
  · go_enter Tryd.func3, Tryd.ntmps3
    go_wp2_with (go_at_call 10; refine (awake_any _).mono ?_; rintro e w1 ⟨rfl, hb1⟩)
    go_ret
    exact ⟨rfl, hb1⟩
end Go.Proofs.YthcfkfehcmkhnaaDoor.LexW
