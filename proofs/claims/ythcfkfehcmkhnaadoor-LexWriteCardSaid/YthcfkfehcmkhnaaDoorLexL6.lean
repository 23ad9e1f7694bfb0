/- The law LexRoundTrip, walked: the tokens of Join are those that were joined. Conditions: the library's table of powers of ten holds what its text lays. -/
import Derived.Test.YthcfkfehcmkhnaaDoorLexW16
import Derived.Test.YthcfkfehcmkhnaaDoorLexL5
namespace Go.Proofs.YthcfkfehcmkhnaaDoor.LexW
open Go Go.RowKit Go.Proofs.YthcfkfehcmkhnaaDoor.Mem

theorem gjoin_joinW (l : List Lex.Tok) : gjoin (l.map GT.of) = Lex.joinW l := by
  cases l with
  | nil => rfl
  | cons t r =>
    have h : ∀ r : List Lex.Tok, Lib.joinTail [32] ((r.map GT.of).map gwrite) = Lex.glue (r.map fun u => ([32], u)) := by
      intro r
      induction r with
      | nil => rfl
      | cons u r ih =>
        show [32] ++ gwrite (GT.of u) ++ Lib.joinTail [32] ((r.map GT.of).map gwrite) = [32] ++ (Lex.write u ++ Lex.glue (r.map fun u => ([32], u)))
        rw [ih, List.append_assoc]; rfl
    show Lib.join (gwrite (GT.of t) :: (r.map GT.of).map gwrite) [32] = _
    rw [Lib.join_cons, h]; rfl

def wsum (l : List Lex.Tok) : Nat := (l.map fun t => (Lex.write t).length).sum
theorem okFrom_sum (S : List UInt8) : ∀ (l : List Lex.Tok) (q : Nat), q ≤ S.length → Lex.okFrom S q l → q + wsum l ≤ S.length
  | [], q, hq, _ => by simpa [wsum] using hq
  | t :: r, q, hq, h => by
    obtain ⟨h1, h2, h3, _, _, h6⟩ := h
    have := okFrom_sum S r _ h3 h6
    simp only [wsum, List.map_cons, List.sum_cons] at this ⊢
    omega
theorem glue_len (g : List UInt8) : ∀ (r : List Lex.Tok), (Lex.glue (r.map fun u => (g, u))).length = wsum r + r.length * g.length
  | [] => by simp [Lex.glue, wsum]
  | t :: r => by
    have := glue_len g r
    simp only [List.map_cons, Lex.glue, List.length_append, wsum, List.sum_cons, List.length_cons, Nat.add_mul] at this ⊢
    omega
theorem joinW_len (l : List Lex.Tok) : (Lex.joinW l).length ≤ wsum l + l.length := by
  cases l with
  | nil => simp [Lex.joinW]
  | cons t r =>
    have := glue_len [32] r
    simp only [Lex.joinW, List.length_append, wsum, List.map_cons, List.sum_cons, List.length_cons, List.length_nil] at this ⊢
    omega

set_option maxRecDepth 100000 in
set_option maxHeartbeats 1000000 in
theorem lexRound_ok (s : ByteArray) (tA tB : List Lex.Tok) (pA pB : Nat) (J : ByteArray) (w : World) (hs : s.size ≤ 600) (hL : Laid w)
    (hA : ∀ W : World, Calls Tryd.prog 11 #[.string s] W fun e w' => (∃ A c, e = .returned (.tuple #[.slice A tA.length c, .int .i64 (pA : Int), .int .i64 0]) ∧ Row w' A (toksCells tA)) ∧ Below W.heap.size W w')
    (hB : ∀ W : World, Calls Tryd.prog 11 #[.string J] W fun e w' => (∃ A c, e = .returned (.tuple #[.slice A tB.length c, .int .i64 (pB : Int), .int .i64 0]) ∧ Row w' A (toksCells tB)) ∧ Below W.heap.size W w')
    (hJ : ∀ (W : World) (A : Option Addr) (c : Nat), Laid W → Row W A (toksCells tA) → Calls Tryd.prog 17 #[.slice A tA.length c] W fun e w' => e = .returned (.string J) ∧ Below W.heap.size W w')
    (lA : tA.length ≤ 10000) (lB : tB.length ≤ 10000) (hsame : same false tA tB = true) :
    Calls Tryd.prog 8 #[.string s] w fun e w' => e = .returned (.bool true) ∧ Below w.heap.size w w' := by
  have HA := Lib.hid hA
  have HB := Lib.hid hB
  have HJ := Lib.hid hJ
  have HL := Lib.hid hL
  have HS := Lib.hid hsame
  clear hA hB hJ hL hsame
  go_enter Tryd.func8, Tryd.ntmps8
  go_wp2_with fail
  refine (awake_any _).mono ?_
  rintro e w1 ⟨rfl, hb1⟩
  go_wp2_with fail
  refine (HA.out _).mono ?_
  rintro e w2 ⟨⟨A2, c2, rfl, r2⟩, hb2⟩
  have hb12 := hb1.trans (hb2.mono hb1.size)
  clear hb1 hb2
  go_wp2_with fail
  refine (HJ.out _ _ _ (HL.out.below hb12) r2).mono ?_
  rintro e w3 ⟨rfl, hb3⟩
  have q2 := r2.below hb3
  have hb13 := hb12.trans (hb3.mono hb12.size)
  clear hb12 hb3 r2
  go_wp2_with fail
  refine (HB.out _).mono ?_
  rintro e w4 ⟨⟨A4, c4, rfl, r4⟩, hb4⟩
  have r2 := q2.below hb4
  have hb14 := hb13.trans (hb4.mono hb13.size)
  clear hb13 hb4 q2
  go_wp2_with fail
  refine (theirs_any tA A2 c2 _ r2 (by omega)).mono ?_
  rintro e w5 ⟨⟨v5, rfl, own5⟩, hb5⟩
  obtain ⟨A5, c5, rfl, _⟩ := own_shape own5
  have q5 := Row.of_own own5
  have q4 := r4.below hb5
  have hb15 := hb14.trans (hb5.mono hb14.size)
  clear own5 hb5 hb14 r4 r2
  go_wp2_with fail
  refine (theirs_any tB A4 c4 _ q4 (by omega)).mono ?_
  rintro e w6 ⟨⟨v6, rfl, own6⟩, hb6⟩
  obtain ⟨A6, c6, rfl, _⟩ := own_shape own6
  have q6 := Row.of_own own6
  have r5 := q5.below hb6
  have hb16 := hb15.trans (hb6.mono hb15.size)
  clear own6 hb6 hb15 q4 q5
  go_wp2_with fail
  refine (rsame_any tA tB A5 A6 c5 c6 false _ r5 q6 (by omega) (by omega)).mono ?_
  rintro e w9 ⟨rfl, hb9⟩
  rw [HS.out]
  have hb20 := hb16.trans (hb9.mono hb16.size)
  go_wp2
  go_ret
  exact ⟨rfl, hb20⟩

set_option maxRecDepth 100000 in
set_option maxHeartbeats 2000000 in
theorem lexRound_bad (s : ByteArray) (n pos : Nat) (err : Int) (he : (err != 0) = true) (w : World) (hs : s.size ≤ 600)
    (hA : ∀ W : World, Calls Tryd.prog 11 #[.string s] W fun e w' => (∃ A c, e = .returned (.tuple #[.slice A n c, .int .i64 (pos : Int), .int .i64 err])) ∧ Below W.heap.size W w') :
    Calls Tryd.prog 8 #[.string s] w fun e w' => e = .returned (.bool true) ∧ Below w.heap.size w w' := by
  have HA := Lib.hid hA
  clear hA
  go_enter Tryd.func8, Tryd.ntmps8
  go_wp2_with fail
  refine (awake_any _).mono ?_
  rintro e w1 ⟨rfl, hb1⟩
  go_wp2_with fail
  refine (HA.out _).mono ?_
  rintro e w2 ⟨⟨A2, c2, rfl⟩, hb2⟩
  go_wp2
  go_ret
  exact ⟨rfl, hb1.trans (hb2.mono hb1.size)⟩

set_option maxRecDepth 100000 in
set_option maxHeartbeats 2000000 in
theorem lexRound_walk (s : ByteArray) (w : World) (hL : Laid w) : Calls Tryd.prog 8 #[.string s] w fun e w' => e = .returned (.bool true) ∧ Below w.heap.size w w' := by
  by_cases ha : s.size ≤ 600
  · have hl := fun W : World => lexed s (by omega) W
    have hn : (Lex.lex s.data.toList 0).toks.length ≤ s.data.toList.length := lex_len
    by_cases he : (Lex.lex s.data.toList 0).err = 0
    · have h1 := okFrom_sum _ _ _ (Nat.zero_le _) (Lex.lex_offs he)
      have h2 := lex_i64 he
      have h3 := Lex.lex_join (l := (Lex.lex s.data.toList 0).toks) (Lex.lex_word he) 0
      have h4 := joinW_len (Lex.lex s.data.toList 0).toks
      rw [size_list] at hn h1
      rw [he] at hl
      have e1 : (ByteArray.mk (Lex.joinW (Lex.lex s.data.toList 0).toks).toArray).data.toList = Lex.joinW (Lex.lex s.data.toList 0).toks := by simp
      have hB := fun W : World => lexed ⟨(Lex.joinW (Lex.lex s.data.toList 0).toks).toArray⟩ (by rw [str_size]; omega) W
      have hn2 : (Lex.lex (Lex.joinW (Lex.lex s.data.toList 0).toks) 0).toks.length ≤ (Lex.joinW (Lex.lex s.data.toList 0).toks).length := lex_len
      rw [e1, h3.1] at hB
      refine lexRound_ok s _ _ _ _ _ w ha hL hl hB ?_ (by omega) (by omega) (same_keys _ _ h3.2.symm)
      intro W A c hLW hR
      have hj := join_any ((Lex.lex s.data.toList 0).toks.map GT.of) A c W hLW (by rw [gts_of]; exact hR) (by rw [List.length_map]; omega) (by
        intro t ht
        obtain ⟨u, hu, rfl⟩ := List.mem_map.1 ht
        exact h2 u hu) (by rw [gjoin_joinW]; omega)
      rw [gjoin_joinW, List.length_map] at hj
      exact hj
    · refine lexRound_bad s (Lex.lex s.data.toList 0).toks.length (Lex.lex s.data.toList 0).pos (Lex.lex s.data.toList 0).err (by rw [bne_iff_ne]; exact he) w ha (fun W => (hl W).mono ?_)
      rintro e w' ⟨⟨A, c, h1, _⟩, h2⟩
      exact ⟨⟨A, c, h1⟩, h2⟩
  · go_enter Tryd.func8, Tryd.ntmps8
    go_wp2_with (go_at_call 10; refine (awake_any _).mono ?_; rintro e w1 ⟨rfl, hb1⟩)
    go_ret
    exact ⟨rfl, hb1⟩
end Go.Proofs.YthcfkfehcmkhnaaDoor.LexW
