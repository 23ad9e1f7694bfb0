/- The law LexParts, walked: the tokens of two sources with a line feed in between are those of both. Conditions: none. -/
import Derived.Test.YthcfkfehcmkhnaaDoorLexL1
import Derived.Test.YthcfkfehcmkhnaaDoorLexW15
import Derived.Test.YthcfkfehcmkhnaaDoorMem2
namespace Go.Proofs.YthcfkfehcmkhnaaDoor.LexW
open Go Go.RowKit Go.Proofs.YthcfkfehcmkhnaaDoor.Mem

theorem tokens_lex {l : List UInt8} (h : l.length ≤ 20000) : Lex.tokens l = Lex.lex l 0 := by unfold Lex.tokens; rw [if_neg (by omega)]
theorem feed_list (a b : ByteArray) : ((a ++ ⟨#[10]⟩) ++ b).data.toList = a.data.toList ++ 10 :: b.data.toList := by
  rw [ByteArray.data_append, ByteArray.data_append]; simp
theorem feed_size (a b : ByteArray) : ((a ++ ⟨#[10]⟩) ++ b).size = a.size + 1 + b.size := by
  rw [← size_list, feed_list, List.length_append, List.length_cons, size_list, size_list]; omega
theorem same_keys : ∀ (a b : List Lex.Tok), a.map Lex.key = b.map Lex.key → same false a b = true
  | [], [], _ => rfl
  | [], _ :: _, h => by simp at h
  | _ :: _, [], h => by simp at h
  | x :: a, y :: b, h => by
    simp only [List.map_cons, List.cons.injEq, Lex.key, Prod.mk.injEq] at h
    simp [same, tokEq, h.1.1, h.1.2.1, h.1.2.2, same_keys a b h.2]

theorem toks_one (l : List Lex.Tok) : ∀ u ∈ toksCells l, u.oneCell' = true := by
  intro u hu
  simp only [toksCells, List.mem_flatMap] at hu
  obtain ⟨t, _, hu⟩ := hu
  simp only [tokCells, List.mem_cons, List.not_mem_nil, or_false] at hu
  rcases hu with rfl | rfl | rfl | rfl <;> rfl

/-- The three ways of two sources. -/
theorem parts_ways (A B : List UInt8) :
    ((Lex.lex A 0).err ≠ 0 ∧ Lex.lex (A ++ 10 :: B) 0 = Lex.lex A 0) ∨
    ((Lex.lex A 0).err = 0 ∧ (Lex.lex B 0).err ≠ 0 ∧ Lex.lex (A ++ 10 :: B) 0 = ⟨[], (Lex.lex B 0).pos + (A.length + 1), (Lex.lex B 0).err⟩) ∨
    ((Lex.lex A 0).err = 0 ∧ (Lex.lex B 0).err = 0 ∧ (Lex.lex (A ++ 10 :: B) 0).err = 0 ∧ (Lex.lex (A ++ 10 :: B) 0).pos = 0 ∧
      same false (Lex.lex (A ++ 10 :: B) 0).toks ((Lex.lex A 0).toks ++ (Lex.lex B 0).toks) = true) := by
  have h := Lex.lex_parts A B
  by_cases ha : (Lex.lex A 0).err = 0
  · rw [if_pos ha] at h
    by_cases hb : (Lex.lex B 0).err = 0
    · refine .inr (.inr ⟨ha, hb, ?_⟩)
      rw [h]
      unfold Lex.LR.fin Lex.LR.shift
      simp only [hb, if_true]
      refine ⟨trivial, trivial, same_keys _ _ ?_⟩
      simp [Lex.key]
    · refine .inr (.inl ⟨ha, hb, ?_⟩)
      rw [h]
      unfold Lex.LR.fin Lex.LR.shift
      simp only [hb, if_false]
  · rw [if_neg ha] at h
    exact .inl ⟨ha, h⟩

theorem lexF_pos : ∀ (f : Nat) (l : List UInt8) (p : Nat), (Lex.lexF f l p).pos ≤ p + l.length
  | 0, _, _ => by simp [Lex.lexF]
  | f + 1, [], _ => by simp [Lex.lexF]
  | f + 1, c :: r, p => by
    simp only [Lex.lexF, List.length_cons]
    split
    · have := lexF_pos f r (p + 1); omega
    · split
      · have h1 := lexF_pos f ((c :: r).dropWhile Lex.notFeed) (p + ((c :: r).takeWhile Lex.notFeed).length)
        have h2 := congrArg List.length (List.takeWhile_append_dropWhile (p := Lex.notFeed) (l := c :: r))
        rw [List.length_append, List.length_cons] at h2
        omega
      · split
        · rename_i h
          have hl := Lex.tok_len h
          have h1 := lexF_pos f ((c :: r).drop (Lex.tokL (c :: r)).len) (p + (Lex.tokL (c :: r)).len)
          rw [List.length_drop, List.length_cons] at h1
          unfold Lex.LR.cons
          split
          · simp
          · simp only; omega
        · simp
theorem lex_pos {l : List UInt8} : (Lex.lex l 0).pos ≤ l.length := by
  have := lexF_pos l.length l 0
  unfold Lex.lex; omega

/-- The program's lexer, its result in parts. -/
theorem lexed (s : ByteArray) (hs : s.size ≤ 20000) (w : World) : Calls Tryd.prog 11 #[.string s] w fun e w' => (∃ A c, e = .returned (.tuple #[.slice A (Lex.lex s.data.toList 0).toks.length c, .int .i64 ((Lex.lex s.data.toList 0).pos : Int), .int .i64 (Lex.lex s.data.toList 0).err]) ∧ Row w' A (toksCells (Lex.lex s.data.toList 0).toks)) ∧ Below w.heap.size w w' := by
  refine (tokens_any s w).mono ?_
  rintro e w' ⟨v, rfl, hown, hb⟩
  rw [tokens_lex (by rw [size_list]; exact hs)] at *
  obtain ⟨A, c, rfl, _⟩ := own_shape hown
  exact ⟨⟨A, c, rfl, Row.of_own hown⟩, hb⟩

theorem lex_len {l : List UInt8} : (Lex.lex l 0).toks.length ≤ l.length := lexF_len _ _ _

set_option maxRecDepth 100000 in
set_option maxHeartbeats 1000000 in
theorem lexParts_short (a b : ByteArray) (w : World) (ha : a.size ≤ 600) (hb : b.size ≤ 600) : Calls Tryd.prog 4 #[.string a, .string b] w fun e w' => e = .returned (.bool true) ∧ Below w.heap.size w w' := by
  have hA := fun W => lexed a (by omega) W
  have hB := fun W => lexed b (by omega) W
  have hC := fun W => lexed ((a ++ ⟨#[10]⟩) ++ b) (by rw [feed_size]; omega) W
  have hz := feed_size a b
  have lA : (Lex.lex a.data.toList 0).toks.length ≤ 600 := Nat.le_trans lex_len (by rw [size_list]; exact ha)
  have lB : (Lex.lex b.data.toList 0).toks.length ≤ 600 := Nat.le_trans lex_len (by rw [size_list]; exact hb)
  have lC : (Lex.lex ((a ++ ⟨#[10]⟩) ++ b).data.toList 0).toks.length ≤ 1300 := Nat.le_trans lex_len (by rw [size_list, feed_size]; omega)
  have kB : (Lex.lex b.data.toList 0).pos ≤ 600 := Nat.le_trans lex_pos (by rw [size_list]; exact hb)
  rw [feed_list] at hC lC
  have hw := parts_ways a.data.toList b.data.toList
  rw [size_list] at hw
  generalize Lex.lex a.data.toList 0 = RA at *
  generalize Lex.lex b.data.toList 0 = RB at *
  generalize Lex.lex (a.data.toList ++ 10 :: b.data.toList) 0 = RC at *
  obtain ⟨tA, pA, eA⟩ := RA
  obtain ⟨tB, pB, eB⟩ := RB
  obtain ⟨tC, pC, eC⟩ := RC
  simp only at hA hB hC lA lB lC hw kB
  have HA := Lib.hid hA
  have HB := Lib.hid hB
  have HC := Lib.hid hC
  have HZ := Lib.hid hz
  have hz1 : (a ++ (⟨#[10]⟩ : ByteArray)).size ≤ 601 := by rw [← size_list, ByteArray.data_append]; simp; omega
  have hz2 : (⟨#[10]⟩ : ByteArray).size = 1 := rfl
  clear hA hB hC hz
  obtain ⟨i0, ia, ib, ic, id⟩ := info_parts rtok_info
  rcases hw with ⟨h1, h2⟩ | ⟨h1, h2, h3⟩ | ⟨h1, h2, h3, h4, h5⟩
  · simp only [Lex.LR.mk.injEq] at h2
    obtain ⟨rfl, rfl, rfl⟩ := h2
    have hne : (eC != 0) = true := by simpa using h1
    clear h1
    go_enter Tryd.func4, Tryd.ntmps4
    go_wp2_with fail
    refine (awake_any _).mono ?_
    rintro e w1 ⟨rfl, hb1⟩
    go_wp2_with fail
    refine (HA.out _).mono ?_
    rintro e w2 ⟨⟨A2, c2, rfl, _⟩, hb2⟩
    go_wp2_with fail
    refine (HB.out _).mono ?_
    rintro e w3 ⟨⟨A3, c3, rfl, _⟩, hb3⟩
    go_wp2_with fail
    refine (HC.out _).mono ?_
    rintro e w4 ⟨⟨A4, c4, rfl, _⟩, hb4⟩
    have hb14 := ((hb1.trans (hb2.mono hb1.size)).trans (hb3.mono (hb1.trans (hb2.mono hb1.size)).size))
    have hb15 := hb14.trans (hb4.mono hb14.size)
    clear hb1 hb2 hb3 hb4 hb14
    go_wp2
    go_ret
    exact ⟨rfl, hb15⟩
  · simp only [Lex.LR.mk.injEq] at h3
    obtain ⟨rfl, rfl, rfl⟩ := h3
    have hne : (eC != 0) = true := by simpa using h2
    have he : ((pB : Int) + ((a.size : Int) + 1) == (a.size : Int) + 1 + (pB : Int)) = true := by rw [beq_iff_eq]; omega
    have he0 : ((pB + (a.size + 1) : Nat) : Int) = (pB : Int) + ((a.size : Int) + 1) := by omega
    rw [he0] at HC
    clear h2 he0
    go_enter Tryd.func4, Tryd.ntmps4
    go_wp2_with fail
    refine (awake_any _).mono ?_
    rintro e w1 ⟨rfl, hb1⟩
    go_wp2_with fail
    refine (HA.out _).mono ?_
    rintro e w2 ⟨⟨A2, c2, rfl, r2⟩, hb2⟩
    go_wp2_with fail
    refine (HB.out _).mono ?_
    rintro e w3 ⟨⟨A3, c3, rfl, r3⟩, hb3⟩
    go_wp2_with fail
    refine (HC.out _).mono ?_
    rintro e w4 ⟨⟨A4, c4, rfl, r4⟩, hb4⟩
    have hb14 := ((hb1.trans (hb2.mono hb1.size)).trans (hb3.mono (hb1.trans (hb2.mono hb1.size)).size))
    have hb15 := hb14.trans (hb4.mono hb14.size)
    clear hb1 hb2 hb3 hb4 hb14 r2 r3 r4
    go_wp2
    go_ret
    exact ⟨rfl, hb15⟩
  · subst h1 h2 h3 h4
    have H5 := Lib.hid h5
    clear h5
    go_enter Tryd.func4, Tryd.ntmps4
    go_wp2_with fail
    refine (awake_any _).mono ?_
    rintro e w1 ⟨rfl, hb1⟩
    go_wp2_with fail
    refine (HA.out _).mono ?_
    rintro e w2 ⟨⟨A2, c2, rfl, r2⟩, hb2⟩
    go_wp2_with fail
    refine (HB.out _).mono ?_
    rintro e w3 ⟨⟨A3, c3, rfl, r3⟩, hb3⟩
    go_wp2_with fail
    refine (HC.out _).mono ?_
    rintro e w4 ⟨⟨A4, c4, rfl, r4⟩, hb4⟩
    have hb14 := ((hb1.trans (hb2.mono hb1.size)).trans (hb3.mono (hb1.trans (hb2.mono hb1.size)).size))
    have hb15 := hb14.trans (hb4.mono hb14.size)
    have q2 := ((r2.below hb3).below hb4)
    have q3 := r3.below hb4
    clear hb1 hb2 hb3 hb4 hb14 r2 r3
    go_wp2_with fail
    refine (theirs_any tC A4 c4 _ r4 (by omega)).mono ?_
    rintro e w5 ⟨⟨v5, rfl, own5⟩, hb5⟩
    obtain ⟨A5, c5, rfl, _⟩ := own_shape own5
    have q5 := Row.of_own own5
    have p2 := q2.below hb5
    have p3 := q3.below hb5
    have hb16 := hb15.trans (hb5.mono hb15.size)
    clear own5 q2 q3 hb5 hb15 r4
    go_wp2_with fail
    refine (theirs_any tA A2 c2 _ p2 (by omega)).mono ?_
    rintro e w6 ⟨⟨v6, rfl, own6⟩, hb6⟩
    have q3 := p3.below hb6
    have hz5 := hb6.size
    have hz05 := hb16.size
    have hb17 := hb16.trans (hb6.mono hb16.size)
    clear p2 p3 hb16
    go_wp2_with fail
    refine (theirs_any tB A3 c3 _ q3 (by omega)).mono ?_
    rintro e w7 ⟨⟨v7, rfl, own7⟩, hb7⟩
    have hb57 := hb6.trans (hb7.mono hb6.size)
    have own6' := own_below own6 hb7
    have hz7 := hb7.size
    have hb18 := hb17.trans (hb7.mono hb17.size)
    clear own6 q3 hb6 hb7 hb17
    have hsum := toksCells_length tB
    obtain ⟨A7, c7, rfl, _⟩ := own_shape own7
    have q7 := Row.of_own own7
    have hone : ∀ u ∈ toksCells tB, u.oneCell' = true := toks_one tB
    go_wp2_with (at_builtin; refine wpList_append_row _ rfl _ _ 27 rfl w5.heap.size 43 i0 _ 4 40 Tryd.underlying27 ia ib ic id rfl (by omega) _ _ _ rfl own6' A7 tB.length c7 (toksCells tB) rfl q7 hsum hone ?c1 ?c2 ?c3 ?_)
    case c1 => unfold maxLen; omega
    case c2 => omega
    case c3 => omega
    intro v8 w8 own8 hg8
    obtain ⟨A8, c8, rfl, _⟩ := own_shape own8
    have q8 := Row.of_own own8
    have hb19 : Below w.heap.size w w8 := below_append hb18 (by omega) own6' hg8 (by omega)
    have q58 : Row w8 A5 (toksCells tC) := q5.below (below_append hb57 (by omega) own6' hg8 (Nat.le_refl _))
    have hcat : toksCells tA ++ toksCells tB = toksCells (tA ++ tB) := by simp [toksCells]
    have hlen : tA.length + tB.length = (tA ++ tB).length := by simp
    rw [hcat] at q8
    have HL := Lib.hid hlen
    clear own8 hg8 own7 q7 hb18 hb57 q5 own6' hcat hlen hone hsum
    go_wp2_with fail
    rw [HL.out]
    refine (rsame_any tC (tA ++ tB) A5 A8 c5 c8 false _ q58 q8 (by omega) (by rw [List.length_append]; omega)).mono ?_
    rintro e w9 ⟨rfl, hb9⟩
    rw [H5.out]
    have hb20 := hb19.trans (hb9.mono hb19.size)
    go_wp2
    go_ret
    exact ⟨rfl, hb20⟩

set_option maxRecDepth 100000 in
theorem lexParts_walk (a b : ByteArray) (w : World) : Calls Tryd.prog 4 #[.string a, .string b] w fun e w' => e = .returned (.bool true) ∧ Below w.heap.size w w' := by
  by_cases ha : a.size ≤ 600
  · by_cases hb : b.size ≤ 600
    · exact lexParts_short a b w ha hb
    · go_enter Tryd.func4, Tryd.ntmps4
      go_wp2_with (go_at_call 10; refine (awake_any _).mono ?_; rintro e w1 ⟨rfl, hb1⟩)
      go_ret
      exact ⟨rfl, hb1⟩
  · go_enter Tryd.func4, Tryd.ntmps4
    go_wp2_with (go_at_call 10; refine (awake_any _).mono ?_; rintro e w1 ⟨rfl, hb1⟩)
    go_ret
    exact ⟨rfl, hb1⟩
end Go.Proofs.YthcfkfehcmkhnaaDoor.LexW
