/- Walks: the program's lexer. Conditions: the text has at most 20000 bytes, or more. -/
import Derived.Test.YteldekkodhfkkaaGreatDoorLexW5
import Derived.Test.YteldekkodhfkkaaGreatDoorMem
namespace Go.Proofs.YteldekkodhfkkaaGreatDoor.LexW
open Go Go.RowKit Go.Proofs.YteldekkodhfkkaaGreatDoor.Mem

def tokCells (t : Lex.Tok) : List Value := [.int .i64 t.kind, .string ⟨t.text.toArray⟩, .int .i64 t.n, .int .i64 (t.pos : Int)]
def toksCells (l : List Lex.Tok) : List Value := l.flatMap tokCells
theorem toksCells_snoc (l : List Lex.Tok) (t : Lex.Tok) : toksCells (l ++ [t]) = toksCells l ++ tokCells t := by simp [toksCells]
theorem toksCells_length (l : List Lex.Tok) : (toksCells l).length = l.length * 4 := by
  induction l with
  | nil => rfl
  | cons t r ih =>
    show (tokCells t ++ toksCells r).length = (r.length + 1) * 4
    rw [List.length_append, ih]
    show 4 + r.length * 4 = _
    omega

theorem token_ok (s : ByteArray) (i : Nat) (w : World) (hi : i < s.size) (hs : s.size ≤ 1000000) (h : (Lex.tokL (s.data.toList.drop i)).err = 0) :
    Calls Tryz.prog 35 #[.string s, .int .i64 (i : Int)] w fun e w' => e = .returned (.tuple #[okTok (Lex.tokL (s.data.toList.drop i)) i, .int .i64 ((i + (Lex.tokL (s.data.toList.drop i)).len : Nat) : Int), .int .i64 0]) ∧ Below w.heap.size w w' := by
  have := token_any s i w hi hs
  rwa [trV_ok h] at this
theorem token_bad (s : ByteArray) (i : Nat) (w : World) (hi : i < s.size) (hs : s.size ≤ 1000000) (h : (Lex.tokL (s.data.toList.drop i)).err ≠ 0) :
    Calls Tryz.prog 35 #[.string s, .int .i64 (i : Int)] w fun e w' => e = .returned (.tuple #[zeroTok, .int .i64 0, .int .i64 (Lex.tokL (s.data.toList.drop i)).err]) ∧ Below w.heap.size w w' := by
  have := token_any s i w hi hs
  rwa [trV_bad h] at this

/-- Where a round of the lexer stands: what is read so far, and what is still to come, give the whole. -/
def At (S : List UInt8) (k : Nat) (acc : List Lex.Tok) : Prop := Lex.LR.fin acc (Lex.lex (S.drop k) k) = Lex.lex S 0
theorem At.start (S : List UInt8) : At S 0 [] := by
  unfold At
  rw [List.drop_zero, Lex.LR.fin_nil (Lex.lex_ok _ _)]
theorem At.blank {s : ByteArray} {k : Nat} {acc : List Lex.Tok} (h : At s.data.toList k acc) (hk : k < s.size) (hb : Lex.blank s[k] = true) : At s.data.toList (k + 1) acc := by
  unfold At at *
  rw [drop_at s k hk, Lex.lex_blank _ _ hb] at h
  exact h
theorem At.note {s : ByteArray} {k : Nat} {acc : List Lex.Tok} (h : At s.data.toList k acc) (hk : k < s.size) (hb : s[k] = 35) : At s.data.toList (k + run Lex.notFeed s k) acc := by
  unfold At at *
  rw [drop_at s k hk, Lex.lex_comment _ _ hb, ← drop_at s k hk] at h
  have hd := List.drop_left (l₁ := (s.data.toList.drop k).takeWhile Lex.notFeed) (l₂ := (s.data.toList.drop k).dropWhile Lex.notFeed)
  rw [List.takeWhile_append_dropWhile, List.drop_drop] at hd
  rw [← hd] at h
  exact h
theorem At.tok {s : ByteArray} {k : Nat} {acc : List Lex.Tok} (h : At s.data.toList k acc) (hk : k < s.size) (h0 : (Lex.tokL (s.data.toList.drop k)).err = 0) :
    At s.data.toList (k + (Lex.tokL (s.data.toList.drop k)).len) (acc ++ [⟨(Lex.tokL (s.data.toList.drop k)).kind, (Lex.tokL (s.data.toList.drop k)).text, (Lex.tokL (s.data.toList.drop k)).n, k⟩]) := by
  unfold At at *
  have hd := drop_at s k hk
  have h1 : (Lex.tokL (s[k] :: s.data.toList.drop (k + 1))).err = 0 := by rw [← hd]; exact h0
  have hh := Lex.tok_head h1
  have e := Lex.lex_tok _ k hh.1 hh.2 h1
  rw [← hd, List.drop_drop] at e
  rw [e, Lex.LR.fin_cons] at h
  exact h
theorem At.bad {s : ByteArray} {k : Nat} {acc : List Lex.Tok} (h : At s.data.toList k acc) (hk : k < s.size) (hb : Lex.blank s[k] = false) (hc : s[k] ≠ 35) (h0 : (Lex.tokL (s.data.toList.drop k)).err ≠ 0) :
    Lex.lex s.data.toList 0 = ⟨[], k, (Lex.tokL (s.data.toList.drop k)).err⟩ := by
  unfold At at *
  have hd := drop_at s k hk
  have e := Lex.lex_bad (c := s[k]) (s.data.toList.drop (k + 1)) k hb hc (by rw [← hd]; exact h0)
  rw [← hd] at e
  rw [e] at h
  rw [← h]
  unfold Lex.LR.fin
  rw [if_neg h0]
theorem At.done {s : ByteArray} {k : Nat} {acc : List Lex.Tok} (h : At s.data.toList k acc) (hk : s.size ≤ k) : Lex.lex s.data.toList 0 = ⟨acc, 0, 0⟩ := by
  unfold At at h
  rw [List.drop_of_length_le (by rw [size_list]; exact hk), Lex.lex_nil] at h
  rw [← h]
  simp [Lex.LR.fin]

theorem byte_test (c : UInt8) (k : Nat) (hk : k < 256) : ((c.toNat : Int) == (k : Int)) = decide (c = UInt8.ofNat k) := by
  rw [Bool.eq_iff_iff, beq_iff_eq, decide_eq_true_eq]
  exact ⟨fun h => Lex.byte_eq hk (by omega), fun h => by rw [h, UInt8.toNat_ofNat', Nat.mod_eq_of_lt hk]⟩
/-- The ways of a byte at a token's beginning. -/
theorem byte_ways (c : UInt8) :
    (Lex.blank c = true ∧ ((c.toNat : Int) == 32) = true) ∨
    (Lex.blank c = true ∧ ((c.toNat : Int) == 32) = false ∧ ((c.toNat : Int) == 9) = true) ∨
    (Lex.blank c = true ∧ ((c.toNat : Int) == 32) = false ∧ ((c.toNat : Int) == 9) = false ∧ ((c.toNat : Int) == 10) = true) ∨
    (Lex.blank c = false ∧ c = 35 ∧ ((c.toNat : Int) == 32) = false ∧ ((c.toNat : Int) == 9) = false ∧ ((c.toNat : Int) == 10) = false ∧ ((c.toNat : Int) == 35) = true) ∨
    (Lex.blank c = false ∧ c ≠ 35 ∧ ((c.toNat : Int) == 32) = false ∧ ((c.toNat : Int) == 9) = false ∧ ((c.toNat : Int) == 10) = false ∧ ((c.toNat : Int) == 35) = false) := by
  have e1 : ((c.toNat : Int) == 32) = decide (c.toNat = 32) := by rw [Bool.eq_iff_iff]; simp; omega
  have e2 : ((c.toNat : Int) == 9) = decide (c.toNat = 9) := by rw [Bool.eq_iff_iff]; simp; omega
  have e3 : ((c.toNat : Int) == 10) = decide (c.toNat = 10) := by rw [Bool.eq_iff_iff]; simp; omega
  have e4 : ((c.toNat : Int) == 35) = decide (c.toNat = 35) := by rw [Bool.eq_iff_iff]; simp; omega
  have e5 : c = 35 ↔ c.toNat = 35 := ⟨fun h => by rw [h]; rfl, fun h => Lex.byte_eq (k := 35) (by decide) h⟩
  rw [e1, e2, e3, e4]
  unfold Lex.blank
  rw [Ne, e5]
  by_cases h1 : c.toNat = 32
  · simp [h1]
  · by_cases h2 : c.toNat = 9
    · simp [h2]
    · by_cases h3 : c.toNat = 10
      · simp [h3]
      · by_cases h4 : c.toNat = 35
        · simp [h4]
        · simp [h1, h2, h3, h4]

theorem tok_info : (Tryz.prog.info? 50).map (fun i => (i.zero, i.size, i.bytes)) = some (some (.agg #[.int .i64 0, .string ⟨#[]⟩, .int .i64 0, .int .i64 0]), 4, 40) := by kernel_rfl

/-- What the lexer hands back. -/
def TokensPost (T : TypeId) (w : World) (r : Lex.LR) (e : Ending) (w' : World) : Prop :=
  ∃ v, e = .returned (.tuple #[v, .int .i64 (r.pos : Int), .int .i64 r.err]) ∧ w'.ownsRow w.heap.size T 4 v r.toks.length (toksCells r.toks) ∧ Below w.heap.size w w'

set_option maxRecDepth 100000 in
theorem tokens_long (s : ByteArray) (w : World) (hs : 20000 < s.size) :
    Calls Tryz.prog 13 #[.string s] w (TokensPost 50 w (Lex.tokens s.data.toList)) := by
  have e : Lex.tokens s.data.toList = ⟨[], 0, 9⟩ := by unfold Lex.tokens; rw [size_list, if_pos hs]
  have E := Lib.hid e
  clear e
  go_enter Tryz.func13, Tryz.ntmps13
  go_wp2
  go_step3
  go_wp2
  rw [Exit.noGoto_ret]
  go_ret3
  rw [E.out]
  exact ⟨_, rfl, World.ownsRow_nil _ _ _ _, Below.refl _ _⟩

set_option maxRecDepth 100000 in
set_option maxHeartbeats 1000000 in
theorem tokens_short (s : ByteArray) (w : World) (hs : s.size ≤ 20000) :
    Calls Tryz.prog 13 #[.string s] w (TokensPost 50 w (Lex.tokens s.data.toList)) := by
  have e : Lex.tokens s.data.toList = Lex.lex s.data.toList 0 := by unfold Lex.tokens; rw [size_list, if_neg (by omega)]
  rw [e]
  clear e
  obtain ⟨i0, ia, ib, ic, id⟩ := info_parts tok_info
  have hst := Lib.hid (At.start s.data.toList)
  obtain ⟨B, hB⟩ : ∃ B, B = w.heap.size := ⟨_, rfl⟩
  go_enter Tryz.func13, Tryz.ntmps13
  go_wp2
  go_step3
  go_wp2
  go_step3
  go_wp2
  go_loopw [2, 5] (fun v i wr => ∃ (k : Nat) (acc : List Lex.Tok), k ≤ s.size ∧ acc.length ≤ k ∧ i = .int .i64 k ∧ wr.ownsRow w.heap.size 50 4 v acc.length (toksCells acc) ∧ Below w.heap.size w wr ∧ Hid (At s.data.toList k acc)) (fun _ i _ => s.size - (intOf i).toNat)
  case atStart => exact ⟨0, [], Nat.zero_le _, Nat.zero_le _, rfl, World.ownsRow_nil _ _ _ _, Below.refl _ _, hst⟩
  case round =>
    obtain ⟨k, acc, hk, hacc, rfl, hown, hbel, hat⟩ := hrel
    by_cases hlt : k < s.size
    · rcases byte_ways s[k] with ⟨hb, e1⟩ | ⟨hb, e1, e2⟩ | ⟨hb, e1, e2, e3⟩ | ⟨hb, h35, e1, e2, e3, e4⟩ | ⟨hb, h35, e1, e2, e3, e4⟩
      · have hat' := Lib.hid (hat.out.blank hlt hb)
        clear hb
        go_wp2
        go_roundw
        case rel => exact ⟨k + 1, acc, by omega, by omega, by go_num, hown, hbel, hat'⟩
        case measure => simp [intOf]; omega
      · have hat' := Lib.hid (hat.out.blank hlt hb)
        clear hb
        go_wp2
        go_roundw
        case rel => exact ⟨k + 1, acc, by omega, by omega, by go_num, hown, hbel, hat'⟩
        case measure => simp [intOf]; omega
      · have hat' := Lib.hid (hat.out.blank hlt hb)
        clear hb
        go_wp2
        go_roundw
        case rel => exact ⟨k + 1, acc, by omega, by omega, by go_num, hown, hbel, hat'⟩
        case measure => simp [intOf]; omega
      · have hat' := Lib.hid (hat.out.note hlt h35)
        have hr := run_le Lex.notFeed s k (by omega)
        have hr1 : 1 ≤ run Lex.notFeed s k := by
          rw [run_yes hlt (by rw [h35]; decide)]; omega
        clear hb h35
        generalize hrk : run Lex.notFeed s k = q at *
        have HQ := Lib.hid hrk
        clear hrk
        go_wp2_with (go_at_call 33; refine (while_feed s k _ (by omega) (by omega)).mono ?_; rintro e w' ⟨rfl, rfl⟩; rw [HQ.out])
        go_roundw
        case rel => exact ⟨k + q, acc, by omega, by omega, by go_num, hown, hbel, hat'⟩
        case measure => simp [intOf]; omega
      · by_cases h0 : (Lex.tokL (s.data.toList.drop k)).err = 0
        · have hat' := Lib.hid (hat.out.tok hlt h0)
          have hlen : 1 ≤ (Lex.tokL (s.data.toList.drop k)).len ∧ k + (Lex.tokL (s.data.toList.drop k)).len ≤ s.size := by
            have hd := drop_at s k hlt
            have h0' : (Lex.tokL (s[k] :: s.data.toList.drop (k + 1))).err = 0 := by rw [← hd]; exact h0
            have := Lex.tok_len h0'
            rw [← hd, List.length_drop, size_list] at this
            omega
          have htok : ∀ W : World, Calls Tryz.prog 35 #[.string s, .int .i64 (k : Int)] W fun e w' => e = .returned (.tuple #[okTok (Lex.tokL (s.data.toList.drop k)) k, .int .i64 ((k + (Lex.tokL (s.data.toList.drop k)).len : Nat) : Int), .int .i64 0]) ∧ Below W.heap.size W w' := fun W => token_ok s k W hlt (by omega) h0
          have HT := Lib.hid htok
          clear htok hb h35 h0
          generalize Lex.tokL (s.data.toList.drop k) = t at *
          obtain ⟨tk, tt, tn, tl, te⟩ := t
          simp only [okTok] at HT hlen hat'
          go_wp2_with (first
            | (go_at_call 35; refine (HT.out _).mono ?_; rintro e w1 ⟨rfl, hb1⟩; have hown1 := own_below hown hb1; have hbel1 := hbel.trans (hb1.mono hbel.size); have hz1 := hb1.size; have hz0 := hbel.size)
            | (at_builtin; go_must (refine wpList_append_own _ rfl _ _ 39 rfl w.heap.size 50 i0 _ 4 40 Tryz.underlying39 ia ib ic id rfl (by omega) _ _ _ rfl ((hown1.alloc _).alloc _) ⟨w1.heap.size + 1, 0, none⟩ 1 1 [.int .i64 tk, .string ⟨tt.toArray⟩, .int .i64 tn, .int .i64 (k : Int)] rfl rfl ?c1 ?c2 ?c3 ?c4 ?c5 ?_)))
          case c1 => intro j u hj; have := cells_new4 (w1.alloc (.cells #[.int .i64 tk, .string ⟨tt.toArray⟩, .int .i64 tn, .int .i64 (k : Int)] 50)) _ _ _ _ 50 j u hj; simpa using this
          case c2 => intro u hu; simp at hu; rcases hu with rfl | rfl | rfl | rfl <;> rfl
          case c3 => unfold maxLen; omega
          case c4 => omega
          case c5 => simp; omega
          · intro v' w2 hown2 hg2 _
            have hb2 : Below w.heap.size w w2 := below_append ((hbel1.alloc (by omega) _).alloc (by simp; omega) _) (by simp; omega) ((hown1.alloc _).alloc _) hg2 (Nat.le_refl _)
            have hown3 : w2.ownsRow w.heap.size 50 4 v' (acc ++ [(⟨tk, tt, tn, k⟩ : Lex.Tok)]).length (toksCells (acc ++ [(⟨tk, tt, tn, k⟩ : Lex.Tok)])) := by
              rw [toksCells_snoc, List.length_append]; exact hown2
            clear hown2 hg2 hown hown1 hbel hbel1 hb1
            go_wp2
            go_roundw
            case rel => exact ⟨k + tl, acc ++ [⟨tk, tt, tn, k⟩], by omega, by rw [List.length_append]; simp; omega, by go_num, hown3, hb2, hat'⟩
            case measure => simp [intOf]; omega
        · have hbad := Lib.hid (hat.out.bad hlt hb h35 h0)
          have htok : ∀ W : World, Calls Tryz.prog 35 #[.string s, .int .i64 (k : Int)] W fun e w' => e = .returned (.tuple #[zeroTok, .int .i64 0, .int .i64 (Lex.tokL (s.data.toList.drop k)).err]) ∧ Below W.heap.size W w' := fun W => token_bad s k W hlt (by omega) h0
          have HT := Lib.hid htok
          have hne : ((Lex.tokL (s.data.toList.drop k)).err != 0) = true := by simpa using h0
          clear htok hb h35 h0
          generalize (Lex.tokL (s.data.toList.drop k)).err = er at *
          simp only [zeroTok] at HT
          go_wp2_with (go_at_call 35; refine (HT.out _).mono ?_; rintro e w1 ⟨rfl, hb1⟩; have hbel1 := hbel.trans (hb1.mono hbel.size); have hz1 := hb1.size; have hz0 := hbel.size)
          go_ret3
          rw [hbad.out]
          exact ⟨_, rfl, World.ownsRow_nil _ _ _ _, hbel1.alloc (by omega) _⟩
    · have hd := Lib.hid (hat.out.done (by omega))
      go_wp2
      go_ret3
      rw [hd.out]
      exact ⟨_, rfl, hown, hbel⟩
end Go.Proofs.YteldekkodhfkkaaGreatDoor.LexW
