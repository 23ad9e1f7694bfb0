/- Walks: the reference's lexer. Conditions: none. -/
import Derived.Test.YteldekkodhfkkaaGreatDoorLexW10
namespace Go.Proofs.YteldekkodhfkkaaGreatDoor.LexW
open Go Go.RowKit Go.Proofs.YteldekkodhfkkaaGreatDoor.Mem

theorem rtoken_ok (s : ByteArray) (i : Nat) (w : World) (hi : i < s.size) (hs : s.size ≤ 1000000) (h : (Lex.tokL (s.data.toList.drop i)).err = 0) :
    Calls Tryz.prog 42 #[.string s, .int .i64 (i : Int)] w fun e w' => e = .returned (.tuple #[okTok (Lex.tokL (s.data.toList.drop i)) i, .int .i64 (((Lex.tokL (s.data.toList.drop i)).len : Nat) : Int), .int .i64 0]) ∧ Below w.heap.size w w' := by
  have := rtoken_any s i w hi hs
  rwa [trV_ok h] at this
theorem rtoken_bad (s : ByteArray) (i : Nat) (w : World) (hi : i < s.size) (hs : s.size ≤ 1000000) (h : (Lex.tokL (s.data.toList.drop i)).err ≠ 0) :
    Calls Tryz.prog 42 #[.string s, .int .i64 (i : Int)] w fun e w' => e = .returned (.tuple #[zeroTok, .int .i64 0, .int .i64 (Lex.tokL (s.data.toList.drop i)).err]) ∧ Below w.heap.size w w' := by
  have := rtoken_any s i w hi hs
  rwa [trV_bad h] at this
theorem eq35 (c : UInt8) : ((c.toNat : Int) == 35) = decide (c = 35) := byte_test c 35 (by decide)
theorem rtok_info : (Tryz.prog.info? 79).map (fun i => (i.zero, i.size, i.bytes)) = some (some (.agg #[.int .i64 0, .string ⟨#[]⟩, .int .i64 0, .int .i64 0]), 4, 40) := by kernel_rfl

set_option maxRecDepth 100000 in
theorem rtokens_long (s : ByteArray) (w : World) (hs : 20000 < s.size) :
    Calls Tryz.prog 18 #[.string s] w (TokensPost 79 w (Lex.tokens s.data.toList)) := by
  have e : Lex.tokens s.data.toList = ⟨[], 0, 9⟩ := by unfold Lex.tokens; rw [size_list, if_pos hs]
  have E := Lib.hid e
  clear e
  go_enter Tryz.func18, Tryz.ntmps18
  go_wp2
  go_ret3
  rw [E.out]
  exact ⟨_, rfl, World.ownsRow_nil _ _ _ _, Below.refl _ _⟩

set_option maxRecDepth 100000 in
set_option maxHeartbeats 2000000 in
theorem rtokens_short (s : ByteArray) (w : World) (hs : s.size ≤ 20000) :
    Calls Tryz.prog 18 #[.string s] w (TokensPost 79 w (Lex.tokens s.data.toList)) := by
  have e : Lex.tokens s.data.toList = Lex.lex s.data.toList 0 := by unfold Lex.tokens; rw [size_list, if_neg (by omega)]
  rw [e]
  clear e
  obtain ⟨i0, ia, ib, ic, id⟩ := info_parts rtok_info
  have hst := Lib.hid (At.start s.data.toList)
  go_enter Tryz.func18, Tryz.ntmps18
  go_wp2
  go_loopw [5, 6] (fun v i wr => ∃ (k : Nat) (acc : List Lex.Tok), k ≤ s.size ∧ acc.length ≤ k ∧ i = .int .i64 k ∧ wr.ownsRow w.heap.size 79 4 v acc.length (toksCells acc) ∧ Below w.heap.size w wr ∧ Hid (At s.data.toList k acc)) (fun _ i _ => s.size - (intOf i).toNat)
  case atStart => exact ⟨0, [], Nat.zero_le _, Nat.zero_le _, rfl, World.ownsRow_nil _ _ _ _, Below.refl _ _, hst⟩
  case round =>
    obtain ⟨k, acc, hk, hacc, rfl, hown, hbel, hat⟩ := hrel
    by_cases hlt : k < s.size
    · cases hb : Lex.blank s[k]
      · have HB := Lib.hid hb
        by_cases h35 : s[k] = 35
        · have h35' : ((s[k].toNat : Int) == 35) = true := by rw [eq35]; simpa using h35
          have hat' := Lib.hid (hat.out.note hlt h35)
          have hr := run_le Lex.notFeed s k (by omega)
          have hr1 : 1 ≤ run Lex.notFeed s k := by
            rw [run_yes hlt (by rw [h35]; decide)]; omega
          have hin := fun q => run_hit (p := Lex.notFeed) (s := s) (q := q) (k := k)
          have hst := run_stop (p := Lex.notFeed) (s := s) (k := k) (q := run Lex.notFeed s k) rfl
          clear hb h35
          generalize run Lex.notFeed s k = R at *
          have HIN := Lib.hid hin
          have HST := Lib.hid hst
          clear hin hst
          obtain ⟨wo, hwo⟩ : ∃ wo : World, wr = wo := ⟨_, rfl⟩
          subst hwo
          go_wp2_with (go_at_call 41; refine (rblank_no _ HB.out _).mono ?_; rintro e w' ⟨rfl, rfl⟩)
          go_loop [6] (fun t => ∃ q : Nat, q ≤ R ∧ t = .int .i64 ((k + q : Nat) : Int)) (fun t => k + R - (intOf t).toNat)
          case atStart => exact ⟨0, Nat.zero_le _, by go_num⟩
          case round =>
            obtain ⟨q, hq, rfl⟩ := hrel
            by_cases hql : q < R
            · obtain ⟨hx, hp⟩ := HIN.out q hql
              have hne : (((s[k + q]'hx).toNat : Int) != 10) = true := by
                simp only [Lex.notFeed, decide_eq_true_eq] at hp
                simp; omega
              clear hp
              go_wp2
              go_round
              case rel => exact ⟨q + 1, by omega, by go_num⟩
              case measure => simp [intOf]; omega
            · obtain rfl : q = R := by omega
              by_cases hx : k + q < s.size
              · have hp := HST.out hx
                have hne : (((s[k + q]'hx).toNat : Int) != 10) = false := by
                  simp only [Lex.notFeed, decide_eq_false_iff_not, ne_eq, Decidable.not_not] at hp
                  simp; omega
                clear hp
                go_wp2
                go_roundw
                case rel => exact ⟨k + q, acc, by omega, by omega, by go_num, hown, hbel, hat'⟩
                case measure => simp [intOf]; omega
              · go_wp2
                go_roundw
                case rel => exact ⟨k + q, acc, by omega, by omega, by go_num, hown, hbel, hat'⟩
                case measure => simp [intOf]; omega
        · have h35' : ((s[k].toNat : Int) == 35) = false := by rw [eq35]; simpa using h35
          by_cases h0 : (Lex.tokL (s.data.toList.drop k)).err = 0
          · have hat' := Lib.hid (hat.out.tok hlt h0)
            have hlen : 1 ≤ (Lex.tokL (s.data.toList.drop k)).len ∧ k + (Lex.tokL (s.data.toList.drop k)).len ≤ s.size := by
              have hd := drop_at s k hlt
              have h0' : (Lex.tokL (s[k] :: s.data.toList.drop (k + 1))).err = 0 := by rw [← hd]; exact h0
              have := Lex.tok_len h0'
              rw [← hd, List.length_drop, size_list] at this
              omega
            have htok : ∀ W : World, Calls Tryz.prog 42 #[.string s, .int .i64 (k : Int)] W fun e w' => e = .returned (.tuple #[okTok (Lex.tokL (s.data.toList.drop k)) k, .int .i64 (((Lex.tokL (s.data.toList.drop k)).len : Nat) : Int), .int .i64 0]) ∧ Below W.heap.size W w' := fun W => rtoken_ok s k W hlt (by omega) h0
            have HT := Lib.hid htok
            clear htok hb h35 h0
            generalize Lex.tokL (s.data.toList.drop k) = t at *
            obtain ⟨tk, tt, tn, tl, te⟩ := t
            simp only [okTok] at HT hlen hat'
            go_wp2_with (first
              | (go_at_call 41; refine (rblank_no _ HB.out _).mono ?_; rintro e w' ⟨rfl, rfl⟩)
              | (go_at_call 42; refine (HT.out _).mono ?_; rintro e w1 ⟨rfl, hb1⟩; have hown1 := own_below hown hb1; have hbel1 := hbel.trans (hb1.mono hbel.size); have hz1 := hb1.size; have hz0 := hbel.size)
              | (at_builtin; refine wpList_append_own _ rfl _ _ 51 rfl w.heap.size 79 i0 _ 4 40 Tryz.underlying51 ia ib ic id rfl (by omega) _ _ _ rfl ((hown1.alloc _).alloc _) ⟨w1.heap.size + 1, 0, none⟩ 1 1 [.int .i64 tk, .string ⟨tt.toArray⟩, .int .i64 tn, .int .i64 (k : Int)] rfl rfl ?c1 ?c2 ?c3 ?c4 ?c5 ?_))
            case c1 => intro j u hj; have := cells_new4 (w1.alloc (.cells #[.int .i64 tk, .string ⟨tt.toArray⟩, .int .i64 tn, .int .i64 (k : Int)] 79)) _ _ _ _ 79 j u hj; simpa using this
            case c2 => intro u hu; simp at hu; rcases hu with rfl | rfl | rfl | rfl <;> rfl
            case c3 => unfold maxLen; omega
            case c4 => omega
            case c5 => simp; omega
            · intro v' w2 hown2 hg2 _
              have hb2 : Below w.heap.size w w2 := below_append ((hbel1.alloc (by omega) _).alloc (by simp; omega) _) (by simp; omega) ((hown1.alloc _).alloc _) hg2 (Nat.le_refl _)
              have hown3 : w2.ownsRow w.heap.size 79 4 v' (acc ++ [(⟨tk, tt, tn, k⟩ : Lex.Tok)]).length (toksCells (acc ++ [(⟨tk, tt, tn, k⟩ : Lex.Tok)])) := by
                rw [toksCells_snoc, List.length_append]; exact hown2
              clear hown2 hg2 hown hown1 hbel hbel1 hb1
              go_wp2
              go_roundw
              case rel => exact ⟨k + tl, acc ++ [⟨tk, tt, tn, k⟩], by omega, by rw [List.length_append]; simp; omega, by go_num, hown3, hb2, hat'⟩
              case measure => simp [intOf]; omega
          · have hbad := Lib.hid (hat.out.bad hlt hb h35 h0)
            have htok : ∀ W : World, Calls Tryz.prog 42 #[.string s, .int .i64 (k : Int)] W fun e w' => e = .returned (.tuple #[zeroTok, .int .i64 0, .int .i64 (Lex.tokL (s.data.toList.drop k)).err]) ∧ Below W.heap.size W w' := fun W => rtoken_bad s k W hlt (by omega) h0
            have HT := Lib.hid htok
            have hne : ((Lex.tokL (s.data.toList.drop k)).err != 0) = true := by simpa using h0
            clear htok hb h35 h0
            generalize (Lex.tokL (s.data.toList.drop k)).err = er at *
            simp only [zeroTok] at HT
            go_wp2_with (first
              | (go_at_call 41; refine (rblank_no _ HB.out _).mono ?_; rintro e w' ⟨rfl, rfl⟩)
              | (go_at_call 42; refine (HT.out _).mono ?_; rintro e w1 ⟨rfl, hb1⟩; have hbel1 := hbel.trans (hb1.mono hbel.size); have hz1 := hb1.size; have hz0 := hbel.size))
            go_ret3
            rw [hbad.out]
            exact ⟨_, rfl, World.ownsRow_nil _ _ _ _, hbel1.alloc (by omega) _⟩
      · have HB := Lib.hid hb
        have hat' := Lib.hid (hat.out.blank hlt hb)
        clear hb
        go_wp2_with (go_at_call 41; refine (rblank_yes _ HB.out _).mono ?_; rintro e w' ⟨rfl, rfl⟩)
        go_roundw
        case rel => exact ⟨k + 1, acc, by omega, by omega, by go_num, hown, hbel, hat'⟩
        case measure => simp [intOf]; omega
    · have hd := Lib.hid (hat.out.done (by omega))
      go_wp2
      go_ret3
      rw [hd.out]
      exact ⟨_, rfl, hown, hbel⟩
theorem rtokens_any (s : ByteArray) (w : World) : Calls Tryz.prog 18 #[.string s] w (TokensPost 79 w (Lex.tokens s.data.toList)) := by
  by_cases h : 20000 < s.size
  · exact rtokens_long s w h
  · exact rtokens_short s w (by omega)
end Go.Proofs.YteldekkodhfkkaaGreatDoor.LexW
