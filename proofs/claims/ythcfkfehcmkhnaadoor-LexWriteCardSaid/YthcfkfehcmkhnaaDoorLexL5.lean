/- The law LexOffsets, walked: offsets increase strictly; the source has the text of each token at its offset. Conditions: the library's table of powers of ten holds what its text lays. -/
import Derived.Test.YthcfkfehcmkhnaaDoorLexL3
import Derived.Lib.AtoiBound
import Derived.IntWalk
namespace Go.Proofs.YthcfkfehcmkhnaaDoor.LexW
open Go Go.RowKit Go.Proofs.YthcfkfehcmkhnaaDoor.Mem

theorem word_i64 {t : Lex.Tok} {w : List UInt8} (h : Lex.Word t w) : I64 t.n := by
  obtain ⟨c, r, h0, hk, ht, hn, _⟩ := h
  rw [hn]
  unfold I64
  rcases Lex.tok_ways h0 with ⟨h1, h2, e⟩ | ⟨h1, h2, h3, h4, e⟩ | ⟨h1, h2, h3, e⟩ <;> rw [e] <;> simp only
  · omega
  · have ha := atoi_some h2 h3
    have hl : (c :: Lex.numRun r).length ≤ 18 := by
      unfold Lex.numDigs at h4
      split at h4
      · simp only [List.length_cons]; omega
      · omega
    have := Lib.atoi_bound ha hl
    omega
  · omega
theorem lex_i64 {l : List UInt8} {p : Nat} (h : (Lex.lex l p).err = 0) : ∀ t ∈ (Lex.lex l p).toks, I64 t.n := fun t ht => word_i64 (Lex.lex_word h t ht)

theorem str_list (l : List UInt8) : (ByteArray.mk l.toArray).data.toList = l := by simp

set_option maxRecDepth 100000 in
set_option maxHeartbeats 2000000 in
theorem lexOffsets_ok (s : ByteArray) (toks : List Lex.Tok) (pos : Nat) (w : World) (hs : s.size ≤ 600) (hL : Laid w)
    (hA : ∀ W : World, Calls Tryd.prog 11 #[.string s] W fun e w' => (∃ A c, e = .returned (.tuple #[.slice A toks.length c, .int .i64 (pos : Int), .int .i64 0]) ∧ Row w' A (toksCells toks)) ∧ Below W.heap.size W w')
    (hn : toks.length ≤ 600) (hi : ∀ t ∈ toks, I64 t.n) (hok : Lex.okFrom s.data.toList 0 toks) :
    Calls Tryd.prog 7 #[.string s] w fun e w' => e = .returned (.bool true) ∧ Below w.heap.size w w' := by
  have HA := Lib.hid hA
  have HI := Lib.hid hi
  have HOK := Lib.hid hok
  have HL := Lib.hid hL
  clear hA hi hok hL
  go_enter Tryd.func7, Tryd.ntmps7
  go_wp2_with fail
  refine (awake_any _).mono ?_
  rintro e w1 ⟨rfl, hb1⟩
  go_wp2_with fail
  refine (HA.out _).mono ?_
  rintro e w2 ⟨⟨A2, c2, rfl, r2⟩, hb2⟩
  have hb12 := hb1.trans (hb2.mono hb1.size)
  clear hb1 hb2
  by_cases h0 : toks = []
  · subst h0
    go_wp2
    refine wp_loop_rounds 1 ?_
    rw [rounds_succ]
    go_wp2
    go_ret
    exact ⟨rfl, hb12⟩
  · obtain ⟨g, off, rfl, hg, ca⟩ := row_tok r2 h0
    have CA := Lib.hid ca
    clear ca r2 h0
    go_wp2
    go_loopw [6, 7] (fun nx i wr => ∃ k q : Nat, k ≤ toks.length ∧ q ≤ s.size ∧ i = .int .i64 k ∧ nx = .int .i64 q ∧ Hid (Lex.okFrom s.data.toList q (toks.drop k)) ∧ Below w.heap.size w wr ∧ Below w2.heap.size w2 wr) (fun _ i _ => toks.length - (intOf i).toNat)
    case atStart => exact ⟨0, 0, Nat.zero_le _, Nat.zero_le _, rfl, rfl, HOK, hb12, Below.refl _ _⟩
    case round =>
      obtain ⟨k, q, hk, hq, rfl, rfl, hok, hbel, hbel2⟩ := hrel
      by_cases hlt : k < toks.length
      · obtain ⟨a0, a1, a2, a3⟩ := CA.out k hlt
        rw [← hbel2.cell (p := ⟨g, _, none⟩) hg] at a0 a1 a2 a3
        have ho := hok.out
        rw [List.drop_eq_getElem_cons hlt] at ho
        simp only [Lex.okFrom] at ho
        obtain ⟨o1, o2, o3, o4, o5, o6⟩ := ho
        have hi64 := HI.out toks[k] (List.getElem_mem hlt)
        generalize toks[k] = t at *
        obtain ⟨tk, tt, tn, tp⟩ := t
        have hwr : Lex.write ⟨tk, tt, tn, tp⟩ = if tk = 2 then Lib.itoa tn else tt := rfl
        have hLr := HL.out.below hbel
        have hwc := write_any tk tn (tp : Int) tt wr hLr hi64
        rw [← hwr] at hwc
        generalize Lex.write ⟨tk, tt, tn, tp⟩ = wl at *
        clear hwr hLr hi64
        simp only at o1 o2 o3 o4 o5 o6 a0 a1 a2 a3
        have hz : (ByteArray.mk wl.toArray).size = wl.length := str_size wl
        have hW := str_list wl
        generalize ByteArray.mk wl.toArray = W at *
        rw [size_list] at o3
        have f4 : (!(s.extract tp (tp + W.size)).toList == W.toList) = false := by
          rw [Go.ByteArray.toList_eq, Go.ByteArray.toList_eq, extract_list, hW, hz, show tp + wl.length - tp = wl.length by omega, o4]; simp
        have f5 : (tk == 1) = Lex.isName W.data.toList := by
          rw [hW, Bool.eq_iff_iff, beq_iff_eq]; exact o5
        have o3' : tp + W.size ≤ s.size := by omega
        have o2' : 1 ≤ W.size := by omega
        have f1 : decide ((tp : Int) < (q : Int)) = false := by simp; omega
        have f2 : ((W.size : Int) == 0) = false := by rw [beq_eq_false_iff_ne]; omega
        have f3 : decide ((s.size : Int) - (tp : Int) < (W.size : Int)) = false := by simp; omega
        have n1 : IntKind.i64.wrap ((tp : Int) + (W.size : Int)) = (tp : Int) + (W.size : Int) := IntWalk.i64_in _ (by omega)
        have n2 : IntKind.i64.wrap ((s.size : Int) - (tp : Int)) = (s.size : Int) - (tp : Int) := IntWalk.i64_in _ (by omega)
        have n3 : ((tp : Int) + (W.size : Int)).toNat = tp + W.size := by omega
        have n4 : (0 : Int) ≤ (tp : Int) + (W.size : Int) := by omega
        have n5 : (tp : Int) ≤ (tp : Int) + (W.size : Int) := by omega
        have n6 : (tp : Int) + (W.size : Int) ≤ (s.size : Int) := by omega
        have hIN := fun V => isName_quiet W (by omega) V
        rw [← f5] at hIN
        have HIN := Lib.hid hIN
        have HWC := Lib.hid hwc
        have HO6 := Lib.hid (show Lex.okFrom s.data.toList (tp + W.size) (toks.drop (k + 1)) by rw [hz]; exact o6)
        clear hwc hIN f5 o4 o5 o6 hz hW o2 o3 hok
        go_wp2_with fail
        refine HWC.out.mono ?_
        rintro e w3 ⟨rfl, hb3⟩
        have hb13 := hbel.trans (hb3.mono hbel.size)
        have hb23 := hbel2.trans (hb3.mono hbel2.size)
        have hgr : g < wr.heap.size := Nat.lt_of_lt_of_le hg hbel2.size
        rw [← hb3.cell (p := ⟨g, _, none⟩) hgr] at a0 a1 a2 a3
        clear hbel hbel2 hb3 HWC
        go_wp2
        go_quiet ((go_at_call 15; exact Calls.quiet_of_same (HIN.out _)))
        go_wp2
        go_roundw
        case rel => exact ⟨k + 1, tp + W.size, hlt, o3', by go_num, by go_num, HO6, below_drewN hb13 _, below_drewN hb23 _⟩
        case measure => simp [intOf]; omega
      · obtain rfl : k = toks.length := by omega
        go_wp2
        go_ret
        exact ⟨rfl, hbel⟩

set_option maxRecDepth 100000 in
set_option maxHeartbeats 2000000 in
theorem lexOffsets_bad (s : ByteArray) (pos : Nat) (err : Int) (he : (err == 0) = false) (w : World) (hs : s.size ≤ 600)
    (hA : ∀ W : World, Calls Tryd.prog 11 #[.string s] W fun e w' => (∃ A c, e = .returned (.tuple #[.slice A 0 c, .int .i64 (pos : Int), .int .i64 err]) ∧ Row w' A (toksCells [])) ∧ Below W.heap.size W w') :
    Calls Tryd.prog 7 #[.string s] w fun e w' => e = .returned (.bool true) ∧ Below w.heap.size w w' := by
  have HA := Lib.hid hA
  clear hA
  go_enter Tryd.func7, Tryd.ntmps7
  go_wp2_with fail
  refine (awake_any _).mono ?_
  rintro e w1 ⟨rfl, hb1⟩
  go_wp2_with fail
  refine (HA.out _).mono ?_
  rintro e w2 ⟨⟨A2, c2, rfl, r2⟩, hb2⟩
  go_wp2
  go_ret
  exact ⟨rfl, hb1.trans (hb2.mono hb1.size)⟩

set_option maxRecDepth 100000 in
set_option maxHeartbeats 2000000 in
theorem lexOffsets_walk (s : ByteArray) (w : World) (hL : Laid w) : Calls Tryd.prog 7 #[.string s] w fun e w' => e = .returned (.bool true) ∧ Below w.heap.size w w' := by
  by_cases ha : s.size ≤ 600
  · have hl := fun W : World => lexed s (by omega) W
    have hn : (Lex.lex s.data.toList 0).toks.length ≤ s.data.toList.length := lex_len
    rw [size_list] at hn
    by_cases he : (Lex.lex s.data.toList 0).err = 0
    · have h1 := Lex.lex_offs he
      have h2 := lex_i64 he
      rw [he] at hl
      exact lexOffsets_ok s _ _ w ha hL hl (by omega) h2 h1
    · have h0 := (Lex.lex_ok s.data.toList 0).2 he
      rw [h0] at hl
      exact lexOffsets_bad s _ _ (by rw [beq_eq_false_iff_ne]; exact he) w ha hl
  · go_enter Tryd.func7, Tryd.ntmps7
    go_wp2_with (go_at_call 10; refine (awake_any _).mono ?_; rintro e w1 ⟨rfl, hb1⟩)
    go_ret
    exact ⟨rfl, hb1⟩
end Go.Proofs.YthcfkfehcmkhnaaDoor.LexW
