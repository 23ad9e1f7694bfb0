/- Walks: the reference's marks, names and numbers. Conditions: the offset lies in the text; the text has at most a million bytes. -/
import Derived.Test.YteldekkodhfkkaaGreatDoorLexW6
namespace Go.Proofs.YteldekkodhfkkaaGreatDoor.LexW
open Go Go.RowKit

theorem tokens_any (s : ByteArray) (w : World) : Calls Tryz.prog 13 #[.string s] w (TokensPost 50 w (Lex.tokens s.data.toList)) := by
  by_cases h : 20000 < s.size
  · exact tokens_long s w h
  · exact tokens_short s w (by omega)

theorem run_hit {p : UInt8 → Bool} {s : ByteArray} : ∀ {q k : Nat}, q < run p s k → ∃ h : k + q < s.size, p (s[k + q]'h) = true
  | 0, k, hq => by
    by_cases h : k < s.size
    · cases hp : p s[k]
      · rw [run_no h hp] at hq; omega
      · exact ⟨h, hp⟩
    · rw [run_end (by omega)] at hq; omega
  | q + 1, k, hq => by
    by_cases h : k < s.size
    · cases hp : p s[k]
      · rw [run_no h hp] at hq; omega
      · rw [run_yes h hp] at hq
        obtain ⟨h1, h2⟩ := run_hit (p := p) (s := s) (q := q) (k := k + 1) (by omega)
        have e : k + 1 + q = k + (q + 1) := by omega
        simp only [e] at h1 h2
        exact ⟨h1, h2⟩
    · rw [run_end (by omega)] at hq; omega
theorem run_stop {p : UInt8 → Bool} {s : ByteArray} {k : Nat} : ∀ {q : Nat}, q = run p s k → ∀ h : k + q < s.size, p (s[k + q]'h) = false := by
  intro q
  induction q generalizing k with
  | zero =>
    intro hq h
    cases hp : p s[k]
    · rfl
    · have := run_yes (k := k) h hp; omega
  | succ q ih =>
    intro hq h
    have hk : k < s.size := by omega
    cases hp : p s[k]
    · rw [run_no hk hp] at hq; omega
    · rw [run_yes hk hp] at hq
      have e : k + 1 + q = k + (q + 1) := by omega
      have := ih (k := k + 1) (by omega) (by omega)
      simp only [e] at this
      exact this

theorem rnamed_any (s : ByteArray) (i : Nat) (w : World) (hi : i ≤ s.size) (hs : s.size ≤ 1000000) :
    Calls Tryz.prog 64 #[.string s, .int .i64 (i : Int)] w (Returns w (.int .i64 ((run Lex.inner s i : Nat) : Int))) := by
  have hr := run_le Lex.inner s i hi
  have hin := fun q => run_hit (p := Lex.inner) (s := s) (q := q) (k := i)
  have hst := run_stop (p := Lex.inner) (s := s) (k := i) (q := run Lex.inner s i) rfl
  generalize hR : run Lex.inner s i = R at *
  have HIN := Lib.hid hin
  have HST := Lib.hid hst
  clear hin hst hR
  go_enter Tryz.func64, Tryz.ntmps64
  go_wp2
  go_loop [5] (fun t => ∃ q : Nat, q ≤ R ∧ t = .int .i64 q) (fun t => R - (intOf t).toNat)
  case atStart => exact ⟨0, Nat.zero_le _, rfl⟩
  case round =>
    obtain ⟨q, hq, rfl⟩ := hrel
    by_cases hlt : q < R
    · obtain ⟨hsz, hp⟩ := HIN.out q hlt
      cases h1 : Lex.letter (s[i + q]'hsz)
      · cases h2 : Lex.digit (s[i + q]'hsz)
        · have h3 : (((s[i + q]'hsz).toNat : Int) == 95) = true := by
            unfold Lex.inner at hp; rw [h1, h2] at hp
            simp at hp
            simp; omega
          have H1 := Lib.hid h1
          have H2 := Lib.hid h2
          clear h1 h2 hp
          go_wp2_with (first | (go_at_call 63; refine (rletter_no _ H1.out _).mono ?_; rintro e w' ⟨rfl, rfl⟩) | (go_at_call 65; refine (rdigit_no _ H2.out _).mono ?_; rintro e w' ⟨rfl, rfl⟩))
          go_round
          case rel => exact ⟨q + 1, by omega, by go_num⟩
          case measure => simp [intOf]; omega
        · have H1 := Lib.hid h1
          have H2 := Lib.hid h2
          clear h1 h2 hp
          go_wp2_with (first | (go_at_call 63; refine (rletter_no _ H1.out _).mono ?_; rintro e w' ⟨rfl, rfl⟩) | (go_at_call 65; refine (rdigit_yes _ H2.out _).mono ?_; rintro e w' ⟨rfl, rfl⟩))
          go_round
          case rel => exact ⟨q + 1, by omega, by go_num⟩
          case measure => simp [intOf]; omega
      · have H1 := Lib.hid h1
        clear h1 hp
        go_wp2_with (go_at_call 63; refine (rletter_yes _ H1.out _).mono ?_; rintro e w' ⟨rfl, rfl⟩)
        go_round
        case rel => exact ⟨q + 1, by omega, by go_num⟩
        case measure => simp [intOf]; omega
    · obtain rfl : q = R := by omega
      by_cases hsz : i + q < s.size
      · have hp := HST.out hsz
        have h1 : Lex.letter (s[i + q]'hsz) = false := by
          cases h : Lex.letter (s[i + q]'hsz)
          · rfl
          · rw [Lex.inner_of_letter h] at hp; cases hp
        have h2 : Lex.digit (s[i + q]'hsz) = false := by
          cases h : Lex.digit (s[i + q]'hsz)
          · rfl
          · rw [Lex.inner_of_digit h] at hp; cases hp
        have h3 : (((s[i + q]'hsz).toNat : Int) == 95) = false := by
          unfold Lex.inner at hp; rw [h1, h2] at hp
          rw [beq_eq_false_iff_ne]
          simp at hp; omega
        have H1 := Lib.hid h1
        have H2 := Lib.hid h2
        clear h1 h2 hp
        go_wp2_with (first | (go_at_call 63; refine (rletter_no _ H1.out _).mono ?_; rintro e w' ⟨rfl, rfl⟩) | (go_at_call 65; refine (rdigit_no _ H2.out _).mono ?_; rintro e w' ⟨rfl, rfl⟩))
        go_ret
        exact ⟨rfl, rfl⟩
      · go_wp2
        go_ret
        exact ⟨rfl, rfl⟩

/-- The marks, place for place. -/
theorem rmark_any (c : UInt8) (w : World) : Calls Tryz.prog 67 #[.int .u8 (c.toNat : Int)] w (Returns w (.bool (Lex.mark c))) := by
  have key : Lex.mark c = (((123 : Int) == (c.toNat : Int)) || ((125 : Int) == (c.toNat : Int)) || ((40 : Int) == (c.toNat : Int)) || ((41 : Int) == (c.toNat : Int)) || ((44 : Int) == (c.toNat : Int)) || ((59 : Int) == (c.toNat : Int)) || ((58 : Int) == (c.toNat : Int)) || ((61 : Int) == (c.toNat : Int))) := by
    rw [Bool.eq_iff_iff]
    simp only [Lex.mark, List.contains_iff_mem, List.mem_cons, List.not_mem_nil, or_false, Bool.or_eq_true, beq_iff_eq]
    have e : ∀ k : Nat, k < 256 → (c = UInt8.ofNat k ↔ (k : Int) = (c.toNat : Int)) := fun k hk => ⟨fun h => by rw [h, UInt8.toNat_ofNat', Nat.mod_eq_of_lt hk], fun h => Lex.byte_eq hk (by omega)⟩
    have a1 := e 123 (by decide)
    have a2 := e 125 (by decide)
    have a3 := e 40 (by decide)
    have a4 := e 41 (by decide)
    have a5 := e 44 (by decide)
    have a6 := e 59 (by decide)
    have a7 := e 58 (by decide)
    have a8 := e 61 (by decide)
    simp only [or_assoc]
    exact or_congr a1 (or_congr a2 (or_congr a3 (or_congr a4 (or_congr a5 (or_congr a6 (or_congr a7 a8))))))
  go_enter Tryz.func67, Tryz.ntmps67
  go_wp2
  refine wp_loop_rounds 9 ?_
  rw [rounds_succ]
  go_wp2
  · have h : ((((ByteArray.mk #[123, 125, 40, 41, 44, 59, 58, 61])[0]'(by decide)).toNat : Int) == (c.toNat : Int)) = true := by assumption
    have h' : ((123 : Int) == (c.toNat : Int)) = true := h
    go_ret
    refine ⟨ret_bool ?_, rfl⟩
    rw [key, h']; simp
  have m0 : ((((ByteArray.mk #[123, 125, 40, 41, 44, 59, 58, 61])[0]'(by decide)).toNat : Int) == (c.toNat : Int)) = false := by assumption
  have n0 : ((123 : Int) == (c.toNat : Int)) = false := m0
  have N0 := Lib.hid n0
  clear m0 n0
  rw [rounds_succ]
  go_wp2
  · have h : ((((ByteArray.mk #[123, 125, 40, 41, 44, 59, 58, 61])[1]'(by decide)).toNat : Int) == (c.toNat : Int)) = true := by assumption
    have h' : ((125 : Int) == (c.toNat : Int)) = true := h
    go_ret
    refine ⟨ret_bool ?_, rfl⟩
    rw [key, h']; simp
  have m1 : ((((ByteArray.mk #[123, 125, 40, 41, 44, 59, 58, 61])[1]'(by decide)).toNat : Int) == (c.toNat : Int)) = false := by assumption
  have n1 : ((125 : Int) == (c.toNat : Int)) = false := m1
  have N1 := Lib.hid n1
  clear m1 n1
  rw [rounds_succ]
  go_wp2
  · have h : ((((ByteArray.mk #[123, 125, 40, 41, 44, 59, 58, 61])[2]'(by decide)).toNat : Int) == (c.toNat : Int)) = true := by assumption
    have h' : ((40 : Int) == (c.toNat : Int)) = true := h
    go_ret
    refine ⟨ret_bool ?_, rfl⟩
    rw [key, h']; simp
  have m2 : ((((ByteArray.mk #[123, 125, 40, 41, 44, 59, 58, 61])[2]'(by decide)).toNat : Int) == (c.toNat : Int)) = false := by assumption
  have n2 : ((40 : Int) == (c.toNat : Int)) = false := m2
  have N2 := Lib.hid n2
  clear m2 n2
  rw [rounds_succ]
  go_wp2
  · have h : ((((ByteArray.mk #[123, 125, 40, 41, 44, 59, 58, 61])[3]'(by decide)).toNat : Int) == (c.toNat : Int)) = true := by assumption
    have h' : ((41 : Int) == (c.toNat : Int)) = true := h
    go_ret
    refine ⟨ret_bool ?_, rfl⟩
    rw [key, h']; simp
  have m3 : ((((ByteArray.mk #[123, 125, 40, 41, 44, 59, 58, 61])[3]'(by decide)).toNat : Int) == (c.toNat : Int)) = false := by assumption
  have n3 : ((41 : Int) == (c.toNat : Int)) = false := m3
  have N3 := Lib.hid n3
  clear m3 n3
  rw [rounds_succ]
  go_wp2
  · have h : ((((ByteArray.mk #[123, 125, 40, 41, 44, 59, 58, 61])[4]'(by decide)).toNat : Int) == (c.toNat : Int)) = true := by assumption
    have h' : ((44 : Int) == (c.toNat : Int)) = true := h
    go_ret
    refine ⟨ret_bool ?_, rfl⟩
    rw [key, h']; simp
  have m4 : ((((ByteArray.mk #[123, 125, 40, 41, 44, 59, 58, 61])[4]'(by decide)).toNat : Int) == (c.toNat : Int)) = false := by assumption
  have n4 : ((44 : Int) == (c.toNat : Int)) = false := m4
  have N4 := Lib.hid n4
  clear m4 n4
  rw [rounds_succ]
  go_wp2
  · have h : ((((ByteArray.mk #[123, 125, 40, 41, 44, 59, 58, 61])[5]'(by decide)).toNat : Int) == (c.toNat : Int)) = true := by assumption
    have h' : ((59 : Int) == (c.toNat : Int)) = true := h
    go_ret
    refine ⟨ret_bool ?_, rfl⟩
    rw [key, h']; simp
  have m5 : ((((ByteArray.mk #[123, 125, 40, 41, 44, 59, 58, 61])[5]'(by decide)).toNat : Int) == (c.toNat : Int)) = false := by assumption
  have n5 : ((59 : Int) == (c.toNat : Int)) = false := m5
  have N5 := Lib.hid n5
  clear m5 n5
  rw [rounds_succ]
  go_wp2
  · have h : ((((ByteArray.mk #[123, 125, 40, 41, 44, 59, 58, 61])[6]'(by decide)).toNat : Int) == (c.toNat : Int)) = true := by assumption
    have h' : ((58 : Int) == (c.toNat : Int)) = true := h
    go_ret
    refine ⟨ret_bool ?_, rfl⟩
    rw [key, h']; simp
  have m6 : ((((ByteArray.mk #[123, 125, 40, 41, 44, 59, 58, 61])[6]'(by decide)).toNat : Int) == (c.toNat : Int)) = false := by assumption
  have n6 : ((58 : Int) == (c.toNat : Int)) = false := m6
  have N6 := Lib.hid n6
  clear m6 n6
  rw [rounds_succ]
  go_wp2
  · have h : ((((ByteArray.mk #[123, 125, 40, 41, 44, 59, 58, 61])[7]'(by decide)).toNat : Int) == (c.toNat : Int)) = true := by assumption
    have h' : ((61 : Int) == (c.toNat : Int)) = true := h
    go_ret
    refine ⟨ret_bool ?_, rfl⟩
    rw [key, h']; simp
  have m7 : ((((ByteArray.mk #[123, 125, 40, 41, 44, 59, 58, 61])[7]'(by decide)).toNat : Int) == (c.toNat : Int)) = false := by assumption
  have n7 : ((61 : Int) == (c.toNat : Int)) = false := m7
  have N7 := Lib.hid n7
  clear m7 n7
  rw [rounds_succ]
  go_wp2
  go_ret
  refine ⟨ret_bool ?_, rfl⟩
  rw [key, N0.out, N1.out, N2.out, N3.out, N4.out, N5.out, N6.out, N7.out]; rfl
end Go.Proofs.YteldekkodhfkkaaGreatDoor.LexW
