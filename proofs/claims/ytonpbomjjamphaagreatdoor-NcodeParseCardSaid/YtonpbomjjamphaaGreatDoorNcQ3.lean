/- The plain law of the reference's numbers: the lexer's answer at a sign and digits. Conditions: none. -/
import Derived.Test.YtonpbomjjamphaaGreatDoorNcQ2
import Derived.Test.YtonpbomjjamphaaGreatDoorLexLaws
namespace Go.Proofs.YtonpbomjjamphaaGreatDoor.NcW
open Go Go.RowKit Go.Proofs.YtonpbomjjamphaaGreatDoor.Mem

theorem dec_48 : ∀ (u : Nat) (t : List UInt8), Lib.decDigits u = 48 :: t → u = 0 ∧ t = [] := by
  intro u
  induction u using Nat.strongRecOn with
  | ind u ih =>
    intro t h
    rw [Lib.decDigits] at h
    split at h
    · rename_i hu
      injection h with h1 h2
      have := congrArg UInt8.toNat h1
      rw [UInt8.toNat_ofNat'] at this
      simp at this
      exact ⟨by omega, h2.symm⟩
    · rename_i hu
      cases hd : Lib.decDigits (u / 10) with
      | nil => exact absurd hd (dig_ne _)
      | cons c r =>
        rw [hd, List.cons_append] at h
        injection h with h1 h2
        subst h1
        have := (ih (u / 10) (by omega) r hd).1
        omega
theorem span_form (s : List UInt8) : span s = [] ∨ ∃ c r, span s = c :: r ∧ (c = 45 ∨ Lex.digit c = true) ∧ ∀ b ∈ r, Lex.digit b = true := by
  cases s with
  | nil => exact .inl rfl
  | cons c r =>
    have e : span (c :: r) = if c = 45 ∨ Lex.digit c = true then c :: r.takeWhile Lex.digit else [] := rfl
    rw [e]
    by_cases h : c = 45 ∨ Lex.digit c = true
    · rw [if_pos h]
      exact .inr ⟨c, _, rfl, h, fun b hb => List.all_eq_true.1 (Lex.takeWhile_all Lex.digit r) b hb⟩
    · rw [if_neg h]; exact .inl rfl
theorem numRun_all {r : List UInt8} (h : ∀ b ∈ r, Lex.digit b = true) : Lex.numRun r = r := by
  have := tw_all (l := r) (r := []) h (by simp)
  rwa [List.append_nil] at this
theorem trim_digs {c : UInt8} {r : List UInt8} (h : ∀ b ∈ r, Lex.digit b = true) : Lib.trimPrefix (c :: r) [45] = Lex.numDigs c r := by
  unfold Lex.numDigs
  rw [numRun_all h]
  by_cases hc : c = 45
  · subst hc
    simp [Lib.trimPrefix, Lib.hasPrefix, List.isPrefixOf]
  · rw [if_neg hc]
    unfold Lib.trimPrefix Lib.hasPrefix
    rw [if_neg]
    simp [List.isPrefixOf]
    exact fun e => hc e.symm
theorem itoa_neg_form (n : Int) (h : n < 0) : Lib.itoa n = 45 :: Lib.decDigits n.natAbs := by unfold Lib.itoa; rw [if_pos h]
theorem itoa_pos_form (n : Int) (h : ¬ n < 0) : Lib.itoa n = Lib.decDigits n.toNat := by unfold Lib.itoa; rw [if_neg h]
theorem canon_good {c : UInt8} {r : List UInt8} (hr : ∀ b ∈ r, Lex.digit b = true) (h : canon (c :: r) = true) : Lex.numBad c r = false ∧ (Lex.numDigs c r).length ≤ 9 := by
  have h9 : (Lex.numDigs c r).length ≤ 9 := by
    rw [← trim_digs hr]
    unfold canon at h
    split at h
    · simp only [Bool.and_eq_true, decide_eq_true_eq] at h
      exact h.2
    · cases h
  refine ⟨?_, h9⟩
  have hf := (canon_form h).1
  generalize hn : cval (c :: r) = n at *
  unfold Lex.numBad
  rw [numRun_all hr, List.drop_length]
  simp only [List.head?_nil, Option.any_none, Bool.false_or, Bool.or_eq_false_iff]
  unfold Lex.numDigs
  rw [numRun_all hr]
  by_cases hc : c = 45
  · subst hc
    rw [if_pos rfl]
    by_cases h0 : n < 0
    · rw [itoa_neg_form n h0] at hf
      injection hf with _ hf
      refine ⟨?_, ?_⟩
      · rw [hf]
        cases hd : Lib.decDigits n.natAbs with
        | nil => exact absurd hd (dig_ne _)
        | cons a b => rfl
      · cases hd : r with
        | nil => rfl
        | cons a b =>
          rw [hd] at hf
          simp only [List.headD_cons, Bool.and_eq_false_imp]
          intro ha
          have ha := of_decide_eq_true ha
          subst ha
          have := (dec_48 _ _ hf.symm).1
          omega
    · rw [itoa_pos_form n h0] at hf
      have := dig_byte n.toNat 45 (by rw [← hf]; simp)
      simp at this
  · rw [if_neg hc]
    refine ⟨rfl, ?_⟩
    simp only [List.headD_cons, Bool.and_eq_false_imp, decide_eq_false_iff_not, Decidable.not_not]
    intro h48
    have h48 := of_decide_eq_true h48
    subst h48
    by_cases h0 : n < 0
    · rw [itoa_neg_form n h0] at hf
      injection hf with hf _
      cases hf
    · rw [itoa_pos_form n h0] at hf
      rw [(dec_48 _ _ hf.symm).2]
theorem good_canon {c : UInt8} {r : List UInt8} (hc : c = 45 ∨ Lex.digit c = true) (hr : ∀ b ∈ r, Lex.digit b = true) (hb : Lex.numBad c r = false) (h9 : (Lex.numDigs c r).length ≤ 9) :
    canon (c :: r) = true ∧ cval (c :: r) = Lex.numVal c r := by
  have hi := (Lex.itoa_num (c := c) (r := r) (by rcases hc with h | h <;> simp [h]) hb).1
  rw [numRun_all hr] at hi
  generalize Lex.numVal c r = v at *
  rw [← trim_digs hr, ← hi] at h9
  have hd (u : Nat) (hu : (Lib.decDigits u).length ≤ 9) : u < 1000000000 := by
    rw [Lib.decDigits_length] at hu
    have h1 := Lib.lt_pow_nDigits u
    have h2 : 10 ^ Lib.nDigits u ≤ 10 ^ 9 := Nat.pow_le_pow_right (by decide) hu
    have h3 : (10 : Nat) ^ 9 = 1000000000 := by decide
    omega
  have hv : -999999999 ≤ v ∧ v ≤ 999999999 := by
    by_cases h0 : v < 0
    · rw [itoa_neg_form v h0] at h9
      have e : Lib.trimPrefix (45 :: Lib.decDigits v.natAbs) [45] = Lib.decDigits v.natAbs := by simp [Lib.trimPrefix, Lib.hasPrefix, List.isPrefixOf]
      rw [e] at h9
      have := hd _ h9
      omega
    · rw [itoa_pos_form v h0] at h9
      have e : Lib.trimPrefix (Lib.decDigits v.toNat) [45] = Lib.decDigits v.toNat := by
        unfold Lib.trimPrefix Lib.hasPrefix
        rw [if_neg]
        intro hp
        rw [List.isPrefixOf_iff_prefix] at hp
        obtain ⟨t, ht⟩ := hp
        have := dig_byte v.toNat 45 (by rw [← ht]; simp)
        simp at this
      rw [e] at h9
      have := hd _ h9
      omega
  rw [← hi]
  exact canon_itoa v hv
theorem class_num {c : UInt8} (hc : c = 45 ∨ Lex.digit c = true) : Lex.blank c = false ∧ c ≠ 35 ∧ Lex.letter c = false ∧ (Lex.digit c || decide (c = 45)) = true := by
  rcases hc with rfl | h
  · decide
  · refine ⟨?_, ?_, ?_, by simp [h]⟩
    all_goals simp only [Lex.digit, Bool.and_eq_true, decide_eq_true_eq] at h
    · simp [Lex.blank]; omega
    · rintro rfl; simp at h
    · simp [Lex.letter]; omega
/-- The lexer's answer at a sign and digits: one number where the form is right. -/
theorem tok_span (s : List UInt8) : (canon (span s) = true → (Lex.tokens (span s)).err = 0 ∧ (Lex.tokens (span s)).toks = [⟨2, [], cval (span s), 0⟩]) ∧ (canon (span s) = false → (Lex.tokens (span s)).err ≠ 0 ∨ (Lex.tokens (span s)).toks.length ≠ 1) := by
  rcases span_form s with h | ⟨c, r, h, hc, hr⟩
  · rw [h]
    refine ⟨fun h => ?_, fun _ => .inr (by decide)⟩
    exact absurd h (by decide)
  · rw [h]
    obtain ⟨hb, h35, hl, hd⟩ := class_num hc
    by_cases hlong : 20000 < (c :: r).length
    · have ht : Lex.tokens (c :: r) = ⟨[], 0, 9⟩ := by unfold Lex.tokens; rw [if_pos hlong]
      rw [ht]
      refine ⟨fun hcn => ?_, fun _ => .inl (by decide)⟩
      exfalso
      have h9 := (canon_good hr hcn).2
      unfold Lex.numDigs at h9
      rw [numRun_all hr] at h9
      simp only [List.length_cons] at hlong
      split at h9
      · omega
      · simp at h9; omega
    · have ht : Lex.tokens (c :: r) = Lex.lex (c :: r) 0 := by unfold Lex.tokens; rw [if_neg hlong]
      rw [ht]
      have htok : Lex.tokL (c :: r) = Lex.numL c r := by
        simp only [Lex.tokL]
        rw [if_neg (by rw [hl]; simp), if_pos hd]
      cases hbad : Lex.numBad c r
      · by_cases h9 : (Lex.numDigs c r).length ≤ 9
        · obtain ⟨g1, g2⟩ := good_canon hc hr hbad h9
          have hn : Lex.tokL (c :: r) = ⟨2, [], Lex.numVal c r, Lex.numLen r, 0⟩ := by
            rw [htok]
            unfold Lex.numL
            rw [if_neg (by rw [hbad]; simp), if_neg (by omega)]
          have hlex := Lex.lex_tok r 0 hb h35 (by rw [hn])
          rw [hn] at hlex
          have hdrop : (c :: r).drop (Lex.numLen r) = [] := by
            unfold Lex.numLen
            rw [numRun_all hr]
            simp
          simp only at hlex
          rw [hdrop, Lex.lex_nil] at hlex
          rw [hlex, g1, g2]
          exact ⟨fun _ => ⟨rfl, rfl⟩, fun h => by cases h⟩
        · refine ⟨fun hcn => absurd (canon_good hr hcn).2 h9, fun _ => .inl ?_⟩
          have hn : (Lex.tokL (c :: r)).err = 9 := by
            rw [htok]
            unfold Lex.numL
            rw [if_neg (by rw [hbad]; simp), if_pos (by omega)]
          rw [Lex.lex_bad r 0 hb h35 (by rw [hn]; decide)]
          simp only
          rw [hn]
          decide
      · refine ⟨fun hcn => ?_, fun _ => .inl ?_⟩
        · rw [(canon_good hr hcn).1] at hbad; cases hbad
        · have hn : (Lex.tokL (c :: r)).err = 3 := by
            rw [htok]
            unfold Lex.numL
            rw [if_pos hbad]
          rw [Lex.lex_bad r 0 hb h35 (by rw [hn]; decide)]
          simp only
          rw [hn]
          decide
/-- How long a sign and digits are. -/
def start (s : List UInt8) : Nat := if s.head? = some 45 then 1 else 0
theorem span_take (s : List UInt8) : span s = s.take (start s + ((s.drop (start s)).takeWhile Lex.digit).length) := by
  cases s with
  | nil => rfl
  | cons c r =>
    have e : span (c :: r) = if c = 45 ∨ Lex.digit c = true then c :: r.takeWhile Lex.digit else [] := rfl
    rw [e]
    by_cases h45 : c = 45
    · subst h45
      rw [if_pos (by simp)]
      have : start (45 :: r) = 1 := rfl
      rw [this, List.drop_one, List.tail_cons, Nat.add_comm, List.take_succ_cons, Lex.takeWhile_len]
    · have : start (c :: r) = 0 := by unfold start; simp [h45]
      rw [this, List.drop_zero, Nat.zero_add, Lex.takeWhile_len]
      by_cases hd : Lex.digit c = true
      · rw [if_pos (.inr hd), List.takeWhile_cons, if_pos hd]
      · rw [if_neg (by rintro (h | h); exact h45 h; exact hd h), List.takeWhile_cons, if_neg hd]
end Go.Proofs.YtonpbomjjamphaaGreatDoor.NcW
