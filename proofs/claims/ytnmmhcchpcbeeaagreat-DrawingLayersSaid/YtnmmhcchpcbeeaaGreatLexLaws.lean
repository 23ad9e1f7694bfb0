/- The plain laws of the lexer: what is written is read again; blanks, comments and further text. No program is in sight. Conditions: none. -/
import Derived.Test.YtnmmhcchpcbeeaaGreatLexPlain

namespace Go.Proofs.YtnmmhcchpcbeeaaGreat.Lex
open Go

/-! ### Bytes -/
theorem byte_eq {c : UInt8} {k : Nat} (hk : k < 256) (h : c.toNat = k) : c = UInt8.ofNat k := by
  apply UInt8.toNat_inj.1
  rw [h, UInt8.toNat_ofNat']
  exact (Nat.mod_eq_of_lt hk).symm
theorem blank_cases {c : UInt8} (h : blank c = true) : c = 32 ∨ c = 9 ∨ c = 10 := by
  simp only [blank, Bool.or_eq_true, decide_eq_true_eq] at h
  rcases h with (h | h) | h
  · exact .inl (byte_eq (k := 32) (by decide) h)
  · exact .inr (.inl (byte_eq (k := 9) (by decide) h))
  · exact .inr (.inr (byte_eq (k := 10) (by decide) h))
theorem tok_head {c : UInt8} {r : List UInt8} (h : (tokL (c :: r)).err = 0) : blank c = false ∧ c ≠ 35 := by
  have bad : letter c = false → (digit c || decide (c = 45)) = false → mark c = false → False := by
    intro h1 h2 h3
    have h1' : ¬ letter c = true := by simp [h1]
    have h2' : ¬ (digit c || decide (c = 45)) = true := by simp [h2]
    have h3' : ¬ mark c = true := by simp [h3]
    simp only [tokL] at h
    rw [if_neg h1', if_neg h2', if_neg h3'] at h
    simp at h
  refine ⟨?_, ?_⟩
  · cases hb : blank c
    · rfl
    · exfalso
      rcases blank_cases hb with rfl | rfl | rfl <;> exact bad (by decide) (by decide) (by decide)
  · rintro rfl
    exact bad (by decide) (by decide) (by decide)

/-! ### Numbers and their digits -/
theorem digitVal_of {c : UInt8} (h : digit c = true) : Lib.digitVal c = some (c.toNat - 48) := by
  simp only [digit, Bool.and_eq_true, decide_eq_true_eq] at h
  unfold Lib.digitVal
  rw [if_pos h]
theorem digit_byte {c : UInt8} (h : digit c = true) : UInt8.ofNat (48 + (c.toNat - 48)) = c := by
  simp only [digit, Bool.and_eq_true, decide_eq_true_eq] at h
  rw [show 48 + (c.toNat - 48) = c.toNat by omega]
  simp
theorem dec_snoc {u d : Nat} (hu : 1 ≤ u) (hd : d < 10) : Lib.decDigits (u * 10 + d) = Lib.decDigits u ++ [UInt8.ofNat (48 + d)] := by
  rw [Lib.decDigits, dif_neg (by omega)]
  rw [show (u * 10 + d) / 10 = u by omega, show (u * 10 + d) % 10 = d by omega]
theorem dec_from : ∀ (l : List UInt8) (acc : Nat), 1 ≤ acc → l.all digit = true → ∃ v, Lib.decFrom acc l = some v ∧ Lib.decDigits v = Lib.decDigits acc ++ l ∧ acc ≤ v
  | [], acc, _, _ => ⟨acc, rfl, by simp, Nat.le_refl _⟩
  | c :: r, acc, ha, hl => by
    simp only [List.all_cons, Bool.and_eq_true] at hl
    have hd := hl.1
    simp only [digit, Bool.and_eq_true, decide_eq_true_eq] at hd
    obtain ⟨v, h1, h2, h3⟩ := dec_from r (acc * 10 + (c.toNat - 48)) (by omega) hl.2
    refine ⟨v, ?_, ?_, by omega⟩
    · simp only [Lib.decFrom, digitVal_of hl.1]; exact h1
    · rw [h2, dec_snoc ha (by omega), digit_byte hl.1]; simp
/-- A row of digits that does not begin with a nought. -/
theorem dec_nat {c : UInt8} {r : List UInt8} (hc : digit c = true) (h0 : c ≠ 48) (hr : r.all digit = true) : ∃ v, Lib.decNat (c :: r) = some v ∧ Lib.decDigits v = c :: r ∧ 1 ≤ v := by
  have hd := hc
  simp only [digit, Bool.and_eq_true, decide_eq_true_eq] at hd
  have hne : c.toNat ≠ 48 := fun h => h0 (byte_eq (k := 48) (by decide) h)
  obtain ⟨v, h1, h2, h3⟩ := dec_from r (c.toNat - 48) (by omega) hr
  refine ⟨v, ?_, ?_, by omega⟩
  · simp only [Lib.decNat, List.isEmpty_cons, Bool.false_eq_true, if_false, Lib.decFrom, digitVal_of hc]
    simpa using h1
  · rw [h2, Lib.decDigits, dif_pos (by omega), digit_byte hc]; rfl

theorem takeWhile_all (p : UInt8 → Bool) (l : List UInt8) : (l.takeWhile p).all p = true := by
  rw [List.all_eq_true]
  intro x hx
  induction l with
  | nil => simp at hx
  | cons a t ih =>
    rw [List.takeWhile_cons] at hx
    by_cases h : p a = true
    · rw [if_pos h] at hx
      rcases List.mem_cons.1 hx with rfl | hx
      · exact h
      · exact ih hx
    · rw [if_neg h] at hx
      simp at hx
theorem takeWhile_len (p : UInt8 → Bool) (l : List UInt8) : l.take (l.takeWhile p).length = l.takeWhile p := by
  induction l with
  | nil => rfl
  | cons a t ih =>
    rw [List.takeWhile_cons]
    by_cases h : p a = true
    · rw [if_pos h]; simp [ih]
    · rw [if_neg h]; rfl
theorem numLen_take (c : UInt8) (r : List UInt8) : (c :: r).take (numLen r) = c :: numRun r := by
  unfold numLen numRun
  rw [List.take_succ_cons, takeWhile_len]

theorem num_parts {c : UInt8} {r : List UInt8} (hb : numBad c r = false) :
    ((r.drop (numRun r).length).head?.any inner) = false ∧ numDigs c r ≠ [] ∧ ¬ ((numDigs c r).headD 0 = 48 ∧ c :: numRun r ≠ [48]) := by
  unfold numBad at hb
  simp only [Bool.or_eq_false_iff] at hb
  obtain ⟨⟨h1, h2⟩, h3⟩ := hb
  refine ⟨h1, ?_, ?_⟩
  · intro h; rw [h] at h2; simp at h2
  · rintro ⟨h4, h5⟩
    rw [h4] at h3
    simp [h5] at h3

theorem itoa_num {c : UInt8} {r : List UInt8} (hc : (digit c || decide (c = 45)) = true) (hb : numBad c r = false) :
    Lib.itoa (numVal c r) = c :: numRun r ∧ (c = 45 → numVal c r < 0) := by
  obtain ⟨_, h2, h3⟩ := num_parts hb
  unfold numVal
  have hds : (numRun r).all digit = true := takeWhile_all digit r
  unfold numDigs at h2 h3
  generalize numRun r = ds at *
  by_cases h45 : c = 45
  · subst h45
    simp only [if_true] at h2 h3
    cases ds with
    | nil => exact absurd rfl h2
    | cons d ds =>
      simp only [List.all_cons, Bool.and_eq_true] at hds
      have h48 : d ≠ 48 := by
        intro h; subst h
        exact h3 ⟨rfl, by simp⟩
      obtain ⟨v, e1, e2, e3⟩ := dec_nat hds.1 h48 hds.2
      have ea : Lib.atoi (45 :: d :: ds) = some (-(v : Int)) := by
        simp only [Lib.atoi, e1]; rfl
      rw [ea]
      refine ⟨?_, fun _ => by simp only [Option.getD_some]; omega⟩
      simp only [Option.getD_some, Lib.itoa]
      rw [if_pos (by omega), Int.natAbs_neg, Int.natAbs_natCast, e2]
  · rw [if_neg h45] at h2 h3
    have hdc : digit c = true := by simpa [h45] using hc
    have hd := hdc
    simp only [digit, Bool.and_eq_true, decide_eq_true_eq] at hd
    refine ⟨?_, fun h => absurd h h45⟩
    have h43 : c ≠ 43 := by rintro rfl; simp at hd
    have ea : Lib.atoi (c :: ds) = (Lib.decNat (c :: ds)).map fun (m : Nat) => (m : Int) := by
      simp only [Lib.atoi]
      rw [if_neg (by simpa using h45), if_neg (by simpa using h43)]
    rw [ea]
    by_cases h48 : c = 48
    · subst h48
      have hn : ds = [] := by
        cases ds with
        | nil => rfl
        | cons d ds => exact absurd ⟨rfl, by simp⟩ h3
      subst hn
      have e0 : Lib.decNat [48] = some 0 := by decide
      rw [e0]
      have e1 : Lib.decDigits 0 = [48] := by rw [Lib.decDigits, dif_pos (by decide)]; rfl
      simp [Lib.itoa, e1]
    · obtain ⟨v, e1, e2, e3⟩ := dec_nat hdc h48 hds
      rw [e1]
      simp only [Option.map_some, Option.getD_some, Lib.itoa]
      rw [if_neg (by omega), Int.toNat_natCast, e2]

/-! ### What follows a token -/
/-- What may follow a name or a number: it does not begin with a letter, a digit or an underscore. -/
def stop (l : List UInt8) : Bool := !(l.head?.any inner)

theorem takeWhile_stop {p : UInt8 → Bool} (hp : ∀ c, p c = true → inner c = true) {w rest : List UInt8} (hw : w.all p = true) (hs : stop rest = true) : (w ++ rest).takeWhile p = w := by
  induction w with
  | nil =>
    cases rest with
    | nil => rfl
    | cons a t =>
      simp only [stop, List.head?_cons, Option.any_some, Bool.not_eq_true'] at hs
      have : p a = false := by
        cases h : p a
        · rfl
        · rw [hp a h] at hs; cases hs
      simp [this]
  | cons a t ih =>
    simp only [List.all_cons, Bool.and_eq_true] at hw
    rw [List.cons_append, List.takeWhile_cons, if_pos hw.1, ih hw.2]

/-- How a token is told: the three ways. -/
theorem tok_ways {c : UInt8} {r : List UInt8} (h : (tokL (c :: r)).err = 0) :
    (letter c = true ∧ ((c :: r).takeWhile inner).length ≤ 16 ∧ tokL (c :: r) = ⟨1, (c :: r).takeWhile inner, 0, ((c :: r).takeWhile inner).length, 0⟩) ∨
    (letter c = false ∧ (digit c || decide (c = 45)) = true ∧ numBad c r = false ∧ (numDigs c r).length ≤ 9 ∧ tokL (c :: r) = ⟨2, [], numVal c r, numLen r, 0⟩) ∨
    (letter c = false ∧ (digit c || decide (c = 45)) = false ∧ mark c = true ∧ tokL (c :: r) = ⟨3, [c], 0, 1, 0⟩) := by
  simp only [tokL] at h ⊢
  by_cases h1 : letter c = true
  · rw [if_pos h1] at h ⊢
    by_cases h2 : 16 < ((c :: r).takeWhile inner).length
    · rw [if_pos h2] at h; simp at h
    · rw [if_neg h2]
      exact .inl ⟨h1, by omega, rfl⟩
  · rw [if_neg h1] at h ⊢
    have h1f : letter c = false := by simpa using h1
    by_cases h2 : (digit c || decide (c = 45)) = true
    · rw [if_pos h2] at h ⊢
      unfold numL at h ⊢
      by_cases h3 : numBad c r = true
      · rw [if_pos h3] at h; simp at h
      · rw [if_neg h3] at h ⊢
        by_cases h4 : 9 < (numDigs c r).length
        · rw [if_pos h4] at h; simp at h
        · rw [if_neg h4]
          exact .inr (.inl ⟨h1f, h2, by simpa using h3, by omega, rfl⟩)
    · rw [if_neg h2] at h ⊢
      by_cases h3 : mark c = true
      · rw [if_pos h3]
        exact .inr (.inr ⟨h1f, by simpa using h2, h3, rfl⟩)
      · rw [if_neg h3] at h; simp at h

theorem tokL_name {c : UInt8} {r : List UInt8} (h1 : letter c = true) (h2 : ((c :: r).takeWhile inner).length ≤ 16) :
    tokL (c :: r) = ⟨1, (c :: r).takeWhile inner, 0, ((c :: r).takeWhile inner).length, 0⟩ := by
  simp only [tokL]
  rw [if_pos h1, if_neg (by omega)]
theorem tokL_num {c : UInt8} {r : List UInt8} (h1 : letter c = false) (h2 : (digit c || decide (c = 45)) = true) (h3 : numBad c r = false) (h4 : (numDigs c r).length ≤ 9) :
    tokL (c :: r) = ⟨2, [], numVal c r, numLen r, 0⟩ := by
  simp only [tokL, numL]
  rw [if_neg (by simp [h1]), if_pos h2, if_neg (by simp [h3]), if_neg (by omega)]
theorem tokL_mark {c : UInt8} {r : List UInt8} (h1 : letter c = false) (h2 : (digit c || decide (c = 45)) = false) (h3 : mark c = true) : tokL (c :: r) = ⟨3, [c], 0, 1, 0⟩ := by
  simp only [tokL]
  rw [if_neg (by simp [h1]), if_neg (by simp [h2]), if_pos h3]

theorem digit_45 : digit 45 = false := by decide

/-- A token's own bytes, before whatever may follow: the same token. -/
theorem tokL_take {c : UInt8} {r rest : List UInt8} (h : (tokL (c :: r)).err = 0) (hs : stop rest = true) :
    tokL ((c :: r).take (tokL (c :: r)).len ++ rest) = tokL (c :: r) := by
  rcases tok_ways h with ⟨h1, h2, e⟩ | ⟨h1, h2, h3, h4, e⟩ | ⟨h1, h2, h3, e⟩
  · rw [e]
    simp only
    have hw := takeWhile_all inner (c :: r)
    have hc : (c :: r).takeWhile inner = c :: r.takeWhile inner := by rw [List.takeWhile_cons, if_pos (inner_of_letter h1)]
    rw [takeWhile_len]
    rw [hc] at hw h2 ⊢
    have ht : (c :: r.takeWhile inner ++ rest).takeWhile inner = c :: r.takeWhile inner := takeWhile_stop (fun _ h => h) hw hs
    rw [List.cons_append, tokL_name h1 (by rw [← List.cons_append, ht]; exact h2), ← List.cons_append, ht]
  · rw [e]
    simp only
    rw [numLen_take]
    have hw : (numRun r).all digit = true := takeWhile_all digit r
    obtain ⟨p1, p2, p3⟩ := num_parts h3
    unfold numVal numLen
    unfold numDigs at h4 p2 p3
    have ht0 : ∀ ds : List UInt8, ds.all digit = true → numRun (ds ++ rest) = ds := fun ds h => takeWhile_stop (fun _ h => inner_of_digit h) h hs
    generalize numRun r = ds at *
    have ht := ht0 ds hw
    have hb : numBad c (ds ++ rest) = false := by
      unfold numBad numDigs
      rw [ht, List.drop_left]
      have hs' : (rest.head?.any inner) = false := by simpa [stop] using hs
      rw [hs']
      simp only [Bool.false_or, Bool.or_eq_false_iff]
      refine ⟨?_, ?_⟩
      · cases hx : (if c = 45 then ds else c :: ds) with
        | nil => exact absurd hx p2
        | cons _ _ => rfl
      · cases hx : decide ((if c = 45 then ds else c :: ds).headD 0 = 48) && decide (c :: ds ≠ [48])
        · rfl
        · simp only [Bool.and_eq_true, decide_eq_true_eq] at hx
          exact absurd hx p3
    rw [List.cons_append, tokL_num h1 h2 hb (by unfold numDigs; rw [ht]; exact h4)]
    unfold numVal numLen
    rw [ht]
  · rw [e]
    simp only [List.take_succ_cons, List.take_zero, List.cons_append, List.nil_append]
    exact tokL_mark h1 h2 h3

/-! ### Tokens and their texts -/
/-- A token that was read somewhere. -/
def Word (t : Tok) (w : List UInt8) : Prop := ∃ (c : UInt8) (r : List UInt8), (tokL (c :: r)).err = 0 ∧ t.kind = (tokL (c :: r)).kind ∧ t.text = (tokL (c :: r)).text ∧ t.n = (tokL (c :: r)).n ∧ w = (c :: r).take (tokL (c :: r)).len

theorem Word.write_eq {t : Tok} {w : List UInt8} (h : Word t w) : write t = w := by
  obtain ⟨c, r, h0, hk, ht, hn, rfl⟩ := h
  unfold write
  rcases tok_ways h0 with ⟨h1, h2, e⟩ | ⟨h1, h2, h3, h4, e⟩ | ⟨h1, h2, h3, e⟩ <;> rw [e] at hk ht hn ⊢ <;> simp only at hk ht hn ⊢
  · rw [hk, ht, if_neg (by decide), takeWhile_len]
  · rw [hk, hn, if_pos rfl, numLen_take]
    exact (itoa_num h2 h3).1
  · rw [hk, ht, if_neg (by decide)]; rfl

theorem Word.length {t : Tok} {w : List UInt8} (h : Word t w) : 1 ≤ w.length := by
  obtain ⟨c, r, h0, _, _, _, rfl⟩ := h
  have := tok_len h0
  rw [List.length_take, List.length_cons]; omega

theorem Word.lex_eq {t : Tok} {w : List UInt8} (h : Word t w) {rest : List UInt8} (hs : stop rest = true) (p : Nat) :
    lex (w ++ rest) p = LR.cons ⟨t.kind, t.text, t.n, p⟩ (lex rest (p + w.length)) := by
  obtain ⟨c, r, h0, hk, ht, hn, rfl⟩ := h
  have hl := tok_len h0
  have e := tokL_take h0 hs
  have hd := tok_head h0
  obtain ⟨k, hk1⟩ : ∃ k, (tokL (c :: r)).len = k + 1 := ⟨(tokL (c :: r)).len - 1, by omega⟩
  have hw : (c :: r).take (tokL (c :: r)).len = c :: r.take k := by rw [hk1]; rfl
  have hwl : ((c :: r).take (tokL (c :: r)).len).length = (tokL (c :: r)).len := by rw [List.length_take, List.length_cons]; omega
  rw [hw] at e hwl ⊢
  rw [List.cons_append] at e ⊢
  rw [lex_tok _ p hd.1 hd.2 (by rw [e]; exact h0), e, hk, ht, hn]
  congr 1
  rw [← List.cons_append, ← hwl, List.drop_left]

theorem Word.isName_iff {t : Tok} {w : List UInt8} (h : Word t w) : (t.kind = 1) ↔ isName w = true := by
  obtain ⟨c, r, h0, hk, ht, hn, rfl⟩ := h
  rw [hk]
  rcases tok_ways h0 with ⟨h1, h2, e⟩ | ⟨h1, h2, h3, h4, e⟩ | ⟨h1, h2, h3, e⟩ <;> rw [e] <;> simp only
  · rw [takeWhile_len]
    have hc : (c :: r).takeWhile inner = c :: r.takeWhile inner := by rw [List.takeWhile_cons, if_pos (inner_of_letter h1)]
    have ha := takeWhile_all inner (c :: r)
    rw [hc] at h2 ha ⊢
    refine ⟨fun _ => ?_, fun _ => trivial⟩
    simp only [isName, List.headD_cons, h1, ha, List.length_cons] at *
    simp; omega
  · rw [numLen_take]
    refine ⟨fun h => by simp at h, fun h => ?_⟩
    simp [isName, h1] at h
  · refine ⟨fun h => by simp at h, fun h => ?_⟩
    simp [isName, h1] at h

theorem lexF_word : ∀ (f : Nat) (l : List UInt8) (p : Nat), l.length ≤ f → (lexF f l p).err = 0 → ∀ t ∈ (lexF f l p).toks, Word t (write t)
  | 0, _, _, _, _, t, ht => by simp [lexF] at ht
  | f + 1, [], _, _, _, t, ht => by simp [lexF] at ht
  | f + 1, c :: r, p, hf, he, t, ht => by
    simp only [List.length_cons] at hf
    simp only [lexF] at he ht
    by_cases h1 : blank c = true
    · rw [if_pos h1] at he ht
      exact lexF_word f r _ (by omega) he t ht
    · rw [if_neg h1] at he ht
      by_cases h2 : c = 35
      · rw [if_pos h2] at he ht
        have := drop_feed c r h2
        exact lexF_word f _ _ (by omega) he t ht
      · rw [if_neg h2] at he ht
        by_cases h3 : (tokL (c :: r)).err = 0
        · rw [if_pos h3] at he ht
          have hl := tok_len h3
          have hd : ((c :: r).drop (tokL (c :: r)).len).length ≤ f := by simp only [List.length_drop, List.length_cons]; omega
          unfold LR.cons at he ht
          by_cases h4 : (lexF f ((c :: r).drop (tokL (c :: r)).len) (p + (tokL (c :: r)).len)).err = 0
          · rw [if_pos h4] at he ht
            simp only [List.mem_cons] at ht
            rcases ht with rfl | ht
            · have hw : Word ⟨(tokL (c :: r)).kind, (tokL (c :: r)).text, (tokL (c :: r)).n, p⟩ ((c :: r).take (tokL (c :: r)).len) := ⟨c, r, h3, rfl, rfl, rfl, rfl⟩
              rw [hw.write_eq]; exact hw
            · exact lexF_word f _ _ hd h4 t ht
          · rw [if_neg h4] at he; exact absurd he h4
        · rw [if_neg h3] at he; exact absurd he h3
theorem lex_word {l : List UInt8} {p : Nat} (h : (lex l p).err = 0) : ∀ t ∈ (lex l p).toks, Word t (write t) := lexF_word _ l p (Nat.le_refl _) h

/-! ### Gaps -/
def key (t : Tok) : Int × List UInt8 × Int := (t.kind, t.text, t.n)
structure Gap (g : List UInt8) : Prop where
  lex_eq : ∀ (rest : List UInt8) (p : Nat), lex (g ++ rest) p = lex rest (p + g.length)
  stop_ : ∀ rest : List UInt8, stop (g ++ rest) = true
theorem gap_space : Gap [32] := ⟨fun rest p => lex_blank rest p (by decide), fun _ => by simp [stop, inner, letter, digit]⟩
theorem gap_feed : Gap [10] := ⟨fun rest p => lex_blank rest p (by decide), fun _ => by simp [stop, inner, letter, digit]⟩
theorem gap_tabs : Gap [9, 9] := ⟨fun rest p => by
  rw [List.cons_append, lex_blank _ p (by decide), List.cons_append, lex_blank _ _ (by decide)]; rfl, fun _ => by simp [stop, inner, letter, digit]⟩
/-- ' # a } 1b' and a line feed -/
theorem gap_note : Gap [32, 35, 32, 97, 32, 125, 32, 49, 98, 10] := ⟨fun rest p => by
  rw [List.cons_append, lex_blank _ p (by decide), List.cons_append, lex_comment _ _ rfl]
  have e1 : (35 :: ([32, 97, 32, 125, 32, 49, 98, 10] ++ rest)).dropWhile notFeed = 10 :: rest := by simp [notFeed]
  have e2 : ((35 :: ([32, 97, 32, 125, 32, 49, 98, 10] ++ rest)).takeWhile notFeed).length = 8 := by simp [notFeed]
  rw [e1, e2, lex_blank _ _ (by decide)]; rfl, fun _ => by simp [stop, inner, letter, digit]⟩

/-- The texts of tokens, each behind a gap. -/
def glue : List (List UInt8 × Tok) → List UInt8
  | [] => []
  | x :: r => x.1 ++ (write x.2 ++ glue r)

theorem stop_glue {l : List (List UInt8 × Tok)} {tail : List UInt8} (hg : ∀ x ∈ l, Gap x.1) (ht : stop tail = true) : stop (glue l ++ tail) = true := by
  cases l with
  | nil => simpa [glue] using ht
  | cons x r =>
    simp only [glue, List.append_assoc]
    exact (hg x (by simp)).stop_ _

theorem lex_glue {tail : List UInt8} (hs : stop tail = true) (ht : ∀ p, lex tail p = ⟨[], 0, 0⟩) : ∀ (l : List (List UInt8 × Tok)), (∀ x ∈ l, Gap x.1) → (∀ x ∈ l, Word x.2 (write x.2)) → ∀ p,
    (lex (glue l ++ tail) p).err = 0 ∧ (lex (glue l ++ tail) p).toks.map key = l.map fun x => key x.2
  | [], _, _, p => by simp [glue, ht p]
  | x :: r, hg, hw, p => by
    have hr := fun q => lex_glue hs ht r (fun y hy => hg y (by simp [hy])) (fun y hy => hw y (by simp [hy])) q
    simp only [glue, List.append_assoc]
    rw [(hg x (by simp)).lex_eq, (hw x (by simp)).lex_eq (stop_glue (fun y hy => hg y (by simp [hy])) hs)]
    obtain ⟨h1, h2⟩ := hr (p + x.1.length + (write x.2).length)
    unfold LR.cons
    rw [if_pos h1]
    exact ⟨rfl, by simp [h2, key]⟩

/-- The tokens' texts with single spaces between them. -/
def joinW : List Tok → List UInt8
  | [] => []
  | t :: r => write t ++ glue (r.map fun u => ([32], u))
theorem lex_join {l : List Tok} (hw : ∀ t ∈ l, Word t (write t)) (p : Nat) : (lex (joinW l) p).err = 0 ∧ (lex (joinW l) p).toks.map key = l.map key := by
  cases l with
  | nil => simp [joinW, lex_nil]
  | cons t r =>
    have hg : ∀ x ∈ r.map fun u => (([32], u) : List UInt8 × Tok), Gap x.1 := by
      intro x hx
      obtain ⟨u, _, rfl⟩ := List.mem_map.1 hx
      exact gap_space
    have hw' : ∀ x ∈ r.map fun u => (([32], u) : List UInt8 × Tok), Word x.2 (write x.2) := by
      intro x hx
      obtain ⟨u, hu, rfl⟩ := List.mem_map.1 hx
      exact hw u (by simp [hu])
    have h0 : stop [] = true := rfl
    have hgl := lex_glue (tail := []) h0 (fun p => lex_nil p) _ hg hw' (p + (write t).length)
    have hst := stop_glue hg h0
    simp only [List.append_nil] at hgl hst
    simp only [joinW]
    rw [(hw t (by simp)).lex_eq hst]
    unfold LR.cons
    rw [if_pos hgl.1]
    refine ⟨rfl, ?_⟩
    simp only [List.map_cons, hgl.2, List.map_map]
    rfl

/-! ### Offsets -/
def okFrom (S : List UInt8) : Nat → List Tok → Prop
  | _, [] => True
  | next, t :: r => next ≤ t.pos ∧ 1 ≤ (write t).length ∧ t.pos + (write t).length ≤ S.length ∧ (S.drop t.pos).take (write t).length = write t ∧ (t.kind = 1 ↔ isName (write t) = true) ∧ okFrom S (t.pos + (write t).length) r

theorem lexF_offs (S : List UInt8) : ∀ (f : Nat) (l : List UInt8) (p q : Nat), l.length ≤ f → l = S.drop p → q ≤ p → p ≤ S.length → (lexF f l p).err = 0 → okFrom S q (lexF f l p).toks
  | 0, _, _, _, _, _, _, _, _ => trivial
  | f + 1, [], _, _, _, _, _, _, _ => trivial
  | f + 1, c :: r, p, q, hf, hl, hq, hp, he => by
    have hlen : r.length + 1 = S.length - p := by have := congrArg List.length hl; simpa using this
    simp only [List.length_cons] at hf
    simp only [lexF] at he ⊢
    by_cases h1 : blank c = true
    · rw [if_pos h1] at he ⊢
      exact lexF_offs S f r (p + 1) q (by omega) (by rw [← List.drop_drop, ← hl]; rfl) (by omega) (by omega) he
    · rw [if_neg h1] at he ⊢
      by_cases h2 : c = 35
      · rw [if_pos h2] at he ⊢
        have hd := drop_feed c r h2
        have ht : ((c :: r).takeWhile notFeed).length + ((c :: r).dropWhile notFeed).length = r.length + 1 := by
          have := congrArg List.length (List.takeWhile_append_dropWhile (p := notFeed) (l := c :: r))
          rw [List.length_append, List.length_cons] at this
          exact this
        refine lexF_offs S f _ _ q (by omega) ?_ (by omega) (by omega) he
        rw [← List.drop_drop, ← hl]
        have hd2 := List.drop_left (l₁ := (c :: r).takeWhile notFeed) (l₂ := (c :: r).dropWhile notFeed)
        rw [List.takeWhile_append_dropWhile] at hd2
        exact hd2.symm
      · rw [if_neg h2] at he ⊢
        by_cases h3 : (tokL (c :: r)).err = 0
        · rw [if_pos h3] at he ⊢
          have hl1 := tok_len h3
          have hd : ((c :: r).drop (tokL (c :: r)).len).length ≤ f := by simp only [List.length_drop, List.length_cons]; omega
          have hw : Word ⟨(tokL (c :: r)).kind, (tokL (c :: r)).text, (tokL (c :: r)).n, p⟩ ((c :: r).take (tokL (c :: r)).len) := ⟨c, r, h3, rfl, rfl, rfl, rfl⟩
          unfold LR.cons at he ⊢
          by_cases h4 : (lexF f ((c :: r).drop (tokL (c :: r)).len) (p + (tokL (c :: r)).len)).err = 0
          · rw [if_pos h4] at he ⊢
            have hwl : ((c :: r).take (tokL (c :: r)).len).length = (tokL (c :: r)).len := by rw [List.length_take, List.length_cons]; omega
            simp only [okFrom]
            rw [hw.write_eq, hwl]
            refine ⟨hq, hl1.1, by omega, by rw [← hl], hw.isName_iff, ?_⟩
            refine lexF_offs S f _ _ _ hd ?_ (Nat.le_refl _) (by omega) h4
            rw [← List.drop_drop, ← hl]
          · rw [if_neg h4] at he; exact absurd he h4
        · rw [if_neg h3] at he; exact absurd he h3
theorem lex_offs {S : List UInt8} (h : (lex S 0).err = 0) : okFrom S 0 (lex S 0).toks := lexF_offs S _ S 0 0 (Nat.le_refl _) (by simp) (Nat.le_refl _) (Nat.zero_le _) h

/-! ### Two sources -/
theorem takeWhile_feed {p : UInt8 → Bool} (hp : p 10 = false) (l b : List UInt8) : (l ++ 10 :: b).takeWhile p = l.takeWhile p := by
  induction l with
  | nil => simp [hp]
  | cons a t ih =>
    rw [List.cons_append, List.takeWhile_cons, List.takeWhile_cons, ih]
theorem tokL_feed (c : UInt8) (r b : List UInt8) : tokL (c :: (r ++ 10 :: b)) = tokL (c :: r) := by
  have e1 : (c :: (r ++ 10 :: b)).takeWhile inner = (c :: r).takeWhile inner := takeWhile_feed (by decide) (c :: r) _
  have e2 : numRun (r ++ 10 :: b) = numRun r := takeWhile_feed (by decide) _ _
  have hk : (numRun r).length ≤ r.length := (List.takeWhile_prefix digit).length_le
  have e5 : ((r ++ 10 :: b).drop (numRun r).length).head?.any inner = (r.drop (numRun r).length).head?.any inner := by
    rw [List.drop_append_of_le_length hk]
    cases h : r.drop (numRun r).length with
    | nil => simp [inner, letter, digit]
    | cons _ _ => rfl
  have e6 : numBad c (r ++ 10 :: b) = numBad c r := by
    unfold numBad numDigs
    rw [e2, e5]
  have e7 : numDigs c (r ++ 10 :: b) = numDigs c r := by unfold numDigs; rw [e2]
  have e8 : numVal c (r ++ 10 :: b) = numVal c r := by unfold numVal; rw [e2]
  have e9 : numLen (r ++ 10 :: b) = numLen r := by unfold numLen; rw [e2]
  simp only [tokL, numL, e1, e6, e7, e8, e9]

def LR.shift (k : Nat) (r : LR) : LR := ⟨r.toks.map fun t => ⟨t.kind, t.text, t.n, t.pos + k⟩, if r.err = 0 then 0 else r.pos + k, r.err⟩
theorem LR.shift_cons (k : Nat) (t : Tok) (r : LR) : LR.shift k (LR.cons t r) = LR.cons ⟨t.kind, t.text, t.n, t.pos + k⟩ (LR.shift k r) := by
  unfold LR.shift LR.cons
  by_cases h : r.err = 0
  · simp [h]
  · simp [h]
theorem lexF_shift (k : Nat) : ∀ (f : Nat) (l : List UInt8) (p : Nat), lexF f l (p + k) = LR.shift k (lexF f l p)
  | 0, _, _ => rfl
  | f + 1, [], _ => rfl
  | f + 1, c :: r, p => by
    simp only [lexF]
    split
    · rw [show p + k + 1 = p + 1 + k by omega]; exact lexF_shift k f _ _
    · split
      · rw [show p + k + ((c :: r).takeWhile notFeed).length = p + ((c :: r).takeWhile notFeed).length + k by omega]
        exact lexF_shift k f _ _
      · split
        · rw [show p + k + (tokL (c :: r)).len = p + (tokL (c :: r)).len + k by omega, lexF_shift k f _ _, LR.shift_cons]
        · rename_i h
          simp [LR.shift, h]
theorem lex_shift (k : Nat) (l : List UInt8) (p : Nat) : lex l (p + k) = LR.shift k (lex l p) := lexF_shift k _ l p

theorem dropWhile_feed (c : UInt8) (r b : List UInt8) :
    ((c :: r).all notFeed = true ∧ (c :: r ++ 10 :: b).dropWhile notFeed = 10 :: b ∧ (c :: r).dropWhile notFeed = [] ∧ (c :: r).takeWhile notFeed = c :: r) ∨
    ((c :: r ++ 10 :: b).dropWhile notFeed = (c :: r).dropWhile notFeed ++ 10 :: b) := by
  generalize c :: r = l
  induction l with
  | nil => exact .inl ⟨rfl, by simp [notFeed], rfl, rfl⟩
  | cons a t ih =>
    rw [List.cons_append, List.dropWhile_cons, List.dropWhile_cons, List.takeWhile_cons]
    by_cases h : notFeed a = true
    · rw [if_pos h, if_pos h, if_pos h]
      rcases ih with ⟨h1, h2, h3, h4⟩ | h1
      · exact .inl ⟨by simp [h, h1], h2, h3, by rw [h4]⟩
      · exact .inr h1
    · rw [if_neg h, if_neg h]
      exact .inr rfl

theorem lex_two (b : List UInt8) : ∀ (n : Nat) (a : List UInt8) (p : Nat), a.length ≤ n →
    lex (a ++ 10 :: b) p = if (lex a p).err = 0 then LR.fin (lex a p).toks (lex b (p + a.length + 1)) else lex a p
  | _, [], p, _ => by
    rw [List.nil_append, lex_blank _ _ (by decide), lex_nil]
    simp only [if_true, List.length_nil, Nat.add_zero]
    rw [LR.fin_nil (lex_ok _ _)]
  | 0, c :: r, p, h => by simp at h
  | n + 1, c :: r, p, h => by
    simp only [List.length_cons] at h
    by_cases h1 : blank c = true
    · rw [List.cons_append, lex_blank _ _ h1, lex_blank _ _ h1, lex_two b n r (p + 1) (by omega), List.length_cons]
      rw [show p + 1 + r.length + 1 = p + (r.length + 1) + 1 by omega]
    · have h1f : blank c = false := by simpa using h1
      by_cases h2 : c = 35
      · have hd := drop_feed c r h2
        rw [List.cons_append, lex_comment _ _ h2, lex_comment _ _ h2, ← List.cons_append]
        have e1 : (c :: r ++ 10 :: b).takeWhile notFeed = (c :: r).takeWhile notFeed := takeWhile_feed (by decide) _ _
        rw [e1]
        rcases dropWhile_feed c r b with ⟨_, e2, e3, e4⟩ | e2
        · rw [e2, e3, e4, lex_blank _ _ (by decide), lex_nil]
          simp only [if_true]
          rw [LR.fin_nil (lex_ok _ _)]
        · rw [e2, lex_two b n _ _ (by omega)]
          have ht : ((c :: r).takeWhile notFeed).length + ((c :: r).dropWhile notFeed).length = r.length + 1 := by
            have := congrArg List.length (List.takeWhile_append_dropWhile (p := notFeed) (l := c :: r))
            rw [List.length_append, List.length_cons] at this
            exact this
          rw [show p + ((c :: r).takeWhile notFeed).length + ((c :: r).dropWhile notFeed).length + 1 = p + (c :: r).length + 1 by rw [List.length_cons]; omega]
      · by_cases h3 : (tokL (c :: r)).err = 0
        · have hl := tok_len h3
          have e := tokL_feed c r b
          have hdl : ((c :: r).drop (tokL (c :: r)).len).length = r.length + 1 - (tokL (c :: r)).len := by simp
          rw [lex_tok r p h1f h2 h3]
          rw [List.cons_append]
          rw [lex_tok _ p h1f h2 (by rw [e]; exact h3), e, ← List.cons_append, List.drop_append_of_le_length (by simpa using hl.2)]
          rw [lex_two b n _ _ (by omega)]
          rw [show p + (tokL (c :: r)).len + ((c :: r).drop (tokL (c :: r)).len).length + 1 = p + (c :: r).length + 1 by rw [hdl]; simp only [List.length_cons] at hl ⊢; omega]
          generalize lex ((c :: r).drop (tokL (c :: r)).len) (p + (tokL (c :: r)).len) = x
          unfold LR.cons LR.fin
          by_cases hx : x.err = 0
          · simp [hx]
            by_cases hy : (lex b (p + (r.length + 1) + 1)).err = 0
            · simp [hy]
            · simp [hy]
          · simp [hx]
        · have e := tokL_feed c r b
          rw [lex_bad r p h1f h2 h3]
          rw [List.cons_append]
          rw [lex_bad _ p h1f h2 (by rw [e]; exact h3), e]
          rw [if_neg h3]
theorem lex_parts (a b : List UInt8) : lex (a ++ 10 :: b) 0 = if (lex a 0).err = 0 then LR.fin (lex a 0).toks (LR.shift (a.length + 1) (lex b 0)) else lex a 0 := by
  rw [lex_two b a.length a 0 (Nat.le_refl _), show 0 + a.length + 1 = 0 + (a.length + 1) by omega, lex_shift]

/-- ' # the end' -/
theorem lex_end (p : Nat) : lex [32, 35, 32, 116, 104, 101, 32, 101, 110, 100] p = ⟨[], 0, 0⟩ := by
  rw [lex_blank _ p (by decide), lex_comment _ _ rfl]
  have e1 : ([35, 32, 116, 104, 101, 32, 101, 110, 100] : List UInt8).dropWhile notFeed = [] := by decide
  rw [e1, lex_nil]

/-! ### Limits -/
theorem lex_name {c : UInt8} (hc : letter c = true) (k : Nat) (h0 : 1 ≤ k) (p : Nat) :
    lex (List.replicate k c) p = if k ≤ 16 then ⟨[⟨1, List.replicate k c, 0, p⟩], 0, 0⟩ else ⟨[], p, 9⟩ := by
  obtain ⟨m, rfl⟩ : ∃ m, k = m + 1 := ⟨k - 1, by omega⟩
  have hall : (c :: List.replicate m c).takeWhile inner = c :: List.replicate m c := by
    have := takeWhile_stop (p := inner) (fun _ h => h) (w := c :: List.replicate m c) (rest := []) (by
      rw [List.all_eq_true]
      intro x hx
      rw [← List.replicate_succ] at hx
      rw [List.eq_of_mem_replicate hx]
      exact inner_of_letter hc) rfl
    rwa [List.append_nil] at this
  rw [List.replicate_succ]
  have hlen : (c :: List.replicate m c).length = m + 1 := by simp
  by_cases hk : m + 1 ≤ 16
  · rw [if_pos hk]
    have e := tokL_name (c := c) (r := List.replicate m c) hc (by rw [hall, hlen]; exact hk)
    rw [hall] at e
    have hd := tok_head (c := c) (r := List.replicate m c) (by rw [e])
    rw [lex_tok _ p hd.1 hd.2 (by rw [e]), e]
    simp only [List.drop_length, lex_nil, LR.cons]
    rfl
  · rw [if_neg hk]
    have e : tokL (c :: List.replicate m c) = ⟨0, [], 0, 0, 9⟩ := by
      simp only [tokL]
      rw [if_pos hc, hall, hlen, if_pos (by omega)]
    have hb : blank c = false ∧ c ≠ 35 := by
      refine ⟨?_, ?_⟩
      · cases hb : blank c
        · rfl
        · rcases blank_cases hb with rfl | rfl | rfl <;> exact absurd hc (by decide)
      · rintro rfl; exact absurd hc (by decide)
    rw [lex_bad _ p hb.1 hb.2 (by rw [e]; simp), e]

theorem rep7 (k : Nat) : numRun (List.replicate k (55 : UInt8)) = List.replicate k 55 := by
  unfold numRun
  have := takeWhile_stop (p := digit) (fun _ h => inner_of_digit h) (w := List.replicate k (55 : UInt8)) (rest := []) (by rw [List.all_eq_true]; intro x hx; rw [List.eq_of_mem_replicate hx]; decide) rfl
  rwa [List.append_nil] at this
theorem num_minus7 (k : Nat) (h0 : 1 ≤ k) : numBad 45 (List.replicate k 55) = false := by
  obtain ⟨m, rfl⟩ : ∃ m, k = m + 1 := ⟨k - 1, by omega⟩
  unfold numBad numDigs
  rw [rep7, if_pos rfl, List.drop_length]
  simp [List.replicate_succ]
/-- 'x -' and sevens -/
theorem lex_sevens (k : Nat) (h0 : 1 ≤ k) :
    if k ≤ 9 then (lex (120 :: 32 :: 45 :: List.replicate k 55) 0).err = 0 ∧ ∃ v : Int, v < 0 ∧ (lex (120 :: 32 :: 45 :: List.replicate k 55) 0).toks = [⟨1, [120], 0, 0⟩, ⟨2, [], v, 2⟩]
    else lex (120 :: 32 :: 45 :: List.replicate k 55) 0 = ⟨[], 2, 9⟩ := by
  have hx : tokL (120 :: 32 :: 45 :: List.replicate k 55) = ⟨1, [120], 0, 1, 0⟩ := by
    have ht : (120 :: 32 :: 45 :: List.replicate k (55 : UInt8)).takeWhile inner = [120] := by simp [inner, letter, digit]
    rw [tokL_name (by decide) (by rw [ht]; decide), ht]; rfl
  have hb := num_minus7 k h0
  have hd : numDigs 45 (List.replicate k 55) = List.replicate k 55 := by unfold numDigs; rw [if_pos rfl, rep7]
  have hl : numLen (List.replicate k 55) = k + 1 := by unfold numLen; rw [rep7, List.length_replicate]
  rw [lex_tok _ 0 (by decide) (by decide) (by rw [hx]), hx]
  simp only [List.drop_succ_cons, List.drop_zero, Nat.zero_add]
  rw [lex_blank _ _ (by decide)]
  by_cases hk : k ≤ 9
  · rw [if_pos hk]
    have e := tokL_num (c := 45) (r := List.replicate k 55) (by decide) (by decide) hb (by rw [hd, List.length_replicate]; exact hk)
    have hneg := (itoa_num (c := 45) (by decide) hb).2 rfl
    rw [lex_tok _ _ (by decide) (by decide) (by rw [e]), e, hl]
    simp only
    have e2 : (45 :: List.replicate k (55 : UInt8)).drop (k + 1) = [] := by apply List.drop_eq_nil_of_le; simp
    rw [e2, lex_nil]
    exact ⟨rfl, _, hneg, rfl⟩
  · rw [if_neg hk]
    have e : tokL (45 :: List.replicate k 55) = ⟨0, [], 0, 0, 9⟩ := by
      simp only [tokL, numL]
      rw [if_neg (by decide), if_pos (by decide), if_neg (by simp [hb]), hd, List.length_replicate, if_pos (by omega)]
    rw [lex_bad _ _ (by decide) (by decide) (by rw [e]; simp), e]
    rfl
end Go.Proofs.YtnmmhcchpcbeeaaGreat.Lex
