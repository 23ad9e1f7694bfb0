/- The plain law of readers, the reference's: it reads what the program's reads. Conditions: none. -/
import Derived.Test.YtonpbomjjamphaaGreatDoorNcQ1
import Derived.Test.YtonpbomjjamphaaGreatDoorLexPlain
namespace Go.Proofs.YtonpbomjjamphaaGreatDoor.NcW
open Go Go.RowKit Go.Proofs.YtonpbomjjamphaaGreatDoor.Mem

/-- A sign and digits at the beginning of a text. -/
def span : List UInt8 → List UInt8
  | [] => []
  | c :: r => if c = 45 ∨ Lex.digit c = true then c :: r.takeWhile Lex.digit else []
def bad : Nc.Mv × Int := (⟨0, 0, 0⟩, 3)
def yR (k : Int) (a t : List UInt8) : Nc.Mv × Int :=
  if Lib.hasPrefix t [32, 89] = false then bad
  else if canon (span (t.drop 2)) = false then bad
  else if (t.drop 2).drop (span (t.drop 2)).length ≠ [] then bad
  else both k a (span (t.drop 2))
def xR (k : Int) (t : List UInt8) : Nc.Mv × Int :=
  if Lib.hasPrefix t [32, 88] = false then bad
  else if canon (span (t.drop 2)) = false then bad
  else yR k (span (t.drop 2)) ((t.drop 2).drop (span (t.drop 2)).length)
def oneR (k : Int) (t : List UInt8) : Nc.Mv × Int := if Nc.moving k = true then xR k t else if t = [] then (⟨k, 0, 0⟩, 0) else bad
def kindR (u : List UInt8) : Nc.Mv × Int :=
  if Lib.hasPrefix u (Nc.code 1) = true then oneR 1 (u.drop 3)
  else if Lib.hasPrefix u (Nc.code 2) = true then oneR 2 (u.drop 3)
  else if Lib.hasPrefix u (Nc.code 3) = true then oneR 3 (u.drop 3)
  else if Lib.hasPrefix u (Nc.code 4) = true then oneR 4 (u.drop 3)
  else if Lib.hasPrefix u (Nc.code 5) = true then oneR 5 (u.drop 3)
  else if Lib.hasPrefix u (Nc.code 6) = true then oneR 6 (u.drop 3)
  else bad
theorem kindR_hit {u : List UInt8} {k : Nat} (hk : 1 ≤ k ∧ k ≤ 6) (hno : ∀ j : Nat, 1 ≤ j → j < k → Lib.hasPrefix u (Nc.code j) = false) (h : Lib.hasPrefix u (Nc.code k) = true) : kindR u = oneR k (u.drop 3) := by
  have f (j : Nat) (h1 : 1 ≤ j) (h2 : j < k) : ¬ Lib.hasPrefix u (Nc.code j) = true := by rw [hno j h1 h2]; simp
  have f1 (h : 1 < k) : ¬ Lib.hasPrefix u (Nc.code 1) = true := f 1 (by decide) h
  have f2 (h : 2 < k) : ¬ Lib.hasPrefix u (Nc.code 2) = true := f 2 (by decide) h
  have f3 (h : 3 < k) : ¬ Lib.hasPrefix u (Nc.code 3) = true := f 3 (by decide) h
  have f4 (h : 4 < k) : ¬ Lib.hasPrefix u (Nc.code 4) = true := f 4 (by decide) h
  have f5 (h : 5 < k) : ¬ Lib.hasPrefix u (Nc.code 5) = true := f 5 (by decide) h
  unfold kindR
  obtain rfl | rfl | rfl | rfl | rfl | rfl : k = 1 ∨ k = 2 ∨ k = 3 ∨ k = 4 ∨ k = 5 ∨ k = 6 := by omega
  · have h' : Lib.hasPrefix u (Nc.code 1) = true := h
    rw [if_pos h']; rfl
  · have h' : Lib.hasPrefix u (Nc.code 2) = true := h
    rw [if_neg (f1 (by decide)), if_pos h']; rfl
  · have h' : Lib.hasPrefix u (Nc.code 3) = true := h
    rw [if_neg (f1 (by decide)), if_neg (f2 (by decide)), if_pos h']; rfl
  · have h' : Lib.hasPrefix u (Nc.code 4) = true := h
    rw [if_neg (f1 (by decide)), if_neg (f2 (by decide)), if_neg (f3 (by decide)), if_pos h']; rfl
  · have h' : Lib.hasPrefix u (Nc.code 5) = true := h
    rw [if_neg (f1 (by decide)), if_neg (f2 (by decide)), if_neg (f3 (by decide)), if_neg (f4 (by decide)), if_pos h']; rfl
  · have h' : Lib.hasPrefix u (Nc.code 6) = true := h
    rw [if_neg (f1 (by decide)), if_neg (f2 (by decide)), if_neg (f3 (by decide)), if_neg (f4 (by decide)), if_neg (f5 (by decide)), if_pos h']; rfl
theorem kindR_none {u : List UInt8} (hno : ∀ j : Nat, 1 ≤ j → j < 7 → Lib.hasPrefix u (Nc.code j) = false) : kindR u = bad := by
  have f (j : Nat) (h1 : 1 ≤ j) (h2 : j < 7) : ¬ Lib.hasPrefix u (Nc.code j) = true := by rw [hno j h1 h2]; simp
  have f1 : ¬ Lib.hasPrefix u (Nc.code 1) = true := f 1 (by decide) (by decide)
  have f2 : ¬ Lib.hasPrefix u (Nc.code 2) = true := f 2 (by decide) (by decide)
  have f3 : ¬ Lib.hasPrefix u (Nc.code 3) = true := f 3 (by decide) (by decide)
  have f4 : ¬ Lib.hasPrefix u (Nc.code 4) = true := f 4 (by decide) (by decide)
  have f5 : ¬ Lib.hasPrefix u (Nc.code 5) = true := f 5 (by decide) (by decide)
  have f6 : ¬ Lib.hasPrefix u (Nc.code 6) = true := f 6 (by decide) (by decide)
  unfold kindR
  rw [if_neg f1, if_neg f2, if_neg f3, if_neg f4, if_neg f5, if_neg f6]
theorem pre_is {u p : List UInt8} (h : Lib.hasPrefix u p = true) : u = p ++ u.drop p.length := by
  unfold Lib.hasPrefix at h
  rw [List.isPrefixOf_iff_prefix] at h
  obtain ⟨t, rfl⟩ := h
  rw [List.drop_left]
theorem tw_all {l r : List UInt8} (h : ∀ b ∈ l, Lex.digit b = true) (hr : r.head?.all (fun c => !Lex.digit c) = true) : (l ++ r).takeWhile Lex.digit = l := by
  rw [List.takeWhile_append_of_pos h]
  cases r with
  | nil => simp
  | cons c t =>
    simp only [List.head?_cons, Option.all_some, Bool.not_eq_true'] at hr
    rw [List.takeWhile_cons, hr]
    simp
theorem dig_digit (u : Nat) : ∀ b ∈ Lib.decDigits u, Lex.digit b = true := by
  intro b hb
  have := dig_byte u b hb
  simp [Lex.digit, this]
theorem span_canon {d r : List UInt8} (h : canon d = true) (hr : r.head?.all (fun c => !Lex.digit c) = true) : span (d ++ r) = d := by
  rw [(canon_form h).1]
  unfold Lib.itoa
  split
  · simp only [List.cons_append, span]
    rw [if_pos (by simp), tw_all (dig_digit _) hr]
  · have hne := dig_ne (cval d).toNat
    have hd := dig_digit (cval d).toNat
    cases hq : Lib.decDigits (cval d).toNat with
    | nil => exact absurd hq hne
    | cons c t =>
      rw [hq] at hd
      simp only [List.cons_append, span]
      rw [if_pos (.inr (hd c List.mem_cons_self)), tw_all (fun b hb => hd b (List.mem_cons_of_mem _ hb)) hr]
theorem span_pre (t : List UInt8) : t = span t ++ t.drop (span t).length := by
  cases t with
  | nil => rfl
  | cons c r =>
    have e : span (c :: r) = if c = 45 ∨ Lex.digit c = true then c :: r.takeWhile Lex.digit else [] := rfl
    rw [e]
    by_cases h : c = 45 ∨ Lex.digit c = true
    · rw [if_pos h]
      have h1 : r.takeWhile Lex.digit ++ r.dropWhile Lex.digit = r := List.takeWhile_append_dropWhile
      have h2 : r.drop (r.takeWhile Lex.digit).length = r.dropWhile Lex.digit := by
        have := congrArg (List.drop (r.takeWhile Lex.digit).length) h1
        rw [List.drop_left] at this
        exact this.symm
      show c :: r = c :: (r.takeWhile Lex.digit ++ r.drop (r.takeWhile Lex.digit).length)
      rw [h2, h1]
    · rw [if_neg h]
      rfl
theorem oneR_cases {k : Int} (hk : 1 ≤ k ∧ k ≤ 6) (t : List UInt8) : oneR k t = bad ∨ (Alone (Nc.code k ++ t) k ∧ oneR k t = (⟨k, 0, 0⟩, 0)) ∨ ∃ a b, Coords (Nc.code k ++ t) k a b ∧ oneR k t = both k a b := by
  unfold oneR
  cases hm : Nc.moving k
  · rw [if_neg (by simp)]
    by_cases h : t = []
    · subst h
      rw [if_pos rfl]
      exact .inr (.inl ⟨⟨hk, hm, by simp⟩, rfl⟩)
    · rw [if_neg h]; exact .inl rfl
  · rw [if_pos rfl]
    unfold xR
    by_cases h1 : Lib.hasPrefix t [32, 88] = false
    · rw [if_pos h1]; exact .inl rfl
    rw [if_neg h1]
    have e1 := pre_is (u := t) (p := [32, 88]) (by simpa using h1)
    rw [show ([32, 88] : List UInt8).length = 2 from rfl] at e1
    by_cases h2 : canon (span (t.drop 2)) = false
    · rw [if_pos h2]; exact .inl rfl
    rw [if_neg h2]
    have e2 := span_pre (t.drop 2)
    unfold yR
    generalize hr : (t.drop 2).drop (span (t.drop 2)).length = r at *
    generalize span (t.drop 2) = a at *
    by_cases h3 : Lib.hasPrefix r [32, 89] = false
    · rw [if_pos h3]; exact .inl rfl
    rw [if_neg h3]
    have e3 := pre_is (u := r) (p := [32, 89]) (by simpa using h3)
    rw [show ([32, 89] : List UInt8).length = 2 from rfl] at e3
    by_cases h4 : canon (span (r.drop 2)) = false
    · rw [if_pos h4]; exact .inl rfl
    rw [if_neg h4]
    have e4 := span_pre (r.drop 2)
    by_cases h5 : (r.drop 2).drop (span (r.drop 2)).length ≠ []
    · rw [if_pos h5]; exact .inl rfl
    rw [if_neg h5]
    have h5' : (r.drop 2).drop (span (r.drop 2)).length = [] := by
      rcases Classical.em ((r.drop 2).drop (span (r.drop 2)).length = []) with e | e
      · exact e
      · exact absurd e h5
    rw [h5', List.append_nil] at e4
    refine .inr (.inr ⟨a, span (r.drop 2), ⟨hm, ?_, by simpa using h2, by simpa using h4⟩, rfl⟩)
    rw [← e4]
    conv => lhs; rw [e1, e2, e3]
    simp
theorem kindR_cases (u : List UInt8) : kindR u = bad ∨ (∃ k, Alone u k ∧ kindR u = (⟨k, 0, 0⟩, 0)) ∨ ∃ k a b, Coords u k a b ∧ kindR u = both k a b := by
  have one (k : Int) (hk : 1 ≤ k ∧ k ≤ 6) (h : Lib.hasPrefix u (Nc.code k) = true) (e : kindR u = oneR k (u.drop 3)) : kindR u = bad ∨ (∃ k, Alone u k ∧ kindR u = (⟨k, 0, 0⟩, 0)) ∨ ∃ k a b, Coords u k a b ∧ kindR u = both k a b := by
    have hu := pre_is h
    rw [Nc.code_len] at hu
    rw [e]
    rcases oneR_cases hk (u.drop 3) with h1 | ⟨h1, h2⟩ | ⟨a, b, h1, h2⟩
    · exact .inl h1
    · rw [← hu] at h1; exact .inr (.inl ⟨k, h1, h2⟩)
    · rw [← hu] at h1; exact .inr (.inr ⟨k, a, b, h1, h2⟩)
  by_cases h1 : Lib.hasPrefix u (Nc.code 1) = true
  · exact one 1 (by decide) h1 (by unfold kindR; rw [if_pos h1])
  by_cases h2 : Lib.hasPrefix u (Nc.code 2) = true
  · exact one 2 (by decide) h2 (by unfold kindR; rw [if_neg h1, if_pos h2])
  by_cases h3 : Lib.hasPrefix u (Nc.code 3) = true
  · exact one 3 (by decide) h3 (by unfold kindR; rw [if_neg h1, if_neg h2, if_pos h3])
  by_cases h4 : Lib.hasPrefix u (Nc.code 4) = true
  · exact one 4 (by decide) h4 (by unfold kindR; rw [if_neg h1, if_neg h2, if_neg h3, if_pos h4])
  by_cases h5 : Lib.hasPrefix u (Nc.code 5) = true
  · exact one 5 (by decide) h5 (by unfold kindR; rw [if_neg h1, if_neg h2, if_neg h3, if_neg h4, if_pos h5])
  by_cases h6 : Lib.hasPrefix u (Nc.code 6) = true
  · exact one 6 (by decide) h6 (by unfold kindR; rw [if_neg h1, if_neg h2, if_neg h3, if_neg h4, if_neg h5, if_pos h6])
  · exact .inl (by unfold kindR; rw [if_neg h1, if_neg h2, if_neg h3, if_neg h4, if_neg h5, if_neg h6])
theorem kindR_alone {u : List UInt8} {k : Int} (h : Alone u k) : kindR u = (⟨k, 0, 0⟩, 0) := by
  obtain ⟨hk, hm, rfl⟩ := h
  obtain rfl | rfl | rfl | rfl | rfl | rfl : k = 1 ∨ k = 2 ∨ k = 3 ∨ k = 4 ∨ k = 5 ∨ k = 6 := by omega
  all_goals first | (exfalso; revert hm; decide) | decide
theorem kindR_code {k : Int} (hm : Nc.moving k = true) (t : List UInt8) : kindR (Nc.code k ++ t) = xR k t := by
  have hk := mov_kind hm
  obtain rfl | rfl | rfl | rfl | rfl | rfl : k = 1 ∨ k = 2 ∨ k = 3 ∨ k = 4 ∨ k = 5 ∨ k = 6 := by omega
  all_goals first | (exfalso; revert hm; decide) | (simp [kindR, Nc.code, Lib.hasPrefix, List.isPrefixOf, oneR, Nc.moving])
theorem kindR_both {u : List UInt8} {k : Int} {a b : List UInt8} (h : Coords u k a b) : kindR u = both k a b := by
  obtain ⟨hm, rfl, ha, hb⟩ := h
  rw [kindR_code hm]
  have e1 : Lib.hasPrefix ([32, 88] ++ a ++ [32, 89] ++ b) [32, 88] = true := by simp [Lib.hasPrefix, List.isPrefixOf]
  have e2 : ([32, 88] ++ a ++ [32, 89] ++ b).drop 2 = a ++ 32 :: 89 :: b := by simp
  have e3 : span (a ++ 32 :: 89 :: b) = a := span_canon ha (by simp; decide)
  have e4 : (a ++ 32 :: 89 :: b).drop a.length = 32 :: 89 :: b := by rw [List.drop_left]
  have e5 : span b = b := by
    have := span_canon (r := []) hb (by simp)
    rwa [List.append_nil] at this
  unfold xR
  rw [e2, e3, e4, if_neg (by rw [e1]; simp), if_neg (by rw [ha]; simp)]
  unfold yR
  have e6 : Lib.hasPrefix (32 :: 89 :: b) [32, 89] = true := by simp [Lib.hasPrefix, List.isPrefixOf]
  have e7 : (32 :: 89 :: b).drop 2 = b := rfl
  rw [e7, e5, if_neg (by rw [e6]; simp), if_neg (by rw [hb]; simp), if_neg (by simp)]
/-- Both readers read alike. -/
theorem reader_same (u : List UInt8) : kindR u = rdW (words u) := by
  rcases rd_cases u with h | ⟨k, h⟩ | ⟨k, a, b, h⟩
  · rw [h]
    rcases kindR_cases u with g | ⟨k, g, e⟩ | ⟨k, a, b, g, e⟩
    · rw [g]; rfl
    · rw [e, ← rd_alone g, h]
    · rw [e, ← rd_both g, h]
  · rw [rd_alone h, kindR_alone h]
  · rw [rd_both h, kindR_both h]

/-- The reference's reader of a whole line. -/
def lnR (x : List UInt8) (i : Nat) : Nc.Mv × Int := if Lib.hasPrefix x (Nc.number i) = true then kindR (x.drop (Nc.number i).length) else bad
theorem run_round {s : List UInt8} {p i : Nat} {acc : List Nc.Mv} (hi : p ≤ i) (hlt : i < s.length) (hno : (10 : UInt8) ∉ (s.drop p).take (i - p)) (h10 : s[i] = 10) :
    parseL (linesOf (s.drop p)) acc =
      if (lnR ((s.drop p).take (i - p)) acc.length).2 ≠ 0 then ([], acc.length, (lnR ((s.drop p).take (i - p)) acc.length).2)
      else if acc.length = 2000 then ([], acc.length, 9)
      else parseL (linesOf (s.drop (i + 1))) (acc ++ [(lnR ((s.drop p).take (i - p)) acc.length).1]) := by
  have e1 : s.drop p = (s.drop p).take (i - p) ++ 10 :: s.drop (i + 1) := by
    conv => lhs; rw [← List.take_append_drop (i - p) (s.drop p)]
    rw [List.drop_drop, show p + (i - p) = i by omega, List.drop_eq_getElem_cons hlt, h10]
  generalize (s.drop p).take (i - p) = mid at *
  rw [e1, linesOf_cons (by simp), cutLF_mid _ _ hno]
  simp only
  unfold lnR
  cases hp : Lib.hasPrefix mid (Nc.number acc.length)
  · rw [parseL, if_pos (Or.inl hp)]
    simp [bad]
  · have ht : Lib.trimPrefix mid (Nc.number acc.length) = mid.drop (Nc.number acc.length).length := by unfold Lib.trimPrefix; rw [if_pos hp]
    rw [parseL_true hp, ht, reader_same]
    simp only [if_true]
theorem run_last {s : List UInt8} {p : Nat} {acc : List Nc.Mv} (hlt : p < s.length) (hno : (10 : UInt8) ∉ s.drop p) : parseL (linesOf (s.drop p)) acc = ([], acc.length, 3) := by
  have hn : s.drop p ≠ [] := by
    intro h
    have := congrArg List.length h
    simp at this
    omega
  rw [linesOf_cons hn, cutLF_none _ hno, parseL, if_pos (Or.inr rfl)]
theorem run_over {s : List UInt8} {acc : List Nc.Mv} : parseL (linesOf (s.drop s.length)) acc = (acc, 0, 0) := by
  rw [List.drop_length, linesOf_nil, parseL]
end Go.Proofs.YtonpbomjjamphaaGreatDoor.NcW
