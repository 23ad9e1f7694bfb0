/- The plain law of readers: what the program's reader of a line takes, and that what it takes is printed so. Conditions: none. -/
import Derived.Test.YtonpbomjjamphaaGreatDoorNcP7
namespace Go.Proofs.YtonpbomjjamphaaGreatDoor.NcW
open Go Go.RowKit Go.Proofs.YtonpbomjjamphaaGreatDoor.Mem

theorem cases_32 : ∀ u : List UInt8, (32 : UInt8) ∉ u ∨ ∃ a r, (32 : UInt8) ∉ a ∧ u = a ++ 32 :: r
  | [] => .inl (by simp)
  | c :: u => by
    by_cases h : c = 32
    · exact .inr ⟨[], u, by simp, by rw [h]; rfl⟩
    · rcases cases_32 u with h1 | ⟨a, r, h1, rfl⟩
      · exact .inl (by simp [h1]; exact fun e => h e.symm)
      · exact .inr ⟨c :: a, r, by simp [h1]; exact fun e => h e.symm, rfl⟩
def glue : List ByteArray → List UInt8
  | [] => []
  | [x] => x.data.toList
  | x :: r => x.data.toList ++ 32 :: glue r
theorem glue_cons (x : ByteArray) {r : List ByteArray} (h : r ≠ []) : glue (x :: r) = x.data.toList ++ 32 :: glue r := by
  cases r with
  | nil => exact absurd rfl h
  | cons y r => rfl
theorem words_ne (u : List UInt8) : words u ≠ [] := by
  intro h
  have := words_len u
  rw [h] at this
  simp at this
theorem words_glue : ∀ (n : Nat) (u : List UInt8), u.length ≤ n → glue (words u) = u := by
  intro n
  induction n with
  | zero =>
    intro u hu
    have : u = [] := List.eq_nil_of_length_eq_zero (by omega)
    subst this
    rw [words_none (by simp)]
    rfl
  | succ n ih =>
    intro u hu
    rcases cases_32 u with h | ⟨a, r, h, rfl⟩
    · rw [words_none h]; simp [glue]
    · rw [words_cons h, glue_cons _ (words_ne r), ih r (by simp at hu; omega)]
theorem kind_is (x : ByteArray) (r : List ByteArray) (h : ¬ kindW (x :: r) < 1) : x = ⟨(Nc.code (kindW (x :: r))).toArray⟩ := by
  unfold kindW at h ⊢
  rw [List.getD_cons_zero] at h ⊢
  unfold Lib.idxOfS codesB at h ⊢
  simp only [Lib.idxFromS] at h ⊢
  by_cases h0 : (ByteArray.mk #[]) = x
  · rw [if_pos h0] at h; simp at h
  rw [if_neg h0] at h ⊢
  by_cases h1 : (ByteArray.mk #[71, 48, 48]) = x
  · rw [if_pos h1]; exact h1.symm
  rw [if_neg h1] at h ⊢
  by_cases h2 : (ByteArray.mk #[71, 48, 49]) = x
  · rw [if_pos h2]; exact h2.symm
  rw [if_neg h2] at h ⊢
  by_cases h3 : (ByteArray.mk #[77, 48, 51]) = x
  · rw [if_pos h3]; exact h3.symm
  rw [if_neg h3] at h ⊢
  by_cases h4 : (ByteArray.mk #[77, 48, 53]) = x
  · rw [if_pos h4]; exact h4.symm
  rw [if_neg h4] at h ⊢
  by_cases h5 : (ByteArray.mk #[77, 48, 55]) = x
  · rw [if_pos h5]; exact h5.symm
  rw [if_neg h5] at h ⊢
  by_cases h6 : (ByteArray.mk #[77, 51, 48]) = x
  · rw [if_pos h6]; exact h6.symm
  rw [if_neg h6] at h
  simp at h

/-- A line's text in the right form: a code alone, or a code and two coordinates. -/
def Alone (u : List UInt8) (k : Int) : Prop := (1 ≤ k ∧ k ≤ 6) ∧ Nc.moving k = false ∧ u = Nc.code k
def Coords (u : List UInt8) (k : Int) (a b : List UInt8) : Prop := Nc.moving k = true ∧ u = Nc.code k ++ ([32, 88] ++ a ++ [32, 89] ++ b) ∧ canon a = true ∧ canon b = true
def both (k : Int) (a b : List UInt8) : Nc.Mv × Int := if Nc.ok ⟨k, cval a, cval b⟩ then (⟨k, cval a, cval b⟩, 0) else (⟨0, 0, 0⟩, 2)
theorem mov_kind {k : Int} (h : Nc.moving k = true) : 1 ≤ k ∧ k ≤ 6 := by
  simp only [Nc.moving, Bool.or_eq_true, beq_iff_eq] at h
  omega
theorem canon_form {d : List UInt8} (h : canon d = true) : d = Lib.itoa (cval d) ∧ -999999999 ≤ cval d ∧ cval d ≤ 999999999 := by
  unfold canon at h
  unfold cval
  split at h
  · rename_i n hn
    simp only [hn]
    simp only [Bool.and_eq_true, decide_eq_true_eq] at h
    refine ⟨h.1.symm, ?_⟩
    have hi := atoiAll_i64 hn
    have hd (u : Nat) (hu : (Lib.decDigits u).length ≤ 9) : u < 1000000000 := by
      rw [Lib.decDigits_length] at hu
      have h1 := Lib.lt_pow_nDigits u
      have h2 : 10 ^ Lib.nDigits u ≤ 10 ^ 9 := Nat.pow_le_pow_right (by decide) hu
      have h3 : (10 : Nat) ^ 9 = 1000000000 := by decide
      omega
    have hl := h.2
    rw [← h.1] at hl
    unfold Lib.itoa at hl
    split at hl
    · have e : Lib.trimPrefix (45 :: Lib.decDigits n.natAbs) [45] = Lib.decDigits n.natAbs := by simp [Lib.trimPrefix, Lib.hasPrefix, List.isPrefixOf]
      rw [e] at hl
      have := hd _ hl
      omega
    · have e : Lib.trimPrefix (Lib.decDigits n.toNat) [45] = Lib.decDigits n.toNat := by
        unfold Lib.trimPrefix Lib.hasPrefix
        rw [if_neg]
        intro hp
        rw [List.isPrefixOf_iff_prefix] at hp
        obtain ⟨t, ht⟩ := hp
        have := dig_byte n.toNat 45 (by rw [← ht]; simp)
        simp at this
      rw [e] at hl
      have := hd _ hl
      omega
  · cases h
theorem canon_no {d : List UInt8} (h : canon d = true) (c : UInt8) (h45 : c ≠ 45) (hc : c.toNat < 48) : c ∉ d := by
  rw [(canon_form h).1]
  exact itoa_no _ c h45 hc
theorem rd_alone {u : List UInt8} {k : Int} (h : Alone u k) : rdW (words u) = (⟨k, 0, 0⟩, 0) := by
  obtain ⟨hk, hm, rfl⟩ := h
  rw [words_none (code_no k 32 (by decide))]
  unfold rdW
  rw [kind_code hk, hm, if_neg (by omega), if_pos (by simp)]
theorem words_coords' {c a b : List UInt8} (hc : (32 : UInt8) ∉ c) (ha : (32 : UInt8) ∉ a) (hb : (32 : UInt8) ∉ b) : words (c ++ [32, 88] ++ a ++ [32, 89] ++ b) = [⟨c.toArray⟩, ⟨(88 :: a).toArray⟩, ⟨(89 :: b).toArray⟩] := by
  rw [show c ++ [32, 88] ++ a ++ [32, 89] ++ b = c ++ 32 :: ((88 :: a) ++ 32 :: (89 :: b)) by simp]
  rw [words_cons hc, words_cons (by simp [ha]), words_none (by simp [hb])]
theorem rd_both {u : List UInt8} {k : Int} {a b : List UInt8} (h : Coords u k a b) : rdW (words u) = both k a b := by
  obtain ⟨hm, rfl, ha, hb⟩ := h
  have h1 := canon_no ha 32 (by decide) (by decide)
  have h2 := canon_no hb 32 (by decide) (by decide)
  rw [show Nc.code k ++ ([32, 88] ++ a ++ [32, 89] ++ b) = Nc.code k ++ [32, 88] ++ a ++ [32, 89] ++ b by simp, words_coords' (code_no k 32 (by decide)) h1 h2, rd_coords hm ha hb]
  rfl
theorem has_one {b : List UInt8} {c : UInt8} (h : Lib.hasPrefix b [c] = true) : b = c :: Lib.trimPrefix b [c] := by
  have h' := h
  unfold Lib.hasPrefix at h
  rw [List.isPrefixOf_iff_prefix] at h
  obtain ⟨t, rfl⟩ := h
  rw [(pre_app [c] t).2]
  rfl
theorem okW_list {x y : ByteArray} {z : List ByteArray} {i : Nat} {c : UInt8} (hi : (x :: y :: z).getD i ⟨#[]⟩ = y) (h : okW (x :: y :: z) i c = true) : ∃ d, y.data.toList = c :: d ∧ canon d = true := by
  unfold okW at h
  rw [hi] at h
  simp only [Bool.and_eq_true] at h
  exact ⟨_, has_one h.1, h.2⟩
theorem rd_cases (u : List UInt8) : rdW (words u) = (⟨0, 0, 0⟩, 3) ∨ (∃ k, Alone u k) ∨ ∃ k a b, Coords u k a b := by
  have hg := words_glue u.length u (Nat.le_refl _)
  generalize words u = ws at *
  by_cases h0 : kindW ws < 1
  · left; unfold rdW; rw [if_pos h0]
  obtain ⟨x, r, rfl⟩ : ∃ x r, ws = x :: r := by
    cases ws with
    | nil => exfalso; exact h0 (by decide +kernel)
    | cons x r => exact ⟨x, r, rfl⟩
  have hx := kind_is x r h0
  have hkb := kind_bound (x :: r)
  generalize hk : kindW (x :: r) = k at *
  have hk2 : 1 ≤ k ∧ k ≤ 6 := by omega
  cases hm : Nc.moving k
  · by_cases hl : (x :: r).length = 1
    · have hr : r = [] := List.eq_nil_of_length_eq_zero (by simpa using hl)
      subst hr
      right; left
      refine ⟨k, hk2, hm, ?_⟩
      rw [← hg, hx]
      simp [glue]
    · left
      unfold rdW
      rw [hk, hm, if_neg h0, if_neg (by simp at hl ⊢; exact hl), if_pos (by simp)]
  · by_cases hl : (x :: r).length = 3
    · obtain ⟨y, z, rfl⟩ : ∃ y z, r = [y, z] := by
        match r, hl with
        | [y, z], _ => exact ⟨y, z, rfl⟩
      by_cases h1 : okW [x, y, z] 1 88 = true
      · by_cases h2 : okW [x, y, z] 2 89 = true
        · right; right
          obtain ⟨a, ha1, ha2⟩ := okW_list (x := x) (y := y) (z := [z]) rfl h1
          have h2' : Lib.hasPrefix z.data.toList [89] = true ∧ canon (Lib.trimPrefix z.data.toList [89]) = true := by
            have : okW [x, y, z] 2 89 = (Lib.hasPrefix z.data.toList [89] && canon (Lib.trimPrefix z.data.toList [89])) := rfl
            rw [this] at h2
            simpa using h2
          refine ⟨k, a, Lib.trimPrefix z.data.toList [89], hm, ?_, ha2, h2'.2⟩
          rw [← hg, hx]
          have hz := has_one h2'.1
          simp only [glue]
          rw [ha1]
          conv => lhs; rw [hz]
          simp
        · left
          unfold rdW
          rw [hk, hm, if_neg h0, if_neg (by simp), if_neg (by simp), if_pos (by right; simpa using h2)]
      · left
        unfold rdW
        rw [hk, hm, if_neg h0, if_neg (by simp), if_neg (by simp), if_pos (by left; simpa using h1)]
    · left
      unfold rdW
      rw [hk, hm, if_neg h0, if_neg (by simp), if_pos (by right; exact hl)]

/-- What is read without an error is printed so. -/
theorem rd_print {u : List UInt8} (h : (rdW (words u)).2 = 0) : Nc.ok (rdW (words u)).1 = true ∧ Nc.text (rdW (words u)).1 = u := by
  rcases rd_cases u with h1 | ⟨k, h1⟩ | ⟨k, a, b, h1⟩
  · rw [h1] at h; cases h
  · rw [rd_alone h1]
    obtain ⟨hk, hm, rfl⟩ := h1
    refine ⟨?_, ?_⟩
    · unfold Nc.ok
      simp only
      rw [hm]
      simp only [Nc.moving, Bool.or_eq_false_iff, beq_eq_false_iff_ne] at hm
      simp
      omega
    · unfold Nc.text
      simp only
      rw [hm]
      simp
  · rw [rd_both h1] at h ⊢
    obtain ⟨hm, rfl, ha, hb⟩ := h1
    unfold both at h ⊢
    split at h
    · rename_i hok
      rw [if_pos hok]
      refine ⟨hok, ?_⟩
      unfold Nc.text
      simp only
      rw [hm, ← (canon_form ha).1, ← (canon_form hb).1]
      simp
    · cases h
def lineB (x : List UInt8 × Bool) : List UInt8 := x.1 ++ if x.2 then [10] else []
theorem cut_join : ∀ s : List UInt8, s ≠ [] → (cutLF s).1 ++ (if (cutLF s).2.2 then [10] else []) ++ (cutLF s).2.1 = s
  | [], h => absurd rfl h
  | c :: l, _ => by
    by_cases hl : l = []
    · subst hl
      unfold cutLF
      split
      · rename_i h; simp [h]
      · simp [cutLF]
    · have ih := cut_join l hl
      unfold cutLF
      split
      · rename_i h; simp [h]
      · simp only [List.cons_append]
        rw [ih]
theorem lines_join (s : List UInt8) : (linesOf s).flatMap lineB = s := by
  by_cases h : s = []
  · subst h; rw [linesOf_nil]; rfl
  · have hsh := cutLF_short s h
    rw [linesOf_cons h, List.flatMap_cons, lines_join (cutLF s).2.1]
    exact cut_join s h
termination_by s.length
theorem parse_print : ∀ (xs : List (List UInt8 × Bool)) (acc : List Nc.Mv), (parseL xs acc).2.2 = 0 → acc.length ≤ 2000 → (∀ m ∈ acc, Nc.ok m = true) →
    ∃ l, (parseL xs acc).1 = acc ++ l ∧ (∀ m ∈ l, Nc.ok m = true) ∧ acc.length + l.length ≤ 2000 ∧ Nc.prints l acc.length = xs.flatMap lineB
  | [], acc, _, ha, hok => ⟨[], by simp [parseL], by simp, by simpa using ha, rfl⟩
  | x :: xs, acc, h, ha, hok => by
    rw [parseL] at h ⊢
    by_cases h1 : Lib.hasPrefix x.1 (Nc.number acc.length) = false ∨ x.2 = false
    · rw [if_pos h1] at h; cases h
    rw [if_neg h1] at h ⊢
    by_cases h2 : (rdW (words (Lib.trimPrefix x.1 (Nc.number acc.length)))).2 ≠ 0
    · rw [if_pos h2] at h; exact absurd h h2
    rw [if_neg h2] at h ⊢
    by_cases h3 : acc.length = 2000
    · rw [if_pos h3] at h; cases h
    rw [if_neg h3] at h ⊢
    have h2' : (rdW (words (Lib.trimPrefix x.1 (Nc.number acc.length)))).2 = 0 := by
      rcases Classical.em ((rdW (words (Lib.trimPrefix x.1 (Nc.number acc.length)))).2 = 0) with e | e
      · exact e
      · exact absurd e h2
    obtain ⟨hm, ht⟩ := rd_print h2'
    generalize (rdW (words (Lib.trimPrefix x.1 (Nc.number acc.length)))).1 = m at *
    obtain ⟨l, e1, e2, e3, e4⟩ := parse_print xs (acc ++ [m]) h (by simp; omega) (by
      intro y hy
      rcases List.mem_append.1 hy with hy | hy
      · exact hok y hy
      · simp at hy; rw [hy]; exact hm)
    refine ⟨m :: l, by rw [e1]; simp, ?_, by simp at e3 ⊢; omega, ?_⟩
    · intro y hy
      rcases List.mem_cons.1 hy with hy | hy
      · rw [hy]; exact hm
      · exact e2 y hy
    · obtain ⟨ln, tr⟩ := x
      have hp : Lib.hasPrefix ln (Nc.number acc.length) = true := by
        cases hb : Lib.hasPrefix ln (Nc.number acc.length)
        · exact absurd (Or.inl hb) h1
        · rfl
      have htr : tr = true := by
        cases tr
        · exact absurd (Or.inr rfl) h1
        · rfl
      subst htr
      have hln : ln = Nc.number acc.length ++ Nc.text m := by
        simp only at ht
        rw [ht]
        have h' := hp
        unfold Lib.hasPrefix at h'
        rw [List.isPrefixOf_iff_prefix] at h'
        obtain ⟨t, rfl⟩ := h'
        rw [(pre_app _ t).2]
      rw [Nc.prints, List.flatMap_cons, ← e4]
      unfold lineB Nc.lineOf
      simp only [if_true]
      rw [hln]
      simp
/-- A text that is parsed is the text of the program. -/
theorem runL_text {s : List UInt8} (h : (runL s).2.2 = 0) : Nc.valid (runL s).1 = true ∧ Nc.print (runL s).1 = s := by
  unfold runL at h ⊢
  obtain ⟨l, e1, e2, e3, e4⟩ := parse_print (linesOf s) [] h (by simp) (by simp)
  rw [e1, List.nil_append]
  refine ⟨Nc.valid_mk (by simpa using e3) e2, ?_⟩
  unfold Nc.print
  rw [List.length_nil] at e4
  rw [e4, lines_join]
end Go.Proofs.YtonpbomjjamphaaGreatDoor.NcW
