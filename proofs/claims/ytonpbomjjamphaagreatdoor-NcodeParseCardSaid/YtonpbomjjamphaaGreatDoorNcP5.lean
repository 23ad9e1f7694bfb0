/- The plain law of lines: what Parse says of a text cut behind a line, and of a text with more behind it. -/
import Derived.Test.YtonpbomjjamphaaGreatDoorNcP4
namespace Go.Proofs.YtonpbomjjamphaaGreatDoor.NcW
open Go Go.RowKit Go.Proofs.YtonpbomjjamphaaGreatDoor.Mem

theorem parseL_app : ∀ (xs ys : List (List UInt8 × Bool)) (acc : List Nc.Mv), parseL (xs ++ ys) acc = if (parseL xs acc).2.2 = 0 then parseL ys (parseL xs acc).1 else parseL xs acc
  | [], ys, acc => by simp [parseL]
  | x :: xs, ys, acc => by
    rw [List.cons_append, parseL, parseL]
    split
    · simp
    · split
      · first | rfl | (rename_i h; simp [h])
      · split
        · simp
        · exact parseL_app xs ys _

theorem parseL_ok : ∀ (xs : List (List UInt8 × Bool)) (acc : List Nc.Mv), (parseL xs acc).2.2 = 0 → (parseL xs acc).1.length = acc.length + xs.length ∧ (parseL xs acc).2.1 = 0 ∧ ∀ x ∈ xs, x.2 = true
  | [], acc => by simp [parseL]
  | x :: xs, acc => by
    rw [parseL]
    split
    · simp
    · split
      · rename_i h; intro h2; exact absurd h2 h
      · split
        · simp
        · rename_i h1 h2 h3
          intro h
          obtain ⟨a, b, c⟩ := parseL_ok xs _ h
          refine ⟨by rw [a]; simp; omega, b, ?_⟩
          intro y hy
          rcases List.mem_cons.1 hy with rfl | hy
          · cases hx : y.2
            · exact absurd (Or.inr hx) h1
            · rfl
          · exact c y hy

theorem parseL_err : ∀ (xs : List (List UInt8 × Bool)) (acc : List Nc.Mv), (parseL xs acc).2.2 ≠ 0 →
    ∃ pre x post, xs = pre ++ x :: post ∧ (parseL pre acc).2.2 = 0 ∧ (parseL xs acc).1 = [] ∧ (parseL xs acc).2.1 = acc.length + pre.length ∧ ∀ post', parseL (pre ++ x :: post') acc = parseL xs acc
  | [], acc => by simp [parseL]
  | x :: xs, acc => by
    intro h
    by_cases h1 : Lib.hasPrefix x.1 (Nc.number acc.length) = false ∨ x.2 = false
    · have e : ∀ p, parseL (x :: p) acc = ([], acc.length, 3) := fun p => by rw [parseL, if_pos h1]
      exact ⟨[], x, xs, rfl, by simp [parseL], by rw [e], by rw [e]; simp, fun p => by rw [e, List.nil_append, e]⟩
    · by_cases h2 : (rdW (words (Lib.trimPrefix x.1 (Nc.number acc.length)))).2 ≠ 0
      · have e : ∀ p, parseL (x :: p) acc = ([], acc.length, (rdW (words (Lib.trimPrefix x.1 (Nc.number acc.length)))).2) := fun p => by rw [parseL, if_neg h1, if_pos h2]
        exact ⟨[], x, xs, rfl, by simp [parseL], by rw [e], by rw [e]; simp, fun p => by rw [e, List.nil_append, e]⟩
      · by_cases h3 : acc.length = 2000
        · have e : ∀ p, parseL (x :: p) acc = ([], acc.length, 9) := fun p => by rw [parseL, if_neg h1, if_neg h2, if_pos h3]
          exact ⟨[], x, xs, rfl, by simp [parseL], by rw [e], by rw [e]; simp, fun p => by rw [e, List.nil_append, e]⟩
        · have e : ∀ p, parseL (x :: p) acc = parseL p (acc ++ [(rdW (words (Lib.trimPrefix x.1 (Nc.number acc.length)))).1]) := fun p => by rw [parseL, if_neg h1, if_neg h2, if_neg h3]
          rw [e] at h
          obtain ⟨pre, y, post, a, b, c, d, f⟩ := parseL_err xs _ h
          refine ⟨x :: pre, y, post, by rw [a]; rfl, by rw [e]; exact b, by rw [e]; exact c, by rw [e, d]; simp; omega, fun p => by rw [List.cons_append, e, e]; exact f p⟩

theorem cutLF_true : ∀ (s t : List UInt8), (cutLF s).2.2 = true → cutLF (s ++ t) = ((cutLF s).1, (cutLF s).2.1 ++ t, true)
  | [], t => by simp [cutLF]
  | c :: l, t => by
    rw [List.cons_append, cutLF, cutLF]
    split
    · simp
    · intro h
      have := cutLF_true l t h
      rw [this]
theorem cutLF_mid : ∀ (a t : List UInt8), (10 : UInt8) ∉ a → cutLF (a ++ 10 :: t) = (a, t, true)
  | [], t, _ => by simp [cutLF]
  | c :: l, t, h => by
    rw [List.cons_append, cutLF, if_neg (by intro e; subst e; exact h (by simp)), cutLF_mid l t (fun e => h (by simp [e]))]
theorem cutLF_none : ∀ (a : List UInt8), (10 : UInt8) ∉ a → cutLF a = (a, [], false)
  | [], _ => by simp [cutLF]
  | c :: l, h => by
    rw [cutLF, if_neg (by intro e; subst e; exact h (by simp)), cutLF_none l (fun e => h (by simp [e]))]

theorem linesOf_app (s t : List UInt8) (h : ∀ x ∈ linesOf s, x.2 = true) : linesOf (s ++ t) = linesOf s ++ linesOf t := by
  by_cases hs : s = []
  · subst hs; rw [linesOf_nil]; rfl
  · rw [linesOf_cons hs] at h ⊢
    have h1 : (cutLF s).2.2 = true := h ((cutLF s).1, (cutLF s).2.2) List.mem_cons_self
    have hsh := cutLF_short s hs
    have ih := linesOf_app (cutLF s).2.1 t (fun x hx => h x (by simp [hx]))
    rw [linesOf_cons (by simp [hs]), cutLF_true s t h1, h1]
    simp only [List.cons_append]
    rw [ih]
termination_by s.length

/-- Behind k whole lines the text goes on at the place p. -/
structure At (s : List UInt8) (k p : Nat) : Prop where
  le : p ≤ s.length
  few : k ≤ (linesOf s).length
  all : ∀ x ∈ (linesOf s).take k, x.2 = true
  upto : linesOf (s.take p) = (linesOf s).take k
  behind : linesOf (s.drop p) = (linesOf s).drop k

theorem At.zero (s : List UInt8) : At s 0 0 := ⟨by simp, by simp, by simp, by simp [linesOf_nil], by simp⟩

theorem At.step {s : List UInt8} {k p i : Nat} (h : At s k p) (hi : p ≤ i) (hlt : i < s.length) (hno : (10 : UInt8) ∉ (s.drop p).take (i - p)) (h10 : s[i] = 10) : At s (k + 1) (i + 1) := by
  have e1 : s.drop p = (s.drop p).take (i - p) ++ 10 :: s.drop (i + 1) := by
    conv => lhs; rw [← List.take_append_drop (i - p) (s.drop p)]
    rw [List.drop_drop, show p + (i - p) = i by omega, List.drop_eq_getElem_cons hlt, h10]
  have e2 : s.take (i + 1) = s.take p ++ ((s.drop p).take (i - p) ++ [10]) := by
    rw [show i + 1 = p + (i - p + 1) by omega, List.take_add]
    congr 1
    rw [List.take_succ_eq_append_getElem (by simp; omega)]
    congr 1
    simp [show p + (i - p) = i by omega, h10]
  generalize (s.drop p).take (i - p) = mid at *
  have hb := h.behind
  have hne : mid ++ 10 :: s.drop (i + 1) ≠ [] := by simp
  rw [e1, linesOf_cons hne, cutLF_mid _ _ hno] at hb
  have hk : k < (linesOf s).length := by
    rcases Nat.lt_or_ge k (linesOf s).length with h1 | h1
    · exact h1
    · rw [List.drop_eq_nil_of_le h1] at hb; cases hb
  have hd := List.drop_eq_getElem_cons hk
  rw [hd] at hb
  injection hb with hb1 hb2
  have ht : (linesOf s).take (k + 1) = (linesOf s).take k ++ [(mid, true)] := by rw [List.take_succ_eq_append_getElem hk, ← hb1]
  refine ⟨by omega, hk, ?_, ?_, hb2⟩
  · intro x hx
    rw [ht] at hx
    rcases List.mem_append.1 hx with h1 | h1
    · exact h.all x h1
    · simp at h1; rw [h1]
  · rw [e2, linesOf_app _ _ (by rw [h.upto]; exact h.all), h.upto, ht, linesOf_cons (s := mid ++ [10]) (by simp), cutLF_mid mid [] hno]
    simp [linesOf_nil]

/-- No further line feed: at most one line is left, and it has no end. -/
theorem At.last {s : List UInt8} {k p : Nat} (h : At s k p) (hno : (10 : UInt8) ∉ s.drop p) : (linesOf s).length ≤ k + 1 ∧ (k < (linesOf s).length → ∃ x, (linesOf s)[k]? = some (x, false)) := by
  have hb := h.behind
  by_cases hn : s.drop p = []
  · rw [hn, linesOf_nil] at hb
    have hl : (linesOf s).length ≤ k := List.drop_eq_nil_iff.1 hb.symm
    exact ⟨by omega, fun hk => by omega⟩
  · rw [linesOf_cons hn, cutLF_none _ hno, linesOf_nil] at hb
    have hl : ((linesOf s).drop k).length = 1 := by rw [← hb]; rfl
    simp at hl
    have hk : k < (linesOf s).length := by omega
    rw [List.drop_eq_getElem_cons hk] at hb
    injection hb with hb1 hb2
    exact ⟨by omega, fun _ => ⟨s.drop p, by rw [List.getElem?_eq_getElem hk, ← hb1]⟩⟩

/-- What Parse answers. -/
def runL (s : List UInt8) : List Nc.Mv × Nat × Int := parseL (linesOf s) []

theorem runL_more (s tail : List UInt8) (h : (runL s).2.2 = 0) : runL (s ++ [71, 48, 48, 10] ++ tail) = ([], (runL s).1.length, 3) := by
  unfold runL at h ⊢
  obtain ⟨_, _, hall⟩ := parseL_ok _ _ h
  rw [List.append_assoc, linesOf_app _ _ hall, parseL_app, if_pos h, linesOf_cons (s := [71, 48, 48, 10] ++ tail) (by simp)]
  rw [show [71, 48, 48, 10] ++ tail = [71, 48, 48] ++ 10 :: tail from rfl, cutLF_mid _ _ (by decide), parseL, if_pos (Or.inl ?_)]
  simp [Lib.hasPrefix, Nc.number, List.isPrefixOf]

theorem runL_none {s : List UInt8} {k p : Nat} (h : (runL s).2.2 ≠ 0) (ha : At s k p) (hk : k ≤ (runL s).2.1) (hno : (10 : UInt8) ∉ s.drop p) : (runL (s.take p)).2.2 = 0 ∧ (runL (s.take p)).1.length = (runL s).2.1 := by
  unfold runL at h hk ⊢
  obtain ⟨pre, x, post, a, b, _, d, _⟩ := parseL_err _ _ h
  have hl := (ha.last hno).1
  have hlen : (linesOf s).length = pre.length + (post.length + 1) := by rw [a]; simp
  simp at d
  have hkp : k = pre.length := by omega
  rw [ha.upto, hkp, a, List.take_left]
  exact ⟨b, by rw [(parseL_ok _ _ b).1]; rw [← a, d]; simp⟩

theorem runL_some {s : List UInt8} {q p : Nat} (tail : List UInt8) (h : (runL s).2.2 ≠ 0) (h1 : At s (runL s).2.1 q) (h2 : At s ((runL s).2.1 + 1) p) :
    (runL (s.take q)).2.2 = 0 ∧ (runL (s.take q)).1.length = (runL s).2.1 ∧ (runL (s.take p ++ tail)).2.1 = (runL s).2.1 ∧ (runL (s.take p ++ tail)).2.2 = (runL s).2.2 := by
  unfold runL at h h1 h2 ⊢
  obtain ⟨pre, x, post, a, b, _, d, f⟩ := parseL_err _ _ h
  simp at d
  have e1 : (linesOf s).take pre.length = pre := by rw [a, List.take_left]
  have e2 : (linesOf s).take (pre.length + 1) = pre ++ [x] := by
    rw [a, show pre ++ x :: post = (pre ++ [x]) ++ post by simp, show pre.length + 1 = (pre ++ [x]).length by simp, List.take_left]
  rw [d] at h1 h2
  rw [d]
  have e3 : parseL (linesOf (s.take p ++ tail)) [] = parseL (linesOf s) [] := by
    rw [linesOf_app _ _ (by rw [h2.upto]; exact h2.all), h2.upto, e2, List.append_assoc, List.singleton_append, f]
  rw [e3, h1.upto, e1]
  exact ⟨b, by rw [(parseL_ok _ _ b).1]; simp, d, rfl⟩
end Go.Proofs.YtonpbomjjamphaaGreatDoor.NcW
