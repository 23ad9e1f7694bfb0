/- A node at a path, another one in its place, and the path of the next wrong node, in plain Lean. Conditions: none. -/
import Derived.Test.YtjjohllfidmkjaaDoorPfB4
namespace Go.Proofs.YtjjohllfidmkjaaDoor.Pf
open Go

/-- The state and the node at a path. -/
def nodeAt : Syst → T → List Nat → Option (Syst × T)
  | y, t, [] => some (y, t)
  | y, .mk s ks _, i :: p => match parts y s with
    | none => none
    | some (a, b) => match i, ks with
      | 0, [k0, _] => nodeAt a k0 p
      | 1, [_, k1] => nodeAt b k1 p
      | _, _ => none
/-- Another node at a path. -/
def repl (k : T) : T → List Nat → T
  | _, [] => k
  | .mk s ks lf, i :: p => match i, ks with
    | 0, [k0, k1] => .mk s [repl k k0 p, k1] lf
    | 1, [k0, k1] => .mk s [k0, repl k k1 p] lf
    | _, _ => .mk s ks lf
/-- At the first difference, the index is greater. -/
def aft : List Nat → List Nat → Bool
  | [], _ => false
  | _ :: _, [] => false
  | a :: q, b :: p => if a = b then aft q p else decide (b < a)
theorem wrong_path {s : Int} {ks : List T} {lf : List Int} {y : Syst} {i : Nat} {p : List Nat} (h : wrong (.mk s ks lf) y = some (i :: p)) :
    ∃ a b k0 k1, parts y s = some (a, b) ∧ ks = [k0, k1] ∧ (i = 0 ∧ wrong k0 a = some p ∨ i = 1 ∧ wrong k0 a = none ∧ wrong k1 b = some p) := by
  by_cases h0 : ks.length = 0
  · obtain rfl : ks = [] := List.eq_nil_of_length_eq_zero h0
    rw [wrong_leaf] at h
    split at h <;> cases h
  · cases hp : parts y s with
    | none => rw [wrong_none h0 hp] at h; cases h
    | some ab =>
      obtain ⟨a, b⟩ := ab
      by_cases h2 : ks.length = 2
      · obtain ⟨k0, k1, rfl⟩ := two_kids h2
        refine ⟨a, b, k0, k1, rfl, rfl, ?_⟩
        rw [wrong_two hp] at h
        cases hw0 : wrong k0 a with
        | some q => rw [hw0] at h; cases h; exact .inl ⟨rfl, rfl⟩
        | none =>
          rw [hw0] at h
          cases hw1 : wrong k1 b with
          | some q => simp only [hw1] at h; cases h; exact .inr ⟨rfl, rfl, rfl⟩
          | none => simp only [hw1] at h; cases h
      · rw [wrong_many h0 hp h2] at h; cases h
theorem node_at : ∀ (p : List Nat) (y : Syst) (t : T), Little y → wrong t y = some p → ∃ y' t', nodeAt y t p = some (y', t') ∧ Little y' ∧ y'.rows = y.rows
  | [], y, t, hl, _ => ⟨y, t, by unfold nodeAt; rfl, hl, rfl⟩
  | i :: p, y, .mk s ks lf, hl, h => by
    obtain ⟨a, b, k0, k1, hp, rfl, h1 | h1⟩ := wrong_path h
    · obtain ⟨la, lb, _, _, ea, eb⟩ := parts_little hp hl
      obtain ⟨rfl, h2⟩ := h1
      obtain ⟨y', t', h3, h4, h5⟩ := node_at p a k0 la h2
      exact ⟨y', t', by unfold nodeAt; rw [hp]; exact h3, h4, h5.trans ea⟩
    · obtain ⟨la, lb, _, _, ea, eb⟩ := parts_little hp hl
      obtain ⟨rfl, _, h2⟩ := h1
      obtain ⟨y', t', h3, h4, h5⟩ := node_at p b k1 lb h2
      exact ⟨y', t', by unfold nodeAt; rw [hp]; exact h3, h4, h5.trans eb⟩
/-- One step of a path. -/
theorem node_step {s : Int} {ks : List T} {lf : List Int} {y : Syst} {i : Nat} {p : List Nat} {r : Syst × T} (h : nodeAt y (.mk s ks lf) (i :: p) = some r) :
    ∃ a b k0 k1, parts y s = some (a, b) ∧ ks = [k0, k1] ∧ (i = 0 ∧ nodeAt a k0 p = some r ∨ i = 1 ∧ nodeAt b k1 p = some r) := by
  unfold nodeAt at h
  cases hp : parts y s with
  | none => rw [hp] at h; cases h
  | some ab =>
    obtain ⟨a, b⟩ := ab
    rw [hp] at h
    simp only at h
    match i, ks, h with
    | 0, [k0, k1], h => exact ⟨a, b, k0, k1, rfl, rfl, .inl ⟨rfl, h⟩⟩
    | 1, [k0, k1], h => exact ⟨a, b, k0, k1, rfl, rfl, .inr ⟨rfl, h⟩⟩
theorem repl_zero (k : T) (s : Int) (k0 k1 : T) (lf : List Int) (p : List Nat) : repl k (.mk s [k0, k1] lf) (0 :: p) = .mk s [repl k k0 p, k1] lf := by rw [repl]
theorem repl_one (k : T) (s : Int) (k0 k1 : T) (lf : List Int) (p : List Nat) : repl k (.mk s [k0, k1] lf) (1 :: p) = .mk s [k0, repl k k1 p] lf := by rw [repl]
theorem repl_nil (k t : T) : repl k t [] = k := by unfold repl; rfl
theorem repl_fit {k : T} (hk : Fit k) : ∀ (p : List Nat) (y : Syst) (t : T) (r : Syst × T), nodeAt y t p = some r → Fit t → Fit (repl k t p)
  | [], _, t, _, _, _ => by rw [repl_nil]; exact hk
  | i :: p, y, .mk s ks lf, r, h, hf => by
    obtain ⟨a, b, k0, k1, hp, rfl, h1 | h1⟩ := node_step h
    · obtain ⟨rfl, h2⟩ := h1
      unfold Fit FitL FitL FitL at hf
      obtain ⟨f1, f2, f3, f4, _⟩ := hf
      rw [repl_zero]
      unfold Fit FitL FitL FitL
      exact ⟨by simp, f2, repl_fit hk p a k0 r h2 f3, f4, trivial⟩
    · obtain ⟨rfl, h2⟩ := h1
      unfold Fit FitL FitL FitL at hf
      obtain ⟨f1, f2, f3, f4, _⟩ := hf
      rw [repl_one]
      unfold Fit FitL FitL FitL
      exact ⟨by simp, f2, f3, repl_fit hk p b k1 r h2 f4, trivial⟩
/-- The path leads behind the node that was replaced. -/
theorem aft_repl {k : T} : ∀ (p : List Nat) (y : Syst) (t : T) (y' : Syst) (t' : T) (q : List Nat), wrong t y = some p → nodeAt y t p = some (y', t') → wrong k y' = none → wrong (repl k t p) y = some q → aft q p = true
  | [], y, t, y', t', q, h, hn, hk, hq => by
    unfold nodeAt at hn
    cases hn
    rw [repl_nil, hk] at hq
    cases hq
  | i :: p, y, .mk s ks lf, y', t', q, h, hn, hk, hq => by
    obtain ⟨a, b, k0, k1, hp, rfl, h1 | h1⟩ := wrong_path h
    · obtain ⟨rfl, h2⟩ := h1
      obtain ⟨a', b', k0', k1', hp', e, h3 | h3⟩ := node_step hn
      · rw [hp] at hp'
        cases hp'
        cases e
        rw [repl_zero, wrong_two hp] at hq
        cases hw : wrong (repl k k0 p) a with
        | some q' =>
          rw [hw] at hq
          cases hq
          unfold aft
          rw [if_pos rfl]
          exact aft_repl p a k0 y' t' q' h2 h3.2 hk hw
        | none =>
          rw [hw] at hq
          cases hw1 : wrong k1 b with
          | some q' =>
            simp only [hw1] at hq
            cases hq
            rfl
          | none => simp only [hw1] at hq; cases hq
      · exact absurd h3.1 (by decide)
    · obtain ⟨rfl, h0, h2⟩ := h1
      obtain ⟨a', b', k0', k1', hp', e, h3 | h3⟩ := node_step hn
      · exact absurd h3.1 (by decide)
      · rw [hp] at hp'
        cases hp'
        cases e
        rw [repl_one, wrong_two hp, h0] at hq
        cases hw : wrong (repl k k1 p) b with
        | some q' =>
          simp only [hw] at hq
          cases hq
          unfold aft
          rw [if_pos rfl]
          exact aft_repl p b k1 y' t' q' h2 h3.2 hk hw
        | none => simp only [hw] at hq; cases hq
/-- A proof that is built is one that is made. -/
theorem bld_is {s : Syst} {t : T} {m : Nat} (h : bld 27 s 0 = .ok (t, m)) : made 27 s = some t := by
  have h1 := bld_made 27 s 0 (by omega)
  cases hm : made 27 s with
  | none =>
    rw [hm] at h1
    rcases h1 with e | e <;> rw [e] at h <;> cases h
  | some u =>
    rw [hm] at h1
    simp only at h1
    split at h1
    · rw [h1] at h; cases h; rfl
    · rw [h1] at h; cases h
theorem aft_step {q p : List Nat} {k : Nat} (hq : k < q.length) (hp : k < p.length) : aft (q.drop k) (p.drop k) = if q[k] = p[k] then aft (q.drop (k + 1)) (p.drop (k + 1)) else decide (p[k] < q[k]) := by
  rw [List.drop_eq_getElem_cons hq, List.drop_eq_getElem_cons hp]
  rfl
theorem aft_short {q p : List Nat} {k : Nat} (hp : p.length ≤ k) : aft (q.drop k) (p.drop k) = false := by
  rw [List.drop_eq_nil_of_le hp]
  cases q.drop k <;> rfl
theorem aft_end {q p : List Nat} {k : Nat} (hq : q.length ≤ k) : aft (q.drop k) (p.drop k) = false := by
  rw [List.drop_eq_nil_of_le hq]
  cases p.drop k <;> rfl
end Go.Proofs.YtjjohllfidmkjaaDoor.Pf
