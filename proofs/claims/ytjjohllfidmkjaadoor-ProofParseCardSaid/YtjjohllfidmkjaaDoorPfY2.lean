/- The first wrong node, in plain Lean. Conditions: none. -/
import Derived.Test.YtjjohllfidmkjaaDoorPfY
namespace Go.Proofs.YtjjohllfidmkjaaDoor.Pf
open Go

def ints (l : List Nat) : List Int := List.map (fun n : Nat => (n : Int)) l
def natCells (l : List Nat) : List Value := intCells (ints l)
theorem nat_len (l : List Nat) : (natCells l).length = l.length := by simp [natCells, intCells, ints]
theorem wrong_leaf (s : Int) (lf : List Int) (y : Syst) : wrong (.mk s [] lf) y = if proves y lf then none else some [] := by
  rw [wrong, if_pos (by rfl)]
theorem wrong_none {s : Int} {ks : List T} {lf : List Int} {y : Syst} (h : ks.length ≠ 0) (hp : parts y s = none) : wrong (.mk s ks lf) y = some [] := by
  rw [wrong, if_neg h, hp]
theorem wrong_many {s : Int} {ks : List T} {lf : List Int} {y a b : Syst} (h : ks.length ≠ 0) (hp : parts y s = some (a, b)) (h2 : ks.length ≠ 2) : wrong (.mk s ks lf) y = some [] := by
  rw [wrong, if_neg h, hp]
  exact if_neg h2
theorem wrong_two {s : Int} {k0 k1 : T} {lf : List Int} {y a b : Syst} (hp : parts y s = some (a, b)) :
    wrong (.mk s [k0, k1] lf) y = match wrong k0 a with
      | some p => some (0 :: p)
      | none => match wrong k1 b with
        | some p => some (1 :: p)
        | none => none := by
  rw [wrong, if_neg (by simp), hp]
  simp only [List.length_cons, List.length_nil, if_true]
  unfold wrongL
  cases wrong k0 a with
  | some p => rfl
  | none =>
    simp only
    unfold wrongL
    cases wrong k1 b with
    | some p => rfl
    | none => simp only; unfold wrongL; rfl
theorem two_kids {ks : List T} (h : ks.length = 2) : ∃ k0 k1, ks = [k0, k1] := by
  match ks, h with
  | [a, b], _ => exact ⟨a, b, rfl⟩
theorem wrong_len : ∀ (n : Nat) (t : T), nodes t ≤ n → ∀ (y : Syst) (p : List Nat), Little y → wrong t y = some p → p.length ≤ side y
  | 0, .mk s ks lf, h, _, _, _, _ => by unfold nodes at h; omega
  | n + 1, .mk s ks lf, h, y, p, hy, hw => by
    by_cases h0 : ks.length = 0
    · obtain rfl : ks = [] := List.eq_nil_of_length_eq_zero h0
      rw [wrong_leaf] at hw
      split at hw
      · cases hw
      · cases hw; simp
    · cases hp : parts y s with
      | none =>
        rw [wrong_none h0 hp] at hw
        cases hw; simp
      | some x =>
        obtain ⟨a, b⟩ := x
        by_cases h2 : ks.length = 2
        · obtain ⟨k0, k1, rfl⟩ := two_kids h2
          obtain ⟨ha, hb, h3, h4, _, _⟩ := parts_little hp hy
          rw [wrong_two hp] at hw
          have hn : nodes (.mk s [k0, k1] lf) = 1 + (nodes k0 + (nodes k1 + 0)) := by simp [nodes, nodesL]
          cases hw0 : wrong k0 a with
          | some q =>
            rw [hw0] at hw
            cases hw
            have := wrong_len n k0 (by omega) a q ha hw0
            simp only [List.length_cons]; omega
          | none =>
            rw [hw0] at hw
            simp only at hw
            cases hw1 : wrong k1 b with
            | some q =>
              rw [hw1] at hw
              cases hw
              have := wrong_len n k1 (by omega) b q hb hw1
              simp only [List.length_cons]; omega
            | none => rw [hw1] at hw; cases hw
        · rw [wrong_many h0 hp h2] at hw
          cases hw; simp
theorem side_le {y : Syst} (h : Box y) : side y ≤ 27 := by
  obtain ⟨p0, q0, r0, p1, q1, r1, p2, q2, r2⟩ := h
  unfold side; omega
end Go.Proofs.YtjjohllfidmkjaaDoor.Pf
