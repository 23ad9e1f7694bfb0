/- Soundness in plain Lean: if a tree has no wrong node, no point of the box fulfils all rows. Conditions: none. -/
import Derived.Test.YtjjohllfidmkjaaDoorPfY2
namespace Go.Proofs.YtjjohllfidmkjaaDoor.Pf
open Go
def Pt (s : Syst) (x y z : Int) : Prop := (s.l0 ≤ x ∧ x ≤ s.h0) ∧ (s.l1 ≤ y ∧ y ≤ s.h1) ∧ (s.l2 ≤ z ∧ z ≤ s.h2)
def meets (r : R4) (x y z : Int) : Prop := r.d ≤ r.a * x + r.b * y + r.c * z
theorem mul_max {a x l h : Int} (h1 : l ≤ x) (h2 : x ≤ h) : a * x ≤ max (a * l) (a * h) := by
  by_cases ha : 0 ≤ a
  · have := Int.mul_le_mul_of_nonneg_left h2 ha
    omega
  · have := Int.mul_le_mul_of_nonpos_left (a := a) (by omega) h1
    omega
theorem most_ge {s : Syst} {x y z : Int} (h : Pt s x y z) (r : R4) : r.a * x + r.b * y + r.c * z ≤ most s r := by
  obtain ⟨⟨h1, h2⟩, ⟨h3, h4⟩, h5, h6⟩ := h
  have p1 := mul_max (a := r.a) h1 h2
  have p2 := mul_max (a := r.b) h3 h4
  have p3 := mul_max (a := r.c) h5 h6
  unfold most
  omega
theorem dead_no {s : Syst} {x y z : Int} (h : Pt s x y z) {r : R4} (hd : dead s r = true) : ¬ meets r x y z := by
  have := most_ge h r
  unfold dead at hd
  have := of_decide_eq_true hd
  unfold meets
  omega
theorem parts_pt {s a b : Syst} {n : Int} (h : parts s n = some (a, b)) {x y z : Int} (hp : Pt s x y z) : (Pt a x y z ∨ Pt b x y z) ∧ a.rows = s.rows ∧ b.rows = s.rows := by
  obtain ⟨⟨h1, h2⟩, ⟨h3, h4⟩, h5, h6⟩ := hp
  unfold parts at h
  split at h
  · cases h
  · split at h
    · cases h
    · simp only [Option.some.injEq, Prod.mk.injEq] at h
      obtain ⟨rfl, rfl⟩ := h
      rcases mod3 n with e | e | e <;> rw [e] <;> simp only [setHi, setLo, Int.toNat_zero, Int.toNat_one, show Int.toNat 2 = 2 from rfl, Pt] <;> refine ⟨?_, trivial, trivial⟩ <;> omega
theorem sound : ∀ (n : Nat) (t : T), nodes t ≤ n → ∀ (s : Syst), wrong t s = none → ∀ (x y z : Int), Pt s x y z → ¬ ∀ r ∈ s.rows, meets r x y z
  | 0, .mk s ks lf, h, _, _, _, _, _, _ => by unfold nodes at h; omega
  | n + 1, .mk s ks lf, h, y, hw, x1, x2, x3, hp => by
    intro hall
    by_cases h0 : ks.length = 0
    · obtain rfl : ks = [] := List.eq_nil_of_length_eq_zero h0
      rw [wrong_leaf] at hw
      by_cases hpr : proves y lf = true
      · match lf, hpr with
        | [k], hpr =>
          have hpr : proves1 y k = true := hpr
          unfold proves1 at hpr
          cases hk : y.rows[k.toNat]? with
          | none => rw [hk] at hpr; simp at hpr
          | some r =>
            rw [hk] at hpr
            simp only [Bool.and_eq_true] at hpr
            exact dead_no hp hpr.2.2 (hall r (List.mem_of_getElem? hk))
      · rw [if_neg hpr] at hw
        cases hw
    · cases hpa : parts y s with
      | none => rw [wrong_none h0 hpa] at hw; cases hw
      | some ab =>
        obtain ⟨a, b⟩ := ab
        by_cases h2 : ks.length = 2
        · obtain ⟨k0, k1, rfl⟩ := two_kids h2
          rw [wrong_two hpa] at hw
          unfold nodes nodesL nodesL nodesL at h
          obtain ⟨hor, e1, e2⟩ := parts_pt hpa hp
          cases hw0 : wrong k0 a with
          | some p => rw [hw0] at hw; cases hw
          | none =>
            rw [hw0] at hw
            cases hw1 : wrong k1 b with
            | some p => simp only [hw1] at hw; cases hw
            | none =>
              rcases hor with hq | hq
              · exact sound n k0 (by omega) a hw0 x1 x2 x3 hq (by rw [e1]; exact hall)
              · exact sound n k1 (by omega) b hw1 x1 x2 x3 hq (by rw [e2]; exact hall)
        · rw [wrong_many h0 hpa h2] at hw
          cases hw
end Go.Proofs.YtjjohllfidmkjaaDoor.Pf
