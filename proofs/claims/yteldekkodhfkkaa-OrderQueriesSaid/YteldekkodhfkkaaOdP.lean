/- Plain laws: deliveries. Conditions: as stated. -/
import Derived.Test.YteldekkodhfkkaaOdG
namespace Go.Proofs.Yteldekkodhfkkaa.OdW
open Od (sumK hasK nf Up Tot ins It Ky)

def lessen (x : It) (t : Int) : It := ⟨x.o, x.p, x.q - t, x.d⟩
def del (p : List UInt8) : List It → Int → List It × Int
  | [], n => ([], n)
  | x :: r, n => (if 0 < x.q - take1 p n x then lessen x (take1 p n x) :: (del p r (n - take1 p n x)).1 else (del p r (n - take1 p n x)).1, (del p r (n - take1 p n x)).2)
theorem del_cons (p : List UInt8) (x : It) (r : List It) (n : Int) : del p (x :: r) n = (if 0 < x.q - take1 p n x then lessen x (take1 p n x) :: (del p r (n - take1 p n x)).1 else (del p r (n - take1 p n x)).1, (del p r (n - take1 p n x)).2) := rfl
theorem dstep_eq (p : List UInt8) (acc : List It) (n : Int) (x : It) : dstep p (acc, n) x = (if 0 < x.q - take1 p n x then acc ++ [lessen x (take1 p n x)] else acc, n - take1 p n x) := rfl
theorem del_fold (p : List UInt8) : ∀ (l : List It) (acc : List It) (n : Int), l.foldl (dstep p) (acc, n) = (acc ++ (del p l n).1, (del p l n).2)
  | [], acc, n => by simp [del]
  | x :: r, acc, n => by
    rw [List.foldl_cons, dstep_eq, del_cons]
    by_cases h : 0 < x.q - take1 p n x
    · rw [if_pos h, if_pos h, del_fold p r]
      simp
    · rw [if_neg h, if_neg h, del_fold p r]
theorem dfold_del (p : List UInt8) (l : List It) (n : Int) : dfold p l n = del p l n := by
  unfold dfold
  rw [del_fold]
  simp
theorem lessen_zero (x : It) : lessen x 0 = x := by unfold lessen; simp
theorem take1_other {p : List UInt8} {n : Int} {x : It} (h : ¬ x.p = p) : take1 p n x = 0 := by unfold take1; rw [if_neg h]
theorem take1_low {p : List UInt8} {n : Int} {x : It} (h : x.p = p) (hn : n ≤ x.q) : take1 p n x = n := by unfold take1; rw [if_pos h]; omega
theorem take1_high {p : List UInt8} {n : Int} {x : It} (h : x.p = p) (hn : x.q ≤ n) : take1 p n x = x.q := by unfold take1; rw [if_pos h]; omega
theorem del_other {p : List UInt8} {r : List It} {n : Int} {x : It} (h : ¬ x.p = p) (hq : 0 < x.q) : del p (x :: r) n = (x :: (del p r n).1, (del p r n).2) := by
  rw [del_cons, take1_other h, lessen_zero]
  simp [hq]
theorem del_low {p : List UInt8} {r : List It} {n : Int} {x : It} (h : x.p = p) (hn : n < x.q) : del p (x :: r) n = (lessen x n :: (del p r 0).1, (del p r 0).2) := by
  rw [del_cons, take1_low h (by omega), if_pos (by omega), Int.sub_self]
theorem del_high {p : List UInt8} {r : List It} {n : Int} {x : It} (h : x.p = p) (hn : x.q ≤ n) : del p (x :: r) n = del p r (n - x.q) := by
  rw [del_cons, take1_high h hn, if_neg (by omega)]
theorem del_zero {p : List UInt8} : ∀ {l : List It}, (∀ x ∈ l, 0 < x.q) → del p l 0 = (l, 0)
  | [], _ => rfl
  | x :: r, h => by
    have hx := h x (by simp)
    have ih := del_zero (p := p) (l := r) (fun y hy => h y (by simp [hy]))
    by_cases hp : x.p = p
    · rw [del_low hp hx, ih, lessen_zero]
    · rw [del_other hp hx, ih]
/-- What is left is what was there, each item with its number or less. -/
theorem del_mem {p : List UInt8} : ∀ {l : List It} {n : Int}, (∀ x ∈ l, 0 < x.q) → 0 ≤ n → ∀ y ∈ (del p l n).1, ∃ x ∈ l, y.o = x.o ∧ y.p = x.p ∧ y.d = x.d ∧ 0 < y.q ∧ y.q ≤ x.q
  | [], n, _, _, y, hy => by simp [del] at hy
  | x :: r, n, h, hn, y, hy => by
    have hx := h x (by simp)
    have hr : ∀ z ∈ r, 0 < z.q := fun z hz => h z (by simp [hz])
    have up : ∀ {m : Int}, 0 ≤ m → y ∈ (del p r m).1 → ∃ z ∈ x :: r, y.o = z.o ∧ y.p = z.p ∧ y.d = z.d ∧ 0 < y.q ∧ y.q ≤ z.q := fun hm hy => by
      obtain ⟨z, hz, hh⟩ := del_mem hr hm y hy
      exact ⟨z, by simp [hz], hh⟩
    by_cases hp : x.p = p
    · rcases Int.lt_or_le n x.q with hlt | hle
      · rw [del_low hp hlt] at hy
        rcases List.mem_cons.1 hy with e | e
        · subst e
          exact ⟨x, by simp, rfl, rfl, rfl, by simp [lessen]; omega, by simp [lessen]; omega⟩
        · exact up (Int.le_refl 0) e
      · rw [del_high hp hle] at hy
        exact up (by omega) hy
    · rw [del_other hp hx] at hy
      rcases List.mem_cons.1 hy with e | e
      · subst e
        exact ⟨y, by simp, rfl, rfl, rfl, hx, Int.le_refl _⟩
      · exact up hn e
theorem del_len {p : List UInt8} {l : List It} {n : Int} : (del p l n).1.length ≤ l.length := by
  have := dfold_len p n l
  rwa [dfold_del] at this
theorem del_n {p : List UInt8} {l : List It} {n : Int} (h : ∀ x ∈ l, 0 < x.q) (hn : 0 ≤ n) : 0 ≤ (del p l n).2 ∧ (del p l n).2 ≤ n := by
  have := dfold_n (p := p) hn l (fun x hx => Int.le_of_lt (h x hx))
  rwa [dfold_del] at this
/-- The keys that are left are some of the keys, in their order. -/
theorem del_keys {p : List UInt8} : ∀ {l : List It} {n : Int}, (∀ x ∈ l, 0 < x.q) → ((del p l n).1.map key).Sublist (l.map key)
  | [], n, _ => by simp [del]
  | x :: r, n, h => by
    have hx := h x (by simp)
    have hr : ∀ z ∈ r, 0 < z.q := fun z hz => h z (by simp [hz])
    by_cases hp : x.p = p
    · rcases Int.lt_or_le n x.q with hlt | hle
      · rw [del_low hp hlt, List.map_cons, List.map_cons]
        exact (del_keys hr).cons_cons _
      · rw [del_high hp hle, List.map_cons]
        exact (del_keys hr).cons _
    · rw [del_other hp hx, List.map_cons, List.map_cons]
      exact (del_keys hr).cons_cons _
/-- Delivering a, then b, is delivering both. -/
theorem del_two {p : List UInt8} : ∀ {l : List It} {a b : Int}, (∀ x ∈ l, 0 < x.q) → 0 ≤ a → 0 ≤ b →
    (del p (del p l a).1 b).1 = (del p l (a + b)).1 ∧ (del p l a).2 + (del p (del p l a).1 b).2 = (del p l (a + b)).2
  | [], a, b, _, _, _ => by simp [del]
  | x :: r, a, b, h, ha, hb => by
    have hx := h x (by simp)
    have hr : ∀ z ∈ r, 0 < z.q := fun z hz => h z (by simp [hz])
    by_cases hp : x.p = p
    · rcases Int.lt_or_le a x.q with hlt | hle
      · rw [del_low hp hlt, del_zero hr]
        have hp2 : (lessen x a).p = p := hp
        have hq2 : (lessen x a).q = x.q - a := rfl
        rcases Int.lt_or_le b (x.q - a) with h1 | h1
        · rw [del_low hp2 (by omega), del_low hp (by omega), del_zero hr]
          refine ⟨?_, by simp⟩
          unfold lessen
          simp only [List.cons.injEq, It.mk.injEq, true_and, and_true]
          omega
        · rw [del_high hp2 (by omega), del_high hp (by omega), hq2]
          have e : b - (x.q - a) = a + b - x.q := by omega
          rw [e]
          exact ⟨rfl, by simp⟩
      · rw [del_high hp hle, del_high (n := a + b) hp (by omega)]
        have := del_two (p := p) (l := r) (a := a - x.q) (b := b) hr (by omega) hb
        have e : a - x.q + b = a + b - x.q := by omega
        rwa [e] at this
    · have := del_two (p := p) (l := r) (a := a) (b := b) hr ha hb
      rw [del_other hp hx, del_other (n := a + b) hp hx, del_other hp hx]
      exact ⟨by rw [this.1], this.2⟩

/-- What is left of a normal form is one. -/
theorem normal_del {l : List It} {p : List UInt8} {n : Int} (h : (normal l).2 = 0) (hn : 0 ≤ n) : normal (del p (normal l).1 n).1 = ((del p (normal l).1 n).1, 0) := by
  have hpos : ∀ x ∈ (normal l).1, 0 < x.q := fun x hx => by
    have := Od.ok_parts (normal_item hx).1
    omega
  have hok : ∀ y ∈ (del p (normal l).1 n).1, Od.ok y = true := fun y hy => by
    obtain ⟨x, hx, e1, e2, e3, e4, e5⟩ := del_mem hpos hn y hy
    have h1 := (normal_item hx).1
    have h2 := Od.ok_parts h1
    exact ok_as h1 e1 e2 e3 (by omega) (by omega)
  have hv : Od.valid (del p (normal l).1 n).1 = true := valid_of (Nat.le_trans del_len (normal_len l)) hok
  have hup : Up Od.kl ((del p (normal l).1 n).1.map kq) := by
    obtain ⟨_, e⟩ := normal_zero h
    have h1 : ((normal l).1.map key).Pairwise fun a b => Od.kl a b = true := by
      have := Od.nf_up Od.kl_tot (l.map kq)
      unfold Up at this
      rw [e, List.map_map, List.pairwise_map]
      exact this
    have h2 := h1.sublist (del_keys (p := p) (n := n) hpos)
    unfold Up
    rw [List.pairwise_map] at h2 ⊢
    exact h2
  have hs : sums (del p (normal l).1 n).1 = (del p (normal l).1 n).1.map kq := (Od.nf_of Od.kl_tot hup (fun _ => Iff.rfl) (fun _ => rfl)).symm
  clear hpos hup
  generalize (del p (normal l).1 n).1 = R at *
  unfold normal
  rw [if_pos hv, hs, if_pos, map_toIt]
  rw [List.all_eq_true]
  intro x hx
  obtain ⟨y, hy, rfl⟩ := List.mem_map.1 hx
  exact decide_eq_true (Od.ok_parts (hok y hy)).2.1
theorem deliver_good {l : List It} {p : List UInt8} {n : Int} (h : (normal l).2 = 0) (hn : 0 ≤ n) : deliver l p n = ((del p (normal l).1 n).1, (del p (normal l).1 n).2, 0) := by
  unfold deliver
  rw [if_neg (by rw [h]; simp), if_neg (by omega), dfold_del]
theorem deliver_err {l : List It} {p : List UInt8} {n : Int} (h : (normal l).2 ≠ 0) : deliver l p n = ([], 0, (normal l).2) := by
  unfold deliver
  rw [if_pos h]
theorem normal_posq {l : List It} : ∀ x ∈ (normal l).1, 0 < x.q := fun x hx => by
  have := Od.ok_parts (normal_item hx).1
  omega
/-- OrderSteps. -/
theorem deliver_steps {l : List It} {p : List UInt8} {a b : Int} (h : (normal l).2 = 0) (ha : 0 ≤ a) (hb : 0 ≤ b) :
    (deliver (deliver l p a).1 p b).2.2 = 0 ∧ (deliver (deliver l p a).1 p b).1 = (deliver l p (a + b)).1 ∧ (deliver l p a).2.1 + (deliver (deliver l p a).1 p b).2.1 = (deliver l p (a + b)).2.1 := by
  have h2 := normal_del (p := p) h ha
  rw [deliver_good h ha, deliver_good h (by omega)]
  simp only
  rw [deliver_good (by rw [h2]) hb, h2]
  exact ⟨rfl, del_two normal_posq ha hb⟩
end Go.Proofs.Yteldekkodhfkkaa.OdW
