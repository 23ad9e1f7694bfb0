/- Plain laws: a normal form again, a turned list, the demand of a normal form. Conditions: as stated. -/
import Derived.Test.YteldekkodhfkkaaOdJ2
namespace Go.Proofs.Yteldekkodhfkkaa.OdW
open Od (sumK hasK nf Up Tot ins It Ky)

theorem ins_map_sum {α β : Type} [DecidableEq β] {lt : α → α → Bool} (T : Tot lt) (g : α → β) (b : β) : ∀ (l : List (α × Int)) (x : α × Int), sumK ((ins lt l x).map fun y => (g y.1, y.2)) b = sumK (l.map fun y => (g y.1, y.2)) b + if g x.1 = b then x.2 else 0
  | [], x => by unfold ins; simp [sumK]
  | y :: r, x => by
    unfold ins
    by_cases h1 : lt y.1 x.1 = true
    · rw [if_pos h1]
      simp only [List.map_cons, Od.sumK_cons, ins_map_sum T g b r x]
      omega
    · rw [if_neg h1]
      by_cases h2 : lt x.1 y.1 = true
      · rw [if_pos h2]
        simp only [List.map_cons, Od.sumK_cons]
        omega
      · rw [if_neg h2]
        simp only [List.map_cons, Od.sumK_cons]
        have e : y.1 = x.1 := T.tri _ _ (by simpa using h1) (by simpa using h2)
        simp only [e]
        split <;> omega
theorem ins_map_has {α β : Type} {lt : α → α → Bool} (T : Tot lt) (g : α → β) (b : β) : ∀ (l : List (α × Int)) (x : α × Int), hasK ((ins lt l x).map fun y => (g y.1, y.2)) b ↔ hasK (l.map fun y => (g y.1, y.2)) b ∨ g x.1 = b
  | [], x => by unfold ins; simp [hasK]
  | y :: r, x => by
    unfold ins
    by_cases h1 : lt y.1 x.1 = true
    · rw [if_pos h1, List.map_cons, Od.hasK_cons, List.map_cons, Od.hasK_cons, ins_map_has T g b r x, or_assoc]
    · rw [if_neg h1]
      by_cases h2 : lt x.1 y.1 = true
      · rw [if_pos h2, List.map_cons, Od.hasK_cons, or_comm]
      · rw [if_neg h2, List.map_cons, Od.hasK_cons, List.map_cons, Od.hasK_cons]
        have e : y.1 = x.1 := T.tri _ _ (by simpa using h1) (by simpa using h2)
        simp only [e]
        constructor
        · rintro (h | h)
          · exact .inr h
          · exact .inl (.inr h)
        · rintro ((h | h) | h)
          · exact .inl h
          · exact .inr h
          · exact .inl h
theorem nf_map_sum {α β : Type} [DecidableEq β] {lt : α → α → Bool} (T : Tot lt) (g : α → β) (b : β) (l : List (α × Int)) : sumK ((nf lt l).map fun y => (g y.1, y.2)) b = sumK (l.map fun y => (g y.1, y.2)) b := by
  have key : ∀ (l acc : List (α × Int)), sumK ((l.foldl (ins lt) acc).map fun y => (g y.1, y.2)) b = sumK (acc.map fun y => (g y.1, y.2)) b + sumK (l.map fun y => (g y.1, y.2)) b := by
    intro l
    induction l with
    | nil => intro acc; simp [sumK]
    | cons x r ih =>
      intro acc
      rw [List.foldl_cons, ih]
      simp only [ins_map_sum T g b, List.map_cons, Od.sumK_cons]
      omega
  have := key l []
  unfold nf
  rw [this]
  simp [sumK]
theorem nf_map_has {α β : Type} {lt : α → α → Bool} (T : Tot lt) (g : α → β) (b : β) (l : List (α × Int)) : hasK ((nf lt l).map fun y => (g y.1, y.2)) b ↔ hasK (l.map fun y => (g y.1, y.2)) b := by
  have key : ∀ (l acc : List (α × Int)), hasK ((l.foldl (ins lt) acc).map fun y => (g y.1, y.2)) b ↔ hasK (acc.map fun y => (g y.1, y.2)) b ∨ hasK (l.map fun y => (g y.1, y.2)) b := by
    intro l
    induction l with
    | nil => intro acc; simp [hasK]
    | cons x r ih =>
      intro acc
      rw [List.foldl_cons, ih, ins_map_has T g b, List.map_cons, Od.hasK_cons, or_assoc]
  have := key l []
  unfold nf
  rw [this]
  simp [hasK]
theorem pq_sums (l : List It) : ((sums l).map toIt).map pq = (nf Od.kl (l.map kq)).map fun y => ((fun k : Ky => k.p) y.1, y.2) := by rw [List.map_map]; rfl
theorem pq_items (l : List It) : l.map pq = (l.map kq).map fun y => ((fun k : Ky => k.p) y.1, y.2) := by rw [List.map_map]; rfl
/-- The demand of a normal form is that of the list. -/
theorem demand_normal {l : List It} (h : (normal l).2 = 0) : demand (normal l).1 = demand l := by
  obtain ⟨hv, e⟩ := normal_zero h
  unfold demand
  rw [if_pos hv, if_pos (normal_valid l), e]
  refine Od.nf_same Od.sl_tot (fun k => ?_) (fun k => ?_)
  · rw [pq_sums, pq_items]
    exact nf_map_has Od.kl_tot _ k _
  · rw [pq_sums, pq_items]
    exact nf_map_sum Od.kl_tot _ k _
theorem normal_again {l : List It} (h : (normal l).2 = 0) : normal (normal l).1 = normal l := by
  obtain ⟨hv, e⟩ := normal_zero h
  refine normal_same (normal_valid l) hv ?_
  rw [e]
  unfold sums
  rw [map_kq]
  exact Od.nf_nf Od.kl_tot _
theorem normal_up {l : List It} (k : Nat) (hk : k + 1 < (normal l).1.length) : Od.kl (key ((normal l).1[k]'(by omega))) (key (normal l).1[k + 1]) = true := by
  rcases normal_ways l with ⟨_, e⟩ | ⟨_, _, e⟩ | ⟨_, _, e⟩
  · rw [e] at hk; simp at hk
  · rw [e] at hk; simp at hk
  · have hu := Od.nf_up Od.kl_tot (l.map kq)
    unfold Up at hu
    rw [List.pairwise_iff_getElem] at hu
    have e1 : (normal l).1 = (sums l).map toIt := by rw [e]
    have hk2 : k + 1 < (sums l).length := by rw [e1] at hk; simpa using hk
    have := hu k (k + 1) (show k < (sums l).length by omega) hk2 (Nat.lt_succ_self k)
    simp only [e1, List.getElem_map]
    exact this
theorem normal_perm {l m : List It} (h : m.Perm l) : normal m = normal l := by
  have hv : Od.valid m = Od.valid l := by
    unfold Od.valid
    rw [h.length_eq]
    congr 1
    rw [Bool.eq_iff_iff, List.all_eq_true, List.all_eq_true]
    exact ⟨fun hh x hx => hh x (h.mem_iff.2 hx), fun hh x hx => hh x (h.mem_iff.1 hx)⟩
  have hs : sums m = sums l := Od.nf_perm Od.kl_tot (h.map kq)
  unfold normal
  rw [hv, hs]

/-- The place that comes to place i of a list that is turned about. -/
def place (n t i : Nat) : Nat := (n - i + t) % n
def turned (l : List It) (t : Nat) : List It := (List.range l.length).map fun i => l[place l.length t i]!
theorem place_lt {n t i : Nat} (h : 0 < n) : place n t i < n := Nat.mod_lt _ h
theorem place_low {n t i : Nat} (hi : i ≤ t % n) (hn : 0 < n) : place n t i = t % n - i := by
  unfold place
  have h1 := Nat.div_add_mod t n
  have h2 := Nat.mod_lt t hn
  have e : n - i + t = (t % n - i) + n * (t / n + 1) := by
    rw [Nat.mul_add, Nat.mul_one]
    omega
  rw [e, Nat.add_mul_mod_self_left, Nat.mod_eq_of_lt (by omega)]
theorem place_high {n t i : Nat} (hi : t % n < i) (hn : i < n) : place n t i = n - i + t % n := by
  unfold place
  have h1 := Nat.div_add_mod t n
  have e : n - i + t = (n - i + t % n) + n * (t / n) := by omega
  rw [e, Nat.add_mul_mod_self_left, Nat.mod_eq_of_lt (by omega)]
theorem turned_parts (l : List It) (t : Nat) : turned l t = (l.take (t % l.length + 1)).reverse ++ (l.drop (t % l.length + 1)).reverse := by
  rcases Nat.eq_zero_or_pos l.length with h0 | h0
  · have : l = [] := List.eq_nil_of_length_eq_zero h0
    subst this
    rfl
  · have hs := Nat.mod_lt t h0
    generalize hss : t % l.length = s at *
    have hlt : (l.take (s + 1)).reverse.length = s + 1 := by rw [List.length_reverse, List.length_take]; omega
    refine List.ext_getElem (by simp [turned]; omega) (fun i h1 h2 => ?_)
    have hi : i < l.length := by simpa [turned] using h1
    have e0 : (turned l t)[i] = l[place l.length t i]! := by simp [turned]
    rw [e0, getElem!_pos l _ (place_lt h0)]
    by_cases his : i ≤ s
    · rw [List.getElem_append_left (by omega), List.getElem_reverse, List.getElem_take]
      congr 1
      rw [place_low (by omega) h0, List.length_take]
      omega
    · rw [List.getElem_append_right (by omega), List.getElem_reverse, List.getElem_drop]
      congr 1
      rw [place_high (by omega) hi, List.length_drop, hlt]
      omega
theorem turned_perm (l : List It) (t : Nat) : (turned l t).Perm l := by
  rw [turned_parts]
  refine ((List.reverse_perm _).append (List.reverse_perm _)).trans ?_
  rw [List.take_append_drop]
end Go.Proofs.Yteldekkodhfkkaa.OdW
