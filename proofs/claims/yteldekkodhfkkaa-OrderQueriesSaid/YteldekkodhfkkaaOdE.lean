/- Plain laws: demands before and behind a delivery; what is taken is due first. Conditions: as stated. -/
import Derived.Test.YteldekkodhfkkaaOdB2
namespace Go.Proofs.Yteldekkodhfkkaa.OdW
open Od (sumK hasK nf Up Tot ins It Ky)

theorem of_sum : ∀ {m : List Nd}, (m.map Prod.fst).Nodup → ∀ p, of m p = sumK m p
  | [], _, p => rfl
  | x :: r, h, p => by
    simp only [List.map_cons, List.nodup_cons] at h
    rw [Od.sumK_cons]
    unfold of
    by_cases e : x.1 = p
    · rw [if_pos e, if_pos e, Od.sumK_none]
      · omega
      · rintro ⟨y, hy, e2⟩
        exact h.1 (List.mem_map.2 ⟨y, hy, e2.trans e.symm⟩)
    · rw [if_neg e, if_neg e, of_sum h.2 p]
      omega
theorem of_demand {l : List It} (hv : Od.valid l = true) (p : List UInt8) : of (demand l) p = sumK (l.map pq) p := by
  unfold demand
  rw [if_pos hv, of_sum (up_nodup Od.sl_tot (Od.nf_up Od.sl_tot _)), Od.nf_sum Od.sl_tot]
theorem demand_mem {l : List It} {x : Nd} (h : x ∈ demand l) : x.2 = sumK (l.map pq) x.1 := by
  unfold demand at h
  split at h
  · exact (nf_mem Od.sl_tot h).2
  · cases h
theorem normal_sum {l : List It} (h : (normal l).2 = 0) (p : List UInt8) : sumK ((normal l).1.map pq) p = sumK (l.map pq) p := by
  obtain ⟨_, e⟩ := normal_zero h
  rw [e, pq_sums, pq_items]
  exact nf_map_sum Od.kl_tot _ p _
theorem del_other_sum {p p' : List UInt8} (hne : p' ≠ p) : ∀ {l : List It} {n : Int}, (∀ x ∈ l, 0 < x.q) → sumK ((del p l n).1.map pq) p' = sumK (l.map pq) p'
  | [], n, _ => rfl
  | x :: r, n, h => by
    have hx := h x (by simp)
    have hr : ∀ z ∈ r, 0 < z.q := fun z hz => h z (by simp [hz])
    by_cases hp : x.p = p
    · have e : ¬ x.p = p' := fun e => hne (e.symm.trans hp)
      rcases Int.lt_or_le n x.q with hlt | hle
      · rw [del_low hp hlt]
        simp only [List.map_cons, Od.sumK_cons, del_other_sum hne hr, pq, lessen, if_neg e]
      · rw [del_high hp hle]
        simp only [List.map_cons, Od.sumK_cons, del_other_sum hne hr, pq, if_neg e]
        omega
    · rw [del_other hp hx]
      simp only [List.map_cons, Od.sumK_cons, del_other_sum hne hr]
theorem del_part_sum {p : List UInt8} : ∀ {l : List It} {n : Int}, (∀ x ∈ l, 0 < x.q) → sumK ((del p l n).1.map pq) p = sumK (l.map pq) p - (n - (del p l n).2)
  | [], n, _ => by simp [del, sumK]
  | x :: r, n, h => by
    have hx := h x (by simp)
    have hr : ∀ z ∈ r, 0 < z.q := fun z hz => h z (by simp [hz])
    by_cases hp : x.p = p
    · rcases Int.lt_or_le n x.q with hlt | hle
      · rw [del_low hp hlt, del_zero hr]
        simp only [List.map_cons, Od.sumK_cons, pq, lessen, if_pos hp]
        omega
      · have ih := del_part_sum (p := p) (l := r) (n := n - x.q) hr
        rw [del_high hp hle]
        simp only [List.map_cons, Od.sumK_cons, ih, pq, if_pos hp]
        omega
    · have ih := del_part_sum (p := p) (l := r) (n := n) hr
      rw [del_other hp hx]
      simp only [List.map_cons, Od.sumK_cons, ih, pq, if_neg hp]
      omega
theorem del_none {p : List UInt8} : ∀ {l : List It} {n : Int}, (∀ x ∈ l, 0 < x.q) → 0 < (del p l n).2 → sumK ((del p l n).1.map pq) p = 0
  | [], n, _, _ => rfl
  | x :: r, n, h, h2 => by
    have hx := h x (by simp)
    have hr : ∀ z ∈ r, 0 < z.q := fun z hz => h z (by simp [hz])
    by_cases hp : x.p = p
    · rcases Int.lt_or_le n x.q with hlt | hle
      · rw [del_low hp hlt, del_zero hr] at h2
        simp at h2
      · rw [del_high hp hle] at h2 ⊢
        exact del_none hr h2
    · rw [del_other hp hx] at h2 ⊢
      simp only [List.map_cons, Od.sumK_cons, del_none hr h2, pq, if_neg hp]
      omega

/-- When the first item of the part is due. -/
def fstep (p : List UInt8) (f : Int) (x : It) : Int := if x.p = p then min f x.d else f
def firstDue (p : List UInt8) (l : List It) : Int := l.foldl (fstep p) 1000001
theorem first_ge {p : List UInt8} {d0 : Int} : ∀ (l : List It) (f : Int), d0 ≤ f → (∀ y ∈ l, y.p = p → d0 ≤ y.d) → d0 ≤ l.foldl (fstep p) f
  | [], f, hf, _ => hf
  | x :: r, f, hf, h => by
    rw [List.foldl_cons]
    refine first_ge r _ ?_ (fun y hy => h y (by simp [hy]))
    unfold fstep
    split
    · have := h x (by simp) ‹_›
      omega
    · exact hf
theorem first_le {p : List UInt8} : ∀ (l : List It) (f : Int), l.foldl (fstep p) f ≤ f
  | [], f => Int.le_refl f
  | x :: r, f => by
    rw [List.foldl_cons]
    have := first_le (p := p) r (fstep p f x)
    have h2 : fstep p f x ≤ f := by unfold fstep; split <;> omega
    omega
/-- What is taken is due no later than F. -/
def chk (p : List UInt8) (F : Int) : List It → Int → Bool
  | [], _ => true
  | x :: r, t => if t ≤ 0 then true else if x.p = p then decide (x.d ≤ F) && chk p F r (t - x.q) else chk p F r t
theorem chk_del {p : List UInt8} {F : Int} : ∀ {l : List It} {n : Int}, (∀ x ∈ l, 0 < x.q) → (∀ x ∈ l, x.d ≤ 1000000) → (l.Pairwise fun a b => a.d ≤ b.d) →
    (∀ d0 : Int, d0 ≤ 1000000 → (∀ y ∈ (del p l n).1, y.p = p → d0 ≤ y.d) → d0 ≤ F) → 0 ≤ n → chk p F l (n - (del p l n).2) = true
  | [], n, _, _, _, _, _ => rfl
  | x :: r, n, h, hd, hs, hF, hn => by
    have hx := h x (by simp)
    have hr : ∀ z ∈ r, 0 < z.q := fun z hz => h z (by simp [hz])
    have hdr : ∀ z ∈ r, z.d ≤ 1000000 := fun z hz => hd z (by simp [hz])
    obtain ⟨hs1, hs2⟩ := List.pairwise_cons.1 hs
    unfold chk
    split
    · rfl
    · rename_i ht
      by_cases hp : x.p = p
      · rw [if_pos hp]
        rcases Int.lt_or_le n x.q with hlt | hle
        · have e : del p (x :: r) n = (lessen x n :: r, 0) := by rw [del_low hp hlt, del_zero hr]
          rw [e] at hF ⊢
          have h1 : x.d ≤ F := hF x.d (hd x (by simp)) (fun y hy _ => by
            rcases List.mem_cons.1 hy with e | e
            · subst e; exact Int.le_refl _
            · exact hs1 y e)
          rw [decide_eq_true h1, Bool.true_and]
          cases r with
          | nil => rfl
          | cons z r => unfold chk; rw [if_pos (by simp only; omega)]
        · rw [del_high hp hle] at hF ht ⊢
          have h1 : x.d ≤ F := hF x.d (hd x (by simp)) (fun y hy _ => by
            obtain ⟨z, hz, _, _, e, _⟩ := del_mem hr (by omega) y hy
            rw [e]
            exact hs1 z hz)
          rw [decide_eq_true h1, Bool.true_and]
          have ih := chk_del (p := p) (F := F) (l := r) (n := n - x.q) hr hdr hs2 hF (by omega)
          have e : n - x.q - (del p r (n - x.q)).2 = n - (del p r (n - x.q)).2 - x.q := by omega
          rwa [e] at ih
      · rw [if_neg hp]
        rw [del_other hp hx] at hF ⊢
        exact chk_del hr hdr hs2 (fun d0 h0 h1 => hF d0 h0 (fun y hy hyp => by
          rcases List.mem_cons.1 hy with e | e
          · subst e; exact absurd hyp hp
          · exact h1 y e hyp)) hn
theorem normal_dues {l : List It} : (normal l).1.Pairwise fun a b => a.d ≤ b.d := by
  rcases normal_ways l with ⟨_, e⟩ | ⟨_, _, e⟩ | ⟨_, _, e⟩
  · rw [e]; exact List.Pairwise.nil
  · rw [e]; exact List.Pairwise.nil
  · rw [e, List.pairwise_map]
    refine (Od.nf_up Od.kl_tot (l.map kq)).imp ?_
    intro a b h
    unfold Od.kl at h
    simp only [toIt]
    by_cases hd : a.1.d = b.1.d
    · omega
    · rw [if_pos hd] at h
      simp at h
      omega
theorem first_chk {l : List It} {p : List UInt8} {n : Int} (hn : 0 ≤ n) : chk p (firstDue p (del p (normal l).1 n).1) (normal l).1 (n - (del p (normal l).1 n).2) = true :=
  chk_del normal_posq (fun x hx => (Od.ok_parts (normal_item hx).1).2.2.2) normal_dues (fun d0 h0 h1 => first_ge _ _ (by omega) h1) hn
end Go.Proofs.Yteldekkodhfkkaa.OdW
