/- Plain law: a sorted list, its equals taken once, is the ascending list of its elements. Conditions: none. -/
import Derived.Test.YteldekkodhfkkaaOdQ3
import Derived.Lib.SlicesCompact
import Derived.Sort.Walk0
namespace Go.Proofs.Yteldekkodhfkkaa.OdW
open Go Go.Sort

theorem le_sl (x y : List UInt8) : decide (x ≤ y) = !Od.sl y x := by
  have h : Od.sl y x = decide (y < x) := bytesLess_eq y x
  rw [h, Bool.eq_iff_iff]
  simp
theorem sl_le_lt {a b c : List UInt8} (h1 : Od.sl b a = false) (h2 : Od.sl b c = true) : Od.sl a c = true := by
  cases h : Od.sl a b
  · rw [Od.sl_tri _ _ h h1]; exact h2
  · exact Od.sl_trans _ _ _ h h2
theorem keeps_ne {d : Array (List UInt8)} {j : Nat} (h : Lib.keeps d j = true) (h0 : 0 < j) : d[j]! ≠ d[j - 1]! := by
  unfold Lib.keeps at h
  simp only [decide_eq_true_eq] at h
  rcases h with h | h
  · omega
  · exact h
theorem compact_mem {d : Array (List UInt8)} : ∀ (j m : Nat), j < m → d[j]! ∈ Lib.compactUpTo d m
  | 0, m, h => by
    unfold Lib.compactUpTo
    exact List.mem_map.2 ⟨0, List.mem_filter.2 ⟨List.mem_range.2 h, by simp [Lib.keeps]⟩, rfl⟩
  | j + 1, m, h => by
    cases hk : Lib.keeps d (j + 1)
    · have : d[j + 1]! = d[j]! := by
        unfold Lib.keeps at hk
        simp at hk
        exact hk
      rw [this]
      exact compact_mem j m (by omega)
    · unfold Lib.compactUpTo
      exact List.mem_map.2 ⟨j + 1, List.mem_filter.2 ⟨List.mem_range.2 h, hk⟩, rfl⟩
theorem compact_up {d : Array (List UInt8)} (hs : ∀ i j, i ≤ j → j < d.size → Od.sl d[j]! d[i]! = false) (m : Nat) (hm : m ≤ d.size) : (Lib.compactUpTo d m).Pairwise fun x y => Od.sl x y = true := by
  unfold Lib.compactUpTo
  rw [List.pairwise_map]
  refine List.Pairwise.imp_of_mem ?_ ((List.pairwise_lt_range (n := m)).filter (Lib.keeps d))
  intro i j hi hj hij
  obtain ⟨hj1, hj2⟩ := List.mem_filter.1 hj
  have hjm := List.mem_range.1 hj1
  have hne := keeps_ne hj2 (by omega)
  have h1 := hs i (j - 1) (by omega) (by omega)
  have h2 := hs (j - 1) j (by omega) (by omega)
  refine sl_le_lt h1 ?_
  cases h : Od.sl d[j - 1]! d[j]!
  · exact absurd (Od.sl_tri _ _ h2 h) hne
  · rfl
theorem compact_sorted (ss : List (List UInt8)) : (Lib.compact (ss.mergeSort fun x y => decide (x ≤ y))).Pairwise (fun x y => Od.sl x y = true) ∧ ∀ x, x ∈ Lib.compact (ss.mergeSort fun x y => decide (x ≤ y)) ↔ x ∈ ss := by
  have hp := List.mergeSort_perm ss (fun x y => decide (x ≤ y))
  have hso : (ss.mergeSort fun x y => decide (x ≤ y)).Pairwise fun x y => decide (x ≤ y) = true := by
    refine List.pairwise_mergeSort (fun a b c h1 h2 => ?_) (fun a b => ?_) ss
    · rw [le_sl] at h1 h2 ⊢
      simp only [Bool.not_eq_true'] at h1 h2 ⊢
      cases h : Od.sl c a
      · rfl
      · have := sl_le_lt h1 (by
          cases h3 : Od.sl b c
          · rw [Od.sl_tri _ _ h3 h2] at h1; rw [h1] at h; cases h
          · rfl)
        have h4 := Od.sl_trans _ _ _ this h
        rw [Od.sl_irr] at h4
        cases h4
    · rw [le_sl, le_sl]
      cases h : Od.sl b a
      · rfl
      · cases h3 : Od.sl a b
        · rfl
        · have h4 := Od.sl_trans _ _ _ h h3
          rw [Od.sl_irr] at h4
          cases h4
  generalize (ss.mergeSort fun x y => decide (x ≤ y)) = zs at *
  have hs : ∀ i j, i ≤ j → j < zs.toArray.size → Od.sl zs.toArray[j]! zs.toArray[i]! = false := by
    intro i j hij hj
    have hj' : j < zs.length := by simpa using hj
    rcases Nat.lt_or_ge i j with h | h
    · have := List.pairwise_iff_getElem.1 hso i j (by omega) hj' h
      rw [le_sl] at this
      have hi' : i < zs.toArray.size := by omega
      rw [getElem!_pos zs.toArray j hj, getElem!_pos zs.toArray i hi']
      simpa using this
    · obtain rfl : i = j := by omega
      exact Od.sl_irr _
  refine ⟨compact_up hs _ (by simp), fun x => ?_⟩
  rw [← hp.mem_iff]
  constructor
  · intro hx
    unfold Lib.compact Lib.compactUpTo at hx
    obtain ⟨j, hj, rfl⟩ := List.mem_map.1 hx
    have hjm := List.mem_range.1 (List.mem_filter.1 hj).1
    have hb : j < zs.toArray.size := by simpa using hjm
    rw [getElem!_pos zs.toArray j hb]
    simp
  · intro hx
    obtain ⟨j, hj, rfl⟩ := List.mem_iff_getElem.1 hx
    have := compact_mem (d := zs.toArray) j zs.length hj
    have hb : j < zs.toArray.size := by simpa using hj
    rw [getElem!_pos zs.toArray j hb] at this
    unfold Lib.compact
    simpa using this
theorem orders_compact {l : List Od.It} (hv : Od.valid l = true) : (orders l).map Prod.fst = Lib.compact ((l.map (·.o)).mergeSort fun x y => decide (x ≤ y)) := by
  obtain ⟨h1, h2⟩ := compact_sorted (l.map (·.o))
  generalize Lib.compact ((l.map (·.o)).mergeSort fun x y => decide (x ≤ y)) = c at *
  have hz : ∀ (m : List Nd), (∀ x ∈ m, x.2 = 0) → ∀ k, Od.sumK m k = 0 := by
    intro m
    induction m with
    | nil => intro _ k; rfl
    | cons x r ih =>
      intro h k
      rw [Od.sumK_cons, ih (fun y hy => h y (by simp [hy])), h x (by simp)]
      split <;> rfl
  have e : c.map (fun s => (s, (0 : Int))) = Od.nf Od.sl (l.map oz) := by
    refine Od.nf_of Od.sl_tot ?_ ?_ ?_
    · unfold Od.Up
      rw [List.pairwise_map]
      exact h1
    · intro k
      unfold Od.hasK
      constructor
      · rintro ⟨x, hx, rfl⟩
        obtain ⟨s, hs, rfl⟩ := List.mem_map.1 hx
        obtain ⟨y, hy, rfl⟩ := List.mem_map.1 ((h2 s).1 hs)
        exact ⟨oz y, List.mem_map.2 ⟨y, hy, rfl⟩, rfl⟩
      · rintro ⟨x, hx, rfl⟩
        obtain ⟨y, hy, rfl⟩ := List.mem_map.1 hx
        exact ⟨(y.o, 0), List.mem_map.2 ⟨y.o, (h2 _).2 (List.mem_map.2 ⟨y, hy, rfl⟩), rfl⟩, rfl⟩
    · intro k
      rw [hz _ (fun x hx => by obtain ⟨s, _, rfl⟩ := List.mem_map.1 hx; rfl) k, hz _ (fun x hx => by obtain ⟨s, _, rfl⟩ := List.mem_map.1 hx; rfl) k]
  unfold orders
  rw [if_pos hv, ← e, List.map_map]
  exact List.map_id _
end Go.Proofs.Yteldekkodhfkkaa.OdW
