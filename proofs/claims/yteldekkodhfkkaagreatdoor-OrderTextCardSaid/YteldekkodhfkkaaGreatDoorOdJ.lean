/- The law OrderJoined, walked. Conditions: the lists lie in memory. -/
import Derived.Test.YteldekkodhfkkaaGreatDoorOdAw
import Derived.Test.YteldekkodhfkkaaGreatDoorKept
namespace Go.Proofs.YteldekkodhfkkaaGreatDoor.OdW
open Go Go.RowKit Go.Proofs.YteldekkodhfkkaaGreatDoor.Mem

theorem normal_two (l : List Od.It) : (normal l).2 = 0 ∨ (normal l).2 = 1 ∨ (normal l).2 = 2 := by
  rcases normal_ways l with ⟨_, e⟩ | ⟨_, _, e⟩ | ⟨_, _, e⟩ <;> rw [e] <;> simp
theorem normal_zero {l : List Od.It} (h : (normal l).2 = 0) : Od.valid l = true ∧ (normal l).1 = (sums l).map toIt := by
  rcases normal_ways l with ⟨_, e⟩ | ⟨_, _, e⟩ | ⟨hv, _, e⟩
  · rw [e] at h; simp at h
  · rw [e] at h; simp at h
  · rw [e]; exact ⟨hv, rfl⟩
theorem normal_same {a b : List Od.It} (ha : Od.valid a = true) (hb : Od.valid b = true) (h : sums a = sums b) : normal a = normal b := by
  unfold normal
  rw [ha, hb, h]
theorem normal_joined {l m : List Od.It} (hl : (normal l).2 = 0) (hm : (normal m).2 = 0) (hlen : l.length + m.length ≤ 60) : normal ((normal l).1 ++ (normal m).1) = normal (l ++ m) := by
  obtain ⟨v1, e1⟩ := normal_zero hl
  obtain ⟨v2, e2⟩ := normal_zero hm
  have hv : Od.valid (l ++ m) = true := valid_of (by simp; omega) (fun x hx => by
    rcases List.mem_append.1 hx with h | h
    · exact Od.valid_ok v1 h
    · exact Od.valid_ok v2 h)
  have n1 : (normal l).1.length ≤ l.length := by
    rw [e1]
    have := nf_len (lt := Od.kl) (l.map kq)
    simpa [sums] using this
  have n2 : (normal m).1.length ≤ m.length := by
    rw [e2]
    have := nf_len (lt := Od.kl) (m.map kq)
    simpa [sums] using this
  refine normal_same (valid_of (by simp; omega) (fun x hx => ?_)) hv ?_
  · rcases List.mem_append.1 hx with h | h
    · exact (normal_item h).1
    · exact (normal_item h).1
  · unfold sums
    rw [e1, e2, List.map_append, map_kq, map_kq, List.map_append]
    exact Od.nf_app Od.kl_tot _ _
theorem few_shorts {l : List Od.It} (h : few l = true) : ∀ m ∈ l, Od.Short m := fun m hm => by
  have := (few_short h).2 m hm
  exact ⟨by omega, by omega⟩
theorem own_empty (w : World) (base : Nat) (e : TypeId) (size : Nat) (hb : base ≤ w.heap.size) : (w.alloc (.cells #[] e)).ownsRow base e size (.slice (some ⟨w.heap.size, 0, none⟩) 0 0) 0 [] :=
  ⟨by simp, .inr ⟨w.heap.size, 0, #[], rfl, hb, heap_alloc_new w _, Nat.le_refl _, by unfold maxLen; omega, by simp, by simp⟩⟩
theorem it_cell (l : List Od.It) : ∀ u ∈ l.flatMap itCells, u.oneCell' = true := by
  intro u hu
  obtain ⟨x, _, hx⟩ := List.mem_flatMap.1 hu
  unfold itCells at hx
  simp at hx
  rcases hx with rfl | rfl | rfl | rfl <;> rfl
theorem shorts_app {a b : List Od.It} (ha : ∀ m ∈ a, Od.Short m) (hb : ∀ m ∈ b, Od.Short m) : ∀ m ∈ a ++ b, Od.Short m := fun m hm => (List.mem_append.1 hm).elim (ha m) (hb m)

end Go.Proofs.YteldekkodhfkkaaGreatDoor.OdW
