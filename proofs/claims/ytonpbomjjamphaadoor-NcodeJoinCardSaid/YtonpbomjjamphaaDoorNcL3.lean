/- The plain law of joins: joining is associative; pierces and joints add up where the first program has no End. Conditions: none. -/
import Derived.Test.YtonpbomjjamphaaDoorNcJ2
import Derived.Test.YtonpbomjjamphaaDoorNcE
namespace Go.Proofs.YtonpbomjjamphaaDoor.NcW
open Go Go.RowKit Go.Proofs.YtonpbomjjamphaaDoor.Mem

theorem till_all {l : List Nc.Mv} : ∀ m ∈ Nc.till l, isEnd m = false := by
  intro m hm
  rw [till_eq] at hm
  have := List.all_takeWhile (p := fun m => !isEnd m) (l := l)
  rw [List.all_eq_true] at this
  simpa using this m hm
theorem till_app (l r : List Nc.Mv) : Nc.till (Nc.till l ++ r) = Nc.till l ++ Nc.till r := by
  rw [till_eq (Nc.till l ++ r), List.takeWhile_append_of_pos]
  · rfl
  · intro a ha
    rw [till_all a ha]; rfl
theorem join_assoc (a b c : List Nc.Mv) : Nc.join (Nc.join a b) c = Nc.join a (Nc.join b c) := by
  unfold Nc.join
  rw [till_app, List.append_assoc]
theorem join_valid {a b : List Nc.Mv} (ha : Nc.valid a = true) (hb : Nc.valid b = true) (h : (Nc.till a).length + b.length ≤ 2000) : Nc.valid (Nc.join a b) = true := by
  refine Nc.valid_mk (by unfold Nc.join; rw [List.length_append]; exact h) fun m hm => ?_
  unfold Nc.join at hm
  rcases List.mem_append.1 hm with h1 | h1
  · rw [till_eq] at h1
    exact Nc.valid_ok ha (List.takeWhile_prefix _ |>.subset h1)
  · exact Nc.valid_ok hb h1
theorem join_len (a b : List Nc.Mv) : (Nc.join a b).length ≤ a.length + b.length := by
  have := till_le a
  unfold Nc.join
  rw [List.length_append]; omega
theorem join_nil (a : List Nc.Mv) : Nc.join a [] = Nc.till a := by unfold Nc.join; simp
/-- Up to k no End; at k an End. -/
theorem till_at {a : List Nc.Mv} {k : Nat} (h : k < a.length) (hk : ∀ m ∈ a.take k, isEnd m = false) (he : isEnd a[k] = true) : (Nc.till a).length = k := by
  have h1 : a = a.take k ++ a.drop k := (List.take_append_drop k a).symm
  rw [till_eq, h1, List.takeWhile_append_of_pos (by intro m hm; rw [hk m hm]; rfl), List.drop_eq_getElem_cons h, List.takeWhile_cons, he]
  simp; omega
theorem till_none {a : List Nc.Mv} (hk : ∀ m ∈ a, isEnd m = false) : Nc.till a = a := by
  have := List.takeWhile_append_of_pos (p := fun m => !isEnd m) (l₁ := a) (l₂ := []) (by intro m hm; rw [hk m hm]; rfl)
  rw [List.append_nil] at this
  rw [till_eq, this]; simp

theorem sums : ∀ (p : List Nc.Mv) (s t : Nc.St), (p.foldl Nc.step s).pierces - s.pierces = (p.foldl Nc.step t).pierces - t.pierces ∧ (p.foldl Nc.step s).joints - s.joints = (p.foldl Nc.step t).joints - t.joints
  | [], s, t => by simp
  | m :: r, s, t => by
    have ih := sums r (Nc.step s m) (Nc.step t m)
    have e : (Nc.step s m).pierces - s.pierces = (Nc.step t m).pierces - t.pierces ∧ (Nc.step s m).joints - s.joints = (Nc.step t m).joints - t.joints := by
      unfold Nc.step
      split
      · simp
      split
      · simp
      split
      · simp only; omega
      split
      · simp only; omega
      · simp
    simp only [List.foldl_cons]
    omega
theorem run_app (a b : List Nc.Mv) : (Nc.run (a ++ b)).pierces = (Nc.run a).pierces + (Nc.run b).pierces ∧ (Nc.run (a ++ b)).joints = (Nc.run a).joints + (Nc.run b).joints := by
  have := sums b (Nc.run a) .init
  unfold Nc.run at *
  rw [List.foldl_append]
  simp only [Nc.St.init] at *
  omega
end Go.Proofs.YtonpbomjjamphaaDoor.NcW
