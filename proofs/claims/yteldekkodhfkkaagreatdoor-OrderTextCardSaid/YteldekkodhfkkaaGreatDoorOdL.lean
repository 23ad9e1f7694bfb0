/- Plain laws: normal forms and deliveries. Conditions: as stated. -/
import Derived.Test.YteldekkodhfkkaaGreatDoorOdT
namespace Go.Proofs.YteldekkodhfkkaaGreatDoor.OdW
open Od (sumK hasK nf Up Tot ins It Ky)

theorem ins_len {α : Type} {lt : α → α → Bool} : ∀ (l : List (α × Int)) (x : α × Int), (ins lt l x).length ≤ l.length + 1
  | [], x => by unfold ins; simp
  | y :: r, x => by
    have := ins_len (lt := lt) r x
    unfold ins
    split
    · simp; omega
    · split <;> simp
theorem fold_len {α : Type} {lt : α → α → Bool} : ∀ (l acc : List (α × Int)), (l.foldl (ins lt) acc).length ≤ acc.length + l.length
  | [], acc => by simp
  | x :: r, acc => by
    have h1 := fold_len (lt := lt) r (ins lt acc x)
    have h2 := ins_len (lt := lt) acc x
    rw [List.foldl_cons, List.length_cons]
    omega
theorem nf_len {α : Type} {lt : α → α → Bool} (l : List (α × Int)) : (nf lt l).length ≤ l.length := by
  have := fold_len (lt := lt) l []
  unfold nf
  simpa using this
theorem sum_pos {α : Type} [DecidableEq α] {l : List (α × Int)} {a : α} (h : ∀ x ∈ l, 1 ≤ x.2) (hk : hasK l a) : 1 ≤ sumK l a := by
  induction l with
  | nil => exact absurd hk (Od.hasK_nil a)
  | cons x r ih =>
    have h0 : 0 ≤ sumK r a := by
      by_cases hr : hasK r a
      · have := ih (fun y hy => h y (by simp [hy])) hr
        omega
      · rw [Od.sumK_none hr]; omega
    have hx := h x (by simp)
    rw [Od.sumK_cons]
    by_cases e : x.1 = a
    · rw [if_pos e]; omega
    · rw [if_neg e]
      rw [Od.hasK_cons] at hk
      have := ih (fun y hy => h y (by simp [hy])) (hk.resolve_left e)
      omega
/-- An entry of the sums. -/
theorem nf_mem {α : Type} [DecidableEq α] {lt : α → α → Bool} (T : Tot lt) {l : List (α × Int)} {x : α × Int} (hx : x ∈ nf lt l) : hasK l x.1 ∧ x.2 = sumK l x.1 := by
  refine ⟨(Od.nf_has T l x.1).1 ⟨x, hx, rfl⟩, ?_⟩
  rw [← Od.nf_sum T, sum_once (up_nodup T (Od.nf_up T l)) (a := x.1) (n := x.2) hx]
theorem valid_of {l : List It} (h1 : l.length ≤ 100) (h2 : ∀ x ∈ l, Od.ok x = true) : Od.valid l = true := by
  unfold Od.valid
  rw [Bool.and_eq_true, List.all_eq_true]
  exact ⟨by simpa using h1, h2⟩
theorem ok_as {x y : It} (h : Od.ok y = true) (ho : x.o = y.o) (hp : x.p = y.p) (hd : x.d = y.d) (h1 : 1 ≤ x.q) (h2 : x.q ≤ 1000) : Od.ok x = true := by
  unfold Od.ok at h ⊢
  rw [ho, hp, hd]
  simp only [Bool.and_eq_true, decide_eq_true_eq] at h ⊢
  exact ⟨⟨⟨⟨⟨h.1.1.1.1.1, h.1.1.1.1.2⟩, h1⟩, h2⟩, h.1.2⟩, h.2⟩
theorem normal_ways (l : List It) : (Od.valid l = false ∧ normal l = ([], 1)) ∨ (Od.valid l = true ∧ ((sums l).all fun x => decide (x.2 ≤ 1000)) = false ∧ normal l = ([], 2)) ∨
    (Od.valid l = true ∧ (∀ x ∈ sums l, x.2 ≤ 1000) ∧ normal l = ((sums l).map toIt, 0)) := by
  unfold normal
  cases hv : Od.valid l
  · exact .inl ⟨rfl, by simp⟩
  · right
    cases hb : (sums l).all fun x => decide (x.2 ≤ 1000)
    · exact .inl ⟨rfl, rfl, by simp⟩
    · refine .inr ⟨rfl, ?_, by simp⟩
      rw [List.all_eq_true] at hb
      intro x hx
      simpa using hb x hx
theorem normal_err {l : List It} (h : (normal l).2 ≠ 0) : (normal l).1 = [] := by
  rcases normal_ways l with ⟨_, e⟩ | ⟨_, _, e⟩ | ⟨_, _, e⟩ <;> rw [e] at h ⊢
  simp at h
theorem normal_item {l : List It} {x : It} (hx : x ∈ (normal l).1) : Od.ok x = true ∧ ∃ y ∈ l, x.o = y.o ∧ x.p = y.p := by
  rcases normal_ways l with ⟨_, e⟩ | ⟨_, _, e⟩ | ⟨hv, hb, e⟩ <;> rw [e] at hx
  · cases hx
  · cases hx
  · obtain ⟨z, hz, rfl⟩ := List.mem_map.1 hx
    obtain ⟨⟨u, hu, e1⟩, e2⟩ := nf_mem Od.kl_tot hz
    obtain ⟨y, hy, rfl⟩ := List.mem_map.1 hu
    have hp := sum_pos (l := l.map kq) (a := z.1) (by
      intro v hv2
      obtain ⟨t, ht, rfl⟩ := List.mem_map.1 hv2
      exact (Od.ok_parts (Od.valid_ok hv ht)).1) ⟨kq y, hu, e1⟩
    have e3 : z.1 = key y := e1.symm
    refine ⟨ok_as (Od.valid_ok hv hy) (by unfold toIt; rw [e3]; rfl) (by unfold toIt; rw [e3]; rfl) (by unfold toIt; rw [e3]; rfl) (by unfold toIt; simp only; omega) (hb z hz), y, hy, by unfold toIt; rw [e3]; rfl, by unfold toIt; rw [e3]; rfl⟩
theorem normal_len (l : List It) : (normal l).1.length ≤ 100 := by
  rcases normal_ways l with ⟨_, e⟩ | ⟨_, _, e⟩ | ⟨hv, _, e⟩ <;> rw [e]
  · simp
  · simp
  · have h1 := Od.valid_len hv
    have h2 := nf_len (lt := Od.kl) (l.map kq)
    simp only [List.length_map] at h2 ⊢
    unfold sums
    omega
theorem normal_valid (l : List It) : Od.valid (normal l).1 = true := valid_of (normal_len l) (fun _ hx => (normal_item hx).1)
theorem normal_short {l : List It} (h : ∀ m ∈ l, Od.Short m) : ∀ m ∈ (normal l).1, Od.Short m := by
  intro m hm
  obtain ⟨_, y, hy, e1, e2⟩ := normal_item hm
  have := h y hy
  unfold Od.Short at *
  rw [e1, e2]
  exact this

/-- What is taken of an item. -/
def take1 (p : List UInt8) (n : Int) (x : It) : Int := if x.p = p then min n x.q else 0
def dstep (p : List UInt8) (s : List It × Int) (x : It) : List It × Int :=
  (if 0 < x.q - take1 p s.2 x then s.1 ++ [⟨x.o, x.p, x.q - take1 p s.2 x, x.d⟩] else s.1, s.2 - take1 p s.2 x)
def dfold (p : List UInt8) (l : List It) (n : Int) : List It × Int := l.foldl (dstep p) ([], n)
def deliver (l : List It) (p : List UInt8) (n : Int) : List It × Int × Int :=
  if (normal l).2 ≠ 0 then ([], 0, (normal l).2) else if n < 0 then ([], 0, 2) else ((dfold p (normal l).1 n).1, (dfold p (normal l).1 n).2, 0)
theorem take1_le {p : List UInt8} {n : Int} {x : It} (hn : 0 ≤ n) (hq : 0 ≤ x.q) : 0 ≤ take1 p n x ∧ take1 p n x ≤ n ∧ take1 p n x ≤ x.q := by
  unfold take1
  split <;> omega
theorem dfold_snoc (p : List UInt8) (l : List It) (x : It) (n : Int) : dfold p (l ++ [x]) n = dstep p (dfold p l n) x := by
  unfold dfold
  rw [List.foldl_append]
  rfl
theorem dfold_n {p : List UInt8} {n : Int} (hn : 0 ≤ n) : ∀ l : List It, (∀ x ∈ l, 0 ≤ x.q) → 0 ≤ (dfold p l n).2 ∧ (dfold p l n).2 ≤ n := by
  intro l
  unfold dfold
  have key : ∀ (l : List It) (s : List It × Int), 0 ≤ s.2 → s.2 ≤ n → (∀ x ∈ l, 0 ≤ x.q) → 0 ≤ (l.foldl (dstep p) s).2 ∧ (l.foldl (dstep p) s).2 ≤ n := by
    intro l
    induction l with
    | nil => intro s h1 h2 _; exact ⟨h1, h2⟩
    | cons x r ih =>
      intro s h1 h2 h3
      rw [List.foldl_cons]
      have ht := take1_le (p := p) (n := s.2) (x := x) h1 (h3 x (by simp))
      exact ih _ (by unfold dstep; simp only; omega) (by unfold dstep; simp only; omega) (fun y hy => h3 y (by simp [hy]))
  exact key l ([], n) hn (Int.le_refl n)
theorem dfold_len (p : List UInt8) (n : Int) : ∀ l : List It, (dfold p l n).1.length ≤ l.length := by
  intro l
  unfold dfold
  have key : ∀ (l : List It) (s : List It × Int), (l.foldl (dstep p) s).1.length ≤ s.1.length + l.length := by
    intro l
    induction l with
    | nil => intro s; simp
    | cons x r ih =>
      intro s
      have := ih (dstep p s x)
      rw [List.foldl_cons]
      have h2 : (dstep p s x).1.length ≤ s.1.length + 1 := by
        unfold dstep
        simp only
        split <;> simp
      rw [List.length_cons]
      omega
  have := key l ([], n)
  simpa using this
end Go.Proofs.YteldekkodhfkkaaGreatDoor.OdW
