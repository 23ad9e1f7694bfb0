/- Plain laws: two ways to tell whether a shape is valid say the same. Conditions: none. -/
import Derived.Test.YtnmmhcchpcbeeaaGreatGeM

namespace Go.Proofs.YtnmmhcchpcbeeaaGreat.Ge
def allFrom (p : Nat → Bool) : Nat → Nat → Bool
  | 0, _ => true
  | n + 1, i => p i && allFrom p n (i + 1)
theorem allFrom_iff {p : Nat → Bool} : ∀ {n i : Nat}, allFrom p n i = true ↔ ∀ j, i ≤ j → j < i + n → p j = true := by
  intro n
  induction n with
  | zero =>
    intro i
    exact iff_of_true rfl (fun j h1 h2 => by omega)
  | succ n ih =>
    intro i
    unfold allFrom
    rw [Bool.and_eq_true, ih]
    constructor
    · rintro ⟨h1, h2⟩ j hj hn
      by_cases h : j = i
      · exact h ▸ h1
      · exact h2 j (by omega) (by omega)
    · intro h
      exact ⟨h i (Nat.le_refl _) (by omega), fun j h1 h2 => h j (by omega) (by omega)⟩
theorem allFrom_step {p : Nat → Bool} {n k : Nat} (h : k < n) : allFrom p (n - k) k = (p k && allFrom p (n - (k + 1)) (k + 1)) := by
  rw [show n - k = (n - (k + 1)) + 1 by omega]
  rfl
theorem allFrom_end (p : Nat → Bool) (n : Nat) : allFrom p (n - n) n = true := by
  rw [Nat.sub_self]
  rfl
theorem allFrom_congr {p q : Nat → Bool} {n i : Nat} (h : ∀ j, i ≤ j → j < i + n → p j = q j) : allFrom p n i = allFrom q n i := by
  rw [Bool.eq_iff_iff, allFrom_iff, allFrom_iff]
  constructor
  · intro g j h1 h2
    rw [← h j h1 h2]
    exact g j h1 h2
  · intro g j h1 h2
    rw [h j h1 h2]
    exact g j h1 h2
theorem all_range (p : Nat → Bool) (n : Nat) : (List.range n).all p = allFrom p n 0 := by
  rw [Bool.eq_iff_iff, allFrom_iff, List.all_eq_true]
  simp only [List.mem_range]
  exact ⟨fun h j _ hj => h j (by omega), fun h j hj => h j (Nat.zero_le _) (by omega)⟩
/-- All of a list, by the index. -/
theorem all_list {α : Type} (l : List α) (d : α) (p : α → Bool) : l.all p = allFrom (fun i => p (l.getD i d)) l.length 0 := by
  rw [Bool.eq_iff_iff, allFrom_iff, List.all_eq_true]
  constructor
  · intro h j _ hj
    have hj' : j < l.length := by omega
    rw [List.getD_eq_getElem?_getD, List.getElem?_eq_getElem hj', Option.getD_some]
    exact h _ (List.getElem_mem hj')
  · intro h x hx
    obtain ⟨j, hj, rfl⟩ := List.getElem_of_mem hx
    have := h j (Nat.zero_le _) (by omega)
    rw [List.getD_eq_getElem?_getD, List.getElem?_eq_getElem hj, Option.getD_some] at this
    exact this
/-! ### Shapes -/
def apartB (a b : List V) : Bool := (edges a).all fun x => (edges b).all fun y => decide (meetK x y = 0)
def allB (r c : List V) (k : Int) : Bool := r.all fun v => decide (whereB c v = k)
def hAt (hs : List (List V)) (i : Nat) : List V := hs.getD i []
def total : List (List V) → Nat
  | [] => 0
  | r :: rs => r.length + total rs
def pairB (h k : List V) : Bool := apartB h k && (allB h k 0 && allB k h 0)
def holeB (o : List V) (hs : List (List V)) (i : Nat) : Bool := (allB (hAt hs i) o 2 && apartB (hAt hs i) o) && allFrom (fun k => pairB (hAt hs i) (hAt hs k)) i 0
def shapeB (o : List V) (hs : List (List V)) : Bool :=
  decide (hs.length ≤ 6) && ((o :: hs).all ringB && (decide (total (o :: hs) ≤ 80) && allFrom (holeB o hs) hs.length 0))
/-- The same, as the reference asks. -/
def rmeets (a b : List V) : Bool := (edges a).any fun x => (edges b).any fun y => decide (rmeetK x y ≠ 0)
def insideAll (a b : List V) : Bool := a.all fun v => decide (rwhereB b v = 2)
def insideAny (a b : List V) : Bool := a.any fun v => decide (rwhereB b v = 2)
def rpairB (h k : List V) : Bool := !(rmeets h k || (insideAny h k || insideAny k h))
def rholeB (o : List V) (hs : List (List V)) (i : Nat) : Bool := (rringB (hAt hs i) && (!rmeets (hAt hs i) o && insideAll (hAt hs i) o)) && allFrom (fun k => rpairB (hAt hs i) (hAt hs k)) i 0
def rshapeB (o : List V) (hs : List (List V)) : Bool :=
  (decide (hs.length ≤ 6) && rringB o) && (allFrom (rholeB o hs) hs.length 0 && decide (total (o :: hs) ≤ 80))
theorem meets_same (a b : List V) : (!rmeets a b) = apartB a b := by
  unfold rmeets apartB
  rw [Bool.eq_iff_iff]
  simp only [Bool.not_eq_true', List.any_eq_false, List.any_eq_true, List.all_eq_true, decide_eq_true_eq, ne_eq, not_exists, not_and, Decidable.not_not]
  constructor
  · intro h x hx y hy
    exact (meet_zero x y).2 (h x hx y hy)
  · intro h x hx y hy
    exact (meet_zero x y).1 (h x hx y hy)
theorem whereL_edge {l : List S} {p : V} : ∀ {ins}, whereL l p ins = 1 → ∃ e ∈ l, edgeOn e p = true := by
  induction l with
  | nil =>
    intro ins h
    unfold whereL at h
    split at h <;> omega
  | cons e es ih =>
    intro ins h
    unfold whereL at h
    by_cases c : edgeOn e p = true
    · exact ⟨e, by simp, c⟩
    · rw [if_neg c] at h
      obtain ⟨f, hf, hc⟩ := ih h
      exact ⟨f, by simp [hf], hc⟩
theorem whereL_range {l : List S} {p : V} : ∀ {ins}, whereL l p ins = 0 ∨ whereL l p ins = 1 ∨ whereL l p ins = 2 := by
  induction l with
  | nil =>
    intro ins
    unfold whereL
    cases ins <;> simp
  | cons e es ih =>
    intro ins
    unfold whereL
    split
    · simp
    · exact ih
theorem where_range (r : List V) (p : V) : whereB r p = 0 ∨ whereB r p = 1 ∨ whereB r p = 2 := by
  unfold whereB
  split
  · exact whereL_range
  · exact Or.inl rfl
theorem edges_get {r : List V} (h : 2 ≤ r.length) : edges r = (List.range r.length).map fun i => (r.getD i (0, 0), nxt r i) := by
  unfold edges
  rw [if_neg (by omega)]
theorem edge_near {r : List V} (h : near r = true) {e : S} (he : e ∈ edges r) : segOk e = true := by
  unfold edges at he
  split at he
  · cases he
  · simp only [List.mem_map, List.mem_range] at he
    obtain ⟨i, _, rfl⟩ := he
    exact seg_near h i _
/-- Rings whose edges do not meet do not have their vertices on each other. -/
theorem apart_off {a b : List V} (ha : near a = true) (hb : near b = true) (h2 : 2 ≤ a.length) (h : apartB a b = true) {v : V} (hv : v ∈ a) : whereB b v ≠ 1 := by
  intro hw
  unfold whereB at hw
  split at hw
  · obtain ⟨e, he, ho⟩ := whereL_edge hw
    obtain ⟨i, hi, rfl⟩ := List.getElem_of_mem hv
    have hf : (a[i], nxt a i) ∈ edges a := by
      rw [edges_get h2, List.mem_map]
      refine ⟨i, List.mem_range.2 hi, ?_⟩
      rw [List.getD_eq_getElem?_getD, List.getElem?_eq_getElem hi]
      rfl
    have h0 := (meet_zero _ _).1 (of_decide_eq_true (List.all_eq_true.1 (List.all_eq_true.1 h _ hf) _ he))
    have s1 := edge_near ha hf
    have s2 := edge_near hb he
    rw [rmeet_zero s1 s2, common_nil s1 s2] at h0
    have : on e a[i] = true := by
      rw [on_iff s2]
      unfold edgeOn at ho
      simp only [Bool.and_eq_true, decide_eq_true_eq] at ho
      exact ⟨by rw [inBox_iff]; omega, ho.1⟩
    rw [this] at h0
    cases h0.1.1
  · omega
theorem all_any {a b : List V} (h : ∀ v ∈ a, whereB b v ≠ 1) : (!insideAny a b) = allB a b 0 := by
  unfold insideAny allB
  rw [Bool.eq_iff_iff]
  simp only [Bool.not_eq_true', List.any_eq_false, List.all_eq_true, decide_eq_true_eq, where_same]
  constructor
  · intro g v hv
    have := where_range b v
    have := g v hv
    have := h v hv
    omega
  · intro g v hv
    have := g v hv
    omega
theorem apart_symm (a b : List V) (h : apartB a b = true) (ha : near a = true) (hb : near b = true) : apartB b a = true := by
  unfold apartB at *
  simp only [List.all_eq_true, decide_eq_true_eq] at *
  intro x hx y hy
  have h0 := (meet_zero _ _).1 (h y hy x hx)
  have s1 := edge_near hb hx
  have s2 := edge_near ha hy
  rw [meet_zero, rmeet_zero s1 s2, common_nil s1 s2]
  rw [rmeet_zero s2 s1, common_nil s2 s1] at h0
  exact ⟨⟨h0.1.2.2.1, h0.1.2.2.2, h0.1.1, h0.1.2.1⟩, fun c => h0.2 ⟨c.2, c.1⟩⟩
theorem ring_near {r : List V} (h : ringB r = true) : near r = true ∧ 3 ≤ r.length ∧ r.length ≤ 40 := by
  unfold ringB at h
  simp only [Bool.and_eq_true, decide_eq_true_eq] at h
  exact ⟨h.2.2.1, h.1, h.2.1⟩
theorem pair_same {h k : List V} (hh : ringB h = true) (hk : ringB k = true) : rpairB h k = pairB h k := by
  obtain ⟨n1, l1, _⟩ := ring_near hh
  obtain ⟨n2, l2, _⟩ := ring_near hk
  unfold rpairB pairB
  rw [Bool.not_or, Bool.not_or, meets_same]
  by_cases c : apartB h k = true
  · rw [all_any (fun v hv => apart_off n1 n2 (by omega) c hv), all_any (fun v hv => apart_off n2 n1 (by omega) (apart_symm _ _ c n1 n2) hv)]
  · rw [Bool.not_eq_true] at c
    rw [c]
    rfl
theorem insideAll_same (a b : List V) : insideAll a b = allB a b 2 := by
  unfold insideAll allB
  simp only [where_same]
theorem hAt_mem {hs : List (List V)} {i : Nat} (h : i < hs.length) : hAt hs i ∈ hs := by
  unfold hAt
  rw [List.getD_eq_getElem?_getD, List.getElem?_eq_getElem h, Option.getD_some]
  exact List.getElem_mem h
/-- The two ways to tell whether a shape is valid. -/
theorem shape_same (o : List V) (hs : List (List V)) : rshapeB o hs = shapeB o hs := by
  rw [Bool.eq_iff_iff]
  unfold rshapeB shapeB
  simp only [Bool.and_eq_true, decide_eq_true_eq, List.all_cons, ring_same, allFrom_iff]
  have key : (∀ j, 0 ≤ j → j < 0 + hs.length → rholeB o hs j = true) ↔ hs.all ringB = true ∧ ∀ j, 0 ≤ j → j < 0 + hs.length → holeB o hs j = true := by
    constructor
    · intro h
      have hr : ∀ i, i < hs.length → ringB (hAt hs i) = true := by
        intro i hi
        have := h i (Nat.zero_le _) (by omega)
        unfold rholeB at this
        simp only [Bool.and_eq_true, ring_same] at this
        exact this.1.1
      refine ⟨?_, ?_⟩
      · rw [List.all_eq_true]
        intro x hx
        obtain ⟨j, hj, rfl⟩ := List.getElem_of_mem hx
        have := hr j hj
        unfold hAt at this
        rwa [List.getD_eq_getElem?_getD, List.getElem?_eq_getElem hj, Option.getD_some] at this
      · intro j _ hj
        have := h j (Nat.zero_le _) hj
        unfold rholeB at this
        unfold holeB
        rw [meets_same, insideAll_same, Bool.and_eq_true, Bool.and_eq_true, Bool.and_eq_true] at this
        rw [Bool.and_eq_true, Bool.and_eq_true]
        refine ⟨⟨this.1.2.2, this.1.2.1⟩, ?_⟩
        rw [← this.2]
        exact allFrom_congr (fun k _ hk => (pair_same (hr j (by omega)) (hr k (by omega))).symm)
    · rintro ⟨h1, h2⟩ j _ hj
      have hr : ∀ i, i < hs.length → ringB (hAt hs i) = true := fun i hi => List.all_eq_true.1 h1 _ (hAt_mem hi)
      have := h2 j (Nat.zero_le _) hj
      unfold holeB at this
      unfold rholeB
      rw [Bool.and_eq_true, Bool.and_eq_true] at this
      rw [meets_same, insideAll_same, Bool.and_eq_true, Bool.and_eq_true, Bool.and_eq_true, ring_same]
      refine ⟨⟨hr j (by omega), this.1.2, this.1.1⟩, ?_⟩
      rw [← this.2]
      exact allFrom_congr (fun k _ hk => pair_same (hr j (by omega)) (hr k (by omega)))
  rw [key]
  constructor
  · rintro ⟨⟨a, b⟩, ⟨c, d⟩, e⟩
    exact ⟨a, ⟨b, c⟩, e, d⟩
  · rintro ⟨a, ⟨b, c⟩, e, d⟩
    exact ⟨⟨a, b⟩, ⟨c, d⟩, e⟩
end Go.Proofs.YtnmmhcchpcbeeaaGreat.Ge
