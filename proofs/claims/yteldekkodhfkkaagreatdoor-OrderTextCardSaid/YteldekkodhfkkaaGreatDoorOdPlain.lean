/- Sums by key in ascending order of the keys, in plain Lean. Conditions: the order of the keys is strict and total. -/
import Derived.WalkKit
namespace Go.Proofs.YteldekkodhfkkaaGreatDoor.Od

/-- A strict, total order. -/
structure Tot {α : Type} (lt : α → α → Bool) : Prop where
  irr : ∀ a, lt a a = false
  trans : ∀ a b c, lt a b = true → lt b c = true → lt a c = true
  tri : ∀ a b, lt a b = false → lt b a = false → a = b
section
variable {α : Type} {lt : α → α → Bool}
/-- A sum put in at its key's place. -/
def ins (lt : α → α → Bool) : List (α × Int) → α × Int → List (α × Int)
  | [], x => [x]
  | y :: r, x => if lt y.1 x.1 = true then y :: ins lt r x else if lt x.1 y.1 = true then x :: y :: r else (y.1, y.2 + x.2) :: r
def nf (lt : α → α → Bool) (l : List (α × Int)) : List (α × Int) := l.foldl (ins lt) []
def hasK (l : List (α × Int)) (k : α) : Prop := ∃ x ∈ l, x.1 = k
def Up (lt : α → α → Bool) (l : List (α × Int)) : Prop := l.Pairwise fun x y => lt x.1 y.1 = true
theorem hasK_perm {a b : List (α × Int)} (h : a.Perm b) (k : α) : hasK a k ↔ hasK b k := by
  unfold hasK
  exact ⟨fun ⟨x, h1, h2⟩ => ⟨x, h.mem_iff.1 h1, h2⟩, fun ⟨x, h1, h2⟩ => ⟨x, h.mem_iff.2 h1, h2⟩⟩
theorem hasK_app (a b : List (α × Int)) (k : α) : hasK (a ++ b) k ↔ hasK a k ∨ hasK b k := by
  unfold hasK
  constructor
  · rintro ⟨x, h1, h2⟩
    rcases List.mem_append.1 h1 with h | h
    · exact .inl ⟨x, h, h2⟩
    · exact .inr ⟨x, h, h2⟩
  · rintro (⟨x, h1, h2⟩ | ⟨x, h1, h2⟩)
    · exact ⟨x, List.mem_append.2 (.inl h1), h2⟩
    · exact ⟨x, List.mem_append.2 (.inr h1), h2⟩
theorem hasK_cons (x : α × Int) (r : List (α × Int)) (k : α) : hasK (x :: r) k ↔ x.1 = k ∨ hasK r k := by
  unfold hasK
  simp
theorem hasK_nil (k : α) : ¬ hasK ([] : List (α × Int)) k := by unfold hasK; simp
theorem ins_mem (l : List (α × Int)) (x : α × Int) : ∀ y ∈ ins lt l x, y.1 = x.1 ∨ ∃ z ∈ l, z.1 = y.1 := by
  induction l with
  | nil => intro y hy; unfold ins at hy; simp at hy; exact .inl (by rw [hy])
  | cons z r ih =>
    intro y hy
    unfold ins at hy
    split at hy
    · rcases List.mem_cons.1 hy with h | h
      · exact .inr ⟨z, by simp, by rw [h]⟩
      · rcases ih y h with h | ⟨u, h1, h2⟩
        · exact .inl h
        · exact .inr ⟨u, by simp [h1], h2⟩
    · split at hy
      · rcases List.mem_cons.1 hy with h | h
        · exact .inl (by rw [h])
        · exact .inr ⟨y, h, rfl⟩
      · rcases List.mem_cons.1 hy with h | h
        · exact .inr ⟨z, by simp, by rw [h]⟩
        · exact .inr ⟨y, by simp [h], rfl⟩
theorem nf_snoc (l : List (α × Int)) (x : α × Int) : nf lt (l ++ [x]) = ins lt (nf lt l) x := by unfold nf; rw [List.foldl_append]; rfl
theorem up_head {x : α × Int} {r : List (α × Int)} (T : Tot lt) (h : Up lt (x :: r)) : ¬ hasK r x.1 := by
  rintro ⟨y, hy, e⟩
  have := (List.pairwise_cons.1 h).1 y hy
  rw [e, T.irr] at this
  cases this
theorem ins_has (T : Tot lt) : ∀ (l : List (α × Int)) (x : α × Int) (k : α), hasK (ins lt l x) k ↔ x.1 = k ∨ hasK l k
  | [], x, k => by unfold ins; rw [hasK_cons]
  | y :: r, x, k => by
    unfold ins
    by_cases h1 : lt y.1 x.1 = true
    · rw [if_pos h1, hasK_cons, hasK_cons, ins_has T r x k]
      exact ⟨fun h => by rcases h with h | h | h <;> simp [h], fun h => by rcases h with h | h | h <;> simp [h]⟩
    · rw [if_neg h1]
      by_cases h2 : lt x.1 y.1 = true
      · rw [if_pos h2, hasK_cons]
      · rw [if_neg h2, hasK_cons, hasK_cons]
        have e : y.1 = x.1 := T.tri _ _ (by simpa using h1) (by simpa using h2)
        simp only [e]
        exact ⟨fun h => by rcases h with h | h <;> simp [h], fun h => by rcases h with h | h | h <;> simp [h]⟩
theorem ins_up (T : Tot lt) : ∀ (l : List (α × Int)) (x : α × Int), Up lt l → Up lt (ins lt l x)
  | [], x, _ => by unfold ins Up; simp
  | y :: r, x, h => by
    obtain ⟨h1, h2⟩ := List.pairwise_cons.1 h
    unfold ins
    by_cases hyx : lt y.1 x.1 = true
    · rw [if_pos hyx]
      refine List.pairwise_cons.2 ⟨fun z hz => ?_, ins_up T r x h2⟩
      rcases ins_mem r x z hz with e | ⟨u, hu, e⟩
      · rw [e]; exact hyx
      · rw [← e]; exact h1 u hu
    · rw [if_neg hyx]
      by_cases hxy : lt x.1 y.1 = true
      · rw [if_pos hxy]
        refine List.pairwise_cons.2 ⟨fun z hz => ?_, h⟩
        rcases List.mem_cons.1 hz with e | e
        · rw [e]; exact hxy
        · exact T.trans _ _ _ hxy (h1 z e)
      · rw [if_neg hxy]
        exact List.pairwise_cons.2 ⟨fun z hz => h1 z hz, h2⟩
theorem fold_up (T : Tot lt) : ∀ (l acc : List (α × Int)), Up lt acc → Up lt (l.foldl (ins lt) acc)
  | [], _, h => h
  | x :: r, acc, h => fold_up T r _ (ins_up T acc x h)
theorem fold_has (T : Tot lt) (k : α) : ∀ (l acc : List (α × Int)), hasK (l.foldl (ins lt) acc) k ↔ hasK acc k ∨ hasK l k
  | [], acc => by simp [hasK_nil]
  | x :: r, acc => by
    rw [List.foldl_cons, fold_has T k r, ins_has T, hasK_cons]
    exact ⟨fun h => by rcases h with (h | h) | h <;> simp [h], fun h => by rcases h with h | h | h <;> simp [h]⟩
theorem nf_up (T : Tot lt) (l : List (α × Int)) : Up lt (nf lt l) := fold_up T l [] (by unfold Up; simp)
theorem nf_has (T : Tot lt) (l : List (α × Int)) (k : α) : hasK (nf lt l) k ↔ hasK l k := by
  unfold nf; rw [fold_has T]; simp [hasK_nil]
end
section
variable {α : Type} [DecidableEq α] {lt : α → α → Bool}
def sumK (l : List (α × Int)) (k : α) : Int := match l with
  | [] => 0
  | x :: r => (if x.1 = k then x.2 else 0) + sumK r k
theorem sumK_nil (k : α) : sumK ([] : List (α × Int)) k = 0 := rfl
theorem sumK_cons (x : α × Int) (r : List (α × Int)) (k : α) : sumK (x :: r) k = (if x.1 = k then x.2 else 0) + sumK r k := rfl
theorem sumK_app : ∀ (a b : List (α × Int)) (k : α), sumK (a ++ b) k = sumK a k + sumK b k
  | [], b, k => by simp [sumK_nil]
  | x :: a, b, k => by rw [List.cons_append, sumK_cons, sumK_cons, sumK_app a b k]; omega
theorem sumK_perm {a b : List (α × Int)} (h : a.Perm b) (k : α) : sumK a k = sumK b k := by
  induction h with
  | nil => rfl
  | cons x _ ih => rw [sumK_cons, sumK_cons, ih]
  | swap x y l => rw [sumK_cons, sumK_cons, sumK_cons, sumK_cons]; omega
  | trans _ _ ih1 ih2 => exact ih1.trans ih2
theorem sumK_none {l : List (α × Int)} {k : α} (h : ¬ hasK l k) : sumK l k = 0 := by
  induction l with
  | nil => rfl
  | cons x r ih =>
    rw [hasK_cons] at h
    rw [sumK_cons, ih (fun e => h (.inr e)), if_neg (fun e => h (.inl e))]
    rfl
theorem ins_sum (T : Tot lt) : ∀ (l : List (α × Int)) (x : α × Int) (k : α), sumK (ins lt l x) k = sumK l k + if x.1 = k then x.2 else 0
  | [], x, k => by unfold ins; rw [sumK_cons, sumK_nil]; omega
  | y :: r, x, k => by
    unfold ins
    by_cases h1 : lt y.1 x.1 = true
    · rw [if_pos h1, sumK_cons, sumK_cons, ins_sum T r x k]; omega
    · rw [if_neg h1]
      by_cases h2 : lt x.1 y.1 = true
      · rw [if_pos h2, sumK_cons]; omega
      · rw [if_neg h2, sumK_cons, sumK_cons]
        have e : y.1 = x.1 := T.tri _ _ (by simpa using h1) (by simpa using h2)
        simp only [e]
        split <;> omega
theorem fold_sum (T : Tot lt) (k : α) : ∀ (l acc : List (α × Int)), sumK (l.foldl (ins lt) acc) k = sumK acc k + sumK l k
  | [], acc => by simp [sumK_nil]
  | x :: r, acc => by rw [List.foldl_cons, fold_sum T k r, ins_sum T, sumK_cons]; omega
theorem nf_sum (T : Tot lt) (l : List (α × Int)) (k : α) : sumK (nf lt l) k = sumK l k := by
  unfold nf; rw [fold_sum T, sumK_nil]; omega
/-- Ascending lists with the same keys and sums are one. -/
theorem up_uniq (T : Tot lt) : ∀ (a b : List (α × Int)), Up lt a → Up lt b → (∀ k, hasK a k ↔ hasK b k) → (∀ k, sumK a k = sumK b k) → a = b
  | [], [], _, _, _, _ => rfl
  | [], y :: b, _, _, h, _ => absurd ((h y.1).2 ⟨y, by simp, rfl⟩) (hasK_nil _)
  | x :: a, [], _, _, h, _ => absurd ((h x.1).1 ⟨x, by simp, rfl⟩) (hasK_nil _)
  | x :: a, y :: b, ha, hb, h, hs => by
    have first : ∀ {u v : α × Int} {r s : List (α × Int)}, Up lt (u :: r) → hasK (v :: s) u.1 → Up lt (v :: s) → lt u.1 v.1 = false := by
      intro u v r s _ h2 h3
      rw [hasK_cons] at h2
      rcases h2 with e | ⟨z, hz, e⟩
      · rw [e]; exact T.irr _
      · have := (List.pairwise_cons.1 h3).1 z hz
        rw [e] at this
        cases hl : lt u.1 v.1
        · rfl
        · have := T.trans _ _ _ hl this
          rw [T.irr] at this; cases this
    have e1 : x.1 = y.1 := T.tri _ _ (first ha ((h x.1).1 ⟨x, by simp, rfl⟩) hb) (first hb ((h y.1).2 ⟨y, by simp, rfl⟩) ha)
    have hna := up_head T ha
    have hnb := up_head T hb
    have e2 : x.2 = y.2 := by
      have := hs x.1
      rw [sumK_cons, sumK_cons, sumK_none hna, if_pos rfl, if_pos e1.symm, e1, sumK_none hnb] at this
      omega
    have exy : x = y := Prod.ext e1 e2
    subst exy
    congr 1
    refine up_uniq T a b (List.pairwise_cons.1 ha).2 (List.pairwise_cons.1 hb).2 (fun k => ?_) (fun k => ?_)
    · have := h k
      rw [hasK_cons, hasK_cons] at this
      by_cases e : x.1 = k
      · subst e
        exact ⟨fun h => absurd h hna, fun h => absurd h hnb⟩
      · exact ⟨fun h => (this.1 (.inr h)).resolve_left e, fun h => (this.2 (.inr h)).resolve_left e⟩
    · have := hs k
      rw [sumK_cons, sumK_cons] at this
      omega
/-- The sums of a list in ascending order, however they were found. -/
theorem nf_of (T : Tot lt) {l m : List (α × Int)} (hm : Up lt m) (hh : ∀ k, hasK m k ↔ hasK l k) (hs : ∀ k, sumK m k = sumK l k) : m = nf lt l :=
  up_uniq T _ _ hm (nf_up T l) (fun k => (hh k).trans (nf_has T l k).symm) (fun k => (hs k).trans (nf_sum T l k).symm)
theorem nf_same (T : Tot lt) {l m : List (α × Int)} (hh : ∀ k, hasK m k ↔ hasK l k) (hs : ∀ k, sumK m k = sumK l k) : nf lt m = nf lt l :=
  nf_of T (nf_up T m) (fun k => (nf_has T m k).trans (hh k)) (fun k => (nf_sum T m k).trans (hs k))
theorem nf_nf (T : Tot lt) (l : List (α × Int)) : nf lt (nf lt l) = nf lt l := nf_same T (nf_has T l) (nf_sum T l)
theorem nf_perm (T : Tot lt) {l m : List (α × Int)} (h : m.Perm l) : nf lt m = nf lt l := nf_same T (hasK_perm h) (sumK_perm h)
theorem nf_app (T : Tot lt) (l m : List (α × Int)) : nf lt (nf lt l ++ nf lt m) = nf lt (l ++ m) :=
  nf_same T (fun k => by rw [hasK_app, hasK_app, nf_has T, nf_has T]) (fun k => by rw [sumK_app, sumK_app, nf_sum T, nf_sum T])
end

/-- The order of texts. -/
def sl (a b : List UInt8) : Bool := Op.bytesLess a b
theorem sl_irr : ∀ a, sl a a = false
  | [] => rfl
  | c :: r => by
    have := sl_irr r
    unfold sl at this ⊢
    unfold Op.bytesLess
    rw [this]
    simp
theorem sl_cons (a b : UInt8) (x y : List UInt8) : sl (a :: x) (b :: y) = (decide (a < b) || (decide (a = b) && sl x y)) := by
  unfold sl
  rw [Op.bytesLess]
  rfl
theorem sl_tri : ∀ a b, sl a b = false → sl b a = false → a = b
  | [], [], _, _ => rfl
  | [], c :: r, h, _ => by cases h
  | c :: r, [], _, h => by cases h
  | c :: r, d :: s, h1, h2 => by
    rw [sl_cons] at h1 h2
    simp only [Bool.or_eq_false_iff, Bool.and_eq_false_imp, decide_eq_false_iff_not, decide_eq_true_eq] at h1 h2
    have e : c = d := by
      apply UInt8.toNat_inj.1
      have := h1.1
      have := h2.1
      simp only [UInt8.lt_iff_toNat_lt] at *
      omega
    subst e
    rw [sl_tri r s (h1.2 rfl) (h2.2 rfl)]
theorem sl_trans : ∀ a b c, sl a b = true → sl b c = true → sl a c = true
  | _, [], _, h, _ => by cases h2 : (‹List UInt8› : List UInt8) <;> simp_all [sl, Op.bytesLess]
  | _, _ :: _, [], _, h => by cases h
  | [], _ :: _, _ :: _, _, _ => rfl
  | a :: x, b :: y, c :: z, h1, h2 => by
    rw [sl_cons] at h1 h2 ⊢
    simp only [Bool.or_eq_true, Bool.and_eq_true, decide_eq_true_eq, UInt8.lt_iff_toNat_lt] at h1 h2 ⊢
    rcases h1 with h1 | ⟨rfl, h1⟩
    · rcases h2 with h2 | ⟨rfl, h2⟩
      · exact .inl (by omega)
      · exact .inl h1
    · rcases h2 with h2 | ⟨rfl, h2⟩
      · exact .inl h2
      · exact .inr ⟨rfl, sl_trans x y z h1 h2⟩
theorem sl_tot : Tot sl := ⟨sl_irr, sl_trans, sl_tri⟩

/-- A key of an item: when it is due, its order, its part. -/
structure Ky where
  d : Int
  o : List UInt8
  p : List UInt8
  deriving DecidableEq
def kl (a b : Ky) : Bool := if a.d ≠ b.d then decide (a.d < b.d) else if a.o ≠ b.o then sl a.o b.o else sl a.p b.p
theorem kl_tot : Tot kl where
  irr a := by unfold kl; simp [sl_irr]
  tri a b h1 h2 := by
    unfold kl at h1 h2
    by_cases hd : a.d = b.d
    · rw [if_neg (by simp [hd])] at h1
      rw [if_neg (by simp [hd])] at h2
      by_cases ho : a.o = b.o
      · rw [if_neg (by simp [ho])] at h1
        rw [if_neg (by simp [ho])] at h2
        have hp := sl_tri _ _ h1 h2
        cases a; cases b; simp_all
      · rw [if_pos ho] at h1
        rw [if_pos (fun e => ho e.symm)] at h2
        exact absurd (sl_tri _ _ h1 h2) ho
    · rw [if_pos hd] at h1
      rw [if_pos (fun e => hd e.symm)] at h2
      simp only [decide_eq_false_iff_not] at h1 h2
      omega
  trans a b c h1 h2 := by
    unfold kl at h1 h2 ⊢
    by_cases hd : a.d = b.d
    · rw [if_neg (by simp [hd])] at h1
      rw [hd]
      by_cases hd2 : b.d = c.d
      · rw [if_neg (by simp [hd2])] at h2 ⊢
        by_cases ho : a.o = b.o
        · rw [if_neg (by simp [ho])] at h1
          rw [ho]
          by_cases ho2 : b.o = c.o
          · rw [if_neg (by simp [ho2])] at h2 ⊢
            exact sl_trans _ _ _ h1 h2
          · rw [if_pos ho2] at h2 ⊢
            exact h2
        · rw [if_pos ho] at h1
          by_cases ho2 : b.o = c.o
          · rw [if_pos (by rw [← ho2]; exact ho), ← ho2]
            exact h1
          · rw [if_pos ho2] at h2
            have h3 := sl_trans _ _ _ h1 h2
            rw [if_pos (by intro e; rw [e, sl_irr] at h3; cases h3)]
            exact h3
      · rw [if_pos hd2] at h2 ⊢
        exact h2
    · rw [if_pos hd] at h1
      simp only [decide_eq_true_eq] at h1
      by_cases hd2 : b.d = c.d
      · rw [if_pos (by rw [← hd2]; exact hd), ← hd2]
        simpa using h1
      · rw [if_pos hd2] at h2
        simp only [decide_eq_true_eq] at h2
        rw [if_pos (by omega)]
        simp; omega
end Go.Proofs.YteldekkodhfkkaaGreatDoor.Od
