/- Plain laws: two ways to tell how segments meet, whether a ring is valid, and where a point lies, say the same. Conditions: none. -/
import Derived.Test.YtnmmhcchpcbeeaaGreatGePlain

namespace Go.Proofs.YtnmmhcchpcbeeaaGreat.Ge
theorem sgn_zero {n : Int} : sgn n = 0 ↔ n = 0 := by unfold sgn; split <;> (try split) <;> omega
theorem sgn_pos {n : Int} : 0 < sgn n ↔ 0 < n := by unfold sgn; split <;> (try split) <;> omega
theorem sgn_neg {n : Int} : sgn n < 0 ↔ n < 0 := by unfold sgn; split <;> (try split) <;> omega
theorem sgn_prod {m n : Int} : sgn m * sgn n < 0 ↔ (m < 0 ∧ 0 < n) ∨ (0 < m ∧ n < 0) := by
  unfold sgn
  by_cases h1 : m < 0
  · by_cases h2 : n < 0
    · simp [h1, h2] <;> omega
    · by_cases h3 : n = 0
      · simp [h3]
      · simp [h1, h2, h3] <;> omega
  · by_cases h1' : m = 0
    · simp [h1']
    · by_cases h2 : n < 0
      · simp [h1, h1', h2] <;> omega
      · by_cases h3 : n = 0
        · simp [h3]
        · simp [h1, h1', h2, h3]
/-- A coordinate between: d g = a u. -/
theorem betw {d a u g : Int} (hd : 0 < d) (h : d * g = a * u) (h0 : 0 ≤ a) (h1 : a ≤ d) : min 0 u ≤ g ∧ g ≤ max 0 u := by
  rcases Int.le_total 0 u with hu | hu
  · have p0 : 0 ≤ a * u := Int.mul_nonneg h0 hu
    have p1 : a * u ≤ d * u := Int.mul_le_mul_of_nonneg_right h1 hu
    have q0 : 0 ≤ g := by
      rw [← h] at p0
      exact Int.nonneg_of_mul_nonneg_right p0 hd
    have q1 : g ≤ u := by
      rw [← h] at p1
      exact Int.le_of_mul_le_mul_left p1 hd
    omega
  · have p0 : a * u ≤ 0 := Int.mul_nonpos_of_nonneg_of_nonpos h0 hu
    have p1 : d * u ≤ a * u := Int.mul_le_mul_of_nonpos_right h1 hu
    have q0 : g ≤ 0 := by
      rw [← h] at p0
      have : d * g ≤ d * 0 := by omega
      exact Int.le_of_mul_le_mul_left this hd
    have q1 : u ≤ g := by
      rw [← h] at p1
      exact Int.le_of_mul_le_mul_left p1 hd
    omega
theorem betw_inv {d a u g : Int} (hd : 0 < d) (h : d * g = a * u) (hu : u ≠ 0) (h0 : min 0 u ≤ g) (h1 : g ≤ max 0 u) : 0 ≤ a ∧ a ≤ d := by
  rcases Int.lt_or_gt_of_ne hu with h' | h'
  · have q0 : g ≤ 0 := by omega
    have q1 : u ≤ g := by omega
    have p0 : d * u ≤ d * g := Int.mul_le_mul_of_nonneg_left q1 (by omega)
    have p1 : d * g ≤ d * 0 := Int.mul_le_mul_of_nonneg_left q0 (by omega)
    rw [h] at p0 p1
    constructor
    · false_or_by_contra
      have : 0 < a * u := Int.mul_pos_of_neg_of_neg (by omega) h'
      omega
    · have : a * (-u) ≤ d * (-u) := by grind
      exact Int.le_of_mul_le_mul_right this (by omega)
  · have q0 : 0 ≤ g := by omega
    have q1 : g ≤ u := by omega
    have p0 : d * g ≤ d * u := Int.mul_le_mul_of_nonneg_left q1 (by omega)
    have p1 : d * 0 ≤ d * g := Int.mul_le_mul_of_nonneg_left q0 (by omega)
    rw [h] at p0 p1
    constructor
    · false_or_by_contra
      have : a * u < 0 := Int.mul_neg_of_neg_of_pos (by omega) h'
      omega
    · exact Int.le_of_mul_le_mul_right p0 h'
theorem inBox_iff {a b p : V} : inBox a b p = true ↔ (min 0 (b.1 - a.1) ≤ p.1 - a.1 ∧ p.1 - a.1 ≤ max 0 (b.1 - a.1)) ∧ min 0 (b.2 - a.2) ≤ p.2 - a.2 ∧ p.2 - a.2 ≤ max 0 (b.2 - a.2) := by
  unfold inBox
  simp only [Bool.and_eq_true, decide_eq_true_eq]
  omega
/-- A point at the share a / d of a segment lies in its box exactly if the share is from 0 to 1. -/
theorem box_share {a b p : V} {d k : Int} (hd : 0 < d) (hx : d * (p.1 - a.1) = k * (b.1 - a.1)) (hy : d * (p.2 - a.2) = k * (b.2 - a.2)) (hn : b.1 - a.1 ≠ 0 ∨ b.2 - a.2 ≠ 0) : inBox a b p = true ↔ 0 ≤ k ∧ k ≤ d := by
  rw [inBox_iff]
  constructor
  · rintro ⟨⟨h1, h2⟩, h3, h4⟩
    rcases hn with h | h
    · exact betw_inv hd hx h h1 h2
    · exact betw_inv hd hy h h3 h4
  · rintro ⟨h1, h2⟩
    exact ⟨betw hd hx h1 h2, betw hd hy h1 h2⟩
def both (s t : S) (p : V) : Bool := on s p && on t p
def endsOf (s t : S) : List V := [s.1, s.2, t.1, t.2]
def commonL (s t : S) : List V := (endsOf s t).filter (both s t)
def insV : List V → V → List V
  | [], v => [v]
  | o :: os, v => if less o v then o :: insV os v else if o = v then o :: os else v :: o :: os
def sortedV (l : List V) : List V := l.foldl insV []
def rside (s : S) (p : V) : Int := if segOk s && within p 4000 then turn s.1 s.2 p else 0
def rmeetK (s t : S) : Int :=
  if segOk s && segOk t then
    if 1 < (sortedV (commonL s t)).length then 3
    else if (sortedV (commonL s t)).length = 1 then 1
    else if rside s t.1 * rside s t.2 < 0 ∧ rside t s.1 * rside t s.2 < 0 then 2
    else 0
  else 0
theorem insV_ne (l : List V) (v : V) : insV l v ≠ [] := by
  cases l with
  | nil => simp [insV]
  | cons o os =>
    unfold insV
    split
    · simp
    · split <;> simp
theorem foldl_ne {l : List V} : ∀ a, a ≠ [] → l.foldl insV a ≠ [] := by
  induction l with
  | nil => intro a h; exact h
  | cons x xs ih => intro a _; exact ih _ (insV_ne a x)
theorem sorted_nil {l : List V} : sortedV l = [] ↔ l = [] := by
  constructor
  · intro h
    cases l with
    | nil => rfl
    | cons x xs => exact absurd h (foldl_ne (l := xs) (insV [] x) (insV_ne [] x))
  · rintro rfl
    rfl
theorem less_self (v : V) : less v v = false := by simp [less]
theorem sorted_one {l : List V} {q : V} (h : ∀ p ∈ l, p = q) (hn : l ≠ []) : sortedV l = [q] := by
  have hk : ∀ m : List V, (∀ p ∈ m, p = q) → m.foldl insV [q] = [q] := by
    intro m
    induction m with
    | nil => intro _; rfl
    | cons x xs ih =>
      intro hm
      have hx : x = q := hm x (by simp)
      subst hx
      simp only [List.foldl_cons, insV, less_self, Bool.false_eq_true, if_false, if_true]
      exact ih (fun p hp => hm p (by simp [hp]))
  cases l with
  | nil => exact absurd rfl hn
  | cons x xs =>
    have hx : x = q := h x (by simp)
    subst hx
    exact hk xs (fun p hp => h p (by simp [hp]))
theorem rmeet_zero {s t : S} (hs : segOk s = true) (ht : segOk t = true) : rmeetK s t = 0 ↔ commonL s t = [] ∧ ¬ (turn s.1 s.2 t.1 * turn s.1 s.2 t.2 < 0 ∧ turn t.1 t.2 s.1 * turn t.1 t.2 s.2 < 0) := by
  have ws := hs
  have wt := ht
  simp only [segOk, Bool.and_eq_true] at ws wt
  unfold rmeetK rside
  simp only [hs, ht, ws.1, ws.2, wt.1, wt.2, Bool.and_self, if_true]
  by_cases hc : commonL s t = []
  · rw [hc, show sortedV [] = [] from rfl]
    simp
  · have hl : 0 < (sortedV (commonL s t)).length := by
      rcases Nat.eq_zero_or_pos (sortedV (commonL s t)).length with h | h
      · exact absurd (sorted_nil.1 (List.length_eq_zero_iff.1 h)) hc
      · exact h
    simp only [hc, false_and, iff_false]
    split
    · simp
    · rw [if_pos (by omega)]
      simp
theorem box_share' {a b p : V} {d k : Int} (hd : d ≠ 0) (hx : d * (p.1 - a.1) = k * (b.1 - a.1)) (hy : d * (p.2 - a.2) = k * (b.2 - a.2)) (hn : b.1 - a.1 ≠ 0 ∨ b.2 - a.2 ≠ 0) : inBox a b p = true ↔ (0 < d → 0 ≤ k ∧ k ≤ d) ∧ (d < 0 → d ≤ k ∧ k ≤ 0) := by
  rcases Int.lt_or_gt_of_ne hd with h | h
  · rw [box_share (d := -d) (k := -k) (by omega) (by grind) (by grind) hn]
    omega
  · rw [box_share h hx hy hn]
    omega
theorem on_self1 {s : S} (h : segOk s = true) : on s s.1 = true := by
  unfold on
  rw [h, Bool.true_and, Bool.and_eq_true, inBox_iff, decide_eq_true_eq]
  refine ⟨by omega, ?_⟩
  unfold turn
  rw [sgn_zero]
  simp only [cross, sub]
  grind
theorem on_self2 {s : S} (h : segOk s = true) : on s s.2 = true := by
  unfold on
  rw [h, Bool.true_and, Bool.and_eq_true, inBox_iff, decide_eq_true_eq]
  refine ⟨by omega, ?_⟩
  unfold turn
  rw [sgn_zero]
  simp only [cross, sub]
  grind
theorem on_iff {s : S} {p : V} (h : segOk s = true) : on s p = true ↔ inBox s.1 s.2 p = true ∧ cross (sub s.2 s.1) (sub p s.1) = 0 := by
  unfold on turn
  rw [h, Bool.true_and, Bool.and_eq_true, decide_eq_true_eq, sgn_zero]
theorem common_nil {s t : S} (hs : segOk s = true) (ht : segOk t = true) : commonL s t = [] ↔ on t s.1 = false ∧ on t s.2 = false ∧ on s t.1 = false ∧ on s t.2 = false := by
  unfold commonL endsOf both
  simp only [List.filter_eq_nil_iff, List.mem_cons, List.not_mem_nil, or_false, forall_eq_or_imp, forall_eq, on_self1 hs, on_self2 hs, on_self1 ht, on_self2 ht, Bool.true_and, Bool.and_true, Bool.not_eq_true]
theorem linesK_zero (s t : S) (d : Int) : linesK s t d = 0 ↔ (d < 0 → ¬ ((d ≤ cross (sub t.1 s.1) (sub t.2 t.1) ∧ cross (sub t.1 s.1) (sub t.2 t.1) ≤ 0) ∧ d ≤ cross (sub t.1 s.1) (sub s.2 s.1) ∧ cross (sub t.1 s.1) (sub s.2 s.1) ≤ 0)) ∧ (¬ d < 0 → ¬ ((0 ≤ cross (sub t.1 s.1) (sub t.2 t.1) ∧ cross (sub t.1 s.1) (sub t.2 t.1) ≤ d) ∧ 0 ≤ cross (sub t.1 s.1) (sub s.2 s.1) ∧ cross (sub t.1 s.1) (sub s.2 s.1) ≤ d)) := by
  unfold linesK
  generalize cross (sub t.1 s.1) (sub t.2 t.1) = a
  generalize cross (sub t.1 s.1) (sub s.2 s.1) = b
  grind
theorem lines_zero {s t : S} (hs : segOk s = true) (ht : segOk t = true) (hd : cross (sub s.2 s.1) (sub t.2 t.1) ≠ 0) : linesK s t (cross (sub s.2 s.1) (sub t.2 t.1)) = 0 ↔ rmeetK s t = 0 := by
  rw [rmeet_zero hs ht, common_nil hs ht]
  obtain ⟨⟨ax, ay⟩, bx, b_y⟩ := s
  obtain ⟨⟨cx, cy⟩, dx, dy⟩ := t
  rw [linesK_zero]
  unfold turn
  rw [sgn_prod, sgn_prod]
  simp only [← Bool.not_eq_true, on_iff hs, on_iff ht]
  simp only [cross, sub] at hd ⊢
  have e1 : (dx - cx) * (ay - cy) - (dy - cy) * (ax - cx) = (cx - ax) * (dy - cy) - (cy - ay) * (dx - cx) := by grind
  have e2 : (dx - cx) * (b_y - cy) - (dy - cy) * (bx - cx) = ((cx - ax) * (dy - cy) - (cy - ay) * (dx - cx)) - ((bx - ax) * (dy - cy) - (b_y - ay) * (dx - cx)) := by grind
  have e3 : (bx - ax) * (cy - ay) - (b_y - ay) * (cx - ax) = -((cx - ax) * (b_y - ay) - (cy - ay) * (bx - ax)) := by grind
  have e4 : (bx - ax) * (dy - ay) - (b_y - ay) * (dx - ax) = ((bx - ax) * (dy - cy) - (b_y - ay) * (dx - cx)) - ((cx - ax) * (b_y - ay) - (cy - ay) * (bx - ax)) := by grind
  have gx : ((bx - ax) * (dy - cy) - (b_y - ay) * (dx - cx)) * (cx - ax) = ((cx - ax) * (dy - cy) - (cy - ay) * (dx - cx)) * (bx - ax) - ((cx - ax) * (b_y - ay) - (cy - ay) * (bx - ax)) * (dx - cx) := by grind
  have gy : ((bx - ax) * (dy - cy) - (b_y - ay) * (dx - cx)) * (cy - ay) = ((cx - ax) * (dy - cy) - (cy - ay) * (dx - cx)) * (b_y - ay) - ((cx - ax) * (b_y - ay) - (cy - ay) * (bx - ax)) * (dy - cy) := by grind
  rw [e1, e2, e3, e4]
  have nu : bx - ax ≠ 0 ∨ b_y - ay ≠ 0 := by
    false_or_by_contra
    apply hd
    rw [show bx - ax = 0 by omega, show b_y - ay = 0 by omega]
    simp
  have nv : dx - cx ≠ 0 ∨ dy - cy ≠ 0 := by
    false_or_by_contra
    apply hd
    rw [show dx - cx = 0 by omega, show dy - cy = 0 by omega]
    simp
  clear e1 e2 e3 e4
  generalize hD : (bx - ax) * (dy - cy) - (b_y - ay) * (dx - cx) = D at *
  generalize hA : (cx - ax) * (dy - cy) - (cy - ay) * (dx - cx) = A at *
  generalize hB : (cx - ax) * (b_y - ay) - (cy - ay) * (bx - ax) = B at *
  clear hA hB hD
  have i1 : A = 0 → (inBox (cx, cy) (dx, dy) (ax, ay) = true ↔ (0 < D → 0 ≤ B ∧ B ≤ D) ∧ (D < 0 → D ≤ B ∧ B ≤ 0)) := fun h => box_share' hd (by simp only; grind) (by simp only; grind) nv
  have i2 : A = D → (inBox (cx, cy) (dx, dy) (bx, b_y) = true ↔ (0 < D → 0 ≤ B ∧ B ≤ D) ∧ (D < 0 → D ≤ B ∧ B ≤ 0)) := fun h => box_share' hd (by simp only; grind) (by simp only; grind) nv
  have i3 : B = 0 → (inBox (ax, ay) (bx, b_y) (cx, cy) = true ↔ (0 < D → 0 ≤ A ∧ A ≤ D) ∧ (D < 0 → D ≤ A ∧ A ≤ 0)) := fun h => box_share' hd (by simp only; grind) (by simp only; grind) nu
  have i4 : B = D → (inBox (ax, ay) (bx, b_y) (dx, dy) = true ↔ (0 < D → 0 ≤ A ∧ A ≤ D) ∧ (D < 0 → D ≤ A ∧ A ≤ 0)) := fun h => box_share' hd (by simp only; grind) (by simp only; grind) nu
  clear gx gy nu nv
  generalize inBox (cx, cy) (dx, dy) (ax, ay) = p1 at *
  generalize inBox (cx, cy) (dx, dy) (bx, b_y) = p2 at *
  generalize inBox (ax, ay) (bx, b_y) (cx, cy) = p3 at *
  generalize inBox (ax, ay) (bx, b_y) (dx, dy) = p4 at *
  have tt : ∀ x : Prop, (True → x) = x := fun x => by simp
  have ff : ∀ x : Prop, (False → x) = True := fun x => by simp
  rcases Int.lt_or_gt_of_ne hd with h | h
  · have n1 : (0 < D) = False := eq_false (by omega)
    have n2 : (D < 0) = True := eq_true h
    simp only [n1, n2, tt, ff, true_and, and_true, not_true_eq_false] at i1 i2 i3 i4 ⊢
    grind
  · have n1 : (0 < D) = True := eq_true h
    have n2 : (D < 0) = False := eq_false (by omega)
    simp only [n1, n2, tt, ff, true_and, and_true, not_false_eq_true] at i1 i2 i3 i4 ⊢
    grind
/-- A number by which points of small coordinates are ordered. -/
def key (p : V) : Int := p.2 * 10000 + p.1
theorem within_iff {p : V} {m : Int} : within p m = true ↔ -m ≤ p.1 ∧ p.1 ≤ m ∧ -m ≤ p.2 ∧ p.2 ≤ m := by
  unfold within
  simp only [Bool.and_eq_true, decide_eq_true_eq]
theorem less_key {a b : V} (ha : within a 4000 = true) (hb : within b 4000 = true) : less a b = decide (key a < key b) := by
  rw [within_iff] at ha hb
  rw [Bool.eq_iff_iff]
  unfold less key
  simp only [Bool.or_eq_true, Bool.and_eq_true, decide_eq_true_eq]
  omega
theorem vcmp_key {a b : V} (ha : within a 4000 = true) (hb : within b 4000 = true) : vcmp a b = sgn (key a - key b) := by
  rw [within_iff] at ha hb
  unfold vcmp sgn key
  grind
theorem key_inj {a b : V} (ha : within a 4000 = true) (hb : within b 4000 = true) (h : key a = key b) : a = b := by
  rw [within_iff] at ha hb
  unfold key at h
  exact Prod.ext (by omega) (by omega)
/-- On a line, the box holds what lies between by the order. -/
theorem box_key {s : S} {p : V} (hs : segOk s = true) (hn : s.1 ≠ s.2) (hc : cross (sub s.2 s.1) (sub p s.1) = 0) : inBox s.1 s.2 p = true ↔ (0 < key s.2 - key s.1 → 0 ≤ key p - key s.1 ∧ key p - key s.1 ≤ key s.2 - key s.1) ∧ (key s.2 - key s.1 < 0 → key s.2 - key s.1 ≤ key p - key s.1 ∧ key p - key s.1 ≤ 0) := by
  have w := hs
  simp only [segOk, Bool.and_eq_true] at w
  have hD : key s.2 - key s.1 ≠ 0 := by
    intro h
    exact hn (key_inj w.1 w.2 (by omega))
  have hu : s.2.1 - s.1.1 ≠ 0 ∨ s.2.2 - s.1.2 ≠ 0 := by
    false_or_by_contra
    exact hn (Prod.ext (by omega) (by omega))
  refine box_share' hD ?_ ?_ hu
  · simp only [cross, sub, key] at hc ⊢
    grind
  · simp only [cross, sub, key] at hc ⊢
    grind
theorem box_one {q p : V} (h : inBox q q p = true) : p = q := by
  rw [inBox_iff] at h
  exact Prod.ext (by omega) (by omega)
theorem on_ok {s : S} {p : V} (h : on s p = true) : inBox s.1 s.2 p = true := by
  unfold on at h
  simp only [Bool.and_eq_true] at h
  exact h.2.1
theorem turn_self (a p : V) : turn a a p = 0 := by
  unfold turn
  rw [sgn_zero]
  simp only [cross, sub]
  grind
theorem par_zero {u v g : V} (hu : u.1 ≠ 0 ∨ u.2 ≠ 0) (h1 : cross u g = 0) (h2 : cross u v = 0) : cross v g = 0 := by
  have e1 : u.1 * cross v g = 0 := by simp only [cross] at *; grind
  have e2 : u.2 * cross v g = 0 := by simp only [cross] at *; grind
  rcases hu with h | h
  · exact (Int.mul_eq_zero.1 e1).resolve_left h
  · exact (Int.mul_eq_zero.1 e2).resolve_left h
theorem dir_ne {a b : V} (h : a ≠ b) : (sub b a).1 ≠ 0 ∨ (sub b a).2 ≠ 0 := by
  false_or_by_contra
  exact h (Prod.ext (by simp only [sub] at *; omega) (by simp only [sub] at *; omega))
/-- The two ways to meet say 'None' of the same segments. -/
theorem meet_zero (s t : S) : meetK s t = 0 ↔ rmeetK s t = 0 := by
  by_cases hok : segOk s = true ∧ segOk t = true
  · obtain ⟨hs, ht⟩ := hok
    by_cases hd : cross (sub s.2 s.1) (sub t.2 t.1) = 0
    · rw [rmeet_zero hs ht, common_nil hs ht]
      have hm : meetK s t = if s.1 = s.2 ∧ on t s.1 = true then 1 else if t.1 = t.2 ∧ on s t.1 = true then 1 else if s.1 = s.2 ∨ t.1 = t.2 ∨ turn s.1 s.2 t.1 ≠ 0 then 0 else alongK s t := by
        unfold meetK
        rw [hs, ht, if_pos (by rfl), if_neg (by simpa using hd)]
      rw [hm]
      by_cases es : s.1 = s.2
      · by_cases o1 : on t s.1 = true
        · rw [if_pos ⟨es, o1⟩]
          simp [o1]
        · have o3 : ¬ on s t.1 = true := fun h => by
            have hb := on_ok h
            rw [← es] at hb
            have := box_one hb
            exact o1 (this ▸ on_self1 ht)
          have o4 : ¬ on s t.2 = true := fun h => by
            have hb := on_ok h
            rw [← es] at hb
            have := box_one hb
            exact o1 (this ▸ on_self2 ht)
          rw [if_neg (fun h => o1 h.2), if_neg (fun h => o3 h.2), if_pos (Or.inl es)]
          rw [Bool.not_eq_true] at o1 o3 o4
          refine iff_of_true rfl ⟨⟨o1, es ▸ o1, o3, o4⟩, ?_⟩
          rw [es, turn_self]
          simp
      · by_cases et : t.1 = t.2
        · by_cases o1 : on s t.1 = true
          · rw [if_neg (fun h => es h.1), if_pos ⟨et, o1⟩]
            simp [o1]
          · have o3 : ¬ on t s.1 = true := fun h => by
              have hb := on_ok h
              rw [← et] at hb
              have := box_one hb
              exact o1 (this ▸ on_self1 hs)
            have o4 : ¬ on t s.2 = true := fun h => by
              have hb := on_ok h
              rw [← et] at hb
              have := box_one hb
              exact o1 (this ▸ on_self2 hs)
            rw [if_neg (fun h => es h.1), if_neg (fun h => o1 h.2), if_pos (Or.inr (Or.inl et))]
            rw [Bool.not_eq_true] at o1 o3 o4
            refine iff_of_true rfl ⟨⟨o3, o4, o1, et ▸ o1⟩, ?_⟩
            rw [et, turn_self t.2 s.1]
            simp
        · have nu := dir_ne es
          have nv := dir_ne et
          have hd' : cross (sub t.2 t.1) (sub s.2 s.1) = 0 := by simp only [cross] at *; grind
          rw [if_neg (fun h => es h.1), if_neg (fun h => et h.1)]
          by_cases hg : turn s.1 s.2 t.1 = 0
          · rw [if_neg (by simp [es, et, hg]), hg]
            have c1 : cross (sub s.2 s.1) (sub t.1 s.1) = 0 := sgn_zero.1 hg
            have c2 : cross (sub s.2 s.1) (sub t.2 s.1) = 0 := by simp only [cross, sub] at *; grind
            have c3 : cross (sub t.2 t.1) (sub t.1 s.1) = 0 := par_zero nu c1 hd
            have c4 : cross (sub t.2 t.1) (sub s.1 t.1) = 0 := by simp only [cross, sub] at *; grind
            have c5 : cross (sub t.2 t.1) (sub s.2 t.1) = 0 := by simp only [cross, sub] at *; grind
            simp only [← Bool.not_eq_true, on_iff hs, on_iff ht, c1, c2, c4, c5, box_key hs es c1, box_key hs es c2, box_key ht et c4, box_key ht et c5, and_true, Int.zero_mul, Int.lt_irrefl, false_and, not_false_eq_true]
            have ws := hs
            have wt := ht
            simp only [segOk, Bool.and_eq_true] at ws wt
            have ks : key s.1 ≠ key s.2 := fun h => es (key_inj ws.1 ws.2 h)
            have kt : key t.1 ≠ key t.2 := fun h => et (key_inj wt.1 wt.2 h)
            have hal : alongK s t = 0 ↔ min (max (key s.1) (key s.2)) (max (key t.1) (key t.2)) < max (min (key s.1) (key s.2)) (min (key t.1) (key t.2)) := by
              have L : ∀ a b : V, within a 4000 = true → within b 4000 = true → within (lo a b) 4000 = true ∧ key (lo a b) = min (key a) (key b) ∧ within (hi a b) 4000 = true ∧ key (hi a b) = max (key a) (key b) := by
                intro a b ha hb
                unfold lo hi
                rw [less_key hb ha]
                by_cases h : key b < key a
                · simp only [h, decide_true, if_true]
                  exact ⟨hb, by omega, ha, by omega⟩
                · simp only [h, decide_false, Bool.false_eq_true, if_false]
                  exact ⟨ha, by omega, hb, by omega⟩
              obtain ⟨a1, a2, a3, a4⟩ := L _ _ ws.1 ws.2
              obtain ⟨b1, b2, b3, b4⟩ := L _ _ wt.1 wt.2
              unfold alongK
              rw [less_key a1 b1, less_key b3 a3]
              have hl : within (if decide (key (lo s.1 s.2) < key (lo t.1 t.2)) = true then lo t.1 t.2 else lo s.1 s.2) 4000 = true ∧ key (if decide (key (lo s.1 s.2) < key (lo t.1 t.2)) = true then lo t.1 t.2 else lo s.1 s.2) = max (min (key s.1) (key s.2)) (min (key t.1) (key t.2)) := by
                split
                · rename_i h
                  rw [decide_eq_true_eq] at h
                  exact ⟨b1, by omega⟩
                · rename_i h
                  rw [decide_eq_true_eq] at h
                  exact ⟨a1, by omega⟩
              have hh : within (if decide (key (hi t.1 t.2) < key (hi s.1 s.2)) = true then hi t.1 t.2 else hi s.1 s.2) 4000 = true ∧ key (if decide (key (hi t.1 t.2) < key (hi s.1 s.2)) = true then hi t.1 t.2 else hi s.1 s.2) = min (max (key s.1) (key s.2)) (max (key t.1) (key t.2)) := by
                split
                · rename_i h
                  rw [decide_eq_true_eq] at h
                  exact ⟨b3, by omega⟩
                · rename_i h
                  rw [decide_eq_true_eq] at h
                  exact ⟨a3, by omega⟩
              simp only [vcmp_key hl.1 hh.1, hl.2, hh.2]
              unfold sgn
              split <;> (try split) <;> (try split) <;> omega
            rw [hal]
            clear hal
            generalize key s.1 = a at *
            generalize key s.2 = b at *
            generalize key t.1 = c at *
            generalize key t.2 = d at *
            grind
          · rw [if_pos (Or.inr (Or.inr hg))]
            have g0 : cross (sub s.2 s.1) (sub t.1 s.1) ≠ 0 := fun h => hg (sgn_zero.2 h)
            have e2 : cross (sub s.2 s.1) (sub t.2 s.1) = cross (sub s.2 s.1) (sub t.1 s.1) := by simp only [cross, sub] at *; grind
            have g3 : cross (sub t.2 t.1) (sub t.1 s.1) ≠ 0 := fun h => g0 (par_zero nv h hd')
            have e4 : cross (sub t.2 t.1) (sub s.1 t.1) = - cross (sub t.2 t.1) (sub t.1 s.1) := by simp only [cross, sub] at *; grind
            have e5 : cross (sub t.2 t.1) (sub s.2 t.1) = - cross (sub t.2 t.1) (sub t.1 s.1) := by simp only [cross, sub] at *; grind
            refine iff_of_true rfl ⟨?_, ?_⟩
            · simp only [← Bool.not_eq_true, on_iff hs, on_iff ht, e2, e4, e5]
              exact ⟨fun h => by omega, fun h => by omega, fun h => by omega, fun h => by omega⟩
            · unfold turn
              rw [e2, sgn_prod]
              omega
    · have hm : meetK s t = linesK s t (cross (sub s.2 s.1) (sub t.2 t.1)) := by
        unfold meetK
        rw [hs, ht, if_pos (by rfl), if_pos hd]
      rw [hm]
      exact lines_zero hs ht hd
  · have h : (segOk s && segOk t) = false := by
      rw [Bool.eq_false_iff]
      intro h
      rw [Bool.and_eq_true] at h
      exact hok h
    unfold meetK rmeetK
    rw [h]
    simp
theorem touch_next {p q r : V} (h1 : segOk (p, q) = true) (h2 : segOk (q, r) = true) (ht : turn p q r ≠ 0) : rmeetK (p, q) (q, r) = 1 ∧ rmeetK (q, r) (p, q) = 1 := by
  have hc : cross (sub q p) (sub r p) ≠ 0 := fun h => ht (sgn_zero.2 h)
  have np : on (q, r) p = false := by
    rw [← Bool.not_eq_true, on_iff h2]
    rintro ⟨_, h⟩
    apply hc
    simp only [cross, sub] at *
    grind
  have nr : on (p, q) r = false := by
    rw [← Bool.not_eq_true, on_iff h1]
    rintro ⟨_, h⟩
    exact hc h
  have yq : on (p, q) q = true := on_self2 h1
  have zq : on (q, r) q = true := on_self1 h2
  have yp : on (p, q) p = true := on_self1 h1
  have zr : on (q, r) r = true := on_self2 h2
  have c1 : commonL (p, q) (q, r) = [q, q] := by
    unfold commonL endsOf both
    simp only [List.filter, np, nr, yq, zq, yp, zr, Bool.and_self, Bool.and_true, Bool.and_false]
  have c2 : commonL (q, r) (p, q) = [q, q] := by
    unfold commonL endsOf both
    simp only [List.filter, np, nr, yq, zq, yp, zr, Bool.and_self, Bool.and_true, Bool.and_false]
  have s1 : sortedV [q, q] = [q] := sorted_one (by simp) (by simp)
  unfold rmeetK
  rw [c1, c2, s1, h1, h2]
  simp
def at' (r : List V) (i : Nat) : V := r.getD i (0, 0)
def rbent (r : List V) : Bool := (List.range r.length).all fun i => decide (turn (at' r i) (nxt r i) (at' r ((i + 2) % r.length)) ≠ 0)
def rloose (r : List V) (i k : Nat) : Bool :=
  if k = i + 1 ∨ (i = 0 ∧ k + 1 = r.length) then decide (rmeetK (at' r i, nxt r i) (at' r k, nxt r k) = 1) else decide (rmeetK (at' r i, nxt r i) (at' r k, nxt r k) = 0)
def rringB (r : List V) : Bool :=
  decide (3 ≤ r.length) && (decide (r.length ≤ 40) && (near r && (rbent r && ((List.range r.length).all (fun i => (List.range r.length).all fun k => !decide (i < k) || rloose r i k) && decide (0 < area r)))))
theorem near_at {r : List V} (h : near r = true) (i : Nat) : within (at' r i) 2000 = true := by
  unfold at'
  rw [List.getD_eq_getElem?_getD]
  by_cases hi : i < r.length
  · rw [List.getElem?_eq_getElem hi, Option.getD_some]
    exact List.all_eq_true.1 h _ (List.getElem_mem hi)
  · rw [List.getElem?_eq_none (by omega)]
    decide
theorem within_more {p : V} {m n : Int} (h : within p m = true) (hm : m ≤ n) : within p n = true := by
  rw [within_iff] at *
  omega
theorem seg_near {r : List V} (h : near r = true) (i k : Nat) : segOk (at' r i, at' r k) = true := by
  unfold segOk
  rw [Bool.and_eq_true]
  exact ⟨within_more (near_at h i) (by decide), within_more (near_at h k) (by decide)⟩
theorem bent_iff {r : List V} : bent r = true ↔ ∀ i, i < r.length → turn (at' r ((i + r.length - 1) % r.length)) (at' r i) (at' r ((i + 1) % r.length)) ≠ 0 := by
  unfold bent lst nxt at'
  simp [List.all_eq_true]
theorem rbent_iff {r : List V} : rbent r = true ↔ ∀ i, i < r.length → turn (at' r i) (at' r ((i + 1) % r.length)) (at' r ((i + 2) % r.length)) ≠ 0 := by
  unfold rbent nxt at'
  simp [List.all_eq_true]
theorem bent_same {r : List V} (h3 : 3 ≤ r.length) : rbent r = bent r := by
  rw [Bool.eq_iff_iff, bent_iff, rbent_iff]
  constructor
  · intro h i hi
    have := h ((i + r.length - 1) % r.length) (Nat.mod_lt _ (by omega))
    rcases Nat.eq_zero_or_pos i with rfl | hp
    · have e1 : (0 + r.length - 1) % r.length = r.length - 1 := by rw [Nat.zero_add]; exact Nat.mod_eq_of_lt (by omega)
      rw [e1] at this ⊢
      rw [show r.length - 1 + 1 = r.length by omega, Nat.mod_self, show r.length - 1 + 2 = r.length + 1 by omega, Nat.add_mod_left] at this
      exact this
    · have e1 : (i + r.length - 1) % r.length = i - 1 := by
        rw [show i + r.length - 1 = (i - 1) + r.length by omega, Nat.add_mod_right, Nat.mod_eq_of_lt (by omega)]
      rw [e1] at this ⊢
      rw [show i - 1 + 1 = i by omega, Nat.mod_eq_of_lt hi, show i - 1 + 2 = i + 1 by omega] at this
      exact this
  · intro h i hi
    have := h ((i + 1) % r.length) (Nat.mod_lt _ (by omega))
    by_cases hl : i + 1 < r.length
    · rw [Nat.mod_eq_of_lt hl] at this ⊢
      rw [show i + 1 + r.length - 1 = i + r.length by omega, Nat.add_mod_right, Nat.mod_eq_of_lt hi] at this
      exact this
    · have hi' : i = r.length - 1 := by omega
      have e0 : (i + 1) % r.length = 0 := by rw [show i + 1 = r.length by omega, Nat.mod_self]
      have e1 : (0 + r.length - 1) % r.length = i := by rw [Nat.mod_eq_of_lt (by omega)]; omega
      have e2 : (i + 2) % r.length = 0 + 1 := by rw [show i + 2 = r.length + 1 by omega, Nat.add_mod_left, Nat.mod_eq_of_lt (by omega)]
      rw [e0] at this ⊢
      rw [e1, Nat.mod_eq_of_lt (show 0 + 1 < r.length by omega)] at this
      rw [e2]
      exact this
/-- The two ways to tell whether a ring is valid. -/
theorem ring_same (r : List V) : rringB r = ringB r := by
  unfold rringB ringB
  by_cases h3 : 3 ≤ r.length
  · by_cases hn : near r = true
    · rw [bent_same h3]
      by_cases hb : bent r = true
      · have hl : ∀ i k, i < r.length → k < r.length → i < k → rloose r i k = loose r i k := by
          intro i k hi hk hik
          have B := bent_iff.1 hb
          unfold rloose loose
          by_cases c : k = i + 1 ∨ (i = 0 ∧ k + 1 = r.length)
          · rw [if_pos c]
            have hr : (decide (k = i + 1) || ((decide (i = 0) && decide (k + 1 = r.length)) || decide (meetK (r.getD i (0, 0), nxt r i) (r.getD k (0, 0), nxt r k) = 0))) = true := by
              rcases c with c | ⟨c1, c2⟩
              · simp [c]
              · simp [c1, c2]
            rw [hr, decide_eq_true_eq]
            rcases c with c | ⟨c1, c2⟩
            · subst c
              have hb1 := B (i + 1) hk
              rw [show i + 1 + r.length - 1 = i + r.length by omega, Nat.add_mod_right, Nat.mod_eq_of_lt hi] at hb1
              have e : nxt r i = at' r (i + 1) := by unfold nxt at'; rw [Nat.mod_eq_of_lt hk]
              rw [e]
              exact (touch_next (seg_near hn i (i + 1)) (seg_near hn _ _) hb1).1
            · subst c1
              have hb1 := B 0 hi
              have e : nxt r k = at' r 0 := by unfold nxt at'; rw [show k + 1 = r.length by omega, Nat.mod_self]
              rw [show (0 + r.length - 1) % r.length = k by rw [Nat.mod_eq_of_lt (by omega)]; omega] at hb1
              rw [e]
              exact (touch_next (seg_near hn k 0) (seg_near hn 0 _) hb1).2
          · rw [if_neg c]
            have n1 : ¬ k = i + 1 := fun h => c (Or.inl h)
            have n2 : ¬ (i = 0 ∧ k + 1 = r.length) := fun h => c (Or.inr h)
            rw [Bool.eq_iff_iff]
            simp only [Bool.or_eq_true, Bool.and_eq_true, decide_eq_true_eq, n1, n2, false_or]
            exact (meet_zero _ _).symm
        have ha : ((List.range r.length).all fun i => (List.range r.length).all fun k => !decide (i < k) || rloose r i k) = ((List.range r.length).all fun i => (List.range r.length).all fun k => !decide (i < k) || loose r i k) := by
          rw [Bool.eq_iff_iff]
          simp only [List.all_eq_true, List.mem_range]
          constructor
          · intro h i hi k hk
            by_cases c : i < k
            · rw [← hl i k hi hk c]
              exact h i hi k hk
            · simp [c]
          · intro h i hi k hk
            by_cases c : i < k
            · rw [hl i k hi hk c]
              exact h i hi k hk
            · simp [c]
        rw [ha]
        generalize ((List.range r.length).all fun i => (List.range r.length).all fun k => !decide (i < k) || loose r i k) = q
        rw [hb, hn]
        cases q <;> cases decide (0 < area r) <;> simp
      · rw [Bool.not_eq_true] at hb
        rw [hb]
        simp
    · rw [Bool.not_eq_true] at hn
      rw [hn]
      simp
  · simp [h3]
/-- Does an edge bear a point? As the program asks. -/
def edgeOn (e : S) (p : V) : Bool :=
  decide (cross (sub e.2 e.1) (sub p e.1) = 0) && (decide (min (p.1 - e.1.1) (p.1 - e.2.1) ≤ 0) && (decide (0 ≤ max (p.1 - e.1.1) (p.1 - e.2.1)) && (decide (min (p.2 - e.1.2) (p.2 - e.2.2) ≤ 0) && decide (0 ≤ max (p.2 - e.1.2) (p.2 - e.2.2)))))
def edgeTurns (e : S) (p : V) : Bool :=
  (decide (0 ≤ p.2 - e.1.2) != decide (0 ≤ p.2 - e.2.2)) && (decide (0 ≤ p.2 - e.1.2) == decide (0 < cross (sub e.2 e.1) (sub p e.1)))
def whereL : List S → V → Bool → Int
  | [], _, ins => if ins then 2 else 0
  | e :: es, p, ins => if edgeOn e p then 1 else whereL es p (if edgeTurns e p then !ins else ins)
def whereB (r : List V) (p : V) : Int := if within p 4000 && ringB r then whereL (edges r) p false else 0
/-- The same, as the reference asks. -/
def redgeOn (e : S) (p : V) : Bool :=
  (decide (min e.1.1 e.2.1 ≤ p.1) && (decide (p.1 ≤ max e.1.1 e.2.1) && (decide (min e.1.2 e.2.2 ≤ p.2) && decide (p.2 ≤ max e.1.2 e.2.2)))) && decide (sgn (cross (sub e.2 e.1) (sub p e.1)) = 0)
def redgeTurns (e : S) (p : V) : Bool :=
  (decide (e.1.2 ≤ p.2) && decide (p.2 < e.2.2) && decide (0 < sgn (cross (sub e.2 e.1) (sub p e.1)))) || (decide (e.2.2 ≤ p.2) && decide (p.2 < e.1.2) && decide (sgn (cross (sub e.2 e.1) (sub p e.1)) < 0))
def rwhereL : List S → V → Bool → Int
  | [], _, ins => if ins then 2 else 0
  | e :: es, p, ins => if redgeOn e p then 1 else rwhereL es p (if redgeTurns e p then !ins else ins)
def rwhereB (r : List V) (p : V) : Int := if within p 4000 && rringB r then rwhereL (edges r) p false else 0
theorem edgeOn_same (e : S) (p : V) : redgeOn e p = edgeOn e p := by
  unfold redgeOn edgeOn
  rw [Bool.eq_iff_iff]
  simp only [Bool.and_eq_true, decide_eq_true_eq, sgn_zero]
  omega
theorem turns_aux (c : Int) (a b : Bool) (hz : c = 0 → ¬ (a = false ∧ b = true)) : ((a && !b && decide (0 < c)) || (b && !a && decide (c < 0))) = ((a != b) && (a == decide (0 < c))) := by
  rcases Int.lt_trichotomy c 0 with hc | hc | hc
  · have k1 : decide (0 < c) = false := decide_eq_false (by omega)
    have k2 : decide (c < 0) = true := decide_eq_true hc
    rw [k1, k2]
    cases a <;> cases b <;> rfl
  · subst hc
    have := hz rfl
    cases a <;> cases b <;> first | rfl | exact absurd ⟨rfl, rfl⟩ this
  · have k1 : decide (0 < c) = true := decide_eq_true hc
    have k2 : decide (c < 0) = false := decide_eq_false (by omega)
    rw [k1, k2]
    cases a <;> cases b <;> rfl
theorem edgeTurns_same {e : S} {p : V} (h : edgeOn e p = false) : redgeTurns e p = edgeTurns e p := by
  have hz : cross (sub e.2 e.1) (sub p e.1) = 0 → ¬ (p.2 < e.1.2 ∧ e.2.2 ≤ p.2) := by
    rintro hz ⟨h1, h2⟩
    have hs := box_share (a := e.1) (b := e.2) (p := p) (d := e.1.2 - e.2.2) (k := e.1.2 - p.2) (by omega) (by simp only [cross, sub] at hz; grind) (by grind) (Or.inr (by omega))
    have hi := hs.2 ⟨by omega, by omega⟩
    rw [inBox_iff] at hi
    have : edgeOn e p = true := by
      unfold edgeOn
      simp only [Bool.and_eq_true, decide_eq_true_eq]
      refine ⟨hz, ?_⟩
      omega
    rw [this] at h
    cases h
  have q1 : (0 < sgn (cross (sub e.2 e.1) (sub p e.1))) = (0 < cross (sub e.2 e.1) (sub p e.1)) := propext sgn_pos
  have q2 : (sgn (cross (sub e.2 e.1) (sub p e.1)) < 0) = (cross (sub e.2 e.1) (sub p e.1) < 0) := propext sgn_neg
  have e1 : decide (0 ≤ p.2 - e.1.2) = decide (e.1.2 ≤ p.2) := decide_eq_decide.2 (by omega)
  have e2 : decide (0 ≤ p.2 - e.2.2) = decide (e.2.2 ≤ p.2) := decide_eq_decide.2 (by omega)
  have e3 : decide (p.2 < e.1.2) = !decide (e.1.2 ≤ p.2) := by rw [← decide_not]; exact decide_eq_decide.2 (by omega)
  have e4 : decide (p.2 < e.2.2) = !decide (e.2.2 ≤ p.2) := by rw [← decide_not]; exact decide_eq_decide.2 (by omega)
  unfold redgeTurns edgeTurns
  rw [decide_eq_decide.2 (Iff.of_eq q1), decide_eq_decide.2 (Iff.of_eq q2), e1, e2, e3, e4]
  refine turns_aux _ _ _ (fun hc => ?_)
  rw [decide_eq_false_iff_not, decide_eq_true_eq]
  intro hh
  exact hz hc ⟨by omega, hh.2⟩
theorem whereL_same (l : List S) (p : V) : ∀ ins, rwhereL l p ins = whereL l p ins := by
  induction l with
  | nil => intro _; rfl
  | cons e es ih =>
    intro ins
    unfold rwhereL whereL
    rw [edgeOn_same]
    by_cases h : edgeOn e p = true
    · rw [if_pos h, if_pos h]
    · rw [if_neg h, if_neg h, ih, edgeTurns_same (by rwa [Bool.not_eq_true] at h)]
theorem where_same (r : List V) (p : V) : rwhereB r p = whereB r p := by
  unfold rwhereB whereB
  rw [ring_same]
  split
  · exact whereL_same _ _ _
  · rfl
end Go.Proofs.YtnmmhcchpcbeeaaGreat.Ge
