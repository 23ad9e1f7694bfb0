/- Walk: the plans of the law. Conditions: the system is little; the rows lie in memory. -/
import Derived.Test.YtjjohllfidmkjaaDoorPfFf
import Derived.Test.YtjjohllfidmkjaaDoorPfP3
import Derived.Test.YtjjohllfidmkjaaDoorPfT1

namespace Go.Proofs.YtjjohllfidmkjaaDoor.Pf
open Go

def refL (s : Syst) : List R4 → Nat → Option Nat
  | [], _ => none
  | r :: rs, i => if dead s r then some i else refL s rs (i + 1)
/-- The first row that no point of the box fulfils. -/
def refuted (s : Syst) : Option Nat := refL s s.rows 0
def optI : Option Nat → Int
  | some i => (i : Int)
  | none => -1
def wid1 (s : Syst) : Nat := if s.h0 - s.l0 < s.h1 - s.l1 then 1 else 0
def wid2 (s : Syst) : Nat := if hi s (wid1 s) - lo s (wid1 s) < s.h2 - s.l2 then 2 else wid1 s
/-- The number that divides the widest side; -1 at a single point. -/
def widest (s : Syst) : Int := if hi s (wid2 s) = lo s (wid2 s) then -1 else (wid2 s : Int) + 3 * ((lo s (wid2 s) + hi s (wid2 s)) / 2)
/-- The tree of a system; none if a point is left. -/
def made : Nat → Syst → Option T
  | 0, s => match refuted s with
    | some i => some (.mk 0 [] [(i : Int)])
    | none => none
  | f + 1, s => match refuted s with
    | some i => some (.mk 0 [] [(i : Int)])
    | none => match parts s (widest s) with
      | none => none
      | some (a, b) => match made f a with
        | none => none
        | some ta => match made f b with
          | none => none
          | some tb => some (.mk (widest s) [ta, tb] [])
/-- What Build makes, with the number of nodes so far. -/
def bld : Nat → Syst → Nat → Except Int (T × Nat)
  | 0, s, n => if 2000 < n + 1 then .error 9 else match refuted s with
    | some i => .ok (.mk 0 [] [(i : Int)], n + 1)
    | none => .error 8
  | f + 1, s, n => if 2000 < n + 1 then .error 9 else match refuted s with
    | some i => .ok (.mk 0 [] [(i : Int)], n + 1)
    | none => match parts s (widest s) with
      | none => .error 8
      | some (a, b) => match bld f a (n + 1) with
        | .error e => .error e
        | .ok (ta, n1) => match bld f b n1 with
          | .error e => .error e
          | .ok (tb, n2) => .ok (.mk (widest s) [ta, tb] [], n2)
theorem refL_some {s : Syst} : ∀ (rs : List R4) (i j : Nat), refL s rs i = some j → i ≤ j ∧ ∃ r, rs[j - i]? = some r ∧ dead s r = true
  | [], _, _, h => by cases h
  | r :: rs, i, j, h => by
    unfold refL at h
    split at h
    · rename_i hd
      cases h
      exact ⟨Nat.le_refl _, r, by simp, hd⟩
    · obtain ⟨h1, r2, h2, h3⟩ := refL_some rs (i + 1) j h
      refine ⟨by omega, r2, ?_, h3⟩
      rw [show j - i = j - (i + 1) + 1 by omega]
      simpa using h2
theorem refL_none {s : Syst} : ∀ (rs : List R4) (i : Nat), refL s rs i = none → ∀ r ∈ rs, dead s r = false
  | [], _, _, r, hr => by cases hr
  | x :: rs, i, h, r, hr => by
    unfold refL at h
    split at h
    · cases h
    · rename_i hd
      rcases List.mem_cons.mp hr with e | e
      · rw [e]; simpa using hd
      · exact refL_none rs (i + 1) h r e
theorem refL_lt {s : Syst} {rs : List R4} {i j : Nat} (h : refL s rs i = some j) : j < i + rs.length := by
  obtain ⟨h1, r, h2, _⟩ := refL_some rs i j h
  have := (List.getElem?_eq_some_iff.mp h2).1
  omega
theorem refuted_proves {s : Syst} {i : Nat} (h : refuted s = some i) : proves s [(i : Int)] = true := by
  obtain ⟨_, r, h2, h3⟩ := refL_some _ _ _ h
  have h4 := refL_lt h
  show proves1 s i = true
  unfold proves1
  rw [show (i : Int).toNat = i by omega, show s.rows[i]? = some r by simpa using h2]
  simp only [h3, Bool.and_true, Bool.and_eq_true, decide_eq_true_eq]
  omega
theorem widest_point {s : Syst} (hb : Box s) (h : widest s < 0) : s.l0 = s.h0 ∧ s.l1 = s.h1 ∧ s.l2 = s.h2 := by
  obtain ⟨p0, q0, r0, p1, q1, r1, p2, q2, r2⟩ := hb
  by_cases c1 : s.h0 - s.l0 < s.h1 - s.l1
  · have e1 : wid1 s = 1 := by unfold wid1; rw [if_pos c1]
    by_cases c2 : s.h1 - s.l1 < s.h2 - s.l2
    · have e2 : wid2 s = 2 := by unfold wid2; rw [e1]; exact if_pos c2
      unfold widest at h
      rw [e2] at h
      simp only [lo, hi] at h
      split at h <;> omega
    · have e2 : wid2 s = 1 := by unfold wid2; rw [e1]; exact if_neg c2
      unfold widest at h
      rw [e2] at h
      simp only [lo, hi] at h
      split at h <;> omega
  · have e1 : wid1 s = 0 := by unfold wid1; rw [if_neg c1]
    by_cases c2 : s.h0 - s.l0 < s.h2 - s.l2
    · have e2 : wid2 s = 2 := by unfold wid2; rw [e1]; exact if_pos c2
      unfold widest at h
      rw [e2] at h
      simp only [lo, hi] at h
      split at h <;> omega
    · have e2 : wid2 s = 0 := by unfold wid2; rw [e1]; exact if_neg c2
      unfold widest at h
      rw [e2] at h
      simp only [lo, hi] at h
      split at h <;> omega
theorem widest_le {s : Syst} (hb : Box s) : widest s ≤ 29 := by
  obtain ⟨p0, q0, r0, p1, q1, r1, p2, q2, r2⟩ := hb
  have h3 : wid2 s = 0 ∨ wid2 s = 1 ∨ wid2 s = 2 := by
    unfold wid2 wid1
    split <;> split <;> simp
  unfold widest
  split
  · omega
  · rcases h3 with e | e | e <;> rw [e] <;> simp only [lo, hi] <;> omega
theorem widest_parts {s : Syst} (hb : Box s) (h : 0 ≤ widest s) : ∃ a b, parts s (widest s) = some (a, b) := by
  obtain ⟨p0, q0, r0, p1, q1, r1, p2, q2, r2⟩ := hb
  have h3 : wid2 s = 0 ∨ wid2 s = 1 ∨ wid2 s = 2 := by
    unfold wid2 wid1
    split <;> split <;> simp
  unfold parts
  rw [if_neg (by omega)]
  have hw : widest s = (wid2 s : Int) + 3 * ((lo s (wid2 s) + hi s (wid2 s)) / 2) ∧ hi s (wid2 s) ≠ lo s (wid2 s) := by
    unfold widest at h ⊢
    split at h
    · omega
    · rename_i hn
      rw [if_neg hn]
      exact ⟨rfl, hn⟩
  obtain ⟨hw, hn⟩ := hw
  have e1 : (widest s % 3).toNat = wid2 s := by rw [hw]; rcases h3 with e | e | e <;> rw [e] <;> omega
  have e2 : widest s / 3 = (lo s (wid2 s) + hi s (wid2 s)) / 2 := by rw [hw]; rcases h3 with e | e | e <;> rw [e] <;> omega
  rw [e1, e2]
  have hl : lo s (wid2 s) ≤ hi s (wid2 s) := by rcases h3 with e | e | e <;> rw [e] <;> simp only [lo, hi] <;> omega
  rw [if_neg (by omega)]
  exact ⟨_, _, rfl⟩
theorem parts_back {s a b : Syst} {n : Int} (h : parts s n = some (a, b)) (hb : Box s) {x y z : Int} (hp : Pt a x y z ∨ Pt b x y z) : Pt s x y z := by
  obtain ⟨p0, q0, r0, p1, q1, r1, p2, q2, r2⟩ := hb
  unfold parts at h
  split at h
  · cases h
  · split at h
    · cases h
    · rename_i h1 h2
      simp only [Option.some.injEq, Prod.mk.injEq] at h
      obtain ⟨rfl, rfl⟩ := h
      rcases mod3 n with e | e | e <;> rw [e] at h2 hp <;> simp only [setHi, setLo, lo, hi, Int.toNat_zero, Int.toNat_one, not_or, Int.not_lt, Int.not_le, show Int.toNat 2 = 2 from rfl, Pt] at h2 hp ⊢ <;> omega
theorem made_step {f : Nat} {s a b : Syst} (hr : refuted s = none) (hp : parts s (widest s) = some (a, b)) : made (f + 1) s = match made f a with
    | none => none
    | some ta => match made f b with
      | none => none
      | some tb => some (.mk (widest s) [ta, tb] []) := by
  rw [made, hr]
  simp only [hp]
theorem made_leaf {f : Nat} {s : Syst} {i : Nat} (hr : refuted s = some i) : made f s = some (.mk 0 [] [(i : Int)]) := by
  cases f <;> rw [made, hr]
theorem made_no {f : Nat} {s : Syst} (hr : refuted s = none) (hp : parts s (widest s) = none) : made f s = none := by
  cases f <;> rw [made, hr]
  simp only [hp]
/-- A tree that is made proves the system, and is well formed. -/
theorem made_good : ∀ (f : Nat) (s : Syst) (t : T), Little s → made f s = some t → wrong t s = none ∧ allB t = true ∧ depth t ≤ f + 1
  | 0, s, t, hl, h => by
    cases hr : refuted s with
    | none => rw [made, hr] at h; cases h
    | some i =>
      rw [made_leaf hr] at h
      cases h
      have h4 := refL_lt hr
      have h5 := hl.len
      refine ⟨by rw [wrong_leaf, if_pos (refuted_proves hr)], ?_, by simp [depth, depthL]⟩
      simp [allB, allL, nodeB, smallB]
      omega
  | f + 1, s, t, hl, h => by
    cases hr : refuted s with
    | some i =>
      rw [made_leaf hr] at h
      cases h
      have h4 := refL_lt hr
      have h5 := hl.len
      refine ⟨by rw [wrong_leaf, if_pos (refuted_proves hr)], ?_, by simp [depth, depthL]⟩
      simp [allB, allL, nodeB, smallB]
      omega
    | none =>
      cases hp : parts s (widest s) with
      | none => rw [made_no hr hp] at h; cases h
      | some ab =>
        obtain ⟨a, b⟩ := ab
        rw [made_step hr hp] at h
        obtain ⟨la, lb, _⟩ := parts_little hp hl
        cases ha : made f a with
        | none => rw [ha] at h; cases h
        | some ta =>
          rw [ha] at h
          cases hb : made f b with
          | none => simp only [hb] at h; cases h
          | some tb =>
            simp only [hb] at h
            cases h
            obtain ⟨a1, a2, a3⟩ := made_good f a ta la ha
            obtain ⟨b1, b2, b3⟩ := made_good f b tb lb hb
            have hw := widest_le hl.box
            have hw0 : 0 ≤ widest s := by
              unfold parts at hp
              split at hp
              · cases hp
              · omega
            refine ⟨by rw [wrong_two hp, a1]; simp only [b1], ?_, ?_⟩
            · simp [allB, allL, nodeB, smallB, a2, b2]
              omega
            · simp only [depth, depthL]
              omega
/-- Where no tree is made, a point is left. -/
theorem made_none : ∀ (f : Nat) (s : Syst), Little s → side s ≤ f → made f s = none → ∃ x y z, Pt s x y z ∧ ∀ r ∈ s.rows, meets r x y z := by
  intro f
  induction f with
  | zero =>
    intro s hl hs h
    cases hr : refuted s with
    | some i => rw [made_leaf hr] at h; cases h
    | none =>
      have hb := hl.box
      obtain ⟨p0, q0, r0, p1, q1, r1, p2, q2, r2⟩ := hb
      unfold side at hs
      refine ⟨s.l0, s.l1, s.l2, ⟨⟨by omega, by omega⟩, ⟨by omega, by omega⟩, by omega, by omega⟩, fun r hm => ?_⟩
      have hd := refL_none _ _ hr r hm
      unfold dead at hd
      have hd := of_decide_eq_false hd
      unfold most at hd
      unfold meets
      rw [show s.h0 = s.l0 by omega, show s.h1 = s.l1 by omega, show s.h2 = s.l2 by omega] at hd
      omega
  | succ f ih =>
    intro s hl hs h
    cases hr : refuted s with
    | some i => rw [made_leaf hr] at h; cases h
    | none =>
      have hb := hl.box
      rcases Int.lt_or_le (widest s) 0 with hw | hw
      · obtain ⟨e0, e1, e2⟩ := widest_point hb hw
        obtain ⟨p0, q0, r0, p1, q1, r1, p2, q2, r2⟩ := hb
        refine ⟨s.l0, s.l1, s.l2, ⟨⟨by omega, by omega⟩, ⟨by omega, by omega⟩, by omega, by omega⟩, fun r hm => ?_⟩
        have hd := refL_none _ _ hr r hm
        unfold dead at hd
        have hd := of_decide_eq_false hd
        unfold most at hd
        unfold meets
        rw [← e0, ← e1, ← e2] at hd
        omega
      · obtain ⟨a, b, hp⟩ := widest_parts hb hw
        rw [made_step hr hp] at h
        obtain ⟨la, lb, sa, sb, ea, eb⟩ := parts_little hp hl
        cases ha : made f a with
        | none =>
          obtain ⟨x, y, z, h1, h2⟩ := ih a la (by omega) ha
          exact ⟨x, y, z, parts_back hp hb (.inl h1), by rw [← ea]; exact h2⟩
        | some ta =>
          rw [ha] at h
          cases hbb : made f b with
          | none =>
            obtain ⟨x, y, z, h1, h2⟩ := ih b lb (by omega) hbb
            exact ⟨x, y, z, parts_back hp hb (.inr h1), by rw [← eb]; exact h2⟩
          | some tb => simp only [hbb] at h; cases h
theorem anyZ_true {s : Syst} {x y z : Int} (h : s.rows.all (okB x y z) = true) (hz2 : z ≤ s.h2) : ∀ (n : Nat) (z0 : Int), n = (s.h2 + 1 - z0).toNat → z0 ≤ z → anyZ s x y n z0 = true
  | 0, z0, hn, h0 => by omega
  | n + 1, z0, hn, h0 => by
    unfold anyZ
    by_cases e : z0 = z
    · rw [e, h]; rfl
    · rw [anyZ_true h hz2 n (z0 + 1) (by omega) (by omega), Bool.or_true]
theorem anyY_true {s : Syst} {x y z : Int} (h : s.rows.all (okB x y z) = true) (hz1 : s.l2 ≤ z) (hz2 : z ≤ s.h2) (hy : y ≤ s.h1) : ∀ (n : Nat) (y0 : Int), n = (s.h1 + 1 - y0).toNat → y0 ≤ y → anyY s x n y0 = true
  | 0, y0, hn, h0 => by omega
  | n + 1, y0, hn, h0 => by
    unfold anyY
    by_cases e : y0 = y
    · rw [e, anyZ_true h hz2 _ s.l2 rfl hz1]; rfl
    · rw [anyY_true h hz1 hz2 hy n (y0 + 1) (by omega) (by omega), Bool.or_true]
theorem anyX_true {s : Syst} {x y z : Int} (h : s.rows.all (okB x y z) = true) (hp : Pt s x y z) : ∀ (n : Nat) (x0 : Int), n = (s.h0 + 1 - x0).toNat → x0 ≤ x → anyX s n x0 = true
  | 0, x0, hn, h0 => by have := hp.1; omega
  | n + 1, x0, hn, h0 => by
    have hp2 := hp.2
    unfold anyX
    by_cases e : x0 = x
    · rw [e, anyY_true h hp2.2.1 hp2.2.2 hp2.1.2 _ s.l1 rfl hp2.1.1]; rfl
    · rw [anyX_true h hp n (x0 + 1) (by omega) (by omega), Bool.or_true]
theorem fulf_yes {s : Syst} {x y z : Int} (hp : Pt s x y z) (h : ∀ r ∈ s.rows, meets r x y z) : fulfB s = true := by
  refine anyX_true ?_ hp _ _ rfl hp.1.1
  rw [List.all_eq_true]
  exact fun r hr => decide_eq_true (h r hr)
theorem bld_over {f : Nat} {s : Syst} {n : Nat} (h : 2000 < n + 1) : bld f s n = .error 9 := by cases f <;> rw [bld, if_pos h]
theorem bld_leaf {f : Nat} {s : Syst} {n i : Nat} (h : ¬ 2000 < n + 1) (hr : refuted s = some i) : bld f s n = .ok (.mk 0 [] [(i : Int)], n + 1) := by cases f <;> rw [bld, if_neg h, hr]
theorem bld_no {f : Nat} {s : Syst} {n : Nat} (h : ¬ 2000 < n + 1) (hr : refuted s = none) (hp : parts s (widest s) = none) : bld f s n = .error 8 := by
  cases f <;> rw [bld, if_neg h, hr]
  simp only [hp]
theorem bld_step {f : Nat} {s a b : Syst} {n : Nat} (h : ¬ 2000 < n + 1) (hr : refuted s = none) (hp : parts s (widest s) = some (a, b)) : bld (f + 1) s n = match bld f a (n + 1) with
    | .error e => .error e
    | .ok (ta, n1) => match bld f b n1 with
      | .error e => .error e
      | .ok (tb, n2) => .ok (.mk (widest s) [ta, tb] [], n2) := by
  rw [bld, if_neg h, hr]
  simp only [hp]
/-- What is built is what is made, or a limit is met. -/
theorem bld_made : ∀ (f : Nat) (s : Syst) (n : Nat), n ≤ 2000 → match made f s with
    | some t => if n + nodes t ≤ 2000 then bld f s n = .ok (t, n + nodes t) else bld f s n = .error 9
    | none => bld f s n = .error 8 ∨ bld f s n = .error 9 := by
  intro f
  induction f with
  | zero =>
    intro s n hn
    by_cases ho : 2000 < n + 1
    · rw [bld_over ho]
      split
      · rename_i t _
        obtain ⟨s', ks, lf⟩ := t
        rw [if_neg (by unfold nodes; omega)]
      · exact .inr rfl
    · cases hr : refuted s with
      | some i =>
        rw [made_leaf hr, bld_leaf ho hr]
        simp only [nodes, nodesL]
        rw [if_pos (by omega)]
        trivial
      | none => rw [made, bld, hr, if_neg ho]; exact .inl rfl
  | succ f ih =>
    intro s n hn
    by_cases ho : 2000 < n + 1
    · rw [bld_over ho]
      split
      · rename_i t _
        obtain ⟨s', ks, lf⟩ := t
        rw [if_neg (by unfold nodes; omega)]
      · exact .inr rfl
    · cases hr : refuted s with
      | some i =>
        rw [made_leaf hr, bld_leaf ho hr]
        simp only [nodes, nodesL]
        rw [if_pos (by omega)]
        trivial
      | none =>
        cases hp : parts s (widest s) with
        | none => rw [made_no hr hp, bld_no ho hr hp]; exact .inl rfl
        | some ab =>
          obtain ⟨a, b⟩ := ab
          rw [made_step hr hp, bld_step ho hr hp]
          have h1 := ih a (n + 1) (by omega)
          cases ha : made f a with
          | none =>
            rw [ha] at h1
            rcases h1 with e | e <;> rw [e] <;> simp
          | some ta =>
            rw [ha] at h1
            simp only at h1
            by_cases hna : n + 1 + nodes ta ≤ 2000
            · rw [if_pos hna] at h1
              rw [h1]
              simp only
              have h2 := ih b (n + 1 + nodes ta) hna
              cases hb : made f b with
              | none =>
                rw [hb] at h2
                rcases h2 with e | e <;> rw [e] <;> simp
              | some tb =>
                rw [hb] at h2
                simp only at h2 ⊢
                have e : n + nodes (.mk (widest s) [ta, tb] []) = n + 1 + nodes ta + nodes tb := by simp only [nodes, nodesL]; omega
                rw [e]
                by_cases hnb : n + 1 + nodes ta + nodes tb ≤ 2000
                · rw [if_pos hnb] at h2 ⊢
                  rw [h2]
                · rw [if_neg hnb] at h2 ⊢
                  rw [h2]
            · rw [if_neg hna] at h1
              rw [h1]
              simp only
              cases hb : made f b with
              | none => simp
              | some tb =>
                simp only
                have e : n + nodes (.mk (widest s) [ta, tb] []) = n + 1 + nodes ta + nodes tb := by simp only [nodes, nodesL]; omega
                rw [e, if_neg (by omega)]
                trivial
theorem bld_err : ∀ (f : Nat) (s : Syst) (n : Nat) (x : Int), bld f s n = .error x → x = 8 ∨ x = 9 := by
  intro f
  induction f with
  | zero =>
    intro s n x h
    by_cases ho : 2000 < n + 1
    · rw [bld_over ho] at h; cases h; exact .inr rfl
    · cases hr : refuted s with
      | some i => rw [bld_leaf ho hr] at h; cases h
      | none => rw [bld, hr, if_neg ho] at h; cases h; exact .inl rfl
  | succ f ih =>
    intro s n x h
    by_cases ho : 2000 < n + 1
    · rw [bld_over ho] at h; cases h; exact .inr rfl
    · cases hr : refuted s with
      | some i => rw [bld_leaf ho hr] at h; cases h
      | none =>
        cases hp : parts s (widest s) with
        | none => rw [bld_no ho hr hp] at h; cases h; exact .inl rfl
        | some ab =>
          obtain ⟨a, b⟩ := ab
          rw [bld_step ho hr hp] at h
          cases ha : bld f a (n + 1) with
          | error e => rw [ha] at h; cases h; exact ih a _ _ ha
          | ok p =>
            obtain ⟨ta, n1⟩ := p
            rw [ha] at h
            simp only at h
            cases hb : bld f b n1 with
            | error e => rw [hb] at h; cases h; exact ih b _ _ hb
            | ok q => rw [hb] at h; cases h
theorem bld_count : ∀ (f : Nat) (s : Syst) (n : Nat) (t : T) (m : Nat), bld f s n = .ok (t, m) → m ≤ 2000 := by
  intro f
  induction f with
  | zero =>
    intro s n t m h
    by_cases ho : 2000 < n + 1
    · rw [bld_over ho] at h; cases h
    · cases hr : refuted s with
      | some i => rw [bld_leaf ho hr] at h; cases h; omega
      | none => rw [bld, hr, if_neg ho] at h; cases h
  | succ f ih =>
    intro s n t m h
    by_cases ho : 2000 < n + 1
    · rw [bld_over ho] at h; cases h
    · cases hr : refuted s with
      | some i => rw [bld_leaf ho hr] at h; cases h; omega
      | none =>
        cases hp : parts s (widest s) with
        | none => rw [bld_no ho hr hp] at h; cases h
        | some ab =>
          obtain ⟨a, b⟩ := ab
          rw [bld_step ho hr hp] at h
          cases ha : bld f a (n + 1) with
          | error e => rw [ha] at h; cases h
          | ok p =>
            obtain ⟨ta, n1⟩ := p
            rw [ha] at h
            simp only at h
            cases hb : bld f b n1 with
            | error e => rw [hb] at h; cases h
            | ok q =>
              obtain ⟨tb, n2⟩ := q
              rw [hb] at h
              cases h
              exact ih b n1 tb m hb
end Go.Proofs.YtjjohllfidmkjaaDoor.Pf

namespace Go.Proofs.YtjjohllfidmkjaaDoor.PfW
open Go Go.RowKit Go.Proofs.YtjjohllfidmkjaaDoor.Mem Go.Proofs.YtjjohllfidmkjaaDoor.Pf
attribute [local go_sem ↓] Go.wp_at_zero Go.wp_at_succ
set_option maxRecDepth 100000 in
set_option maxHeartbeats 4000000 in
theorem refuted_any (s : Syst) (A : Option Addr) (cp : Nat) (w : World) (hy : Little s) (hr : Row w A (s.rows.flatMap r4Cells)) :
    Calls Tryd.prog 59 #[sysV s A cp] w fun e w' => e = .returned (.int .i64 (optI (refuted s))) ∧ Below w.heap.size w w' := by
  have HBB := Lib.hid (one_box w (.cells #[.int .i64 s.l0, .int .i64 s.l1, .int .i64 s.l2, .int .i64 s.h0, .int .i64 s.h1, .int .i64 s.h2, .slice A s.rows.length cp] 25))
  have HR := Lib.hid (hr.below HBB.out.1)
  have HB := Lib.hid HBB.out.1
  have HX := Lib.hid HBB.out.2
  have HN := Lib.hid hy.num
  have HL := Lib.hid hy.len
  have HBO := Lib.hid hy.box
  clear hr hy HBB
  unfold sysV
  go_enter Tryd.func59, Tryd.ntmps59
  go_wp2
  generalize w.alloc (.cells #[.int .i64 s.l0, .int .i64 s.l1, .int .i64 s.l2, .int .i64 s.h0, .int .i64 s.h1, .int .i64 s.h2, .slice A s.rows.length cp] 25) = W at *
  have CX : Hid (∀ w', Below W.heap.size W w' → w'.heap[w.heap.size]? = some (.cells #[.int .i64 s.l0, .int .i64 s.l1, .int .i64 s.l2, .int .i64 s.h0, .int .i64 s.h1, .int .i64 s.h2, .slice A s.rows.length cp] 25 (0, 0))) := Lib.hid (fun w' hb => (hb.block _ (lt_of_block HX.out)).trans HX.out)
  go_loopw [3] (fun t wr => ∃ k : Nat, k ≤ s.rows.length ∧ t = .int .i64 k ∧ Hid (refuted s = refL s (s.rows.drop k) k) ∧ Below W.heap.size W wr) (fun t _ => s.rows.length - (intOf t).toNat)
  case atStart => exact ⟨0, Nat.zero_le _, rfl, Lib.hid rfl, Below.refl _ _⟩
  case round =>
    obtain ⟨k, hk, rfl, hd, hbk⟩ := hrel
    obtain ⟨x0, x1, x2, x3, x4, x5, x6⟩ := cell7 (CX.out _ hbk)
    by_cases hlt : k < s.rows.length
    · have hk1 : (0 : Int) ≤ (k : Int) := by omega
      have hk2 : (k : Int) < (s.rows.length : Int) := by omega
      have hk5 : k < 5 := by have := HL.out; omega
      obtain ⟨g, off, rfl, hg, cr⟩ := row_get r4_len (by decide) HR.out (by omega)
      have y0 := (hbk.cell (p := ⟨g, off + k * 4 + 0, none⟩) hg).trans (cr k hlt 0 (by decide))
      have y1 := (hbk.cell (p := ⟨g, off + k * 4 + 1, none⟩) hg).trans (cr k hlt 1 (by decide))
      have y2 := (hbk.cell (p := ⟨g, off + k * 4 + 2, none⟩) hg).trans (cr k hlt 2 (by decide))
      have y3 := (hbk.cell (p := ⟨g, off + k * 4 + 3, none⟩) hg).trans (cr k hlt 3 (by decide))
      have HM := Lib.hid (fun V => most_any s s.rows[k] (some ⟨g, off, none⟩) cp V HBO.out (HN.out _ (List.getElem_mem hlt)))
      have hst : Hid (refuted s = if dead s s.rows[k] = true then some k else refL s (s.rows.drop (k + 1)) (k + 1)) := Lib.hid (by rw [hd.out, List.drop_eq_getElem_cons hlt]; rfl)
      clear hd cr
      unfold sysV at HM
      unfold dead at hst
      generalize most s s.rows[k] = u at *
      generalize s.rows[k] = r at *
      obtain ⟨ra, rb, rc, rd⟩ := r
      simp only [r4Cells, List.getElem?_cons_zero, List.getElem?_cons_succ, Nat.add_zero] at y0 y1 y2 y3 HM hst
      have hzw : w.heap.size < wr.heap.size := Nat.lt_of_lt_of_le (lt_of_block HX.out) hbk.size
      have hgw : g < wr.heap.size := Nat.lt_of_lt_of_le hg hbk.size
      have CS : Hid (∀ w', Below wr.heap.size wr w' → w'.cell? ⟨w.heap.size, 0, none⟩ = some (.int .i64 s.l0) ∧ w'.cell? ⟨w.heap.size, 1, none⟩ = some (.int .i64 s.l1) ∧ w'.cell? ⟨w.heap.size, 2, none⟩ = some (.int .i64 s.l2) ∧ w'.cell? ⟨w.heap.size, 3, none⟩ = some (.int .i64 s.h0) ∧ w'.cell? ⟨w.heap.size, 4, none⟩ = some (.int .i64 s.h1) ∧ w'.cell? ⟨w.heap.size, 5, none⟩ = some (.int .i64 s.h2) ∧ w'.cell? ⟨w.heap.size, 6, none⟩ = some (.slice (some ⟨g, off, none⟩) s.rows.length cp) ∧ w'.cell? ⟨g, off + k * 4, none⟩ = some (.int .i64 ra) ∧ w'.cell? ⟨g, off + k * 4 + 1, none⟩ = some (.int .i64 rb) ∧ w'.cell? ⟨g, off + k * 4 + 2, none⟩ = some (.int .i64 rc) ∧ w'.cell? ⟨g, off + k * 4 + 3, none⟩ = some (.int .i64 rd) ∧ Below wr.heap.size wr w') := Lib.hid (fun w' hb => by
        obtain ⟨a0, a1, a2, a3, a4, a5, a6⟩ := cell7 ((hb.block _ hzw).trans (CX.out _ hbk))
        exact ⟨a0, a1, a2, a3, a4, a5, a6, (hb.cell (p := ⟨g, off + k * 4, none⟩) hgw).trans y0, (hb.cell (p := ⟨g, off + k * 4 + 1, none⟩) hgw).trans y1, (hb.cell (p := ⟨g, off + k * 4 + 2, none⟩) hgw).trans y2, (hb.cell (p := ⟨g, off + k * 4 + 3, none⟩) hgw).trans y3, hb⟩)
      have hrf := Below.refl wr.heap.size wr
      by_cases hdd : u < rd
      all_goals
        go_wp2_with fail
        go_region_held3 (fun w' => w'.cell? ⟨w.heap.size, 0, none⟩ = some (.int .i64 s.l0) ∧ w'.cell? ⟨w.heap.size, 1, none⟩ = some (.int .i64 s.l1) ∧ w'.cell? ⟨w.heap.size, 2, none⟩ = some (.int .i64 s.l2) ∧ w'.cell? ⟨w.heap.size, 3, none⟩ = some (.int .i64 s.h0) ∧ w'.cell? ⟨w.heap.size, 4, none⟩ = some (.int .i64 s.h1) ∧ w'.cell? ⟨w.heap.size, 5, none⟩ = some (.int .i64 s.h2) ∧ w'.cell? ⟨w.heap.size, 6, none⟩ = some (.slice (some ⟨g, off, none⟩) s.rows.length cp) ∧ w'.cell? ⟨g, off + k * 4, none⟩ = some (.int .i64 ra) ∧ w'.cell? ⟨g, off + k * 4 + 1, none⟩ = some (.int .i64 rb) ∧ w'.cell? ⟨g, off + k * 4 + 2, none⟩ = some (.int .i64 rc) ∧ w'.cell? ⟨g, off + k * 4 + 3, none⟩ = some (.int .i64 rd) ∧ Below wr.heap.size wr w') (first | assumption | exact CS.out _ (below_drew (by assumption)) | exact CS.out _ (by assumption)) ((go_at_call 65; obtain ⟨_, _, _, _, _, _, _, _, _, _, _, hbx⟩ := ‹_ ∧ _ ∧ _ ∧ _ ∧ _ ∧ _ ∧ _ ∧ _ ∧ _ ∧ _ ∧ _ ∧ Below _ _ _›; refine (HM.out _).mono ?_; rintro e w2 ⟨rfl, hb20⟩; have hb2 : Below wr.heap.size wr w2 := hbx.trans (hb20.mono hbx.size)))
      · have HB2 := Lib.hid hb2
        go_wp2
        go_ret
        exact ⟨by rw [hst.out, if_pos (decide_eq_true hdd)]; rfl, HB.out.trans ((hbk.trans (HB2.out.mono hbk.size)).mono HB.out.size)⟩
      · have HB2 := Lib.hid hb2
        go_wp2
        go_roundw
        case rel => exact ⟨k + 1, by omega, by go_num, Lib.hid (by rw [hst.out, if_neg (by simp [hdd])]), hbk.trans (HB2.out.mono hbk.size)⟩
        case measure => simp [intOf]; omega
    · obtain rfl : k = s.rows.length := by omega
      have dk : decide ((s.rows.length : Int) < (s.rows.length : Int)) = false := decide_eq_false (by omega)
      have hall : refuted s = none := by rw [hd.out, List.drop_length]; rfl
      have hall := Lib.hid hall
      go_wp2
      go_ret
      exact ⟨by rw [hall.out]; rfl, HB.out.trans (hbk.mono HB.out.size)⟩
set_option maxRecDepth 100000 in
set_option maxHeartbeats 4000000 in
theorem widest_any (s : Syst) (A : Option Addr) (cp : Nat) (w : World) (hy : Box s) :
    Calls Tryd.prog 60 #[sysV s A cp] w fun e w' => e = .returned (.int .i64 (widest s)) ∧ Below w.heap.size w w' := by
  have HBB := Lib.hid (one_box w (.cells #[.int .i64 s.l0, .int .i64 s.l1, .int .i64 s.l2, .int .i64 s.h0, .int .i64 s.h1, .int .i64 s.h2, .slice A s.rows.length cp] 25))
  obtain ⟨x0, x1, x2, x3, x4, x5, x6⟩ := cell7 HBB.out.2
  have HB := Lib.hid HBB.out.1
  have hz := lt_of_block HBB.out.2
  obtain ⟨p0, q0, r0, p1, q1, r1, p2, q2, r2⟩ := hy
  clear HBB
  unfold sysV
  by_cases c1 : s.h0 - s.l0 < s.h1 - s.l1
  · have E1 : Hid (wid1 s = 1) := Lib.hid (by unfold wid1; rw [if_pos c1])
    have d1 := decide_eq_true c1
    by_cases c2 : s.h1 - s.l1 < s.h2 - s.l2
    · have E2 : Hid (wid2 s = 2) := Lib.hid (by unfold wid2; rw [E1.out]; exact if_pos c2)
      have d2 := decide_eq_true c2
      have e2 : Hid (widest s = if s.h2 = s.l2 then -1 else 2 + 3 * ((s.l2 + s.h2) / 2)) := Lib.hid (by unfold widest; rw [E2.out]; rfl)
      have hp : Hid (¬ s.h2 = s.l2) := Lib.hid (by omega)
      have dp : (s.h2 == s.l2) = false := by rw [beq_eq_false_iff_ne]; exact hp.out
      go_enter Tryd.func60, Tryd.ntmps60
      go_wp2
      generalize w.alloc (.cells #[.int .i64 s.l0, .int .i64 s.l1, .int .i64 s.l2, .int .i64 s.h0, .int .i64 s.h1, .int .i64 s.h2, .slice A s.rows.length cp] 25) = W at *
      refine wp_loop_rounds 3 ?_
      rw [rounds_succ]
      go_wp2
      go_quiet (fail)
      obtain ⟨n1, rfl⟩ : ∃ n1 : Nat, n1 = nq := ⟨_, rfl⟩
      go_wp2
      rw [rounds_succ]
      go_wp2
      go_quiet (fail)
      obtain ⟨n2, rfl⟩ : ∃ n2 : Nat, n2 = nq := ⟨_, rfl⟩
      go_wp2
      rw [rounds_succ]
      go_wp2
      go_quiet (fail)
      obtain ⟨n3, rfl⟩ : ∃ n3 : Nat, n3 = nq := ⟨_, rfl⟩
      go_wp2
      try (go_quiet (fail); go_wp2)
      go_ret
      exact ⟨by rw [e2.out, if_neg hp.out]; rfl, by (first | exact Go.Proofs.YtjjohllfidmkjaaDoor.Mem.below_drewN HB.out _ | exact Go.Proofs.YtjjohllfidmkjaaDoor.Mem.below_drewN (Go.Proofs.YtjjohllfidmkjaaDoor.Mem.below_drewN HB.out _) _ | exact Go.Proofs.YtjjohllfidmkjaaDoor.Mem.below_drewN (Go.Proofs.YtjjohllfidmkjaaDoor.Mem.below_drewN (Go.Proofs.YtjjohllfidmkjaaDoor.Mem.below_drewN HB.out _) _) _)⟩
    · have E2 : Hid (wid2 s = 1) := Lib.hid (by unfold wid2; rw [E1.out]; exact if_neg c2)
      have d2 := decide_eq_false c2
      have e2 : Hid (widest s = if s.h1 = s.l1 then -1 else 1 + 3 * ((s.l1 + s.h1) / 2)) := Lib.hid (by unfold widest; rw [E2.out]; rfl)
      have hp : Hid (¬ s.h1 = s.l1) := Lib.hid (by omega)
      have dp : (s.h1 == s.l1) = false := by rw [beq_eq_false_iff_ne]; exact hp.out
      go_enter Tryd.func60, Tryd.ntmps60
      go_wp2
      generalize w.alloc (.cells #[.int .i64 s.l0, .int .i64 s.l1, .int .i64 s.l2, .int .i64 s.h0, .int .i64 s.h1, .int .i64 s.h2, .slice A s.rows.length cp] 25) = W at *
      refine wp_loop_rounds 3 ?_
      rw [rounds_succ]
      go_wp2
      go_quiet (fail)
      obtain ⟨n1, rfl⟩ : ∃ n1 : Nat, n1 = nq := ⟨_, rfl⟩
      go_wp2
      rw [rounds_succ]
      go_wp2
      go_quiet (fail)
      obtain ⟨n2, rfl⟩ : ∃ n2 : Nat, n2 = nq := ⟨_, rfl⟩
      go_wp2
      rw [rounds_succ]
      go_wp2
      go_quiet (fail)
      obtain ⟨n3, rfl⟩ : ∃ n3 : Nat, n3 = nq := ⟨_, rfl⟩
      go_wp2
      try (go_quiet (fail); go_wp2)
      go_ret
      exact ⟨by rw [e2.out, if_neg hp.out]; rfl, by (first | exact Go.Proofs.YtjjohllfidmkjaaDoor.Mem.below_drewN HB.out _ | exact Go.Proofs.YtjjohllfidmkjaaDoor.Mem.below_drewN (Go.Proofs.YtjjohllfidmkjaaDoor.Mem.below_drewN HB.out _) _ | exact Go.Proofs.YtjjohllfidmkjaaDoor.Mem.below_drewN (Go.Proofs.YtjjohllfidmkjaaDoor.Mem.below_drewN (Go.Proofs.YtjjohllfidmkjaaDoor.Mem.below_drewN HB.out _) _) _)⟩
  · have E1 : Hid (wid1 s = 0) := Lib.hid (by unfold wid1; rw [if_neg c1])
    have d1 := decide_eq_false c1
    by_cases c2 : s.h0 - s.l0 < s.h2 - s.l2
    · have E2 : Hid (wid2 s = 2) := Lib.hid (by unfold wid2; rw [E1.out]; exact if_pos c2)
      have d2 := decide_eq_true c2
      have e2 : Hid (widest s = if s.h2 = s.l2 then -1 else 2 + 3 * ((s.l2 + s.h2) / 2)) := Lib.hid (by unfold widest; rw [E2.out]; rfl)
      have hp : Hid (¬ s.h2 = s.l2) := Lib.hid (by omega)
      have dp : (s.h2 == s.l2) = false := by rw [beq_eq_false_iff_ne]; exact hp.out
      go_enter Tryd.func60, Tryd.ntmps60
      go_wp2
      generalize w.alloc (.cells #[.int .i64 s.l0, .int .i64 s.l1, .int .i64 s.l2, .int .i64 s.h0, .int .i64 s.h1, .int .i64 s.h2, .slice A s.rows.length cp] 25) = W at *
      refine wp_loop_rounds 3 ?_
      rw [rounds_succ]
      go_wp2
      go_quiet (fail)
      obtain ⟨n1, rfl⟩ : ∃ n1 : Nat, n1 = nq := ⟨_, rfl⟩
      go_wp2
      rw [rounds_succ]
      go_wp2
      go_quiet (fail)
      obtain ⟨n2, rfl⟩ : ∃ n2 : Nat, n2 = nq := ⟨_, rfl⟩
      go_wp2
      rw [rounds_succ]
      go_wp2
      go_quiet (fail)
      obtain ⟨n3, rfl⟩ : ∃ n3 : Nat, n3 = nq := ⟨_, rfl⟩
      go_wp2
      try (go_quiet (fail); go_wp2)
      go_ret
      exact ⟨by rw [e2.out, if_neg hp.out]; rfl, by (first | exact Go.Proofs.YtjjohllfidmkjaaDoor.Mem.below_drewN HB.out _ | exact Go.Proofs.YtjjohllfidmkjaaDoor.Mem.below_drewN (Go.Proofs.YtjjohllfidmkjaaDoor.Mem.below_drewN HB.out _) _ | exact Go.Proofs.YtjjohllfidmkjaaDoor.Mem.below_drewN (Go.Proofs.YtjjohllfidmkjaaDoor.Mem.below_drewN (Go.Proofs.YtjjohllfidmkjaaDoor.Mem.below_drewN HB.out _) _) _)⟩
    · have E2 : Hid (wid2 s = 0) := Lib.hid (by unfold wid2; rw [E1.out]; exact if_neg c2)
      have d2 := decide_eq_false c2
      have e2 : Hid (widest s = if s.h0 = s.l0 then -1 else 0 + 3 * ((s.l0 + s.h0) / 2)) := Lib.hid (by unfold widest; rw [E2.out]; rfl)
      by_cases hp : s.h0 = s.l0
      · have hp1 : s.h1 = s.l1 := by omega
        have hp2 : s.h2 = s.l2 := by omega
        simp only [hp, hp1, hp2] at HB x0 x1 x2 x3 x4 x5 x6 hz ⊢
        have hp := Lib.hid hp
        clear hp1 hp2 d1 d2 c1 c2 p0 q0 r0 p1 q1 r1 p2 q2 r2
        go_enter Tryd.func60, Tryd.ntmps60
        go_wp2
        generalize w.alloc (.cells #[.int .i64 s.l0, .int .i64 s.l1, .int .i64 s.l2, .int .i64 s.l0, .int .i64 s.l1, .int .i64 s.l2, .slice A s.rows.length cp] 25) = W at *
        refine wp_loop_rounds 3 ?_
        rw [rounds_succ]
        go_wp2
        go_quiet (fail)
        obtain ⟨n1, rfl⟩ : ∃ n1 : Nat, n1 = nq := ⟨_, rfl⟩
        go_wp2
        rw [rounds_succ]
        go_wp2
        go_quiet (fail)
        obtain ⟨n2, rfl⟩ : ∃ n2 : Nat, n2 = nq := ⟨_, rfl⟩
        go_wp2
        rw [rounds_succ]
        go_wp2
        go_quiet (fail)
        obtain ⟨n3, rfl⟩ : ∃ n3 : Nat, n3 = nq := ⟨_, rfl⟩
        go_wp2
        go_ret
        exact ⟨by rw [e2.out, if_pos hp.out]; rfl, by (first | exact Go.Proofs.YtjjohllfidmkjaaDoor.Mem.below_drewN HB.out _ | exact Go.Proofs.YtjjohllfidmkjaaDoor.Mem.below_drewN (Go.Proofs.YtjjohllfidmkjaaDoor.Mem.below_drewN HB.out _) _ | exact Go.Proofs.YtjjohllfidmkjaaDoor.Mem.below_drewN (Go.Proofs.YtjjohllfidmkjaaDoor.Mem.below_drewN (Go.Proofs.YtjjohllfidmkjaaDoor.Mem.below_drewN HB.out _) _) _)⟩
      · have dp : (s.h0 == s.l0) = false := by rw [beq_eq_false_iff_ne]; exact hp
        have hp := Lib.hid hp
        go_enter Tryd.func60, Tryd.ntmps60
        go_wp2
        generalize w.alloc (.cells #[.int .i64 s.l0, .int .i64 s.l1, .int .i64 s.l2, .int .i64 s.h0, .int .i64 s.h1, .int .i64 s.h2, .slice A s.rows.length cp] 25) = W at *
        refine wp_loop_rounds 3 ?_
        rw [rounds_succ]
        go_wp2
        go_quiet (fail)
        obtain ⟨n1, rfl⟩ : ∃ n1 : Nat, n1 = nq := ⟨_, rfl⟩
        go_wp2
        rw [rounds_succ]
        go_wp2
        go_quiet (fail)
        obtain ⟨n2, rfl⟩ : ∃ n2 : Nat, n2 = nq := ⟨_, rfl⟩
        go_wp2
        rw [rounds_succ]
        go_wp2
        go_quiet (fail)
        obtain ⟨n3, rfl⟩ : ∃ n3 : Nat, n3 = nq := ⟨_, rfl⟩
        go_wp2
        try (go_quiet (fail); go_wp2)
        go_ret
        exact ⟨by rw [e2.out, if_neg hp.out]; rw [Int.zero_add]; rfl, by (first | exact Go.Proofs.YtjjohllfidmkjaaDoor.Mem.below_drewN HB.out _ | exact Go.Proofs.YtjjohllfidmkjaaDoor.Mem.below_drewN (Go.Proofs.YtjjohllfidmkjaaDoor.Mem.below_drewN HB.out _) _ | exact Go.Proofs.YtjjohllfidmkjaaDoor.Mem.below_drewN (Go.Proofs.YtjjohllfidmkjaaDoor.Mem.below_drewN (Go.Proofs.YtjjohllfidmkjaaDoor.Mem.below_drewN HB.out _) _) _)⟩
end Go.Proofs.YtjjohllfidmkjaaDoor.PfW

namespace Go.Proofs.YtjjohllfidmkjaaDoor.PfW
open Go Go.RowKit Go.Proofs.YtjjohllfidmkjaaDoor.Mem Go.Proofs.YtjjohllfidmkjaaDoor.Pf

theorem gtrans {a b c : World} {r : Option Nat} (h : a.grownBy b r) (k : b.grownBy c r) : a.grownBy c r :=
  ⟨k.os.trans h.os, k.tape.trans h.tape, k.output.trans h.output, Nat.le_trans h.size k.size, fun i hi hne => (k.block i (Nat.lt_of_lt_of_le hi h.size) hne).trans (h.block i hi hne)⟩
theorem gnew {w w' : World} {b : Option Nat} {k : Nat} (h : w.grownBy w' b) (hk : w.heap.size ≤ k) (j : Nat) (v : Value) : w.grownBy (w'.setCell ⟨k, j, none⟩ v) b :=
  ⟨h.os, h.tape, h.output, by show _ ≤ (w'.heap.modify _ _).size; rw [Array.size_modify]; exact h.size, fun i hi hne => by rw [Below.heap_setCell _ _ _ _ (by show i ≠ k; omega)]; exact h.block i hi hne⟩
theorem gthree {w w' : World} {b : Option Nat} {k : Nat} (h : w.grownBy w' b) (hk : w.heap.size ≤ k) (x y z : Value) : w.grownBy (((w'.setCell ⟨k, 0, none⟩ x).setCell ⟨k, 1, none⟩ y).setCell ⟨k, 2, none⟩ z) b :=
  gnew (gnew (gnew h hk 0 x) hk 1 y) hk 2 z
structure GSt (TY : TypeId) (ob : Option Nat) (bx : Nat) (w : World) (x : Int) (acc : List T) (v : Value) (ws : List Value) (wr : World) : Prop where
  box : wr.heap[bx]? = some (.cells #[.int .i64 x, v, .slice none 0 0] TY (0, 0))
  own : wr.ownsRow (bx + 1) TY 3 v acc.length ws
  kids : KidsIn (fun g => bx < g ∧ v.ownBlock ≠ some g) wr acc ws
  grow : w.grownBy wr ob
  lt : ∀ b, ob = some b → b < w.heap.size
  le : w.heap.size ≤ bx
theorem GSt.start {TY : TypeId} {ob : Option Nat} {bx : Nat} {w wr : World} {x : Int} (h : wr.heap[bx]? = some (.cells #[.int .i64 x, .slice none 0 0, .slice none 0 0] TY (0, 0))) (hg : w.grownBy wr ob) (hl : ∀ b, ob = some b → b < w.heap.size) (hx : w.heap.size ≤ bx) : GSt TY ob bx w x [] (.slice none 0 0) [] wr :=
  ⟨h, World.ownsRow_nil _ _ _ _, by unfold KidsIn; rfl, hg, hl, hx⟩
theorem GSt.step {TY : TypeId} {ob : Option Nat} {bx : Nat} {w wr w' : World} {x : Int} {acc : List T} {v : Value} {ws : List Value} (h : GSt TY ob bx w x acc v ws wr) (hg : wr.grownBy w' ob) : GSt TY ob bx w x acc v ws w' := by
  have hlt := h.own.lt
  have h2 := lt_of_block h.box
  have h3 := h.lt
  have h4 := h.le
  have ne : ∀ g, w.heap.size ≤ g → some g ≠ ob := fun g hg e => by have := h3 g e.symm; omega
  refine ⟨(hg.block _ h2 (ne _ h4)).trans h.box, ⟨h.own.1, ?_⟩, KidsIn.stays (fun g hg1 hg2 => hg.block g hg2 (ne _ (by omega))) (fun _ h _ => h) _ _ h.kids, gtrans h.grow hg, h3, h4⟩
  rcases h.own.2 with h0 | ⟨g, cap, cur, hv, hb, hh, r⟩
  · exact .inl h0
  · refine .inr ⟨g, cap, cur, hv, hb, ?_, r⟩
    rw [hg.block g (lt_of_block hh) (ne _ (by omega))]; exact hh
theorem GSt.push {TY : TypeId} {ob : Option Nat} {bx : Nat} {w wr w1 w2 : World} {x : Int} {acc : List T} {v : Value} {ws kc : List Value} {k : T} {g c B0 : Nat} (h : GSt TY ob bx w x acc v ws wr) (hb : Below wr.heap.size wr w1)
    (hT : TreeIn (fun y => B0 ≤ y) w1 k kc) (hB0 : bx < B0) (hvB : ∀ y, v.ownBlock = some y → y < B0) (hat : v.ownBlock = some g ∨ w1.heap.size ≤ g)
    (hown : w2.ownsRow (bx + 1) TY 3 (.slice (some ⟨g, 0, none⟩) (acc.length + 1) c) (acc.length + 1) (ws ++ kc)) (hg : w1.grownBy w2 v.ownBlock) :
    GSt TY ob bx w x (acc ++ [k]) (.slice (some ⟨g, 0, none⟩) (acc.length + 1) c) (ws ++ kc) (w2.setCell ⟨bx, 1, none⟩ (.slice (some ⟨g, 0, none⟩) (acc.length + 1) c)) := by
  have hlt := h.own.lt
  have h2 := lt_of_block h.box
  have h3 := h.lt
  have h4 := h.le
  have hz := hb.size
  have hz2 := hg.size
  have ne : ∀ k, k ≤ bx → some k ≠ v.ownBlock := fun k hk e => by have := hlt k e.symm; omega
  have hgo := hown.lt g rfl
  have bx2 : w2.heap[bx]? = some (.cells #[.int .i64 x, v, .slice none 0 0] TY (0, 0)) := (hg.block _ (by omega) (ne _ (by omega))).trans ((hb.block _ h2).trans h.box)
  have far : ∀ y, y < w1.heap.size → v.ownBlock ≠ some y → y ≠ bx → (w2.setCell ⟨bx, 1, none⟩ (.slice (some ⟨g, 0, none⟩) (acc.length + 1) c)).heap[y]? = w1.heap[y]? := fun y hy hn hne => by
    rw [Below.heap_setCell _ _ _ _ hne]; exact hg.block y hy (fun e => hn e.symm)
  have own' : ∀ y, (Value.slice (some ⟨g, 0, none⟩) (acc.length + 1) c).ownBlock = some y → y = g := fun y e => by
    have : some g = some y := e
    cases this; rfl
  refine ⟨stored3 bx2, ?_, ?_, ?_, h3, h4⟩
  · rw [List.length_append]
    exact ownsRow_setCell_other hown (fun e => by have e' : some g = some bx := e; cases e'; omega) _
  · refine KidsIn.snoc ?_ ?_
    · refine TreeIn.stays (S := fun y => B0 ≤ y) (w := w1) (fun y hy hy2 => far y hy2 (fun e => by have := hvB y e; omega) (by omega)) (fun y hy hy2 => ⟨by omega, fun e => ?_⟩) _ _ hT
      have e2 := own' y e
      subst e2
      rcases hat with ha | ha
      · have := hvB _ ha; omega
      · omega
    · refine KidsIn.stays (S := fun y => (bx < y ∧ v.ownBlock ≠ some y) ∧ y < wr.heap.size) (w := w1) (fun y hy hy2 => far y hy2 hy.1.2 (by omega)) (fun y hy hy2 => ⟨hy.1.1, fun e => ?_⟩) _ _ (KidsIn.stays (S' := fun y => (bx < y ∧ v.ownBlock ≠ some y) ∧ y < wr.heap.size) (fun y hy hy2 => hb.block y hy2) (fun y hy hy2 => ⟨hy, hy2⟩) _ _ h.kids)
      have e2 := own' y e
      subst e2
      rcases hat with ha | ha
      · exact hy.1.2 ha
      · omega
  · have hg2 : w.grownBy w2 ob := ⟨hg.os.trans (hb.os.trans h.grow.os), hg.tape.trans (hb.tape.trans h.grow.tape), hg.output.trans (hb.output.trans h.grow.output), Nat.le_trans h.grow.size (Nat.le_trans hb.size hg.size), fun i hi hne => by
      rw [hg.block i (by have := h.grow.size; omega) (ne i (by omega)), hb.block i (by have := h.grow.size; omega)]; exact h.grow.block i hi hne⟩
    exact gnew hg2 h4 1 _
/-- The tree gathered. -/
theorem GSt.tree {TY : TypeId} {ob : Option Nat} {bx : Nat} {w wr : World} {x : Int} {acc : List T} {A : Option Addr} {c : Nat} {ws : List Value} (h : GSt TY ob bx w x acc (.slice A acc.length c) ws wr) (hc : acc.length ≤ c) :
    TreeIn (fun g => bx < g) wr (.mk x acc []) [.int .i64 x, .slice A acc.length c, .slice none 0 0] := by
  unfold TreeIn
  refine ⟨A, c, none, 0, ws, rfl, hc, Nat.le_refl _, ?_, KidsIn.stays (fun _ _ _ => rfl) (fun y hy _ => hy.1) _ _ h.kids, fun hne => absurd rfl hne⟩
  intro hne
  obtain ⟨g, off, rfl, hg, hcell⟩ := Row.of_own h.own hne
  refine ⟨g, off, rfl, ?_, hg, hcell⟩
  rcases h.own.2 with ⟨h0, _⟩ | ⟨g', cap, cur, hv, hb', _⟩
  · cases h0
  · cases hv; show bx < g; omega
end Go.Proofs.YtjjohllfidmkjaaDoor.PfW

namespace Go.Proofs.YtjjohllfidmkjaaDoor.PfW
open Go Go.RowKit Go.Proofs.YtjjohllfidmkjaaDoor.Mem Go.Proofs.YtjjohllfidmkjaaDoor.Pf
def PlanRet (y : Syst) (w : World) (e : Ending) (w' : World) : Prop :=
  Below w.heap.size w w' ∧ match refuted y with
    | some i => ∃ g, e = .returned (.agg #[.int .i64 2, .int .i64 0, .slice (some ⟨g, 0, none⟩) 1 1]) ∧ w'.heap[g]? = some (.cells #[.int .i64 (i : Int)] 3 (0, 0)) ∧ w.heap.size ≤ g
    | none => match decide (widest y < 0) with
      | true => e = .returned (.agg #[.int .i64 0, .int .i64 0, .slice none 0 0])
      | false => e = .returned (.agg #[.int .i64 1, .int .i64 (widest y), .slice none 0 0])
theorem set3 {w : World} {b : Nat} {x y z : Value} {t : TypeId} (h : w.heap[b]? = some (.cells #[x, y, z] t (0, 0))) (u v s : Value) : (((w.setCell ⟨b, 0, none⟩ u).setCell ⟨b, 1, none⟩ v).setCell ⟨b, 2, none⟩ s).heap[b]? = some (.cells #[u, v, s] t (0, 0)) := by
  have st : ∀ (w : World) (c : Array Value) (j : Nat) (u : Value), w.heap[b]? = some (.cells c t (0, 0)) → (w.setCell ⟨b, j, none⟩ u).heap[b]? = some (.cells (c.setIfInBounds j u) t (0, 0)) := fun w c j u h => by
    have hlt := lt_of_block h
    have h' : w.heap[b] = .cells c t (0, 0) := by simpa [Array.getElem?_eq_getElem hlt] using h
    show (w.heap.modify b _)[b]? = _
    rw [Array.getElem?_eq_getElem (by simpa using hlt), Array.getElem_modify_self, h']
    rfl
  exact st _ _ 2 s (st _ _ 1 v (st _ _ 0 u h))
set_option maxRecDepth 100000 in
set_option maxHeartbeats 1000000 in
theorem plan_any (y : Syst) (A : Option Addr) (cp : Nat) (w : World) (hy : Little y) (hr : Row w A (y.rows.flatMap r4Cells)) :
    Calls Tryd.prog 36 #[sysV y A cp] w (PlanRet y w) := by
  have HBB := Lib.hid (two_boxes w (.cells #[.int .i64 y.l0, .int .i64 y.l1, .int .i64 y.l2, .int .i64 y.h0, .int .i64 y.h1, .int .i64 y.h2, .slice A y.rows.length cp] 25) (.cells #[.int .i64 0, .int .i64 0, .slice none 0 0] 94))
  have HRF := Lib.hid (refuted_any y A cp _ hy (hr.below HBB.out.1))
  have hb := hy.box
  have hlen := hy.len
  unfold sysV at HRF ⊢
  unfold PlanRet
  cases hrf : refuted y with
  | some i =>
    have hi := refL_lt hrf
    rw [hrf] at HRF
    have d1 : decide ((0 : Int) ≤ (i : Int)) = true := decide_eq_true (by omega)
    clear hrf hr hb
    unfold optI at HRF
    simp only at HRF ⊢
    go_enter Tryd.func36, Tryd.ntmps36
    go_wp2_with fail
    refine HRF.out.mono ?_
    rintro e w2 ⟨rfl, hb2⟩
    have HB2 := Lib.hid (HBB.out.1.trans (hb2.mono HBB.out.1.size))
    have HZ2 := Lib.hid ((hb2.block _ (lt_of_block HBB.out.2.2)).trans HBB.out.2.2)
    have HX2 := Lib.hid ((hb2.block _ (lt_of_block HBB.out.2.1)).trans HBB.out.2.1)
    clear hb2 HRF
    obtain ⟨r0, r1, r2⟩ := cell3 HZ2.out
    have q0 := free3 HZ2.out 0
    have q1 := free3 HZ2.out 1
    have q2 := free3 HZ2.out 2
    have qz := lt_of_block HZ2.out
    go_wp2
    have KK := Lib.hid (cell3 ((heap_alloc_old (((w2.setCell ⟨w.heap.size + 1, 0, none⟩ (.int .i64 2)).setCell ⟨w.heap.size + 1, 1, none⟩ (.int .i64 0)).setCell ⟨w.heap.size + 1, 2, none⟩ (.slice (some ⟨w2.heap.size, 0, none⟩) 1 1)) (.cells #[.int .i64 (i : Int)] 3) (by simpa [World.setCell] using qz)).trans (set3 HZ2.out _ _ _)))
    obtain ⟨k0, k1, k2⟩ := KK.out
    refine bodyPost_ret (v := .agg #[.int .i64 2, .int .i64 0, .slice (some ⟨w2.heap.size, 0, none⟩) 1 1]) (by simp [results, Tryd.results36, go_sem, k0, k1, k2]) rfl ?_
    refine ⟨((((HB2.out.setCell (by simp) _).setCell (by simp) _).setCell (by simp) _).alloc (by have := HB2.out.size; simpa [World.setCell] using this) _), w2.heap.size, rfl, ?_, HB2.out.size⟩
    have h9 := heap_alloc_new (((w2.setCell ⟨w.heap.size + 1, 0, none⟩ (.int .i64 2)).setCell ⟨w.heap.size + 1, 1, none⟩ (.int .i64 0)).setCell ⟨w.heap.size + 1, 2, none⟩ (.slice (some ⟨w2.heap.size, 0, none⟩) 1 1)) (.cells #[.int .i64 (i : Int)] 3)
    have hsz : (((w2.setCell ⟨w.heap.size + 1, 0, none⟩ (.int .i64 2)).setCell ⟨w.heap.size + 1, 1, none⟩ (.int .i64 0)).setCell ⟨w.heap.size + 1, 2, none⟩ (.slice (some ⟨w2.heap.size, 0, none⟩) 1 1)).heap.size = w2.heap.size := by simp [World.setCell]
    rw [hsz] at h9
    exact h9
  | none =>
    rw [hrf] at HRF
    clear hrf hr
    unfold optI at HRF
    simp only at HRF ⊢
    by_cases hw : widest y < 0
    · rw [decide_eq_true hw]
      have d2 : decide (0 ≤ widest y) = false := decide_eq_false (by omega)
      go_enter Tryd.func36, Tryd.ntmps36
      go_wp2_with fail
      refine HRF.out.mono ?_
      rintro e w2 ⟨rfl, hb2⟩
      have HB2 := Lib.hid (HBB.out.1.trans (hb2.mono HBB.out.1.size))
      have HZ2 := Lib.hid ((hb2.block _ (lt_of_block HBB.out.2.2)).trans HBB.out.2.2)
      have HX2 := Lib.hid ((hb2.block _ (lt_of_block HBB.out.2.1)).trans HBB.out.2.1)
      clear hb2 HRF
      obtain ⟨x0, x1, x2, x3, x4, x5, x6⟩ := cell7 HX2.out
      have HWI := Lib.hid (widest_any y A cp w2 hb)
      unfold sysV at HWI
      go_wp2_with fail
      refine HWI.out.mono ?_
      rintro e w3 ⟨rfl, hb3⟩
      have HB3 := Lib.hid (HB2.out.trans (hb3.mono HB2.out.size))
      have HZ3 := Lib.hid ((hb3.block _ (lt_of_block HZ2.out)).trans HZ2.out)
      clear x0 x1 x2 x3 x4 x5 x6 hb3 HWI HX2 HZ2 HB2
      obtain ⟨r0, r1, r2⟩ := cell3 HZ3.out
      have q0 := free3 HZ3.out 0
      have q1 := free3 HZ3.out 1
      have q2 := free3 HZ3.out 2
      have qz := lt_of_block HZ3.out
      go_wp2
      refine bodyPost_ret (v := .agg #[.int .i64 0, .int .i64 0, .slice none 0 0]) (by simp [results, Tryd.results36, go_sem, r0, r1, r2]) rfl ?_
      exact ⟨(((HB3.out.setCell (by simp) _).setCell (by simp) _).setCell (by simp) _), rfl⟩
    · rw [decide_eq_false hw]
      have d2 : decide (0 ≤ widest y) = true := decide_eq_true (by omega)
      go_enter Tryd.func36, Tryd.ntmps36
      go_wp2_with fail
      refine HRF.out.mono ?_
      rintro e w2 ⟨rfl, hb2⟩
      have HB2 := Lib.hid (HBB.out.1.trans (hb2.mono HBB.out.1.size))
      have HZ2 := Lib.hid ((hb2.block _ (lt_of_block HBB.out.2.2)).trans HBB.out.2.2)
      have HX2 := Lib.hid ((hb2.block _ (lt_of_block HBB.out.2.1)).trans HBB.out.2.1)
      clear hb2 HRF
      obtain ⟨x0, x1, x2, x3, x4, x5, x6⟩ := cell7 HX2.out
      have HWI := Lib.hid (widest_any y A cp w2 hb)
      unfold sysV at HWI
      go_wp2_with fail
      refine HWI.out.mono ?_
      rintro e w3 ⟨rfl, hb3⟩
      have HB3 := Lib.hid (HB2.out.trans (hb3.mono HB2.out.size))
      have HZ3 := Lib.hid ((hb3.block _ (lt_of_block HZ2.out)).trans HZ2.out)
      clear x0 x1 x2 x3 x4 x5 x6 hb3 HWI HX2 HZ2 HB2
      obtain ⟨r0, r1, r2⟩ := cell3 HZ3.out
      have q0 := free3 HZ3.out 0
      have q1 := free3 HZ3.out 1
      have q2 := free3 HZ3.out 2
      have qz := lt_of_block HZ3.out
      go_wp2
      refine bodyPost_ret (v := .agg #[.int .i64 1, .int .i64 (widest y), .slice none 0 0]) (by simp [results, Tryd.results36, go_sem, r0, r1, r2]) rfl ?_
      exact ⟨(((HB3.out.setCell (by simp) _).setCell (by simp) _).setCell (by simp) _), rfl⟩
end Go.Proofs.YtjjohllfidmkjaaDoor.PfW
