/- Plain: the program's least point of a ring is the reference's; a shape that is right. No function is in sight. Conditions: none. -/
import Derived.Test.YtnmmhcchpcbeeaaGreatGeH
import Derived.Test.YtnmmhcchpcbeeaaGreatGeCl

namespace Go.Proofs.YtnmmhcchpcbeeaaGreat.Ge
open Go
theorem less_irr (v : V) : less v v = false := by simp [less]
theorem less_asymm {a b : V} (h : less a b = true) : less b a = false := by
  rcases a with ⟨a1, a2⟩
  rcases b with ⟨b1, b2⟩
  simp only [less, Bool.or_eq_true, Bool.and_eq_true, decide_eq_true_eq, Bool.or_eq_false_iff, Bool.and_eq_false_iff, decide_eq_false_iff_not] at h ⊢
  omega
theorem less_tri {a b : V} (h : less a b = false) (h2 : less b a = false) : a = b := by
  rcases a with ⟨a1, a2⟩
  rcases b with ⟨b1, b2⟩
  simp only [less, Bool.or_eq_false_iff, Bool.and_eq_false_iff, decide_eq_false_iff_not] at h h2
  have e2 : a2 = b2 := by omega
  have e1 : a1 = b1 := by omega
  rw [e1, e2]
theorem nless_trans {a b c : V} (h : less b a = false) (h2 : less c b = false) : less c a = false := by
  rcases a with ⟨a1, a2⟩
  rcases b with ⟨b1, b2⟩
  rcases c with ⟨c1, c2⟩
  simp only [less, Bool.or_eq_false_iff, Bool.and_eq_false_iff, decide_eq_false_iff_not] at h h2 ⊢
  omega
theorem sgn_one {n : Int} (h : sgn n = -1 ∨ sgn n = 0) : n ≤ 0 := by
  unfold sgn at h
  split at h
  · omega
  · split at h
    · omega
    · rcases h with h | h <;> omega
theorem vcmp_le {a b : V} (h : less b a = false) : vcmp a b = 0 ∨ vcmp a b = -1 := by
  rcases a with ⟨a1, a2⟩
  rcases b with ⟨b1, b2⟩
  simp only [less, Bool.or_eq_false_iff, Bool.and_eq_false_iff, decide_eq_false_iff_not] at h
  unfold vcmp sgn
  simp only
  repeat' split
  all_goals omega
theorem lo_le (a b : V) : less a (lo a b) = false := by
  unfold lo
  split
  · rename_i h; exact less_asymm h
  · exact less_irr a
theorem le_hi (a b : V) : less (hi a b) a = false := by
  unfold hi
  split
  · exact less_irr a
  · rename_i h
    exact Bool.eq_false_iff.2 h
theorem along_common {s t : S} {v : V} (h1 : less v (lo s.1 s.2) = false) (h2 : less v (lo t.1 t.2) = false) (h3 : less (hi s.1 s.2) v = false) (h4 : less (hi t.1 t.2) v = false) : alongK s t ≠ 0 := by
  unfold alongK
  have hl : less v (if less (lo s.1 s.2) (lo t.1 t.2) then lo t.1 t.2 else lo s.1 s.2) = false := by split <;> assumption
  have hh : less (if less (hi t.1 t.2) (hi s.1 s.2) then hi t.1 t.2 else hi s.1 s.2) v = false := by split <;> assumption
  simp only
  rcases vcmp_le (nless_trans hl hh) with h | h
  · rw [h]; decide
  · rw [h]; decide
theorem on_first (v w : V) (h : segOk (v, w) = true) : on (v, w) v = true := by
  unfold on inBox turn sub cross
  rw [h]
  have e : (w.1 - v.1) * (v.2 - v.2) - (w.2 - v.2) * (v.1 - v.1) = 0 := by rw [Int.sub_self, Int.sub_self, Int.mul_zero, Int.mul_zero]; rfl
  simp only [Bool.true_and, Bool.and_eq_true, decide_eq_true_eq]
  refine ⟨⟨by omega, by omega, by omega, by omega⟩, ?_⟩
  rw [e]; rfl
theorem meet_first (v a b : V) (h1 : segOk (v, a) = true) (h2 : segOk (v, b) = true) : meetK (v, a) (v, b) ≠ 0 := by
  unfold meetK
  rw [h1, h2]
  rw [if_pos (show (true && true) = true from rfl)]
  simp only
  split
  · rename_i hd
    unfold linesK
    have e0 : ∀ x : V, cross (sub v v) x = 0 := fun x => by unfold cross sub; rw [Int.sub_self, Int.sub_self, Int.zero_mul, Int.zero_mul]; rfl
    simp only [e0]
    generalize cross (sub a v) (sub b v) = d at hd
    have i1 : (if d < 0 then -(0 : Int) else 0) = 0 := by split <;> rfl
    rw [i1]
    have i2 : ¬ ((0 : Int) < 0 ∨ (if d < 0 then -d else d) < 0 ∨ (0 : Int) < 0 ∨ (if d < 0 then -d else d) < 0) := by split <;> omega
    rw [if_neg i2, if_pos (Or.inl rfl)]
    decide
  · split
    · decide
    · rename_i hx
      split
      · decide
      · rename_i hy
        have n1 : ¬ v = a := fun e => hx ⟨e, on_first v b h2⟩
        have n2 : ¬ v = b := fun e => hy ⟨e, on_first v a h1⟩
        have e0 : turn v a v = 0 := by
          unfold turn cross sub
          rw [Int.sub_self, Int.sub_self, Int.mul_zero, Int.mul_zero]; rfl
        rw [if_neg (by rw [e0]; simp [n1, n2])]
        exact along_common (v := v) (lo_le v a) (lo_le v b) (le_hi v a) (le_hi v b)
theorem edge_of {l : List V} (h : 2 ≤ l.length) (hn : near l = true) {v : V} (hv : v ∈ l) : ∃ w, (v, w) ∈ edges l ∧ segOk (v, w) = true := by
  obtain ⟨i, hi, rfl⟩ := List.getElem_of_mem hv
  have hk : (i + 1) % l.length < l.length := Nat.mod_lt _ (by omega)
  have e2 : nxt l i = l[(i + 1) % l.length] := by
    unfold nxt
    rw [List.getD_eq_getElem?_getD, List.getElem?_eq_getElem hk]; rfl
  refine ⟨l[(i + 1) % l.length], ?_, ?_⟩
  · unfold edges
    rw [if_neg (by omega)]
    refine List.mem_map.2 ⟨i, List.mem_range.2 hi, ?_⟩
    rw [List.getD_eq_getElem?_getD, List.getElem?_eq_getElem hi, e2]; rfl
  · have hh : ∀ x ∈ l, within x 4000 = true := fun x hx => by
      have := List.all_eq_true.1 hn x hx
      unfold within at this ⊢
      simp only [Bool.and_eq_true, decide_eq_true_eq] at this ⊢
      omega
    unfold segOk
    rw [hh _ (List.getElem_mem hi), hh _ (List.getElem_mem hk)]; rfl
theorem apart_points {a b : List V} (ha : 2 ≤ a.length) (hb : 2 ≤ b.length) (na : near a = true) (nb : near b = true) (h : apartB a b = true) {v u : V} (hv : v ∈ a) (hu : u ∈ b) : v ≠ u := by
  rintro rfl
  obtain ⟨x, hx, sx⟩ := edge_of ha na hv
  obtain ⟨y, hy, sy⟩ := edge_of hb nb hu
  have h1 := List.all_eq_true.1 (List.all_eq_true.1 h _ hx) _ hy
  exact meet_first v x y sx sy (of_decide_eq_true h1)
def hd (l : List V) : V := l.headD (0, 0)
/-- The reference puts a ring ahead of the first that is not less. -/
def insH (h : List V) : List (List V) → List (List V)
  | [] => [h]
  | x :: xs => if less (hd x) (hd h) then x :: insH h xs else h :: x :: xs
def sortH (hs : List (List V)) : List (List V) := hs.foldl (fun acc h => insH h acc) []
theorem insH_perm (h : List V) : ∀ l : List (List V), (insH h l).Perm (h :: l)
  | [] => List.Perm.refl _
  | x :: xs => by
    unfold insH
    split
    · exact ((insH_perm h xs).cons x).trans (List.Perm.swap h x xs)
    · exact List.Perm.refl _
theorem sortH_perm_from : ∀ (hs acc : List (List V)), (hs.foldl (fun acc h => insH h acc) acc).Perm (hs ++ acc)
  | [], _ => List.Perm.refl _
  | h :: t, acc => by
    rw [List.foldl_cons]
    refine (sortH_perm_from t (insH h acc)).trans ?_
    refine ((insH_perm h acc).append_left t).trans ?_
    exact (List.perm_middle)
theorem sortH_perm (hs : List (List V)) : (sortH hs).Perm hs := by
  have := sortH_perm_from hs []
  rwa [List.append_nil] at this
def Asc (l : List (List V)) : Prop := l.Pairwise fun x y => less (hd y) (hd x) = false
theorem insH_asc (h : List V) : ∀ l : List (List V), Asc l → Asc (insH h l)
  | [], _ => List.pairwise_singleton _ _
  | x :: xs, hA => by
    unfold insH
    obtain ⟨h1, h2⟩ := List.pairwise_cons.1 hA
    split
    · rename_i hl
      refine List.pairwise_cons.2 ⟨fun y hy => ?_, insH_asc h xs h2⟩
      rcases List.mem_cons.1 ((insH_perm h xs).mem_iff.1 hy) with rfl | hy
      · exact less_asymm hl
      · exact h1 y hy
    · rename_i hl
      have hl' : less (hd x) (hd h) = false := Bool.eq_false_iff.2 hl
      refine List.pairwise_cons.2 ⟨fun y hy => ?_, hA⟩
      rcases List.mem_cons.1 hy with rfl | hy
      · exact hl'
      · exact nless_trans hl' (h1 y hy)
theorem sortH_asc (hs : List (List V)) : Asc (sortH hs) := by
  have : ∀ (l acc : List (List V)), Asc acc → Asc (l.foldl (fun acc h => insH h acc) acc) := by
    intro l
    induction l with
    | nil => exact fun acc h => h
    | cons x t ih => exact fun acc h => ih _ (insH_asc x acc h)
  exact this hs [] List.Pairwise.nil
/-- Where no two begin at one point, an ascending order is the reference's. -/
theorem asc_one {hs l : List (List V)} (hd1 : (hs.map hd).Nodup) (hp : l.Perm hs) (ha : Asc l) : l = sortH hs := by
  refine List.Perm.eq_of_pairwise (le := fun x y => less (hd y) (hd x) = false) ?_ ha (sortH_asc hs) (hp.trans (sortH_perm hs).symm)
  intro a b h1 h2 h3 h4
  have e : hd a = hd b := less_tri h4 h3
  have m1 := hp.mem_iff.1 h1
  have m2 := (sortH_perm hs).mem_iff.1 h2
  obtain ⟨i, hi, rfl⟩ := List.getElem_of_mem m1
  obtain ⟨j, hj, rfl⟩ := List.getElem_of_mem m2
  have h5 := (List.nodup_iff_pairwise_ne.1 hd1)
  rw [List.pairwise_iff_getElem] at h5
  rcases Nat.lt_trichotomy i j with c | c | c
  · exact absurd (by rw [List.getElem_map, List.getElem_map]; exact e) (h5 i j (by simpa using hi) (by simpa using hj) c)
  · subst c; rfl
  · exact absurd (by rw [List.getElem_map, List.getElem_map]; exact e.symm) (h5 j i (by simpa using hj) (by simpa using hi) c)
end Go.Proofs.YtnmmhcchpcbeeaaGreat.Ge

namespace Go.Proofs.YtnmmhcchpcbeeaaGreat.Ge
open Go
/-- Where the least of the first k lies, as the reference finds it. -/
def leastR (l : List V) : Nat → Nat
  | 0 => 0
  | k + 1 => if less (l.getD k (0, 0)) (l.getD (leastR l k) (0, 0)) then k else leastR l k
theorem leastR_lt {l : List V} (h : 0 < l.length) : ∀ k, k ≤ l.length → leastR l k < l.length
  | 0, _ => h
  | k + 1, hk => by
    unfold leastR
    split
    · omega
    · exact leastR_lt h k (by omega)
theorem leastR_spec {l : List V} : ∀ k, (∀ i, i < k → less (l.getD i (0, 0)) (l.getD (leastR l k) (0, 0)) = false) ∧ ∀ i, i < leastR l k → l.getD i (0, 0) ≠ l.getD (leastR l k) (0, 0) := by
  intro k
  induction k with
  | zero => exact ⟨fun i hi => absurd hi (Nat.not_lt_zero i), fun i hi => absurd hi (Nat.not_lt_zero i)⟩
  | succ k ih =>
    obtain ⟨h1, h2⟩ := ih
    unfold leastR
    by_cases c : less (l.getD k (0, 0)) (l.getD (leastR l k) (0, 0)) = true
    · rw [if_pos c]
      have h3 : ∀ i, i < k → less (l.getD i (0, 0)) (l.getD k (0, 0)) = false := fun i hi => nless_trans (less_asymm c) (h1 i hi)
      refine ⟨fun i hi => ?_, fun i hi e => ?_⟩
      · rcases Nat.lt_succ_iff_lt_or_eq.1 hi with hi | rfl
        · exact h3 i hi
        · exact less_irr _
      · have := h1 i hi
        rw [e, c] at this
        cases this
    · rw [if_neg c]
      refine ⟨fun i hi => ?_, h2⟩
      rcases Nat.lt_succ_iff_lt_or_eq.1 hi with hi | rfl
      · exact h1 i hi
      · exact Bool.eq_false_iff.2 c
def beginL (l : List V) : List V := l.drop (leastR l l.length) ++ l.take (leastR l l.length)
theorem beginL_hd {l : List V} (h : 0 < l.length) : hd (beginL l) ∈ l := by
  have h1 := leastR_lt h l.length (Nat.le_refl _)
  unfold beginL hd
  rw [List.drop_eq_getElem_cons h1]
  exact List.getElem_mem h1
theorem shape_rings {o : List V} {hs : List (List V)} (h : shapeB o hs = true) : ∀ r ∈ o :: hs, ringB r = true := by
  unfold shapeB at h
  simp only [Bool.and_eq_true] at h
  exact fun r hr => List.all_eq_true.1 h.2.1 r hr
theorem ring_facts {r : List V} (h : ringB r = true) : 3 ≤ r.length ∧ near r = true := by
  unfold ringB at h
  simp only [Bool.and_eq_true, decide_eq_true_eq] at h
  exact ⟨h.1, h.2.2.1⟩
theorem shape_apart {o : List V} {hs : List (List V)} (h : shapeB o hs = true) {i k : Nat} (hi : i < hs.length) (hk : k < i) : apartB (hAt hs i) (hAt hs k) = true := by
  unfold shapeB at h
  simp only [Bool.and_eq_true] at h
  have h1 := allFrom_iff.1 h.2.2.2 i (Nat.zero_le _) (by omega)
  unfold holeB at h1
  simp only [Bool.and_eq_true] at h1
  have h2 := allFrom_iff.1 h1.2 k (Nat.zero_le _) (by omega)
  unfold pairB at h2
  simp only [Bool.and_eq_true] at h2
  exact h2.1
theorem hAt_get {hs : List (List V)} {i : Nat} (hi : i < hs.length) : hAt hs i = hs[i] := by
  unfold hAt
  rw [List.getD_eq_getElem?_getD, List.getElem?_eq_getElem hi]; rfl
theorem heads_differ {o : List V} {hs : List (List V)} (h : shapeB o hs = true) : ((hs.map beginL).map hd).Nodup := by
  rw [List.nodup_iff_pairwise_ne, List.pairwise_iff_getElem]
  intro i j hi hj hij
  simp only [List.length_map] at hi hj
  simp only [List.getElem_map]
  have hr : ∀ k (hk : k < hs.length), 3 ≤ hs[k].length ∧ near hs[k] = true := fun k hk => ring_facts (shape_rings h _ (List.mem_cons_of_mem _ (List.getElem_mem hk)))
  obtain ⟨a1, a2⟩ := hr i hi
  obtain ⟨b1, b2⟩ := hr j hj
  have hp := shape_apart h hj hij
  rw [hAt_get hi, hAt_get hj] at hp
  exact fun e => apart_points (by omega) (by omega) b2 a2 hp (beginL_hd (by omega)) (beginL_hd (by omega)) e.symm
/-- The holes that the program sorts are those of the reference. -/
theorem holes_one {o : List V} {hs l : List (List V)} (h : shapeB o hs = true) (hp : l.Perm (hs.map beginL)) (ha : Asc l) : l = sortH (hs.map beginL) := asc_one (heads_differ h) hp ha
end Go.Proofs.YtnmmhcchpcbeeaaGreat.Ge

namespace Go.Proofs.YtnmmhcchpcbeeaaGreat.Ge
open Go
theorem minUp_least (l : List V) : ∀ k, 0 < k → GeW.minUp l k = l.getD (leastR l k) (0, 0)
  | 0, h => absurd h (Nat.lt_irrefl _)
  | k + 1, _ => by
    unfold GeW.minUp leastR
    by_cases h0 : k = 0
    · subst h0
      rw [if_pos rfl]
      split <;> rfl
    · rw [if_neg h0, minUp_least l k (by omega)]
      have e := GeW.vcmp_less (l.getD k (0, 0)) (l.getD (leastR l k) (0, 0))
      cases c : less (l.getD k (0, 0)) (l.getD (leastR l k) (0, 0)) with
      | true => rw [c] at e; rw [if_pos (of_decide_eq_true e), if_pos rfl]
      | false => rw [c] at e; rw [if_neg (of_decide_eq_false e), if_neg (by decide)]
theorem idx_first {α : Type} (p : α → Bool) : ∀ (l : List α) (i k : Nat) (hk : k < l.length), p l[k] = true → (∀ j (hj : j < k), p (l[j]'(Nat.lt_trans hj hk)) = false) → GeW.idx p l i = ((i + k : Nat) : Int)
  | [], _, k, hk, _, _ => absurd hk (Nat.not_lt_zero k)
  | x :: r, i, 0, _, h, _ => by
    unfold GeW.idx
    have h' : p x = true := h
    rw [if_pos h']
    simp
  | x :: r, i, k + 1, hk, h, hn => by
    unfold GeW.idx
    have h' : p x = false := hn 0 (Nat.succ_pos k)
    rw [if_neg (by rw [h']; decide), idx_first p r (i + 1) k (Nat.lt_of_succ_lt_succ hk) h (fun j hj => hn (j + 1) (Nat.succ_lt_succ hj))]
    congr 1
    omega
theorem canon_begin {l : List V} (h : 0 < l.length) : canonL l = beginL l := by
  have e : leastAt l = leastR l l.length := by
    have hk := leastR_lt h l.length (Nat.le_refl _)
    have hm : GeW.minV l = l.getD (leastR l l.length) (0, 0) := minUp_least l l.length h
    have h2 := (leastR_spec (l := l) l.length).2
    have g : ∀ j (hj : j < l.length), l.getD j (0, 0) = l[j] := fun j hj => by rw [List.getD_eq_getElem?_getD, List.getElem?_eq_getElem hj]; rfl
    unfold leastAt
    rw [idx_first _ l 0 (leastR l l.length) hk (by rw [hm, g _ hk]; simp) (fun j hj => by
      have h3 := h2 j hj
      rw [g _ (Nat.lt_trans hj hk)] at h3
      rw [hm]
      exact decide_eq_false (fun e => h3 e.symm))]
    simp
  unfold canonL beginL
  rw [e]
theorem canonR_begin {l : List V} (h : ringB l = true) : canonR l = beginL l := by
  unfold canonR
  rw [if_pos h]
  exact canon_begin (by have := (ring_facts h).1; omega)
/-- The canonical shape. -/
def canonO (o : List V) (hs : List (List V)) : List V := if shapeB o hs then beginL o else []
def canonHs (o : List V) (hs : List (List V)) : List (List V) := if shapeB o hs then sortH (hs.map beginL) else []
/-- The shape is valid and its own canonical one. -/
def rightB (o : List V) (hs : List (List V)) : Bool := shapeB o hs && (decide (o = beginL o) && decide (hs = sortH (hs.map beginL)))
end Go.Proofs.YtnmmhcchpcbeeaaGreat.Ge
