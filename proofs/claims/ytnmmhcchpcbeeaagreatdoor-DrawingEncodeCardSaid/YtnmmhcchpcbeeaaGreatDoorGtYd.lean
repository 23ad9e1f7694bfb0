/- Walk: two lists of texts that are one. Conditions: the lists lie in memory. -/
import Derived.WalkKit
import Derived.Test.YtnmmhcchpcbeeaaGreatDoorDwX
import Derived.Test.YtnmmhcchpcbeeaaGreatDoorGtL
import Derived.Lib.SlicesCompact
import Derived.Sort.Walk0
import Derived.Test.YtnmmhcchpcbeeaaGreatDoorGeC
import Derived.BigRegion

namespace Go.Proofs.YtnmmhcchpcbeeaaGreatDoor.Od

/-- A strict, total order. -/
structure Tot {α : Type} (lt : α → α → Bool) : Prop where
 irr : ∀ a, lt a a = false
 trans : ∀ a b c, lt a b = true → lt b c = true → lt a c = true
 tri : ∀ a b, lt a b = false → lt b a = false → a = b
section
variable {α : Type} {lt : α → α → Bool}
/-- A sum put in at its key's place. -/
def ins (lt : α → α → Bool) : List (α × Int) → α × Int → List (α × Int)
 | [], x => [x]
 | y :: r, x => if lt y.1 x.1 = true then y :: ins lt r x else if lt x.1 y.1 = true then x :: y :: r else (y.1, y.2 + x.2) :: r
def nf (lt : α → α → Bool) (l : List (α × Int)) : List (α × Int) := l.foldl (ins lt) []
def hasK (l : List (α × Int)) (k : α) : Prop := ∃ x ∈ l, x.1 = k
def Up (lt : α → α → Bool) (l : List (α × Int)) : Prop := l.Pairwise fun x y => lt x.1 y.1 = true
theorem hasK_cons (x : α × Int) (r : List (α × Int)) (k : α) : hasK (x :: r) k ↔ x.1 = k ∨ hasK r k := by
 unfold hasK
 simp
theorem hasK_nil (k : α) : ¬ hasK ([] : List (α × Int)) k := by unfold hasK; simp
theorem ins_mem (l : List (α × Int)) (x : α × Int) : ∀ y ∈ ins lt l x, y.1 = x.1 ∨ ∃ z ∈ l, z.1 = y.1 := by
 induction l with
 | nil => intro y hy; unfold ins at hy; simp at hy; exact .inl (by rw [hy])
 | cons z r ih =>
  intro y hy
  unfold ins at hy
  split at hy
  ·rcases List.mem_cons.1 hy with h | h
   ·exact .inr ⟨z, by simp, by rw [h]⟩
   ·rcases ih y h with h | ⟨u, h1, h2⟩
    ·exact .inl h
    ·exact .inr ⟨u, by simp [h1], h2⟩
  ·split at hy
   ·rcases List.mem_cons.1 hy with h | h
    ·exact .inl (by rw [h])
    ·exact .inr ⟨y, h, rfl⟩
   ·rcases List.mem_cons.1 hy with h | h
    ·exact .inr ⟨z, by simp, by rw [h]⟩
    ·exact .inr ⟨y, by simp [h], rfl⟩
theorem nf_snoc (l : List (α × Int)) (x : α × Int) : nf lt (l ++ [x]) = ins lt (nf lt l) x := by unfold nf; rw [List.foldl_append]; rfl
theorem up_head {x : α × Int} {r : List (α × Int)} (T : Tot lt) (h : Up lt (x :: r)) : ¬ hasK r x.1 := by
 rintro ⟨y, hy, e⟩
 have := (List.pairwise_cons.1 h).1 y hy
 rw [e, T.irr] at this
 cases this
theorem ins_has (T : Tot lt) : ∀ (l : List (α × Int)) (x : α × Int) (k : α), hasK (ins lt l x) k ↔ x.1 = k ∨ hasK l k
 | [], x, k => by unfold ins; rw [hasK_cons]
 | y :: r, x, k => by
  unfold ins
  by_cases h1 : lt y.1 x.1 = true
  ·rw [if_pos h1, hasK_cons, hasK_cons, ins_has T r x k]
   exact ⟨fun h => by rcases h with h | h | h <;> simp [h], fun h => by rcases h with h | h | h <;> simp [h]⟩
  ·rw [if_neg h1]
   by_cases h2 : lt x.1 y.1 = true
   ·rw [if_pos h2, hasK_cons]
   ·rw [if_neg h2, hasK_cons, hasK_cons]
    have e : y.1 = x.1 := T.tri _ _ (by simpa using h1) (by simpa using h2)
    simp only [e]
    exact ⟨fun h => by rcases h with h | h <;> simp [h], fun h => by rcases h with h | h | h <;> simp [h]⟩
theorem ins_up (T : Tot lt) : ∀ (l : List (α × Int)) (x : α × Int), Up lt l → Up lt (ins lt l x)
 | [], x, _ => by unfold ins Up; simp
 | y :: r, x, h => by
  obtain ⟨h1, h2⟩ := List.pairwise_cons.1 h
  unfold ins
  by_cases hyx : lt y.1 x.1 = true
  ·rw [if_pos hyx]
   refine List.pairwise_cons.2 ⟨fun z hz => ?_, ins_up T r x h2⟩
   rcases ins_mem r x z hz with e | ⟨u, hu, e⟩
   ·rw [e]; exact hyx
   ·rw [← e]; exact h1 u hu
  ·rw [if_neg hyx]
   by_cases hxy : lt x.1 y.1 = true
   ·rw [if_pos hxy]
    refine List.pairwise_cons.2 ⟨fun z hz => ?_, h⟩
    rcases List.mem_cons.1 hz with e | e
    ·rw [e]; exact hxy
    ·exact T.trans _ _ _ hxy (h1 z e)
   ·rw [if_neg hxy]
    exact List.pairwise_cons.2 ⟨fun z hz => h1 z hz, h2⟩
theorem fold_up (T : Tot lt) : ∀ (l acc : List (α × Int)), Up lt acc → Up lt (l.foldl (ins lt) acc)
 | [], _, h => h
 | x :: r, acc, h => fold_up T r _ (ins_up T acc x h)
theorem fold_has (T : Tot lt) (k : α) : ∀ (l acc : List (α × Int)), hasK (l.foldl (ins lt) acc) k ↔ hasK acc k ∨ hasK l k
 | [], acc => by simp [hasK_nil]
 | x :: r, acc => by
  rw [List.foldl_cons, fold_has T k r, ins_has T, hasK_cons]
  exact ⟨fun h => by rcases h with (h | h) | h <;> simp [h], fun h => by rcases h with h | h | h <;> simp [h]⟩
theorem nf_up (T : Tot lt) (l : List (α × Int)) : Up lt (nf lt l) := fold_up T l [] (by unfold Up; simp)
theorem nf_has (T : Tot lt) (l : List (α × Int)) (k : α) : hasK (nf lt l) k ↔ hasK l k := by
 unfold nf; rw [fold_has T]; simp [hasK_nil]
end
section
variable {α : Type} [DecidableEq α] {lt : α → α → Bool}
def sumK (l : List (α × Int)) (k : α) : Int := match l with
 | [] => 0
 | x :: r => (if x.1 = k then x.2 else 0) + sumK r k
theorem sumK_nil (k : α) : sumK ([] : List (α × Int)) k = 0 := rfl
theorem sumK_cons (x : α × Int) (r : List (α × Int)) (k : α) : sumK (x :: r) k = (if x.1 = k then x.2 else 0) + sumK r k := rfl
theorem sumK_none {l : List (α × Int)} {k : α} (h : ¬ hasK l k) : sumK l k = 0 := by
 induction l with
 | nil => rfl
 | cons x r ih =>
  rw [hasK_cons] at h
  rw [sumK_cons, ih (fun e => h (.inr e)), if_neg (fun e => h (.inl e))]
  rfl
theorem ins_sum (T : Tot lt) : ∀ (l : List (α × Int)) (x : α × Int) (k : α), sumK (ins lt l x) k = sumK l k + if x.1 = k then x.2 else 0
 | [], x, k => by unfold ins; rw [sumK_cons, sumK_nil]; omega
 | y :: r, x, k => by
  unfold ins
  by_cases h1 : lt y.1 x.1 = true
  ·rw [if_pos h1, sumK_cons, sumK_cons, ins_sum T r x k]; omega
  ·rw [if_neg h1]
   by_cases h2 : lt x.1 y.1 = true
   ·rw [if_pos h2, sumK_cons]; omega
   ·rw [if_neg h2, sumK_cons, sumK_cons]
    have e : y.1 = x.1 := T.tri _ _ (by simpa using h1) (by simpa using h2)
    simp only [e]
    split <;> omega
theorem fold_sum (T : Tot lt) (k : α) : ∀ (l acc : List (α × Int)), sumK (l.foldl (ins lt) acc) k = sumK acc k + sumK l k
 | [], acc => by simp [sumK_nil]
 | x :: r, acc => by rw [List.foldl_cons, fold_sum T k r, ins_sum T, sumK_cons]; omega
theorem nf_sum (T : Tot lt) (l : List (α × Int)) (k : α) : sumK (nf lt l) k = sumK l k := by
 unfold nf; rw [fold_sum T, sumK_nil]; omega
/-- Ascending lists with the same keys and sums are one. -/
theorem up_uniq (T : Tot lt) : ∀ (a b : List (α × Int)), Up lt a → Up lt b → (∀ k, hasK a k ↔ hasK b k) → (∀ k, sumK a k = sumK b k) → a = b
 | [], [], _, _, _, _ => rfl
 | [], y :: b, _, _, h, _ => absurd ((h y.1).2 ⟨y, by simp, rfl⟩) (hasK_nil _)
 | x :: a, [], _, _, h, _ => absurd ((h x.1).1 ⟨x, by simp, rfl⟩) (hasK_nil _)
 | x :: a, y :: b, ha, hb, h, hs => by
  have first : ∀ {u v : α × Int} {r s : List (α × Int)}, Up lt (u :: r) → hasK (v :: s) u.1 → Up lt (v :: s) → lt u.1 v.1 = false := by
   intro u v r s _ h2 h3
   rw [hasK_cons] at h2
   rcases h2 with e | ⟨z, hz, e⟩
   ·rw [e]; exact T.irr _
   ·have := (List.pairwise_cons.1 h3).1 z hz
    rw [e] at this
    cases hl : lt u.1 v.1
    ·rfl
    ·have := T.trans _ _ _ hl this
     rw [T.irr] at this; cases this
  have e1 : x.1 = y.1 := T.tri _ _ (first ha ((h x.1).1 ⟨x, by simp, rfl⟩) hb) (first hb ((h y.1).2 ⟨y, by simp, rfl⟩) ha)
  have hna := up_head T ha
  have hnb := up_head T hb
  have e2 : x.2 = y.2 := by
   have := hs x.1
   rw [sumK_cons, sumK_cons, sumK_none hna, if_pos rfl, if_pos e1.symm, e1, sumK_none hnb] at this
   omega
  have exy : x = y := Prod.ext e1 e2
  subst exy
  congr 1
  refine up_uniq T a b (List.pairwise_cons.1 ha).2 (List.pairwise_cons.1 hb).2 (fun k => ?_) (fun k => ?_)
  ·have := h k
   rw [hasK_cons, hasK_cons] at this
   by_cases e : x.1 = k
   ·subst e
    exact ⟨fun h => absurd h hna, fun h => absurd h hnb⟩
   ·exact ⟨fun h => (this.1 (.inr h)).resolve_left e, fun h => (this.2 (.inr h)).resolve_left e⟩
  ·have := hs k
   rw [sumK_cons, sumK_cons] at this
   omega
/-- The sums of a list in ascending order, however they were found. -/
theorem nf_of (T : Tot lt) {l m : List (α × Int)} (hm : Up lt m) (hh : ∀ k, hasK m k ↔ hasK l k) (hs : ∀ k, sumK m k = sumK l k) : m = nf lt l :=
 up_uniq T _ _ hm (nf_up T l) (fun k => (hh k).trans (nf_has T l k).symm) (fun k => (hs k).trans (nf_sum T l k).symm)
end

/-- The order of texts. -/
def sl (a b : List UInt8) : Bool := Op.bytesLess a b
theorem sl_irr : ∀ a, sl a a = false
 | [] => rfl
 | c :: r => by
  have := sl_irr r
  unfold sl at this ⊢
  unfold Op.bytesLess
  rw [this]
  simp
theorem sl_cons (a b : UInt8) (x y : List UInt8) : sl (a :: x) (b :: y) = (decide (a < b) || (decide (a = b) && sl x y)) := by
 unfold sl
 rw [Op.bytesLess]
 rfl
theorem sl_tri : ∀ a b, sl a b = false → sl b a = false → a = b
 | [], [], _, _ => rfl
 | [], c :: r, h, _ => by cases h
 | c :: r, [], _, h => by cases h
 | c :: r, d :: s, h1, h2 => by
  rw [sl_cons] at h1 h2
  simp only [Bool.or_eq_false_iff, Bool.and_eq_false_imp, decide_eq_false_iff_not, decide_eq_true_eq] at h1 h2
  have e : c = d := by
   apply UInt8.toNat_inj.1
   have := h1.1
   have := h2.1
   simp only [UInt8.lt_iff_toNat_lt] at *
   omega
  subst e
  rw [sl_tri r s (h1.2 rfl) (h2.2 rfl)]
theorem sl_trans : ∀ a b c, sl a b = true → sl b c = true → sl a c = true
 | _, [], _, h, _ => by cases h2 : (‹List UInt8› : List UInt8) <;> simp_all [sl, Op.bytesLess]
 | _, _ :: _, [], _, h => by cases h
 | [], _ :: _, _ :: _, _, _ => rfl
 | a :: x, b :: y, c :: z, h1, h2 => by
  rw [sl_cons] at h1 h2 ⊢
  simp only [Bool.or_eq_true, Bool.and_eq_true, decide_eq_true_eq, UInt8.lt_iff_toNat_lt] at h1 h2 ⊢
  rcases h1 with h1 | ⟨rfl, h1⟩
  ·rcases h2 with h2 | ⟨rfl, h2⟩
   ·exact .inl (by omega)
   ·exact .inl h1
  ·rcases h2 with h2 | ⟨rfl, h2⟩
   ·exact .inl h2
   ·exact .inr ⟨rfl, sl_trans x y z h1 h2⟩
theorem sl_tot : Tot sl := ⟨sl_irr, sl_trans, sl_tri⟩
end Go.Proofs.YtnmmhcchpcbeeaaGreatDoor.Od

namespace Go.Proofs.YtnmmhcchpcbeeaaGreatDoor.GtW
open Go Go.RowKit Go.Proofs.YtnmmhcchpcbeeaaGreatDoor.Mem Go.Proofs.YtnmmhcchpcbeeaaGreatDoor.Ge Go.Sort
open Go.Proofs.YtnmmhcchpcbeeaaGreatDoor.GeW
open Go.Proofs.YtnmmhcchpcbeeaaGreatDoor.Od (ins Tot)
abbrev Nd : Type := List UInt8 × Int
theorem ins_here {α : Type} {lt : α → α → Bool} : ∀ (acc : List (α × Int)) (x : α × Int) (k : Nat) (hk : k < acc.length), (∀ j (h : j < k), lt (acc[j]'(by omega)).1 x.1 = true) → lt acc[k].1 x.1 = false → lt x.1 acc[k].1 = false →
  ins lt acc x = acc.set k (acc[k].1, acc[k].2 + x.2)
 | [], x, k, hk, _, _, _ => by simp at hk
 | y :: r, x, 0, hk, _, h2, h3 => by
  simp only [List.getElem_cons_zero] at h2 h3
  unfold ins
  rw [if_neg (by rw [h2]; simp), if_neg (by rw [h3]; simp)]
  rfl
 | y :: r, x, k + 1, hk, h1, h2, h3 => by
  have h0 := h1 0 (Nat.succ_pos k)
  simp only [List.getElem_cons_zero] at h0
  simp only [List.getElem_cons_succ] at h2 h3
  unfold ins
  rw [if_pos h0, ins_here r x k (by simpa using hk) (fun j hj => by simpa using h1 (j + 1) (by omega)) h2 h3]
  rfl
theorem ins_new {α : Type} {lt : α → α → Bool} : ∀ (acc : List (α × Int)) (x : α × Int) (k : Nat) (hk : k ≤ acc.length), (∀ j (h : j < k), lt (acc[j]'(by omega)).1 x.1 = true) → (∀ h : k < acc.length, lt acc[k].1 x.1 = false ∧ lt x.1 acc[k].1 = true) →
  ins lt acc x = acc.take k ++ x :: acc.drop k
 | [], x, k, hk, _, _ => by unfold ins; simp
 | y :: r, x, 0, hk, _, h2 => by
  have := h2 (by simp)
  simp only [List.getElem_cons_zero] at this
  unfold ins
  rw [if_neg (by rw [this.1]; simp), if_pos this.2]
  rfl
 | y :: r, x, k + 1, hk, h1, h2 => by
  have h0 := h1 0 (Nat.succ_pos k)
  simp only [List.getElem_cons_zero] at h0
  unfold ins
  rw [if_pos h0, ins_new r x k (by simpa using hk) (fun j hj => by simpa using h1 (j + 1) (by omega)) (fun h => by
   have := h2 (by simpa using h)
   simp only [List.getElem_cons_succ] at this
   exact this)]
  rfl
theorem text_eq (a b : List UInt8) : ((ByteArray.mk a.toArray).toList == (ByteArray.mk b.toArray).toList) = decide (a = b) := by
 rw [Go.ByteArray.toList_eq, Go.ByteArray.toList_eq, Bool.eq_iff_iff]
 simp
theorem text_less (a b : List UInt8) : Op.bytesLess (ByteArray.mk a.toArray).toList (ByteArray.mk b.toArray).toList = Od.sl a b := by
 rw [Go.ByteArray.toList_eq, Go.ByteArray.toList_eq]
 rfl
/-- A name as a sum of nothing. -/
def oz (x : Ent) : Nd := (x.layer, 0)
def ocCells (x : Nd) : List Value := [.string ⟨x.1.toArray⟩]
def lays (l : List Ent) : List Nd := if drawOk l = true then Od.nf Od.sl (l.map oz) else []
theorem oc_len (x : Nd) : (ocCells x).length = 1 := rfl
theorem oc_cell (l : List Nd) : ∀ u ∈ l.flatMap ocCells, u.oneCell' = true := by
 intro u hu
 obtain ⟨x, _, hx⟩ := List.mem_flatMap.1 hu
 unfold ocCells at hx
 simp at hx
 rcases hx with rfl
 rfl
theorem new1_row (w : World) (a : Value) (T : TypeId) : Row (w.alloc (.cells #[a] T)) (some ⟨w.heap.size, 0, none⟩) [a] := fun _ => by
 refine ⟨_, _, rfl, by simp, fun j hj => ?_⟩
 match j, hj with
 | 0, _ => simp
 | j + 1, hj => simp only [List.length_cons, List.length_nil] at hj; omega
theorem new1_rowB (w : World) (o : Obj) (a : Value) (T : TypeId) : Row ((w.alloc o).alloc (.cells #[a] T)).drew (some ⟨w.heap.size + 1, 0, none⟩) [a] := by
 have := Row.drew (new1_row (w.alloc o) a T)
 rw [World.size_alloc] at this
 exact this
theorem new1_rowC (w : World) (o : Obj) (a : Value) (T : TypeId) : Row ((w.alloc (.cells #[a] T)).alloc o).drew (some ⟨w.heap.size, 0, none⟩) [a] := Row.alloc (new1_row w a T) o
theorem le_sl (x y : List UInt8) : decide (x ≤ y) = !Od.sl y x := by
 have h : Od.sl y x = decide (y < x) := bytesLess_eq y x
 rw [h, Bool.eq_iff_iff]
 simp
theorem sl_le_lt {a b c : List UInt8} (h1 : Od.sl b a = false) (h2 : Od.sl b c = true) : Od.sl a c = true := by
 cases h : Od.sl a b
 ·rw [Od.sl_tri _ _ h h1]; exact h2
 ·exact Od.sl_trans _ _ _ h h2
theorem keeps_ne {d : Array (List UInt8)} {j : Nat} (h : Lib.keeps d j = true) (h0 : 0 < j) : d[j]! ≠ d[j - 1]! := by
 unfold Lib.keeps at h
 simp only [decide_eq_true_eq] at h
 rcases h with h | h
 ·omega
 ·exact h
theorem compact_mem {d : Array (List UInt8)} : ∀ (j m : Nat), j < m → d[j]! ∈ Lib.compactUpTo d m
 | 0, m, h => by
  unfold Lib.compactUpTo
  exact List.mem_map.2 ⟨0, List.mem_filter.2 ⟨List.mem_range.2 h, by simp [Lib.keeps]⟩, rfl⟩
 | j + 1, m, h => by
  cases hk : Lib.keeps d (j + 1)
  ·have : d[j + 1]! = d[j]! := by
    unfold Lib.keeps at hk
    simp at hk
    exact hk
   rw [this]
   exact compact_mem j m (by omega)
  ·unfold Lib.compactUpTo
   exact List.mem_map.2 ⟨j + 1, List.mem_filter.2 ⟨List.mem_range.2 h, hk⟩, rfl⟩
theorem compact_up {d : Array (List UInt8)} (hs : ∀ i j, i ≤ j → j < d.size → Od.sl d[j]! d[i]! = false) (m : Nat) (hm : m ≤ d.size) : (Lib.compactUpTo d m).Pairwise fun x y => Od.sl x y = true := by
 unfold Lib.compactUpTo
 rw [List.pairwise_map]
 refine List.Pairwise.imp_of_mem ?_ ((List.pairwise_lt_range (n := m)).filter (Lib.keeps d))
 intro i j hi hj hij
 obtain ⟨hj1, hj2⟩ := List.mem_filter.1 hj
 have hjm := List.mem_range.1 hj1
 have hne := keeps_ne hj2 (by omega)
 have h1 := hs i (j - 1) (by omega) (by omega)
 have h2 := hs (j - 1) j (by omega) (by omega)
 refine sl_le_lt h1 ?_
 cases h : Od.sl d[j - 1]! d[j]!
 ·exact absurd (Od.sl_tri _ _ h2 h) hne
 ·rfl
theorem compact_sorted (ss : List (List UInt8)) : (Lib.compact (ss.mergeSort fun x y => decide (x ≤ y))).Pairwise (fun x y => Od.sl x y = true) ∧ ∀ x, x ∈ Lib.compact (ss.mergeSort fun x y => decide (x ≤ y)) ↔ x ∈ ss := by
 have hp := List.mergeSort_perm ss (fun x y => decide (x ≤ y))
 have hso : (ss.mergeSort fun x y => decide (x ≤ y)).Pairwise fun x y => decide (x ≤ y) = true := by
  refine List.pairwise_mergeSort (fun a b c h1 h2 => ?_) (fun a b => ?_) ss
  ·rw [le_sl] at h1 h2 ⊢
   simp only [Bool.not_eq_true'] at h1 h2 ⊢
   cases h : Od.sl c a
   ·rfl
   ·have := sl_le_lt h1 (by
     cases h3 : Od.sl b c
     ·rw [Od.sl_tri _ _ h3 h2] at h1; rw [h1] at h; cases h
     ·rfl)
    have h4 := Od.sl_trans _ _ _ this h
    rw [Od.sl_irr] at h4
    cases h4
  ·rw [le_sl, le_sl]
   cases h : Od.sl b a
   ·rfl
   ·cases h3 : Od.sl a b
    ·rfl
    ·have h4 := Od.sl_trans _ _ _ h h3
     rw [Od.sl_irr] at h4
     cases h4
 generalize (ss.mergeSort fun x y => decide (x ≤ y)) = zs at *
 have hs : ∀ i j, i ≤ j → j < zs.toArray.size → Od.sl zs.toArray[j]! zs.toArray[i]! = false := by
  intro i j hij hj
  have hj' : j < zs.length := by simpa using hj
  rcases Nat.lt_or_ge i j with h | h
  ·have := List.pairwise_iff_getElem.1 hso i j (by omega) hj' h
   rw [le_sl] at this
   have hi' : i < zs.toArray.size := by omega
   rw [getElem!_pos zs.toArray j hj, getElem!_pos zs.toArray i hi']
   simpa using this
  ·obtain rfl : i = j := by omega
   exact Od.sl_irr _
 refine ⟨compact_up hs _ (by simp), fun x => ?_⟩
 rw [← hp.mem_iff]
 constructor
 ·intro hx
  unfold Lib.compact Lib.compactUpTo at hx
  obtain ⟨j, hj, rfl⟩ := List.mem_map.1 hx
  have hjm := List.mem_range.1 (List.mem_filter.1 hj).1
  have hb : j < zs.toArray.size := by simpa using hjm
  rw [getElem!_pos zs.toArray j hb]
  simp
 ·intro hx
  obtain ⟨j, hj, rfl⟩ := List.mem_iff_getElem.1 hx
  have := compact_mem (d := zs.toArray) j zs.length hj
  have hb : j < zs.toArray.size := by simpa using hj
  rw [getElem!_pos zs.toArray j hb] at this
  unfold Lib.compact
  simpa using this
theorem lays_compact {l : List Ent} (hv : drawOk l = true) : (lays l).map Prod.fst = Lib.compact ((l.map (·.layer)).mergeSort fun x y => decide (x ≤ y)) := by
 obtain ⟨h1, h2⟩ := compact_sorted (l.map (·.layer))
 generalize Lib.compact ((l.map (·.layer)).mergeSort fun x y => decide (x ≤ y)) = c at *
 have hz : ∀ (m : List Nd), (∀ x ∈ m, x.2 = 0) → ∀ k, Od.sumK m k = 0 := by
  intro m
  induction m with
  | nil => intro _ k; rfl
  | cons x r ih =>
   intro h k
   rw [Od.sumK_cons, ih (fun y hy => h y (by simp [hy])), h x (by simp)]
   split <;> rfl
 have e : c.map (fun s => (s, (0 : Int))) = Od.nf Od.sl (l.map oz) := by
  refine Od.nf_of Od.sl_tot ?_ ?_ ?_
  ·unfold Od.Up
   rw [List.pairwise_map]
   exact h1
  ·intro k
   unfold Od.hasK
   constructor
   ·rintro ⟨x, hx, rfl⟩
    obtain ⟨s, hs, rfl⟩ := List.mem_map.1 hx
    obtain ⟨y, hy, rfl⟩ := List.mem_map.1 ((h2 s).1 hs)
    exact ⟨oz y, List.mem_map.2 ⟨y, hy, rfl⟩, rfl⟩
   ·rintro ⟨x, hx, rfl⟩
    obtain ⟨y, hy, rfl⟩ := List.mem_map.1 hx
    exact ⟨(y.layer, 0), List.mem_map.2 ⟨y.layer, (h2 _).2 (List.mem_map.2 ⟨y, hy, rfl⟩), rfl⟩, rfl⟩
  ·intro k
   rw [hz _ (fun x hx => by obtain ⟨s, _, rfl⟩ := List.mem_map.1 hx; rfl) k, hz _ (fun x hx => by obtain ⟨s, _, rfl⟩ := List.mem_map.1 hx; rfl) k]
 unfold lays
 rw [if_pos hv, ← e, List.map_map]
 exact List.map_id _
theorem oc_enc (l : List Nd) : l.flatMap ocCells = (l.map Prod.fst).map encStr := by
 induction l with
 | nil => rfl
 | cons x r ih => rw [List.flatMap_cons, ih]; rfl
def osc (l : List EntV) : List Value := (l.map (·.e.layer)).map encStr
theorem osc_snoc (l : List EntV) (k : Nat) (h : k < l.length) : osc (l.take (k + 1)) = osc (l.take k) ++ [.string ⟨l[k].e.layer.toArray⟩] := by
 unfold osc
 rw [List.take_succ_eq_append_getElem h, List.map_append, List.map_append]
 rfl
theorem compact_len (d : Array (List UInt8)) (m : Nat) : (Lib.compactUpTo d m).length ≤ m := by
 unfold Lib.compactUpTo
 rw [List.length_map]
 exact Nat.le_trans (List.length_filter_le _ _) (by simp)
theorem lays_len (d : List Ent) : (lays d).length ≤ 200 := by
 unfold lays
 split
 ·rename_i hv
  have h1 := congrArg List.length (lays_compact hv)
  unfold lays at h1
  rw [if_pos hv, List.length_map] at h1
  rw [h1]
  have := compact_len ((d.map (·.layer)).mergeSort fun x y => decide (x ≤ y)).toArray ((d.map (·.layer)).mergeSort fun x y => decide (x ≤ y)).length
  unfold Lib.compact
  rw [List.length_mergeSort, List.length_map] at this
  rw [List.length_mergeSort, List.length_map]
  unfold drawOk at hv
  rw [Bool.and_eq_true, decide_eq_true_eq] at hv
  omega
 ·simp
theorem own_empty (w : World) (base : Nat) (e : TypeId) (size : Nat) (hb : base ≤ w.heap.size) : (w.alloc (.cells #[] e)).ownsRow base e size (.slice (some ⟨w.heap.size, 0, none⟩) 0 0) 0 [] :=
 ⟨by simp, .inr ⟨w.heap.size, 0, #[], rfl, hb, heap_alloc_new w _, Nat.le_refl _, by unfold maxLen; omega, by simp, by simp⟩⟩
theorem row_get0 {α : Type} {f : α → List Value} {n : Nat} (hf : ∀ x, (f x).length = n) {w : World} {g : Nat} {l : List α} (h : Row w (some ⟨g, 0, none⟩) (l.flatMap f)) {k0 : Nat} (hl : k0 < l.length) (hn : 0 < n := by decide) :
  g < w.heap.size ∧ ∀ (k : Nat) (hk : k < l.length) (j : Nat), j < n → w.cell? ⟨g, k * n + j, none⟩ = (f l[k])[j]? := by
 obtain ⟨g', o, e, h1, h2⟩ := row_get hf hn h (by omega)
 cases e
 exact ⟨h1, fun k hk j hj => by have := h2 k hk j hj; rwa [Nat.zero_add] at this⟩
end Go.Proofs.YtnmmhcchpcbeeaaGreatDoor.GtW

namespace Go.Proofs.YtnmmhcchpcbeeaaGreatDoor.GtW
open Go Go.RowKit Go.Proofs.YtnmmhcchpcbeeaaGreatDoor.Mem
set_option maxRecDepth 100000 in
set_option maxHeartbeats 1000000 in
theorem rtexts_one (l : List Nd) (A B : Option Addr) (c d : Nat) (w : World) (hr : Row w A (l.flatMap ocCells)) (hs : Row w B (l.flatMap ocCells)) (hl : l.length ≤ 1000000) :
  Calls Tryz.prog 17 #[.slice A l.length c, .slice B l.length d] w fun e w' => e = .returned (.bool true) ∧ Below w.heap.size w w' := by
 have HA := Lib.hid hr
 have HB := Lib.hid hs
 clear hr hs
 have hn : ((l.length : Int) != (l.length : Int)) = false := by simp
 go_enter Tryz.func17, Tryz.ntmps17
 go_wp2
 go_loopw [5] (fun t wr => ∃ k : Nat, k ≤ l.length ∧ t = .int .i64 k ∧ Below w.heap.size w wr) (fun t _ => l.length - (intOf t).toNat)
 case atStart => exact ⟨0, Nat.zero_le _, rfl, Below.refl _ _⟩
 case round =>
  obtain ⟨k, hk, rfl, hbel⟩ := hrel
  by_cases hlt : k < l.length
  ·obtain ⟨g, off, rfl, hg, ca⟩ := row_get oc_len (by decide) HA.out (by omega)
   obtain ⟨g2, off2, rfl, hg2, cb⟩ := row_get oc_len (by decide) HB.out (by omega)
   have a0 := (hbel.cell (p := ⟨g, _, none⟩) hg).trans (ca k hlt 0 (by decide))
   have b0 := (hbel.cell (p := ⟨g2, _, none⟩) hg2).trans (cb k hlt 0 (by decide))
   have hk1 : (0 : Int) ≤ (k : Int) := by omega
   have hk2 : (k : Int) < (l.length : Int) := by omega
   have es := text_eq l[k].1 l[k].1
   rw [decide_eq_true rfl] at es
   clear ca cb
   generalize l[k] = m at *
   simp only [ocCells, List.getElem?_cons_zero, Nat.add_zero, Nat.mul_one] at a0 b0
   generalize (ByteArray.mk m.1.toArray) = OB at *
   have es2 : (OB.toList != OB.toList) = false := by unfold bne; rw [es]; rfl
   go_wp2
   go_region
   as_aux_lemma =>
    go_wp2
    go_roundw
    case rel => exact ⟨k + 1, by omega, by go_num, GeW.below_drew hbel⟩
    case measure => simp [intOf]; omega
  ·obtain rfl : k = l.length := by omega
   go_wp2
   go_ret
   exact ⟨rfl, hbel⟩

end Go.Proofs.YtnmmhcchpcbeeaaGreatDoor.GtW
