/- What a map of sums holds, and what has come of a range over it, in terms of lists of keys and numbers. Conditions: as stated. -/
import Derived.Test.YteldekkodhfkkaaGreatDoorOdPlain
import Derived.Test.YteldekkodhfkkaaGreatDoorOdM
import Derived.Maps.RangeWalk
import Derived.Maps.Ext
namespace Go.Proofs.YteldekkodhfkkaaGreatDoor.OdW
open Go Go.RowKit
open Go.Maps (Keyed IsMap)
open Od (sumK hasK nf Up Tot)
section
variable {P : Program} {K : TypeId} {α : Type} {mk : α → Value} {kt : α → Lit} {wf : α → Prop}

/-- How the keys of a type read. -/
structure Keys (P : Program) (K : TypeId) {α : Type} (mk : α → Value) (kt : α → Lit) (wf : α → Prop) : Prop where
  made : ∀ a, wf a → keyOf P K (mk a) = some (kt a)
  inv : ∀ {v : Value} {l : Lit}, keyOf P K v = some l → ∃ a, wf a ∧ v = mk a ∧ l = kt a
  inj : ∀ {a b : α}, wf a → wf b → kt a = kt b → a = b
  key : ∀ {a : α}, wf a → WideAt.IsKeyLit (kt a)
theorem up_of_sorted {lt : α → α → Bool} (T : Tot lt) {m : List (α × Int)} (hs : m.Pairwise fun x y => lt y.1 x.1 = false) (hn : (m.map Prod.fst).Nodup) : Up lt m := by
  unfold Up
  rw [List.nodup_iff_pairwise_ne, List.pairwise_map] at hn
  refine (hs.and hn).imp ?_
  intro x y ⟨h1, h2⟩
  cases hl : lt x.1 y.1
  · exact absurd (T.tri _ _ hl h1) h2
  · rfl
variable [DecidableEq α]
/-- The map holds the sums of the list. -/
def MapIs (kt : α → Lit) (wf : α → Prop) (D : DataW Unit) (l : List (α × Int)) : Prop :=
  IsMap D ∧ (∀ a, wf a → (Maps.has D (kt a) = true ↔ hasK l a)) ∧ ∀ a, wf a → D.atKey (kt a) (.lit (.int .i64 0)) = .lit (.int .i64 (sumK l a))
theorem MapIs.start : MapIs kt wf (.map []) ([] : List (α × Int)) :=
  ⟨Maps.isMap_empty, fun a _ => by simp [Maps.has, Od.hasK_nil], fun a _ => rfl⟩
theorem MapIs.step (KS : Keys P K mk kt wf) {D : DataW Unit} {l : List (α × Int)} (h : MapIs kt wf D l) {a : α} (ha : wf a) (q : Int) :
    MapIs kt wf (D.put (kt a) (.lit (.int .i64 (sumK l a + q)))) (l ++ [(a, q)]) := by
  obtain ⟨h1, h2, h3⟩ := h
  refine ⟨h1.put _ _, fun b hb => ?_, fun b hb => ?_⟩
  · rw [Od.hasK_app, Od.hasK_cons]
    by_cases e : b = a
    · subst e
      rw [Maps.has_put_same h1 (KS.key ha)]
      simp
    · rw [Maps.has_put_other (fun e2 => e (KS.inj hb ha e2)), h2 b hb]
      exact ⟨fun h => .inl h, fun h => h.resolve_right (fun h => h.elim (fun e2 => e e2.symm) (Od.hasK_nil _))⟩
  · rw [Od.sumK_app, Od.sumK_cons, Od.sumK_nil]
    by_cases e : b = a
    · subst e
      rw [Maps.atKey_put_same h1 (KS.key ha), if_pos rfl]
      simp
    · rw [Maps.atKey_put_other (fun e2 => e (KS.inj hb ha e2)), h3 b hb, if_neg (fun e2 => e e2.symm)]
      simp
/-- What has come so far of a range over the map. -/
structure Coll (kt : α → Lit) (wf : α → Prop) (l : List (α × Int)) (left : Lit → Bool) (acc : List (α × Int)) : Prop where
  each : ∀ x ∈ acc, wf x.1 ∧ left (kt x.1) = false ∧ hasK l x.1 ∧ x.2 = sumK l x.1
  once : (acc.map Prod.fst).Nodup
  all : ∀ a, wf a → hasK l a → left (kt a) = true ∨ ∃ n, (a, n) ∈ acc
theorem Coll.start {D : DataW Unit} {l : List (α × Int)} (h : MapIs kt wf D l) : Coll kt wf l (Maps.has D) [] :=
  ⟨by simp, by simp, fun a ha hk => .inl ((h.2.1 a ha).2 hk)⟩
theorem Coll.step (KS : Keys P K mk kt wf) {D : DataW Unit} {l acc : List (α × Int)} {left : Lit → Bool} (hM : MapIs kt wf D l) (h : Coll kt wf l left acc) {a : α} (ha : wf a) {c : Int} (hl : left (kt a) = true) (hat : ∀ zd, D.atKey (kt a) zd = .lit (.int .i64 c)) :
    c = sumK l a ∧ Coll kt wf l (fun z => left z && !z.sameKey (kt a)) (acc ++ [(a, c)]) := by
  have hc : c = sumK l a := by
    have := hM.2.2 a ha
    rw [hat] at this
    simpa using this
  have hself : (kt a).sameKey (kt a) = true := WideAt.sameKey_self (KS.key ha)
  have hhas : hasK l a := by
    rw [← hM.2.1 a ha]
    cases hb : Maps.has D (kt a)
    · have h0 := Maps.atKey_of_not_has hb (.lit (.int .i64 (c + 1)))
      rw [hat] at h0
      simp at h0
      omega
    · rfl
  refine ⟨hc, ⟨?_, ?_, ?_⟩⟩
  · intro x hx
    rcases List.mem_append.1 hx with hx | hx
    · obtain ⟨h1, h2, h3, h4⟩ := h.each x hx
      exact ⟨h1, by rw [h2]; rfl, h3, h4⟩
    · simp only [List.mem_cons, List.not_mem_nil, or_false] at hx
      subst hx
      exact ⟨ha, by rw [hself]; simp, hhas, hc⟩
  · rw [List.map_append, List.nodup_append]
    refine ⟨h.once, by simp, ?_⟩
    intro x hx y hy e
    simp only [List.map_cons, List.map_nil, List.mem_cons, List.not_mem_nil, or_false] at hy
    subst hy
    obtain ⟨z, hz, hz2⟩ := List.mem_map.1 hx
    have := (h.each z hz).2.1
    rw [hz2, e, hl] at this
    cases this
  · intro b hb hk
    rcases h.all b hb hk with h1 | ⟨n, h1⟩
    · by_cases e : b = a
      · subst e
        exact .inr ⟨c, by simp⟩
      · left
        rw [h1]
        have : (kt b).sameKey (kt a) = false := by
          cases hs : (kt b).sameKey (kt a)
          · rfl
          · exact absurd (KS.inj hb ha (WideAt.sameKey_eq hs)) e
        rw [this]; rfl
    · exact .inr ⟨n, List.mem_append.2 (.inl h1)⟩
theorem sum_once : ∀ {acc : List (α × Int)}, (acc.map Prod.fst).Nodup → ∀ {a : α} {n : Int}, (a, n) ∈ acc → sumK acc a = n
  | [], _, a, n, h => by cases h
  | x :: r, hn, a, n, h => by
    simp only [List.map_cons, List.nodup_cons] at hn
    rw [Od.sumK_cons]
    rcases List.mem_cons.1 h with h | h
    · subst h
      rw [if_pos rfl, Od.sumK_none (fun ⟨y, hy, e⟩ => hn.1 (List.mem_map.2 ⟨y, hy, e⟩))]
      omega
    · have hne : x.1 ≠ a := fun e => hn.1 (List.mem_map.2 ⟨(a, n), h, e.symm⟩)
      rw [if_neg hne, sum_once hn.2 h]
      omega
/-- The range's end, sorted: the sums in ascending order. -/
theorem Coll.nf {lt : α → α → Bool} (T : Tot lt) {l acc m : List (α × Int)} {left : Lit → Bool} (h : Coll kt wf l left acc) (hw : ∀ x ∈ l, wf x.1) (hl : ∀ z, left z = false) (hp : m.Perm acc) (hs : m.Pairwise fun x y => lt y.1 x.1 = false) : m = nf lt l := by
  have hn : (m.map Prod.fst).Nodup := (hp.map Prod.fst).nodup_iff.2 h.once
  refine Od.nf_of T (up_of_sorted T hs hn) (fun a => ?_) (fun a => ?_)
  · constructor
    · rintro ⟨x, hx, rfl⟩
      exact (h.each x (hp.mem_iff.1 hx)).2.2.1
    · intro hk
      obtain ⟨x, hx, rfl⟩ := hk
      rcases h.all x.1 (hw x hx) ⟨x, hx, rfl⟩ with h1 | ⟨n, h1⟩
      · rw [hl] at h1; cases h1
      · exact ⟨(x.1, n), hp.mem_iff.2 h1, rfl⟩
  · by_cases hk : hasK l a
    · obtain ⟨x, hx, rfl⟩ := hk
      rcases h.all x.1 (hw x hx) ⟨x, hx, rfl⟩ with h1 | ⟨n, h1⟩
      · rw [hl] at h1; cases h1
      · rw [Od.sumK_perm hp, sum_once h.once h1]
        exact (h.each _ h1).2.2.2
    · rw [Od.sumK_none hk, Od.sumK_none]
      rintro ⟨x, hx, rfl⟩
      exact hk (h.each x (hp.mem_iff.1 hx)).2.2.1
end
end Go.Proofs.YteldekkodhfkkaaGreatDoor.OdW
