/- Equal trees, and well-formed ones, in plain Lean. Conditions: none. -/
import Derived.Test.YtjjohllfidmkjaaDoorPfTree
namespace Go.Proofs.YtjjohllfidmkjaaDoor.Pf

mutual
def sameB : T → T → Bool
  | .mk s ks lf, .mk s' ks' lf' => decide (s = s') && decide (lf = lf') && decide (ks.length = ks'.length) && sameL ks ks'
def sameL : List T → List T → Bool
  | [], [] => true
  | k :: r, k' :: r' => sameB k k' && sameL r r'
  | _, _ => false
end
mutual
theorem sameB_iff : ∀ a b : T, sameB a b = true ↔ a = b
  | .mk s ks lf, .mk s' ks' lf' => by
    unfold sameB
    have := sameL_iff ks ks'
    simp only [Bool.and_eq_true, decide_eq_true_eq, this, T.mk.injEq]
    constructor
    · rintro ⟨⟨⟨h1, h2⟩, _⟩, h3⟩; exact ⟨h1, h3, h2⟩
    · rintro ⟨h1, rfl, h2⟩; exact ⟨⟨⟨h1, h2⟩, rfl⟩, rfl⟩
theorem sameL_iff : ∀ a b : List T, sameL a b = true ↔ a = b
  | [], [] => by simp [sameL]
  | [], _ :: _ => by simp [sameL]
  | _ :: _, [] => by simp [sameL]
  | k :: r, k' :: r' => by
    unfold sameL
    simp only [Bool.and_eq_true, sameB_iff k k', sameL_iff r r', List.cons.injEq]
end
theorem sameB_self (t : T) : sameB t t = true := (sameB_iff t t).2 rfl
theorem sameL_no {a b : List T} {k : Nat} (ha : k < a.length) (hb : k < b.length) (h : sameB a[k] b[k] = false) : sameL (a.drop k) (b.drop k) = false := by
  rw [List.drop_eq_getElem_cons ha, List.drop_eq_getElem_cons hb]
  unfold sameL
  rw [h]; rfl
theorem sameL_yes {a b : List T} {k : Nat} (ha : k < a.length) (hb : k < b.length) (h : sameB a[k] b[k] = true) : sameL (a.drop k) (b.drop k) = sameL (a.drop (k + 1)) (b.drop (k + 1)) := by
  rw [List.drop_eq_getElem_cons ha, List.drop_eq_getElem_cons hb]
  conv => lhs; unfold sameL
  rw [h]; rfl
theorem sameL_end {a b : List T} (h : a.length = b.length) : sameL (a.drop a.length) (b.drop a.length) = true := by
  rw [List.drop_length, h, List.drop_length]
  rfl
def smallB (n : Int) : Bool := decide (-1073741824 ≤ n) && decide (n ≤ 1073741824)
/-- A node alone. -/
def nodeB (s : Int) (kn : Nat) (lf : List Int) : Bool :=
  if 0 < kn then decide (lf.length = 0) && decide (kn ≤ 100) && smallB s else decide (s = 0) && decide (lf.length ≤ 40) && lf.all smallB
mutual
def allB : T → Bool
  | .mk s ks lf => nodeB s ks.length lf && allL ks
def allL : List T → Bool
  | [] => true
  | k :: r => allB k && allL r
end
def validB (t : T) : Bool := decide (nW t ≤ 2000) && decide (dW t ≤ 40) && allB t
theorem allL_drop_no {ks : List T} {k : Nat} (h : k < ks.length) (hp : allB ks[k] = false) : allL (ks.drop k) = false := by
  rw [List.drop_eq_getElem_cons h]
  unfold allL
  rw [hp]; rfl
theorem allL_drop_yes {ks : List T} {k : Nat} (h : k < ks.length) (hp : allB ks[k] = true) : allL (ks.drop k) = allL (ks.drop (k + 1)) := by
  rw [List.drop_eq_getElem_cons h]
  conv => lhs; unfold allL
  rw [hp]; rfl
theorem allL_any : ∀ ks : List T, (ks.any fun k => !allB k) = !allL ks
  | [] => rfl
  | k :: r => by
    rw [List.any_cons, allL_any r, show allL (k :: r) = (allB k && allL r) by rw [allL]]
    cases allB k <;> rfl
theorem all_small_no {l : List Int} {k : Nat} (h : k < l.length) (hp : smallB l[k] = false) : (l.drop k).all smallB = false := by
  rw [List.drop_eq_getElem_cons h, List.all_cons, hp]; rfl
theorem all_small_yes {l : List Int} {k : Nat} (h : k < l.length) (hp : smallB l[k] = true) : (l.drop k).all smallB = (l.drop (k + 1)).all smallB := by
  rw [List.drop_eq_getElem_cons h, List.all_cons, hp]; rfl
end Go.Proofs.YtjjohllfidmkjaaDoor.Pf
