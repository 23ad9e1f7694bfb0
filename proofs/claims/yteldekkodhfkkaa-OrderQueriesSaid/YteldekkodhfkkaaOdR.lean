/- The place where a sum goes, in plain Lean; an append onto a row of the call's own inside a region that draws its order. Conditions: as stated. -/
import Derived.Test.YteldekkodhfkkaaOdP
import Derived.Deep.RegionLaw
import Derived.Laws.OwnMore
namespace Go.Proofs.Yteldekkodhfkkaa.OdW
open Go Go.RowKit Go.Proofs.Yteldekkodhfkkaa.Mem
open Od (ins Tot)

theorem ins_here {α : Type} {lt : α → α → Bool} : ∀ (acc : List (α × Int)) (x : α × Int) (k : Nat) (hk : k < acc.length), (∀ j (h : j < k), lt (acc[j]'(by omega)).1 x.1 = true) → lt acc[k].1 x.1 = false → lt x.1 acc[k].1 = false →
    ins lt acc x = acc.set k (acc[k].1, acc[k].2 + x.2)
  | [], x, k, hk, _, _, _ => by simp at hk
  | y :: r, x, 0, hk, _, h2, h3 => by
    simp only [List.getElem_cons_zero] at h2 h3
    unfold ins
    rw [if_neg (by rw [h2]; simp), if_neg (by rw [h3]; simp)]
    rfl
  | y :: r, x, k + 1, hk, h1, h2, h3 => by
    have h0 := h1 0 (Nat.succ_pos k)
    simp only [List.getElem_cons_zero] at h0
    simp only [List.getElem_cons_succ] at h2 h3
    unfold ins
    rw [if_pos h0, ins_here r x k (by simpa using hk) (fun j hj => by simpa using h1 (j + 1) (by omega)) h2 h3]
    rfl
theorem ins_new {α : Type} {lt : α → α → Bool} : ∀ (acc : List (α × Int)) (x : α × Int) (k : Nat) (hk : k ≤ acc.length), (∀ j (h : j < k), lt (acc[j]'(by omega)).1 x.1 = true) → (∀ h : k < acc.length, lt acc[k].1 x.1 = false ∧ lt x.1 acc[k].1 = true) →
    ins lt acc x = acc.take k ++ x :: acc.drop k
  | [], x, k, hk, _, _ => by unfold ins; simp
  | y :: r, x, 0, hk, _, h2 => by
    have := h2 (by simp)
    simp only [List.getElem_cons_zero] at this
    unfold ins
    rw [if_neg (by rw [this.1]; simp), if_pos this.2]
    rfl
  | y :: r, x, k + 1, hk, h1, h2 => by
    have h0 := h1 0 (Nat.succ_pos k)
    simp only [List.getElem_cons_zero] at h0
    unfold ins
    rw [if_pos h0, ins_new r x k (by simpa using hk) (fun j hj => by simpa using h1 (j + 1) (by omega)) (fun h => by
      have := h2 (by simpa using h)
      simp only [List.getElem_cons_succ] at this
      exact this)]
    rfl

/-- At a step of a region that draws its order. -/
theorem step_append_row {P : Program} {w : World} {ops : Array Oper} {o : Oper} {a : Act} {K : Act → World → Prop} {Q : Exit → Act → World → Prop} {E : Prop} (hgd : o.guard = none) (s x : Operand) (t : TypeId)
    (ho : o.op = .call { callee := .builtin .append, args := #[s, x], argTypes := #[t, t] })
    (base : Nat) (e : TypeId) (i : TypeInfo) (z : Value) (size bytes : Nat) (ht : P.underlying t = some (.slice e)) (hi : P.info? e = some i) (hz : i.zero = some z)
    (hsize : i.size = size) (hby : i.bytes = bytes) (hzs : z.cells.size = size) (hsz : 0 < size)
    (v : Value) (n : Nat) (xs : List Value) (hs : a.eval s = v) (hown : w.ownsRow base e size v n xs)
    (A : Option Addr) (m c : Nat) (news : List Value) (hx : a.eval x = .slice A m c) (hr : Row w A news) (hl : news.length = m * size) (h1 : ∀ u ∈ news, u.oneCell' = true)
    (h63 : n + m ≤ maxLen) (hbytes : (n + m) * bytes ≤ 140737488355328) (hbase : base ≤ w.heap.size)
    (h : ∀ v' w', w'.ownsRow base e size v' (n + m) (xs ++ news) → w.grownBy w' v.ownBlock → K (a.put o.dst v') w') :
    if Region.wanted o (yielded ops a.tmps) = true then Oper.wp P o a w K Q else E := by
  have hw : Region.wanted o (yielded ops a.tmps) = true := by simp [Region.wanted, hgd]
  rw [if_pos hw]
  exact wp_append_row w s x t ho base e i z size bytes ht hi hz hsize hby hzs hsz v n xs hs hown A m c news hx hr hl h1 h63 hbytes hbase h
/-- A row's head, a row's rest. -/
theorem Row.head {w : World} {A : Option Addr} {xs ys : List Value} (h : Row w A (xs ++ ys)) : Row w A xs := by
  intro hne
  obtain ⟨g, off, e, hg, hc⟩ := h (by cases xs <;> simp_all)
  refine ⟨g, off, e, hg, fun j hj => ?_⟩
  rw [hc j (by rw [List.length_append]; omega), List.getElem?_append_left hj]
theorem Row.rest {w : World} {g off : Nat} {xs ys : List Value} (h : Row w (some ⟨g, off, none⟩) (xs ++ ys)) : Row w (some ⟨g, off + xs.length, none⟩) ys := by
  intro hne
  obtain ⟨g', off', e, hg, hc⟩ := h (by cases ys <;> simp_all)
  cases e
  refine ⟨g, off + xs.length, rfl, hg, fun j hj => ?_⟩
  have := hc (xs.length + j) (by rw [List.length_append]; omega)
  rw [List.getElem?_append_right (by omega), show xs.length + j - xs.length = j by omega, ← Nat.add_assoc] at this
  exact this
end Go.Proofs.Yteldekkodhfkkaa.OdW
