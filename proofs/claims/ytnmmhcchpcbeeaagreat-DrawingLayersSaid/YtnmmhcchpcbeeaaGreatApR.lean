/- An append onto a row of the call's own inside a region that draws its order; rows' heads and rests; new rows. No function is in sight. Conditions: as stated. -/
import Derived.Test.YtnmmhcchpcbeeaaGreatMem2
import Derived.Test.YtnmmhcchpcbeeaaGreatGeE
import Derived.Deep.RegionLaw
import Derived.Deep.RegionHeld3
import Derived.Deep.DrawnRows

namespace Go.Proofs.YtnmmhcchpcbeeaaGreat.GeW
open Go Go.RowKit Go.Proofs.YtnmmhcchpcbeeaaGreat.Mem
theorem own_none (w : World) (T : TypeId) (size base : Nat) (hb : base ≤ w.heap.size) : (w.alloc (.cells #[] T)).ownsRow base T size (.slice (some ⟨w.heap.size, 0, none⟩) 0 0) 0 [] :=
  ⟨by simp, .inr ⟨w.heap.size, 0, #[], rfl, hb, heap_alloc_new w _, by simp, by simp, by simp, by simp⟩⟩
/-- At a step of a region that draws its order. -/
theorem step_append_row {P : Program} {w : World} {ops : Array Oper} {o : Oper} {a : Act} {K : Act → World → Prop} {Q : Exit → Act → World → Prop} {E : Prop} (hgd : o.guard = none) (s x : Operand) (t : TypeId)
    (ho : o.op = .call { callee := .builtin .append, args := #[s, x], argTypes := #[t, t] })
    (base : Nat) (e : TypeId) (i : TypeInfo) (z : Value) (size bytes : Nat) (ht : P.underlying t = some (.slice e)) (hi : P.info? e = some i) (hz : i.zero = some z)
    (hsize : i.size = size) (hby : i.bytes = bytes) (hzs : z.cells.size = size) (hsz : 0 < size)
    (v : Value) (n : Nat) (xs : List Value) (hs : a.eval s = v) (hown : w.ownsRow base e size v n xs)
    (A : Option Addr) (m c : Nat) (news : List Value) (hx : a.eval x = .slice A m c) (hr : Row w A news) (hl : news.length = m * size) (h1 : ∀ u ∈ news, u.oneCell' = true)
    (h63 : n + m ≤ maxLen) (hbytes : (n + m) * bytes ≤ 140737488355328) (hbase : base ≤ w.heap.size)
    (h : ∀ v' w', w'.ownsRow base e size v' (n + m) (xs ++ news) → w.grownBy w' v.ownBlock → K (a.put o.dst v') w') :
    if Region.wanted o (yielded ops a.tmps) = true then Oper.wp P o a w K Q else E := by
  have hw : Region.wanted o (yielded ops a.tmps) = true := by simp [Region.wanted, hgd]
  rw [if_pos hw]
  exact wp_append_row w s x t ho base e i z size bytes ht hi hz hsize hby hzs hsz v n xs hs hown A m c news hx hr hl h1 h63 hbytes hbase h
/-- A row's head, a row's rest. -/
theorem Row.head {w : World} {A : Option Addr} {xs ys : List Value} (h : Row w A (xs ++ ys)) : Row w A xs := by
  intro hne
  obtain ⟨g, off, e, hg, hc⟩ := h (by cases xs <;> simp_all)
  refine ⟨g, off, e, hg, fun j hj => ?_⟩
  rw [hc j (by rw [List.length_append]; omega), List.getElem?_append_left hj]
theorem Row.rest {w : World} {g off : Nat} {xs ys : List Value} (h : Row w (some ⟨g, off, none⟩) (xs ++ ys)) : Row w (some ⟨g, off + xs.length, none⟩) ys := by
  intro hne
  obtain ⟨g', off', e, hg, hc⟩ := h (by cases ys <;> simp_all)
  cases e
  refine ⟨g, off + xs.length, rfl, hg, fun j hj => ?_⟩
  have := hc (xs.length + j) (by rw [List.length_append]; omega)
  rw [List.getElem?_append_right (by omega), show xs.length + j - xs.length = j by omega, ← Nat.add_assoc] at this
  exact this
theorem Row.alloc {w : World} {A : Option Addr} {xs : List Value} (h : Row w A xs) (o : Obj) : Row (w.alloc o) A xs := h.below ((Below.refl _ _).alloc (Nat.le_refl _) o)
theorem Row.drew {w : World} {A : Option Addr} {xs : List Value} (h : Row w A xs) : Row w.drew A xs := h
theorem row_grown {w w' : World} {g off : Nat} {xs : List Value} {row : Option Nat} (h : Row w (some ⟨g, off, none⟩) xs) (hg : w.grownBy w' row) (hne : row ≠ some g) : Row w' (some ⟨g, off, none⟩) xs := fun hx => by
  obtain ⟨g', off', e, h1, h2⟩ := h hx
  cases e
  refine ⟨g, off, rfl, Nat.lt_of_lt_of_le h1 hg.size, fun j hj => ?_⟩
  rw [← h2 j hj]
  exact World.grownBy.cell_far hg _ h1 (fun e => hne e.symm)
theorem own_cases {w : World} {base : Nat} {e : TypeId} {size n d : Nat} {B : Option Addr} {xs : List Value} (h : w.ownsRow base e size (.slice B n d) n xs) : (B = none ∧ n = 0 ∧ d = 0) ∨ ∃ g, B = some ⟨g, 0, none⟩ ∧ base ≤ g ∧ g < w.heap.size := by
  rcases h.2 with h0 | ⟨g, cap, cur, hv, hb, hh, hn, hc, hs, ht⟩
  · rcases h0 with ⟨h0, _⟩
    simp only [Value.slice.injEq] at h0
    exact .inl ⟨h0.1, h0.2.1, h0.2.2⟩
  · simp only [Value.slice.injEq] at hv
    exact .inr ⟨g, hv.1, hb, (Array.getElem?_eq_some_iff.1 hh).1⟩
theorem own_fit {w : World} {base base' : Nat} {e : TypeId} {size n n' : Nat} {v : Value} {xs xs' : List Value} (h : w.ownsRow base e size v n xs) (hb : base' ≤ base) (hn : n = n') (hx : xs = xs') : w.ownsRow base' e size v n' xs' := by
  subst hn hx
  exact own_more h hb
theorem bel1 (W : World) (o : Obj) : Below W.heap.size W (W.alloc o) := (Below.refl _ _).alloc (Nat.le_refl _) o
theorem own_emptyC (w : World) (o : Obj) (e : TypeId) (size : Nat) : ((w.alloc o).alloc (.cells #[] e)).drew.ownsRow w.heap.size e size (.slice (some ⟨w.heap.size + 1, 0, none⟩) 0 0) 0 [] := by
  have := (own_none (w.alloc o) e size w.heap.size (by simp)).drew
  rw [World.size_alloc] at this
  exact this
theorem newN_row (w : World) (xs : List Value) (T : TypeId) : Row (w.alloc (.cells xs.toArray T)) (some ⟨w.heap.size, 0, none⟩) xs := fun _ =>
  ⟨_, _, rfl, by simp, fun j hj => by unfold World.cell?; rw [heap_alloc_new]; simp⟩
theorem newN_rowB (w : World) (o : Obj) (xs : List Value) (T : TypeId) : Row ((w.alloc o).alloc (.cells xs.toArray T)).drew (some ⟨w.heap.size + 1, 0, none⟩) xs := by
  have := Row.drew (newN_row (w.alloc o) xs T)
  rw [World.size_alloc] at this
  exact this
theorem newN_rowC (w : World) (o : Obj) (xs : List Value) (T : TypeId) : Row ((w.alloc (.cells xs.toArray T)).alloc o).drew (some ⟨w.heap.size, 0, none⟩) xs := Row.alloc (newN_row w xs T) o
/-- Each cell of an address kept. -/
theorem keepC {W w' : World} {B g o : Nat} {a : Value} (hb : Below B W w') (hg : g < B) (h0 : W.cell? ⟨g, o, none⟩ = some a) : w'.cell? ⟨g, o, none⟩ = some a := (hb.cell (p := ⟨g, _, none⟩) hg).trans h0
end Go.Proofs.YtnmmhcchpcbeeaaGreat.GeW
