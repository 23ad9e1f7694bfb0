/- Rows and cells kept behind appends. Conditions: as stated. -/
import Derived.Test.YteldekkodhfkkaaOdR
import Derived.Test.YteldekkodhfkkaaKept
import Derived.Deep.AppendLies
namespace Go.Proofs.Yteldekkodhfkkaa.OdW
open Go Go.RowKit Go.Proofs.Yteldekkodhfkkaa.Mem
theorem new4_row (w : World) (a b c d : Value) (T : TypeId) : Row (w.alloc (.cells #[a, b, c, d] T)) (some ⟨w.heap.size, 0, none⟩) [a, b, c, d] := fun _ => by
  refine ⟨_, _, rfl, by simp, fun j hj => ?_⟩
  match j, hj with
  | 0, _ => simp
  | 1, _ => simp
  | 2, _ => simp
  | 3, _ => simp
  | j + 4, hj => simp only [List.length_cons, List.length_nil] at hj; omega
theorem Row.alloc {w : World} {A : Option Addr} {xs : List Value} (h : Row w A xs) (o : Obj) : Row (w.alloc o) A xs := h.below ((Below.refl _ _).alloc (Nat.le_refl _) o)
theorem Row.drew {w : World} {A : Option Addr} {xs : List Value} (h : Row w A xs) : Row w.drew A xs := h
theorem row_grown {w w' : World} {g off : Nat} {xs : List Value} {row : Option Nat} (h : Row w (some ⟨g, off, none⟩) xs) (hg : w.grownBy w' row) (hne : row ≠ some g) : Row w' (some ⟨g, off, none⟩) xs := fun hx => by
  obtain ⟨g', off', e, h1, h2⟩ := h hx
  cases e
  refine ⟨g, off, rfl, Nat.lt_of_lt_of_le h1 hg.size, fun j hj => ?_⟩
  rw [← h2 j hj]
  exact World.grownBy.cell_far hg _ h1 (fun e => hne e.symm)
theorem own_cases {w : World} {base : Nat} {e : TypeId} {size n d : Nat} {B : Option Addr} {xs : List Value} (h : w.ownsRow base e size (.slice B n d) n xs) : (B = none ∧ n = 0 ∧ d = 0) ∨ ∃ g, B = some ⟨g, 0, none⟩ ∧ base ≤ g ∧ g < w.heap.size := by
  rcases h.2 with h0 | ⟨g, cap, cur, hv, hb, hh, hn, hc, hs, ht⟩
  · rcases h0 with ⟨h0, _⟩
    simp only [Value.slice.injEq] at h0
    exact .inl ⟨h0.1, h0.2.1, h0.2.2⟩
  · simp only [Value.slice.injEq] at hv
    exact .inr ⟨g, hv.1, hb, heap_lt hh⟩
theorem own_some {w : World} {base : Nat} {e : TypeId} {size n d : Nat} {B : Option Addr} {xs : List Value} (h : w.ownsRow base e size (.slice B n d) n xs) (hn : 0 < n) : ∃ g, B = some ⟨g, 0, none⟩ ∧ base ≤ g ∧ g < w.heap.size := by
  rcases own_cases h with ⟨_, h1, _⟩ | h1
  · omega
  · exact h1
theorem own_fit {w : World} {base base' : Nat} {e : TypeId} {size n n' : Nat} {v : Value} {xs xs' : List Value} (h : w.ownsRow base e size v n xs) (hb : base' ≤ base) (hn : n = n') (hx : xs = xs') : w.ownsRow base' e size v n' xs' := by
  subst hn hx
  exact own_more h hb
theorem row_get0 {α : Type} {f : α → List Value} {n : Nat} (hf : ∀ x, (f x).length = n) {w : World} {g : Nat} {l : List α} (h : Row w (some ⟨g, 0, none⟩) (l.flatMap f)) {k0 : Nat} (hl : k0 < l.length) (hn : 0 < n := by decide) :
    g < w.heap.size ∧ ∀ (k : Nat) (hk : k < l.length) (j : Nat), j < n → w.cell? ⟨g, k * n + j, none⟩ = (f l[k])[j]? := by
  obtain ⟨g', o, e, h1, h2⟩ := row_get hf hn h (by omega)
  cases e
  exact ⟨h1, fun k hk j hj => by have := h2 k hk j hj; rwa [Nat.zero_add] at this⟩
theorem keep4 {W w' : World} {B g o : Nat} {a b c d : Value} (hb : Below B W w') (hg : g < B) (h0 : W.cell? ⟨g, o, none⟩ = some a) (h1 : W.cell? ⟨g, o + 1, none⟩ = some b) (h2 : W.cell? ⟨g, o + 2, none⟩ = some c) (h3 : W.cell? ⟨g, o + 3, none⟩ = some d) :
    w'.cell? ⟨g, o, none⟩ = some a ∧ w'.cell? ⟨g, o + 1, none⟩ = some b ∧ w'.cell? ⟨g, o + 2, none⟩ = some c ∧ w'.cell? ⟨g, o + 3, none⟩ = some d :=
  ⟨(hb.cell (p := ⟨g, _, none⟩) hg).trans h0, (hb.cell (p := ⟨g, _, none⟩) hg).trans h1, (hb.cell (p := ⟨g, _, none⟩) hg).trans h2, (hb.cell (p := ⟨g, _, none⟩) hg).trans h3⟩
theorem flat_set : ∀ (acc : List (Od.Ky × Int)) (k : Nat) (hk : k < acc.length) (q : Int), ((acc.map toIt).flatMap itCells).set (k * 4 + 2) (.int .i64 q) = ((acc.set k (acc[k].1, q)).map toIt).flatMap itCells
  | [], k, hk, q => by simp at hk
  | x :: r, 0, hk, q => by simp [itCells, toIt]
  | x :: r, k + 1, hk, q => by
    have := flat_set r k (by simpa using hk) q
    rw [List.map_cons, List.flatMap_cons, List.getElem_cons_succ, List.set_cons_succ, List.map_cons, List.flatMap_cons, ← this, List.set_append_right _ _ (by rw [it_len]; omega), it_len]
    congr 2
    omega
theorem bel1 (W : World) (o : Obj) : Below W.heap.size W (W.alloc o) := (Below.refl _ _).alloc (Nat.le_refl _) o
theorem own_emptyC (w : World) (o : Obj) (e : TypeId) (size : Nat) : ((w.alloc o).alloc (.cells #[] e)).drew.ownsRow w.heap.size e size (.slice (some ⟨w.heap.size + 1, 0, none⟩) 0 0) 0 [] := by
  have := (own_empty (w.alloc o) w.heap.size e size (by simp)).drew
  rw [World.size_alloc] at this
  exact this
theorem new4_rowB (w : World) (o : Obj) (a b c d : Value) (T : TypeId) : Row ((w.alloc o).alloc (.cells #[a, b, c, d] T)).drew (some ⟨w.heap.size + 1, 0, none⟩) [a, b, c, d] := by
  have := Row.drew (new4_row (w.alloc o) a b c d T)
  rw [World.size_alloc] at this
  exact this
theorem new4_rowC (w : World) (o : Obj) (a b c d : Value) (T : TypeId) : Row ((w.alloc (.cells #[a, b, c, d] T)).alloc o).drew (some ⟨w.heap.size, 0, none⟩) [a, b, c, d] := Row.alloc (new4_row w a b c d T) o
end Go.Proofs.Yteldekkodhfkkaa.OdW
