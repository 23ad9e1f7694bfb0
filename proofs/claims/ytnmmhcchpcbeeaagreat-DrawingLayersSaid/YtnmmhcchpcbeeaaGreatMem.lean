/- What a world holds: rows that are read, rows that the call owns. No function is in sight. Conditions: none. -/
import Derived.WalkKit
import Derived.Laws.OwnMore
import Derived.Deep.Draws

namespace Go.Proofs.YtnmmhcchpcbeeaaGreat.Mem
open Go Go.RowKit

/-- From its address on a row of cells can be read. -/
def Row (w : World) (A : Option Addr) (xs : List Value) : Prop :=
  xs ≠ [] → ∃ g off, A = some ⟨g, off, none⟩ ∧ g < w.heap.size ∧ ∀ j, j < xs.length → w.cell? ⟨g, off + j, none⟩ = xs[j]?

theorem Row.nil (w : World) (A : Option Addr) : Row w A [] := fun h => absurd rfl h
theorem Row.below {w w' : World} {A : Option Addr} {xs : List Value} (h : Row w A xs) (hb : Below w.heap.size w w') : Row w' A xs := fun hne => by
  obtain ⟨g, off, e, hg, hc⟩ := h hne
  exact ⟨g, off, e, Nat.lt_of_lt_of_le hg hb.size, fun j hj => (hb.cell (p := ⟨g, off + j, none⟩) hg).trans (hc j hj)⟩
theorem Row.at_ {w : World} {A : Option Addr} {xs : List Value} (h : Row w A xs) (hne : xs ≠ []) : ∃ g off, A = some ⟨g, off, none⟩ ∧ g < w.heap.size ∧ ∀ j, j < xs.length → w.cell? ⟨g, off + j, none⟩ = xs[j]? := h hne
theorem Row.of_own {w : World} {base : Nat} {e : TypeId} {size n c : Nat} {A : Option Addr} {xs : List Value} (h : w.ownsRow base e size (.slice A n c) n xs) : Row w A xs := by
  intro hne
  rcases h.2 with ⟨h0, h1⟩ | ⟨g, cap, cur, hv, hb, hh, hn, hc, hs, ht⟩
  · subst h1
    exact absurd (List.eq_nil_of_length_eq_zero (by simpa using h.1)) hne
  · injection hv with hv
    subst hv
    refine ⟨g, 0, rfl, ?_, fun j hj => ?_⟩
    · rcases Nat.lt_or_ge g w.heap.size with hlt | hge
      · exact hlt
      · rw [Array.getElem?_eq_none hge] at hh; cases hh
    · rw [Nat.zero_add]
      have hx := h.cells (g := g) rfl j xs[j] (List.getElem?_eq_getElem hj)
      rw [List.getElem?_eq_getElem hj, ← hx]
      simp only [Addr.add]
      by_cases h0 : j = 0
      · subst h0; rfl
      · rw [if_neg h0]; simp

theorem own_shape {w : World} {base : Nat} {e : TypeId} {size n : Nat} {v : Value} {xs : List Value} (h : w.ownsRow base e size v n xs) : ∃ A c, v = .slice A n c ∧ n ≤ c := by
  rcases h.2 with ⟨rfl, rfl⟩ | ⟨g, cap, cur, rfl, _, _, hn, _⟩
  · exact ⟨none, 0, rfl, Nat.le_refl _⟩
  · exact ⟨_, _, rfl, hn⟩
theorem own_more {w : World} {base base' : Nat} {e : TypeId} {size n : Nat} {v : Value} {xs : List Value} (h : w.ownsRow base e size v n xs) (hb : base' ≤ base) : w.ownsRow base' e size v n xs := by
  refine ⟨h.1, ?_⟩
  rcases h.2 with h0 | ⟨g, cap, cur, hv, hg, r⟩
  · exact .inl h0
  · exact .inr ⟨g, cap, cur, hv, by omega, r⟩
theorem own_below {w w' : World} {base : Nat} {e : TypeId} {size n : Nat} {v : Value} {xs : List Value} (h : w.ownsRow base e size v n xs) (hb : Below w.heap.size w w') : w'.ownsRow base e size v n xs := by
  refine ⟨h.1, ?_⟩
  rcases h.2 with h0 | ⟨g, cap, cur, hv, hg, hh, r⟩
  · exact .inl h0
  · refine .inr ⟨g, cap, cur, hv, hg, ?_, r⟩
    have hlt : g < w.heap.size := by
      rcases Nat.lt_or_ge g w.heap.size with hlt | hge
      · exact hlt
      · rw [Array.getElem?_eq_none hge] at hh; cases hh
    rw [hb.block g hlt]; exact hh
/-- The written row is one of the call's own. -/
theorem own_block {w : World} {base : Nat} {e : TypeId} {size n : Nat} {v : Value} {xs : List Value} (h : w.ownsRow base e size v n xs) : ∀ k, v.ownBlock = some k → base ≤ k := fun k hk => (h.lt k hk).1
/-- An append onto a row of the call's own, behind new blocks. -/
theorem below_append {B : Nat} {w w1 w2 : World} {base : Nat} {e : TypeId} {size n : Nat} {v : Value} {xs : List Value} (hb : Below B w w1) (hB : B ≤ w1.heap.size) (h : w1.ownsRow base e size v n xs) (hg : w1.grownBy w2 v.ownBlock) (hbase : B ≤ base) : Below B w w2 :=
  hb.grown hg hB fun k hk => Nat.le_trans hbase (own_block h k hk)
theorem Row.len {w : World} {A : Option Addr} {xs : List Value} (h : Row w A xs) {g off : Nat} (e : A = some ⟨g, off, none⟩) (hne : xs ≠ []) : g < w.heap.size ∧ ∀ j, j < xs.length → w.cell? ⟨g, off + j, none⟩ = xs[j]? := by
  obtain ⟨g', off', e', hg, hc⟩ := h hne
  rw [e] at e'
  cases e'
  exact ⟨hg, hc⟩
/-- The cells of a new block of four. -/
theorem cells_new4 (w : World) (a b c d : Value) (T : TypeId) : ∀ (j : Nat) (u : Value), [a, b, c, d][j]? = some u → (w.alloc (.cells #[a, b, c, d] T)).cell? ((⟨w.heap.size, 0, none⟩ : Addr).add j) = some u := by
  intro j u hj
  match j, hj with
  | 0, hj => simp at hj; subst hj; simp [Addr.add]
  | 1, hj => simp at hj; subst hj; simp [Addr.add]
  | 2, hj => simp at hj; subst hj; simp [Addr.add]
  | 3, hj => simp at hj; subst hj; simp [Addr.add]
  | j + 4, hj => simp at hj
theorem below_drewN {B : Nat} {a w : World} (h : Below B a w) (n : Nat) : Below B a (w.drewN n) := ⟨h.os, h.tape, h.output, h.size, h.block⟩
end Go.Proofs.YtnmmhcchpcbeeaaGreat.Mem
