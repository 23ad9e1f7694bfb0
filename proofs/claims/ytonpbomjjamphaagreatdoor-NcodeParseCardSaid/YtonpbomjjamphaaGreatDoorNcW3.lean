/- Walks: the first element that a function picks; a valid program, by the program. Conditions: the program lies in memory and has at most a million moves. -/
import Derived.Test.YtonpbomjjamphaaGreatDoorNcW2
import Derived.Shelf.Abstract
namespace Go.Proofs.YtonpbomjjamphaaGreatDoor.NcW
open Go Go.RowKit Go.Proofs.YtonpbomjjamphaaGreatDoor.Mem

def idx {α : Type} (p : α → Bool) : List α → Nat → Int
  | [], _ => -1
  | x :: r, i => if p x then (i : Int) else idx p r (i + 1)
theorem idx_ge {α : Type} (p : α → Bool) : ∀ (l : List α) (i : Nat), decide ((0 : Int) ≤ idx p l i) = l.any p
  | [], _ => rfl
  | x :: r, i => by
    unfold idx
    rw [List.any_cons]
    cases hp : p x
    · simp only [Bool.false_eq_true, if_false, Bool.false_or]; exact idx_ge p r (i + 1)
    · simp
theorem idx_lt {α : Type} (p : α → Bool) : ∀ (l : List α) (i : Nat), idx p l i < ((i + l.length : Nat) : Int) + (if l.length = 0 then 1 else 0) ∧ (idx p l i = -1 ∨ ((i : Int) ≤ idx p l i ∧ idx p l i < ((i + l.length : Nat) : Int)))
  | [], i => by simp [idx]; omega
  | x :: r, i => by
    have := (idx_lt p r (i + 1)).2
    unfold idx
    simp only [List.length_cons]
    cases hp : p x
    · simp only [Bool.false_eq_true, if_false]
      omega
    · simp only [if_true]
      omega

theorem idx_no {α : Type} (p : α → Bool) (l : List α) (k : Nat) (h : k < l.length) (hp : p l[k] = false) : idx p (l.drop k) k = idx p (l.drop (k + 1)) (k + 1) := by
  rw [List.drop_eq_getElem_cons h, idx, hp]; rfl
theorem idx_yes {α : Type} (p : α → Bool) (l : List α) (k : Nat) (h : k < l.length) (hp : p l[k] = true) : idx p (l.drop k) k = (k : Int) := by
  rw [List.drop_eq_getElem_cons h, idx, hp]; rfl

set_option maxRecDepth 100000 in
theorem indexFunc_any (g : FuncId) (p : Nc.Mv → Bool) (eg : Enters Tryz.prog g)
    (hg : Hid (∀ (m : Nc.Mv) (w : World), Calls Tryz.prog g #[.agg #[.int .i64 m.k, .int .i64 m.x, .int .i64 m.y]] w fun e w' => e = .returned (.bool (p m)) ∧ Below w.heap.size w w'))
    (l : List Nc.Mv) (A : Option Addr) (c : Nat) (w : World) (hr : Row w A (l.flatMap mvCells)) (hl : l.length ≤ 1000000) :
    Calls Tryz.prog 51 #[.slice A l.length c, .func (.func g) #[] #[]] w fun e w' => e = .returned (.int .i64 (idx p l 0)) ∧ Below w.heap.size w w' := by
  unfold Enters at eg
  by_cases h0 : l.length = 0
  · have : l = [] := List.eq_nil_of_length_eq_zero h0
    subst this
    clear h0
    go_enter Tryz.func51, Tryz.ntmps51
    go_wp2
    refine wp_loop_rounds 1 ?_
    rw [rounds_succ]
    go_wp2
    go_ret
    exact ⟨rfl, Below.refl _ _⟩
  · obtain ⟨g0, off, rfl, hg0, ca⟩ := row_get mv_len (by decide) hr (Nat.pos_of_ne_zero h0)
    have CA := Lib.hid ca
    clear ca hr h0
    have hst := Lib.hid (show idx p l 0 = idx p (l.drop 0) 0 by simp)
    go_enter Tryz.func51, Tryz.ntmps51
    go_wp2
    go_loopw [8] (fun t wr => ∃ k : Nat, k ≤ l.length ∧ t = .int .i64 k ∧ Hid (idx p l 0 = idx p (l.drop k) k) ∧ Below w.heap.size w wr) (fun t _ => l.length - (intOf t).toNat)
    case atStart => exact ⟨0, Nat.zero_le _, rfl, hst, Below.refl _ _⟩
    case round =>
      obtain ⟨k, hk, rfl, hd, hbel⟩ := hrel
      by_cases hlt : k < l.length
      · have a0 := (hbel.cell (p := ⟨g0, _, none⟩) hg0).trans (CA.out k hlt 0 (by decide))
        have a1 := (hbel.cell (p := ⟨g0, _, none⟩) hg0).trans (CA.out k hlt 1 (by decide))
        have a2 := (hbel.cell (p := ⟨g0, _, none⟩) hg0).trans (CA.out k hlt 2 (by decide))
        have hno := Lib.hid (idx_no p l k hlt)
        have hyes := Lib.hid (idx_yes p l k hlt)
        generalize l[k] = m at *
        simp only [mvCells, List.getElem?_cons_zero, List.getElem?_cons_succ, Nat.add_zero] at a0 a1 a2
        cases hp : p m
        · have HP := Lib.hid hp
          clear hp
          go_wp2_with fail
          refine (hg.out m _).mono ?_
          rintro e w2 ⟨rfl, hb2⟩
          rw [HP.out]
          go_wp2
          go_roundw
          case rel => exact ⟨k + 1, hlt, by go_num, Lib.hid (hd.out.trans (hno.out HP.out)), hbel.trans (hb2.mono hbel.size)⟩
          case measure => simp [intOf]; omega
        · have HP := Lib.hid hp
          clear hp
          go_wp2_with fail
          refine (hg.out m _).mono ?_
          rintro e w2 ⟨rfl, hb2⟩
          rw [HP.out]
          go_wp2
          go_ret
          rw [hd.out, hyes.out HP.out]
          exact ⟨rfl, hbel.trans (hb2.mono hbel.size)⟩
      · obtain rfl : k = l.length := by omega
        go_wp2
        go_ret
        rw [hd.out, List.drop_length]
        exact ⟨rfl, hbel⟩
end Go.Proofs.YtonpbomjjamphaaGreatDoor.NcW
