/- Walks: the test whether points are near. Conditions: the points lie in memory; at most 2^47. -/
import Derived.Test.YtnmmhcchpcbeeaaGreatGeA
import Derived.Shelf.Abstract

namespace Go.Proofs.YtnmmhcchpcbeeaaGreat.GeW
open Go Go.RowKit Go.Proofs.YtnmmhcchpcbeeaaGreat.Mem Go.Proofs.YtnmmhcchpcbeeaaGreat.Ge
attribute [local go_sem ↓] Go.wp_at_zero Go.wp_at_succ

def idx {α : Type} (p : α → Bool) : List α → Nat → Int
  | [], _ => -1
  | x :: r, i => if p x then (i : Int) else idx p r (i + 1)
theorem idx_ge {α : Type} (p : α → Bool) : ∀ (l : List α) (i : Nat), decide ((0 : Int) ≤ idx p l i) = l.any p
  | [], _ => rfl
  | x :: r, i => by
    unfold idx
    rw [List.any_cons]
    cases hp : p x
    · simp only [Bool.false_eq_true, if_false, Bool.false_or]; exact idx_ge p r (i + 1)
    · simp
theorem idx_lt {α : Type} (p : α → Bool) : ∀ (l : List α) (i : Nat), idx p l i < ((i + l.length : Nat) : Int) + (if l.length = 0 then 1 else 0) ∧ (idx p l i = -1 ∨ ((i : Int) ≤ idx p l i ∧ idx p l i < ((i + l.length : Nat) : Int)))
  | [], i => by simp [idx]; omega
  | x :: r, i => by
    have := (idx_lt p r (i + 1)).2
    unfold idx
    simp only [List.length_cons]
    cases hp : p x
    · simp only [Bool.false_eq_true, if_false]
      omega
    · simp only [if_true]
      omega

theorem idx_no {α : Type} (p : α → Bool) (l : List α) (k : Nat) (h : k < l.length) (hp : p l[k] = false) : idx p (l.drop k) k = idx p (l.drop (k + 1)) (k + 1) := by
  rw [List.drop_eq_getElem_cons h, idx, hp]; rfl
theorem idx_yes {α : Type} (p : α → Bool) (l : List α) (k : Nat) (h : k < l.length) (hp : p l[k] = true) : idx p (l.drop k) k = (k : Int) := by
  rw [List.drop_eq_getElem_cons h, idx, hp]; rfl


set_option maxRecDepth 100000 in
theorem near1_any (v : V) (w : World) : Calls Tryz.prog 154 #[.agg #[.int .i64 v.1, .int .i64 v.2]] w fun e w' => e = .returned (.bool (!within v 2000)) ∧ Below w.heap.size w w' := by
  obtain ⟨x, y⟩ := v
  have HO := Lib.hid (one_vec w (.cells #[.int .i64 x, .int .i64 y] 53))
  have HW := Lib.hid (fun W => within_any x y 2000 W (by omega))
  obtain ⟨x0, x1⟩ := pair_at HO.out.2 (Below.refl _ _)
  generalize within (x, y) 2000 = b at *
  go_enter Tryz.func154, Tryz.ntmps154
  go_wp2_with fail
  refine (HW.out _).mono ?_
  rintro e w2 ⟨rfl, hb2⟩
  go_wp2
  go_ret
  exact ⟨rfl, HO.out.1.trans (hb2.mono (Below.size HO.out.1))⟩
set_option maxRecDepth 100000 in
set_option maxHeartbeats 1000000 in
theorem indexPts_any (l : List V) (A : Option Addr) (c : Nat) (w : World) (hr : Row w A (l.flatMap ptCells)) (hl : l.length ≤ 17592186043904) :
    Calls Tryz.prog 189 #[.slice A l.length c, .func (.func 154) #[] #[]] w fun e w' => e = .returned (.int .i64 (idx (fun v => !within v 2000) l 0)) ∧ Below w.heap.size w w' := by
  have HR := Lib.hid hr
  clear hr
  have hst := Lib.hid (show idx (fun v => !within v 2000) l 0 = idx (fun v => !within v 2000) (l.drop 0) 0 by simp)
  go_enter Tryz.func189, Tryz.ntmps189
  go_wp2
  go_loopw [5, 8] (fun _ t wr => ∃ k : Nat, k ≤ l.length ∧ t = .int .i64 k ∧ Hid (idx (fun v => !within v 2000) l 0 = idx (fun v => !within v 2000) (l.drop k) k) ∧ Below w.heap.size w wr) (fun _ t _ => l.length - (intOf t).toNat)
  case atStart => exact ⟨0, Nat.zero_le _, rfl, hst, Below.refl _ _⟩
  case round =>
    obtain ⟨k, hk, rfl, hd, hbel⟩ := hrel
    by_cases hlt : k < l.length
    · obtain ⟨g, off, rfl, hg, ca⟩ := row_get pt_len (by decide) HR.out (by omega)
      have a0 := (hbel.cell (p := ⟨g, off + k * 2, none⟩) hg).trans (ca k hlt 0 (by decide))
      have a1 := (hbel.cell (p := ⟨g, off + k * 2 + 1, none⟩) hg).trans (ca k hlt 1 (by decide))
      have hno := Lib.hid (idx_no (fun v => !within v 2000) l k hlt)
      have hyes := Lib.hid (idx_yes (fun v => !within v 2000) l k hlt)
      have HM := Lib.hid (fun W => near1_any l[k] W)
      have hk1 : (0 : Int) ≤ (k : Int) := by omega
      have hk2 : (k : Int) < (l.length : Int) := by omega
      clear ca
      generalize l[k] = m at *
      obtain ⟨mx, my⟩ := m
      simp only [ptCells, List.getElem?_cons_zero, List.getElem?_cons_succ] at a0 a1
      generalize (!within (mx, my) 2000) = b at *
      cases b
      · go_wp2_with fail
        refine (HM.out _).mono ?_
        rintro e w2 ⟨rfl, hb2⟩
        have HB2 := Lib.hid (hbel.trans (hb2.mono hbel.size))
        clear hb2
        go_wp2
        go_roundw
        case rel => exact ⟨k + 1, hlt, by go_num, Lib.hid (hd.out.trans (hno.out trivial)), HB2.out⟩
        case measure => simp [intOf]; omega
      · go_wp2_with fail
        refine (HM.out _).mono ?_
        rintro e w2 ⟨rfl, hb2⟩
        have HB2 := Lib.hid (hbel.trans (hb2.mono hbel.size))
        clear hb2
        go_wp2
        go_ret
        rw [hd.out, hyes.out trivial]
        exact ⟨rfl, HB2.out⟩
    · obtain rfl : k = l.length := by omega
      go_wp2
      go_ret
      rw [hd.out, List.drop_length]
      exact ⟨rfl, hbel⟩
theorem containsPts_any (l : List V) (A : Option Addr) (c : Nat) (w : World) (hr : Row w A (l.flatMap ptCells)) (hl : l.length ≤ 17592186043904) :
    Calls Tryz.prog 142 #[.slice A l.length c, .func (.func 154) #[] #[]] w fun e w' => e = .returned (.bool (!(near l))) ∧ Below w.heap.size w w' := by
  have hi := Lib.hid (indexPts_any l A c w hr hl)
  have hq := Lib.hid (idx_ge (fun v => !within v 2000) l 0)
  have hz : Hid ((l.any fun v => !within v 2000) = !(near l)) := Lib.hid (by unfold near; simp [List.all_eq_not_any_not])
  clear hr
  go_enter Tryz.func142, Tryz.ntmps142
  go_wp2_with fail
  refine hi.out.mono ?_
  rintro e w1 ⟨rfl, hb1⟩
  go_wp2
  go_ret
  rw [hq.out, hz.out]
  exact ⟨rfl, hb1⟩
theorem near_any (l : List V) (A : Option Addr) (c : Nat) (w : World) (hr : Row w A (l.flatMap ptCells)) (hl : l.length ≤ 17592186043904) :
    Calls Tryz.prog 99 #[.slice A l.length c] w fun e w' => e = .returned (.bool (near l)) ∧ Below w.heap.size w w' := by
  have HC := Lib.hid (containsPts_any l A c w hr hl)
  clear hr
  generalize near l = b at *
  go_enter Tryz.func99, Tryz.ntmps99
  go_wp2_with fail
  refine HC.out.mono ?_
  rintro e w1 ⟨rfl, hb1⟩
  go_wp2
  go_ret
  exact ⟨by simp, hb1⟩
end Go.Proofs.YtnmmhcchpcbeeaaGreat.GeW
