/- The two sorts of the program: lists of items by key, demands by part. Conditions: as stated. -/
import Derived.Test.YteldekkodhfkkaaGreatDoorOdS
import Derived.Test.YteldekkodhfkkaaGreatDoorOdSo
namespace Go.Proofs.YteldekkodhfkkaaGreatDoor.OdW
open Go Go.RowKit Go.Proofs.YteldekkodhfkkaaGreatDoor.Mem
open Go.Sort Go.Shelf
instance it_in : Inhabited Od.It := ⟨⟨[], [], 0, 0⟩⟩
theorem lt_item (x y : Od.It) : ltOf cmpI x y = Od.kl (key x) (key y) := by
  unfold ltOf cmpI Od.kl key
  simp only
  by_cases hd : x.d = y.d
  · have e : Lib.compareInt x.d y.d = 0 := by rw [hd]; simp [Lib.compareInt]
    rw [e]
    simp only [ne_eq, not_true_eq_false, if_false, hd]
    by_cases ho : x.o = y.o
    · simp only [ho, cmpS_self, not_true_eq_false, if_false]
      exact cmpS_neg _ _
    · have h2 : ¬ cmpS x.o y.o = 0 := fun e => ho (cmpS_zero e)
      simp only [ho, h2, not_false_eq_true, if_true]
      exact cmpS_neg _ _
  · have e : Lib.compareInt x.d y.d ≠ 0 := by simp only [Lib.compareInt]; split <;> (try split) <;> omega
    rw [if_pos e, if_pos hd]
    simp only [Lib.compareInt]
    by_cases h1 : x.d < y.d
    · simp [h1]
    · simp [h1]
      split <;> omega
theorem lt_need (x y : Nd) : ltOf (fun a b : Nd => cmpS a.1 b.1) x y = Od.sl x.1 y.1 := cmpS_neg _ _
theorem swo_item : SWO (ltOf cmpI) := swo_key Od.kl_tot key cmpI lt_item
theorem swo_need : SWO (ltOf fun a b : Nd => cmpS a.1 b.1) := swo_key Od.sl_tot (fun x : Nd => x.1) _ lt_need
set_option maxRecDepth 100000 in
theorem sort_items (base : Nat) (v : Value) (l : List Od.It) (n : Nat) (w : World) (hn : n = l.length) (hown : w.ownsRow base 33 4 v n (l.flatMap itCells)) (hsz : n < 4611686018427387904) :
    Calls Tryz.prog 54 #[v, .func (.func 55) #[] #[]] w fun e' w' => e' = .returned (.tuple #[]) ∧ Below base w w' ∧ ∃ (l' : List Od.It) (A : Option Addr) (c : Nat), v = .slice A n c ∧ Row w' A (l'.flatMap itCells) ∧ l'.Perm l ∧ l'.Pairwise fun x y => Od.kl (key y) (key x) = false := by
  have h := sort_own Tryz.sortItem 4 Tryz.isAgg33 Tryz.sizeOf33 itCells it_len (by intro x v hv; unfold itCells at hv; simp at hv; rcases hv with rfl | rfl | rfl | rfl <;> rfl) cmpI swo_item 55 (fun args w => rfl) (fun x y W => order_item x y W) base 33 v l n w hn hown hsz
  refine h.mono ?_
  rintro e' w' ⟨h1, h2, l', A, c, h3, h4, h5, h6⟩
  exact ⟨h1, h2, l', A, c, h3, h4, h5, h6.imp fun {x y} hh => by rw [← lt_item]; exact hh⟩
set_option maxRecDepth 100000 in
theorem sort_needs (base : Nat) (v : Value) (l : List Nd) (n : Nat) (w : World) (hn : n = l.length) (hown : w.ownsRow base 38 2 v n (l.flatMap ndCells)) (hsz : n < 4611686018427387904) :
    Calls Tryz.prog 29 #[v, .func (.func 30) #[] #[]] w fun e' w' => e' = .returned (.tuple #[]) ∧ Below base w w' ∧ ∃ (l' : List Nd) (A : Option Addr) (c : Nat), v = .slice A n c ∧ Row w' A (l'.flatMap ndCells) ∧ l'.Perm l ∧ l'.Pairwise fun x y => Od.sl y.1 x.1 = false := by
  have h := sort_own Tryz.sortNeed 2 Tryz.isAgg38 Tryz.sizeOf38 ndCells nd_len (by intro x v hv; unfold ndCells at hv; simp at hv; rcases hv with rfl | rfl <;> rfl) (fun a b : Nd => cmpS a.1 b.1) swo_need 30 (fun args w => rfl) (fun x y W => order_need x y W) base 38 v l n w hn hown hsz
  refine h.mono ?_
  rintro e' w' ⟨h1, h2, l', A, c, h3, h4, h5, h6⟩
  exact ⟨h1, h2, l', A, c, h3, h4, h5, h6.imp fun {x y} hh => by rw [← lt_need]; exact hh⟩
end Go.Proofs.YteldekkodhfkkaaGreatDoor.OdW
