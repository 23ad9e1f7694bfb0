/- The text of a list of orders, in plain Lean. Conditions: as stated. -/
import Derived.Test.YteldekkodhfkkaaGreatDoorPqPlain
import Derived.Test.YteldekkodhfkkaaGreatDoorLexW14
namespace Go.Proofs.YteldekkodhfkkaaGreatDoor.Pq
open Go.Proofs.YteldekkodhfkkaaGreatDoor.Od (It)

def cOrder : List UInt8 := [111, 114, 100, 101, 114, 32]
def cOpen : List UInt8 := [32, 123, 10]
def cPart : List UInt8 := [9, 112, 97, 114, 116, 32]
def cQuantity : List UInt8 := [32, 113, 117, 97, 110, 116, 105, 116, 121, 32]
def cDue : List UInt8 := [32, 100, 117, 101, 32]
def cSemi : List UInt8 := [59, 10]
def cClose : List UInt8 := [125, 10]
def openT (o : List UInt8) : List UInt8 := cOrder ++ o ++ cOpen
def lineT (x : It) : List UInt8 := cPart ++ x.p ++ cQuantity ++ Lib.itoa x.q ++ cDue ++ Lib.itoa x.d ++ cSemi
/-- Does the order end behind an item? -/
def ends (o : List UInt8) : List It → Bool
  | [] => true
  | y :: _ => decide (y.o ≠ o)
def text : Option (List UInt8) → List It → List UInt8
  | _, [] => []
  | prev, x :: r => (if prev = some x.o then [] else openT x.o) ++ lineT x ++ (if ends x.o r = true then cClose else []) ++ text (some x.o) r
def prev (l : List It) (k : Nat) : Option (List UInt8) := if k = 0 then none else (l[k - 1]?).map (·.o)
theorem prev_step {l : List It} {k : Nat} (h : k < l.length) : prev l (k + 1) = some l[k].o := by
  unfold prev
  rw [if_neg (by omega), show k + 1 - 1 = k by omega, List.getElem?_eq_getElem h]
  rfl
theorem text_drop {l : List It} {k : Nat} (h : k < l.length) : text (prev l k) (l.drop k) = (if prev l k = some l[k].o then [] else openT l[k].o) ++ lineT l[k] ++ (if ends l[k].o (l.drop (k + 1)) = true then cClose else []) ++ text (prev l (k + 1)) (l.drop (k + 1)) := by
  rw [List.drop_eq_getElem_cons h, prev_step h]
  rfl
def print (l : List It) : List UInt8 × Int := if Od.valid l = true then (text none l, 0) else ([], 1)
theorem itoa_small {n : Int} (h0 : 0 ≤ n) (h1 : n ≤ 1000000) : (Lib.itoa n).length ≤ 10 := by
  unfold Lib.itoa
  rw [if_neg (by omega)]
  have h2 := LexW.dec_len 6 n.natAbs (by omega)
  have h3 := LexW.dec_len 6 n.toNat (by omega)
  first | omega | exact Nat.le_trans h2 (by omega) | exact Nat.le_trans h3 (by omega)
theorem name_len {l : List UInt8} (h : Lex.isName l = true) : l.length ≤ 16 := by
  unfold Lex.isName at h
  simp only [Bool.and_eq_true, decide_eq_true_eq] at h
  exact h.1.1.2
theorem ok_lens {x : It} (h : Od.ok x = true) : x.o.length ≤ 16 ∧ x.p.length ≤ 16 ∧ (Lib.itoa x.q).length ≤ 10 ∧ (Lib.itoa x.d).length ≤ 10 := by
  have hp := Od.ok_parts h
  unfold Od.ok at h
  simp only [Bool.and_eq_true, decide_eq_true_eq] at h
  exact ⟨name_len h.1.1.1.1.1, name_len h.1.1.1.1.2, itoa_small (by omega) (by omega), itoa_small (by omega) (by omega)⟩
theorem line_len {x : It} (h : Od.ok x = true) : (lineT x).length ≤ 70 := by
  have := ok_lens h
  unfold lineT cPart cQuantity cDue cSemi
  simp only [List.length_append, List.length_cons, List.length_nil]
  omega
theorem text_len : ∀ (l : List It) (p : Option (List UInt8)), (∀ x ∈ l, Od.ok x = true) → (text p l).length ≤ 100 * l.length
  | [], _, _ => by simp [text]
  | x :: r, p, h => by
    have h1 := text_len r (some x.o) (fun y hy => h y (by simp [hy]))
    have h2 := line_len (h x (by simp))
    have h3 := ok_lens (h x (by simp))
    unfold text
    have h4 : (if p = some x.o then [] else openT x.o).length ≤ 26 := by
      split
      · simp
      · unfold openT cOrder cOpen
        simp only [List.length_append, List.length_cons, List.length_nil]
        omega
    have h5 : (if ends x.o r = true then cClose else []).length ≤ 2 := by split <;> simp [cClose]
    simp only [List.length_append, List.length_cons]
    omega
end Go.Proofs.YteldekkodhfkkaaGreatDoor.Pq
