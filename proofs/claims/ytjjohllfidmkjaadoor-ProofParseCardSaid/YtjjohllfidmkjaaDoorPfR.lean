/- The program's reader of trees, in plain Lean, and the text of a tree. Conditions: none. -/
import Derived.Test.YtjjohllfidmkjaaDoorPfQ1
import Derived.Lib.AtoiAll
import Derived.Lib.ItoaNum
import Derived.Lib.Strings
namespace Go.Proofs.YtjjohllfidmkjaaDoor.Pf
open Go

def isNum (c : UInt8) : Bool := c == 45 || (48 ≤ c && c ≤ 57)
def numLen (s : List UInt8) : Nat := (s.takeWhile isNum).length
def pNumD (d r : List UInt8) : Option (Int × List UInt8) :=
  match Lib.atoiAll d with
  | .ok n => if smallB n && decide (Lib.itoa n = d) then some (n, r) else none
  | _ => none
/-- A number, and what follows it. -/
def pNum (s : List UInt8) : Option (Int × List UInt8) :=
  if numLen s = s.length then none else pNumD (s.take (numLen s)) (s.drop (numLen s))
/-- What skip does with a byte. -/
def hp (s : List UInt8) (c : UInt8) : Bool := Lib.hasPrefix s [c]
def tp (s : List UInt8) (c : UInt8) : List UInt8 := Lib.trimPrefix s [c]
theorem hp_cons (x c : UInt8) (r : List UInt8) : hp (x :: r) c = (c == x) := by simp [hp, Lib.hasPrefix, List.isPrefixOf]
theorem hp_nil (c : UInt8) : hp [] c = false := rfl
theorem tp_yes {s : List UInt8} {c : UInt8} (h : hp s c = true) : s = c :: tp s c := by
  unfold hp at h
  unfold tp Lib.trimPrefix
  rw [if_pos h]
  cases s with
  | nil => cases h
  | cons x r => simp [Lib.hasPrefix, List.isPrefixOf] at h; simp [h]
theorem tp_no {s : List UInt8} {c : UInt8} (h : hp s c = false) : tp s c = s := by
  unfold hp at h
  unfold tp Lib.trimPrefix
  rw [if_neg (by rw [h]; simp)]
theorem tp_self (c : UInt8) (r : List UInt8) : tp (c :: r) c = r := by
  have h : hp (c :: r) c = true := by rw [hp_cons]; simp
  have := tp_yes h
  exact (List.cons.inj this).2.symm
theorem tp_len {s : List UInt8} {c : UInt8} (h : hp s c = true) : (tp s c).length + 1 = s.length := by
  have := congrArg List.length (tp_yes h)
  rw [this]; rfl
theorem tp_le (s : List UInt8) (c : UInt8) : (tp s c).length ≤ s.length := by
  cases h : hp s c
  · rw [tp_no h]; exact Nat.le_refl _
  · have := tp_len h; omega
/-- A leaf behind its bracket. -/
def pLeaf : Nat → List Int → List UInt8 → Option (List Int × List UInt8)
  | 0, _, _ => none
  | f + 1, acc, s =>
    if hp s 41 = true then some (acc, tp s 41)
    else if 0 < acc.length ∧ hp s 32 = false then none
    else if acc.length = 40 then none
    else match pNum (if 0 < acc.length then tp s 32 else s) with
      | none => none
      | some (n, r2) => pLeaf f (acc ++ [n]) r2
mutual
/-- A tree on a level, behind n nodes. -/
def pTree : Nat → Nat → Nat → List UInt8 → Option (T × Nat × List UInt8)
  | 0, _, _, _ => none
  | f + 1, d, n, s =>
    if 2000 < n + 1 ∨ 40 < d then none
    else if hp s 40 = true then match pLeaf f [] (tp s 40) with
        | none => none
        | some (l, r2) => some (.mk 0 [] l, n + 1, r2)
    else if hp s 91 = true then match pNum (tp s 91) with
        | none => none
        | some (x, r2) => match pKids f d (n + 1) [] r2 with
          | none => none
          | some (ks, n2, r3) => some (.mk x ks [], n2, r3)
    else none
def pKids : Nat → Nat → Nat → List T → List UInt8 → Option (List T × Nat × List UInt8)
  | 0, _, _, _, _ => none
  | f + 1, d, n, acc, s =>
    if hp s 32 = true then match pTree f (d + 1) n (tp s 32) with
      | none => none
      | some (k, n2, r2) => if acc.length = 100 then none else pKids f d n2 (acc ++ [k]) r2
    else if 0 < acc.length ∧ hp s 93 = true then some (acc, n, tp s 93) else none
end
/-- What Parse makes of a text. -/
def pParse (s : List UInt8) : Option T := match pTree (s.length + 1) 1 0 s with
  | some (t, _, r) => if r = [] then some t else none
  | none => none

/-! ### The text -/
def leafText : List Int → List UInt8
  | [] => []
  | [n] => Lib.itoa n
  | n :: r => Lib.itoa n ++ 32 :: leafText r
mutual
def text : T → List UInt8
  | .mk s ks lf => if ks.length = 0 then 40 :: leafText lf ++ [41] else 91 :: Lib.itoa s ++ kidsText ks ++ [93]
def kidsText : List T → List UInt8
  | [] => []
  | k :: r => 32 :: text k ++ kidsText r
end
end Go.Proofs.YtjjohllfidmkjaaDoor.Pf
