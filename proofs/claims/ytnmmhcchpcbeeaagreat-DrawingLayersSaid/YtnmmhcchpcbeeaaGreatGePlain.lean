/- Points, segments and rings in the plane, as plain data: what the program's functions compute. No function is in sight. Conditions: none. -/
import Derived.WalkKit

namespace Go.Proofs.YtnmmhcchpcbeeaaGreat.Ge
open Go
abbrev V := Int × Int
def sub (a b : V) : V := (a.1 - b.1, a.2 - b.2)
def cross (a b : V) : Int := a.1 * b.2 - a.2 * b.1
def sgn (n : Int) : Int := if n < 0 then -1 else if n = 0 then 0 else 1
def turn (a b c : V) : Int := sgn (cross (sub b a) (sub c a))
def within (a : V) (m : Int) : Bool := decide (-m ≤ a.1) && (decide (a.1 ≤ m) && (decide (-m ≤ a.2) && decide (a.2 ≤ m)))
/-- First by y, then by x. -/
def less (a b : V) : Bool := decide (a.2 < b.2) || (decide (a.2 = b.2) && decide (a.1 < b.1))
def vcmp (a b : V) : Int := if sgn (a.2 - b.2) = 0 then sgn (a.1 - b.1) else sgn (a.2 - b.2)
def inBox (a b p : V) : Bool := decide (min a.1 b.1 ≤ p.1) && (decide (p.1 ≤ max a.1 b.1) && (decide (min a.2 b.2 ≤ p.2) && decide (p.2 ≤ max a.2 b.2)))
abbrev S := V × V
def segOk (s : S) : Bool := within s.1 4000 && within s.2 4000
def on (s : S) (p : V) : Bool := segOk s && (inBox s.1 s.2 p && decide (turn s.1 s.2 p = 0))
/-- How segments on lines that are not parallel meet. -/
def linesK (s t : S) (d : Int) : Int :=
  let a := cross (sub t.1 s.1) (sub t.2 t.1)
  let b := cross (sub t.1 s.1) (sub s.2 s.1)
  let a' := if d < 0 then -a else a
  let b' := if d < 0 then -b else b
  let d' := if d < 0 then -d else d
  if a' < 0 ∨ d' < a' ∨ b' < 0 ∨ d' < b' then 0 else if a' = 0 ∨ a' = d' ∨ b' = 0 ∨ b' = d' then 1 else 2
def lo (a b : V) : V := if less b a then b else a
def hi (a b : V) : V := if less b a then a else b
/-- How segments on one line meet. -/
def alongK (s t : S) : Int :=
  let l := if less (lo s.1 s.2) (lo t.1 t.2) then lo t.1 t.2 else lo s.1 s.2
  let h := if less (hi t.1 t.2) (hi s.1 s.2) then hi t.1 t.2 else hi s.1 s.2
  if vcmp l h = 0 then 1 else if vcmp l h = -1 then 3 else 0
def meetK (s t : S) : Int :=
  if segOk s && segOk t then
    if cross (sub s.2 s.1) (sub t.2 t.1) ≠ 0 then linesK s t (cross (sub s.2 s.1) (sub t.2 t.1))
    else if s.1 = s.2 ∧ on t s.1 = true then 1
    else if t.1 = t.2 ∧ on s t.1 = true then 1
    else if s.1 = s.2 ∨ t.1 = t.2 ∨ turn s.1 s.2 t.1 ≠ 0 then 0
    else alongK s t
  else 0
/-! ### Rings -/
def nxt (r : List V) (i : Nat) : V := r.getD ((i + 1) % r.length) (0, 0)
def lst (r : List V) (i : Nat) : V := r.getD ((i + r.length - 1) % r.length) (0, 0)
def areaFrom (r : List V) : Nat → Int
  | 0 => 0
  | k + 1 => areaFrom r k + cross (r.getD k (0, 0)) (nxt r k)
def area (r : List V) : Int := areaFrom r r.length
def near (l : List V) : Bool := l.all fun v => within v 2000
def edges (r : List V) : List S := if r.length < 2 then [] else (List.range r.length).map fun i => (r.getD i (0, 0), nxt r i)
def bent (r : List V) : Bool := (List.range r.length).all fun i => decide (turn (lst r i) (r.getD i (0, 0)) (nxt r i) ≠ 0)
/-- Edges i and k of a ring of n, i < k, may meet only at a vertex that they share. -/
def loose (r : List V) (i k : Nat) : Bool := decide (k = i + 1) || ((decide (i = 0) && decide (k + 1 = r.length)) || decide (meetK (r.getD i (0, 0), nxt r i) (r.getD k (0, 0), nxt r k) = 0))
def ringB (r : List V) : Bool :=
  decide (3 ≤ r.length) && (decide (r.length ≤ 40) && (near r && (decide (0 < area r) && (bent r && (List.range r.length).all fun i => (List.range r.length).all fun k => !decide (i < k) || loose r i k))))
end Go.Proofs.YtnmmhcchpcbeeaaGreat.Ge
