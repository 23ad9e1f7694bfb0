/- Systems as plain data: boxes and rows; parts, proofs, the first wrong node. Conditions: none. -/
import Derived.Test.YtjjohllfidmkjaaDoorPfQ1
namespace Go.Proofs.YtjjohllfidmkjaaDoor.Pf
open Go

structure R4 where
  a : Int
  b : Int
  c : Int
  d : Int
structure Syst where
  l0 : Int
  l1 : Int
  l2 : Int
  h0 : Int
  h1 : Int
  h2 : Int
  rows : List R4
def r4Cells (r : R4) : List Value := [.int .i64 r.a, .int .i64 r.b, .int .i64 r.c, .int .i64 r.d]
theorem r4_len (r : R4) : (r4Cells r).length = 4 := rfl
/-- The value of a system whose rows lie at A. -/
def sysV (s : Syst) (A : Option Addr) (c : Nat) : Value :=
  .agg #[.int .i64 s.l0, .int .i64 s.l1, .int .i64 s.l2, .int .i64 s.h0, .int .i64 s.h1, .int .i64 s.h2, .slice A s.rows.length c]
def sysCells (s : Syst) (A : Option Addr) (c : Nat) : List Value :=
  [.int .i64 s.l0, .int .i64 s.l1, .int .i64 s.l2, .int .i64 s.h0, .int .i64 s.h1, .int .i64 s.h2, .slice A s.rows.length c]

/-- A small box. -/
def boxB (s : Syst) : Bool :=
  decide (0 ≤ s.l0) && decide (s.h0 ≤ 9) && decide (s.l0 ≤ s.h0) && (decide (0 ≤ s.l1) && decide (s.h1 ≤ 9) && decide (s.l1 ≤ s.h1)) && (decide (0 ≤ s.l2) && decide (s.h2 ≤ 9) && decide (s.l2 ≤ s.h2))
def numB (n : Int) : Bool := decide (-1000 ≤ n) && decide (n ≤ 1000)
def rowB (r : R4) : Bool := numB r.a && numB r.b && numB r.c && numB r.d
def littleB (s : Syst) : Bool := boxB s && s.rows.all rowB && decide (s.rows.length ≤ 5)
structure Box (s : Syst) : Prop where
  a0 : 0 ≤ s.l0
  b0 : s.h0 ≤ 9
  c0 : s.l0 ≤ s.h0
  a1 : 0 ≤ s.l1
  b1 : s.h1 ≤ 9
  c1 : s.l1 ≤ s.h1
  a2 : 0 ≤ s.l2
  b2 : s.h2 ≤ 9
  c2 : s.l2 ≤ s.h2
structure Num (r : R4) : Prop where
  a0 : -1000 ≤ r.a
  b0 : r.a ≤ 1000
  a1 : -1000 ≤ r.b
  b1 : r.b ≤ 1000
  a2 : -1000 ≤ r.c
  b2 : r.c ≤ 1000
  a3 : -1000 ≤ r.d
  b3 : r.d ≤ 1000
structure Little (s : Syst) : Prop where
  box : Box s
  num : ∀ r ∈ s.rows, Num r
  len : s.rows.length ≤ 5
theorem box_of {s : Syst} (h : boxB s = true) : Box s := by
  unfold boxB at h
  simp only [Bool.and_eq_true, decide_eq_true_eq] at h
  obtain ⟨⟨⟨⟨h1, h2⟩, h3⟩, ⟨h4, h5⟩, h6⟩, ⟨h7, h8⟩, h9⟩ := h
  exact ⟨h1, h2, h3, h4, h5, h6, h7, h8, h9⟩
theorem num_of {r : R4} (h : rowB r = true) : Num r := by
  unfold rowB numB at h
  simp only [Bool.and_eq_true, decide_eq_true_eq] at h
  obtain ⟨⟨⟨⟨h1, h2⟩, h3, h4⟩, h5, h6⟩, h7, h8⟩ := h
  exact ⟨h1, h2, h3, h4, h5, h6, h7, h8⟩
theorem little_of {s : Syst} (h : littleB s = true) : Little s := by
  unfold littleB at h
  simp only [Bool.and_eq_true, decide_eq_true_eq, List.all_eq_true] at h
  exact ⟨box_of h.1.1, fun r hr => num_of (h.1.2 r hr), h.2⟩

def lo (s : Syst) : Nat → Int
  | 0 => s.l0
  | 1 => s.l1
  | _ => s.l2
def hi (s : Syst) : Nat → Int
  | 0 => s.h0
  | 1 => s.h1
  | _ => s.h2
def setLo (s : Syst) (m : Int) : Nat → Syst
  | 0 => { s with l0 := m }
  | 1 => { s with l1 := m }
  | _ => { s with l2 := m }
def setHi (s : Syst) (m : Int) : Nat → Syst
  | 0 => { s with h0 := m }
  | 1 => { s with h1 := m }
  | _ => { s with h2 := m }
/-- The parts of a system at a coordinate. -/
def parts (s : Syst) (at_ : Int) : Option (Syst × Syst) :=
  if at_ < 0 then none
  else if at_ / 3 < lo s (at_ % 3).toNat ∨ hi s (at_ % 3).toNat ≤ at_ / 3 then none
  else some (setHi s (at_ / 3) (at_ % 3).toNat, setLo s (at_ / 3 + 1) (at_ % 3).toNat)
/-- The greatest value of a row. -/
def most (s : Syst) (r : R4) : Int := max (r.a * s.l0) (r.a * s.h0) + max (r.b * s.l1) (r.b * s.h1) + max (r.c * s.l2) (r.c * s.h2)
/-- A row that no point of the box fulfils. -/
def dead (s : Syst) (r : R4) : Bool := decide (most s r < r.d)
def proves1 (s : Syst) (n : Int) : Bool := decide (0 ≤ n) && (match s.rows[n.toNat]? with | some r => decide (n < s.rows.length) && dead s r | none => false)
def proves (s : Syst) : List Int → Bool
  | [n] => proves1 s n
  | _ => false
mutual
/-- The path to the first wrong node; none if there is none. -/
def wrong : T → Syst → Option (List Nat)
  | .mk s ks lf, y =>
    if ks.length = 0 then (if proves y lf then none else some [])
    else match parts y s with
      | none => some []
      | some (a, b) => if ks.length = 2 then wrongL ks [a, b] 0 else some []
def wrongL : List T → List Syst → Nat → Option (List Nat)
  | k :: r, y :: ys, i => match wrong k y with
    | some p => some (i :: p)
    | none => wrongL r ys (i + 1)
  | _, _, _ => none
end
/-- The number of points of a box, less one: sides added. -/
def side (s : Syst) : Nat := (s.h0 - s.l0).toNat + (s.h1 - s.l1).toNat + (s.h2 - s.l2).toNat
theorem mod3 (n : Int) : n % 3 = 0 ∨ n % 3 = 1 ∨ n % 3 = 2 := by omega
theorem parts_little {s a b : Syst} {n : Int} (h : parts s n = some (a, b)) (hl : Little s) : Little a ∧ Little b ∧ side a < side s ∧ side b < side s ∧ a.rows = s.rows ∧ b.rows = s.rows := by
  obtain ⟨⟨p0, q0, r0, p1, q1, r1, p2, q2, r2⟩, hn, hlen⟩ := hl
  unfold parts at h
  split at h
  · cases h
  · split at h
    · cases h
    · rename_i h1 h2
      simp only [Option.some.injEq, Prod.mk.injEq] at h
      obtain ⟨rfl, rfl⟩ := h
      rcases mod3 n with e | e | e <;> rw [e] at h2 ⊢ <;> simp only [setHi, setLo, lo, hi, Int.toNat_zero, Int.toNat_one, not_or, Int.not_lt, Int.not_le, show Int.toNat 2 = 2 from rfl] at h2 ⊢
      all_goals
        obtain ⟨h3, h4⟩ := h2
        refine ⟨⟨⟨?_, ?_, ?_, ?_, ?_, ?_, ?_, ?_, ?_⟩, hn, hlen⟩, ⟨⟨?_, ?_, ?_, ?_, ?_, ?_, ?_, ?_, ?_⟩, hn, hlen⟩, ?_, ?_, trivial, trivial⟩ <;> simp only [side] <;> omega
end Go.Proofs.YtjjohllfidmkjaaDoor.Pf
