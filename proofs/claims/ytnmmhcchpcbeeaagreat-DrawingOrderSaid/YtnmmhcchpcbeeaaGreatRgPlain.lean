/- The rings of a layer, as plain data: what the program's Rings computes. No function is in sight. Conditions: none. -/
import Derived.Test.YtnmmhcchpcbeeaaGreatDwX
namespace Go.Proofs.YtnmmhcchpcbeeaaGreat.Ge
open Go
structure Pass where
  e0 : V
  e1 : V
  pts : List V
  deriving DecidableEq
inductive Itm where
  | ring (l : List V)
  | chain (n : Nat)
  deriving DecidableEq
/-- The points of an entity; fl: those of an arc. -/
def selPts (fl : Ent → List V) (x : Ent) : List V := if x.kind = 1 then [x.a, x.b] else if x.kind = 2 then fl x else x.pts
def isClosed (x : Ent) : Bool := decide (x.kind = 3) || (decide (x.kind = 2) && decide (x.f = x.t))
def passOf (l : List V) : Pass := ⟨l.getD 0 z0, l.getD (l.length - 1) z0, l⟩
def gatherS (fl : Ent → List V) (layer : List UInt8) (st : List Pass × List Itm) (x : Ent) : List Pass × List Itm :=
  if x.layer = layer then (if isClosed x then (st.1, st.2 ++ [.ring (selPts fl x)]) else (st.1 ++ [passOf (selPts fl x)], st.2 ++ [.chain st.1.length])) else st
def gather (fl : Ent → List V) (layer : List UInt8) (d : List Ent) : List Pass × List Itm := d.foldl (gatherS fl layer) ([], [])
theorem gather_snoc (fl : Ent → List V) (layer : List UInt8) (d : List Ent) (x : Ent) : gather fl layer (d ++ [x]) = gatherS fl layer (gather fl layer d) x := by
  unfold gather
  rw [List.foldl_append]
  rfl
/-- Where a point is an end: the number of the open entity, and which end. -/
def atFrom : List Pass → Nat → V → List (Nat × Nat)
  | [], _, _ => []
  | p :: r, i, v => (if p.e0 = v then [(i, 0)] else []) ++ ((if p.e1 = v then [(i, 1)] else []) ++ atFrom r (i + 1) v)
def atL (ps : List Pass) (v : V) : List (Nat × Nat) := atFrom ps 0 v
theorem atFrom_snoc (p : Pass) (v : V) : ∀ (ps : List Pass) (i : Nat), atFrom (ps ++ [p]) i v = atFrom ps i v ++ ((if p.e0 = v then [(i + ps.length, 0)] else []) ++ (if p.e1 = v then [(i + ps.length, 1)] else []))
  | [], i => by simp [atFrom]
  | q :: r, i => by
    rw [List.cons_append, atFrom, atFrom_snoc p v r (i + 1), atFrom]
    simp only [List.append_assoc, List.length_cons, show i + 1 + r.length = i + (r.length + 1) by omega]
theorem atL_snoc (ps : List Pass) (p : Pass) (v : V) : atL (ps ++ [p]) v = atL ps v ++ ((if p.e0 = v then [(ps.length, 0)] else []) ++ (if p.e1 = v then [(ps.length, 1)] else [])) := by
  unfold atL
  rw [atFrom_snoc, Nat.zero_add]
theorem atFrom_mem (v : V) : ∀ (ps : List Pass) (i : Nat) (x : Nat × Nat), x ∈ atFrom ps i v → i ≤ x.1 ∧ x.1 < i + ps.length ∧ x.2 ≤ 1
  | [], i, x, h => by cases h
  | p :: r, i, x, h => by
    unfold atFrom at h
    rw [List.length_cons]
    rcases List.mem_append.1 h with h | h
    · split at h
      · simp only [List.mem_cons, List.not_mem_nil, or_false] at h
        subst h; exact ⟨Nat.le_refl _, by simp, by simp⟩
      · cases h
    · rcases List.mem_append.1 h with h | h
      · split at h
        · simp only [List.mem_cons, List.not_mem_nil, or_false] at h
          subst h; exact ⟨Nat.le_refl _, by simp, by simp⟩
        · cases h
      · obtain ⟨h1, h2, h3⟩ := atFrom_mem v r (i + 1) x h
        exact ⟨by omega, by omega, h3⟩
def twice (ps : List Pass) : Bool := ps.all fun p => decide ((atL ps p.e0).length = 2) && decide ((atL ps p.e1).length = 2)
def passAt (ps : List Pass) (i : Nat) : Pass := ps.getD i ⟨z0, z0, []⟩
def endOf (p : Pass) (k : Nat) : V := if k = 0 then p.e0 else p.e1
def passPts (p : Pass) (k : Nat) : List V := if k = 1 then p.pts.reverse else p.pts
def otherEnd (ps : List Pass) (i k : Nat) : Nat × Nat :=
  let both := atL ps (endOf (passAt ps i) (1 - k))
  if both.getD 0 (0, 0) = (i, 1 - k) then both.getD 1 (0, 0) else both.getD 0 (0, 0)
def markU (u : Nat → Bool) (i : Nat) : Nat → Bool := fun j => if j = i then true else u j
def chainGo (ps : List Pass) : Nat → (Nat → Bool) → Nat → Nat → List V → List V × (Nat → Bool)
  | 0, u, _, _, out => (out, u)
  | n + 1, u, i, k, out => if u i then (out, u) else chainGo ps n (markU u i) (otherEnd ps i k).1 (otherEnd ps i k).2 (out ++ (passPts (passAt ps i) k).drop (min out.length 1))
def unusedN (u : Nat → Bool) : Nat → Nat
  | 0 => 0
  | n + 1 => unusedN u n + (if u n then 0 else 1)
def chainL (ps : List Pass) (u : Nat → Bool) (i : Nat) : List V × (Nat → Bool) := chainGo ps (ps.length + 1) u i 0 []
def ringsGo (ps : List Pass) : List Itm → (Nat → Bool) → List (List V) → Int × List (List V)
  | [], _, acc => (0, acc)
  | .ring l :: r, u, acc => if cleanE l = 0 then ringsGo ps r u (acc ++ [cleanR l]) else (cleanE l, [])
  | .chain n :: r, u, acc => if u n then ringsGo ps r u acc else (if cleanE (chainL ps u n).1 = 0 then ringsGo ps r (chainL ps u n).2 (acc ++ [cleanR (chainL ps u n).1]) else (cleanE (chainL ps u n).1, []))
def ringsP (fl : Ent → List V) (d : List Ent) (layer : List UInt8) (tol : Int) : Int × List (List V) :=
  if drawOk d then (if tol < 1 ∨ 50 < tol then (2, []) else if twice (gather fl layer d).1 then ringsGo (gather fl layer d).1 (gather fl layer d).2 (fun _ => false) [] else (11, [])) else (1, [])
def exD : List Ent := [⟨1, [99, 117, 116], (0, 0), (4, 0), z0, z0, z0, false, []⟩, ⟨1, [99, 117, 116], (4, 4), (4, 0), z0, z0, z0, false, []⟩, ⟨1, [99, 117, 116], (4, 4), (0, 0), z0, z0, z0, false, []⟩]
theorem ex_ok : drawOk exD = true := by kernel_rfl
theorem ex_rings : ringsP (fun _ => []) exD [99, 117, 116] 1 = (0, [[(0, 0), (4, 0), (4, 4)]]) := by kernel_rfl
end Go.Proofs.YtnmmhcchpcbeeaaGreat.Ge
