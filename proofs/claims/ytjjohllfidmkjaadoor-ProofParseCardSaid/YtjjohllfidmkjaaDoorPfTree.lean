/- Trees as plain data, and how they lie in memory. No function is in sight. Conditions: none. -/
import Derived.Test.YtjjohllfidmkjaaDoorMem
namespace Go.Proofs.YtjjohllfidmkjaaDoor.Pf
open Go Go.RowKit Go.Proofs.YtjjohllfidmkjaaDoor.Mem

inductive T where
  | mk (split : Int) (kids : List T) (leaf : List Int)

def intCells (l : List Int) : List Value := l.map fun n => Value.int .i64 n

/-- A row whose block is of a set. -/
def RowS (S : Nat → Prop) (w : World) (A : Option Addr) (xs : List Value) : Prop :=
  xs ≠ [] → ∃ g off, A = some ⟨g, off, none⟩ ∧ S g ∧ g < w.heap.size ∧ ∀ j, j < xs.length → w.cell? ⟨g, off + j, none⟩ = xs[j]?
theorem RowS.row {S : Nat → Prop} {w : World} {A : Option Addr} {xs : List Value} (h : RowS S w A xs) : Row w A xs := fun hne => by
  obtain ⟨g, off, e, _, hg, hc⟩ := h hne
  exact ⟨g, off, e, hg, hc⟩
theorem RowS.all {w : World} {A : Option Addr} {xs : List Value} (h : Row w A xs) : RowS (fun _ => True) w A xs := fun hne => by
  obtain ⟨g, off, e, hg, hc⟩ := h hne
  exact ⟨g, off, e, trivial, hg, hc⟩
/-- What the blocks of a set hold stays. -/
def Stays (S : Nat → Prop) (w w' : World) : Prop := ∀ g, S g → g < w.heap.size → w'.heap[g]? = w.heap[g]?
theorem cell_stays {w w' : World} {g o : Nat} (h : w'.heap[g]? = w.heap[g]?) : w'.cell? ⟨g, o, none⟩ = w.cell? ⟨g, o, none⟩ := by
  unfold World.cell?
  simp only [h]
theorem RowS.stays {S S' : Nat → Prop} {w w' : World} {A : Option Addr} {xs : List Value} (h : RowS S w A xs) (hs : Stays S w w') (hm : ∀ g, S g → g < w.heap.size → S' g) : RowS S' w' A xs := fun hne => by
  obtain ⟨g, off, e, hS, hg, hc⟩ := h hne
  have e2 := hs g hS hg
  refine ⟨g, off, e, hm g hS hg, ?_, fun j hj => (cell_stays e2).trans (hc j hj)⟩
  rcases Nat.lt_or_ge g w'.heap.size with hlt | hge
  · exact hlt
  · rw [Array.getElem?_eq_none hge, Array.getElem?_eq_getElem hg] at e2
    cases e2

mutual
/-- A tree's three cells, and what they lead to, in blocks of a set. -/
def TreeIn (S : Nat → Prop) (w : World) : T → List Value → Prop
  | .mk s ks lf, vs => ∃ A c B d ws, vs = [.int .i64 s, .slice A ks.length c, .slice B lf.length d] ∧ ks.length ≤ c ∧ lf.length ≤ d ∧ RowS S w A ws ∧ KidsIn S w ks ws ∧ RowS S w B (intCells lf)
def KidsIn (S : Nat → Prop) (w : World) : List T → List Value → Prop
  | [], ws => ws = []
  | k :: r, ws => ∃ vs ws', ws = vs ++ ws' ∧ TreeIn S w k vs ∧ KidsIn S w r ws'
end
theorem TreeIn.len {S : Nat → Prop} {w : World} {t : T} {vs : List Value} (h : TreeIn S w t vs) : vs.length = 3 := by
  obtain ⟨s, ks, lf⟩ := t
  unfold TreeIn at h
  obtain ⟨A, c, B, d, ws, rfl, _⟩ := h
  rfl
theorem KidsIn.len {S : Nat → Prop} {w : World} : ∀ {ks : List T} {ws : List Value}, KidsIn S w ks ws → ws.length = 3 * ks.length
  | [], ws, h => by
    unfold KidsIn at h
    subst h
    rfl
  | k :: r, ws, h => by
    unfold KidsIn at h
    obtain ⟨vs, ws', rfl, h1, h2⟩ := h
    rw [List.length_append, h1.len, KidsIn.len h2, List.length_cons]
    omega
mutual
theorem TreeIn.stays {S S' : Nat → Prop} {w w' : World} (hs : Stays S w w') (hm : ∀ g, S g → g < w.heap.size → S' g) : ∀ (t : T) (vs : List Value), TreeIn S w t vs → TreeIn S' w' t vs
  | .mk s ks lf, vs, h => by
    unfold TreeIn at h ⊢
    obtain ⟨A, c, B, d, ws, e, h1, h2, h3, h4, h5⟩ := h
    exact ⟨A, c, B, d, ws, e, h1, h2, h3.stays hs hm, KidsIn.stays hs hm ks ws h4, h5.stays hs hm⟩
theorem KidsIn.stays {S S' : Nat → Prop} {w w' : World} (hs : Stays S w w') (hm : ∀ g, S g → g < w.heap.size → S' g) : ∀ (ks : List T) (ws : List Value), KidsIn S w ks ws → KidsIn S' w' ks ws
  | [], ws, h => by
    unfold KidsIn at h ⊢
    exact h
  | k :: r, ws, h => by
    unfold KidsIn at h ⊢
    obtain ⟨vs, ws', e, h1, h2⟩ := h
    exact ⟨vs, ws', e, TreeIn.stays hs hm k vs h1, KidsIn.stays hs hm r ws' h2⟩
end
theorem Stays.of_below {S : Nat → Prop} {w w' : World} (hb : Below w.heap.size w w') : Stays S w w' := fun g _ hg => hb.block g hg
theorem TreeIn.below {S : Nat → Prop} {w w' : World} {t : T} {vs : List Value} (h : TreeIn S w t vs) (hb : Below w.heap.size w w') : TreeIn S w' t vs := TreeIn.stays (Stays.of_below hb) (fun _ h _ => h) t vs h
theorem KidsIn.below {S : Nat → Prop} {w w' : World} {ks : List T} {ws : List Value} (h : KidsIn S w ks ws) (hb : Below w.heap.size w w') : KidsIn S w' ks ws := KidsIn.stays (Stays.of_below hb) (fun _ h _ => h) ks ws h
theorem KidsIn.get {S : Nat → Prop} {w : World} : ∀ {ks : List T} {ws : List Value}, KidsIn S w ks ws → ∀ (k : Nat) (hk : k < ks.length), ∃ a b c, TreeIn S w ks[k] [a, b, c] ∧ ws[3 * k]? = some a ∧ ws[3 * k + 1]? = some b ∧ ws[3 * k + 2]? = some c
  | [], _, _, k, hk => by simp at hk
  | t :: r, ws, h, k, hk => by
    unfold KidsIn at h
    obtain ⟨vs, ws', rfl, h1, h2⟩ := h
    have hl := h1.len
    match vs, hl with
    | [a, b, c], _ =>
      match k with
      | 0 => exact ⟨a, b, c, h1, rfl, rfl, rfl⟩
      | k + 1 =>
        obtain ⟨x, y, z, g1, g2, g3, g4⟩ := KidsIn.get h2 k (by simpa using hk)
        refine ⟨x, y, z, by simpa using g1, ?_, ?_, ?_⟩
        · rw [show 3 * (k + 1) = 3 * k + 3 by omega]; exact g2
        · rw [show 3 * (k + 1) + 1 = 3 * k + 1 + 3 by omega]; exact g3
        · rw [show 3 * (k + 1) + 2 = 3 * k + 2 + 3 by omega]; exact g4
theorem KidsIn.snoc {S : Nat → Prop} {w : World} {t : T} {vs : List Value} (ht : TreeIn S w t vs) : ∀ {ks : List T} {ws : List Value}, KidsIn S w ks ws → KidsIn S w (ks ++ [t]) (ws ++ vs)
  | [], ws, h => by
    unfold KidsIn at h
    subst h
    show KidsIn S w [t] ([] ++ vs)
    unfold KidsIn
    exact ⟨vs, [], by simp, ht, by unfold KidsIn; rfl⟩
  | k :: r, ws, h => by
    unfold KidsIn at h
    obtain ⟨us, ws', rfl, h1, h2⟩ := h
    rw [List.cons_append]
    unfold KidsIn
    exact ⟨us, ws' ++ vs, by simp, h1, KidsIn.snoc ht h2⟩

/-! ### The plain functions -/
mutual
def nodes : T → Nat
  | .mk _ ks _ => 1 + nodesL ks
def nodesL : List T → Nat
  | [] => 0
  | k :: r => nodes k + nodesL r
end
mutual
def leaves : T → Nat
  | .mk _ ks _ => if ks.length = 0 then 1 else leavesL ks
def leavesL : List T → Nat
  | [] => 0
  | k :: r => leaves k + leavesL r
end
mutual
def depth : T → Nat
  | .mk _ ks _ => depthL ks + 1
def depthL : List T → Nat
  | [] => 0
  | k :: r => max (depth k) (depthL r)
end
theorem nodesL_snoc (k : T) : ∀ r : List T, nodesL (r ++ [k]) = nodesL r + nodes k
  | [] => by simp [nodesL]
  | x :: r => by
    rw [List.cons_append]
    unfold nodesL
    rw [nodesL_snoc k r]
    omega
theorem leavesL_snoc (k : T) : ∀ r : List T, leavesL (r ++ [k]) = leavesL r + leaves k
  | [] => by simp [leavesL]
  | x :: r => by
    rw [List.cons_append]
    unfold leavesL
    rw [leavesL_snoc k r]
    omega
theorem depthL_snoc (k : T) : ∀ r : List T, depthL (r ++ [k]) = max (depthL r) (depth k)
  | [] => by simp [depthL]
  | x :: r => by
    rw [List.cons_append]
    unfold depthL
    rw [depthL_snoc k r]
    omega
/-! ### Counts that wrap, as the machine has them -/
mutual
def nW : T → Int
  | .mk _ ks _ => nWL 1 ks
def nWL : Int → List T → Int
  | a, [] => a
  | a, k :: r => nWL (wrap64 (a + nW k)) r
end
def imax (a b : Int) : Int := if a < b then b else a
mutual
def dW : T → Int
  | .mk _ ks _ => wrap64 (dWL 0 ks + 1)
def dWL : Int → List T → Int
  | a, [] => a
  | a, k :: r => dWL (imax a (dW k)) r
end
theorem nWL_snoc (k : T) : ∀ (r : List T) (a : Int), nWL a (r ++ [k]) = wrap64 (nWL a r + nW k)
  | [], a => by simp [nWL]
  | x :: r, a => by
    rw [List.cons_append]
    unfold nWL
    exact nWL_snoc k r _
theorem dWL_snoc (k : T) : ∀ (r : List T) (a : Int), dWL a (r ++ [k]) = imax (dWL a r) (dW k)
  | [], a => by simp [dWL]
  | x :: r, a => by
    rw [List.cons_append]
    unfold dWL
    exact dWL_snoc k r _
theorem wrap_in {n : Int} (h1 : -9223372036854775808 ≤ n) (h2 : n ≤ 9223372036854775807) : wrap64 n = n := by unfold wrap64; omega
theorem wrap_bd (n : Int) : -9223372036854775808 ≤ wrap64 n ∧ wrap64 n ≤ 9223372036854775807 := by unfold wrap64; omega
mutual
theorem nW_eq : ∀ t : T, nodes t ≤ 1000000000000 → nW t = (nodes t : Int)
  | .mk _ ks _, h => by
    unfold nodes at h
    unfold nW nodes
    exact nWL_eq ks 1 (by omega)
theorem nWL_eq : ∀ (ks : List T) (a : Nat), a + nodesL ks ≤ 1000000000000 → nWL (a : Int) ks = ((a + nodesL ks : Nat) : Int)
  | [], a, _ => by simp [nWL, nodesL]
  | x :: r, a, h => by
    unfold nodesL at h
    unfold nWL nodesL
    rw [nW_eq x (by omega), wrap_in (by omega) (by omega), show (a : Int) + (nodes x : Int) = ((a + nodes x : Nat) : Int) by omega, nWL_eq r (a + nodes x) (by omega)]
    congr 1; omega
end
mutual
theorem dW_eq : ∀ t : T, nodes t ≤ 1000000000000 → dW t = (depth t : Int) ∧ depth t ≤ nodes t
  | .mk _ ks _, h => by
    unfold nodes at h
    unfold dW depth nodes
    have h1 := dWL_eq ks 0 (by omega)
    have h2 := h1.2
    refine ⟨?_, by omega⟩
    rw [show (0 : Int) = ((0 : Nat) : Int) from rfl, h1.1, wrap_in (by omega) (by omega)]
    omega
theorem dWL_eq : ∀ (ks : List T) (a : Nat), nodesL ks ≤ 1000000000000 → dWL (a : Int) ks = ((max a (depthL ks) : Nat) : Int) ∧ depthL ks ≤ nodesL ks
  | [], a, _ => by simp [dWL, depthL]
  | x :: r, a, h => by
    unfold nodesL at h
    unfold dWL depthL nodesL
    have h1 := dW_eq x (by omega)
    have h2 := dWL_eq r (max a (depth x)) (by omega)
    refine ⟨?_, by omega⟩
    rw [h1.1, show imax (a : Int) (depth x : Int) = ((max a (depth x) : Nat) : Int) by unfold imax; split <;> omega, h2.1]
    congr 1; omega
end
mutual
/-- Each row of a tree takes at most 2^47 bytes. -/
def Fit : T → Prop
  | .mk _ ks lf => ks.length * 56 ≤ 140737488351232 ∧ lf.length * 8 ≤ 140737488351232 ∧ FitL ks
def FitL : List T → Prop
  | [] => True
  | k :: r => Fit k ∧ FitL r
end
theorem FitL.get : ∀ {ks : List T}, FitL ks → ∀ (k : Nat) (h : k < ks.length), Fit ks[k]
  | [], _, k, h => by simp at h
  | x :: r, hf, 0, _ => by unfold FitL at hf; exact hf.1
  | x :: r, hf, k + 1, h => by
    unfold FitL at hf
    exact FitL.get hf.2 k (by simpa using h)
theorem Fit.mk' {s : Int} {ks : List T} {lf : List Int} (h : Fit (.mk s ks lf)) : ks.length ≤ 2513169434843 ∧ lf.length ≤ 17592186043904 ∧ FitL ks := by
  unfold Fit at h
  exact ⟨by omega, by omega, h.2.2⟩
end Go.Proofs.YtjjohllfidmkjaaDoor.Pf
