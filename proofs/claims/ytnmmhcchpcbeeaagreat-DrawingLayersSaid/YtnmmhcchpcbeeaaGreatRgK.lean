/- What the program's Rings holds in memory while it gathers: passages, the map of ends, items; each kept while other blocks are written. No function is in sight. Conditions: as stated. -/
import Derived.Test.YtnmmhcchpcbeeaaGreatDwX
import Derived.Test.YtnmmhcchpcbeeaaGreatGeV
import Derived.Maps.OwnSet
import Derived.Maps.RangeWalk
import Derived.Maps.Ext
import Derived.WideKeyEntry
import Derived.DeepKeys4
import Derived.Test.YtnmmhcchpcbeeaaGreatOwnW

namespace Go.Proofs.YtnmmhcchpcbeeaaGreat.Ge
open Go
structure Pass where
  e0 : V
  e1 : V
  pts : List V
  deriving DecidableEq
inductive Itm where
  | ring (l : List V)
  | chain (n : Nat)
  deriving DecidableEq
/-- The points of an entity; fl: those of an arc. -/
def selPts (fl : Ent → List V) (x : Ent) : List V := if x.kind = 1 then [x.a, x.b] else if x.kind = 2 then fl x else x.pts
def isClosed (x : Ent) : Bool := decide (x.kind = 3) || (decide (x.kind = 2) && decide (x.f = x.t))
def passOf (l : List V) : Pass := ⟨l.getD 0 z0, l.getD (l.length - 1) z0, l⟩
def gatherS (fl : Ent → List V) (layer : List UInt8) (st : List Pass × List Itm) (x : Ent) : List Pass × List Itm :=
  if x.layer = layer then (if isClosed x then (st.1, st.2 ++ [.ring (selPts fl x)]) else (st.1 ++ [passOf (selPts fl x)], st.2 ++ [.chain st.1.length])) else st
def gather (fl : Ent → List V) (layer : List UInt8) (d : List Ent) : List Pass × List Itm := d.foldl (gatherS fl layer) ([], [])
theorem gather_snoc (fl : Ent → List V) (layer : List UInt8) (d : List Ent) (x : Ent) : gather fl layer (d ++ [x]) = gatherS fl layer (gather fl layer d) x := by
  unfold gather
  rw [List.foldl_append]
  rfl
/-- Where a point is an end: the number of the open entity, and which end. -/
def atFrom : List Pass → Nat → V → List (Nat × Nat)
  | [], _, _ => []
  | p :: r, i, v => (if p.e0 = v then [(i, 0)] else []) ++ ((if p.e1 = v then [(i, 1)] else []) ++ atFrom r (i + 1) v)
def atL (ps : List Pass) (v : V) : List (Nat × Nat) := atFrom ps 0 v
theorem atFrom_snoc (p : Pass) (v : V) : ∀ (ps : List Pass) (i : Nat), atFrom (ps ++ [p]) i v = atFrom ps i v ++ ((if p.e0 = v then [(i + ps.length, 0)] else []) ++ (if p.e1 = v then [(i + ps.length, 1)] else []))
  | [], i => by simp [atFrom]
  | q :: r, i => by
    rw [List.cons_append, atFrom, atFrom_snoc p v r (i + 1), atFrom]
    simp only [List.append_assoc, List.length_cons, show i + 1 + r.length = i + (r.length + 1) by omega]
theorem atL_snoc (ps : List Pass) (p : Pass) (v : V) : atL (ps ++ [p]) v = atL ps v ++ ((if p.e0 = v then [(ps.length, 0)] else []) ++ (if p.e1 = v then [(ps.length, 1)] else [])) := by
  unfold atL
  rw [atFrom_snoc, Nat.zero_add]
theorem atFrom_mem (v : V) : ∀ (ps : List Pass) (i : Nat) (x : Nat × Nat), x ∈ atFrom ps i v → i ≤ x.1 ∧ x.1 < i + ps.length ∧ x.2 ≤ 1
  | [], i, x, h => by cases h
  | p :: r, i, x, h => by
    unfold atFrom at h
    rw [List.length_cons]
    rcases List.mem_append.1 h with h | h
    · split at h
      · simp only [List.mem_cons, List.not_mem_nil, or_false] at h
        subst h; exact ⟨Nat.le_refl _, by simp, by simp⟩
      · cases h
    · rcases List.mem_append.1 h with h | h
      · split at h
        · simp only [List.mem_cons, List.not_mem_nil, or_false] at h
          subst h; exact ⟨Nat.le_refl _, by simp, by simp⟩
        · cases h
      · obtain ⟨h1, h2, h3⟩ := atFrom_mem v r (i + 1) x h
        exact ⟨by omega, by omega, h3⟩
def twice (ps : List Pass) : Bool := ps.all fun p => decide ((atL ps p.e0).length = 2) && decide ((atL ps p.e1).length = 2)
def passAt (ps : List Pass) (i : Nat) : Pass := ps.getD i ⟨z0, z0, []⟩
def endOf (p : Pass) (k : Nat) : V := if k = 0 then p.e0 else p.e1
def passPts (p : Pass) (k : Nat) : List V := if k = 1 then p.pts.reverse else p.pts
def otherEnd (ps : List Pass) (i k : Nat) : Nat × Nat :=
  let both := atL ps (endOf (passAt ps i) (1 - k))
  if both.getD 0 (0, 0) = (i, 1 - k) then both.getD 1 (0, 0) else both.getD 0 (0, 0)
def markU (u : Nat → Bool) (i : Nat) : Nat → Bool := fun j => if j = i then true else u j
def chainGo (ps : List Pass) : Nat → (Nat → Bool) → Nat → Nat → List V → List V × (Nat → Bool)
  | 0, u, _, _, out => (out, u)
  | n + 1, u, i, k, out => if u i then (out, u) else chainGo ps n (markU u i) (otherEnd ps i k).1 (otherEnd ps i k).2 (out ++ (passPts (passAt ps i) k).drop (min out.length 1))
def unusedN (u : Nat → Bool) : Nat → Nat
  | 0 => 0
  | n + 1 => unusedN u n + (if u n then 0 else 1)
def chainL (ps : List Pass) (u : Nat → Bool) (i : Nat) : List V × (Nat → Bool) := chainGo ps (ps.length + 1) u i 0 []
def ringsGo (ps : List Pass) : List Itm → (Nat → Bool) → List (List V) → Int × List (List V)
  | [], _, acc => (0, acc)
  | .ring l :: r, u, acc => if cleanE l = 0 then ringsGo ps r u (acc ++ [cleanR l]) else (cleanE l, [])
  | .chain n :: r, u, acc => if u n then ringsGo ps r u acc else (if cleanE (chainL ps u n).1 = 0 then ringsGo ps r (chainL ps u n).2 (acc ++ [cleanR (chainL ps u n).1]) else (cleanE (chainL ps u n).1, []))
def ringsP (fl : Ent → List V) (d : List Ent) (layer : List UInt8) (tol : Int) : Int × List (List V) :=
  if drawOk d then (if tol < 1 ∨ 50 < tol then (2, []) else if twice (gather fl layer d).1 then ringsGo (gather fl layer d).1 (gather fl layer d).2 (fun _ => false) [] else (11, [])) else (1, [])
def exD : List Ent := [⟨1, [99, 117, 116], (0, 0), (4, 0), z0, z0, z0, false, []⟩, ⟨1, [99, 117, 116], (4, 4), (4, 0), z0, z0, z0, false, []⟩, ⟨1, [99, 117, 116], (4, 4), (0, 0), z0, z0, z0, false, []⟩]
theorem ex_ok : drawOk exD = true := by kernel_rfl
theorem ex_rings : ringsP (fun _ => []) exD [99, 117, 116] 1 = (0, [[(0, 0), (4, 0), (4, 4)]]) := by kernel_rfl
end Go.Proofs.YtnmmhcchpcbeeaaGreat.Ge

namespace Go.Proofs.YtnmmhcchpcbeeaaGreat.GeW
open Go Go.RowKit Go.Proofs.YtnmmhcchpcbeeaaGreat.Mem Go.Proofs.YtnmmhcchpcbeeaaGreat.Ge
open Go.WideMaps (KeyLaw)
open Go.ChangeMaps (setBlock heap_setBlock_same heap_setBlock_other)
open Go.Maps (Keyed IsMap)
/-- An element of a map as it is. -/
def anyV : Value → Option (DataW Value × List MemPlace) := fun v => some (.held v, [])
section
variable {P : Program} {t k e : TypeId}
theorem map_entry {w : World} {b n : Nat} {D : DataW Value} (h : w.ownsMap P k anyV b n D) (KL : KeyLaw P k) (ht : P.underlying t = some (.map k e)) {z : Value}
    (hz : ∀ u : World, (zeroValue e).run P u = .ok z u) (hn : n < maxLen) {key : Value} {kl : Lit} (hkey : keyOf P k key = some kl) :
    ∃ (v0 : Value) (st : Nat) (w2 : World), (Instr.mapEntry t (.map (some b)) key).run P w = .ok (.tuple #[v0, goInt st]) w2 ∧ D.atKey kl (.held z) = .held v0 ∧ w.grownBy w2 (some b) ∧ w2.heap.size = w.heap.size ∧ (∃ es cl, w2.heap[b]? = some (.map es cl)) ∧
      ∀ (w3 : World) (val : Value), w3.heap[b]? = w2.heap[b]? → ∃ w4, (Instr.entryStore t (.map (some b)) (goInt st) val).run P w3 = .ok () w4 ∧ w4.ownsMap P k anyV b (n + 1) (D.put kl (.held val)) ∧ w3.grownBy w4 (some b) ∧ w4.heap.size = w3.heap.size := by
  have K : Keyed P k := Keyed.of_law KL
  have h' := h
  obtain ⟨es, clock, hb, F, hs, hD⟩ := h
  obtain ⟨v0, st, es1, clock1, hE, hv0, hS⟩ := WideElems.entry_then_store KL ht hz hb F hkey
  have hlt : b < w.heap.size := (Array.getElem?_eq_some_iff.1 hb).1
  have hgrow : ∀ (w : World) (es : Array MapEntry) (clk : Nat) (o : Obj), w.heap[b]? = some (.map es clk) → w.grownBy (setBlock w b o) (some b) := fun w es clk o hb => ⟨rfl, rfl, rfl, by simp [setBlock], fun i _ hi => heap_setBlock_other hb _ (fun e => hi (by rw [e]))⟩
  have hsize : ∀ (w : World) (o : Obj), (setBlock w b o).heap.size = w.heap.size := fun w o => by simp [setBlock]
  refine ⟨v0, st, setBlock w b (.map es1 clock1), hE, ?_, hgrow _ _ _ _ hb, hsize _ _, ⟨_, _, heap_setBlock_same hb _⟩, ?_⟩
  · subst hD
    rcases Maps.fit_look (R := anyV) false K ht (hz w) hb F hkey with ⟨_, hno, hat⟩ | ⟨e0, y, hm, hk0, _, hR, hat, _⟩
    · rcases hv0 with ⟨e0, hm, hk0, _⟩ | ⟨_, rfl⟩
      · exact absurd hk0 (hno e0 hm)
      · exact hat _
    · have hnd : (es.toList.map (·.key)).Nodup := F.stamped.2.2
      rcases hv0 with ⟨e1, hm1, hk1, rfl⟩ | ⟨hno, _⟩
      · have he : e1 = e0 := by
          obtain ⟨i, hi, rfl⟩ := List.getElem_of_mem hm
          obtain ⟨j, hj, rfl⟩ := List.getElem_of_mem hm1
          have : j = i := by
            have h1 := (List.getElem_inj (h₀ := by simpa using hj) (h₁ := by simpa using hi) hnd).1 (by simp only [List.getElem_map]; rw [hk1, hk0])
            exact h1
          subst this
          rfl
        subst he
        rw [hat]
        unfold anyV at hR
        cases hR
        rfl
      · exact absurd hk0 (hno e0 hm)
  · intro w3 val hw3
    rw [heap_setBlock_same hb] at hw3
    obtain ⟨es', clock', hst, hup⟩ := hS w3 val hw3
    obtain ⟨w', hrun', hown', _⟩ := h'.update K ht hn hkey (show anyV val = some (.held val, []) from rfl)
    rw [hup] at hrun'
    have hw' := (Result.ok.inj hrun').2
    subst hw'
    refine ⟨_, hst, ?_, hgrow _ _ _ _ hw3, hsize _ _⟩
    obtain ⟨es2, clock2, hb2, F2, hs2, hD2⟩ := hown'
    rw [heap_setBlock_same hb] at hb2
    exact ⟨es2, clock2, by rw [heap_setBlock_same hw3]; exact hb2, F2, hs2, hD2⟩
theorem map_look {w : World} {b n : Nat} {D : DataW Value} (h : w.ownsMap P k anyV b n D) (KL : KeyLaw P k) (ht : P.underlying t = some (.map k e)) {z : Value}
    (hz : (zeroValue e).run P w = .ok z w) {key : Value} {kl : Lit} (hkey : keyOf P k key = some kl) :
    ∃ v, (Instr.lookup t (.map (some b)) key false).run P w = .ok v w ∧ D.atKey kl (.held z) = .held v := by
  obtain ⟨v, ps, hrun, hR⟩ := h.lookup (Keyed.of_law KL) ht hz (show anyV z = some (.held z, []) from rfl) hkey
  unfold anyV at hR
  exact ⟨v, hrun, (Prod.mk.inj (Option.some.inj hR)).1.symm⟩
variable {K : TypeId} {α : Type} {mk : α → Value} {kt : α → Lit} {wf : α → Prop}
/-- How the keys of a type read. -/
structure KeysOf (P : Program) (K : TypeId) {α : Type} (mk : α → Value) (kt : α → Lit) (wf : α → Prop) : Prop where
  made : ∀ a, wf a → keyOf P K (mk a) = some (kt a)
  inv : ∀ {v : Value} {l : Lit}, keyOf P K v = some l → ∃ a, wf a ∧ v = mk a ∧ l = kt a
  inj : ∀ {a b : α}, wf a → wf b → kt a = kt b → a = b
  key : ∀ {a : α}, wf a → WideAt.IsKeyLit (kt a)
/-- The map holds the values of a function, where it has one. -/
def MapF (kt : α → Lit) (wf : α → Prop) (D : DataW Value) (f : α → Option Value) : Prop :=
  IsMap D ∧ (∀ a, wf a → (Maps.has D (kt a) = true ↔ (f a).isSome = true)) ∧ ∀ a zd, wf a → D.atKey (kt a) zd = match f a with | some v => .held v | none => zd
theorem MapF.start : MapF kt wf (.map []) (fun _ => none) := ⟨Maps.isMap_empty, fun a _ => by simp [Maps.has], fun a zd _ => rfl⟩
variable [DecidableEq α]
theorem MapF.put (KS : KeysOf P K mk kt wf) {D : DataW Value} {f : α → Option Value} (h : MapF kt wf D f) {a : α} (ha : wf a) (v : Value) : MapF kt wf (D.put (kt a) (.held v)) (fun b => if b = a then some v else f b) := by
  obtain ⟨h1, h2, h3⟩ := h
  refine ⟨h1.put _ _, fun b hb => ?_, fun b zd hb => ?_⟩
  · by_cases e : b = a
    · subst e
      rw [Maps.has_put_same h1 (KS.key ha)]
      simp
    · rw [Maps.has_put_other (fun e2 => e (KS.inj hb ha e2)), h2 b hb]
      simp [e]
  · by_cases e : b = a
    · subst e
      rw [Maps.atKey_put_same h1 (KS.key ha)]
      simp
    · rw [Maps.atKey_put_other (fun e2 => e (KS.inj hb ha e2)), h3 b zd hb]
      simp [e]
end
/-! ### Points as keys -/
theorem laidOut : laidOutB Tryz.prog = true := by kernel_rfl
theorem row_vec : (53 : TypeId) < Tryz.prog.types.size := of_decide_eq_true (by kernel_rfl)
theorem wide_vec : (match Tryz.prog.underlying 53 with | some (.array _ _) | some (.struct _) => true | _ => false) = true := by kernel_rfl
set_option maxRecDepth 100000 in
theorem law_vec : KeyLaw Tryz.prog 53 := deep_law_laid laidOut (m := 2) (by omega) row_vec (by kernel_rfl) wide_vec
def WfV (v : V) : Prop := (Lit.int .i64 v.1).wf = true ∧ (Lit.int .i64 v.2).wf = true
def vecV (v : V) : Value := .agg #[.int .i64 v.1, .int .i64 v.2]
def vLit (v : V) : Lit := .string (keyBytes [.int .i64 v.1, .int .i64 v.2])
theorem keyOf_vec (v : Value) : keyOf Tryz.prog 53 v = if v.formed Tryz.prog 53 then (Tryz.prog.keyLits (Tryz.prog.types.size + 1) 53 v.cells.toList).map fun ls => .string (keyBytes ls) else none := by
  have hk : Tryz.prog.keyType 53 = true := by kernel_rfl
  unfold keyOf
  rw [Tryz.underlying53]
  simp only [hk, Bool.true_and]
theorem nat_succ {n : Nat} (h : 0 < n) : ∃ m, n = m + 1 := ⟨n - 1, by omega⟩
theorem pos_types : 0 < Tryz.prog.types.size := of_decide_eq_true (by kernel_rfl)
theorem size_types : ∃ n, Tryz.prog.types.size = n + 1 := nat_succ pos_types
theorem lits_vec (c0 c1 : Value) : Tryz.prog.keyLits (Tryz.prog.types.size + 1) 53 [c0, c1] =
    (Tryz.prog.keyLits Tryz.prog.types.size 3 [c0]).bind fun a => (Tryz.prog.keyLits Tryz.prog.types.size 3 [c1]).bind fun b => some (a ++ b) := by
  have h1 : Tryz.prog.cellsOf 53 = 2 := by kernel_rfl
  have h2 : Tryz.prog.cellsOf 3 = 1 := by kernel_rfl
  conv => lhs; unfold Program.keyLits
  rw [Tryz.underlying53]
  simp [h1, h2]
  generalize Tryz.prog.keyLits _ 3 [c0] = a0
  generalize Tryz.prog.keyLits _ 3 [c1] = a1
  cases a0 <;> cases a1 <;> simp
theorem lits_int (c : Value) (n : Nat) : Tryz.prog.keyLits (n + 1) 3 [c] = match c with | .int q m => if q = .i64 ∧ (Lit.int .i64 m).wf = true then some [.int .i64 m] else none | _ => none := by
  unfold Program.keyLits
  rw [Tryz.underlying3]
  cases c <;> rfl
theorem formed_vec (cs : Array Value) : (Value.agg cs).formed Tryz.prog 53 = (cs.size == 2) := by
  have h1 : Tryz.prog.cellsOf 53 = 2 := by kernel_rfl
  simp [Value.formed, Tryz.underlying53, h1]
theorem vec_made (v : V) (h : WfV v) : keyOf Tryz.prog 53 (vecV v) = some (vLit v) := by
  obtain ⟨n, hn⟩ := size_types
  obtain ⟨h1, h2⟩ := h
  rw [keyOf_vec]
  unfold vecV vLit
  rw [formed_vec]
  simp only [Value.cells]
  rw [if_pos (by rfl)]
  show ((Tryz.prog.keyLits (Tryz.prog.types.size + 1) 53 [.int .i64 v.1, .int .i64 v.2]).map fun ls => Lit.string (keyBytes ls)) = _
  rw [lits_vec, hn, lits_int, lits_int]
  simp only [h1, h2, and_self, if_true]
  rfl
set_option maxRecDepth 100000 in
theorem vec_inv {v : Value} {l : Lit} (h : keyOf Tryz.prog 53 v = some l) : ∃ p, WfV p ∧ v = vecV p ∧ l = vLit p := by
  obtain ⟨n, hn⟩ := size_types
  have hf : v.formed Tryz.prog 53 = true := by
    rw [keyOf_vec] at h
    split at h
    · rename_i hf; exact hf
    · cases h
  obtain ⟨cs, rfl⟩ : ∃ cs, v = .agg cs := by
    cases v
    case agg cs => exact ⟨cs, rfl⟩
    all_goals (exfalso; revert hf; simp [Value.formed, Tryz.underlying53])
  rw [formed_vec] at hf
  obtain ⟨⟨c0, c1, rfl⟩⟩ : Nonempty (∃ c0 c1, cs = #[c0, c1]) := by
    obtain ⟨l⟩ := cs
    match l, hf with
    | [a, b], _ => exact ⟨a, b, rfl⟩
  rw [keyOf_vec, formed_vec, if_pos (by rfl)] at h
  have h' : ((Tryz.prog.keyLits (Tryz.prog.types.size + 1) 53 [c0, c1]).map fun ls => Lit.string (keyBytes ls)) = some l := h
  rw [lits_vec, hn, lits_int, lits_int] at h'
  cases c0 with
  | int q m =>
    cases c1 with
    | int q' m' =>
      simp only at h'
      by_cases a1 : q = .i64 ∧ (Lit.int .i64 m).wf = true
      · by_cases a2 : q' = .i64 ∧ (Lit.int .i64 m').wf = true
        · rw [if_pos a1, if_pos a2] at h'
          refine ⟨(m, m'), ⟨a1.2, a2.2⟩, ?_, ?_⟩
          · rw [a1.1, a2.1]; rfl
          · have := Option.some.inj h'
            exact this.symm
        · rw [if_pos a1, if_neg a2] at h'; cases h'
      · rw [if_neg a1] at h'; cases h'
    | _ => simp at h'
  | _ => simp at h'
theorem keys_vec : KeysOf Tryz.prog 53 vecV vLit WfV where
  made := vec_made
  inv := vec_inv
  inj := fun {a b} ha hb h => by
    have := law_vec.inj (vec_made a ha) (h ▸ vec_made b hb)
    unfold vecV at this
    simp only [Value.agg.injEq, Array.mk.injEq, List.cons.injEq, Value.int.injEq, true_and, and_true] at this
    exact Prod.ext this.1 this.2
  key := fun _ => trivial
end Go.Proofs.YtnmmhcchpcbeeaaGreat.GeW

namespace Go.Proofs.YtnmmhcchpcbeeaaGreat.GeW
open Go Go.RowKit Go.Proofs.YtnmmhcchpcbeeaaGreat.Mem Go.Proofs.YtnmmhcchpcbeeaaGreat.Ge
/-- A block of cells of a type. -/
def Tagged (w : World) (g : Nat) (T : TypeId) : Prop := ∃ cur fz, w.heap[g]? = some (.cells cur T fz)
theorem Tagged.ne {w : World} {g g' : Nat} {T T' : TypeId} (h : Tagged w g T) (h' : Tagged w g' T') (hne : T ≠ T') : g ≠ g' := by
  rintro rfl
  obtain ⟨c, f, h⟩ := h
  obtain ⟨c', f', h'⟩ := h'
  rw [h] at h'
  cases h'
  exact hne rfl
theorem Tagged.lt {w : World} {g : Nat} {T : TypeId} (h : Tagged w g T) : g < w.heap.size := by
  obtain ⟨c, f, h⟩ := h
  exact (Array.getElem?_eq_some_iff.1 h).1
theorem own_tag {w : World} {base : Nat} {e : TypeId} {size n : Nat} {v : Value} {xs : List Value} (h : w.ownsRow base e size v n xs) {g : Nat} (hg : v.ownBlock = some g) : Tagged w g e ∧ base ≤ g := by
  rcases h.2 with ⟨rfl, _⟩ | ⟨g', cap, cur, rfl, hb, hh, _⟩
  · cases hg
  · cases hg
    exact ⟨⟨cur, _, hh⟩, hb⟩
/-- The blocks that are written are of a type, and the call's own. -/
def RowT (w : World) (base : Nat) (T : TypeId) (row : Option Nat) : Prop := ∀ g, row = some g → Tagged w g T ∧ base ≤ g
/-- The same, if they are blocks of cells at all. -/
def RowW (w : World) (base : Nat) (T : TypeId) (row : Option Nat) : Prop := ∀ g, row = some g → (∀ T', Tagged w g T' → T' = T) ∧ base ≤ g
theorem RowT.weak {w : World} {base : Nat} {T : TypeId} {row : Option Nat} (h : RowT w base T row) : RowW w base T row := fun g hg => ⟨fun T' ht => by
  obtain ⟨c, f, h1⟩ := (h g hg).1
  obtain ⟨c', f', h2⟩ := ht
  rw [h1] at h2
  cases h2
  rfl, (h g hg).2⟩
theorem RowW.none (w : World) (base : Nat) (T : TypeId) : RowW w base T none := fun g h => by cases h
theorem RowT.none (w : World) (base : Nat) (T : TypeId) : RowT w base T none := fun g h => by cases h
theorem RowT.own {w : World} {base : Nat} {e : TypeId} {size n : Nat} {v : Value} {xs : List Value} (h : w.ownsRow base e size v n xs) : RowT w base e v.ownBlock := fun _ hg => own_tag h hg
theorem heap_keep {w w' : World} {row : Option Nat} {T T' : TypeId} {base g : Nat} (hg : w.grownBy w' row) (hr : RowW w base T row) (hne : T ≠ T') {cur : Array Value} {fz : Nat × Nat} (h : w.heap[g]? = some (.cells cur T' fz)) : w'.heap[g]? = some (.cells cur T' fz) := by
  have hlt := (Array.getElem?_eq_some_iff.1 h).1
  refine (hg.block g hlt ?_).trans h
  intro he
  exact hne ((hr g he.symm).1 _ ⟨cur, fz, h⟩).symm
theorem own_keep {w w' : World} {row : Option Nat} {T T' : TypeId} {base base' size n : Nat} {v : Value} {xs : List Value} (hg : w.grownBy w' row) (hr : RowW w base T row) (hne : T ≠ T') (h : w.ownsRow base' T' size v n xs) : w'.ownsRow base' T' size v n xs := by
  refine ⟨h.1, ?_⟩
  rcases h.2 with h0 | ⟨g, cap, cur, hv, hb, hh, r⟩
  · exact .inl h0
  · exact .inr ⟨g, cap, cur, hv, hb, heap_keep hg hr hne hh, r⟩
theorem own_keepNe {w w' : World} {row : Option Nat} {T : TypeId} {base size n : Nat} {v : Value} {xs : List Value} (hg : w.grownBy w' row) (h : w.ownsRow base T size v n xs) (hne : ∀ b, row = some b → v.ownBlock ≠ some b) : w'.ownsRow base T size v n xs := by
  refine ⟨h.1, ?_⟩
  rcases h.2 with h0 | ⟨g, cap, cur, hv, hb, hh, r⟩
  · exact .inl h0
  · refine .inr ⟨g, cap, cur, hv, hb, ?_, r⟩
    refine (hg.block g (Array.getElem?_eq_some_iff.1 hh).1 ?_).trans hh
    intro he
    subst hv
    exact hne g he.symm rfl
/-- Points as they lie in memory: ahead of the call, or in a block of points. -/
def PtAt (base : Nat) (w : World) (A : Option Addr) (l : List V) : Prop := Row w A (l.flatMap ptCells) ∧ (l ≠ [] → ∀ g off, A = some ⟨g, off, none⟩ → g < base ∨ Tagged w g 53)
theorem PtAt.keep {w w' : World} {row : Option Nat} {T : TypeId} {base : Nat} {A : Option Addr} {l : List V} (hg : w.grownBy w' row) (hr : RowW w base T row) (hne : T ≠ 53) (h : PtAt base w A l) : PtAt base w' A l := by
  have hb : ∀ g off, l ≠ [] → A = some ⟨g, off, none⟩ → g < w.heap.size → w'.heap[g]? = w.heap[g]? := by
    intro g off hl hA hlt
    refine hg.block g hlt ?_
    intro he
    rcases h.2 hl g off hA with h1 | h1
    · have := (hr g he.symm).2; omega
    · exact hne ((hr g he.symm).1 _ h1).symm
  constructor
  · intro hx
    obtain ⟨g, off, hA, hlt, hc⟩ := h.1 hx
    have hl : l ≠ [] := by rintro rfl; exact hx rfl
    refine ⟨g, off, hA, Nat.lt_of_lt_of_le hlt hg.size, fun j hj => ?_⟩
    rw [World.cell?_of_block (hb g off hl hA hlt)]
    exact hc j hj
  · intro hl g off hA
    rcases h.2 hl g off hA with h1 | ⟨cur, fz, h1⟩
    · exact .inl h1
    · exact .inr ⟨cur, fz, (hb g off hl hA (Array.getElem?_eq_some_iff.1 h1).1).trans h1⟩
theorem PtAt.of_old {w0 w : World} {A : Option Addr} {l : List V} (h : Row w0 A (l.flatMap ptCells)) (hb : Below w0.heap.size w0 w) : PtAt w0.heap.size w A l := by
  refine ⟨h.below hb, fun hl g off hA => .inl ?_⟩
  obtain ⟨g', off', hA', hlt, _⟩ := h (by
    intro h0
    have := flatMap_len pt_len l
    rw [h0] at this
    have : l.length = 0 := by simp at this; omega
    exact hl (List.eq_nil_of_length_eq_zero this))
  rw [hA] at hA'
  cases hA'
  exact hlt
theorem PtAt.of_own {w : World} {base b n c : Nat} {A : Option Addr} {l : List V} (h : w.ownsRow b 53 2 (.slice A n c) n (l.flatMap ptCells)) : PtAt base w A l := by
  refine ⟨Row.of_own h, fun hl g off hA => .inr ?_⟩
  subst hA
  exact (own_tag h rfl).1
theorem PtAt.nil (base : Nat) (w : World) (A : Option Addr) : PtAt base w A [] := ⟨Row.nil _ _, fun h => absurd rfl h⟩
theorem grown_none {w : World} (o : Obj) : w.grownBy (w.alloc o) none := World.grownBy_alloc w o none
theorem PtAt.alloc {w : World} {base : Nat} {A : Option Addr} {l : List V} (h : PtAt base w A l) (o : Obj) : PtAt base (w.alloc o) A l := h.keep (T := 3) (grown_none o) (RowW.none _ _ _) (by decide)
/-- An open entity as it lies in memory. -/
structure PassV where
  p : Pass
  A : Option Addr
  k : Nat
  g : Nat
def passCells (q : PassV) (u : Bool) : Array Value := #[.int .i64 q.p.e0.1, .int .i64 q.p.e0.2, .int .i64 q.p.e1.1, .int .i64 q.p.e1.2, .slice q.A q.p.pts.length q.k, .bool u]
def endCells (x : Nat × Nat) : List Value := [.int .i64 (x.1 : Int), .int .i64 (x.2 : Int)]
theorem end_len (x : Nat × Nat) : (endCells x).length = 2 := rfl
def passL (ps : List PassV) : List Pass := ps.map PassV.p
def passPtr (q : PassV) : Value := .pointer (some ⟨q.g, 0, none⟩)
structure PassIn (base : Nat) (w : World) (q : PassV) (u : Bool) : Prop where
  base_ : base ≤ q.g
  cells : w.heap[q.g]? = some (.cells (passCells q u) 86 (0, 0))
  pts : PtAt base w q.A q.p.pts
  room : q.p.pts.length ≤ q.k
  two : 2 ≤ q.p.pts.length ∧ q.p.pts.length ≤ 40000
theorem map_block {w : World} {mb n : Nat} {D : DataW Value} (h : w.ownsMap Tryz.prog 53 anyV mb n D) {g : Nat} {T : TypeId} (ht : Tagged w g T) : g ≠ mb := by
  rintro rfl
  obtain ⟨es, cl, hb, _⟩ := h
  obtain ⟨c, fz, h2⟩ := ht
  rw [hb] at h2
  cases h2
theorem PassIn.keep {w w' : World} {row : Option Nat} {T : TypeId} {base : Nat} {q : PassV} {u : Bool} (hg : w.grownBy w' row) (hr : RowW w base T row) (h1 : T ≠ 53) (h2 : T ≠ 86) (h : PassIn base w q u) : PassIn base w' q u :=
  ⟨h.base_, heap_keep hg hr h2 h.cells, h.pts.keep hg hr h1, h.room, h.two⟩
/-- The map of ends: at each point a row of the call's own. -/
structure MapR (base : Nat) (w : World) (mb n : Nat) (D : DataW Value) (f : V → Option Value) (L : V → List (Nat × Nat)) : Prop where
  mbase : base ≤ mb
  map_ : w.ownsMap Tryz.prog 53 anyV mb n D
  fun_ : MapF vLit WfV D f
  rows : ∀ v, (f v = none → L v = []) ∧ ∀ u, f v = some u → L v ≠ [] ∧ w.ownsRow base 88 2 u (L v).length ((L v).flatMap endCells)
  rapart : ∀ v v' u u', v ≠ v' → f v = some u → f v' = some u' → u.ownBlock ≠ u'.ownBlock
  wfk : ∀ v u, f v = some u → WfV v
theorem MapR.keep {w w' : World} {row : Option Nat} {T : TypeId} {base mb n : Nat} {D : DataW Value} {f : V → Option Value} {L : V → List (Nat × Nat)} (h : MapR base w mb n D f L) (hg : w.grownBy w' row) (hr : RowT w base T row) (h4 : T ≠ 88) : MapR base w' mb n D f L where
  mbase := h.mbase
  map_ := h.map_.kept hg (fun he => map_block h.map_ (hr mb he.symm).1 rfl)
  fun_ := h.fun_
  rows := fun v => ⟨(h.rows v).1, fun u hu => ⟨((h.rows v).2 u hu).1, own_keep hg hr.weak h4 ((h.rows v).2 u hu).2⟩⟩
  rapart := h.rapart
  wfk := h.wfk
theorem MapR.keepW {w w' : World} {row : Option Nat} {T : TypeId} {base mb n : Nat} {D : DataW Value} {f : V → Option Value} {L : V → List (Nat × Nat)} (h : MapR base w mb n D f L) (hg : w.grownBy w' row) (hr : RowW w base T row) (h4 : T ≠ 88) (hmb : some mb ≠ row) : MapR base w' mb n D f L where
  mbase := h.mbase
  map_ := h.map_.kept hg hmb
  fun_ := h.fun_
  rows := fun v => ⟨(h.rows v).1, fun u hu => ⟨((h.rows v).2 u hu).1, own_keep hg hr h4 ((h.rows v).2 u hu).2⟩⟩
  rapart := h.rapart
  wfk := h.wfk
theorem MapR.alloc {w : World} {base mb n : Nat} {D : DataW Value} {f : V → Option Value} {L : V → List (Nat × Nat)} (h : MapR base w mb n D f L) (o : Obj) : MapR base (w.alloc o) mb n D f L :=
  h.keep (T := 3) (grown_none o) (RowT.none _ _ _) (by decide)
theorem own_map {w w' : World} {base mb n n' size : Nat} {T : TypeId} {D : DataW Value} {v : Value} {xs : List Value} (hm : w.ownsMap Tryz.prog 53 anyV mb n' D) (hg : w.grownBy w' (some mb)) (h : w.ownsRow base T size v n xs) : w'.ownsRow base T size v n xs :=
  own_keepNe hg h (fun b hb hv => by cases hb; exact map_block hm (own_tag h hv).1 rfl)
theorem zero_rows (w : World) : (zeroValue 87).run Tryz.prog w = .ok (.slice none 0 0) w := by kernel_rfl
/-- 'm[v] = append(m[v], x)': the entry is made, the row grows, the row is stored. -/
theorem MapR.step {W : World} {base mb n : Nat} {D : DataW Value} {f : V → Option Value} {L : V → List (Nat × Nat)} (h : MapR base W mb n D f L) (hn : n < maxLen) (v : V) (hv : WfV v) :
    ∃ (v0 : Value) (st : Nat) (W2 : World), (Instr.mapEntry 78 (.map (some mb)) (vecV v)).run Tryz.prog W = .ok (.tuple #[v0, goInt st]) W2 ∧ W.grownBy W2 (some mb) ∧ W2.heap.size = W.heap.size ∧ W2.ownsRow base 88 2 v0 (L v).length ((L v).flatMap endCells) ∧ (∃ es cl, W2.heap[mb]? = some (.map es cl)) ∧
      ∀ (W3 : World) (g c : Nat) (x : Nat × Nat), W3.ownsRow base 88 2 (.slice (some ⟨g, 0, none⟩) ((L v).length + 1) c) ((L v).length + 1) ((L v ++ [x]).flatMap endCells) → W2.grownBy W3 v0.ownBlock → (v0.ownBlock = some g ∨ g = W2.heap.size) →
        ∃ (W4 : World) (D' : DataW Value) (f' : V → Option Value), (Instr.entryStore 78 (.map (some mb)) (goInt st) (.slice (some ⟨g, 0, none⟩) ((L v).length + 1) c)).run Tryz.prog W3 = .ok () W4 ∧ W3.grownBy W4 (some mb) ∧ W4.heap.size = W3.heap.size ∧ MapR base W4 mb (n + 1) D' f' (fun z => L z ++ (if v = z then [x] else [])) := by
  obtain ⟨v0, st, W2, hE, hat0, hg2, hsz2, hmb2, hS⟩ := map_entry (t := 78) (e := 87) h.map_ law_vec Tryz.underlying78 zero_rows hn (vec_made v hv)
  have hf0 : (f v = none ∧ v0 = .slice none 0 0) ∨ f v = some v0 := by
    have := h.fun_.2.2 v (.held (.slice none 0 0)) hv
    rw [hat0] at this
    cases hf : f v with
    | none => rw [hf] at this; injection this with this; exact .inl ⟨rfl, this⟩
    | some u => rw [hf] at this; injection this with this; exact .inr (by rw [this])
  have hown0 : W.ownsRow base 88 2 v0 (L v).length ((L v).flatMap endCells) := by
    rcases hf0 with ⟨hf, rfl⟩ | hf
    · rw [(h.rows v).1 hf]; exact World.ownsRow_nil _ _ _ _
    · exact ((h.rows v).2 _ hf).2
  have hown2 := own_map h.map_ hg2 hown0
  refine ⟨v0, st, W2, hE, hg2, hsz2, hown2, hmb2, ?_⟩
  intro W3 g c x hown3 hg3 hat
  obtain ⟨es2, cl2, hmb2⟩ := hmb2
  have hmlt : mb < W2.heap.size := (Array.getElem?_eq_some_iff.1 hmb2).1
  have hmne : ∀ b, v0.ownBlock = some b → b ≠ mb := by
    intro b hb he
    subst he
    obtain ⟨cur, fz, ht⟩ := (own_tag hown2 hb).1
    rw [hmb2] at ht
    cases ht
  have hmb3 : W3.heap[mb]? = W2.heap[mb]? := hg3.block mb hmlt (fun he => hmne mb he.symm rfl)
  obtain ⟨W4, hst, hown4, hg4, hsz4⟩ := hS W3 (.slice (some ⟨g, 0, none⟩) ((L v).length + 1) c) hmb3
  have hgne : g ≠ mb := by
    intro he
    subst he
    obtain ⟨cur, fz, ht⟩ := (own_tag hown3 rfl).1
    rw [hmb3, hmb2] at ht
    cases ht
  refine ⟨W4, _, _, hst, hg4, hsz4, ⟨h.mbase, hown4, h.fun_.put keys_vec hv _, ?_, ?_, ?_⟩⟩
  · intro z
    by_cases hz : z = v
    · subst hz
      refine ⟨fun hh => by simp at hh, fun u hu => ?_⟩
      simp only [if_true, Option.some.injEq] at hu
      subst hu
      refine ⟨by simp, ?_⟩
      simp only [if_true, List.length_append, List.length_cons, List.length_nil]
      exact own_keepNe hg4 hown3 (fun b hb hv' => by cases hb; cases hv'; exact hgne rfl)
    · have hz' : ¬ v = z := fun e => hz e.symm
      simp only [if_neg hz, if_neg hz', List.append_nil]
      refine ⟨(h.rows z).1, fun u hu => ?_⟩
      obtain ⟨h1, h2⟩ := (h.rows z).2 u hu
      refine ⟨h1, ?_⟩
      have h3 := own_map h.map_ hg2 h2
      have h4 : W3.ownsRow base 88 2 u (L z).length ((L z).flatMap endCells) := own_keepNe hg3 h3 (fun b hb hv' => by
        rcases hf0 with ⟨_, rfl⟩ | hf
        · cases hb
        · exact h.rapart z v u v0 hz hu hf (by rw [hv', hb]))
      exact own_keepNe hg4 h4 (fun b hb hv' => by
        cases hb
        obtain ⟨cur, fz, ht⟩ := (own_tag h3 hv').1
        rw [hmb2] at ht
        cases ht)
  · have hnew : ∀ z u, z ≠ v → f z = some u → u.ownBlock ≠ some g := by
      intro z u hz hu he
      rcases hat with hat | hat
      · rcases hf0 with ⟨_, rfl⟩ | hf
        · cases hat
        · exact h.rapart z v u v0 hz hu hf (by rw [he, hat])
      · have := (own_tag ((h.rows z).2 u hu).2 he).1.lt
        rw [hat, hsz2] at this
        exact Nat.lt_irrefl _ this
    intro z z' u u' hzz hu hu'
    by_cases hz : z = v
    · have hz' : ¬ z' = v := fun e => hzz (hz.trans e.symm)
      simp only [if_pos hz, Option.some.injEq] at hu
      simp only [if_neg hz'] at hu'
      subst hu
      exact fun e => hnew z' u' hz' hu' e.symm
    · simp only [if_neg hz] at hu
      by_cases hz' : z' = v
      · simp only [if_pos hz', Option.some.injEq] at hu'
        subst hu'
        exact hnew z u hz hu
      · simp only [if_neg hz'] at hu'
        exact h.rapart z z' u u' hzz hu hu'
  · intro z u hu
    by_cases hz : z = v
    · rw [hz]; exact hv
    · simp only [if_neg hz] at hu
      exact h.wfk z u hu
/-- The passages and the map of ends. -/
structure Rg (base : Nat) (w : World) (ps : List PassV) (used : Nat → Bool) (oV : Value) (mb n : Nat) (D : DataW Value) (f : V → Option Value) : Prop where
  opens : w.ownsRow base 83 1 oV ps.length (ps.map passPtr)
  each : ∀ (i : Nat) (h : i < ps.length), PassIn base w ps[i] (used i)
  apart : (ps.map (·.g)).Nodup
  mr : MapR base w mb n D f (atL (passL ps))
/-- What is gathered stays, while rows of other types are written. -/
theorem Rg.keep {w w' : World} {row : Option Nat} {T : TypeId} {base : Nat} {ps : List PassV} {used : Nat → Bool} {oV : Value} {mb n : Nat} {D : DataW Value} {f : V → Option Value} (h : Rg base w ps used oV mb n D f) (hg : w.grownBy w' row) (hr : RowT w base T row)
    (h1 : T ≠ 53) (h2 : T ≠ 86) (h3 : T ≠ 83) (h4 : T ≠ 88) : Rg base w' ps used oV mb n D f where
  opens := own_keep hg hr.weak h3 h.opens
  each := fun i hi => (h.each i hi).keep hg hr.weak h1 h2
  apart := h.apart
  mr := h.mr.keep hg hr h4
theorem Rg.alloc {w : World} {base : Nat} {ps : List PassV} {used : Nat → Bool} {oV : Value} {mb n : Nat} {D : DataW Value} {f : V → Option Value} (h : Rg base w ps used oV mb n D f) (o : Obj) : Rg base (w.alloc o) ps used oV mb n D f :=
  h.keep (T := 3) (grown_none o) (RowT.none _ _ _) (by decide) (by decide) (by decide) (by decide)
theorem Rg.keepW {w w' : World} {row : Option Nat} {T : TypeId} {base : Nat} {ps : List PassV} {used : Nat → Bool} {oV : Value} {mb n : Nat} {D : DataW Value} {f : V → Option Value} (h : Rg base w ps used oV mb n D f) (hg : w.grownBy w' row) (hr : RowW w base T row)
    (h1 : T ≠ 53) (h2 : T ≠ 86) (h3 : T ≠ 83) (h4 : T ≠ 88) (hmb : some mb ≠ row) : Rg base w' ps used oV mb n D f where
  opens := own_keep hg hr h3 h.opens
  each := fun i hi => (h.each i hi).keep hg hr h1 h2
  apart := h.apart
  mr := h.mr.keepW hg hr h4 hmb
theorem iter_row {w : World} {P : Program} {k : TypeId} {R : Value → Option (DataW Value × List MemPlace)} {b r n base cnt : Nat} {D : DataW Value} {left : Lit → Bool} (h : w.ranges P k R b r n D left cnt) (hb : base ≤ r) (T : TypeId) : RowW w base T (some r) := fun g hg => by
  cases hg
  refine ⟨fun T' ht => ?_, hb⟩
  obtain ⟨es, cl, since, seen, c0, _, _, _, _, h5, _⟩ := h
  obtain ⟨c, f, ht⟩ := ht
  rw [h5] at ht
  cases ht
theorem twice_keys {ps : List Pass} : twice ps = true ↔ ∀ v, atL ps v ≠ [] → (atL ps v).length = 2 := by
  have hmem : ∀ (ps : List Pass) (i : Nat) (v : V), atFrom ps i v ≠ [] ↔ ∃ p ∈ ps, p.e0 = v ∨ p.e1 = v := by
    intro ps
    induction ps with
    | nil => intro i v; simp [atFrom]
    | cons q r ih =>
      intro i v
      unfold atFrom
      by_cases h0 : q.e0 = v
      · simp [h0]
      · by_cases h1 : q.e1 = v
        · simp [h0, h1]
        · have := ih (i + 1) v
          simp only [if_neg h0, if_neg h1, List.nil_append]
          rw [this]
          simp [h0, h1]
  unfold twice
  rw [List.all_eq_true]
  constructor
  · intro h v hv
    obtain ⟨p, hp, he⟩ := (hmem ps 0 v).1 hv
    have := h p hp
    rw [Bool.and_eq_true, decide_eq_true_eq, decide_eq_true_eq] at this
    rcases he with rfl | rfl
    · exact this.1
    · exact this.2
  · intro h p hp
    rw [Bool.and_eq_true, decide_eq_true_eq, decide_eq_true_eq]
    exact ⟨h _ ((hmem ps 0 _).2 ⟨p, hp, .inl rfl⟩), h _ ((hmem ps 0 _).2 ⟨p, hp, .inr rfl⟩)⟩
theorem grown_below {w w' : World} (hb : Below w.heap.size w w') : w.grownBy w' none := ⟨hb.os, hb.tape, hb.output, hb.size, fun k hk _ => hb.block k hk⟩
theorem Rg.below {w w' : World} {base : Nat} {ps : List PassV} {used : Nat → Bool} {oV : Value} {mb n : Nat} {D : DataW Value} {f : V → Option Value} (h : Rg base w ps used oV mb n D f) (hb : Below w.heap.size w w') : Rg base w' ps used oV mb n D f :=
  h.keep (T := 3) (grown_below hb) (RowT.none _ _ _) (by decide) (by decide) (by decide) (by decide)
/-- An item as it lies in memory. -/
structure ItemV where
  it : Itm
  A : Option Addr
  k : Nat
def closedVal (x : ItemV) : Value := match x.it with | .ring l => .slice x.A l.length x.k | .chain _ => .slice none 0 0
def firstVal (x : ItemV) : Value := match x.it with | .ring _ => .int .i64 (-1) | .chain n => .int .i64 (n : Int)
def itemPts (x : ItemV) : List V := match x.it with | .ring l => l | .chain _ => []
def itemL (l : List ItemV) : List Itm := l.map ItemV.it
structure Its (base : Nat) (w : World) (its : List ItemV) (cV fV : Value) : Prop where
  crow : w.ownsRow base 25 1 cV its.length (its.map closedVal)
  frow : w.ownsRow base 3 1 fV its.length (its.map firstVal)
  pts : ∀ x ∈ its, PtAt base w x.A (itemPts x)
  small : ∀ x ∈ its, (itemPts x).length ≤ 1000000
theorem Its.keep {w w' : World} {row : Option Nat} {T : TypeId} {base : Nat} {its : List ItemV} {cV fV : Value} (h : Its base w its cV fV) (hg : w.grownBy w' row) (hr : RowW w base T row) (h1 : T ≠ 53) (h2 : T ≠ 25) (h3 : T ≠ 3) : Its base w' its cV fV :=
  ⟨own_keep hg hr h2 h.crow, own_keep hg hr h3 h.frow, fun x hx => (h.pts x hx).keep hg hr h1, h.small⟩
theorem Its.alloc {w : World} {base : Nat} {its : List ItemV} {cV fV : Value} (h : Its base w its cV fV) (o : Obj) : Its base (w.alloc o) its cV fV := h.keep (T := 4) (grown_none o) (RowW.none _ _ _) (by decide) (by decide) (by decide)
theorem Its.below {w w' : World} {base : Nat} {its : List ItemV} {cV fV : Value} (h : Its base w its cV fV) (hb : Below w.heap.size w w') : Its base w' its cV fV := h.keep (T := 4) (grown_below hb) (RowW.none _ _ _) (by decide) (by decide) (by decide)
theorem RowW.map {w : World} {base mb n : Nat} {D : DataW Value} (hb : base ≤ mb) (h : w.ownsMap Tryz.prog 53 anyV mb n D) (T : TypeId) : RowW w base T (some mb) := fun g hg => by
  cases hg
  exact ⟨fun T' ht => absurd rfl (map_block h ht), hb⟩
/-- An item put behind the others. -/
theorem Its.push {w w4 w5 : World} {base : Nat} {its : List ItemV} {cV fV cV' fV' : Value} (h : Its base w its cV fV) (x : ItemV) (o1 o2 : Obj) (hg4 : (w.alloc o1).grownBy w4 cV.ownBlock)
    (h4 : w4.ownsRow base 25 1 cV' (its.length + 1) (its.map closedVal ++ [closedVal x])) (hg5 : (w4.alloc o2).grownBy w5 fV.ownBlock) (h5 : w5.ownsRow base 3 1 fV' (its.length + 1) (its.map firstVal ++ [firstVal x]))
    (hx : PtAt base w x.A (itemPts x)) (hs : (itemPts x).length ≤ 1000000) : Its base w5 (its ++ [x]) cV' fV' := by
  have r4 : RowW (w.alloc o1) base 25 cV.ownBlock := (RowT.own (h.alloc o1).crow).weak
  have hf4 := own_keep hg4 r4 (by decide) (h.alloc o1).frow
  have hf4' := own_keep (T := 4) (grown_none o2) (RowW.none w4 base _) (by decide) hf4
  have r5 : RowW (w4.alloc o2) base 3 fV.ownBlock := (RowT.own hf4').weak
  have hk : ∀ A l, PtAt base w A l → PtAt base w5 A l := fun A l hp => (((hp.alloc o1).keep hg4 r4 (by decide)).alloc o2).keep hg5 r5 (by decide)
  refine ⟨?_, ?_, ?_, ?_⟩
  · rw [List.length_append, List.map_append]
    exact own_keep hg5 r5 (by decide) (own_keep (T := 4) (grown_none o2) (RowW.none w4 base _) (by decide) h4)
  · rw [List.length_append, List.map_append]
    exact h5
  · intro y hy
    rcases List.mem_append.1 hy with hy | hy
    · exact hk _ _ (h.pts y hy)
    · simp only [List.mem_cons, List.not_mem_nil, or_false] at hy
      subst hy
      exact hk _ _ hx
  · intro y hy
    rcases List.mem_append.1 hy with hy | hy
    · exact h.small y hy
    · simp only [List.mem_cons, List.not_mem_nil, or_false] at hy
      subst hy
      exact hs
theorem Its.frow2 {w w4 : World} {base : Nat} {its : List ItemV} {cV fV : Value} (h : Its base w its cV fV) (o1 o2 : Obj) (hg4 : (w.alloc o1).grownBy w4 cV.ownBlock) : (w4.alloc o2).ownsRow base 3 1 fV its.length (its.map firstVal) :=
  own_keep (T := 4) (grown_none o2) (RowW.none w4 base _) (by decide) (own_keep hg4 (RowT.own (h.alloc o1).crow).weak (by decide) (h.alloc o1).frow)
/-- What is gathered stays while an item is put behind the others. -/
theorem Rg.push {w w4 w5 : World} {base : Nat} {its : List ItemV} {cV fV : Value} {ps : List PassV} {used : Nat → Bool} {oV : Value} {mb n : Nat} {D : DataW Value} {f : V → Option Value} (hr : Rg base w ps used oV mb n D f) (h : Its base w its cV fV) (o1 o2 : Obj) (hg4 : (w.alloc o1).grownBy w4 cV.ownBlock) (hg5 : (w4.alloc o2).grownBy w5 fV.ownBlock) : Rg base w5 ps used oV mb n D f :=
  (((hr.alloc o1).keep hg4 (RowT.own (h.alloc o1).crow) (by decide) (by decide) (by decide) (by decide)).alloc o2).keep hg5 (RowT.own (h.frow2 o1 o2 hg4)) (by decide) (by decide) (by decide) (by decide)
/-- The ends as they stand when j of those of one entity more are in the map. -/
def Lup (ps : List Pass) (p : Pass) (j : Nat) (v : V) : List (Nat × Nat) := atL ps v ++ ((if 1 ≤ j ∧ p.e0 = v then [(ps.length, 0)] else []) ++ (if 2 ≤ j ∧ p.e1 = v then [(ps.length, 1)] else []))
theorem Lup_zero (ps : List Pass) (p : Pass) : Lup ps p 0 = atL ps := by
  funext v
  simp [Lup]
theorem Lup_one (ps : List Pass) (p : Pass) : (fun z => Lup ps p 0 z ++ (if p.e0 = z then [(ps.length, 0)] else [])) = Lup ps p 1 := by
  funext v
  simp [Lup]
theorem Lup_two (ps : List Pass) (p : Pass) : (fun z => Lup ps p 1 z ++ (if p.e1 = z then [(ps.length, 1)] else [])) = Lup ps p 2 := by
  funext v
  simp [Lup]
theorem Lup_all (ps : List Pass) (p : Pass) : Lup ps p 2 = atL (ps ++ [p]) := by
  funext v
  rw [atL_snoc]
  simp [Lup]
/-- An open entity under way: its passage made, j of its ends in the map. -/
structure Mid (base : Nat) (w : World) (ps : List PassV) (oV : Value) (mb n : Nat) (D : DataW Value) (f : V → Option Value) (its : List ItemV) (cV fV : Value) (q : PassV) (j : Nat) : Prop where
  opens : w.ownsRow base 83 1 oV ps.length (ps.map passPtr)
  each : ∀ (i : Nat) (h : i < ps.length), PassIn base w ps[i] false
  apart : ((ps ++ [q]).map (·.g)).Nodup
  mr : MapR base w mb n D f (Lup (passL ps) q.p j)
  its_ : Its base w its cV fV
  new_ : PassIn base w q false
theorem Mid.start {w w' : World} {base : Nat} {ps : List PassV} {oV : Value} {mb n : Nat} {D : DataW Value} {f : V → Option Value} {its : List ItemV} {cV fV : Value} (h : Rg base w ps (fun _ => false) oV mb n D f) (hi : Its base w its cV fV) (q : PassV) (hq : PassIn base w' q false) (hg : w.grownBy w' none) (hqg : w.heap.size ≤ q.g) : Mid base w' ps oV mb n D f its cV fV q 0 where
  opens := own_keep (T := 3) hg (RowW.none _ 0 _) (by decide) h.opens
  each := fun i hi => (h.each i hi).keep (T := 3) hg (RowW.none _ _ _) (by decide) (by decide)
  apart := by
    rw [List.map_append, List.nodup_append]
    refine ⟨h.apart, by simp, ?_⟩
    intro a ha b hb e
    obtain ⟨x, hx, rfl⟩ := List.mem_map.1 ha
    simp only [List.map_cons, List.map_nil, List.mem_cons, List.not_mem_nil, or_false] at hb
    obtain ⟨i, hi, rfl⟩ := List.getElem_of_mem hx
    have := (Array.getElem?_eq_some_iff.1 (h.each i hi).cells).1
    omega
  mr := by rw [Lup_zero]; exact h.mr.keep (T := 3) hg (RowT.none _ _ _) (by decide)
  its_ := hi.keep (T := 4) hg (RowW.none _ _ _) (by decide) (by decide) (by decide)
  new_ := hq
theorem Mid.alloc {w : World} {base : Nat} {ps : List PassV} {oV : Value} {mb n : Nat} {D : DataW Value} {f : V → Option Value} {its : List ItemV} {cV fV : Value} {q : PassV} {j : Nat} (h : Mid base w ps oV mb n D f its cV fV q j) (o : Obj) : Mid base (w.alloc o) ps oV mb n D f its cV fV q j where
  opens := own_keep (T := 3) (grown_none o) (RowW.none _ 0 _) (by decide) h.opens
  each := fun i hi => (h.each i hi).keep (T := 3) (grown_none o) (RowW.none _ _ _) (by decide) (by decide)
  apart := h.apart
  mr := h.mr.alloc o
  its_ := h.its_.alloc o
  new_ := h.new_.keep (T := 3) (grown_none o) (RowW.none _ _ _) (by decide) (by decide)
/-- One end more in the map. -/
theorem Mid.step {w w2 w3 w4 : World} {base : Nat} {ps : List PassV} {oV : Value} {mb n n' : Nat} {D D' : DataW Value} {f f' : V → Option Value} {its : List ItemV} {cV fV : Value} {q : PassV} {j j' : Nat} {row : Option Nat}
    (h : Mid base w ps oV mb n D f its cV fV q j) (hg2 : w.grownBy w2 (some mb)) (hr3 : RowW w2 base 88 row) (hg3 : w2.grownBy w3 row) (hr4 : ∀ T, RowW w3 base T (some mb)) (hg4 : w3.grownBy w4 (some mb))
    (hm : MapR base w4 mb n' D' f' (Lup (passL ps) q.p j')) : Mid base w4 ps oV mb n' D' f' its cV fV q j' where
  opens := own_keep hg4 (hr4 3) (by decide) (own_keep hg3 hr3 (by decide) (own_keep (T := 3) hg2 (RowW.map h.mr.mbase h.mr.map_ _) (by decide) h.opens))
  each := fun i hi => (((h.each i hi).keep (T := 3) hg2 (RowW.map h.mr.mbase h.mr.map_ _) (by decide) (by decide)).keep hg3 hr3 (by decide) (by decide)).keep hg4 (hr4 3) (by decide) (by decide)
  apart := h.apart
  mr := hm
  its_ := ((h.its_.keep (T := 4) hg2 (RowW.map h.mr.mbase h.mr.map_ _) (by decide) (by decide) (by decide)).keep hg3 hr3 (by decide) (by decide) (by decide)).keep hg4 (hr4 4) (by decide) (by decide) (by decide)
  new_ := ((h.new_.keep (T := 3) hg2 (RowW.map h.mr.mbase h.mr.map_ _) (by decide) (by decide)).keep hg3 hr3 (by decide) (by decide)).keep hg4 (hr4 3) (by decide) (by decide)
/-- The passage is put behind the others. -/
theorem Mid.done {w w4 w5 w8 : World} {base : Nat} {ps : List PassV} {oV oV' : Value} {mb n : Nat} {D : DataW Value} {f : V → Option Value} {its : List ItemV} {cV fV cV' fV' : Value} {q : PassV} (h : Mid base w ps oV mb n D f its cV fV q 2) (o1 o2 o3 : Obj)
    (hg4 : (w.alloc o1).grownBy w4 cV.ownBlock) (hg5 : (w4.alloc o2).grownBy w5 fV.ownBlock) (hit : Its base w5 (its ++ [⟨.chain ps.length, none, 0⟩]) cV' fV') (hg8 : (w5.alloc o3).grownBy w8 oV.ownBlock)
    (h8 : w8.ownsRow base 83 1 oV' (ps.length + 1) (ps.map passPtr ++ [passPtr q])) : Rg base w8 (ps ++ [q]) (fun _ => false) oV' mb n D f ∧ Its base w8 (its ++ [⟨.chain ps.length, none, 0⟩]) cV' fV' := by
  have r4 := RowT.own (h.its_.alloc o1).crow
  have r5 := RowT.own (h.its_.frow2 o1 o2 hg4)
  have ho5 : (w5.alloc o3).ownsRow base 83 1 oV ps.length (ps.map passPtr) := own_keep (T := 3) (grown_none o3) (RowW.none _ 0 _) (by decide) (own_keep hg5 r5.weak (by decide) (own_keep (T := 3) (grown_none o2) (RowW.none _ 0 _) (by decide) (own_keep hg4 r4.weak (by decide) (h.alloc o1).opens)))
  have r8 := RowT.own ho5
  have hp : ∀ x u, PassIn base w x u → PassIn base w8 x u := fun x u hx => ((((((hx.keep (T := 3) (grown_none o1) (RowW.none _ _ _) (by decide) (by decide)).keep hg4 r4.weak (by decide) (by decide)).keep (T := 3) (grown_none o2) (RowW.none _ _ _) (by decide) (by decide)).keep hg5 r5.weak (by decide) (by decide)).keep (T := 3) (grown_none o3) (RowW.none _ _ _) (by decide) (by decide)).keep hg8 r8.weak (by decide) (by decide))
  constructor
  · refine ⟨?_, ?_, h.apart, ?_⟩
    · rw [List.length_append, List.map_append]
      exact h8
    · intro i hi
      by_cases hlt : i < ps.length
      · rw [List.getElem_append_left hlt]
        exact hp _ _ (h.each i hlt)
      · have he : i = ps.length := by simp at hi; omega
        subst he
        rw [List.getElem_append_right (Nat.le_refl _)]
        simp only [Nat.sub_self, List.getElem_cons_zero]
        exact hp _ _ h.new_
    · have hl : atL (passL (ps ++ [q])) = Lup (passL ps) q.p 2 := by
        rw [Lup_all]
        unfold passL
        rw [List.map_append]
        rfl
      rw [hl]
      exact (((((h.mr.alloc o1).keep hg4 r4 (by decide)).alloc o2).keep hg5 r5 (by decide)).alloc o3).keep hg8 r8 (by decide)
  · exact (hit.alloc o3).keep hg8 r8.weak (by decide) (by decide) (by decide)
theorem Mid.orow {w w4 w5 : World} {base : Nat} {ps : List PassV} {oV : Value} {mb n : Nat} {D : DataW Value} {f : V → Option Value} {its : List ItemV} {cV fV : Value} {q : PassV} (h : Mid base w ps oV mb n D f its cV fV q 2) (o1 o2 o3 : Obj)
    (hg4 : (w.alloc o1).grownBy w4 cV.ownBlock) (hg5 : (w4.alloc o2).grownBy w5 fV.ownBlock) : (w5.alloc o3).ownsRow base 83 1 oV ps.length (ps.map passPtr) :=
  own_keep (T := 3) (grown_none o3) (RowW.none _ 0 _) (by decide) (own_keep hg5 (RowT.own (h.its_.frow2 o1 o2 hg4)).weak (by decide) (own_keep (T := 3) (grown_none o2) (RowW.none _ 0 _) (by decide) (own_keep hg4 (RowT.own (h.its_.alloc o1).crow).weak (by decide) (h.alloc o1).opens)))
end Go.Proofs.YtnmmhcchpcbeeaaGreat.GeW
