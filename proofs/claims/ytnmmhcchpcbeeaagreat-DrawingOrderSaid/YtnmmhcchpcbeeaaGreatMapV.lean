/- Maps that the call made, whose values are carried as they are; keyed by points. Conditions: as stated. -/
import Derived.Test.YtnmmhcchpcbeeaaGreatGeV
import Derived.Maps.OwnSet
import Derived.Maps.RangeWalk
import Derived.Maps.Ext
import Derived.WideKeyEntry
import Derived.DeepKeys4
namespace Go.Proofs.YtnmmhcchpcbeeaaGreat.GeW
open Go Go.RowKit Go.Proofs.YtnmmhcchpcbeeaaGreat.Mem Go.Proofs.YtnmmhcchpcbeeaaGreat.Ge
open Go.WideMaps (KeyLaw)
open Go.ChangeMaps (setBlock heap_setBlock_same heap_setBlock_other)
open Go.Maps (Keyed IsMap)
/-- An element of a map as it is. -/
def anyV : Value → Option (DataW Value × List MemPlace) := fun v => some (.held v, [])
section
variable {P : Program} {t k e : TypeId}
theorem map_entry {w : World} {b n : Nat} {D : DataW Value} (h : w.ownsMap P k anyV b n D) (KL : KeyLaw P k) (ht : P.underlying t = some (.map k e)) {z : Value}
    (hz : ∀ u : World, (zeroValue e).run P u = .ok z u) (hn : n < maxLen) {key : Value} {kl : Lit} (hkey : keyOf P k key = some kl) :
    ∃ (v0 : Value) (st : Nat) (w2 : World), (Instr.mapEntry t (.map (some b)) key).run P w = .ok (.tuple #[v0, goInt st]) w2 ∧ D.atKey kl (.held z) = .held v0 ∧ w.grownBy w2 (some b) ∧ w2.heap.size = w.heap.size ∧ (∃ es cl, w2.heap[b]? = some (.map es cl)) ∧
      ∀ (w3 : World) (val : Value), w3.heap[b]? = w2.heap[b]? → ∃ w4, (Instr.entryStore t (.map (some b)) (goInt st) val).run P w3 = .ok () w4 ∧ w4.ownsMap P k anyV b (n + 1) (D.put kl (.held val)) ∧ w3.grownBy w4 (some b) ∧ w4.heap.size = w3.heap.size := by
  have K : Keyed P k := Keyed.of_law KL
  have h' := h
  obtain ⟨es, clock, hb, F, hs, hD⟩ := h
  obtain ⟨v0, st, es1, clock1, hE, hv0, hS⟩ := WideElems.entry_then_store KL ht hz hb F hkey
  have hlt : b < w.heap.size := (Array.getElem?_eq_some_iff.1 hb).1
  have hgrow : ∀ (w : World) (es : Array MapEntry) (clk : Nat) (o : Obj), w.heap[b]? = some (.map es clk) → w.grownBy (setBlock w b o) (some b) := fun w es clk o hb => ⟨rfl, rfl, rfl, by simp [setBlock], fun i _ hi => heap_setBlock_other hb _ (fun e => hi (by rw [e]))⟩
  have hsize : ∀ (w : World) (o : Obj), (setBlock w b o).heap.size = w.heap.size := fun w o => by simp [setBlock]
  refine ⟨v0, st, setBlock w b (.map es1 clock1), hE, ?_, hgrow _ _ _ _ hb, hsize _ _, ⟨_, _, heap_setBlock_same hb _⟩, ?_⟩
  · subst hD
    rcases Maps.fit_look (R := anyV) false K ht (hz w) hb F hkey with ⟨_, hno, hat⟩ | ⟨e0, y, hm, hk0, _, hR, hat, _⟩
    · rcases hv0 with ⟨e0, hm, hk0, _⟩ | ⟨_, rfl⟩
      · exact absurd hk0 (hno e0 hm)
      · exact hat _
    · have hnd : (es.toList.map (·.key)).Nodup := F.stamped.2.2
      rcases hv0 with ⟨e1, hm1, hk1, rfl⟩ | ⟨hno, _⟩
      · have he : e1 = e0 := by
          obtain ⟨i, hi, rfl⟩ := List.getElem_of_mem hm
          obtain ⟨j, hj, rfl⟩ := List.getElem_of_mem hm1
          have : j = i := by
            have h1 := (List.getElem_inj (h₀ := by simpa using hj) (h₁ := by simpa using hi) hnd).1 (by simp only [List.getElem_map]; rw [hk1, hk0])
            exact h1
          subst this
          rfl
        subst he
        rw [hat]
        unfold anyV at hR
        cases hR
        rfl
      · exact absurd hk0 (hno e0 hm)
  · intro w3 val hw3
    rw [heap_setBlock_same hb] at hw3
    obtain ⟨es', clock', hst, hup⟩ := hS w3 val hw3
    obtain ⟨w', hrun', hown', _⟩ := h'.update K ht hn hkey (show anyV val = some (.held val, []) from rfl)
    rw [hup] at hrun'
    have hw' := (Result.ok.inj hrun').2
    subst hw'
    refine ⟨_, hst, ?_, hgrow _ _ _ _ hw3, hsize _ _⟩
    obtain ⟨es2, clock2, hb2, F2, hs2, hD2⟩ := hown'
    rw [heap_setBlock_same hb] at hb2
    exact ⟨es2, clock2, by rw [heap_setBlock_same hw3]; exact hb2, F2, hs2, hD2⟩
theorem map_look {w : World} {b n : Nat} {D : DataW Value} (h : w.ownsMap P k anyV b n D) (KL : KeyLaw P k) (ht : P.underlying t = some (.map k e)) {z : Value}
    (hz : (zeroValue e).run P w = .ok z w) {key : Value} {kl : Lit} (hkey : keyOf P k key = some kl) :
    ∃ v, (Instr.lookup t (.map (some b)) key false).run P w = .ok v w ∧ D.atKey kl (.held z) = .held v := by
  obtain ⟨v, ps, hrun, hR⟩ := h.lookup (Keyed.of_law KL) ht hz (show anyV z = some (.held z, []) from rfl) hkey
  unfold anyV at hR
  exact ⟨v, hrun, (Prod.mk.inj (Option.some.inj hR)).1.symm⟩
variable {K : TypeId} {α : Type} {mk : α → Value} {kt : α → Lit} {wf : α → Prop}
/-- How the keys of a type read. -/
structure KeysOf (P : Program) (K : TypeId) {α : Type} (mk : α → Value) (kt : α → Lit) (wf : α → Prop) : Prop where
  made : ∀ a, wf a → keyOf P K (mk a) = some (kt a)
  inv : ∀ {v : Value} {l : Lit}, keyOf P K v = some l → ∃ a, wf a ∧ v = mk a ∧ l = kt a
  inj : ∀ {a b : α}, wf a → wf b → kt a = kt b → a = b
  key : ∀ {a : α}, wf a → WideAt.IsKeyLit (kt a)
/-- The map holds the values of a function, where it has one. -/
def MapF (kt : α → Lit) (wf : α → Prop) (D : DataW Value) (f : α → Option Value) : Prop :=
  IsMap D ∧ (∀ a, wf a → (Maps.has D (kt a) = true ↔ (f a).isSome = true)) ∧ ∀ a zd, wf a → D.atKey (kt a) zd = match f a with | some v => .held v | none => zd
theorem MapF.start : MapF kt wf (.map []) (fun _ => none) := ⟨Maps.isMap_empty, fun a _ => by simp [Maps.has], fun a zd _ => rfl⟩
variable [DecidableEq α]
theorem MapF.put (KS : KeysOf P K mk kt wf) {D : DataW Value} {f : α → Option Value} (h : MapF kt wf D f) {a : α} (ha : wf a) (v : Value) : MapF kt wf (D.put (kt a) (.held v)) (fun b => if b = a then some v else f b) := by
  obtain ⟨h1, h2, h3⟩ := h
  refine ⟨h1.put _ _, fun b hb => ?_, fun b zd hb => ?_⟩
  · by_cases e : b = a
    · subst e
      rw [Maps.has_put_same h1 (KS.key ha)]
      simp
    · rw [Maps.has_put_other (fun e2 => e (KS.inj hb ha e2)), h2 b hb]
      simp [e]
  · by_cases e : b = a
    · subst e
      rw [Maps.atKey_put_same h1 (KS.key ha)]
      simp
    · rw [Maps.atKey_put_other (fun e2 => e (KS.inj hb ha e2)), h3 b zd hb]
      simp [e]
end
/-! ### Points as keys -/
theorem laidOut : laidOutB Tryz.prog = true := by kernel_rfl
theorem row_vec : (53 : TypeId) < Tryz.prog.types.size := of_decide_eq_true (by kernel_rfl)
theorem wide_vec : (match Tryz.prog.underlying 53 with | some (.array _ _) | some (.struct _) => true | _ => false) = true := by kernel_rfl
set_option maxRecDepth 100000 in
theorem law_vec : KeyLaw Tryz.prog 53 := deep_law_laid laidOut (m := 2) (by omega) row_vec (by kernel_rfl) wide_vec
def WfV (v : V) : Prop := (Lit.int .i64 v.1).wf = true ∧ (Lit.int .i64 v.2).wf = true
def vecV (v : V) : Value := .agg #[.int .i64 v.1, .int .i64 v.2]
def vLit (v : V) : Lit := .string (keyBytes [.int .i64 v.1, .int .i64 v.2])
theorem keyOf_vec (v : Value) : keyOf Tryz.prog 53 v = if v.formed Tryz.prog 53 then (Tryz.prog.keyLits (Tryz.prog.types.size + 1) 53 v.cells.toList).map fun ls => .string (keyBytes ls) else none := by
  have hk : Tryz.prog.keyType 53 = true := by kernel_rfl
  unfold keyOf
  rw [Tryz.underlying53]
  simp only [hk, Bool.true_and]
theorem nat_succ {n : Nat} (h : 0 < n) : ∃ m, n = m + 1 := ⟨n - 1, by omega⟩
theorem pos_types : 0 < Tryz.prog.types.size := of_decide_eq_true (by kernel_rfl)
theorem size_types : ∃ n, Tryz.prog.types.size = n + 1 := nat_succ pos_types
theorem lits_vec (c0 c1 : Value) : Tryz.prog.keyLits (Tryz.prog.types.size + 1) 53 [c0, c1] =
    (Tryz.prog.keyLits Tryz.prog.types.size 3 [c0]).bind fun a => (Tryz.prog.keyLits Tryz.prog.types.size 3 [c1]).bind fun b => some (a ++ b) := by
  have h1 : Tryz.prog.cellsOf 53 = 2 := by kernel_rfl
  have h2 : Tryz.prog.cellsOf 3 = 1 := by kernel_rfl
  conv => lhs; unfold Program.keyLits
  rw [Tryz.underlying53]
  simp [h1, h2]
  generalize Tryz.prog.keyLits _ 3 [c0] = a0
  generalize Tryz.prog.keyLits _ 3 [c1] = a1
  cases a0 <;> cases a1 <;> simp
theorem lits_int (c : Value) (n : Nat) : Tryz.prog.keyLits (n + 1) 3 [c] = match c with | .int q m => if q = .i64 ∧ (Lit.int .i64 m).wf = true then some [.int .i64 m] else none | _ => none := by
  unfold Program.keyLits
  rw [Tryz.underlying3]
  cases c <;> rfl
theorem formed_vec (cs : Array Value) : (Value.agg cs).formed Tryz.prog 53 = (cs.size == 2) := by
  have h1 : Tryz.prog.cellsOf 53 = 2 := by kernel_rfl
  simp [Value.formed, Tryz.underlying53, h1]
theorem vec_made (v : V) (h : WfV v) : keyOf Tryz.prog 53 (vecV v) = some (vLit v) := by
  obtain ⟨n, hn⟩ := size_types
  obtain ⟨h1, h2⟩ := h
  rw [keyOf_vec]
  unfold vecV vLit
  rw [formed_vec]
  simp only [Value.cells]
  rw [if_pos (by rfl)]
  show ((Tryz.prog.keyLits (Tryz.prog.types.size + 1) 53 [.int .i64 v.1, .int .i64 v.2]).map fun ls => Lit.string (keyBytes ls)) = _
  rw [lits_vec, hn, lits_int, lits_int]
  simp only [h1, h2, and_self, if_true]
  rfl
set_option maxRecDepth 100000 in
theorem vec_inv {v : Value} {l : Lit} (h : keyOf Tryz.prog 53 v = some l) : ∃ p, WfV p ∧ v = vecV p ∧ l = vLit p := by
  obtain ⟨n, hn⟩ := size_types
  have hf : v.formed Tryz.prog 53 = true := by
    rw [keyOf_vec] at h
    split at h
    · rename_i hf; exact hf
    · cases h
  obtain ⟨cs, rfl⟩ : ∃ cs, v = .agg cs := by
    cases v
    case agg cs => exact ⟨cs, rfl⟩
    all_goals (exfalso; revert hf; simp [Value.formed, Tryz.underlying53])
  rw [formed_vec] at hf
  obtain ⟨⟨c0, c1, rfl⟩⟩ : Nonempty (∃ c0 c1, cs = #[c0, c1]) := by
    obtain ⟨l⟩ := cs
    match l, hf with
    | [a, b], _ => exact ⟨a, b, rfl⟩
  rw [keyOf_vec, formed_vec, if_pos (by rfl)] at h
  have h' : ((Tryz.prog.keyLits (Tryz.prog.types.size + 1) 53 [c0, c1]).map fun ls => Lit.string (keyBytes ls)) = some l := h
  rw [lits_vec, hn, lits_int, lits_int] at h'
  cases c0 with
  | int q m =>
    cases c1 with
    | int q' m' =>
      simp only at h'
      by_cases a1 : q = .i64 ∧ (Lit.int .i64 m).wf = true
      · by_cases a2 : q' = .i64 ∧ (Lit.int .i64 m').wf = true
        · rw [if_pos a1, if_pos a2] at h'
          refine ⟨(m, m'), ⟨a1.2, a2.2⟩, ?_, ?_⟩
          · rw [a1.1, a2.1]; rfl
          · have := Option.some.inj h'
            exact this.symm
        · rw [if_pos a1, if_neg a2] at h'; cases h'
      · rw [if_neg a1] at h'; cases h'
    | _ => simp at h'
  | _ => simp at h'
theorem keys_vec : KeysOf Tryz.prog 53 vecV vLit WfV where
  made := vec_made
  inv := vec_inv
  inj := fun {a b} ha hb h => by
    have := law_vec.inj (vec_made a ha) (h ▸ vec_made b hb)
    unfold vecV at this
    simp only [Value.agg.injEq, Array.mk.injEq, List.cons.injEq, Value.int.injEq, true_and, and_true] at this
    exact Prod.ext this.1 this.2
  key := fun _ => trivial
end Go.Proofs.YtnmmhcchpcbeeaaGreat.GeW
