/- How the keys of the two maps read: a struct of a number and two texts; a text. Conditions: none. -/
import Derived.Test.YteldekkodhfkkaaGreatDoorOdW2
import Derived.Test.YteldekkodhfkkaaGreatDoorOdK
namespace Go.Proofs.YteldekkodhfkkaaGreatDoor.OdW
open Go Go.RowKit
open Go.WideMaps (KeyLaw)

theorem laidOut : laidOutB Tryz.prog = true := by kernel_rfl
theorem row_key : (92 : TypeId) < Tryz.prog.types.size := of_decide_eq_true (by kernel_rfl)
theorem wide_key : (match Tryz.prog.underlying 92 with | some (.array _ _) | some (.struct _) => true | _ => false) = true := by kernel_rfl
set_option maxRecDepth 100000 in
theorem law_key : KeyLaw Tryz.prog 92 := deep_law_laid laidOut (m := 2) (by omega) row_key (by kernel_rfl) wide_key
def WfK (k : Od.Ky) : Prop := (Lit.int .i64 k.d).wf = true ∧ k.o.length ≤ maxLen ∧ k.p.length ≤ maxLen
def kV (k : Od.Ky) : Value := .agg #[.int .i64 k.d, .string ⟨k.o.toArray⟩, .string ⟨k.p.toArray⟩]
def kLit (k : Od.Ky) : Lit := .string (keyBytes [.int .i64 k.d, .string k.o, .string k.p])
theorem keyOf_key (v : Value) : keyOf Tryz.prog 92 v = if v.formed Tryz.prog 92 then (Tryz.prog.keyLits (Tryz.prog.types.size + 1) 92 v.cells.toList).map fun ls => .string (keyBytes ls) else none := by
  have hk : Tryz.prog.keyType 92 = true := by kernel_rfl
  unfold keyOf
  rw [Tryz.underlying92]
  simp only [hk, Bool.true_and]
theorem nat_succ {n : Nat} (h : 0 < n) : ∃ m, n = m + 1 := ⟨n - 1, by omega⟩
theorem pos_types : 0 < Tryz.prog.types.size := of_decide_eq_true (by kernel_rfl)
theorem size_types : ∃ n, Tryz.prog.types.size = n + 1 := nat_succ pos_types
theorem lits_key (c0 c1 c2 : Value) : Tryz.prog.keyLits (Tryz.prog.types.size + 1) 92 [c0, c1, c2] =
    (Tryz.prog.keyLits Tryz.prog.types.size 3 [c0]).bind fun a => (Tryz.prog.keyLits Tryz.prog.types.size 9 [c1]).bind fun b => (Tryz.prog.keyLits Tryz.prog.types.size 9 [c2]).bind fun c => some (a ++ (b ++ c)) := by
  have h1 : Tryz.prog.cellsOf 92 = 3 := by kernel_rfl
  have h2 : Tryz.prog.cellsOf 3 = 1 := by kernel_rfl
  have h3 : Tryz.prog.cellsOf 9 = 1 := by kernel_rfl
  conv => lhs; unfold Program.keyLits
  rw [Tryz.underlying92]
  simp [h1, h2, h3]
  generalize Tryz.prog.keyLits _ 3 [c0] = a0
  generalize Tryz.prog.keyLits _ 9 [c1] = a1
  generalize Tryz.prog.keyLits _ 9 [c2] = a2
  cases a0 <;> cases a1 <;> cases a2 <;> simp
theorem lits_int (c : Value) (n : Nat) : Tryz.prog.keyLits (n + 1) 3 [c] = match c with | .int q m => if q = .i64 ∧ (Lit.int .i64 m).wf = true then some [.int .i64 m] else none | _ => none := by
  unfold Program.keyLits
  rw [Tryz.underlying3]
  cases c <;> rfl
theorem lits_text (c : Value) (n : Nat) : Tryz.prog.keyLits (n + 1) 9 [c] = match c with | .string s => if s.size ≤ maxLen then some [.string s.data.toList] else none | _ => none := by
  unfold Program.keyLits
  rw [Tryz.underlying9]
  cases c <;> rfl
theorem formed_key (cs : Array Value) : (Value.agg cs).formed Tryz.prog 92 = (cs.size == 3) := by
  have h1 : Tryz.prog.cellsOf 92 = 3 := by kernel_rfl
  simp [Value.formed, Tryz.underlying92, h1]
theorem key_made (k : Od.Ky) (h : WfK k) : keyOf Tryz.prog 92 (kV k) = some (kLit k) := by
  obtain ⟨n, hn⟩ := size_types
  obtain ⟨h1, h2, h3⟩ := h
  rw [keyOf_key]
  unfold kV kLit
  rw [formed_key]
  simp only [Value.cells]
  rw [if_pos (by rfl)]
  show ((Tryz.prog.keyLits (Tryz.prog.types.size + 1) 92 [.int .i64 k.d, .string ⟨k.o.toArray⟩, .string ⟨k.p.toArray⟩]).map fun ls => Lit.string (keyBytes ls)) = _
  rw [lits_key, hn, lits_int, lits_text, lits_text]
  simp only [text_size, h1, h2, h3, and_self, if_true]
  rfl
set_option maxRecDepth 100000 in
theorem key_inv {v : Value} {l : Lit} (h : keyOf Tryz.prog 92 v = some l) : ∃ k, WfK k ∧ v = kV k ∧ l = kLit k := by
  obtain ⟨n, hn⟩ := size_types
  have hf : v.formed Tryz.prog 92 = true := by
    rw [keyOf_key] at h
    split at h
    · rename_i hf; exact hf
    · cases h
  obtain ⟨cs, rfl⟩ : ∃ cs, v = .agg cs := by
    cases v
    case agg cs => exact ⟨cs, rfl⟩
    all_goals (exfalso; revert hf; simp [Value.formed, Tryz.underlying92])
  rw [formed_key] at hf
  obtain ⟨⟨c0, c1, c2, rfl⟩⟩ : Nonempty (∃ c0 c1 c2, cs = #[c0, c1, c2]) := by
    obtain ⟨l⟩ := cs
    match l, hf with
    | [a, b, c], _ => exact ⟨a, b, c, rfl⟩
  rw [keyOf_key, formed_key, if_pos (by rfl)] at h
  have h' : ((Tryz.prog.keyLits (Tryz.prog.types.size + 1) 92 [c0, c1, c2]).map fun ls => Lit.string (keyBytes ls)) = some l := h
  rw [lits_key, hn, lits_int, lits_text, lits_text] at h'
  cases c0 with
  | int q m =>
    cases c1 with
    | string s =>
      cases c2 with
      | string u =>
        simp only at h'
        by_cases a1 : q = .i64 ∧ (Lit.int .i64 m).wf = true
        · by_cases a2 : s.size ≤ maxLen
          · by_cases a3 : u.size ≤ maxLen
            · rw [if_pos a1, if_pos a2, if_pos a3] at h'
              refine ⟨⟨m, s.data.toList, u.data.toList⟩, ⟨a1.2, by simpa using a2, by simpa using a3⟩, ?_, ?_⟩
              · rw [a1.1]; rfl
              · have := Option.some.inj h'
                exact this.symm
            · rw [if_pos a1, if_pos a2, if_neg a3] at h'; cases h'
          · rw [if_pos a1, if_neg a2] at h'; cases h'
        · rw [if_neg a1] at h'; cases h'
      | _ => simp at h'
    | _ => simp at h'
  | _ => simp at h'
theorem keys_key : Keys Tryz.prog 92 kV kLit WfK where
  made := key_made
  inv := key_inv
  inj := fun {a b} ha hb h => by
    have := law_key.inj (key_made a ha) (h ▸ key_made b hb)
    unfold kV at this
    simp only [Value.agg.injEq, Array.mk.injEq, List.cons.injEq, Value.int.injEq, Value.string.injEq, ByteArray.mk.injEq, true_and, and_true] at this
    obtain ⟨e1, e2, e3⟩ := this
    cases a; cases b
    simp_all
  key := fun _ => trivial

def sV (p : List UInt8) : Value := .string ⟨p.toArray⟩
def sLit (p : List UInt8) : Lit := .string p
def WfS (p : List UInt8) : Prop := p.length ≤ maxLen
theorem keys_text : Keys Tryz.prog 9 sV sLit WfS where
  made := fun p hp => by
    unfold sV sLit
    rw [keyOf_string Tryz.underlying9]
    simp only [mapKey, Tryz.underlying9]
    rw [if_pos (by rw [text_size]; exact hp)]
  inv := fun {v l} h => by
    rw [keyOf_string Tryz.underlying9] at h
    unfold mapKey at h
    rw [Tryz.underlying9] at h
    cases v with
    | string s =>
      simp only at h
      by_cases hs : s.size ≤ maxLen
      · rw [if_pos hs] at h
        exact ⟨s.data.toList, by simpa [WfS] using hs, rfl, (Option.some.inj h).symm⟩
      · rw [if_neg hs] at h; cases h
    | _ => simp at h
  inj := fun _ _ h => by unfold sLit at h; injection h
  key := fun _ => trivial
end Go.Proofs.YteldekkodhfkkaaGreatDoor.OdW
