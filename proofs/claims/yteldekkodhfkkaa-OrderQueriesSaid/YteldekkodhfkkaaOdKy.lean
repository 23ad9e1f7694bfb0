/- How the keys of the two maps read: a struct of a number and two texts; a text. Conditions: none. -/
import Derived.Test.YteldekkodhfkkaaOdW2
import Derived.Test.YteldekkodhfkkaaOdK
namespace Go.Proofs.Yteldekkodhfkkaa.OdW
open Go Go.RowKit
open Go.WideMaps (KeyLaw)

theorem laidOut : laidOutB Try.prog = true := by kernel_rfl
theorem row_key : (55 : TypeId) < Try.prog.types.size := of_decide_eq_true (by kernel_rfl)
theorem wide_key : (match Try.prog.underlying 55 with | some (.array _ _) | some (.struct _) => true | _ => false) = true := by kernel_rfl
set_option maxRecDepth 100000 in
theorem law_key : KeyLaw Try.prog 55 := deep_law_laid laidOut (m := 2) (by omega) row_key (by kernel_rfl) wide_key
def WfK (k : Od.Ky) : Prop := (Lit.int .i64 k.d).wf = true ∧ k.o.length ≤ maxLen ∧ k.p.length ≤ maxLen
def kV (k : Od.Ky) : Value := .agg #[.int .i64 k.d, .string ⟨k.o.toArray⟩, .string ⟨k.p.toArray⟩]
def kLit (k : Od.Ky) : Lit := .string (keyBytes [.int .i64 k.d, .string k.o, .string k.p])
theorem keyOf_key (v : Value) : keyOf Try.prog 55 v = if v.formed Try.prog 55 then (Try.prog.keyLits (Try.prog.types.size + 1) 55 v.cells.toList).map fun ls => .string (keyBytes ls) else none := by
  have hk : Try.prog.keyType 55 = true := by kernel_rfl
  unfold keyOf
  rw [Try.underlying55]
  simp only [hk, Bool.true_and]
theorem nat_succ {n : Nat} (h : 0 < n) : ∃ m, n = m + 1 := ⟨n - 1, by omega⟩
theorem pos_types : 0 < Try.prog.types.size := of_decide_eq_true (by kernel_rfl)
theorem size_types : ∃ n, Try.prog.types.size = n + 1 := nat_succ pos_types
theorem lits_key (c0 c1 c2 : Value) : Try.prog.keyLits (Try.prog.types.size + 1) 55 [c0, c1, c2] =
    (Try.prog.keyLits Try.prog.types.size 3 [c0]).bind fun a => (Try.prog.keyLits Try.prog.types.size 9 [c1]).bind fun b => (Try.prog.keyLits Try.prog.types.size 9 [c2]).bind fun c => some (a ++ (b ++ c)) := by
  have h1 : Try.prog.cellsOf 55 = 3 := by kernel_rfl
  have h2 : Try.prog.cellsOf 3 = 1 := by kernel_rfl
  have h3 : Try.prog.cellsOf 9 = 1 := by kernel_rfl
  conv => lhs; unfold Program.keyLits
  rw [Try.underlying55]
  simp [h1, h2, h3]
  generalize Try.prog.keyLits _ 3 [c0] = a0
  generalize Try.prog.keyLits _ 9 [c1] = a1
  generalize Try.prog.keyLits _ 9 [c2] = a2
  cases a0 <;> cases a1 <;> cases a2 <;> simp
theorem lits_int (c : Value) (n : Nat) : Try.prog.keyLits (n + 1) 3 [c] = match c with | .int q m => if q = .i64 ∧ (Lit.int .i64 m).wf = true then some [.int .i64 m] else none | _ => none := by
  unfold Program.keyLits
  rw [Try.underlying3]
  cases c <;> rfl
theorem lits_text (c : Value) (n : Nat) : Try.prog.keyLits (n + 1) 9 [c] = match c with | .string s => if s.size ≤ maxLen then some [.string s.data.toList] else none | _ => none := by
  unfold Program.keyLits
  rw [Try.underlying9]
  cases c <;> rfl
theorem formed_key (cs : Array Value) : (Value.agg cs).formed Try.prog 55 = (cs.size == 3) := by
  have h1 : Try.prog.cellsOf 55 = 3 := by kernel_rfl
  simp [Value.formed, Try.underlying55, h1]
theorem key_made (k : Od.Ky) (h : WfK k) : keyOf Try.prog 55 (kV k) = some (kLit k) := by
  obtain ⟨n, hn⟩ := size_types
  obtain ⟨h1, h2, h3⟩ := h
  rw [keyOf_key]
  unfold kV kLit
  rw [formed_key]
  simp only [Value.cells]
  rw [if_pos (by rfl)]
  show ((Try.prog.keyLits (Try.prog.types.size + 1) 55 [.int .i64 k.d, .string ⟨k.o.toArray⟩, .string ⟨k.p.toArray⟩]).map fun ls => Lit.string (keyBytes ls)) = _
  rw [lits_key, hn, lits_int, lits_text, lits_text]
  simp only [text_size, h1, h2, h3, and_self, if_true]
  rfl
set_option maxRecDepth 100000 in
theorem key_inv {v : Value} {l : Lit} (h : keyOf Try.prog 55 v = some l) : ∃ k, WfK k ∧ v = kV k ∧ l = kLit k := by
  obtain ⟨n, hn⟩ := size_types
  have hf : v.formed Try.prog 55 = true := by
    rw [keyOf_key] at h
    split at h
    · rename_i hf; exact hf
    · cases h
  obtain ⟨cs, rfl⟩ : ∃ cs, v = .agg cs := by
    cases v
    case agg cs => exact ⟨cs, rfl⟩
    all_goals (exfalso; revert hf; simp [Value.formed, Try.underlying55])
  rw [formed_key] at hf
  obtain ⟨⟨c0, c1, c2, rfl⟩⟩ : Nonempty (∃ c0 c1 c2, cs = #[c0, c1, c2]) := by
    obtain ⟨l⟩ := cs
    match l, hf with
    | [a, b, c], _ => exact ⟨a, b, c, rfl⟩
  rw [keyOf_key, formed_key, if_pos (by rfl)] at h
  have h' : ((Try.prog.keyLits (Try.prog.types.size + 1) 55 [c0, c1, c2]).map fun ls => Lit.string (keyBytes ls)) = some l := h
  rw [lits_key, hn, lits_int, lits_text, lits_text] at h'
  cases c0 with
  | int q m =>
    cases c1 with
    | string s =>
      cases c2 with
      | string u =>
        simp only at h'
        by_cases a1 : q = .i64 ∧ (Lit.int .i64 m).wf = true
        · by_cases a2 : s.size ≤ maxLen
          · by_cases a3 : u.size ≤ maxLen
            · rw [if_pos a1, if_pos a2, if_pos a3] at h'
              refine ⟨⟨m, s.data.toList, u.data.toList⟩, ⟨a1.2, by simpa using a2, by simpa using a3⟩, ?_, ?_⟩
              · rw [a1.1]; rfl
              · have := Option.some.inj h'
                exact this.symm
            · rw [if_pos a1, if_pos a2, if_neg a3] at h'; cases h'
          · rw [if_pos a1, if_neg a2] at h'; cases h'
        · rw [if_neg a1] at h'; cases h'
      | _ => simp at h'
    | _ => simp at h'
  | _ => simp at h'
theorem keys_key : Keys Try.prog 55 kV kLit WfK where
  made := key_made
  inv := key_inv
  inj := fun {a b} ha hb h => by
    have := law_key.inj (key_made a ha) (h ▸ key_made b hb)
    unfold kV at this
    simp only [Value.agg.injEq, Array.mk.injEq, List.cons.injEq, Value.int.injEq, Value.string.injEq, ByteArray.mk.injEq, true_and, and_true] at this
    obtain ⟨e1, e2, e3⟩ := this
    cases a; cases b
    simp_all
  key := fun _ => trivial

def sV (p : List UInt8) : Value := .string ⟨p.toArray⟩
def sLit (p : List UInt8) : Lit := .string p
def WfS (p : List UInt8) : Prop := p.length ≤ maxLen
theorem keys_text : Keys Try.prog 9 sV sLit WfS where
  made := fun p hp => by
    unfold sV sLit
    rw [keyOf_string Try.underlying9]
    simp only [mapKey, Try.underlying9]
    rw [if_pos (by rw [text_size]; exact hp)]
  inv := fun {v l} h => by
    rw [keyOf_string Try.underlying9] at h
    unfold mapKey at h
    rw [Try.underlying9] at h
    cases v with
    | string s =>
      simp only at h
      by_cases hs : s.size ≤ maxLen
      · rw [if_pos hs] at h
        exact ⟨s.data.toList, by simpa [WfS] using hs, rfl, (Option.some.inj h).symm⟩
      · rw [if_neg hs] at h; cases h
    | _ => simp at h
  inj := fun _ _ h => by unfold sLit at h; injection h
  key := fun _ => trivial
end Go.Proofs.Yteldekkodhfkkaa.OdW
