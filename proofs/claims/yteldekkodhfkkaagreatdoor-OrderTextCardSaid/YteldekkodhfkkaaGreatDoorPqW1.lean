/- Walks: the program's parser of orders: one token, a word or a mark, a name, a number. Conditions: the parser and its tokens lie in memory, apart. -/
import Derived.Test.YteldekkodhfkkaaGreatDoorPqPlain
import Derived.Test.YteldekkodhfkkaaGreatDoorOdW2
import Derived.Test.YteldekkodhfkkaaGreatDoorKept
import Derived.Deep.QuietTactic
import Derived.StillTailTactics
import Derived.Deep.AppendLies
namespace Go.Proofs.YteldekkodhfkkaaGreatDoor.PqW
open Go Go.RowKit Go.Proofs.YteldekkodhfkkaaGreatDoor.Mem
open Go.Proofs.YteldekkodhfkkaaGreatDoor.LexW (tokCells toksCells)
open Go.Proofs.YteldekkodhfkkaaGreatDoor.OdW (text_eq)

theorem block_set {w : World} {b : Nat} {cs : Array Value} {T : TypeId} {fr : Nat × Nat} (h : w.heap[b]? = some (.cells cs T fr)) (j : Nat) (v : Value) : (w.setCell ⟨b, j, none⟩ v).heap[b]? = some (.cells (cs.setIfInBounds j v) T fr) := by
  simp [World.setCell, Array.getElem?_modify, h]
theorem block_other {b : Nat} (w : World) (c j : Nat) (v : Value) (h : b ≠ c) : (w.setCell ⟨c, j, none⟩ v).heap[b]? = w.heap[b]? := Below.heap_setCell _ _ _ _ (fun e => h e)
theorem block_old {w : World} {b : Nat} {o o' : Obj} (h : w.heap[b]? = some o) : (w.alloc o').heap[b]? = some o := by
  rw [← h]; exact Below.heap_alloc _ _ _ (heap_lt h)
theorem cell_of {w : World} {b : Nat} {cs : Array Value} {T : TypeId} (h : w.heap[b]? = some (.cells cs T (0, 0))) (j : Nat) (v : Value) (hj : cs[j]? = some v) : w.cell? ⟨b, j, none⟩ = some v := by
  simp [World.cell?, h, hj]
theorem free_of {w : World} {b : Nat} {cs : Array Value} {T : TypeId} (h : w.heap[b]? = some (.cells cs T (0, 0))) (j : Nat) : w.frozen? ⟨b, j, none⟩ = false := by
  simp [World.frozen?, h]
theorem grown_set {w w' : World} {b : Nat} (h : w.grownBy w' (some b)) (j : Nat) (v : Value) : w.grownBy (w'.setCell ⟨b, j, none⟩ v) (some b) :=
  ⟨h.os, h.tape, h.output, by simpa using h.size, fun i hi hne => by rw [block_other _ _ _ _ (fun e => hne (by rw [e]))]; exact h.block i hi hne⟩
theorem grown_new {w w' : World} {b k : Nat} (h : w.grownBy w' (some b)) (hk : w.heap.size ≤ k) (j : Nat) (v : Value) : w.grownBy (w'.setCell ⟨k, j, none⟩ v) (some b) :=
  ⟨h.os, h.tape, h.output, by simpa using h.size, fun i hi hne => by rw [block_other _ _ _ _ (by omega)]; exact h.block i hi hne⟩
theorem grown_alloc {w w' : World} {row : Option Nat} (h : w.grownBy w' row) (o : Obj) : w.grownBy (w'.alloc o) row := h.trans (World.grownBy_alloc _ _ _)
theorem grown_drewN {w w' : World} {row : Option Nat} (h : w.grownBy w' row) (n : Nat) : w.grownBy (w'.drewN n) row := ⟨h.os, h.tape, h.output, h.size, h.block⟩
theorem grown_below {w w' w2 : World} {row : Option Nat} (h : w.grownBy w' row) (hb : Below w'.heap.size w' w2) : w.grownBy w2 row :=
  ⟨hb.os.trans h.os, hb.tape.trans h.tape, hb.output.trans h.output, Nat.le_trans h.size hb.size, fun i hi hne => by rw [hb.block i (Nat.lt_of_lt_of_le hi h.size)]; exact h.block i hi hne⟩

/-- The parser as an object. -/
def pobj (A : Option Addr) (n c : Nat) (s : Pq.St) : Obj := .cells #[.slice A n c, .int .i64 (s.i : Int), .int .i64 s.e] 44 (0, 0)
/-- A token as a value. -/
def tv (t : Lex.Tok) : Value := .agg #[.int .i64 t.kind, .string ⟨t.text.toArray⟩, .int .i64 t.n, .int .i64 (t.pos : Int)]
theorem tok_len (t : Lex.Tok) : (tokCells t).length = 4 := rfl
/-- The tokens' row and the parser's block are two. -/
def Apart (A : Option Addr) (b : Nat) : Prop := ∀ g off, A = some ⟨g, off, none⟩ → g ≠ b

set_option maxRecDepth 100000 in
theorem is_any (t : Lex.Tok) (x : List UInt8) (w : World) : Calls Tryz.prog 38 #[tv t, .string ⟨x.toArray⟩] w fun e w' => e = .returned (.bool (Pq.isT x t)) ∧ Below w.heap.size w w' := by
  have es := text_eq t.text x
  unfold Pq.isT tv
  obtain ⟨k, tx, n, p⟩ := t
  simp only at es ⊢
  generalize decide (tx = x) = r at *
  generalize (ByteArray.mk tx.toArray) = TB at *
  generalize (ByteArray.mk x.toArray) = XB at *
  have hb := Lib.hid ((Below.refl w.heap.size w).alloc (Nat.le_refl _) (.cells #[.int .i64 k, .string TB, .int .i64 n, .int .i64 (p : Int)] 50))
  by_cases hk : k = 2
  · subst hk
    go_enter Tryz.func38, Tryz.ntmps38
    go_wp2
    go_ret
    exact ⟨by simp, hb.out⟩
  · have h1 : (k != 2) = true := by simp [hk]
    have h2 : decide (k ≠ 2) = true := by simp [hk]
    rw [h2]
    go_enter Tryz.func38, Tryz.ntmps38
    go_wp2
    go_ret
    exact ⟨by simp, hb.out⟩
set_option maxRecDepth 100000 in
theorem close_expect (x : List UInt8) (t : Lex.Tok) (b : Nat) (w : World) (hc : w.cell? ⟨b, 0, none⟩ = some (.string ⟨x.toArray⟩)) : Calls Tryz.prog 37 #[tv t, .pointer (some ⟨b, 0, none⟩)] w fun e w' => e = .returned (.bool (Pq.isT x t)) ∧ Below w.heap.size w w' := by
  have HI := Lib.hid (fun W => is_any t x W)
  have hlt := World.block_lt_of_cell? w _ hc
  unfold tv at HI ⊢
  generalize (ByteArray.mk x.toArray) = XB at *
  generalize (ByteArray.mk t.text.toArray) = TB at *
  generalize Pq.isT x t = r at *
  go_enter Tryz.func37, Tryz.ntmps37
  go_wp2_with fail
  refine (HI.out _).mono ?_
  rintro e w2 ⟨rfl, hb⟩
  have HB := Lib.hid (((Below.refl w.heap.size w).alloc (Nat.le_refl _) (.cells #[.int .i64 t.kind, .string TB, .int .i64 t.n, .int .i64 (t.pos : Int)] 50)).trans (hb.mono (by simp)))
  clear hb
  go_wp2
  go_ret
  exact ⟨rfl, HB.out⟩
set_option maxRecDepth 100000 in
theorem close_name (t : Lex.Tok) (w : World) : Calls Tryz.prog 39 #[tv t] w fun e w' => e = .returned (.bool (Pq.isN t)) ∧ Below w.heap.size w w' := by
  unfold tv Pq.isN
  generalize (ByteArray.mk t.text.toArray) = TB at *
  have HB := Lib.hid ((Below.refl w.heap.size w).alloc (Nat.le_refl _) (.cells #[.int .i64 t.kind, .string TB, .int .i64 t.n, .int .i64 (t.pos : Int)] 50))
  go_enter Tryz.func39, Tryz.ntmps39
  go_wp2
  go_ret
  exact ⟨by simp; rfl, HB.out⟩
set_option maxRecDepth 100000 in
theorem close_number (t : Lex.Tok) (w : World) : Calls Tryz.prog 40 #[tv t] w fun e w' => e = .returned (.bool (Pq.isD t)) ∧ Below w.heap.size w w' := by
  unfold tv Pq.isD
  generalize (ByteArray.mk t.text.toArray) = TB at *
  have HB := Lib.hid ((Below.refl w.heap.size w).alloc (Nat.le_refl _) (.cells #[.int .i64 t.kind, .string TB, .int .i64 t.n, .int .i64 (t.pos : Int)] 50))
  go_enter Tryz.func40, Tryz.ntmps40
  go_wp2
  go_ret
  exact ⟨by simp; rfl, HB.out⟩
end Go.Proofs.YteldekkodhfkkaaGreatDoor.PqW
