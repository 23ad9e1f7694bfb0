/- Walks: the program's parser passes a word or a mark, a name, a number. Conditions: the parser and its tokens lie in memory, apart. -/
import Derived.Test.YteldekkodhfkkaaGreatDoorPqW2
namespace Go.Proofs.YteldekkodhfkkaaGreatDoor.PqW
open Go Go.RowKit Go.Proofs.YteldekkodhfkkaaGreatDoor.Mem
open Go.Proofs.YteldekkodhfkkaaGreatDoor.LexW (tokCells toksCells)

theorem row_box {w : World} {A : Option Addr} {xs : List Value} (h : Row w A xs) (o : Obj) : Row (w.alloc o) A xs := h.below (bel1 w o)
theorem grown_first {w w1 w2 : World} {b : Nat} (h1 : w.grownBy w1 none) (h2 : w1.grownBy w2 (some b)) : w.grownBy w2 (some b) :=
  ⟨h2.os.trans h1.os, h2.tape.trans h1.tape, h2.output.trans h1.output, Nat.le_trans h1.size h2.size, fun i hi hne => by rw [h2.block i (Nat.lt_of_lt_of_le hi h1.size) hne]; exact h1.block i hi (by simp)⟩

set_option maxRecDepth 100000 in
theorem expect_any (x : List UInt8) (ts : List Lex.Tok) (A : Option Addr) (c b : Nat) (s : Pq.St) (w : World) (hb : w.heap[b]? = some (pobj A ts.length c s)) (hr : Row w A (ts.flatMap tokCells)) (hA : Apart A b) (hn : ts.length ≤ 1000000) :
    Calls Tryz.prog 14 #[.pointer (some ⟨b, 0, none⟩), .string ⟨x.toArray⟩] w fun e w' => e = .returned (.tuple #[]) ∧ w'.heap[b]? = some (pobj A ts.length c (Pq.expect ts x s)) ∧ w.grownBy w' (some b) := by
  have hc : (w.alloc (.cells #[.string ⟨x.toArray⟩] 9)).cell? ⟨w.heap.size, 0, none⟩ = some (.string ⟨x.toArray⟩) := by simp
  have HT := Lib.hid (token_C 37 (Pq.isT x) (enters_of Tryz.func37 (by kernel_rfl) rfl) w.heap.size x (fun t W h => close_expect x t _ W h) ts A c b s _ (block_old (o' := .cells #[.string ⟨x.toArray⟩] 9) hb) (row_box hr _) hA hc hn)
  have hlt := heap_lt hb
  clear hb hr hc hA
  generalize (ByteArray.mk x.toArray) = XB at *
  have HG := Lib.hid (World.grownBy_alloc w (.cells #[.string XB] 9) none)
  unfold Pq.expect
  generalize (Pq.tok ts (Pq.isT x) s) = R at *
  go_enter Tryz.func14, Tryz.ntmps14
  go_wp2_with fail
  refine HT.out.mono ?_
  rintro e w2 ⟨rfl, h2, hg⟩
  have H2 := Lib.hid h2
  have HG2 := Lib.hid (grown_first HG.out hg)
  clear h2 hg
  unfold tv
  go_wp2
  go_end0
  exact ⟨rfl, H2.out, HG2.out⟩

set_option maxRecDepth 100000 in
theorem name_any (ts : List Lex.Tok) (A : Option Addr) (c b : Nat) (s : Pq.St) (w : World) (hb : w.heap[b]? = some (pobj A ts.length c s)) (hr : Row w A (ts.flatMap tokCells)) (hA : Apart A b) (hn : ts.length ≤ 1000000) :
    Calls Tryz.prog 15 #[.pointer (some ⟨b, 0, none⟩)] w fun e w' => e = .returned (.string ⟨(Pq.name ts s).1.toArray⟩) ∧ w'.heap[b]? = some (pobj A ts.length c (Pq.name ts s).2) ∧ w.grownBy w' (some b) := by
  have HT := Lib.hid (token_N 39 Pq.isN (enters_of Tryz.func39 (by kernel_rfl) rfl) (fun t W => close_name t W) ts A c b s w hb hr hA hn)
  clear hb hr hA
  unfold Pq.name
  generalize (Pq.tok ts Pq.isN s) = R at *
  obtain ⟨⟨tk, tx, tn, tp⟩, s2⟩ := R
  unfold tv at HT
  simp only at HT ⊢
  generalize (ByteArray.mk tx.toArray) = TB at *
  have hf : ∀ W : World, (Instr.field 50 (.agg #[.int .i64 tk, .string TB, .int .i64 tn, .int .i64 (tp : Int)]) 1).run Tryz.prog W = .ok (.string TB) W := fun W => by kernel_rfl
  go_enter Tryz.func15, Tryz.ntmps15
  go_wp2_with fail
  refine HT.out.mono ?_
  rintro e w2 ⟨rfl, h2, hg⟩
  have H2 := Lib.hid h2
  have HG2 := Lib.hid hg
  clear h2 hg
  go_wp2
  go_ret
  exact ⟨rfl, H2.out, HG2.out⟩
end Go.Proofs.YteldekkodhfkkaaGreatDoor.PqW
