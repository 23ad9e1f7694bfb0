/- Walks: the program's parser passes a number within limits; a word or a mark, if it is the next token. Conditions: the parser and its tokens lie in memory, apart. -/
import Derived.Test.YteldekkodhfkkaaGreatDoorPqW3
namespace Go.Proofs.YteldekkodhfkkaaGreatDoor.PqW
open Go Go.RowKit Go.Proofs.YteldekkodhfkkaaGreatDoor.Mem
open Go.Proofs.YteldekkodhfkkaaGreatDoor.LexW (tokCells toksCells)

set_option maxRecDepth 100000 in
set_option maxHeartbeats 1000000 in
theorem number_any (lo hi : Int) (ts : List Lex.Tok) (A : Option Addr) (c b : Nat) (s : Pq.St) (w : World) (hb : w.heap[b]? = some (pobj A ts.length c s)) (hr : Row w A (ts.flatMap tokCells)) (hA : Apart A b) (hn : ts.length ≤ 1000000) :
    Calls Tryz.prog 17 #[.pointer (some ⟨b, 0, none⟩), .int .i64 lo, .int .i64 hi] w fun e w' => e = .returned (.int .i64 (Pq.num true ts lo hi s).1) ∧ w'.heap[b]? = some (pobj A ts.length c (Pq.num true ts lo hi s).2) ∧ w.grownBy w' (some b) := by
  have HT := Lib.hid (token_N 40 Pq.isD (enters_of Tryz.func40 (by kernel_rfl) rfl) (fun t W => close_number t W) ts A c b s w hb hr hA hn)
  have hlt := heap_lt hb
  have hst : (Pq.tok ts Pq.isD s).2.e = 0 → (Pq.tok ts Pq.isD s).2.i = s.i + 1 ∧ s.i + 1 ≤ ts.length := by
    rcases Pq.tok_ways ts Pq.isD s with ⟨h1, h2⟩ | ⟨h1, h2⟩ | ⟨h1, h3, h4, h2⟩ <;> rw [h2]
    · exact fun h => absurd h h1
    · exact fun h => by simp at h
    · exact fun _ => ⟨rfl, h3⟩
  clear hb hr hA
  unfold Pq.num
  generalize (Pq.tok ts Pq.isD s) = R at *
  obtain ⟨⟨tk, tx, tn, tp⟩, ⟨i2, e2⟩⟩ := R
  unfold tv at HT
  simp only at HT hst ⊢
  generalize (ByteArray.mk tx.toArray) = TB at *
  by_cases he : e2 = 0
  · obtain ⟨hi2, hi3⟩ := hst he
    subst he hi2
    clear hst
    by_cases h1 : tn < lo
    · rw [if_pos ⟨rfl, .inl h1⟩, if_pos trivial]
      go_enter Tryz.func17, Tryz.ntmps17
      go_wp2_with fail
      refine HT.out.mono ?_
      rintro e w2 ⟨rfl, h2, hg⟩
      have HB2 := Lib.hid h2
      have HGW := Lib.hid hg
      have HG2 := Lib.hid (grown_alloc hg (.cells #[.int .i64 tk, .string TB, .int .i64 tn, .int .i64 (tp : Int)] 50))
      have HB3 := Lib.hid (block_old (o' := .cells #[.int .i64 tk, .string TB, .int .i64 tn, .int .i64 (tp : Int)] 50) h2)
      have hl2 := heap_lt h2
      obtain ⟨c0, c1, c2, cf⟩ := pcell h2
      have f1 := cf 1
      have f2 := cf 2
      simp only at c1 c2
      clear h2 hg cf

      have x1 : IntKind.i64.wrap (((s.i + 1 : Nat) : Int) - 1) = (s.i : Int) := by rw [wrapEq]; unfold wrap64; omega
      have HB4 := Lib.hid (block_old (o' := .cells #[.int .i64 tk, .string TB, .int .i64 tn, .int .i64 (tp : Int)] 50) (pset_e (pset_i HB2.out s.i) 2))
      have HG4 := Lib.hid (grown_alloc (grown_set (grown_set HGW.out 1 (.int .i64 (s.i : Int))) 2 (.int .i64 2)) (.cells #[.int .i64 tk, .string TB, .int .i64 tn, .int .i64 (tp : Int)] 50))
      go_wp2
      go_ret
      exact ⟨rfl, HB4.out, HG4.out⟩
    · by_cases h2' : hi < tn
      · rw [if_pos ⟨rfl, .inr h2'⟩, if_pos trivial]
        go_enter Tryz.func17, Tryz.ntmps17
        go_wp2_with fail
        refine HT.out.mono ?_
        rintro e w2 ⟨rfl, h2, hg⟩
        have HB2 := Lib.hid h2
        have HGW := Lib.hid hg
        have HG2 := Lib.hid (grown_alloc hg (.cells #[.int .i64 tk, .string TB, .int .i64 tn, .int .i64 (tp : Int)] 50))
        have HB3 := Lib.hid (block_old (o' := .cells #[.int .i64 tk, .string TB, .int .i64 tn, .int .i64 (tp : Int)] 50) h2)
        have hl2 := heap_lt h2
        obtain ⟨c0, c1, c2, cf⟩ := pcell h2
        have f1 := cf 1
        have f2 := cf 2
        simp only at c1 c2
        clear h2 hg cf

        have x1 : IntKind.i64.wrap (((s.i + 1 : Nat) : Int) - 1) = (s.i : Int) := by rw [wrapEq]; unfold wrap64; omega
        have HB4 := Lib.hid (block_old (o' := .cells #[.int .i64 tk, .string TB, .int .i64 tn, .int .i64 (tp : Int)] 50) (pset_e (pset_i HB2.out s.i) 2))
        have HG4 := Lib.hid (grown_alloc (grown_set (grown_set HGW.out 1 (.int .i64 (s.i : Int))) 2 (.int .i64 2)) (.cells #[.int .i64 tk, .string TB, .int .i64 tn, .int .i64 (tp : Int)] 50))
        go_wp2
        go_ret
        exact ⟨rfl, HB4.out, HG4.out⟩
      · rw [if_neg (by omega)]
        go_enter Tryz.func17, Tryz.ntmps17
        go_wp2_with fail
        refine HT.out.mono ?_
        rintro e w2 ⟨rfl, h2, hg⟩
        have HB2 := Lib.hid h2
        have HGW := Lib.hid hg
        have HG2 := Lib.hid (grown_alloc hg (.cells #[.int .i64 tk, .string TB, .int .i64 tn, .int .i64 (tp : Int)] 50))
        have HB3 := Lib.hid (block_old (o' := .cells #[.int .i64 tk, .string TB, .int .i64 tn, .int .i64 (tp : Int)] 50) h2)
        have hl2 := heap_lt h2
        obtain ⟨c0, c1, c2, cf⟩ := pcell h2
        have f1 := cf 1
        have f2 := cf 2
        simp only at c1 c2
        clear h2 hg cf

        go_wp2
        go_ret
        exact ⟨rfl, HB3.out, HG2.out⟩
  · clear hst
    have e1 : (e2 == 0) = false := by simpa using he
    rw [if_neg (fun h => he h.1)]
    go_enter Tryz.func17, Tryz.ntmps17
    go_wp2_with fail
    refine HT.out.mono ?_
    rintro e w2 ⟨rfl, h2, hg⟩
    have HB2 := Lib.hid h2
    have HGW := Lib.hid hg
    have HG2 := Lib.hid (grown_alloc hg (.cells #[.int .i64 tk, .string TB, .int .i64 tn, .int .i64 (tp : Int)] 50))
    have HB3 := Lib.hid (block_old (o' := .cells #[.int .i64 tk, .string TB, .int .i64 tn, .int .i64 (tp : Int)] 50) h2)
    have hl2 := heap_lt h2
    obtain ⟨c0, c1, c2, cf⟩ := pcell h2
    have f1 := cf 1
    have f2 := cf 2
    simp only at c1 c2
    clear h2 hg cf
    go_wp2
    go_ret
    exact ⟨rfl, HB3.out, HG2.out⟩

set_option maxRecDepth 100000 in
set_option maxHeartbeats 1000000 in
theorem accept_any (x : List UInt8) (ts : List Lex.Tok) (A : Option Addr) (c b : Nat) (s : Pq.St) (w : World) (hb : w.heap[b]? = some (pobj A ts.length c s)) (hr : Row w A (ts.flatMap tokCells)) (hn : ts.length ≤ 1000000) :
    Calls Tryz.prog 16 #[.pointer (some ⟨b, 0, none⟩), .string ⟨x.toArray⟩] w fun e w' => e = .returned (.bool (Pq.next ts x s)) ∧ w'.heap[b]? = some (pobj A ts.length c (Pq.accept ts x s)) ∧ w.grownBy w' (some b) := by
  have HB := Lib.hid hb
  have hlt := heap_lt hb
  obtain ⟨c0, c1, c2, cf⟩ := pcell hb
  obtain ⟨i, er⟩ := s
  simp only at c1 c2
  clear hb
  by_cases he : er = 0
  · subst he
    by_cases hi : i < ts.length
    · cases hT : Pq.isT x ts[i]
      · have hN : Pq.next ts x ⟨i, 0⟩ = false := by unfold Pq.next; simp [List.getElem?_eq_getElem hi, hT]
        rw [show Pq.accept ts x ⟨i, 0⟩ = ⟨i, 0⟩ by unfold Pq.accept; rw [hN]; rfl, hN]
        clear hN
        have d1 : decide ((ts.length : Int) ≤ (i : Int)) = false := by simp; omega
        have d2 : decide (ts.length ≤ i) = false := by simp; omega
        have hi0 : (0 : Int) ≤ (i : Int) := by omega
        have hi1 : (i : Int) < (ts.length : Int) := by omega
        obtain ⟨g2, off, rfl, hg2, ca⟩ := row_get tok_len (by decide) hr (by omega)
        have t0 := ca i hi 0 (by decide)
        have t1 := ca i hi 1 (by decide)
        have t2 := ca i hi 2 (by decide)
        have t3 := ca i hi 3 (by decide)
        clear ca hr
        simp only [tokCells, List.getElem?_cons_zero, List.getElem?_cons_succ, Nat.add_zero] at t0 t1 t2 t3
        have HI := Lib.hid (fun W => is_any ts[i] x W)
        rw [hT] at HI
        unfold tv at HI
        generalize ts[i] = t at *
        obtain ⟨tk, tx, tn, tp⟩ := t
        simp only at t0 t1 t2 t3 HI
        clear hT
        generalize (ByteArray.mk tx.toArray) = TB at *
        generalize (ByteArray.mk x.toArray) = XB at *
        go_enter Tryz.func16, Tryz.ntmps16
        go_wp2_with fail
        refine wp_region_still_tail 29 (by kernel_rfl) (by kernel_rfl) ?_
        simp only [List.take_succ_cons, List.take_zero, List.drop_succ_cons, List.drop_zero]
        iterate 29 still_step
        refine wpStill_nil ?_
        change wpList _ _ _ _ _ (w.drewN 1)
        go_wp2_with fail
        refine (HI.out (w.drewN 1)).mono ?_
        rintro e w2 ⟨rfl, hbel⟩
        have HB2 := Lib.hid (p_below (w := w.drewN 1) HB.out hbel)
        have HG2 := Lib.hid (grown_below (grown_drewN (World.grownBy.refl w (some b)) 1) hbel)
        obtain ⟨r0, r1, r2, rf⟩ := pcell HB2.out
        simp only at r1 r2
        have rf1 := rf 1
        have hl2 := heap_lt HB2.out
        clear c0 c1 c2 cf t0 t1 t2 t3 rf hbel
        go_wp2
        go_ret
        exact ⟨rfl, HB2.out, HG2.out⟩
      · have hN : Pq.next ts x ⟨i, 0⟩ = true := by unfold Pq.next; simp [List.getElem?_eq_getElem hi, hT]
        rw [show Pq.accept ts x ⟨i, 0⟩ = ⟨i + 1, 0⟩ by unfold Pq.accept; rw [hN]; rfl, hN]
        clear hN
        have d1 : decide ((ts.length : Int) ≤ (i : Int)) = false := by simp; omega
        have d2 : decide (ts.length ≤ i) = false := by simp; omega
        have hi0 : (0 : Int) ≤ (i : Int) := by omega
        have hi1 : (i : Int) < (ts.length : Int) := by omega
        obtain ⟨g2, off, rfl, hg2, ca⟩ := row_get tok_len (by decide) hr (by omega)
        have t0 := ca i hi 0 (by decide)
        have t1 := ca i hi 1 (by decide)
        have t2 := ca i hi 2 (by decide)
        have t3 := ca i hi 3 (by decide)
        clear ca hr
        simp only [tokCells, List.getElem?_cons_zero, List.getElem?_cons_succ, Nat.add_zero] at t0 t1 t2 t3
        have HI := Lib.hid (fun W => is_any ts[i] x W)
        rw [hT] at HI
        unfold tv at HI
        generalize ts[i] = t at *
        obtain ⟨tk, tx, tn, tp⟩ := t
        simp only at t0 t1 t2 t3 HI
        clear hT
        generalize (ByteArray.mk tx.toArray) = TB at *
        generalize (ByteArray.mk x.toArray) = XB at *
        go_enter Tryz.func16, Tryz.ntmps16
        go_wp2_with fail
        refine wp_region_still_tail 29 (by kernel_rfl) (by kernel_rfl) ?_
        simp only [List.take_succ_cons, List.take_zero, List.drop_succ_cons, List.drop_zero]
        iterate 29 still_step
        refine wpStill_nil ?_
        change wpList _ _ _ _ _ (w.drewN 1)
        go_wp2_with fail
        refine (HI.out (w.drewN 1)).mono ?_
        rintro e w2 ⟨rfl, hbel⟩
        have HB2 := Lib.hid (p_below (w := w.drewN 1) HB.out hbel)
        have HG2 := Lib.hid (grown_below (grown_drewN (World.grownBy.refl w (some b)) 1) hbel)
        obtain ⟨r0, r1, r2, rf⟩ := pcell HB2.out
        simp only at r1 r2
        have rf1 := rf 1
        have hl2 := heap_lt HB2.out
        clear c0 c1 c2 cf t0 t1 t2 t3 rf hbel
        have HB3 : Hid ((w2.setCell ⟨b, 1, none⟩ (.int .i64 ((i : Int) + 1))).heap[b]? = some (pobj (some ⟨g2, off, none⟩) ts.length c ⟨i + 1, 0⟩)) := Lib.hid (pset_i HB2.out (i + 1))
        have HG3 := Lib.hid (grown_set HG2.out 1 (.int .i64 ((i : Int) + 1)))
        have x1 : (i : Int) + 1 ≤ 9223372036854775807 := by omega
        go_wp2
        go_ret
        exact ⟨rfl, HB3.out, HG3.out⟩
    · have hN : Pq.next ts x ⟨i, 0⟩ = false := by unfold Pq.next; simp [List.getElem?_eq_none (Nat.le_of_not_lt hi)]
      rw [show Pq.accept ts x ⟨i, 0⟩ = ⟨i, 0⟩ by unfold Pq.accept; rw [hN]; rfl, hN]
      have d1 : decide ((ts.length : Int) ≤ (i : Int)) = true := by simp; omega
      have d2 : decide (ts.length ≤ i) = true := by simp; omega
      clear hN
      go_enter Tryz.func16, Tryz.ntmps16
      go_wp2_with fail
      go_quiet (fail)
      have HG := Lib.hid (grown_drewN (World.grownBy.refl w (some b)) nq)
      go_wp2
      go_ret
      exact ⟨rfl, HB.out, HG.out⟩
  · have hN : Pq.next ts x ⟨i, er⟩ = false := by unfold Pq.next; simp [he]
    rw [show Pq.accept ts x ⟨i, er⟩ = ⟨i, er⟩ by unfold Pq.accept; rw [hN]; rfl, hN]
    have e2 : (er != 0) = true := by simpa using he
    clear hN he
    go_enter Tryz.func16, Tryz.ntmps16
    go_wp2_with fail
    go_quiet (fail)
    have HG := Lib.hid (grown_drewN (World.grownBy.refl w (some b)) nq)
    go_wp2
    go_ret
    exact ⟨rfl, HB.out, HG.out⟩
end Go.Proofs.YteldekkodhfkkaaGreatDoor.PqW
