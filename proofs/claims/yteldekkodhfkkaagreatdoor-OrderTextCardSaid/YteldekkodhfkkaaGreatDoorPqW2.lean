/- Walk: the program's parser takes a token that fulfils a condition. Conditions: the parser and its tokens lie in memory, apart; the condition's function is as stated. -/
import Derived.Test.YteldekkodhfkkaaGreatDoorPqW1
namespace Go.Proofs.YteldekkodhfkkaaGreatDoor.PqW
open Go Go.RowKit Go.Proofs.YteldekkodhfkkaaGreatDoor.Mem
open Go.Proofs.YteldekkodhfkkaaGreatDoor.LexW (tokCells toksCells)

theorem pcell {w : World} {b : Nat} {A : Option Addr} {n c : Nat} {s : Pq.St} (h : w.heap[b]? = some (pobj A n c s)) : w.cell? ⟨b, 0, none⟩ = some (.slice A n c) ∧ w.cell? ⟨b, 1, none⟩ = some (.int .i64 (s.i : Int)) ∧ w.cell? ⟨b, 2, none⟩ = some (.int .i64 s.e) ∧ ∀ j, w.frozen? ⟨b, j, none⟩ = false :=
  ⟨cell_of h 0 _ rfl, cell_of h 1 _ rfl, cell_of h 2 _ rfl, fun j => free_of h j⟩
theorem pset_e {w : World} {b : Nat} {A : Option Addr} {n c : Nat} {s : Pq.St} (h : w.heap[b]? = some (pobj A n c s)) (e : Int) : (w.setCell ⟨b, 2, none⟩ (.int .i64 e)).heap[b]? = some (pobj A n c ⟨s.i, e⟩) := block_set h 2 _
theorem pset_i {w : World} {b : Nat} {A : Option Addr} {n c : Nat} {s : Pq.St} (h : w.heap[b]? = some (pobj A n c s)) (i : Nat) : (w.setCell ⟨b, 1, none⟩ (.int .i64 (i : Int))).heap[b]? = some (pobj A n c ⟨i, s.e⟩) := block_set h 1 _
theorem p_below {w w' : World} {b : Nat} {o : Obj} (h : w.heap[b]? = some o) (hb : Below w.heap.size w w') : w'.heap[b]? = some o := (hb.block b (heap_lt h)).trans h
theorem set4_block {W : World} {k b : Nat} (h : b ≠ k) (v0 v1 v2 v3 : Value) : ((((W.setCell ⟨k, 0, none⟩ v0).setCell ⟨k, 1, none⟩ v1).setCell ⟨k, 2, none⟩ v2).setCell ⟨k, 3, none⟩ v3).heap[b]? = W.heap[b]? := by
  rw [block_other _ _ _ _ h, block_other _ _ _ _ h, block_other _ _ _ _ h, block_other _ _ _ _ h]
theorem set4_grown {w W : World} {k b : Nat} (hg : w.grownBy W (some b)) (h : w.heap.size ≤ k) (v0 v1 v2 v3 : Value) : w.grownBy ((((W.setCell ⟨k, 0, none⟩ v0).setCell ⟨k, 1, none⟩ v1).setCell ⟨k, 2, none⟩ v2).setCell ⟨k, 3, none⟩ v3) (some b) :=
  grown_new (grown_new (grown_new (grown_new hg h _ _) h _ _) h _ _) h _ _
theorem set4_new {W : World} {k : Nat} {x0 x1 x2 x3 : Value} {T : TypeId} (h : W.heap[k]? = some (.cells #[x0, x1, x2, x3] T (0, 0))) (v0 v1 v2 v3 : Value) :
    ((((W.setCell ⟨k, 0, none⟩ v0).setCell ⟨k, 1, none⟩ v1).setCell ⟨k, 2, none⟩ v2).setCell ⟨k, 3, none⟩ v3).heap[k]? = some (.cells #[v0, v1, v2, v3] T (0, 0)) := by
  have h1 : (W.setCell ⟨k, 0, none⟩ v0).heap[k]? = some (.cells #[v0, x1, x2, x3] T (0, 0)) := block_set h 0 v0
  have h2 : ((W.setCell ⟨k, 0, none⟩ v0).setCell ⟨k, 1, none⟩ v1).heap[k]? = some (.cells #[v0, v1, x2, x3] T (0, 0)) := block_set h1 1 v1
  have h3 : (((W.setCell ⟨k, 0, none⟩ v0).setCell ⟨k, 1, none⟩ v1).setCell ⟨k, 2, none⟩ v2).heap[k]? = some (.cells #[v0, v1, v2, x3] T (0, 0)) := block_set h2 2 v2
  exact block_set h3 3 v3
theorem bel1 (W : World) (o : Obj) : Below W.heap.size W (W.alloc o) := (Below.refl _ _).alloc (Nat.le_refl _) o
theorem wrapEq (x : Int) : IntKind.i64.wrap x = wrap64 x := by
  rw [IntKind.wrap_i64]
  unfold wrap64
  omega
theorem tv_zero : tv Pq.tz = .agg #[.int .i64 0, .string ⟨#[]⟩, .int .i64 0, .int .i64 0] := rfl

set_option maxRecDepth 100000 in
set_option maxHeartbeats 1000000 in
theorem token_C (g : FuncId) (good : Lex.Tok → Bool) (eg : Enters Tryz.prog g) (bx : Nat) (x : List UInt8)
    (hg : ∀ (t : Lex.Tok) (W : World), W.cell? ⟨bx, 0, none⟩ = some (.string ⟨x.toArray⟩) → Calls Tryz.prog g #[tv t, .pointer (some ⟨bx, 0, none⟩)] W fun e w' => e = .returned (.bool (good t)) ∧ Below W.heap.size W w')
    (ts : List Lex.Tok) (A : Option Addr) (c b : Nat) (s : Pq.St) (w : World) (hb : w.heap[b]? = some (pobj A ts.length c s)) (hr : Row w A (ts.flatMap tokCells)) (hA : Apart A b) (hx : w.cell? ⟨bx, 0, none⟩ = some (.string ⟨x.toArray⟩)) (hn : ts.length ≤ 1000000) :
    Calls Tryz.prog 36 #[.pointer (some ⟨b, 0, none⟩), .func (.func g) #[] #[.pointer (some ⟨bx, 0, none⟩)]] w fun e w' => e = .returned (tv (Pq.tok ts good s).1) ∧ w'.heap[b]? = some (pobj A ts.length c (Pq.tok ts good s).2) ∧ w.grownBy w' (some b) := by
  obtain ⟨c0, c1, c2, cf⟩ := pcell hb
  have hlt := heap_lt hb
  have f1 := cf 1
  have f2 := cf 2
  clear cf
  obtain ⟨i, er⟩ := s
  simp only at c1 c2
  have HB := Lib.hid hb
  have HB1 := Lib.hid (block_old (o' := (.cells #[.int .i64 0, .string ⟨#[]⟩, .int .i64 0, .int .i64 0] 50)) hb)
  have HG1 := Lib.hid (World.grownBy_alloc w (.cells #[.int .i64 0, .string ⟨#[]⟩, .int .i64 0, .int .i64 0] 50) (some b))
  have HRR := Lib.hid hr
  have HG := Lib.hid hg
  clear hb hr hg
  have hxl := World.block_lt_of_cell? w _ hx
  unfold Enters at eg
  rcases Pq.tok_ways ts good ⟨i, er⟩ with ⟨he, ht⟩ | ⟨he, ht⟩ | ⟨he, hi, hgd, ht⟩
  · rw [ht, tv_zero]
    clear ht
    simp only at he
    have e1 : (er == 0) = false := by simpa using he
    have e2 : (er != 0) = true := by simpa using he
    go_enter Tryz.func36, Tryz.ntmps36
    go_wp2_with fail
    go_quiet (fail)
    go_wp2
    refine bodyPost_ret (v := .agg #[.int .i64 0, .string ⟨#[]⟩, .int .i64 0, .int .i64 0]) (by simp [results, Tryz.results36, go_sem]) rfl ⟨rfl, ?_, ?_⟩
    · exact (set4_block (by omega) _ _ _ _).trans HB1.out
    · exact set4_grown (grown_drewN HG1.out _) (Nat.le_refl _) _ _ _ _
  · simp only at he
    subst he
    by_cases hi : i < ts.length
    · -- a token that does not fulfil the condition
      have hgf : good ts[i] = false := by
        cases h : good ts[i]
        · rfl
        · have : Pq.tok ts good ⟨i, 0⟩ = (ts[i], ⟨i + 1, 0⟩) := by unfold Pq.tok; simp [List.getElem?_eq_getElem hi, h]
          rw [this] at ht
          simp at ht
      rw [ht, tv_zero]
      clear ht
      have d1 : decide ((ts.length : Int) ≤ (i : Int)) = false := by simp; omega
      have d2 : decide (ts.length ≤ i) = false := by simp; omega
      have hi0 : (0 : Int) ≤ (i : Int) := by omega
      have hi1 : (i : Int) < (ts.length : Int) := by omega
      obtain ⟨g2, off, rfl, hg2, ca⟩ := row_get tok_len (by decide) HRR.out (by omega)
      have hgb : g2 ≠ b := hA g2 off rfl
      have t0 := ca i hi 0 (by decide)
      have t1 := ca i hi 1 (by decide)
      have t2 := ca i hi 2 (by decide)
      have t3 := ca i hi 3 (by decide)
      clear ca
      simp only [tokCells, List.getElem?_cons_zero, List.getElem?_cons_succ, Nat.add_zero] at t0 t1 t2 t3
      have HG9 := Lib.hid (fun W h => HG.out ts[i] W h)
      unfold tv at HG9
      rw [hgf] at HG9
      generalize ts[i] = t at *
      obtain ⟨tk, tx, tn, tp⟩ := t
      simp only at t0 t1 t2 t3 HG9
      generalize hXB : (ByteArray.mk tx.toArray) = TB at *
      obtain ⟨p0, p1, p2, pf⟩ := pcell HB1.out
      have q0 := ((bel1 w (.cells #[.int .i64 0, .string ⟨#[]⟩, .int .i64 0, .int .i64 0] 50)).cell (p := ⟨g2, _, none⟩) hg2).trans t0
      have q1 := ((bel1 w (.cells #[.int .i64 0, .string ⟨#[]⟩, .int .i64 0, .int .i64 0] 50)).cell (p := ⟨g2, _, none⟩) hg2).trans t1
      have q2 := ((bel1 w (.cells #[.int .i64 0, .string ⟨#[]⟩, .int .i64 0, .int .i64 0] 50)).cell (p := ⟨g2, _, none⟩) hg2).trans t2
      have q3 := ((bel1 w (.cells #[.int .i64 0, .string ⟨#[]⟩, .int .i64 0, .int .i64 0] 50)).cell (p := ⟨g2, _, none⟩) hg2).trans t3
      have HX9 := Lib.hid (((bel1 w (.cells #[.int .i64 0, .string ⟨#[]⟩, .int .i64 0, .int .i64 0] 50)).cell (p := ⟨bx, 0, none⟩) hxl).trans hx)
      have hsz : (w.alloc (.cells #[.int .i64 0, .string ⟨#[]⟩, .int .i64 0, .int .i64 0] 50)).heap.size = w.heap.size + 1 := by simp
      have HN9 := Lib.hid (heap_alloc_new w (.cells #[.int .i64 0, .string ⟨#[]⟩, .int .i64 0, .int .i64 0] 50))
      simp only at p1 p2
      clear c0 c1 c2 f1 f2 t0 t1 t2 t3
      go_enter Tryz.func36, Tryz.ntmps36
      go_wp2_with fail
      generalize (w.alloc (.cells #[.int .i64 0, .string ⟨#[]⟩, .int .i64 0, .int .i64 0] 50)) = W0 at *
      refine wp_region_still_tail 28 (by kernel_rfl) (by kernel_rfl) ?_
      simp only [List.take_succ_cons, List.take_zero, List.drop_succ_cons, List.drop_zero]
      iterate 28 still_step
      refine wpStill_nil ?_
      change wpList _ _ _ _ _ (W0.drewN 1)
      go_wp2_with fail
      refine (HG9.out (W0.drewN 1) HX9.out).mono ?_
      rintro e w2 ⟨rfl, hbel⟩
      have HB2 := Lib.hid (p_below (w := W0.drewN 1) HB1.out hbel)
      have HG2 := Lib.hid (grown_below (grown_drewN HG1.out 1) hbel)
      have HN2 := Lib.hid (p_below (w := W0.drewN 1) HN9.out hbel)
      replace q0 := (hbel.cell (p := ⟨g2, _, none⟩) (by simp; omega)).trans q0
      replace q1 := (hbel.cell (p := ⟨g2, _, none⟩) (by simp; omega)).trans q1
      replace q2 := (hbel.cell (p := ⟨g2, _, none⟩) (by simp; omega)).trans q2
      replace q3 := (hbel.cell (p := ⟨g2, _, none⟩) (by simp; omega)).trans q3
      obtain ⟨r0, r1, r2, rf⟩ := pcell HB2.out
      simp only at r1 r2
      have rf1 := rf 1
      have rf2 := rf 2
      have n0 := cell_of HN2.out 0 _ rfl
      have n1 := cell_of HN2.out 1 _ rfl
      have n2 := cell_of HN2.out 2 _ rfl
      have n3 := cell_of HN2.out 3 _ rfl
      have m0 := free_of HN2.out 0
      have m1 := free_of HN2.out 1
      have m2 := free_of HN2.out 2
      have m3 := free_of HN2.out 3
      have hkb : w.heap.size ≠ b := by omega
      have hgk : g2 ≠ w.heap.size := by omega
      clear p0 p1 p2 pf rf hbel
      have HL := Lib.hid (set4_new (W := w2.setCell ⟨b, 2, none⟩ (.int .i64 3)) ((block_other _ _ _ _ hkb).trans HN2.out) (.int .i64 0) (.string ⟨#[]⟩) (.int .i64 0) (.int .i64 0))
      go_wp2
      have l0 := cell_of HL.out 0 _ rfl
      have l1 := cell_of HL.out 1 _ rfl
      have l2 := cell_of HL.out 2 _ rfl
      have l3 := cell_of HL.out 3 _ rfl
      refine bodyPost_ret (v := .agg #[.int .i64 0, .string ⟨#[]⟩, .int .i64 0, .int .i64 0]) (by simp [results, Tryz.results36, go_sem, l0, l1, l2, l3]) rfl ⟨rfl, ?_, ?_⟩
      · exact (set4_block (by omega) _ _ _ _).trans (pset_e HB2.out 3)
      · exact set4_grown (grown_set HG2.out _ _) (Nat.le_refl _) _ _ _ _
    · have d1 : decide ((ts.length : Int) ≤ (i : Int)) = true := by simp; omega
      have hz : w.heap.size ≠ b := by omega
      rw [ht, tv_zero]
      clear ht
      go_enter Tryz.func36, Tryz.ntmps36
      go_wp2_with fail
      go_quiet (fail)
      have HB2 : Hid ((((w.alloc (.cells #[.int .i64 0, .string ⟨#[]⟩, .int .i64 0, .int .i64 0] 50)).drewN nq).heap[b]? = some (pobj A ts.length c ⟨i, 0⟩))) := Lib.hid HB1.out
      go_wp2
      refine bodyPost_ret (v := .agg #[.int .i64 0, .string ⟨#[]⟩, .int .i64 0, .int .i64 0]) (by simp [results, Tryz.results36, go_sem]) rfl ⟨rfl, ?_, ?_⟩
      · exact (set4_block (by omega) _ _ _ _).trans (pset_e HB2.out 3)
      · exact set4_grown (grown_set (grown_drewN HG1.out _) _ _) (Nat.le_refl _) _ _ _ _
  · simp only at he hi hgd
    subst he
    rw [ht]
    clear ht
    have d1 : decide ((ts.length : Int) ≤ (i : Int)) = false := by simp; omega
    have d2 : decide (ts.length ≤ i) = false := by simp; omega
    have hi0 : (0 : Int) ≤ (i : Int) := by omega
    have hi1 : (i : Int) < (ts.length : Int) := by omega
    obtain ⟨g2, off, rfl, hg2, ca⟩ := row_get tok_len (by decide) HRR.out (by omega)
    have hgb : g2 ≠ b := hA g2 off rfl
    have t0 := ca i hi 0 (by decide)
    have t1 := ca i hi 1 (by decide)
    have t2 := ca i hi 2 (by decide)
    have t3 := ca i hi 3 (by decide)
    clear ca
    simp only [tokCells, List.getElem?_cons_zero, List.getElem?_cons_succ, Nat.add_zero] at t0 t1 t2 t3
    have HG9 := Lib.hid (fun W h => HG.out ts[i] W h)
    unfold tv at HG9
    rw [hgd] at HG9
    generalize ts[i] = t at *
    obtain ⟨tk, tx, tn, tp⟩ := t
    simp only at t0 t1 t2 t3 HG9
    generalize hXB : (ByteArray.mk tx.toArray) = TB at *
    obtain ⟨p0, p1, p2, pf⟩ := pcell HB1.out
    have q0 := ((bel1 w (.cells #[.int .i64 0, .string ⟨#[]⟩, .int .i64 0, .int .i64 0] 50)).cell (p := ⟨g2, _, none⟩) hg2).trans t0
    have q1 := ((bel1 w (.cells #[.int .i64 0, .string ⟨#[]⟩, .int .i64 0, .int .i64 0] 50)).cell (p := ⟨g2, _, none⟩) hg2).trans t1
    have q2 := ((bel1 w (.cells #[.int .i64 0, .string ⟨#[]⟩, .int .i64 0, .int .i64 0] 50)).cell (p := ⟨g2, _, none⟩) hg2).trans t2
    have q3 := ((bel1 w (.cells #[.int .i64 0, .string ⟨#[]⟩, .int .i64 0, .int .i64 0] 50)).cell (p := ⟨g2, _, none⟩) hg2).trans t3
    have HX9 := Lib.hid (((bel1 w (.cells #[.int .i64 0, .string ⟨#[]⟩, .int .i64 0, .int .i64 0] 50)).cell (p := ⟨bx, 0, none⟩) hxl).trans hx)
    have hsz : (w.alloc (.cells #[.int .i64 0, .string ⟨#[]⟩, .int .i64 0, .int .i64 0] 50)).heap.size = w.heap.size + 1 := by simp
    have HN9 := Lib.hid (heap_alloc_new w (.cells #[.int .i64 0, .string ⟨#[]⟩, .int .i64 0, .int .i64 0] 50))
    simp only at p1 p2
    clear c0 c1 c2 f1 f2 t0 t1 t2 t3
    go_enter Tryz.func36, Tryz.ntmps36
    go_wp2_with fail
    generalize (w.alloc (.cells #[.int .i64 0, .string ⟨#[]⟩, .int .i64 0, .int .i64 0] 50)) = W0 at *
    refine wp_region_still_tail 28 (by kernel_rfl) (by kernel_rfl) ?_
    simp only [List.take_succ_cons, List.take_zero, List.drop_succ_cons, List.drop_zero]
    iterate 28 still_step
    refine wpStill_nil ?_
    change wpList _ _ _ _ _ (W0.drewN 1)
    go_wp2_with fail
    refine (HG9.out (W0.drewN 1) HX9.out).mono ?_
    rintro e w2 ⟨rfl, hbel⟩
    have HB2 := Lib.hid (p_below (w := W0.drewN 1) HB1.out hbel)
    have HG2 := Lib.hid (grown_below (grown_drewN HG1.out 1) hbel)
    have HN2 := Lib.hid (p_below (w := W0.drewN 1) HN9.out hbel)
    replace q0 := (hbel.cell (p := ⟨g2, _, none⟩) (by simp; omega)).trans q0
    replace q1 := (hbel.cell (p := ⟨g2, _, none⟩) (by simp; omega)).trans q1
    replace q2 := (hbel.cell (p := ⟨g2, _, none⟩) (by simp; omega)).trans q2
    replace q3 := (hbel.cell (p := ⟨g2, _, none⟩) (by simp; omega)).trans q3
    obtain ⟨r0, r1, r2, rf⟩ := pcell HB2.out
    simp only at r1 r2
    have rf1 := rf 1
    have rf2 := rf 2
    have n0 := cell_of HN2.out 0 _ rfl
    have n1 := cell_of HN2.out 1 _ rfl
    have n2 := cell_of HN2.out 2 _ rfl
    have n3 := cell_of HN2.out 3 _ rfl
    have m0 := free_of HN2.out 0
    have m1 := free_of HN2.out 1
    have m2 := free_of HN2.out 2
    have m3 := free_of HN2.out 3
    have hkb : w.heap.size ≠ b := by omega
    have hgk : g2 ≠ w.heap.size := by omega
    clear p0 p1 p2 pf rf hbel
    have HB3 : Hid ((w2.setCell ⟨b, 1, none⟩ (.int .i64 ((i : Int) + 1))).heap[b]? = some (pobj (some ⟨g2, off, none⟩) ts.length c ⟨i + 1, 0⟩)) := Lib.hid (pset_i HB2.out (i + 1))
    have HN3 : Hid ((w2.setCell ⟨b, 1, none⟩ (.int .i64 ((i : Int) + 1))).heap[w.heap.size]? = some (.cells #[.int .i64 0, .string ⟨#[]⟩, .int .i64 0, .int .i64 0] 50)) := Lib.hid ((block_other _ _ _ _ hkb).trans HN2.out)
    have HG3 := Lib.hid (grown_set HG2.out 1 (.int .i64 ((i : Int) + 1)))
    have s0 : (w2.setCell ⟨b, 1, none⟩ (.int .i64 ((i : Int) + 1))).cell? ⟨g2, off + i * 4, none⟩ = some (.int .i64 tk) := by rw [World.cell?_of_block (block_other _ _ _ _ hgb)]; exact q0
    have s1 : (w2.setCell ⟨b, 1, none⟩ (.int .i64 ((i : Int) + 1))).cell? ⟨g2, off + i * 4 + 1, none⟩ = some (.string TB) := by rw [World.cell?_of_block (block_other _ _ _ _ hgb)]; exact q1
    have s2 : (w2.setCell ⟨b, 1, none⟩ (.int .i64 ((i : Int) + 1))).cell? ⟨g2, off + i * 4 + 2, none⟩ = some (.int .i64 tn) := by rw [World.cell?_of_block (block_other _ _ _ _ hgb)]; exact q2
    have s3 : (w2.setCell ⟨b, 1, none⟩ (.int .i64 ((i : Int) + 1))).cell? ⟨g2, off + i * 4 + 3, none⟩ = some (.int .i64 (tp : Int)) := by rw [World.cell?_of_block (block_other _ _ _ _ hgb)]; exact q3
    clear q0 q1 q2 q3 n0 n1 n2 n3 m0 m1 m2 m3
    have x1 : (i : Int) + 1 ≤ 9223372036854775807 := by omega
    go_wp2_with fail
    obtain ⟨u0, u1, u2, uf⟩ := pcell HB3.out
    have HN4 := Lib.hid HN3.out
    have n0 := cell_of HN4.out 0 _ rfl
    have n1 := cell_of HN4.out 1 _ rfl
    have n2 := cell_of HN4.out 2 _ rfl
    have n3 := cell_of HN4.out 3 _ rfl
    have m0 := free_of HN4.out 0
    have m1 := free_of HN4.out 1
    have m2 := free_of HN4.out 2
    have m3 := free_of HN4.out 3
    generalize (w2.setCell ⟨b, 1, none⟩ (.int .i64 ((i : Int) + 1))) = W3 at *
    have x2 : IntKind.i64.wrap (i : Int) = (i : Int) := by rw [wrapEq]; unfold wrap64; omega
    have x3 : IntKind.i64.wrap ((i : Int) + 1 - 1) = (i : Int) := by rw [wrapEq]; unfold wrap64; omega
    refine wp_region_still_tail 11 (by kernel_rfl) (by kernel_rfl) ?_
    simp only [List.take_succ_cons, List.take_zero, List.drop_succ_cons, List.drop_zero]
    iterate 11 still_step
    refine wpStill_nil ?_
    change wpList _ _ _ _ _ (W3.drewN 1)
    have HN5 : Hid ((W3.drewN 1).heap[w.heap.size]? = some (.cells #[.int .i64 0, .string ⟨#[]⟩, .int .i64 0, .int .i64 0] 50)) := Lib.hid HN4.out
    have HL := Lib.hid (set4_new HN5.out (.int .i64 tk) (.string TB) (.int .i64 tn) (.int .i64 (tp : Int)))
    have HB4 : Hid ((W3.drewN 1).heap[b]? = some (pobj (some ⟨g2, off, none⟩) ts.length c ⟨i + 1, 0⟩)) := Lib.hid HB3.out
    have HG4 := Lib.hid (grown_drewN HG3.out 1)
    replace n0 := cell_of HN5.out 0 _ rfl
    replace n1 := cell_of HN5.out 1 _ rfl
    replace n2 := cell_of HN5.out 2 _ rfl
    replace n3 := cell_of HN5.out 3 _ rfl
    replace m0 := free_of HN5.out 0
    replace m1 := free_of HN5.out 1
    replace m2 := free_of HN5.out 2
    replace m3 := free_of HN5.out 3
    generalize (W3.drewN 1) = W4 at *
    clear s0 s1 s2 s3 u0 u1 u2 uf r0 r1 r2 rf1 rf2
    go_wp2
    have l0 := cell_of HL.out 0 _ rfl
    have l1 := cell_of HL.out 1 _ rfl
    have l2 := cell_of HL.out 2 _ rfl
    have l3 := cell_of HL.out 3 _ rfl
    refine bodyPost_ret (v := .agg #[.int .i64 tk, .string TB, .int .i64 tn, .int .i64 (tp : Int)]) (by simp [results, Tryz.results36, go_sem, l0, l1, l2, l3]) rfl ⟨by rw [← hXB]; rfl, ?_, ?_⟩
    · exact (set4_block (by omega) _ _ _ _).trans HB4.out
    · exact set4_grown HG4.out (Nat.le_refl _) _ _ _ _

set_option maxRecDepth 100000 in
set_option maxHeartbeats 1000000 in
theorem token_N (g : FuncId) (good : Lex.Tok → Bool) (eg : Enters Tryz.prog g)
    (hg : ∀ (t : Lex.Tok) (W : World), Calls Tryz.prog g #[tv t] W fun e w' => e = .returned (.bool (good t)) ∧ Below W.heap.size W w')
    (ts : List Lex.Tok) (A : Option Addr) (c b : Nat) (s : Pq.St) (w : World) (hb : w.heap[b]? = some (pobj A ts.length c s)) (hr : Row w A (ts.flatMap tokCells)) (hA : Apart A b) (hn : ts.length ≤ 1000000) :
    Calls Tryz.prog 36 #[.pointer (some ⟨b, 0, none⟩), .func (.func g) #[] #[]] w fun e w' => e = .returned (tv (Pq.tok ts good s).1) ∧ w'.heap[b]? = some (pobj A ts.length c (Pq.tok ts good s).2) ∧ w.grownBy w' (some b) := by
  obtain ⟨c0, c1, c2, cf⟩ := pcell hb
  have hlt := heap_lt hb
  have f1 := cf 1
  have f2 := cf 2
  clear cf
  obtain ⟨i, er⟩ := s
  simp only at c1 c2
  have HB := Lib.hid hb
  have HB1 := Lib.hid (block_old (o' := (.cells #[.int .i64 0, .string ⟨#[]⟩, .int .i64 0, .int .i64 0] 50)) hb)
  have HG1 := Lib.hid (World.grownBy_alloc w (.cells #[.int .i64 0, .string ⟨#[]⟩, .int .i64 0, .int .i64 0] 50) (some b))
  have HRR := Lib.hid hr
  have HG := Lib.hid hg
  clear hb hr hg
  skip
  unfold Enters at eg
  rcases Pq.tok_ways ts good ⟨i, er⟩ with ⟨he, ht⟩ | ⟨he, ht⟩ | ⟨he, hi, hgd, ht⟩
  · rw [ht, tv_zero]
    clear ht
    simp only at he
    have e1 : (er == 0) = false := by simpa using he
    have e2 : (er != 0) = true := by simpa using he
    go_enter Tryz.func36, Tryz.ntmps36
    go_wp2_with fail
    go_quiet (fail)
    go_wp2
    refine bodyPost_ret (v := .agg #[.int .i64 0, .string ⟨#[]⟩, .int .i64 0, .int .i64 0]) (by simp [results, Tryz.results36, go_sem]) rfl ⟨rfl, ?_, ?_⟩
    · exact (set4_block (by omega) _ _ _ _).trans HB1.out
    · exact set4_grown (grown_drewN HG1.out _) (Nat.le_refl _) _ _ _ _
  · simp only at he
    subst he
    by_cases hi : i < ts.length
    · -- a token that does not fulfil the condition
      have hgf : good ts[i] = false := by
        cases h : good ts[i]
        · rfl
        · have : Pq.tok ts good ⟨i, 0⟩ = (ts[i], ⟨i + 1, 0⟩) := by unfold Pq.tok; simp [List.getElem?_eq_getElem hi, h]
          rw [this] at ht
          simp at ht
      rw [ht, tv_zero]
      clear ht
      have d1 : decide ((ts.length : Int) ≤ (i : Int)) = false := by simp; omega
      have d2 : decide (ts.length ≤ i) = false := by simp; omega
      have hi0 : (0 : Int) ≤ (i : Int) := by omega
      have hi1 : (i : Int) < (ts.length : Int) := by omega
      obtain ⟨g2, off, rfl, hg2, ca⟩ := row_get tok_len (by decide) HRR.out (by omega)
      have hgb : g2 ≠ b := hA g2 off rfl
      have t0 := ca i hi 0 (by decide)
      have t1 := ca i hi 1 (by decide)
      have t2 := ca i hi 2 (by decide)
      have t3 := ca i hi 3 (by decide)
      clear ca
      simp only [tokCells, List.getElem?_cons_zero, List.getElem?_cons_succ, Nat.add_zero] at t0 t1 t2 t3
      have HG9 := Lib.hid (fun W => HG.out ts[i] W)
      unfold tv at HG9
      rw [hgf] at HG9
      generalize ts[i] = t at *
      obtain ⟨tk, tx, tn, tp⟩ := t
      simp only at t0 t1 t2 t3 HG9
      generalize hXB : (ByteArray.mk tx.toArray) = TB at *
      obtain ⟨p0, p1, p2, pf⟩ := pcell HB1.out
      have q0 := ((bel1 w (.cells #[.int .i64 0, .string ⟨#[]⟩, .int .i64 0, .int .i64 0] 50)).cell (p := ⟨g2, _, none⟩) hg2).trans t0
      have q1 := ((bel1 w (.cells #[.int .i64 0, .string ⟨#[]⟩, .int .i64 0, .int .i64 0] 50)).cell (p := ⟨g2, _, none⟩) hg2).trans t1
      have q2 := ((bel1 w (.cells #[.int .i64 0, .string ⟨#[]⟩, .int .i64 0, .int .i64 0] 50)).cell (p := ⟨g2, _, none⟩) hg2).trans t2
      have q3 := ((bel1 w (.cells #[.int .i64 0, .string ⟨#[]⟩, .int .i64 0, .int .i64 0] 50)).cell (p := ⟨g2, _, none⟩) hg2).trans t3
      skip
      have hsz : (w.alloc (.cells #[.int .i64 0, .string ⟨#[]⟩, .int .i64 0, .int .i64 0] 50)).heap.size = w.heap.size + 1 := by simp
      have HN9 := Lib.hid (heap_alloc_new w (.cells #[.int .i64 0, .string ⟨#[]⟩, .int .i64 0, .int .i64 0] 50))
      simp only at p1 p2
      clear c0 c1 c2 f1 f2 t0 t1 t2 t3
      go_enter Tryz.func36, Tryz.ntmps36
      go_wp2_with fail
      generalize (w.alloc (.cells #[.int .i64 0, .string ⟨#[]⟩, .int .i64 0, .int .i64 0] 50)) = W0 at *
      refine wp_region_still_tail 28 (by kernel_rfl) (by kernel_rfl) ?_
      simp only [List.take_succ_cons, List.take_zero, List.drop_succ_cons, List.drop_zero]
      iterate 28 still_step
      refine wpStill_nil ?_
      change wpList _ _ _ _ _ (W0.drewN 1)
      go_wp2_with fail
      refine (HG9.out (W0.drewN 1)).mono ?_
      rintro e w2 ⟨rfl, hbel⟩
      have HB2 := Lib.hid (p_below (w := W0.drewN 1) HB1.out hbel)
      have HG2 := Lib.hid (grown_below (grown_drewN HG1.out 1) hbel)
      have HN2 := Lib.hid (p_below (w := W0.drewN 1) HN9.out hbel)
      replace q0 := (hbel.cell (p := ⟨g2, _, none⟩) (by simp; omega)).trans q0
      replace q1 := (hbel.cell (p := ⟨g2, _, none⟩) (by simp; omega)).trans q1
      replace q2 := (hbel.cell (p := ⟨g2, _, none⟩) (by simp; omega)).trans q2
      replace q3 := (hbel.cell (p := ⟨g2, _, none⟩) (by simp; omega)).trans q3
      obtain ⟨r0, r1, r2, rf⟩ := pcell HB2.out
      simp only at r1 r2
      have rf1 := rf 1
      have rf2 := rf 2
      have n0 := cell_of HN2.out 0 _ rfl
      have n1 := cell_of HN2.out 1 _ rfl
      have n2 := cell_of HN2.out 2 _ rfl
      have n3 := cell_of HN2.out 3 _ rfl
      have m0 := free_of HN2.out 0
      have m1 := free_of HN2.out 1
      have m2 := free_of HN2.out 2
      have m3 := free_of HN2.out 3
      have hkb : w.heap.size ≠ b := by omega
      have hgk : g2 ≠ w.heap.size := by omega
      clear p0 p1 p2 pf rf hbel
      have HL := Lib.hid (set4_new (W := w2.setCell ⟨b, 2, none⟩ (.int .i64 3)) ((block_other _ _ _ _ hkb).trans HN2.out) (.int .i64 0) (.string ⟨#[]⟩) (.int .i64 0) (.int .i64 0))
      go_wp2
      have l0 := cell_of HL.out 0 _ rfl
      have l1 := cell_of HL.out 1 _ rfl
      have l2 := cell_of HL.out 2 _ rfl
      have l3 := cell_of HL.out 3 _ rfl
      refine bodyPost_ret (v := .agg #[.int .i64 0, .string ⟨#[]⟩, .int .i64 0, .int .i64 0]) (by simp [results, Tryz.results36, go_sem, l0, l1, l2, l3]) rfl ⟨rfl, ?_, ?_⟩
      · exact (set4_block (by omega) _ _ _ _).trans (pset_e HB2.out 3)
      · exact set4_grown (grown_set HG2.out _ _) (Nat.le_refl _) _ _ _ _
    · have d1 : decide ((ts.length : Int) ≤ (i : Int)) = true := by simp; omega
      have hz : w.heap.size ≠ b := by omega
      rw [ht, tv_zero]
      clear ht
      go_enter Tryz.func36, Tryz.ntmps36
      go_wp2_with fail
      go_quiet (fail)
      have HB2 : Hid ((((w.alloc (.cells #[.int .i64 0, .string ⟨#[]⟩, .int .i64 0, .int .i64 0] 50)).drewN nq).heap[b]? = some (pobj A ts.length c ⟨i, 0⟩))) := Lib.hid HB1.out
      go_wp2
      refine bodyPost_ret (v := .agg #[.int .i64 0, .string ⟨#[]⟩, .int .i64 0, .int .i64 0]) (by simp [results, Tryz.results36, go_sem]) rfl ⟨rfl, ?_, ?_⟩
      · exact (set4_block (by omega) _ _ _ _).trans (pset_e HB2.out 3)
      · exact set4_grown (grown_set (grown_drewN HG1.out _) _ _) (Nat.le_refl _) _ _ _ _
  · simp only at he hi hgd
    subst he
    rw [ht]
    clear ht
    have d1 : decide ((ts.length : Int) ≤ (i : Int)) = false := by simp; omega
    have d2 : decide (ts.length ≤ i) = false := by simp; omega
    have hi0 : (0 : Int) ≤ (i : Int) := by omega
    have hi1 : (i : Int) < (ts.length : Int) := by omega
    obtain ⟨g2, off, rfl, hg2, ca⟩ := row_get tok_len (by decide) HRR.out (by omega)
    have hgb : g2 ≠ b := hA g2 off rfl
    have t0 := ca i hi 0 (by decide)
    have t1 := ca i hi 1 (by decide)
    have t2 := ca i hi 2 (by decide)
    have t3 := ca i hi 3 (by decide)
    clear ca
    simp only [tokCells, List.getElem?_cons_zero, List.getElem?_cons_succ, Nat.add_zero] at t0 t1 t2 t3
    have HG9 := Lib.hid (fun W => HG.out ts[i] W)
    unfold tv at HG9
    rw [hgd] at HG9
    generalize ts[i] = t at *
    obtain ⟨tk, tx, tn, tp⟩ := t
    simp only at t0 t1 t2 t3 HG9
    generalize hXB : (ByteArray.mk tx.toArray) = TB at *
    obtain ⟨p0, p1, p2, pf⟩ := pcell HB1.out
    have q0 := ((bel1 w (.cells #[.int .i64 0, .string ⟨#[]⟩, .int .i64 0, .int .i64 0] 50)).cell (p := ⟨g2, _, none⟩) hg2).trans t0
    have q1 := ((bel1 w (.cells #[.int .i64 0, .string ⟨#[]⟩, .int .i64 0, .int .i64 0] 50)).cell (p := ⟨g2, _, none⟩) hg2).trans t1
    have q2 := ((bel1 w (.cells #[.int .i64 0, .string ⟨#[]⟩, .int .i64 0, .int .i64 0] 50)).cell (p := ⟨g2, _, none⟩) hg2).trans t2
    have q3 := ((bel1 w (.cells #[.int .i64 0, .string ⟨#[]⟩, .int .i64 0, .int .i64 0] 50)).cell (p := ⟨g2, _, none⟩) hg2).trans t3
    skip
    have hsz : (w.alloc (.cells #[.int .i64 0, .string ⟨#[]⟩, .int .i64 0, .int .i64 0] 50)).heap.size = w.heap.size + 1 := by simp
    have HN9 := Lib.hid (heap_alloc_new w (.cells #[.int .i64 0, .string ⟨#[]⟩, .int .i64 0, .int .i64 0] 50))
    simp only at p1 p2
    clear c0 c1 c2 f1 f2 t0 t1 t2 t3
    go_enter Tryz.func36, Tryz.ntmps36
    go_wp2_with fail
    generalize (w.alloc (.cells #[.int .i64 0, .string ⟨#[]⟩, .int .i64 0, .int .i64 0] 50)) = W0 at *
    refine wp_region_still_tail 28 (by kernel_rfl) (by kernel_rfl) ?_
    simp only [List.take_succ_cons, List.take_zero, List.drop_succ_cons, List.drop_zero]
    iterate 28 still_step
    refine wpStill_nil ?_
    change wpList _ _ _ _ _ (W0.drewN 1)
    go_wp2_with fail
    refine (HG9.out (W0.drewN 1)).mono ?_
    rintro e w2 ⟨rfl, hbel⟩
    have HB2 := Lib.hid (p_below (w := W0.drewN 1) HB1.out hbel)
    have HG2 := Lib.hid (grown_below (grown_drewN HG1.out 1) hbel)
    have HN2 := Lib.hid (p_below (w := W0.drewN 1) HN9.out hbel)
    replace q0 := (hbel.cell (p := ⟨g2, _, none⟩) (by simp; omega)).trans q0
    replace q1 := (hbel.cell (p := ⟨g2, _, none⟩) (by simp; omega)).trans q1
    replace q2 := (hbel.cell (p := ⟨g2, _, none⟩) (by simp; omega)).trans q2
    replace q3 := (hbel.cell (p := ⟨g2, _, none⟩) (by simp; omega)).trans q3
    obtain ⟨r0, r1, r2, rf⟩ := pcell HB2.out
    simp only at r1 r2
    have rf1 := rf 1
    have rf2 := rf 2
    have n0 := cell_of HN2.out 0 _ rfl
    have n1 := cell_of HN2.out 1 _ rfl
    have n2 := cell_of HN2.out 2 _ rfl
    have n3 := cell_of HN2.out 3 _ rfl
    have m0 := free_of HN2.out 0
    have m1 := free_of HN2.out 1
    have m2 := free_of HN2.out 2
    have m3 := free_of HN2.out 3
    have hkb : w.heap.size ≠ b := by omega
    have hgk : g2 ≠ w.heap.size := by omega
    clear p0 p1 p2 pf rf hbel
    have HB3 : Hid ((w2.setCell ⟨b, 1, none⟩ (.int .i64 ((i : Int) + 1))).heap[b]? = some (pobj (some ⟨g2, off, none⟩) ts.length c ⟨i + 1, 0⟩)) := Lib.hid (pset_i HB2.out (i + 1))
    have HN3 : Hid ((w2.setCell ⟨b, 1, none⟩ (.int .i64 ((i : Int) + 1))).heap[w.heap.size]? = some (.cells #[.int .i64 0, .string ⟨#[]⟩, .int .i64 0, .int .i64 0] 50)) := Lib.hid ((block_other _ _ _ _ hkb).trans HN2.out)
    have HG3 := Lib.hid (grown_set HG2.out 1 (.int .i64 ((i : Int) + 1)))
    have s0 : (w2.setCell ⟨b, 1, none⟩ (.int .i64 ((i : Int) + 1))).cell? ⟨g2, off + i * 4, none⟩ = some (.int .i64 tk) := by rw [World.cell?_of_block (block_other _ _ _ _ hgb)]; exact q0
    have s1 : (w2.setCell ⟨b, 1, none⟩ (.int .i64 ((i : Int) + 1))).cell? ⟨g2, off + i * 4 + 1, none⟩ = some (.string TB) := by rw [World.cell?_of_block (block_other _ _ _ _ hgb)]; exact q1
    have s2 : (w2.setCell ⟨b, 1, none⟩ (.int .i64 ((i : Int) + 1))).cell? ⟨g2, off + i * 4 + 2, none⟩ = some (.int .i64 tn) := by rw [World.cell?_of_block (block_other _ _ _ _ hgb)]; exact q2
    have s3 : (w2.setCell ⟨b, 1, none⟩ (.int .i64 ((i : Int) + 1))).cell? ⟨g2, off + i * 4 + 3, none⟩ = some (.int .i64 (tp : Int)) := by rw [World.cell?_of_block (block_other _ _ _ _ hgb)]; exact q3
    clear q0 q1 q2 q3 n0 n1 n2 n3 m0 m1 m2 m3
    have x1 : (i : Int) + 1 ≤ 9223372036854775807 := by omega
    go_wp2_with fail
    obtain ⟨u0, u1, u2, uf⟩ := pcell HB3.out
    have HN4 := Lib.hid HN3.out
    have n0 := cell_of HN4.out 0 _ rfl
    have n1 := cell_of HN4.out 1 _ rfl
    have n2 := cell_of HN4.out 2 _ rfl
    have n3 := cell_of HN4.out 3 _ rfl
    have m0 := free_of HN4.out 0
    have m1 := free_of HN4.out 1
    have m2 := free_of HN4.out 2
    have m3 := free_of HN4.out 3
    generalize (w2.setCell ⟨b, 1, none⟩ (.int .i64 ((i : Int) + 1))) = W3 at *
    have x2 : IntKind.i64.wrap (i : Int) = (i : Int) := by rw [wrapEq]; unfold wrap64; omega
    have x3 : IntKind.i64.wrap ((i : Int) + 1 - 1) = (i : Int) := by rw [wrapEq]; unfold wrap64; omega
    refine wp_region_still_tail 11 (by kernel_rfl) (by kernel_rfl) ?_
    simp only [List.take_succ_cons, List.take_zero, List.drop_succ_cons, List.drop_zero]
    iterate 11 still_step
    refine wpStill_nil ?_
    change wpList _ _ _ _ _ (W3.drewN 1)
    have HN5 : Hid ((W3.drewN 1).heap[w.heap.size]? = some (.cells #[.int .i64 0, .string ⟨#[]⟩, .int .i64 0, .int .i64 0] 50)) := Lib.hid HN4.out
    have HL := Lib.hid (set4_new HN5.out (.int .i64 tk) (.string TB) (.int .i64 tn) (.int .i64 (tp : Int)))
    have HB4 : Hid ((W3.drewN 1).heap[b]? = some (pobj (some ⟨g2, off, none⟩) ts.length c ⟨i + 1, 0⟩)) := Lib.hid HB3.out
    have HG4 := Lib.hid (grown_drewN HG3.out 1)
    replace n0 := cell_of HN5.out 0 _ rfl
    replace n1 := cell_of HN5.out 1 _ rfl
    replace n2 := cell_of HN5.out 2 _ rfl
    replace n3 := cell_of HN5.out 3 _ rfl
    replace m0 := free_of HN5.out 0
    replace m1 := free_of HN5.out 1
    replace m2 := free_of HN5.out 2
    replace m3 := free_of HN5.out 3
    generalize (W3.drewN 1) = W4 at *
    clear s0 s1 s2 s3 u0 u1 u2 uf r0 r1 r2 rf1 rf2
    go_wp2
    have l0 := cell_of HL.out 0 _ rfl
    have l1 := cell_of HL.out 1 _ rfl
    have l2 := cell_of HL.out 2 _ rfl
    have l3 := cell_of HL.out 3 _ rfl
    refine bodyPost_ret (v := .agg #[.int .i64 tk, .string TB, .int .i64 tn, .int .i64 (tp : Int)]) (by simp [results, Tryz.results36, go_sem, l0, l1, l2, l3]) rfl ⟨by rw [← hXB]; rfl, ?_, ?_⟩
    · exact (set4_block (by omega) _ _ _ _).trans HB4.out
    · exact set4_grown HG4.out (Nat.le_refl _) _ _ _ _
end Go.Proofs.YteldekkodhfkkaaGreatDoor.PqW
