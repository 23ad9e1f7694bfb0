/- Walk: the reference's Parse. Conditions: none. -/
import Derived.Test.YteldekkodhfkkaaGreatDoorPqW5
import Derived.Test.YteldekkodhfkkaaGreatDoorPqW6

namespace Go.Proofs.YteldekkodhfkkaaGreatDoor.PqW
open Go Go.RowKit Go.Proofs.YteldekkodhfkkaaGreatDoor.Mem
open Go.Proofs.YteldekkodhfkkaaGreatDoor.LexW (tokCells toksCells)
open Go.Proofs.YteldekkodhfkkaaGreatDoor.OdW (text_eq)

/-- The reference's parser as an object; en: the offset of the end. -/
def rat (ts : List Lex.Tok) (en : Nat) (s : Pq.St) : Nat := if s.e = 0 then 0 else Pq.off ts en s.i
def robj (A : Option Addr) (c : Nat) (ts : List Lex.Tok) (en : Nat) (s : Pq.St) : Obj := .cells #[.slice A ts.length c, .int .i64 (s.i : Int), .int .i64 (en : Int), .int .i64 (rat ts en s : Int), .int .i64 s.e] 56 (0, 0)
theorem rcell {w : World} {b : Nat} {A : Option Addr} {c en : Nat} {ts : List Lex.Tok} {s : Pq.St} (h : w.heap[b]? = some (robj A c ts en s)) : w.cell? ⟨b, 0, none⟩ = some (.slice A ts.length c) ∧ w.cell? ⟨b, 1, none⟩ = some (.int .i64 (s.i : Int)) ∧ w.cell? ⟨b, 2, none⟩ = some (.int .i64 (en : Int)) ∧ w.cell? ⟨b, 3, none⟩ = some (.int .i64 (rat ts en s : Int)) ∧ w.cell? ⟨b, 4, none⟩ = some (.int .i64 s.e) ∧ ∀ j, w.frozen? ⟨b, j, none⟩ = false :=
  ⟨cell_of h 0 _ rfl, cell_of h 1 _ rfl, cell_of h 2 _ rfl, cell_of h 3 _ rfl, cell_of h 4 _ rfl, fun j => free_of h j⟩
theorem rset_i {w : World} {b : Nat} {A : Option Addr} {c en : Nat} {ts : List Lex.Tok} {s : Pq.St} (h : w.heap[b]? = some (robj A c ts en s)) (he : s.e = 0) (i : Nat) : (w.setCell ⟨b, 1, none⟩ (.int .i64 (i : Int))).heap[b]? = some (robj A c ts en ⟨i, s.e⟩) := by
  have := block_set h 1 (.int .i64 (i : Int))
  rw [this]
  unfold robj rat
  simp [he]
/-- The state behind 'fail'. -/
def failed (s : Pq.St) (k : Int) : Pq.St := if s.e = 0 then ⟨s.i, k⟩ else s
theorem expect_fail {ts : List Lex.Tok} {x : List UInt8} {s : Pq.St} (h : Pq.next ts x s = false) : Pq.expect ts x s = failed s 3 := by
  unfold Pq.expect failed
  rcases Pq.tok_ways ts (Pq.isT x) s with ⟨h1, h2⟩ | ⟨h1, h2⟩ | ⟨h1, h3, h4, h2⟩ <;> rw [h2]
  · rw [if_neg h1]
  · rw [if_pos h1]
  · unfold Pq.next at h
    rw [List.getElem?_eq_getElem h3] at h
    simp [h1, h4] at h
theorem expect_next {ts : List Lex.Tok} {x : List UInt8} {s : Pq.St} (h : Pq.next ts x s = true) : s.e = 0 ∧ Pq.expect ts x s = ⟨s.i + 1, s.e⟩ := by
  have hl := Pq.next_lt h
  refine ⟨hl.1, ?_⟩
  unfold Pq.expect
  rcases Pq.tok_ways ts (Pq.isT x) s with ⟨h1, h2⟩ | ⟨h1, h2⟩ | ⟨h1, h3, h4, h2⟩
  · exact absurd hl.1 h1
  · unfold Pq.next at h
    rw [List.getElem?_eq_getElem hl.2] at h
    simp [hl.1] at h
    unfold Pq.tok at h2
    rw [if_pos hl.1, List.getElem?_eq_getElem hl.2] at h2
    simp [h] at h2
  · rw [h2, hl.1]

set_option maxRecDepth 100000 in
set_option maxHeartbeats 1000000 in
theorem rfail_any (k : Int) (hk : k ≠ 0) (ts : List Lex.Tok) (A : Option Addr) (c b : Nat) (en : Nat) (s : Pq.St) (w : World) (hb : w.heap[b]? = some (robj A c ts en s)) (hr : Row w A (ts.flatMap tokCells)) (hA : Apart A b) (hn : ts.length ≤ 1000000) :
    Calls Tryz.prog 43 #[.pointer (some ⟨b, 0, none⟩), .int .i64 k] w fun e w' => e = .returned (.tuple #[]) ∧ w'.heap[b]? = some (robj A c ts en (failed s k)) ∧ w.grownBy w' (some b) := by
  have HB := Lib.hid hb
  have hlt := heap_lt hb
  obtain ⟨c0, c1, c2, c3, c4, cf⟩ := rcell hb
  have f3 := cf 3
  have f4 := cf 4
  clear hb cf
  obtain ⟨i, er⟩ := s
  unfold failed
  simp only at c1 c4 ⊢
  by_cases he : er = 0
  · subst he
    rw [if_pos rfl]
    by_cases hi : i < ts.length
    · have hAb : ∀ g off, A = some ⟨g, off, none⟩ → g ≠ b := hA
      obtain ⟨g2, off, rfl, hg2, ca⟩ := row_get tok_len (by decide) hr (by omega)
      have t0 := ca i hi 0 (by decide)
      have t1 := ca i hi 1 (by decide)
      have t2 := ca i hi 2 (by decide)
      have t3 := ca i hi 3 (by decide)
      clear ca hr
      simp only [tokCells, List.getElem?_cons_zero, List.getElem?_cons_succ, Nat.add_zero] at t0 t1 t2 t3
      have hi0 : (0 : Int) ≤ (i : Int) := by omega
      have hi1 : (i : Int) < (ts.length : Int) := by omega
      have hgb : g2 ≠ b := hAb g2 off rfl
      clear hAb
      have HR : Hid (rat ts en ⟨i, k⟩ = ts[i].pos) := Lib.hid (by unfold rat Pq.off; simp only; rw [if_neg hk, List.getElem?_eq_getElem hi])
      have e5 : (((w.setCell ⟨b, 4, none⟩ (.int .i64 k)).setCell ⟨b, 3, none⟩ (.int .i64 (en : Int))).heap[b]? = some (.cells #[.slice (some ⟨g2, off, none⟩) ts.length c, .int .i64 (i : Int), .int .i64 (en : Int), .int .i64 (en : Int), .int .i64 k] 56 (0, 0))) := by
        have h1 := block_set HB.out 4 (.int .i64 k)
        exact block_set h1 3 (.int .i64 (en : Int))
      have HE5 := Lib.hid e5
      have s3 : (((w.setCell ⟨b, 4, none⟩ (.int .i64 k)).setCell ⟨b, 3, none⟩ (.int .i64 (en : Int)))).cell? ⟨g2, off + i * 4 + 3, none⟩ = some (.int .i64 (ts[i].pos : Int)) := by
        rw [World.cell?_of_block (block_other _ _ _ _ hgb), World.cell?_of_block (block_other _ _ _ _ hgb)]; exact t3
      clear e5 t0 t1 t2 t3 hk
      have d1 : decide ((i : Int) < (ts.length : Int)) = true := by simp; omega
      have d2 : decide (i < ts.length) = true := by simp; omega
      have d3 : decide ((ts.length : Int) ≤ (i : Int)) = false := by simp; omega
      have d4 : decide (ts.length ≤ i) = false := by simp; omega
      generalize ts[i].pos = ps at *
      have HG0 := Lib.hid (grown_set (grown_set (World.grownBy.refl w (some b)) 4 (.int .i64 k)) 3 (.int .i64 (en : Int)))
      go_enter Tryz.func43, Tryz.ntmps43
      go_wp2_with fail
      have u0 := cell_of HE5.out 0 _ rfl
      have u1 := cell_of HE5.out 1 _ rfl
      have u3 := cell_of HE5.out 3 _ rfl
      have v3 := free_of HE5.out 3
      generalize ((w.setCell ⟨b, 4, none⟩ (.int .i64 k)).setCell ⟨b, 3, none⟩ (.int .i64 (en : Int))) = W at *
      clear c0 c1 c2 c3 c4 f3 f4
      go_quiet (fail)
      go_wp2_with fail
      have HE6 : Hid ((W.drewN nq).heap[b]? = some (.cells #[.slice (some ⟨g2, off, none⟩) ts.length c, .int .i64 (i : Int), .int .i64 (en : Int), .int .i64 (en : Int), .int .i64 k] 56 (0, 0))) := Lib.hid HE5.out
      have HG1 := Lib.hid (grown_drewN HG0.out nq)
      replace u0 := cell_of HE6.out 0 _ rfl
      replace u1 := cell_of HE6.out 1 _ rfl
      replace u3 := cell_of HE6.out 3 _ rfl
      replace v3 := free_of HE6.out 3
      replace s3 : (W.drewN nq).cell? ⟨g2, off + i * 4 + 3, none⟩ = some (.int .i64 (ps : Int)) := s3
      generalize (W.drewN nq) = W1 at *
      refine wp_region_still_tail 14 (by kernel_rfl) (by kernel_rfl) ?_
      simp only [List.take_succ_cons, List.take_zero, List.drop_succ_cons, List.drop_zero]
      iterate 14 still_step
      refine wpStill_nil ?_
      change wpList _ _ _ _ _ (W1.drewN 1)
      have HE7 : Hid ((W1.drewN 1).heap[b]? = some (.cells #[.slice (some ⟨g2, off, none⟩) ts.length c, .int .i64 (i : Int), .int .i64 (en : Int), .int .i64 (en : Int), .int .i64 k] 56 (0, 0))) := Lib.hid HE6.out
      have HG2 := Lib.hid (grown_set (grown_drewN HG1.out 1) 3 (.int .i64 (ps : Int)))
      have HE8 : Hid (((W1.drewN 1).setCell ⟨b, 3, none⟩ (.int .i64 (ps : Int))).heap[b]? = some (robj (some ⟨g2, off, none⟩) c ts en ⟨i, k⟩)) := Lib.hid (by unfold robj; rw [HR.out]; exact block_set HE7.out 3 _)
      replace u3 := cell_of HE7.out 3 _ rfl
      replace v3 := free_of HE7.out 3
      generalize (W1.drewN 1) = W2 at *
      clear u0 u1 s3
      go_wp2
      go_end0
      exact ⟨rfl, HE8.out, HG2.out⟩
    · have HR : Hid (rat ts en ⟨i, k⟩ = en) := Lib.hid (by unfold rat Pq.off; simp only; rw [if_neg hk, List.getElem?_eq_none (by omega)])
      have e5 : (((w.setCell ⟨b, 4, none⟩ (.int .i64 k)).setCell ⟨b, 3, none⟩ (.int .i64 (en : Int))).heap[b]? = some (.cells #[.slice A ts.length c, .int .i64 (i : Int), .int .i64 (en : Int), .int .i64 (en : Int), .int .i64 k] 56 (0, 0))) := by
        have h1 := block_set HB.out 4 (.int .i64 k)
        exact block_set h1 3 (.int .i64 (en : Int))
      have HE5 := Lib.hid e5
      clear e5 hk hr hA
      have d1 : decide ((i : Int) < (ts.length : Int)) = false := by simp; omega
      have d2 : decide (i < ts.length) = false := by simp; omega
      have d3 : decide ((ts.length : Int) ≤ (i : Int)) = true := by simp; omega
      have d4 : decide (ts.length ≤ i) = true := by simp; omega
      have HG0 := Lib.hid (grown_set (grown_set (World.grownBy.refl w (some b)) 4 (.int .i64 k)) 3 (.int .i64 (en : Int)))
      have HE8 : Hid (((w.setCell ⟨b, 4, none⟩ (.int .i64 k)).setCell ⟨b, 3, none⟩ (.int .i64 (en : Int))).heap[b]? = some (robj A c ts en ⟨i, k⟩)) := Lib.hid (by unfold robj; rw [HR.out]; exact HE5.out)
      go_enter Tryz.func43, Tryz.ntmps43
      go_wp2_with fail
      have u0 := cell_of HE5.out 0 _ rfl
      have u1 := cell_of HE5.out 1 _ rfl
      generalize ((w.setCell ⟨b, 4, none⟩ (.int .i64 k)).setCell ⟨b, 3, none⟩ (.int .i64 (en : Int))) = W at *
      clear c0 c1 c2 c3 c4 f3 f4
      go_quiet (fail)
      have HG1 := Lib.hid (grown_drewN HG0.out nq)
      go_wp2
      go_end0
      exact ⟨rfl, HE8.out, HG1.out⟩
  · rw [if_neg he]
    have e2 : (er != 0) = true := by simpa using he
    clear he
    go_enter Tryz.func43, Tryz.ntmps43
    go_wp2
    exact bodyPost_ret (v := .tuple #[]) (by simp [results, Tryz.results43, go_sem]) rfl ⟨rfl, HB.out, World.grownBy.refl _ _⟩
end Go.Proofs.YteldekkodhfkkaaGreatDoor.PqW

namespace Go.Proofs.YteldekkodhfkkaaGreatDoor.PqW
open Go Go.RowKit Go.Proofs.YteldekkodhfkkaaGreatDoor.Mem
open Go.Proofs.YteldekkodhfkkaaGreatDoor.LexW (tokCells toksCells)
open Go.Proofs.YteldekkodhfkkaaGreatDoor.OdW (text_eq)
theorem row_drewN {w : World} {A : Option Addr} {xs : List Value} (h : Row w A xs) (n : Nat) : Row (w.drewN n) A xs := h.below (below_drewN (Below.refl _ _) n)

set_option maxRecDepth 100000 in
set_option maxHeartbeats 1000000 in
theorem ris_any (x : List UInt8) (ts : List Lex.Tok) (A : Option Addr) (c b : Nat) (en : Nat) (s : Pq.St) (w : World) (hb : w.heap[b]? = some (robj A c ts en s)) (hr : Row w A (ts.flatMap tokCells)) (hn : ts.length ≤ 1000000) :
    Calls Tryz.prog 21 #[.pointer (some ⟨b, 0, none⟩), .string ⟨x.toArray⟩] w fun e w' => e = .returned (.bool (Pq.next ts x s)) ∧ w'.heap[b]? = some (robj A c ts en s) ∧ w.grownBy w' (some b) := by
  have HB := Lib.hid hb
  have HR := Lib.hid hr
  have hlt := heap_lt hb
  obtain ⟨c0, c1, c2, c3, c4, cf⟩ := rcell hb
  have f1 := cf 1
  clear hb cf
  obtain ⟨i, er⟩ := s
  simp only at c1 c4
  by_cases he : er = 0
  · subst he
    by_cases hi : i < ts.length
    · have hN : Pq.next ts x ⟨i, 0⟩ = Pq.isT x ts[i] := by unfold Pq.next; simp [List.getElem?_eq_getElem hi]
      rw [hN]
      clear hN
      obtain ⟨g2, off, rfl, hg2, ca⟩ := row_get tok_len (by decide) hr (by omega)
      have t0 := ca i hi 0 (by decide)
      have t1 := ca i hi 1 (by decide)
      have t2 := ca i hi 2 (by decide)
      have t3 := ca i hi 3 (by decide)
      clear ca hr
      simp only [tokCells, List.getElem?_cons_zero, List.getElem?_cons_succ, Nat.add_zero] at t0 t1 t2 t3
      have hi0 : (0 : Int) ≤ (i : Int) := by omega
      have hi1 : (i : Int) < (ts.length : Int) := by omega
      have d1 : decide ((i : Int) < (ts.length : Int)) = true := by simp; omega
      have d2 : decide (i < ts.length) = true := by simp; omega
      have d3 : decide ((ts.length : Int) ≤ (i : Int)) = false := by simp; omega
      have d4 : decide (ts.length ≤ i) = false := by simp; omega
      unfold Pq.isT
      have es := text_eq ts[i].text x
      generalize ts[i] = t at *
      obtain ⟨tk, tx, tn, tp⟩ := t
      simp only at t0 t1 t2 t3 es ⊢
      clear t2 t3
      generalize decide (tx = x) = r at *
      generalize (ByteArray.mk tx.toArray) = TB at *
      generalize (ByteArray.mk x.toArray) = XB at *
      by_cases hk : tk = 2
      · subst hk
        have k1 : ((2 : Int) != 2) = false := by decide
        rw [show (decide ((2 : Int) ≠ 2) && r) = false by simp]
        go_enter Tryz.func21, Tryz.ntmps21
        go_wp2_with fail
        go_quiet (fail)
        have HG := Lib.hid (grown_drewN (World.grownBy.refl w (some b)) nq)
        go_wp2
        go_ret
        exact ⟨rfl, HB.out, HG.out⟩
      · have k1 : (tk != 2) = true := by simp [hk]
        rw [show (decide (tk ≠ 2) && r) = r by simp [hk]]
        clear hk
        go_enter Tryz.func21, Tryz.ntmps21
        go_wp2_with fail
        go_quiet (fail)
        have HG := Lib.hid (grown_drewN (World.grownBy.refl w (some b)) nq)
        go_wp2
        go_ret
        exact ⟨rfl, HB.out, HG.out⟩
    · have hN : Pq.next ts x ⟨i, 0⟩ = false := by unfold Pq.next; simp [List.getElem?_eq_none (Nat.le_of_not_lt hi)]
      rw [hN]
      clear hN hr
      have d1 : decide ((i : Int) < (ts.length : Int)) = false := by simp; omega
      have d2 : decide (i < ts.length) = false := by simp; omega
      have d3 : decide ((ts.length : Int) ≤ (i : Int)) = true := by simp; omega
      have d4 : decide (ts.length ≤ i) = true := by simp; omega
      go_enter Tryz.func21, Tryz.ntmps21
      go_wp2_with fail
      go_quiet (fail)
      have HG := Lib.hid (grown_drewN (World.grownBy.refl w (some b)) nq)
      go_wp2
      go_ret
      exact ⟨rfl, HB.out, HG.out⟩
  · have hN : Pq.next ts x ⟨i, er⟩ = false := by unfold Pq.next; simp [he]
    rw [hN]
    have e1 : (er == 0) = false := by simpa using he
    clear hN he hr
    go_enter Tryz.func21, Tryz.ntmps21
    go_wp2_with fail
    go_quiet (fail)
    have HG := Lib.hid (grown_drewN (World.grownBy.refl w (some b)) nq)
    go_wp2
    go_ret
    exact ⟨rfl, HB.out, HG.out⟩

set_option maxRecDepth 100000 in
set_option maxHeartbeats 1000000 in
theorem rneed_any (x : List UInt8) (ts : List Lex.Tok) (A : Option Addr) (c b : Nat) (en : Nat) (s : Pq.St) (w : World) (hb : w.heap[b]? = some (robj A c ts en s)) (hr : Row w A (ts.flatMap tokCells)) (hA : Apart A b) (hn : ts.length ≤ 1000000) :
    Calls Tryz.prog 19 #[.pointer (some ⟨b, 0, none⟩), .string ⟨x.toArray⟩] w fun e w' => e = .returned (.tuple #[]) ∧ w'.heap[b]? = some (robj A c ts en (Pq.expect ts x s)) ∧ w.grownBy w' (some b) := by
  have HI := Lib.hid (ris_any x ts A c b en s w hb hr hn)
  have hlt := heap_lt hb
  cases hx : Pq.next ts x s
  · rw [expect_fail hx]
    rw [hx] at HI
    have HFL := Lib.hid (fun W h1 h2 => rfail_any 3 (by decide) ts A c b en s W h1 h2 hA hn)
    have HRK := Lib.hid (fun W (hg : w.grownBy W (some b)) => row_keep hr hg hA)
    clear hb hr hA hx
    generalize (ByteArray.mk x.toArray) = XB at *
    go_enter Tryz.func19, Tryz.ntmps19
    go_wp2_with fail
    refine HI.out.mono ?_
    rintro e w2 ⟨rfl, h1, h2⟩
    have H1 := Lib.hid h1
    have H2 := Lib.hid h2
    clear h1 h2
    go_wp2_with fail
    refine (HFL.out _ H1.out (HRK.out _ H2.out)).mono ?_
    rintro e w3 ⟨rfl, h1, h2⟩
    have H3 := Lib.hid h1
    have H4 := Lib.hid (H2.out.trans h2)
    clear h1 h2
    go_wp2
    exact bodyPost_ret (v := .tuple #[]) (by simp [results, Tryz.results19, go_sem]) rfl ⟨rfl, H3.out, H4.out⟩
  · obtain ⟨he, hx2⟩ := expect_next hx
    rw [hx2]
    rw [hx] at HI
    have hi := (Pq.next_lt hx).2
    clear hb hr hA hx hx2
    obtain ⟨i, er⟩ := s
    simp only at he hi
    subst he
    generalize (ByteArray.mk x.toArray) = XB at *
    have x1 : (i : Int) + 1 ≤ 9223372036854775807 := by omega
    go_enter Tryz.func19, Tryz.ntmps19
    go_wp2_with fail
    refine HI.out.mono ?_
    rintro e w2 ⟨rfl, h1, h2⟩
    have H3 : Hid ((w2.setCell ⟨b, 1, none⟩ (.int .i64 ((i : Int) + 1))).heap[b]? = some (robj A c ts en ⟨i + 1, 0⟩)) := Lib.hid (rset_i h1 rfl (i + 1))
    have H4 := Lib.hid (grown_set h2 1 (.int .i64 ((i : Int) + 1)))
    have hl2 := heap_lt h1
    obtain ⟨c0, c1, c2, c3, c4, cf⟩ := rcell h1
    have f1 := cf 1
    simp only at c1
    clear h1 h2 cf
    go_wp2
    go_end0
    exact ⟨rfl, H3.out, H4.out⟩

set_option maxRecDepth 100000 in
set_option maxHeartbeats 1000000 in
theorem rname_any (ts : List Lex.Tok) (A : Option Addr) (c b : Nat) (en : Nat) (s : Pq.St) (w : World) (hb : w.heap[b]? = some (robj A c ts en s)) (hr : Row w A (ts.flatMap tokCells)) (hA : Apart A b) (hn : ts.length ≤ 1000000) :
    Calls Tryz.prog 20 #[.pointer (some ⟨b, 0, none⟩)] w fun e w' => e = .returned (.string ⟨(Pq.name ts s).1.toArray⟩) ∧ w'.heap[b]? = some (robj A c ts en (Pq.name ts s).2) ∧ w.grownBy w' (some b) := by
  have HFL := Lib.hid (fun W h1 h2 => rfail_any 3 (by decide) ts A c b en s W h1 h2 hA hn)
  have HB := Lib.hid hb
  have HR := Lib.hid hr
  have hlt := heap_lt hb
  obtain ⟨c0, c1, c2, c3, c4, cf⟩ := rcell hb
  have f1 := cf 1
  clear hb cf
  obtain ⟨i, er⟩ := s
  simp only at c1 c4
  unfold Pq.name
  rcases Pq.tok_ways ts Pq.isN ⟨i, er⟩ with ⟨he, ht⟩ | ⟨he, ht⟩ | ⟨he, hi, hgd, ht⟩
  · rw [ht]
    simp only at he
    rw [show failed ⟨i, er⟩ 3 = ⟨i, er⟩ by unfold failed; rw [if_neg he]] at HFL
    have e2 : (er != 0) = true := by simpa using he
    clear ht he hA hr
    unfold Pq.tz
    go_enter Tryz.func20, Tryz.ntmps20
    go_wp2_with fail
    go_quiet (fail)
    have HG := Lib.hid (grown_drewN (World.grownBy.refl w (some b)) nq)
    have HBn : Hid ((w.drewN nq).heap[b]? = some (robj _ c ts en ⟨i, _⟩)) := Lib.hid HB.out
    go_wp2_with fail
    refine (HFL.out _ HBn.out (row_drewN HR.out nq)).mono ?_
    rintro e w3 ⟨rfl, h1, h2⟩
    have H3 := Lib.hid h1
    have H4 := Lib.hid (HG.out.trans h2)
    clear h1 h2
    go_wp2
    go_ret
    exact ⟨rfl, H3.out, H4.out⟩
  · simp only at he
    subst he
    rw [show failed ⟨i, 0⟩ 3 = ⟨i, 3⟩ by unfold failed; rfl] at HFL
    by_cases hi : i < ts.length
    · have hkn : Pq.isN ts[i] = false := by
        cases h : Pq.isN ts[i]
        · rfl
        · have : Pq.tok ts Pq.isN ⟨i, 0⟩ = (ts[i], ⟨i + 1, 0⟩) := by unfold Pq.tok; simp [List.getElem?_eq_getElem hi, h]
          rw [this] at ht
          simp at ht
      rw [ht]
      clear ht hA
      have k1 : (ts[i].kind != 1) = true := by unfold Pq.isN at hkn; simpa using hkn
      clear hkn
      obtain ⟨g2, off, rfl, hg2, ca⟩ := row_get tok_len (by decide) hr (by omega)
      have t0 := ca i hi 0 (by decide)
      have t1 := ca i hi 1 (by decide)
      have t2 := ca i hi 2 (by decide)
      have t3 := ca i hi 3 (by decide)
      clear ca hr
      simp only [tokCells, List.getElem?_cons_zero, List.getElem?_cons_succ, Nat.add_zero] at t0 t1 t2 t3
      have hi0 : (0 : Int) ≤ (i : Int) := by omega
      have hi1 : (i : Int) < (ts.length : Int) := by omega
      have d1 : decide ((i : Int) < (ts.length : Int)) = true := by simp; omega
      have d2 : decide (i < ts.length) = true := by simp; omega
      have d3 : decide ((ts.length : Int) ≤ (i : Int)) = false := by simp; omega
      have d4 : decide (ts.length ≤ i) = false := by simp; omega
      clear t1 t2 t3
      generalize ts[i].kind = tk at *
      unfold Pq.tz
      go_enter Tryz.func20, Tryz.ntmps20
      go_wp2_with fail
      go_quiet (fail)
      have HG := Lib.hid (grown_drewN (World.grownBy.refl w (some b)) nq)
      have HBn : Hid ((w.drewN nq).heap[b]? = some (robj _ c ts en ⟨i, _⟩)) := Lib.hid HB.out
      go_wp2_with fail
      refine (HFL.out _ HBn.out (row_drewN HR.out nq)).mono ?_
      rintro e w3 ⟨rfl, h1, h2⟩
      have H3 := Lib.hid h1
      have H4 := Lib.hid (HG.out.trans h2)
      clear h1 h2
      go_wp2
      go_ret
      exact ⟨rfl, H3.out, H4.out⟩
    · rw [ht]
      clear ht hA hr
      have d1 : decide ((i : Int) < (ts.length : Int)) = false := by simp; omega
      have d2 : decide (i < ts.length) = false := by simp; omega
      have d3 : decide ((ts.length : Int) ≤ (i : Int)) = true := by simp; omega
      have d4 : decide (ts.length ≤ i) = true := by simp; omega
      unfold Pq.tz
      go_enter Tryz.func20, Tryz.ntmps20
      go_wp2_with fail
      go_quiet (fail)
      have HG := Lib.hid (grown_drewN (World.grownBy.refl w (some b)) nq)
      have HBn : Hid ((w.drewN nq).heap[b]? = some (robj _ c ts en ⟨i, _⟩)) := Lib.hid HB.out
      go_wp2_with fail
      refine (HFL.out _ HBn.out (row_drewN HR.out nq)).mono ?_
      rintro e w3 ⟨rfl, h1, h2⟩
      have H3 := Lib.hid h1
      have H4 := Lib.hid (HG.out.trans h2)
      clear h1 h2
      go_wp2
      go_ret
      exact ⟨rfl, H3.out, H4.out⟩
  · simp only at he hi hgd
    subst he
    rw [ht]
    have k0 : ts[i].kind = 1 := by unfold Pq.isN at hgd; simpa using hgd
    have hAb : ∀ g off, A = some ⟨g, off, none⟩ → g ≠ b := hA
    clear ht hgd hA
    obtain ⟨g2, off, rfl, hg2, ca⟩ := row_get tok_len (by decide) hr (by omega)
    have t0 := ca i hi 0 (by decide)
    have t1 := ca i hi 1 (by decide)
    have t2 := ca i hi 2 (by decide)
    have t3 := ca i hi 3 (by decide)
    clear ca hr
    simp only [tokCells, List.getElem?_cons_zero, List.getElem?_cons_succ, Nat.add_zero] at t0 t1 t2 t3
    have hi0 : (0 : Int) ≤ (i : Int) := by omega
    have hi1 : (i : Int) < (ts.length : Int) := by omega
    have hgb : g2 ≠ b := hAb g2 off rfl
    clear hAb HFL
    have d1 : decide ((i : Int) < (ts.length : Int)) = true := by simp; omega
    have d2 : decide (i < ts.length) = true := by simp; omega
    have d3 : decide ((ts.length : Int) ≤ (i : Int)) = false := by simp; omega
    have d4 : decide (ts.length ≤ i) = false := by simp; omega
    rw [k0] at t0
    clear k0 t2 t3
    simp only
    generalize (ByteArray.mk ts[i].text.toArray) = TB at *
    have x1 : (i : Int) + 1 ≤ 9223372036854775807 := by omega
    have x2 : IntKind.i64.wrap (i : Int) = (i : Int) := by rw [wrapEq]; unfold wrap64; omega
    have x3 : IntKind.i64.wrap ((i : Int) + 1 - 1) = (i : Int) := by rw [wrapEq]; unfold wrap64; omega
    go_enter Tryz.func20, Tryz.ntmps20
    go_wp2_with fail
    go_quiet (fail)
    have H3 : Hid (((w.drewN nq).setCell ⟨b, 1, none⟩ (.int .i64 ((i : Int) + 1))).heap[b]? = some (robj (some ⟨g2, off, none⟩) c ts en ⟨i + 1, 0⟩)) := Lib.hid (rset_i (w := w.drewN nq) HB.out rfl (i + 1))
    have H4 := Lib.hid (grown_set (grown_drewN (World.grownBy.refl w (some b)) nq) 1 (.int .i64 ((i : Int) + 1)))
    have s1 : ((w.drewN nq).setCell ⟨b, 1, none⟩ (.int .i64 ((i : Int) + 1))).cell? ⟨g2, off + i * 4 + 1, none⟩ = some (.string TB) := by rw [World.cell?_of_block (block_other _ _ _ _ hgb)]; exact t1
    go_wp2_with fail
    obtain ⟨u0, u1, u2, u3, u4, uf⟩ := rcell H3.out
    simp only at u1
    generalize ((w.drewN nq).setCell ⟨b, 1, none⟩ (.int .i64 ((i : Int) + 1))) = W3 at *
    clear c0 c1 c2 c3 c4 f1 uf
    go_quiet (fail)
    have H5 := Lib.hid (grown_drewN H4.out nq)
    go_wp2
    go_ret
    exact ⟨rfl, H3.out, H5.out⟩

set_option maxRecDepth 100000 in
set_option maxHeartbeats 1000000 in
theorem rnumber_any (lo hi9 : Int) (ts : List Lex.Tok) (A : Option Addr) (c b : Nat) (en : Nat) (s : Pq.St) (w : World) (hb : w.heap[b]? = some (robj A c ts en s)) (hr : Row w A (ts.flatMap tokCells)) (hA : Apart A b) (hn : ts.length ≤ 1000000) :
    Calls Tryz.prog 22 #[.pointer (some ⟨b, 0, none⟩), .int .i64 lo, .int .i64 hi9] w fun e w' => e = .returned (.int .i64 (Pq.num false ts lo hi9 s).1) ∧ w'.heap[b]? = some (robj A c ts en (Pq.num false ts lo hi9 s).2) ∧ w.grownBy w' (some b) := by
  have HFL := Lib.hid (fun W h1 h2 => rfail_any 3 (by decide) ts A c b en s W h1 h2 hA hn)
  have HB := Lib.hid hb
  have HR := Lib.hid hr
  have hlt := heap_lt hb
  obtain ⟨c0, c1, c2, c3, c4, cf⟩ := rcell hb
  have f1 := cf 1
  clear hb cf
  obtain ⟨i, er⟩ := s
  simp only at c1 c4
  unfold Pq.num
  rcases Pq.tok_ways ts Pq.isD ⟨i, er⟩ with ⟨he, ht⟩ | ⟨he, ht⟩ | ⟨he, hix, hgd, ht⟩
  · rw [ht]
    simp only at he ⊢
    rw [if_neg (fun h => he h.1)]
    rw [show failed ⟨i, er⟩ 3 = ⟨i, er⟩ by unfold failed; rw [if_neg he]] at HFL
    have e2 : (er != 0) = true := by simpa using he
    clear ht he hA hr
    unfold Pq.tz
    go_enter Tryz.func22, Tryz.ntmps22
    go_wp2_with fail
    go_quiet (fail)
    have HG := Lib.hid (grown_drewN (World.grownBy.refl w (some b)) nq)
    have HBn : Hid ((w.drewN nq).heap[b]? = some (robj _ c ts en ⟨i, _⟩)) := Lib.hid HB.out
    go_wp2_with fail
    refine (HFL.out _ HBn.out (row_drewN HR.out nq)).mono ?_
    rintro e w3 ⟨rfl, h1, h2⟩
    have H3 := Lib.hid h1
    have H4 := Lib.hid (HG.out.trans h2)
    clear h1 h2
    go_wp2
    go_ret
    exact ⟨rfl, H3.out, H4.out⟩
  · simp only at he
    subst he
    rw [show failed ⟨i, 0⟩ 3 = ⟨i, 3⟩ by unfold failed; rfl] at HFL
    by_cases hi : i < ts.length
    · have hkn : Pq.isD ts[i] = false := by
        cases h : Pq.isD ts[i]
        · rfl
        · have : Pq.tok ts Pq.isD ⟨i, 0⟩ = (ts[i], ⟨i + 1, 0⟩) := by unfold Pq.tok; simp [List.getElem?_eq_getElem hi, h]
          rw [this] at ht
          simp at ht
      rw [ht]
      simp only
      rw [if_neg (by simp)]
      clear ht hA
      have k1 : (ts[i].kind != 2) = true := by unfold Pq.isD at hkn; simpa using hkn
      clear hkn
      obtain ⟨g2, off, rfl, hg2, ca⟩ := row_get tok_len (by decide) hr (by omega)
      have t0 := ca i hi 0 (by decide)
      have t1 := ca i hi 1 (by decide)
      have t2 := ca i hi 2 (by decide)
      have t3 := ca i hi 3 (by decide)
      clear ca hr
      simp only [tokCells, List.getElem?_cons_zero, List.getElem?_cons_succ, Nat.add_zero] at t0 t1 t2 t3
      have hi0 : (0 : Int) ≤ (i : Int) := by omega
      have hi1 : (i : Int) < (ts.length : Int) := by omega
      have d1 : decide ((i : Int) < (ts.length : Int)) = true := by simp; omega
      have d2 : decide (i < ts.length) = true := by simp; omega
      have d3 : decide ((ts.length : Int) ≤ (i : Int)) = false := by simp; omega
      have d4 : decide (ts.length ≤ i) = false := by simp; omega
      clear t1 t2 t3
      generalize ts[i].kind = tk at *
      unfold Pq.tz
      go_enter Tryz.func22, Tryz.ntmps22
      go_wp2_with fail
      go_quiet (fail)
      have HG := Lib.hid (grown_drewN (World.grownBy.refl w (some b)) nq)
      have HBn : Hid ((w.drewN nq).heap[b]? = some (robj _ c ts en ⟨i, _⟩)) := Lib.hid HB.out
      go_wp2_with fail
      refine (HFL.out _ HBn.out (row_drewN HR.out nq)).mono ?_
      rintro e w3 ⟨rfl, h1, h2⟩
      have H3 := Lib.hid h1
      have H4 := Lib.hid (HG.out.trans h2)
      clear h1 h2
      go_wp2
      go_ret
      exact ⟨rfl, H3.out, H4.out⟩
    · rw [ht]
      simp only
      rw [if_neg (by simp)]
      clear ht hA hr
      have d1 : decide ((i : Int) < (ts.length : Int)) = false := by simp; omega
      have d2 : decide (i < ts.length) = false := by simp; omega
      have d3 : decide ((ts.length : Int) ≤ (i : Int)) = true := by simp; omega
      have d4 : decide (ts.length ≤ i) = true := by simp; omega
      unfold Pq.tz
      go_enter Tryz.func22, Tryz.ntmps22
      go_wp2_with fail
      go_quiet (fail)
      have HG := Lib.hid (grown_drewN (World.grownBy.refl w (some b)) nq)
      have HBn : Hid ((w.drewN nq).heap[b]? = some (robj _ c ts en ⟨i, _⟩)) := Lib.hid HB.out
      go_wp2_with fail
      refine (HFL.out _ HBn.out (row_drewN HR.out nq)).mono ?_
      rintro e w3 ⟨rfl, h1, h2⟩
      have H3 := Lib.hid h1
      have H4 := Lib.hid (HG.out.trans h2)
      clear h1 h2
      go_wp2
      go_ret
      exact ⟨rfl, H3.out, H4.out⟩
  · simp only at he hix hgd
    have hi := hix
    subst he
    rw [ht]
    simp only
    have HF2 := Lib.hid (fun W h1 h2 => rfail_any 2 (by decide) ts A c b en ⟨i, 0⟩ W h1 h2 hA hn)
    rw [show failed ⟨i, 0⟩ 2 = ⟨i, 2⟩ by unfold failed; rfl] at HF2
    have k0 : ts[i].kind = 2 := by unfold Pq.isD at hgd; simpa using hgd
    have hAb : ∀ g off, A = some ⟨g, off, none⟩ → g ≠ b := hA
    clear ht hgd hA HFL
    obtain ⟨g2, off, rfl, hg2, ca⟩ := row_get tok_len (by decide) hr (by omega)
    have t0 := ca i hi 0 (by decide)
    have t1 := ca i hi 1 (by decide)
    have t2 := ca i hi 2 (by decide)
    have t3 := ca i hi 3 (by decide)
    clear ca hr
    simp only [tokCells, List.getElem?_cons_zero, List.getElem?_cons_succ, Nat.add_zero] at t0 t1 t2 t3
    have hi0 : (0 : Int) ≤ (i : Int) := by omega
    have hi1 : (i : Int) < (ts.length : Int) := by omega
    have hgb : g2 ≠ b := hAb g2 off rfl
    clear hAb
    have d1 : decide ((i : Int) < (ts.length : Int)) = true := by simp; omega
    have d2 : decide (i < ts.length) = true := by simp; omega
    have d3 : decide ((ts.length : Int) ≤ (i : Int)) = false := by simp; omega
    have d4 : decide (ts.length ≤ i) = false := by simp; omega
    rw [k0] at t0
    clear k0 t1 t3
    generalize ts[i].n = tn at *
    have x1 : (i : Int) + 1 ≤ 9223372036854775807 := by omega
    have x2 : IntKind.i64.wrap (i : Int) = (i : Int) := by rw [wrapEq]; unfold wrap64; omega
    have x3 : IntKind.i64.wrap ((i : Int) + 1 - 1) = (i : Int) := by rw [wrapEq]; unfold wrap64; omega
    by_cases h1 : tn < lo
    · rw [if_pos ⟨trivial, .inl h1⟩, if_neg (by simp)]
      go_enter Tryz.func22, Tryz.ntmps22
      go_wp2_with fail
      go_quiet (fail)
      go_wp2_with fail
      obtain ⟨na, rfl⟩ : ∃ na : Nat, na = nq := ⟨_, rfl⟩
      go_quiet (fail)
      have HG := Lib.hid (grown_drewN (World.grownBy.refl w (some b)) (na + nq))
      have HBn : Hid ((w.drewN (na + nq)).heap[b]? = some (robj _ c ts en ⟨i, 0⟩)) := Lib.hid HB.out
      go_wp2_with fail
      refine (HF2.out _ HBn.out (row_drewN HR.out (na + nq))).mono ?_
      rintro e w3 ⟨rfl, h1, h2⟩
      have H3 := Lib.hid h1
      have H4 := Lib.hid (HG.out.trans h2)
      clear h1 h2
      go_wp2
      go_ret
      exact ⟨rfl, H3.out, H4.out⟩
    · by_cases h2 : hi9 < tn
      · rw [if_pos ⟨trivial, .inr h2⟩, if_neg (by simp)]
        go_enter Tryz.func22, Tryz.ntmps22
        go_wp2_with fail
        go_quiet (fail)
        go_wp2_with fail
        obtain ⟨na, rfl⟩ : ∃ na : Nat, na = nq := ⟨_, rfl⟩
        go_quiet (fail)
        have HG := Lib.hid (grown_drewN (World.grownBy.refl w (some b)) (na + nq))
        have HBn : Hid ((w.drewN (na + nq)).heap[b]? = some (robj _ c ts en ⟨i, 0⟩)) := Lib.hid HB.out
        go_wp2_with fail
        refine (HF2.out _ HBn.out (row_drewN HR.out (na + nq))).mono ?_
        rintro e w3 ⟨rfl, h1, h2⟩
        have H3 := Lib.hid h1
        have H4 := Lib.hid (HG.out.trans h2)
        clear h1 h2
        go_wp2
        go_ret
        exact ⟨rfl, H3.out, H4.out⟩
      · rw [if_neg (by omega)]
        have d5 : decide (tn < lo) = false := decide_eq_false h1
        have d6 : decide (hi9 < tn) = false := decide_eq_false h2
        clear HF2 h1 h2
        go_enter Tryz.func22, Tryz.ntmps22
        go_wp2_with fail
        go_quiet (fail)
        go_wp2_with fail
        obtain ⟨na, rfl⟩ : ∃ na : Nat, na = nq := ⟨_, rfl⟩
        go_quiet (fail)
        have HBW : Hid (((w.drewN na).drewN nq).heap[b]? = some (robj (some ⟨g2, off, none⟩) c ts en ⟨i, 0⟩)) := Lib.hid HB.out
        have HGW := Lib.hid (grown_drewN (grown_drewN (World.grownBy.refl w (some b)) na) nq)
        have q2 : ((w.drewN na).drewN nq).cell? ⟨g2, off + i * 4 + 2, none⟩ = some (.int .i64 tn) := t2
        generalize ((w.drewN na).drewN nq) = WW at *
        have hlw := heap_lt HBW.out
        clear c0 c1 c2 c3 c4 f1 t0 t2
        obtain ⟨c0, c1, c2, c3, c4, cf⟩ := rcell HBW.out
        have f1 := cf 1
        simp only at c1
        clear cf
        have H3 : Hid ((WW.setCell ⟨b, 1, none⟩ (.int .i64 ((i : Int) + 1))).heap[b]? = some (robj (some ⟨g2, off, none⟩) c ts en ⟨i + 1, 0⟩)) := Lib.hid (rset_i (w := WW) HBW.out rfl (i + 1))
        have H4 := Lib.hid (grown_set HGW.out 1 (.int .i64 ((i : Int) + 1)))
        have s1 : (WW.setCell ⟨b, 1, none⟩ (.int .i64 ((i : Int) + 1))).cell? ⟨g2, off + i * 4 + 2, none⟩ = some (.int .i64 tn) := by rw [World.cell?_of_block (block_other _ _ _ _ hgb)]; exact q2
        go_wp2_with fail
        obtain ⟨u0, u1, u2, u3, u4, uf⟩ := rcell H3.out
        simp only at u1
        generalize (WW.setCell ⟨b, 1, none⟩ (.int .i64 ((i : Int) + 1))) = W3 at *
        clear c0 c1 c2 c3 c4 f1 uf
        go_quiet (fail)
        have H5 := Lib.hid (grown_drewN H4.out nq)
        go_wp2
        go_ret
        exact ⟨rfl, H3.out, H5.out⟩
end Go.Proofs.YteldekkodhfkkaaGreatDoor.PqW

namespace Go.Proofs.YteldekkodhfkkaaGreatDoor.PqW
open Go Go.RowKit Go.Proofs.YteldekkodhfkkaaGreatDoor.Mem
open Go.Proofs.YteldekkodhfkkaaGreatDoor.LexW (tokCells toksCells)
open Go.Proofs.YteldekkodhfkkaaGreatDoor.OdW (itCells it_len)

/-- The parser at block b in world W; the items so far are a row of the call's own, beyond b. -/
structure PR (wX : World) (b : Nat) (A : Option Addr) (c en : Nat) (ts : List Lex.Tok) (st : Pq.St) (v : Value) (acc : List Od.It) (W : World) : Prop where
  blk : W.heap[b]? = some (robj A c ts en st)
  row : Row W A (ts.flatMap tokCells)
  own : W.ownsRow (b + 1) 33 4 v acc.length (acc.flatMap itCells)
  gr : wX.grownBy W (some b)
section
variable {wX W W' : World} {b c en : Nat} {A : Option Addr} {ts : List Lex.Tok} {st st' : Pq.St} {v : Value} {acc : List Od.It}
theorem PR.far (h : PR wX b A c en ts st v acc W) : v.ownBlock ≠ some b := fun e => by
  have := own_block h.own b e
  omega
theorem PR.newer (h : PR wX b A c en ts st v acc W) : v.ownBlock ≠ some W.heap.size := fun e => by
  have := (h.own.lt _ e).2
  omega
/-- A method of the parser has been called. -/
theorem PR.step (h : PR wX b A c en ts st v acc W) (hA : Apart A b) (h1 : W'.heap[b]? = some (robj A c ts en st')) (h2 : W.grownBy W' (some b)) : PR wX b A c en ts st' v acc W' :=
  ⟨h1, row_keep h.row h2 hA, h.own.kept h2 (.inr h.far), h.gr.trans h2⟩
theorem PR.alloc (h : PR wX b A c en ts st v acc W) (o : Obj) : PR wX b A c en ts st v acc (W.alloc o) :=
  ⟨block_old h.blk, row_box h.row o, h.own.alloc o, grown_alloc h.gr o⟩
theorem PR.drewN (h : PR wX b A c en ts st v acc W) (n : Nat) : PR wX b A c en ts st v acc (W.drewN n) :=
  ⟨h.blk, h.row.below (below_drewN (Below.refl _ _) n), own_below h.own (below_drewN (Below.refl _ _) n), grown_drewN h.gr n⟩
theorem PR.size (h : PR wX b A c en ts st v acc W) : b < W.heap.size := heap_lt h.blk
/-- A store into a block of the call's own that is neither the parser's nor the items'. -/
theorem PR.store (h : PR wX b A c en ts st v acc W) {k : Nat} (hk : wX.heap.size ≤ k) (hb : b < k) (hv : v.ownBlock ≠ some k) (hA : Apart A k) (j : Nat) (u : Value) : PR wX b A c en ts st v acc (W.setCell ⟨k, j, none⟩ u) := by
  have hg : W.grownBy (W.setCell ⟨k, j, none⟩ u) (some k) := ⟨rfl, rfl, rfl, by simp, fun i _ hne => block_other _ _ _ _ (fun e => hne (by rw [e]))⟩
  exact ⟨(block_other _ _ _ _ (by omega)).trans h.blk, row_keep h.row hg hA, h.own.kept hg (.inr hv), grown_new h.gr hk j u⟩
/-- An item has been put to the others. -/
theorem PR.put (h : PR wX b A c en ts st v acc W) (hX : wX.heap.size ≤ b + 1) (hA : ∀ g off, A = some ⟨g, off, none⟩ → g < b) {v' : Value} {x : Od.It} (hg : W.grownBy W' v.ownBlock) (ho : W'.ownsRow (b + 1) 33 4 v' (acc.length + 1) (acc.flatMap itCells ++ itCells x)) : PR wX b A c en ts st v' (acc ++ [x]) W' := by
  have hw : ∀ k, v.ownBlock = some k → b + 1 ≤ k := own_block h.own
  refine ⟨?_, ?_, by rw [flatMap_snoc, List.length_append]; exact ho, ?_⟩
  · rw [hg.block b h.size (fun e => h.far e.symm)]
    exact h.blk
  · intro hne
    obtain ⟨g, off, e, h1, h2⟩ := h.row hne
    have hgb := hA g off e
    refine ⟨g, off, e, Nat.lt_of_lt_of_le h1 hg.size, fun j hj => ?_⟩
    rw [← h2 j hj]
    exact World.cell?_of_block (hg.block g h1 (fun e2 => by have := hw g e2.symm; omega))
  · exact ⟨hg.os.trans h.gr.os, hg.tape.trans h.gr.tape, hg.output.trans h.gr.output, Nat.le_trans h.gr.size hg.size, fun i hi hne => by
      rw [hg.block i (Nat.lt_of_lt_of_le hi h.gr.size) (fun e => by have := hw i e.symm; omega)]
      exact h.gr.block i hi hne⟩
theorem PR.start {w1 : World} (hr : Row w1 A (ts.flatMap tokCells)) : PR (w1.alloc (robj A c ts en ⟨0, 0⟩)) w1.heap.size A c en ts ⟨0, 0⟩ (.slice none 0 0) [] (w1.alloc (robj A c ts en ⟨0, 0⟩)) :=
  ⟨heap_alloc_new _ _, row_box hr _, World.ownsRow_nil _ _ _ _, World.grownBy.refl _ _⟩
end
end Go.Proofs.YteldekkodhfkkaaGreatDoor.PqW

namespace Go.Proofs.YteldekkodhfkkaaGreatDoor.PqW
open Go Go.RowKit Go.Proofs.YteldekkodhfkkaaGreatDoor.Mem
open Go.Proofs.YteldekkodhfkkaaGreatDoor.LexW (tokCells toksCells rtokens_any TokensPost)
open Go.Proofs.YteldekkodhfkkaaGreatDoor.OdW (itCells it_len)

set_option maxRecDepth 100000 in
set_option maxHeartbeats 4000000 in
theorem rparse_any (s : ByteArray) (w : World) : Calls Tryz.prog 7 #[.string s] w (ParsePost w (Pq.parse false s.data.toList)) := by
  have HT := Lib.hid (rtokens_any s w)
  have hn0 := tokens_len s.data.toList
  have hsl : s.data.toList.length = s.size := Array.length_toList
  unfold Pq.parse
  generalize (Lex.tokens s.data.toList) = R at *
  obtain ⟨ts, pos, er⟩ := R
  unfold TokensPost at HT
  simp only at HT hn0 ⊢
  rw [hsl]
  clear hsl
  obtain ⟨i0, ia, ib, ic, id⟩ := info_parts OdW.info_item
  by_cases he : er = 0
  · subst he
    rw [if_neg (by simp)]
    have hn : ts.length ≤ 1000000 := by omega
    go_enter Tryz.func7, Tryz.ntmps7
    go_wp2_with fail
    refine HT.out.mono ?_
    rintro e w1 ⟨v, rfl, hown, hbel⟩
    obtain ⟨A, c, rfl, hnc⟩ := own_shape hown
    have hAb : ∀ g off, A = some ⟨g, off, none⟩ → g < w1.heap.size := fun g off e => by
      rcases hown.2 with ⟨h0, _⟩ | ⟨g', cap, cur, hv, _, hh, _⟩
      · simp only [Value.slice.injEq] at h0
        rw [e] at h0
        simp at h0
      · simp only [Value.slice.injEq] at hv
        rw [e] at hv
        simp only [Option.some.injEq, Addr.mk.injEq] at hv
        rw [hv.1.1]
        exact heap_lt hh
    have HS0 := Lib.hid (PR.start (A := A) (c := c) (en := s.size) (Row.of_own hown))
    have HB1 := Lib.hid (hbel.alloc hbel.size (robj A c ts s.size ⟨0, 0⟩))
    have HZ := hbel.size
    clear hown hbel
    have hA0 : Apart A w1.heap.size := fun g off e => by have := hAb g off e; omega
    have hA := Lib.hid hA0
    have HAB := Lib.hid hAb
    clear hA0 hAb HT
    have hXS : (w1.alloc (robj A c ts s.size ⟨0, 0⟩)).heap.size = w1.heap.size + 1 := by simp
    go_wp2_with fail
    change Code.wp _ _ _ _ (w1.alloc (robj A c ts s.size ⟨0, 0⟩))
    have HXS := Lib.hid hXS
    generalize (w1.alloc (robj A c ts s.size ⟨0, 0⟩)) = wX at *
    generalize w1.heap.size = b at *
    have hR : Hid (Pq.result false ts s.size = if (Pq.fin false ts).1.e ≠ 0 then ([], Pq.off ts s.size (Pq.fin false ts).1.i, (Pq.fin false ts).1.e) else if 100 < (Pq.fin false ts).2.length then ([], 0, 9) else ((Pq.fin false ts).2, 0, 0)) := Lib.hid rfl
    have hF : Hid (Pq.groups false ts (ts.length + 2) (⟨0, 0⟩, []) = Pq.fin false ts) := Lib.hid rfl
    generalize (Pq.fin false ts) = FIN at *
    generalize (Pq.result false ts s.size) = RES at *
    go_loopg [9] (ts.length + 2) (fun f v wr => ∃ (st : Pq.St) (acc : List Od.It), Hid (Pq.groups false ts f (st, acc) = FIN) ∧ Hid (mu ts.length st < f) ∧ Hid (PR wX b A c s.size ts st v acc wr) ∧ st.i ≤ ts.length ∧ acc.length ≤ st.i)
    case atStart => exact ⟨⟨0, 0⟩, [], hF, Lib.hid (by unfold mu; simp), HS0, Nat.zero_le _, Nat.le_refl _⟩
    case round =>
      obtain ⟨st, acc, HFF, HMU, HS, hi, hac⟩ := hrel
      rcases gk with _ | f
      · exact absurd HMU.out (by omega)
      obtain ⟨q0, q1, q8, q9, q2, qf⟩ := rcell HS.out.blk
      have hzb := HS.out.size
      obtain ⟨i, er⟩ := st
      simp only at hi hac q1 q2 q9
      by_cases hc : er = 0 ∧ i < ts.length
      · obtain ⟨he, hlt⟩ := hc
        subst he
        have HFG := Lib.hid ((groups_go (b := false) (f := f) (r := (⟨i, 0⟩, acc)) ⟨rfl, hlt⟩).symm.trans HFF.out)
        have HMG : Hid (mu ts.length (Pq.group false ts (⟨i, 0⟩, acc)).1 < f) := Lib.hid (Nat.lt_of_lt_of_le (mu_less (b := false) (ts := ts) (r := (⟨i, 0⟩, acc)) rfl hlt) (Nat.lt_succ_iff.1 HMU.out))
        have hup := (Pq.fwd_head ts ⟨i, 0⟩).up
        have hin := (Pq.fwd_head ts ⟨i, 0⟩).in_ hi
        have HUP9 := Lib.hid (Pq.fwd_expect ts Pq.tClose)
        have hg9 := Pq.fwd_group false ts (⟨i, 0⟩, acc)
        have HGI : Hid ((Pq.group false ts (⟨i, 0⟩, acc)).1.i ≤ ts.length) := Lib.hid (hg9.in_ hi)
        clear HFF HMU hg9
        unfold Pq.group Pq.head at HFG HMG HGI
        unfold Pq.head at hup hin
        simp only at HFG HMG HGI hup hin
        have HC1 := Lib.hid (fun W hb hr => rneed_any Pq.tOrder ts A c b s.size ⟨i, 0⟩ W hb hr hA.out hn)
        have HC2 := Lib.hid (fun W hb hr => rname_any ts A c b s.size (Pq.expect ts Pq.tOrder ⟨i, 0⟩) W hb hr hA.out hn)
        have HC3 := Lib.hid (fun W hb hr => rneed_any Pq.tOpen ts A c b s.size (Pq.name ts (Pq.expect ts Pq.tOrder ⟨i, 0⟩)).2 W hb hr hA.out hn)
        generalize (Pq.expect ts Pq.tOpen (Pq.name ts (Pq.expect ts Pq.tOrder ⟨i, 0⟩)).2) = st0 at *
        generalize (Pq.name ts (Pq.expect ts Pq.tOrder ⟨i, 0⟩)) = N at *
        generalize (Pq.expect ts Pq.tOrder ⟨i, 0⟩) = stO at *
        have HIN : Hid (Pq.items false ts N.1 (ts.length + 1) (st0, acc) = Pq.items false ts N.1 (ts.length + 1) (st0, acc)) := Lib.hid rfl
        have HIF := Lib.hid (show acc.length ≤ st0.i by omega)
        have HIG := Lib.hid hin
        generalize hINV : (Pq.items false ts N.1 (ts.length + 1) (st0, acc)) = IN at HFG HMG HGI
        have HII0 := Lib.hid hINV
        clear hINV HIN hup hin
        have d1 : decide ((i : Int) < (ts.length : Int)) = true := by simp; omega
        have d2 : decide (i < ts.length) = true := by simp; omega
        have HS1 := HS
        go_wp2_with fail
        clear q0 q1 q2 q8 q9 qf HS
        refine (HC1.out _ HS1.out.blk HS1.out.row).mono ?_
        rintro e w2 ⟨rfl, h1, h2⟩
        have HS2 := Lib.hid (HS1.out.step hA.out h1 h2)
        clear h1 h2 HS1 HC1
        go_wp2_with fail
        refine (HC2.out _ HS2.out.blk HS2.out.row).mono ?_
        rintro e w3 ⟨rfl, h1, h2⟩
        have HS3 := Lib.hid (HS2.out.step hA.out h1 h2)
        clear h1 h2 HS2 HC2
        obtain ⟨NO, stN⟩ := N
        simp only at *
        generalize hNB : (ByteArray.mk NO.toArray) = NB at *
        have HNB := Lib.hid hNB
        clear hNB
        go_wp2_with fail
        refine (HC3.out _ HS3.out.blk HS3.out.row).mono ?_
        rintro e w4 ⟨rfl, h1, h2⟩
        have HS4 := Lib.hid (HS3.out.step hA.out h1 h2)
        clear h1 h2 HS3 HC3 hi hac hlt d1 d2 hzb
        go_wp2_with fail
        go_loopg [9] (ts.length + 1) (fun j v wq => ∃ (st : Pq.St) (acc : List Od.It), Hid (Pq.items false ts NO j (st, acc) = IN) ∧ Hid (ts.length - st.i < j) ∧ Hid (PR wX b A c s.size ts st v acc wq) ∧ st.i ≤ ts.length ∧ acc.length ≤ st.i)
        case atStart => exact ⟨st0, acc, HII0, Lib.hid (by have := HIG.out; omega), HS4, HIG.out, HIF.out⟩
        case round =>
          obtain ⟨st, acc2, HII, HJ, HS, hi, hac⟩ := hrel
          rcases gk with _ | j
          · exact absurd HJ.out (by omega)
          have HAC := Lib.hid (ris_any Pq.tPart ts A c b s.size st _ HS.out.blk HS.out.row hn)
          cases hnx : Pq.next ts Pq.tPart st
          · rw [hnx] at HAC
            have hII := HII.out
            rw [items_end hnx] at hII
            subst hII
            simp only at HFG HMG HGI
            have HC4 := Lib.hid (fun W hb hr => rneed_any Pq.tClose ts A c b s.size st W hb hr hA.out hn)
            have HU := Lib.hid (HUP9.out st).up
            clear HII HJ hnx
            generalize (Pq.expect ts Pq.tClose st) = stF at *
            go_wp2_with fail
            refine HAC.out.mono ?_
            rintro e w5 ⟨rfl, h1, h2⟩
            have HS5 := Lib.hid (HS.out.step hA.out h1 h2)
            clear h1 h2 HAC
            go_wp2_with fail
            refine (HC4.out _ HS5.out.blk HS5.out.row).mono ?_
            rintro e w6 ⟨rfl, h1, h2⟩
            have HS6 := Lib.hid (HS5.out.step hA.out h1 h2)
            clear h1 h2 HS5 HC4
            go_wp2
            go_roundg f
            case measure => omega
            case rel => exact ⟨stF, acc2, HFG, HMG, HS6, HGI.out, by have := HU.out; omega⟩
          · obtain ⟨hse, hsi⟩ := Pq.next_lt hnx
            have HCP := Lib.hid (fun W hb hr => rneed_any Pq.tPart ts A c b s.size st W hb hr hA.out hn)
            rw [(expect_next hnx).2] at HCP
            rw [hnx] at HAC
            have hII := Lib.hid ((items_go hnx).symm.trans HII.out)
            have hup := Pq.item_more false ts NO st
            have hin := (Pq.fwd_item false ts NO ⟨st.i + 1, st.e⟩).in_ hsi
            clear HII hnx
            unfold Pq.item Pq.itemD Pq.itemQ Pq.itemP at hII hup hin
            simp only at hII hup hin
            have HC5 := Lib.hid (fun W hb hr => rname_any ts A c b s.size ⟨st.i + 1, st.e⟩ W hb hr hA.out hn)
            have HC6 := Lib.hid (fun W hb hr => rneed_any Pq.tQuantity ts A c b s.size (Pq.name ts ⟨st.i + 1, st.e⟩).2 W hb hr hA.out hn)
            have HC7 := Lib.hid (fun W hb hr => rnumber_any 1 1000 ts A c b s.size (Pq.expect ts Pq.tQuantity (Pq.name ts ⟨st.i + 1, st.e⟩).2) W hb hr hA.out hn)
            have HC8 := Lib.hid (fun W hb hr => rneed_any Pq.tDue ts A c b s.size (Pq.num false ts 1 1000 (Pq.expect ts Pq.tQuantity (Pq.name ts ⟨st.i + 1, st.e⟩).2)).2 W hb hr hA.out hn)
            have HC9 := Lib.hid (fun W hb hr => rnumber_any 0 1000000 ts A c b s.size (Pq.expect ts Pq.tDue (Pq.num false ts 1 1000 (Pq.expect ts Pq.tQuantity (Pq.name ts ⟨st.i + 1, st.e⟩).2)).2) W hb hr hA.out hn)
            have HC10 := Lib.hid (fun W hb hr => rneed_any Pq.tSemi ts A c b s.size (Pq.num false ts 0 1000000 (Pq.expect ts Pq.tDue (Pq.num false ts 1 1000 (Pq.expect ts Pq.tQuantity (Pq.name ts ⟨st.i + 1, st.e⟩).2)).2)).2 W hb hr hA.out hn)
            generalize (Pq.name ts ⟨st.i + 1, st.e⟩) = P at *
            generalize (Pq.expect ts Pq.tQuantity P.2) = sQ at *
            generalize (Pq.num false ts 1 1000 sQ) = Q at *
            generalize (Pq.expect ts Pq.tDue Q.2) = sD at *
            generalize (Pq.num false ts 0 1000000 sD) = D at *
            generalize (Pq.expect ts Pq.tSemi D.2) = sS at *
            obtain ⟨PT, sP⟩ := P
            obtain ⟨QN, sQ2⟩ := Q
            obtain ⟨DN, sD2⟩ := D
            simp only at *
            generalize hPB : (ByteArray.mk PT.toArray) = PB at *
            have HCELL : Hid (itCells ⟨NO, PT, QN, DN⟩ = [.string NB, .string PB, .int .i64 QN, .int .i64 DN]) := Lib.hid (by unfold itCells; rw [HNB.out, hPB])
            have HB9 := Lib.hid (And.intro hup (And.intro hin (And.intro hsi hac)))
            clear hPB hup hin hse hsi hi hac
            go_wp2_with fail
            refine HAC.out.mono ?_
            rintro e w5 ⟨rfl, h1, h2⟩
            have HS4b := Lib.hid (HS.out.step hA.out h1 h2)
            clear h1 h2 HAC HS
            go_wp2_with fail
            refine (HCP.out _ HS4b.out.blk HS4b.out.row).mono ?_
            rintro e w5b ⟨rfl, h1, h2⟩
            have HS5 := Lib.hid (HS4b.out.step hA.out h1 h2)
            clear h1 h2 HCP HS4b
            go_wp2_with fail
            refine (HC5.out _ HS5.out.blk HS5.out.row).mono ?_
            rintro e w6 ⟨rfl, h1, h2⟩
            have HS6 := Lib.hid (HS5.out.step hA.out h1 h2)
            clear h1 h2 HS5 HC5
            have HX7 := Lib.hid (heap_alloc_new w6 (.cells #[.string NB, .string PB, .int .i64 0, .int .i64 0] 33))
            have HS7 := Lib.hid (HS6.out.alloc (.cells #[.string NB, .string PB, .int .i64 0, .int .i64 0] 33))
            have hxb : b < w6.heap.size := HS6.out.size
            have hxv := HS6.out.newer
            have hxX : wX.heap.size ≤ w6.heap.size := HS6.out.gr.size
            have HXA : Hid (Apart A w6.heap.size) := Lib.hid (fun g off e => by have := HAB.out g off e; omega)
            clear HS6
            go_wp2_with fail
            refine (HC6.out _ HS7.out.blk HS7.out.row).mono ?_
            rintro e w8 ⟨rfl, h1, h2⟩
            have HS8 := Lib.hid (HS7.out.step hA.out h1 h2)
            have HX8 := Lib.hid ((h2.block w6.heap.size (heap_lt HX7.out) (fun e => by injection e; omega)).trans HX7.out)
            have hxs := heap_lt HX8.out
            clear h1 h2 HS7 HX7 HC6
            generalize w6.heap.size = xb at *
            go_wp2_with fail
            refine (HC7.out _ HS8.out.blk HS8.out.row).mono ?_
            rintro e w9 ⟨rfl, h1, h2⟩
            have HS9 := Lib.hid (HS8.out.step hA.out h1 h2)
            have HX9 := Lib.hid ((h2.block xb hxs (fun e => by injection e; omega)).trans HX8.out)
            clear h1 h2 HS8 HX8 HC7 hxs
            have m2 := free_of HX9.out 2
            have n2 := cell_of HX9.out 2 _ rfl
            have HS10 := Lib.hid (HS9.out.store hxX hxb hxv HXA.out 2 (.int .i64 QN))
            have HX10 : Hid ((w9.setCell ⟨xb, 2, none⟩ (.int .i64 QN)).heap[xb]? = some (.cells #[.string NB, .string PB, .int .i64 QN, .int .i64 0] 33)) := Lib.hid (block_set HX9.out 2 _)
            go_wp2_with fail
            refine (HC8.out _ HS10.out.blk HS10.out.row).mono ?_
            rintro e w11 ⟨rfl, h1, h2⟩
            have HS11 := Lib.hid (HS10.out.step hA.out h1 h2)
            have HX11 := Lib.hid ((h2.block xb (heap_lt HX10.out) (fun e => by injection e; omega)).trans HX10.out)
            clear h1 h2 HS10 HX10 HC8 HS9 HX9 m2 n2
            go_wp2_with fail
            refine (HC9.out _ HS11.out.blk HS11.out.row).mono ?_
            rintro e w12 ⟨rfl, h1, h2⟩
            have HS12 := Lib.hid (HS11.out.step hA.out h1 h2)
            have HX12 := Lib.hid ((h2.block xb (heap_lt HX11.out) (fun e => by injection e; omega)).trans HX11.out)
            clear h1 h2 HS11 HX11 HC9
            have m3 := free_of HX12.out 3
            have n3 := cell_of HX12.out 3 _ rfl
            have HS13 := Lib.hid (HS12.out.store hxX hxb hxv HXA.out 3 (.int .i64 DN))
            have HX13 : Hid ((w12.setCell ⟨xb, 3, none⟩ (.int .i64 DN)).heap[xb]? = some (.cells #[.string NB, .string PB, .int .i64 QN, .int .i64 DN] 33)) := Lib.hid (block_set HX12.out 3 _)
            go_wp2_with fail
            refine (HC10.out _ HS13.out.blk HS13.out.row).mono ?_
            rintro e w14 ⟨rfl, h1, h2⟩
            have HS14 := Lib.hid (HS13.out.step hA.out h1 h2)
            have HX14 := Lib.hid ((h2.block xb (heap_lt HX13.out) (fun e => by injection e; omega)).trans HX13.out)
            clear h1 h2 HS13 HX13 HC10 HS12 HX12 m3 n3
            have x0 := cell_of HX14.out 0 _ rfl
            have x1 := cell_of HX14.out 1 _ rfl
            have x2 := cell_of HX14.out 2 _ rfl
            have x3 := cell_of HX14.out 3 _ rfl
            have C1 := Lib.hid (cells_new4 w14 (.string NB) (.string PB) (.int .i64 QN) (.int .i64 DN) 33)
            have C2 : Hid (∀ u ∈ [Value.string NB, .string PB, .int .i64 QN, .int .i64 DN], u.oneCell' = true) := Lib.hid (by intro u hu; simp at hu; rcases hu with rfl | rfl | rfl | rfl <;> rfl)
            have C3 : Hid (acc2.length + 1 ≤ maxLen ∧ (acc2.length + 1) * 48 ≤ 140737488355328) := Lib.hid (by have := HB9.out.2.2; unfold maxLen; omega)
            have C5 : Hid (b + 1 ≤ (w14.alloc (.cells #[.string NB, .string PB, .int .i64 QN, .int .i64 DN] 33)).heap.size) := Lib.hid (by have := HS14.out.size; simp; omega)
            have HS15 := Lib.hid (HS14.out.alloc (.cells #[.string NB, .string PB, .int .i64 QN, .int .i64 DN] 33))
            go_wp2_with (at_builtin; refine wpList_append_own _ rfl _ _ 22 rfl (b + 1) 33 i0 _ 4 48 Tryz.underlying22 ia ib ic id rfl (by omega) _ _ _ rfl HS15.out.own ⟨w14.heap.size, 0, none⟩ 1 1 [.string NB, .string PB, .int .i64 QN, .int .i64 DN] rfl rfl C1.out C2.out C3.out.1 C3.out.2 C5.out ?_)
            intro v' w16 hown hg _
            have HS16 := Lib.hid (HS15.out.put (x := ⟨NO, PT, QN, DN⟩) (Nat.le_of_eq HXS.out) HAB.out hg (by rw [HCELL.out]; exact hown))
            clear hown hg x0 x1 x2 x3
            go_wp2
            go_roundg j
            case measure => omega
            case rel => exact ⟨sS, acc2 ++ [⟨NO, PT, QN, DN⟩], hII, Lib.hid (by have := HB9.out; have := HJ.out; omega), HS16, HB9.out.2.1, by have := HB9.out; rw [List.length_append, List.length_singleton]; omega⟩
      · have hFI : (⟨i, er⟩, acc) = FIN := (groups_end (b := false) (f := f) hc).symm.trans HFF.out
        subst hFI
        simp only at hR
        clear HFF HMU hF
        obtain ⟨B, d, rfl, hnd⟩ := own_shape HS.out.own
        have HRO := Lib.hid (fun W (h : PR wX b A c s.size ts ⟨i, er⟩ (.slice B acc.length d) acc W) => Row.of_own h.own)
        have HFB := Lib.hid (fun W (h : PR wX b A c s.size ts ⟨i, er⟩ (.slice B acc.length d) acc W) => HB1.out.grown h.gr (by have := HXS.out; omega) (fun k hk => by cases hk; exact HZ))
        by_cases he : er = 0
        · subst he
          have hlt : ¬ i < ts.length := fun h => hc ⟨rfl, h⟩
          have d1 : decide ((i : Int) < (ts.length : Int)) = false := by simp; omega
          have d2 : decide (i < ts.length) = false := by simp; omega
          rw [if_neg (by simp)] at hR
          clear hc
          have HE := Lib.hid (HFB.out _ HS.out)
          by_cases hl : 100 < acc.length
          · rw [if_pos hl] at hR
            have d3 : decide ((100 : Int) < (acc.length : Int)) = true := by simp; omega
            go_wp2_with fail
            go_ret3
            rw [hR.out]
            exact ⟨none, 0, rfl, Row.nil _ _, HE.out⟩
          · rw [if_neg hl] at hR
            have d3 : decide ((100 : Int) < (acc.length : Int)) = false := by simp; omega
            have HE2 := Lib.hid (HRO.out _ HS.out)
            go_wp2_with fail
            go_ret3
            rw [hR.out]
            exact ⟨B, d, rfl, HE2.out, HE.out⟩
        · have e1 : (er == 0) = false := by simpa using he
          have e2 : (er != 0) = true := by simpa using he
          rw [if_pos he] at hR
          rw [show rat ts s.size ⟨i, er⟩ = Pq.off ts s.size i by unfold rat; rw [if_neg he]] at q9
          clear hc he
          generalize (Pq.off ts s.size i) = ps at *
          by_cases hlt : i < ts.length
          · have d1 : decide ((i : Int) < (ts.length : Int)) = true := by simp; omega
            have d2 : decide (i < ts.length) = true := by simp; omega
            go_wp2_with fail
            go_quiet (fail)
            have HE := Lib.hid (HFB.out _ (HS.out.drewN nq))
            go_wp2_with fail
            go_ret3
            rw [hR.out]
            exact ⟨none, 0, rfl, Row.nil _ _, HE.out⟩
          · have d1 : decide ((i : Int) < (ts.length : Int)) = false := by simp; omega
            have d2 : decide (i < ts.length) = false := by simp; omega
            go_wp2_with fail
            go_quiet (fail)
            have HE := Lib.hid (HFB.out _ (HS.out.drewN nq))
            go_wp2_with fail
            go_ret3
            rw [hR.out]
            exact ⟨none, 0, rfl, Row.nil _ _, HE.out⟩
  · rw [if_pos he]
    have HE := Lib.hid he
    have e1 : (er != 0) = true := by simpa using he
    clear he
    go_enter Tryz.func7, Tryz.ntmps7
    go_wp2_with fail
    refine HT.out.mono ?_
    rintro e w1 ⟨v, rfl, hown, hbel⟩
    have HB := Lib.hid hbel
    clear hown hbel
    go_wp2
    go_ret3
    exact ⟨none, 0, rfl, Row.nil _ _, HB.out⟩
end Go.Proofs.YteldekkodhfkkaaGreatDoor.PqW
