/- Walk: the reference's lines of a text. Conditions: the text has at most a million bytes. -/
import Derived.Test.YtnmmhcchpcbeeaaGreatDoorGtT
import Derived.Test.YtnmmhcchpcbeeaaGreatDoorGtH
import Derived.Test.YtnmmhcchpcbeeaaGreatDoorOdLex
import Derived.Lib.AtoiBound
import Derived.Test.YtnmmhcchpcbeeaaGreatDoorOwnP

namespace Go.Proofs.YtnmmhcchpcbeeaaGreatDoor.GtW
open Go Go.RowKit Go.Proofs.YtnmmhcchpcbeeaaGreatDoor.Mem Go.Proofs.YtnmmhcchpcbeeaaGreatDoor.Gt Go.Proofs.YtnmmhcchpcbeeaaGreatDoor.Ge
attribute [local go_sem ↓] Go.wp_at_zero Go.wp_at_succ

def robj (A : Option Addr) (n c : Nat) (s : Gt.S) : Obj := .cells #[.slice A n c, .int .i64 (s.i : Int), .bool s.bad] 70 (0, 0)
theorem rcell {w : World} {b : Nat} {A : Option Addr} {n c : Nat} {s : Gt.S} (h : w.heap[b]? = some (robj A n c s)) : w.cell? ⟨b, 0, none⟩ = some (.slice A n c) ∧ w.cell? ⟨b, 1, none⟩ = some (.int .i64 (s.i : Int)) ∧ w.cell? ⟨b, 2, none⟩ = some (.bool s.bad) ∧ ∀ j, w.frozen? ⟨b, j, none⟩ = false :=
 ⟨cell_of h 0 _ rfl, cell_of h 1 _ rfl, cell_of h 2 _ rfl, fun j => free_of h j⟩
theorem rset_bad {w : World} {b : Nat} {A : Option Addr} {n c : Nat} {s : Gt.S} (h : w.heap[b]? = some (robj A n c s)) : (w.setCell ⟨b, 2, none⟩ (.bool true)).heap[b]? = some (robj A n c ⟨s.i, true⟩) := block_set h 2 _
theorem rset_i {w : World} {b : Nat} {A : Option Addr} {n c : Nat} {s : Gt.S} (h : w.heap[b]? = some (robj A n c s)) (i : Nat) : (w.setCell ⟨b, 1, none⟩ (.int .i64 (i : Int))).heap[b]? = some (robj A n c ⟨i, s.bad⟩) := block_set h 1 _
/-- The decoder and its lines in a world. -/
structure Rc (w : World) (b : Nat) (A : Option Addr) (c : Nat) (L : List (List UInt8)) (s : Gt.S) : Prop where
 obj : w.heap[b]? = some (robj A L.length c s)
 row : Row w A (L.map strV)
 apart : Apart A b
 few : L.length ≤ 4611686018427387904
 short : ∀ x ∈ L, x.length ≤ 1000000
theorem Rc.below {w w' : World} {b : Nat} {A : Option Addr} {c : Nat} {L : List (List UInt8)} {s : Gt.S} (h : Rc w b A c L s) (hb : Below w.heap.size w w') : Rc w' b A c L s :=
 ⟨p_below h.obj hb, h.row.below hb, h.apart, h.few, h.short⟩
theorem Rc.grown {w w' : World} {b : Nat} {A : Option Addr} {c : Nat} {L : List (List UInt8)} {s s' : Gt.S} (h : Rc w b A c L s) (ho : w'.heap[b]? = some (robj A L.length c s')) (hg : w.grownBy w' (some b)) : Rc w' b A c L s' :=
 ⟨ho, row_grown h.row h.apart hg, h.apart, h.few, h.short⟩
/-- What a call of the decoder does: it answers v, leaves the decoder in state s', and everything else as it was. -/
def RDid (w : World) (b : Nat) (A : Option Addr) (c : Nat) (L : List (List UInt8)) (v : Value) (s' : Gt.S) (e : Ending) (w' : World) : Prop := e = .returned v ∧ Rc w' b A c L s' ∧ w.grownBy w' (some b)
theorem rnx_ways (L : List (List UInt8)) (s : Gt.S) : (s.bad = true ∧ rnx L s = ([], ⟨s.i, true⟩)) ∨ (s.bad = false ∧ L.length ≤ s.i ∧ rnx L s = ([], ⟨s.i, true⟩)) ∨
  (s.bad = false ∧ ∃ h : s.i < L.length, rnx L s = (L[s.i], ⟨s.i + 1, false⟩)) := by
 obtain ⟨i, b⟩ := s
 unfold rnx
 cases b with
 | true => exact .inl ⟨rfl, by simp⟩
 | false =>
  right
  by_cases h : i < L.length
  ·exact .inr ⟨rfl, h, by simp [List.getElem?_eq_getElem h]⟩
  ·exact .inl ⟨rfl, by simpa using h, by simp [List.getElem?_eq_none (show L.length ≤ i by omega)]⟩
theorem rnx_line {L : List (List UInt8)} {s : Gt.S} : (rnx L s).1 = [] ∨ (rnx L s).1 ∈ L := by
 rcases rnx_ways L s with ⟨_, h⟩ | ⟨_, _, h⟩ | ⟨_, hi, h⟩
 ·rw [h]; exact .inl rfl
 ·rw [h]; exact .inl rfl
 ·rw [h]; exact .inr (List.getElem_mem hi)
theorem rnx_short {L : List (List UInt8)} {s : Gt.S} (h : ∀ x ∈ L, x.length ≤ 1000000) : (rnx L s).1.length ≤ 1000000 := by
 rcases rnx_line (L := L) (s := s) with h1 | h1
 ·rw [h1]; simp
 ·exact h _ h1
/-- Behind a passed line the index is at least one. -/
theorem rnx_i {L : List (List UInt8)} {s : Gt.S} (h : (rnx L s).2.bad = false) : 1 ≤ (rnx L s).2.i ∧ (rnx L s).2.i ≤ L.length := by
 rcases rnx_ways L s with ⟨_, e⟩ | ⟨_, _, e⟩ | ⟨_, hi, e⟩
 ·rw [e] at h; cases h
 ·rw [e] at h; cases h
 ·rw [e]; exact ⟨by simp, hi⟩

set_option maxRecDepth 100000 in
set_option maxHeartbeats 1000000 in
theorem rnext_any (L : List (List UInt8)) (A : Option Addr) (c b : Nat) (s : Gt.S) (w : World) (h : Rc w b A c L s) :
  Calls Tryz.prog 30 #[.pointer (some ⟨b, 0, none⟩)] w (RDid w b A c L (.string ⟨(rnx L s).1.toArray⟩) (rnx L s).2) := by
 obtain ⟨c0, c1, c2, cf⟩ := rcell h.obj
 have hlt := blk_lt h.obj
 have f1 := cf 1
 have f2 := cf 2
 have hn := h.few
 clear cf
 have H1 := Lib.hid h
 obtain ⟨i, er⟩ := s
 simp only at c1 c2
 have HB := Lib.hid H1.out.obj
 have HGR := Lib.hid (grown_refl w (some b))
 clear h
 rcases rnx_ways L ⟨i, er⟩ with ⟨he, ht⟩ | ⟨he, hi, ht⟩ | ⟨he, hi, ht⟩
 ·rw [ht]
  simp only at he
  subst he
  clear ht
  go_enter Tryz.func30, Tryz.ntmps30
  go_wp2_with fail
  go_quiet (fail)
  go_wp2
  go_ret
  exact ⟨rfl, H1.out.grown (rset_bad (s := ⟨i, true⟩) HB.out) (grown_set (grown_drewN HGR.out _) _ _), grown_set (grown_drewN HGR.out _) _ _⟩
 ·rw [ht]
  simp only at he hi
  subst he
  clear ht
  have d1 : decide ((L.length : Int) ≤ (i : Int)) = true := by simp; omega
  go_enter Tryz.func30, Tryz.ntmps30
  go_wp2_with fail
  go_quiet (fail)
  go_wp2
  go_ret
  exact ⟨rfl, H1.out.grown (rset_bad (s := ⟨i, false⟩) HB.out) (grown_set (grown_drewN HGR.out _) _ _), grown_set (grown_drewN HGR.out _) _ _⟩
 ·rw [ht]
  simp only at he hi
  subst he
  clear ht
  have d1 : decide ((L.length : Int) ≤ (i : Int)) = false := by simp; omega
  have hi0 : (0 : Int) ≤ (i : Int) := by omega
  have hi1 : (i : Int) < (L.length : Int) := by omega
  obtain ⟨g2, off, rfl, hg2, t0⟩ := line_get H1.out.row hi
  have hgb : g2 ≠ b := H1.out.apart g2 off rfl
  simp only
  generalize L[i] = x at *
  unfold strV at t0
  generalize (ByteArray.mk x.toArray) = TB at *
  have x0 : IntKind.i64.wrap ((i : Int) + 1) = (i : Int) + 1 := by rw [wrapEq]; unfold wrap64; omega
  have d2 : decide (L.length ≤ i) = false := by simp; omega
  have x1 : (i : Int) + 1 ≤ 9223372036854775807 := by omega
  go_enter Tryz.func30, Tryz.ntmps30
  go_wp2_with fail
  go_quiet (fail)
  obtain ⟨r0, r1, r2, rf⟩ := rcell (w := w.drewN nq) (s := ⟨i, false⟩) HB.out
  simp only at r1 r2
  have rf1 := rf 1
  have HB3 : Hid (((w.drewN nq).setCell ⟨b, 1, none⟩ (.int .i64 ((i : Int) + 1))).heap[b]? = some (robj (some ⟨g2, off, none⟩) L.length c ⟨i + 1, false⟩)) := Lib.hid (rset_i (w := w.drewN nq) (s := ⟨i, false⟩) HB.out (i + 1))
  have HG3 := Lib.hid (grown_set (grown_drewN HGR.out nq) 1 (.int .i64 ((i : Int) + 1)))
  have HS0 : Hid (((w.drewN nq).setCell ⟨b, 1, none⟩ (.int .i64 ((i : Int) + 1))).cell? ⟨g2, off + i, none⟩ = some (.string TB)) := Lib.hid (by rw [World.cell?_of_block (block_other _ _ _ _ hgb)]; exact t0)
  clear c0 c1 c2 f1 f2 rf t0
  generalize w.drewN nq = W2 at *
  go_wp2_with fail
  obtain ⟨u0, u1, u2, uf⟩ := rcell HB3.out
  have s0 := HS0.out
  generalize (W2.setCell ⟨b, 1, none⟩ (.int .i64 ((i : Int) + 1))) = W3 at *
  simp only at u1 u2
  have x2 : IntKind.i64.wrap (i : Int) = (i : Int) := by rw [wrapEq]; unfold wrap64; omega
  have x3 : IntKind.i64.wrap ((i : Int) + 1 - 1) = (i : Int) := by rw [wrapEq]; unfold wrap64; omega
  go_quiet (fail)
  go_wp2
  go_ret
  exact ⟨rfl, H1.out.grown (w' := W3.drewN _) HB3.out (grown_drewN HG3.out _), grown_drewN HG3.out _⟩
set_option maxRecDepth 100000 in
set_option maxHeartbeats 1000000 in
theorem rwrong_any (L : List (List UInt8)) (A : Option Addr) (c b : Nat) (s : Gt.S) (w : World) (h : Rc w b A c L s) (hi : s.bad = false → 1 ≤ s.i ∧ s.i ≤ L.length) :
  Calls Tryz.prog 32 #[.pointer (some ⟨b, 0, none⟩)] w (RDid w b A c L (.tuple #[]) (ck false s)) := by
 obtain ⟨c0, c1, c2, cf⟩ := rcell h.obj
 have f1 := cf 1
 have f2 := cf 2
 have H1 := Lib.hid h
 have hf := h.few
 clear cf h
 obtain ⟨i, bad⟩ := s
 simp only at c1 c2 hi
 cases bad
 ·obtain ⟨hi1, hi2⟩ := hi rfl
  have HB := Lib.hid H1.out.obj
  have x0 : IntKind.i64.wrap ((i : Int) - 1) = ((i - 1 : Nat) : Int) := by rw [wrapEq]; unfold wrap64; omega
  have HB2 := Lib.hid (rset_bad HB.out)
  have HB3 := Lib.hid (rset_i HB2.out (i - 1))
  have HG3 := Lib.hid (grown_set (grown_set (grown_refl w (some b)) 2 (.bool true)) 1 (.int .i64 ((i - 1 : Nat) : Int)))
  obtain ⟨u0, u1, u2, uf⟩ := rcell HB2.out
  simp only at u1 u2
  have g1 := uf 1
  rw [show ck false ⟨i, false⟩ = ⟨i - 1, true⟩ from rfl]
  go_enter Tryz.func32, Tryz.ntmps32
  go_wp2
  go_end0
  exact ⟨rfl, H1.out.grown HB3.out HG3.out, HG3.out⟩
 ·rw [show ck false ⟨i, true⟩ = ⟨i, true⟩ by simp [ck]]
  go_enter Tryz.func32, Tryz.ntmps32
  go_wp2
  go_end0
  exact ⟨rfl, H1.out, grown_refl _ _⟩
end Go.Proofs.YtnmmhcchpcbeeaaGreatDoor.GtW

namespace Go.Proofs.YtnmmhcchpcbeeaaGreatDoor.GtW
open Go Go.RowKit Go.Proofs.YtnmmhcchpcbeeaaGreatDoor.Mem Go.Proofs.YtnmmhcchpcbeeaaGreatDoor.Gt Go.Proofs.YtnmmhcchpcbeeaaGreatDoor.Ge
open Go.Proofs.YtnmmhcchpcbeeaaGreatDoor.LexW (ritoa_any rtokens_any)
attribute [local go_sem ↓] Go.wp_at_zero Go.wp_at_succ

theorem ck_true (s : Gt.S) : ck true s = s := by simp [ck]
theorem tok_ways4 (x : List UInt8) : ((Lex.tokens x).err ≠ 0 ∧ tokNum x = none) ∨ ((Lex.tokens x).err = 0 ∧ (Lex.tokens x).toks.length ≠ 1 ∧ tokNum x = none) ∨
  ((Lex.tokens x).err = 0 ∧ ∃ t, (Lex.tokens x).toks = [t] ∧ t.kind ≠ 2 ∧ tokNum x = none) ∨ ((Lex.tokens x).err = 0 ∧ ∃ t, (Lex.tokens x).toks = [t] ∧ t.kind = 2 ∧ tokNum x = some t.n) := by
 unfold tokNum
 by_cases he : (Lex.tokens x).err = 0
 ·cases ht : (Lex.tokens x).toks with
  | nil => exact .inr (.inl ⟨he, by simp, rfl⟩)
  | cons t r =>
   cases r with
   | nil =>
    by_cases hk : t.kind = 2
    ·exact .inr (.inr (.inr ⟨he, t, rfl, hk, by simp [he, hk]⟩))
    ·exact .inr (.inr (.inl ⟨he, t, rfl, hk, by simp [hk]⟩))
   | cons u r => exact .inr (.inl ⟨he, by simp, rfl⟩)
 ·refine .inl ⟨he, ?_⟩
  cases ht : (Lex.tokens x).toks with
  | nil => rfl
  | cons t r =>
   cases r with
   | nil => simp [he]
   | cons u r => rfl
theorem num_i64 {c : UInt8} {r : List UInt8} (h : (Lex.numDigs c r).length ≤ 9) : -9223372036854775808 ≤ Lex.numVal c r ∧ Lex.numVal c r ≤ 9223372036854775807 := by
 have hl : (c :: Lex.numRun r).length ≤ 18 := by
  unfold Lex.numDigs at h
  split at h
  ·simp only [List.length_cons]; omega
  ·omega
 unfold Lex.numVal
 cases hx : Lib.atoi (c :: Lex.numRun r) with
 | none => simp
 | some v =>
  have := Lib.atoi_bound hx hl
  simp only [Option.getD_some]
  omega
theorem tok_i64 {x : List UInt8} {t : Lex.Tok} (h : (Lex.tokens x).toks = [t]) (he : (Lex.tokens x).err = 0) : -9223372036854775808 ≤ t.n ∧ t.n ≤ 9223372036854775807 := by
 unfold Lex.tokens at h he
 by_cases hl : 20000 < x.length
 ·rw [if_pos hl] at h; cases h
 ·rw [if_neg hl] at h he
  obtain ⟨c, r, h0, _, _, hn, _⟩ := Lex.lex_word he t (by rw [h]; simp)
  rw [hn]
  rcases Lex.tok_ways h0 with ⟨h1, h2, e⟩ | ⟨h1, h2, h3, h4, e⟩ | ⟨h1, h2, h3, e⟩ <;> rw [e] <;> simp only
  ·omega
  ·exact num_i64 h4
  ·omega
theorem row_one {w : World} {base : Nat} {T : TypeId} {v : Value} {t : Lex.Tok} (h : w.ownsRow base T 4 v 1 (LexW.toksCells [t])) : ∃ g off c, v = .slice (some ⟨g, off, none⟩) 1 c ∧ g < w.heap.size ∧ w.cell? ⟨g, off, none⟩ = some (.int .i64 t.kind) ∧ w.cell? ⟨g, off + 2, none⟩ = some (.int .i64 t.n) := by
 obtain ⟨A, c, rfl, _⟩ := own_shape h
 obtain ⟨g, off, rfl, hg, hc⟩ := Row.of_own h (by simp [LexW.toksCells, LexW.tokCells])
 exact ⟨g, off, c, rfl, hg, hc 0 (by simp [LexW.toksCells, LexW.tokCells]), hc 2 (by simp [LexW.toksCells, LexW.tokCells])⟩

set_option maxRecDepth 100000 in
set_option maxHeartbeats 1000000 in
theorem rcode_any (L : List (List UInt8)) (A : Option Addr) (c b : Nat) (s : Gt.S) (n : Int) (w : World) (h : Rc w b A c L s) (hn : -9223372036854775808 ≤ n ∧ n ≤ 9223372036854775807) :
  Calls Tryz.prog 29 #[.pointer (some ⟨b, 0, none⟩), .int .i64 n] w (RDid w b A c L (.tuple #[]) (cd L n s)) := by
 rw [← cd_rnx]
 have H1 := Lib.hid h
 have HN := Lib.hid (rnext_any L A c b s w h)
 have HI := Lib.hid (fun W => ritoa_any n W hn.1 hn.2)
 have HW := Lib.hid (fun W hW => rwrong_any L A c b (rnx L s).2 W hW rnx_i)
 have HG1 := Lib.hid (grown_refl w (some b))
 clear h
 by_cases he : (rnx L s).1 = Lib.itoa n
 ·rw [if_pos he]
  have hq := str_eql (rnx L s).1 (Lib.itoa n)
  rw [decide_eq_true he] at hq
  clear he HW
  generalize (rnx L s).2 = s2 at *
  generalize (ByteArray.mk (rnx L s).1.toArray) = XB at *
  generalize (ByteArray.mk (Lib.itoa n).toArray) = TB at *
  go_enter Tryz.func29, Tryz.ntmps29
  go_wp2_with fail
  refine HN.out.mono ?_
  rintro e w2 ⟨rfl, h2, hg2⟩
  have H2 := Lib.hid h2
  have HG2 := Lib.hid (HG1.out.trans hg2)
  clear h2 hg2
  go_wp2_with fail
  refine (HI.out _).mono ?_
  rintro e w3 ⟨rfl, hb3⟩
  go_wp2
  go_end0
  exact ⟨rfl, H2.out.below hb3, grown_below HG2.out hb3⟩
 ·rw [if_neg he]
  have hq := str_eql (rnx L s).1 (Lib.itoa n)
  rw [decide_eq_false he] at hq
  clear he
  generalize (rnx L s).2 = s2 at *
  generalize (ByteArray.mk (rnx L s).1.toArray) = XB at *
  generalize (ByteArray.mk (Lib.itoa n).toArray) = TB at *
  go_enter Tryz.func29, Tryz.ntmps29
  go_wp2_with fail
  refine HN.out.mono ?_
  rintro e w2 ⟨rfl, h2, hg2⟩
  have H2 := Lib.hid h2
  have HG2 := Lib.hid (HG1.out.trans hg2)
  clear h2 hg2
  go_wp2_with fail
  refine (HI.out _).mono ?_
  rintro e w3 ⟨rfl, hb3⟩
  have H3 := Lib.hid (H2.out.below hb3)
  have HG3 := Lib.hid (grown_below HG2.out hb3)
  clear hb3
  go_wp2_with fail
  refine (HW.out _ H3.out).mono ?_
  rintro e w4 ⟨rfl, h4, hg4⟩
  have H4 := Lib.hid h4
  have HG4 := Lib.hid (HG3.out.trans hg4)
  clear h4 hg4
  go_wp2
  go_end0
  exact ⟨rfl, H4.out, HG4.out⟩

set_option maxRecDepth 100000 in
set_option maxHeartbeats 4000000 in
theorem rnumber_any (L : List (List UInt8)) (A : Option Addr) (c b : Nat) (s : Gt.S) (n lo hi : Int) (w : World) (h : Rc w b A c L s) (hn : -9223372036854775808 ≤ n ∧ n ≤ 9223372036854775807) (hlo : -999999999 ≤ lo) (hhi : hi ≤ 999999999) :
  Calls Tryz.prog 68 #[.pointer (some ⟨b, 0, none⟩), .int .i64 n, .int .i64 lo, .int .i64 hi] w (RDid w b A c L (.int .i64 (nb L n lo hi s).1) (nb L n lo hi s).2) := by
 rw [← nb_rnx]
 have HC := Lib.hid (rcode_any L A c b s n w h hn)
 have HG1 := Lib.hid (grown_refl w (some b))
 have HSH := Lib.hid (rnx_short (L := L) (s := cd L n s) h.short)
 clear h
 generalize cd L n s = s1 at *
 have HN := Lib.hid (fun W hW => rnext_any L A c b s1 W hW)
 have HW := Lib.hid (fun W hW => rwrong_any L A c b (rnx L s1).2 W hW rnx_i)
 generalize (rnx L s1).2 = s2 at *
 generalize (rnx L s1).1 = x at *
 have HT := Lib.hid (fun W => rtokens_any ⟨x.toArray⟩ W)
 rw [show (ByteArray.mk x.toArray).data.toList = x by simp] at HT
 have HE := Lib.hid (numTok_eq hlo hhi x)
 have HV := Lib.hid (numTok_val hlo hhi (x := x))
 rcases tok_ways4 x with ⟨he, hk⟩ | ⟨he, hl, hk⟩ | ⟨he, t, ht, hk2, hk⟩ | ⟨he, t, ht, hk2, hk⟩
 ·have e0 : numOk lo hi x = false := by rw [← HE.out]; unfold numTok; rw [hk]
  rw [e0]
  simp only [Bool.false_eq_true, if_false]
  have hne : ((Lex.tokens x).err != 0) = true := by simpa using he
  have hn1 : ((Lex.tokens x).err == 0) = false := by simpa using he
  clear HE HV he hk e0
  cases hT : Lex.tokens x with
  | mk toks pos err =>
  rw [hT] at HT hne hn1
  simp only at hne hn1
  clear hT
  generalize (ByteArray.mk x.toArray) = XB at *
  go_enter Tryz.func68, Tryz.ntmps68
  go_wp2_with fail
  refine HC.out.mono ?_
  rintro e w2 ⟨rfl, h2, hg2⟩
  have H2 := Lib.hid h2
  have HG2 := Lib.hid (HG1.out.trans hg2)
  clear h2 hg2
  go_wp2_with fail
  refine (HN.out _ H2.out).mono ?_
  rintro e w3 ⟨rfl, h3, hg3⟩
  have H3 := Lib.hid h3
  have HG3 := Lib.hid (HG2.out.trans hg3)
  clear h3 hg3
  go_wp2_with fail
  refine (HT.out _).mono ?_
  rintro e w4 ⟨v, rfl, hown, hb4⟩
  have H4 := Lib.hid (H3.out.below hb4)
  have HG4 := Lib.hid (grown_below HG3.out hb4)
  clear hb4
  obtain ⟨B, d, rfl, _⟩ := own_shape hown
  clear hown
  go_wp2_with fail
  refine (HW.out _ H4.out).mono ?_
  rintro e w9 ⟨rfl, h9, hg9⟩
  go_wp2
  go_ret
  exact ⟨rfl, h9, HG4.out.trans hg9⟩
 ·have e0 : numOk lo hi x = false := by rw [← HE.out]; unfold numTok; rw [hk]
  rw [e0]
  simp only [Bool.false_eq_true, if_false]
  clear HE HV hk e0
  cases hT : Lex.tokens x with
  | mk toks pos err =>
  rw [hT] at HT he hl
  simp only at he hl
  subst he
  have hl1 : ((toks.length : Int) != 1) = true := by simp; omega
  have hl2 : ((toks.length : Int) == 1) = false := by simp; omega
  clear hT hl
  generalize (ByteArray.mk x.toArray) = XB at *
  go_enter Tryz.func68, Tryz.ntmps68
  go_wp2_with fail
  refine HC.out.mono ?_
  rintro e w2 ⟨rfl, h2, hg2⟩
  have H2 := Lib.hid h2
  have HG2 := Lib.hid (HG1.out.trans hg2)
  clear h2 hg2
  go_wp2_with fail
  refine (HN.out _ H2.out).mono ?_
  rintro e w3 ⟨rfl, h3, hg3⟩
  have H3 := Lib.hid h3
  have HG3 := Lib.hid (HG2.out.trans hg3)
  clear h3 hg3
  go_wp2_with fail
  refine (HT.out _).mono ?_
  rintro e w4 ⟨v, rfl, hown, hb4⟩
  have H4 := Lib.hid (H3.out.below hb4)
  have HG4 := Lib.hid (grown_below HG3.out hb4)
  clear hb4
  obtain ⟨B, d, rfl, _⟩ := own_shape hown
  clear hown
  go_wp2_with fail
  refine (HW.out _ H4.out).mono ?_
  rintro e w9 ⟨rfl, h9, hg9⟩
  go_wp2
  go_ret
  exact ⟨rfl, h9, HG4.out.trans hg9⟩
 ·have e0 : numOk lo hi x = false := by rw [← HE.out]; unfold numTok; rw [hk]
  rw [e0]
  simp only [Bool.false_eq_true, if_false]
  clear HE HV hk e0
  cases hT : Lex.tokens x with
  | mk toks pos err =>
  rw [hT] at HT he ht
  simp only at he ht
  subst he ht
  have hl1 : (t.kind != 2) = true := by simpa using hk2
  have hl2 : (t.kind == 2) = false := by simpa using hk2
  clear hT hk2
  generalize (ByteArray.mk x.toArray) = XB at *
  go_enter Tryz.func68, Tryz.ntmps68
  go_wp2_with fail
  refine HC.out.mono ?_
  rintro e w2 ⟨rfl, h2, hg2⟩
  have H2 := Lib.hid h2
  have HG2 := Lib.hid (HG1.out.trans hg2)
  clear h2 hg2
  go_wp2_with fail
  refine (HN.out _ H2.out).mono ?_
  rintro e w3 ⟨rfl, h3, hg3⟩
  have H3 := Lib.hid h3
  have HG3 := Lib.hid (HG2.out.trans hg3)
  clear h3 hg3
  go_wp2_with fail
  refine (HT.out _).mono ?_
  rintro e w4 ⟨v, rfl, hown, hb4⟩
  have H4 := Lib.hid (H3.out.below hb4)
  have HG4 := Lib.hid (grown_below HG3.out hb4)
  clear hb4
  obtain ⟨g, off, d, rfl, hg, k0, k2⟩ := row_one hown
  clear hown
  go_wp2_with fail
  refine (HW.out _ H4.out).mono ?_
  rintro e w9 ⟨rfl, h9, hg9⟩
  go_wp2
  go_ret
  exact ⟨rfl, h9, HG4.out.trans hg9⟩
 ·have hi64 := tok_i64 ht he
  have HI := Lib.hid (fun W => ritoa_any t.n W hi64.1 hi64.2)
  have e0 : numOk lo hi x = (decide (Lib.itoa t.n = x) && (decide (lo ≤ t.n) && decide (t.n ≤ hi))) := by rw [← HE.out]; unfold numTok; rw [hk]
  have hval : numOk lo hi x = true → numV x = t.n := fun h9 => by
   have := HV.out (by rw [HE.out]; exact h9)
   rw [hk] at this
   injection this with this
   exact this.symm
  rw [e0] at hval ⊢
  have HVAL := Lib.hid hval
  clear HE HV hk e0 hval hi64
  cases hT : Lex.tokens x with
  | mk toks pos err =>
  rw [hT] at HT he ht
  simp only at he ht
  subst he ht
  have hq := str_eql (Lib.itoa t.n) x
  obtain ⟨k, tx, m, ps⟩ := t
  simp only at hk2
  subst hk2
  simp only at hq HI HVAL ⊢
  by_cases hx : Lib.itoa m = x
  ·rw [decide_eq_true hx] at hq HVAL ⊢
   by_cases h1 : m < lo
   ·have d1 : decide (m < lo) = true := decide_eq_true h1
    rw [show decide (lo ≤ m) = false from decide_eq_false (by omega)]
    simp only [Bool.true_and, Bool.false_and, Bool.false_eq_true, if_false]
    clear HVAL hT hx
    generalize (ByteArray.mk x.toArray) = XB at *
    generalize (ByteArray.mk (Lib.itoa m).toArray) = TB at *
    go_enter Tryz.func68, Tryz.ntmps68
    go_wp2_with fail
    refine HC.out.mono ?_
    rintro e w2 ⟨rfl, h2, hg2⟩
    have H2 := Lib.hid h2
    have HG2 := Lib.hid (HG1.out.trans hg2)
    clear h2 hg2
    go_wp2_with fail
    refine (HN.out _ H2.out).mono ?_
    rintro e w3 ⟨rfl, h3, hg3⟩
    have H3 := Lib.hid h3
    have HG3 := Lib.hid (HG2.out.trans hg3)
    clear h3 hg3
    go_wp2_with fail
    refine (HT.out _).mono ?_
    rintro e w4 ⟨v, rfl, hown, hb4⟩
    have H4 := Lib.hid (H3.out.below hb4)
    have HG4 := Lib.hid (grown_below HG3.out hb4)
    clear hb4
    obtain ⟨g, off, d, rfl, hg, k0, k2⟩ := row_one hown
    clear hown
    go_wp2_with fail
    refine (HI.out _).mono ?_
    rintro e w5 ⟨rfl, hb5⟩
    have k3 := (hb5.cell (p := ⟨g, off + 2, none⟩) hg).trans k2
    have H5 := Lib.hid (H4.out.below hb5)
    have HG5 := Lib.hid (grown_below HG4.out hb5)
    clear hb5 k0 k2
    go_wp2_with fail
    refine (HW.out _ H5.out).mono ?_
    rintro e w9 ⟨rfl, h9, hg9⟩
    go_wp2
    go_ret
    exact ⟨rfl, h9, HG5.out.trans hg9⟩
   ·by_cases h2 : hi < m
    ·have d1 : decide (m < lo) = false := decide_eq_false h1
     have d2 : decide (hi < m) = true := decide_eq_true h2
     rw [show decide (lo ≤ m) = true from decide_eq_true (by omega), show decide (m ≤ hi) = false from decide_eq_false (by omega)]
     simp only [Bool.and_false, Bool.false_eq_true, if_false]
     clear HVAL hT hx
     generalize (ByteArray.mk x.toArray) = XB at *
     generalize (ByteArray.mk (Lib.itoa m).toArray) = TB at *
     go_enter Tryz.func68, Tryz.ntmps68
     go_wp2_with fail
     refine HC.out.mono ?_
     rintro e w2 ⟨rfl, h2, hg2⟩
     have H2 := Lib.hid h2
     have HG2 := Lib.hid (HG1.out.trans hg2)
     clear h2 hg2
     go_wp2_with fail
     refine (HN.out _ H2.out).mono ?_
     rintro e w3 ⟨rfl, h3, hg3⟩
     have H3 := Lib.hid h3
     have HG3 := Lib.hid (HG2.out.trans hg3)
     clear h3 hg3
     go_wp2_with fail
     refine (HT.out _).mono ?_
     rintro e w4 ⟨v, rfl, hown, hb4⟩
     have H4 := Lib.hid (H3.out.below hb4)
     have HG4 := Lib.hid (grown_below HG3.out hb4)
     clear hb4
     obtain ⟨g, off, d, rfl, hg, k0, k2⟩ := row_one hown
     clear hown
     go_wp2_with fail
     refine (HI.out _).mono ?_
     rintro e w5 ⟨rfl, hb5⟩
     have k3 := (hb5.cell (p := ⟨g, off + 2, none⟩) hg).trans k2
     have H5 := Lib.hid (H4.out.below hb5)
     have HG5 := Lib.hid (grown_below HG4.out hb5)
     clear hb5 k0 k2
     go_wp2_with fail
     refine (HW.out _ H5.out).mono ?_
     rintro e w9 ⟨rfl, h9, hg9⟩
     go_wp2
     go_ret
     exact ⟨rfl, h9, HG5.out.trans hg9⟩
    ·have d1 : decide (m < lo) = false := decide_eq_false h1
     have d2 : decide (hi < m) = false := decide_eq_false h2
     rw [show decide (lo ≤ m) = true from decide_eq_true (by omega), show decide (m ≤ hi) = true from decide_eq_true (by omega)] at HVAL ⊢
     simp only [Bool.true_and, if_true]
     rw [HVAL.out rfl]
     clear HVAL hT hx
     generalize (ByteArray.mk x.toArray) = XB at *
     generalize (ByteArray.mk (Lib.itoa m).toArray) = TB at *
     go_enter Tryz.func68, Tryz.ntmps68
     go_wp2_with fail
     refine HC.out.mono ?_
     rintro e w2 ⟨rfl, h2, hg2⟩
     have H2 := Lib.hid h2
     have HG2 := Lib.hid (HG1.out.trans hg2)
     clear h2 hg2
     go_wp2_with fail
     refine (HN.out _ H2.out).mono ?_
     rintro e w3 ⟨rfl, h3, hg3⟩
     have H3 := Lib.hid h3
     have HG3 := Lib.hid (HG2.out.trans hg3)
     clear h3 hg3
     go_wp2_with fail
     refine (HT.out _).mono ?_
     rintro e w4 ⟨v, rfl, hown, hb4⟩
     have H4 := Lib.hid (H3.out.below hb4)
     have HG4 := Lib.hid (grown_below HG3.out hb4)
     clear hb4
     obtain ⟨g, off, d, rfl, hg, k0, k2⟩ := row_one hown
     clear hown
     go_wp2_with fail
     refine (HI.out _).mono ?_
     rintro e w5 ⟨rfl, hb5⟩
     have k3 := (hb5.cell (p := ⟨g, off + 2, none⟩) hg).trans k2
     have H5 := Lib.hid (H4.out.below hb5)
     have HG5 := Lib.hid (grown_below HG4.out hb5)
     clear hb5 k0 k2
     go_wp2
     go_ret
     exact ⟨rfl, H5.out, HG5.out⟩
  ·rw [decide_eq_false hx] at hq ⊢
   simp only [Bool.false_and, Bool.false_eq_true, if_false]
   clear HVAL hT hx
   generalize (ByteArray.mk x.toArray) = XB at *
   generalize (ByteArray.mk (Lib.itoa m).toArray) = TB at *
   go_enter Tryz.func68, Tryz.ntmps68
   go_wp2_with fail
   refine HC.out.mono ?_
   rintro e w2 ⟨rfl, h2, hg2⟩
   have H2 := Lib.hid h2
   have HG2 := Lib.hid (HG1.out.trans hg2)
   clear h2 hg2
   go_wp2_with fail
   refine (HN.out _ H2.out).mono ?_
   rintro e w3 ⟨rfl, h3, hg3⟩
   have H3 := Lib.hid h3
   have HG3 := Lib.hid (HG2.out.trans hg3)
   clear h3 hg3
   go_wp2_with fail
   refine (HT.out _).mono ?_
   rintro e w4 ⟨v, rfl, hown, hb4⟩
   have H4 := Lib.hid (H3.out.below hb4)
   have HG4 := Lib.hid (grown_below HG3.out hb4)
   clear hb4
   obtain ⟨g, off, d, rfl, hg, k0, k2⟩ := row_one hown
   clear hown
   go_wp2_with fail
   refine (HI.out _).mono ?_
   rintro e w5 ⟨rfl, hb5⟩
   have k3 := (hb5.cell (p := ⟨g, off + 2, none⟩) hg).trans k2
   have H5 := Lib.hid (H4.out.below hb5)
   have HG5 := Lib.hid (grown_below HG4.out hb5)
   clear hb5 k0 k2
   go_wp2_with fail
   refine (HW.out _ H5.out).mono ?_
   rintro e w9 ⟨rfl, h9, hg9⟩
   go_wp2
   go_ret
   exact ⟨rfl, h9, HG5.out.trans hg9⟩

set_option maxRecDepth 100000 in
set_option maxHeartbeats 1000000 in
theorem rpoint_any (L : List (List UInt8)) (A : Option Addr) (c b : Nat) (s : Gt.S) (n : Int) (w : World) (h : Rc w b A c L s) (hn : 0 ≤ n ∧ n ≤ 1000) :
  Calls Tryz.prog 67 #[.pointer (some ⟨b, 0, none⟩), .int .i64 n] w (RDid w b A c L (.agg #[.int .i64 (pt L n s).1.1, .int .i64 (pt L n s).1.2]) (pt L n s).2) := by
 have hbl := blk_lt h.obj
 have H0 := Lib.hid h
 have H1 := Lib.hid (h.below (bel1 w (.cells #[.int .i64 0, .int .i64 0] 47)))
 have HG1 := Lib.hid (World.grownBy_alloc w (.cells #[.int .i64 0, .int .i64 0] 47) (some b))
 have HO := Lib.hid (Go.Proofs.YtnmmhcchpcbeeaaGreatDoor.GeW.heap_alloc_new w (.cells #[.int .i64 0, .int .i64 0] 47))
 have HNA := Lib.hid (fun W hW => rnumber_any L A c b s n (-2000) 2000 W hW (by omega) (by omega) (by omega))
 have HNB := Lib.hid (fun W s2 hW => rnumber_any L A c b s2 (n + 10) (-2000) 2000 W hW (by omega) (by omega) (by omega))
 have hne : w.heap.size ≠ b := by omega
 have hw : IntKind.i64.wrap (n + 10) = n + 10 := by rw [wrapEq]; unfold wrap64; omega
 clear h
 unfold pt
 generalize nb L n (-2000) 2000 s = r1 at *
 have HNB1 := Lib.hid (fun W hW => HNB.out W r1.2 hW)
 clear HNB
 generalize nb L (n + 10) (-2000) 2000 r1.2 = r2 at *
 go_enter Tryz.func67, Tryz.ntmps67
 go_wp2_with fail
 generalize w.alloc (.cells #[.int .i64 0, .int .i64 0] 47) = W1 at *
 refine (HNA.out _ H1.out).mono ?_
 rintro e w2 ⟨rfl, h2, hg2⟩
 have HG2 := Lib.hid (HG1.out.trans hg2)
 have HO2 := Lib.hid ((hg2.block _ (blk_lt HO.out) (fun e => hne (by injection e))).trans HO.out)
 have H2 := Lib.hid h2
 clear h2 hg2
 go_wp2_with fail
 refine (HNB1.out _ H2.out).mono ?_
 rintro e w3 ⟨rfl, h3, hg3⟩
 have HG3 := Lib.hid (HG2.out.trans hg3)
 have HO3 := Lib.hid ((hg3.block _ (blk_lt HO2.out) (fun e => hne (by injection e))).trans HO2.out)
 have H3 := Lib.hid h3
 clear h3 hg3
 have o0 := cell_of HO3.out 0 _ rfl
 have o1 := cell_of HO3.out 1 _ rfl
 have p0 := free_of HO3.out 0
 have p1 := free_of HO3.out 1
 have HO4 := Lib.hid (block_set (block_set HO3.out 0 (.int .i64 r1.1)) 1 (.int .i64 r2.1))
 go_wp2
 have l0 := cell_of HO4.out 0 _ rfl
 have l1 := cell_of HO4.out 1 _ rfl
 refine bodyPost_ret (v := .agg #[.int .i64 r1.1, .int .i64 r2.1]) (by simp [results, Tryz.results67, go_sem, l0, l1]) rfl ⟨rfl, ?_, ?_⟩
 ·exact H0.out.grown ((block_other _ _ _ _ (fun e => hne e.symm)).trans ((block_other _ _ _ _ (fun e => hne e.symm)).trans H3.out.obj)) (grown_new (grown_new HG3.out (Nat.le_refl _) _ _) (Nat.le_refl _) _ _)
 ·exact grown_new (grown_new HG3.out (Nat.le_refl _) _ _) (Nat.le_refl _) _ _
end Go.Proofs.YtnmmhcchpcbeeaaGreatDoor.GtW

namespace Go.Proofs.YtnmmhcchpcbeeaaGreatDoor.GtW
open Go Go.RowKit Go.Proofs.YtnmmhcchpcbeeaaGreatDoor.Mem Go.Proofs.YtnmmhcchpcbeeaaGreatDoor.Gt Go.Proofs.YtnmmhcchpcbeeaaGreatDoor.Ge
attribute [local go_sem ↓] Go.wp_at_zero Go.wp_at_succ

/-- Where the loop over the bytes stands. -/
structure LnAt (s : List UInt8) (k : Nat) (ls : List (List UInt8)) (p : List UInt8) : Prop where
 text : s.take k = textOf ls ++ p
 last : (10 : UInt8) ∉ p
 all : ∀ y ∈ ls, (10 : UInt8) ∉ y
theorem LnAt.start (s : List UInt8) : LnAt s 0 [] [] := ⟨rfl, by simp, by simp⟩
theorem take_one {s : List UInt8} {k : Nat} (h : k < s.length) : s.take (k + 1) = s.take k ++ [s[k]] := by rw [List.take_succ_eq_append_getElem h]
theorem LnAt.feed {s : List UInt8} {k : Nat} {ls : List (List UInt8)} {p : List UInt8} (h : LnAt s k ls p) (hk : k < s.length) (hc : s[k] = 10) : LnAt s (k + 1) (ls ++ [p]) [] :=
 ⟨by rw [take_one hk, h.text, hc, textOf_append, textOf_cons, textOf_nil]; simp, by simp, fun y hy => by
  rcases List.mem_append.1 hy with h1 | h1
  ·exact h.all y h1
  ·rw [List.mem_singleton.1 h1]; exact h.last⟩
theorem LnAt.other {s : List UInt8} {k : Nat} {ls : List (List UInt8)} {p : List UInt8} (h : LnAt s k ls p) (hk : k < s.length) (hc : s[k] ≠ 10) : LnAt s (k + 1) ls (p ++ [s[k]]) :=
 ⟨by rw [take_one hk, h.text, List.append_assoc], fun hm => by
  rcases List.mem_append.1 hm with h1 | h1
  ·exact h.last h1
  ·exact hc (List.mem_singleton.1 h1).symm, h.all⟩
theorem LnAt.len {s : List UInt8} {k : Nat} {ls : List (List UInt8)} {p : List UInt8} (h : LnAt s k ls p) (hk : k ≤ s.length) : (textOf ls).length + p.length = k := by
 have := congrArg List.length h.text
 rw [List.length_take, List.length_append] at this
 omega
theorem LnAt.done {s : List UInt8} {k : Nat} {ls : List (List UInt8)} {p : List UInt8} (h : LnAt s k ls p) (hk : k = s.length) : linesOf s = ls ∧ lastP s = p := by
 have := h.text
 rw [hk, List.take_length] at this
 rw [this]
 exact linesOf_text h.all h.last
theorem LnAt.cut {s : List UInt8} {k : Nat} {ls : List (List UInt8)} {p : List UInt8} (h : LnAt s k ls p) : (ByteArray.mk s.toArray).extract (textOf ls).length k = ⟨p.toArray⟩ := by
 have e : (ByteArray.mk s.toArray).extract (textOf ls).length k = ⟨((s.take k).drop (textOf ls).length).toArray⟩ := by
  apply LexW.str_eq
  simp only [ByteArray.data_extract, Array.toList_extract, List.extract_eq_take_drop]
  rw [List.drop_take]
 rw [e, h.text, List.drop_left]
theorem info_text : (Tryz.prog.info? 9).map (fun i => (i.zero, i.size, i.bytes)) = some (some (.string ⟨#[]⟩), 1, 16) := by kernel_rfl
theorem news1 (w : World) (a : Value) (T : TypeId) : ∀ (j : Nat) (u : Value), [a][j]? = some u → (w.alloc (.cells #[a] T)).cell? ((⟨w.heap.size, 0, none⟩ : Addr).add j) = some u := by
 intro j u hj
 match j, hj with
 | 0, hj => simp at hj; subst hj; simp [Addr.add]
 | j + 1, hj => simp at hj
set_option maxRecDepth 100000 in
set_option maxHeartbeats 2000000 in
theorem rlines_any (s : List UInt8) (hs : s.length ≤ 1000000) (w : World) :
  Calls Tryz.prog 28 #[.string ⟨s.toArray⟩] w fun e w' => ∃ (A : Option Addr) (c : Nat), e = .returned (.tuple #[.slice A (linesOf s).length c, .bool (decide (lastP s ≠ []))]) ∧ Row w' A ((linesOf s).map strV) ∧ (∀ g off, A = some ⟨g, off, none⟩ → w.heap.size ≤ g ∧ g < w'.heap.size) ∧ Below w.heap.size w w' := by
 obtain ⟨i0, ia, ib, ic, id⟩ := info_parts info_text
 obtain ⟨LS, HLS⟩ : ∃ LS, Hid (linesOf s = LS) := ⟨_, Lib.hid rfl⟩
 obtain ⟨LP, HLP⟩ : ∃ LP, Hid (decide (lastP s ≠ []) = LP) := ⟨_, Lib.hid rfl⟩
 rw [HLS.out, HLP.out]
 have hST := Lib.hid (LnAt.start s)
 have hsz : (ByteArray.mk s.toArray).size = s.length := str_size s
 have HCUT := Lib.hid (fun k ls p (h : LnAt s k ls p) => h.cut)
 have HGET : Hid (∀ (k : Nat) (h : k < (ByteArray.mk s.toArray).size), (ByteArray.mk s.toArray)[k] = s[k]'(by rw [← hsz]; exact h)) := Lib.hid (fun k h => by rfl)
 generalize (ByteArray.mk s.toArray) = SB at *
 go_enter Tryz.func28, Tryz.ntmps28
 go_wp2_with fail
 go_loopw [4, 5, 6] (fun v fr i wr => ∃ (k : Nat) (ls : List (List UInt8)) (p : List UInt8), k ≤ s.length ∧ ls.length ≤ k ∧ fr = .int .i64 ((textOf ls).length : Nat) ∧ i = .int .i64 (k : Nat) ∧ wr.ownsRow w.heap.size 9 1 v ls.length (ls.map strV) ∧ Below w.heap.size w wr ∧ Hid (LnAt s k ls p)) (fun _ _ i _ => s.length - (intOf i).toNat)
 case atStart => exact ⟨0, [], [], Nat.zero_le _, Nat.zero_le _, rfl, rfl, World.ownsRow_nil _ _ _ _, Below.refl _ _, hST⟩
 case round =>
  obtain ⟨k, ls, p, hk, hlk, rfl, rfl, hown, hbel, hat⟩ := hrel
  by_cases hlt : k < s.length
  ·have hlen := hat.out.len hk
   by_cases hc : s[k] = 10
   ·have hat' := Lib.hid (hat.out.feed hlt hc)
    have hkb : k < SB.size := by omega
    have hb : (((SB[k]'hkb).toNat : Int) == 10) = true := by rw [HGET.out k hkb, hc]; rfl
    have HX := Lib.hid (HCUT.out k ls p hat.out)
    have HTL : Hid ((textOf (ls ++ [p])).length = k + 1) := Lib.hid (by have := hat'.out.len (by omega); simpa using this)
    have hfr : (textOf ls).length ≤ k := by omega
    clear hc hlen
    generalize (textOf ls).length = fr at *
    have C1 : Hid (∀ (j : Nat) (u : Value), [strV p][j]? = some u → (wr.alloc (.cells #[strV p] 9)).cell? ((⟨wr.heap.size, 0, none⟩ : Addr).add j) = some u) := Lib.hid (news1 wr (strV p) 9)
    have C2 : Hid (∀ u ∈ [strV p], u.oneCell' = true) := Lib.hid (by intro u hu; simp at hu; subst hu; rfl)
    have C3 : Hid (ls.length + 1 ≤ maxLen ∧ (ls.length + 1) * 16 ≤ 140737488355328) := Lib.hid (by unfold maxLen; omega)
    have C5 : Hid (w.heap.size ≤ (wr.alloc (.cells #[strV p] 9)).heap.size) := Lib.hid (by have := hbel.size; simp; omega)
    have HOW := Lib.hid (hown.alloc (.cells #[strV p] 9))
    have HBW := Lib.hid (hbel.alloc hbel.size (.cells #[strV p] 9))
    clear hown hbel
    unfold strV at C1 C2 C5 HOW HBW
    have hx := HX.out
    go_wp2_with (at_builtin; refine wpList_append_own _ rfl _ _ 43 rfl w.heap.size 9 i0 _ 1 16 Tryz.underlying43 ia ib ic id rfl (by omega) _ _ _ rfl HOW.out ⟨wr.heap.size, 0, none⟩ 1 1 [.string ⟨p.toArray⟩] rfl rfl C1.out C2.out C3.out.1 C3.out.2 C5.out ?_)
    intro v' w2 hown2 hg2 _
    have hb2 : Below w.heap.size w w2 := below_append HBW.out C5.out HOW.out hg2 (Nat.le_refl _)
    have hown3 : w2.ownsRow w.heap.size 9 1 v' (ls ++ [p]).length ((ls ++ [p]).map strV) := by
     rw [List.map_append, List.length_append]; exact hown2
    clear hown2 hg2 hx
    go_wp2
    go_roundw
    case rel => exact ⟨k + 1, ls ++ [p], [], by omega, by rw [List.length_append]; simp; omega, by rw [HTL.out]; go_num, by go_num, hown3, hb2, hat'⟩
    case measure => simp [intOf]; omega
   ·have hat' := Lib.hid (hat.out.other hlt hc)
    have hkb : k < SB.size := by omega
    have hb : (((SB[k]'hkb).toNat : Int) == 10) = false := by
     rw [HGET.out k hkb]
     cases h9 : ((s[k].toNat : Int) == 10)
     ·rfl
     ·have h8 : s[k].toNat = 10 := by
       have := of_decide_eq_true h9
       omega
      exact absurd (UInt8.toNat_inj.1 (h8.trans rfl)) hc
    clear hc hlen
    generalize hfq : (textOf ls).length = fr at *
    have HFQ := Lib.hid hfq
    clear hfq
    go_wp2
    go_roundw
    case rel => exact ⟨k + 1, ls, _, by omega, by omega, by rw [HFQ.out], by go_num, hown, hbel, hat'⟩
    case measure => simp [intOf]; omega
  ·have hd := hat.out.done (by omega)
   have hlen := hat.out.len hk
   have HL2 : Hid (LS = ls) := Lib.hid (HLS.out.symm.trans hd.1)
   have HM : Hid (LP = decide ((((textOf ls).length : Nat) : Int) < (s.length : Int))) := Lib.hid (by
    rw [← HLP.out, hd.2, Bool.eq_iff_iff, decide_eq_true_eq, decide_eq_true_eq, ← List.length_pos_iff]
    omega)
   clear hd hlen
   obtain ⟨A, c, rfl, _⟩ := own_shape hown
   have HR := Lib.hid (Row.of_own hown)
   have HLT : Hid (∀ g off, A = some ⟨g, off, none⟩ → w.heap.size ≤ g ∧ g < wr.heap.size) := Lib.hid (fun g off e => by subst e; exact hown.lt g rfl)
   generalize (textOf ls).length = fr at *
   clear hown
   go_wp2
   go_ret2
   rw [HL2.out]
   exact ⟨A, c, by rw [HM.out]; simp, HR.out, HLT.out, hbel⟩
end Go.Proofs.YtnmmhcchpcbeeaaGreatDoor.GtW
