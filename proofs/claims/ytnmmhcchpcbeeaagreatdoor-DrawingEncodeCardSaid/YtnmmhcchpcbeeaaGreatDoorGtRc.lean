/- Walk: the reference's lines of a text. Conditions: the text has at most a million bytes. -/
import Derived.Test.YtnmmhcchpcbeeaaGreatDoorGtT
import Derived.Test.YtnmmhcchpcbeeaaGreatDoorGtH
import Derived.Test.YtnmmhcchpcbeeaaGreatDoorOdLex
import Derived.Lib.AtoiBound
import Derived.Test.YtnmmhcchpcbeeaaGreatDoorOwnP

namespace Go.Proofs.YtnmmhcchpcbeeaaGreatDoor.GtW
open Go Go.RowKit Go.Proofs.YtnmmhcchpcbeeaaGreatDoor.Mem Go.Proofs.YtnmmhcchpcbeeaaGreatDoor.Gt Go.Proofs.YtnmmhcchpcbeeaaGreatDoor.Ge
attribute [local go_sem ↓] Go.wp_at_zero Go.wp_at_succ

def robj (A : Option Addr) (n c : Nat) (s : Gt.S) : Obj := .cells #[.slice A n c, .int .i64 (s.i : Int), .bool s.bad] 70 (0, 0)
theorem rcell {w : World} {b : Nat} {A : Option Addr} {n c : Nat} {s : Gt.S} (h : w.heap[b]? = some (robj A n c s)) : w.cell? ⟨b, 0, none⟩ = some (.slice A n c) ∧ w.cell? ⟨b, 1, none⟩ = some (.int .i64 (s.i : Int)) ∧ w.cell? ⟨b, 2, none⟩ = some (.bool s.bad) ∧ ∀ j, w.frozen? ⟨b, j, none⟩ = false :=
 ⟨cell_of h 0 _ rfl, cell_of h 1 _ rfl, cell_of h 2 _ rfl, fun j => free_of h j⟩
theorem rset_bad {w : World} {b : Nat} {A : Option Addr} {n c : Nat} {s : Gt.S} (h : w.heap[b]? = some (robj A n c s)) : (w.setCell ⟨b, 2, none⟩ (.bool true)).heap[b]? = some (robj A n c ⟨s.i, true⟩) := block_set h 2 _
theorem rset_i {w : World} {b : Nat} {A : Option Addr} {n c : Nat} {s : Gt.S} (h : w.heap[b]? = some (robj A n c s)) (i : Nat) : (w.setCell ⟨b, 1, none⟩ (.int .i64 (i : Int))).heap[b]? = some (robj A n c ⟨i, s.bad⟩) := block_set h 1 _
/-- The decoder and its lines in a world. -/
structure Rc (w : World) (b : Nat) (A : Option Addr) (c : Nat) (L : List (List UInt8)) (s : Gt.S) : Prop where
 obj : w.heap[b]? = some (robj A L.length c s)
 row : Row w A (L.map strV)
 apart : Apart A b
 few : L.length ≤ 4611686018427387904
 short : ∀ x ∈ L, x.length ≤ 1000000
theorem Rc.below {w w' : World} {b : Nat} {A : Option Addr} {c : Nat} {L : List (List UInt8)} {s : Gt.S} (h : Rc w b A c L s) (hb : Below w.heap.size w w') : Rc w' b A c L s :=
 ⟨p_below h.obj hb, h.row.below hb, h.apart, h.few, h.short⟩
theorem Rc.grown {w w' : World} {b : Nat} {A : Option Addr} {c : Nat} {L : List (List UInt8)} {s s' : Gt.S} (h : Rc w b A c L s) (ho : w'.heap[b]? = some (robj A L.length c s')) (hg : w.grownBy w' (some b)) : Rc w' b A c L s' :=
 ⟨ho, row_grown h.row h.apart hg, h.apart, h.few, h.short⟩
/-- What a call of the decoder does: it answers v, leaves the decoder in state s', and everything else as it was. -/
def RDid (w : World) (b : Nat) (A : Option Addr) (c : Nat) (L : List (List UInt8)) (v : Value) (s' : Gt.S) (e : Ending) (w' : World) : Prop := e = .returned v ∧ Rc w' b A c L s' ∧ w.grownBy w' (some b)
theorem rnx_ways (L : List (List UInt8)) (s : Gt.S) : (s.bad = true ∧ rnx L s = ([], ⟨s.i, true⟩)) ∨ (s.bad = false ∧ L.length ≤ s.i ∧ rnx L s = ([], ⟨s.i, true⟩)) ∨
  (s.bad = false ∧ ∃ h : s.i < L.length, rnx L s = (L[s.i], ⟨s.i + 1, false⟩)) := by
 obtain ⟨i, b⟩ := s
 unfold rnx
 cases b with
 | true => exact .inl ⟨rfl, by simp⟩
 | false =>
  right
  by_cases h : i < L.length
  ·exact .inr ⟨rfl, h, by simp [List.getElem?_eq_getElem h]⟩
  ·exact .inl ⟨rfl, by simpa using h, by simp [List.getElem?_eq_none (show L.length ≤ i by omega)]⟩
theorem rnx_line {L : List (List UInt8)} {s : Gt.S} : (rnx L s).1 = [] ∨ (rnx L s).1 ∈ L := by
 rcases rnx_ways L s with ⟨_, h⟩ | ⟨_, _, h⟩ | ⟨_, hi, h⟩
 ·rw [h]; exact .inl rfl
 ·rw [h]; exact .inl rfl
 ·rw [h]; exact .inr (List.getElem_mem hi)
theorem rnx_short {L : List (List UInt8)} {s : Gt.S} (h : ∀ x ∈ L, x.length ≤ 1000000) : (rnx L s).1.length ≤ 1000000 := by
 rcases rnx_line (L := L) (s := s) with h1 | h1
 ·rw [h1]; simp
 ·exact h _ h1
/-- Behind a passed line the index is at least one. -/
theorem rnx_i {L : List (List UInt8)} {s : Gt.S} (h : (rnx L s).2.bad = false) : 1 ≤ (rnx L s).2.i ∧ (rnx L s).2.i ≤ L.length := by
 rcases rnx_ways L s with ⟨_, e⟩ | ⟨_, _, e⟩ | ⟨_, hi, e⟩
 ·rw [e] at h; cases h
 ·rw [e] at h; cases h
 ·rw [e]; exact ⟨by simp, hi⟩

set_option maxRecDepth 100000 in
set_option maxHeartbeats 1000000 in
theorem rnext_any (L : List (List UInt8)) (A : Option Addr) (c b : Nat) (s : Gt.S) (w : World) (h : Rc w b A c L s) :
  Calls Tryz.prog 30 #[.pointer (some ⟨b, 0, none⟩)] w (RDid w b A c L (.string ⟨(rnx L s).1.toArray⟩) (rnx L s).2) := by
 obtain ⟨c0, c1, c2, cf⟩ := rcell h.obj
 have hlt := blk_lt h.obj
 have f1 := cf 1
 have f2 := cf 2
 have hn := h.few
 clear cf
 have H1 := Lib.hid h
 obtain ⟨i, er⟩ := s
 simp only at c1 c2
 have HB := Lib.hid H1.out.obj
 have HGR := Lib.hid (grown_refl w (some b))
 clear h
 rcases rnx_ways L ⟨i, er⟩ with ⟨he, ht⟩ | ⟨he, hi, ht⟩ | ⟨he, hi, ht⟩
 ·rw [ht]
  simp only at he
  subst he
  clear ht
  go_enter Tryz.func30, Tryz.ntmps30
  go_wp2_with fail
  go_quiet (fail)
  go_wp2
  go_ret
  exact ⟨rfl, H1.out.grown (rset_bad (s := ⟨i, true⟩) HB.out) (grown_set (grown_drewN HGR.out _) _ _), grown_set (grown_drewN HGR.out _) _ _⟩
 ·rw [ht]
  simp only at he hi
  subst he
  clear ht
  have d1 : decide ((L.length : Int) ≤ (i : Int)) = true := by simp; omega
  go_enter Tryz.func30, Tryz.ntmps30
  go_wp2_with fail
  go_quiet (fail)
  go_wp2
  go_ret
  exact ⟨rfl, H1.out.grown (rset_bad (s := ⟨i, false⟩) HB.out) (grown_set (grown_drewN HGR.out _) _ _), grown_set (grown_drewN HGR.out _) _ _⟩
 ·rw [ht]
  simp only at he hi
  subst he
  clear ht
  have d1 : decide ((L.length : Int) ≤ (i : Int)) = false := by simp; omega
  have hi0 : (0 : Int) ≤ (i : Int) := by omega
  have hi1 : (i : Int) < (L.length : Int) := by omega
  obtain ⟨g2, off, rfl, hg2, t0⟩ := line_get H1.out.row hi
  have hgb : g2 ≠ b := H1.out.apart g2 off rfl
  simp only
  generalize L[i] = x at *
  unfold strV at t0
  generalize (ByteArray.mk x.toArray) = TB at *
  have x0 : IntKind.i64.wrap ((i : Int) + 1) = (i : Int) + 1 := by rw [wrapEq]; unfold wrap64; omega
  have d2 : decide (L.length ≤ i) = false := by simp; omega
  have x1 : (i : Int) + 1 ≤ 9223372036854775807 := by omega
  go_enter Tryz.func30, Tryz.ntmps30
  go_wp2_with fail
  go_quiet (fail)
  obtain ⟨r0, r1, r2, rf⟩ := rcell (w := w.drewN nq) (s := ⟨i, false⟩) HB.out
  simp only at r1 r2
  have rf1 := rf 1
  have HB3 : Hid (((w.drewN nq).setCell ⟨b, 1, none⟩ (.int .i64 ((i : Int) + 1))).heap[b]? = some (robj (some ⟨g2, off, none⟩) L.length c ⟨i + 1, false⟩)) := Lib.hid (rset_i (w := w.drewN nq) (s := ⟨i, false⟩) HB.out (i + 1))
  have HG3 := Lib.hid (grown_set (grown_drewN HGR.out nq) 1 (.int .i64 ((i : Int) + 1)))
  have HS0 : Hid (((w.drewN nq).setCell ⟨b, 1, none⟩ (.int .i64 ((i : Int) + 1))).cell? ⟨g2, off + i, none⟩ = some (.string TB)) := Lib.hid (by rw [World.cell?_of_block (block_other _ _ _ _ hgb)]; exact t0)
  clear c0 c1 c2 f1 f2 rf t0
  generalize w.drewN nq = W2 at *
  go_wp2_with fail
  obtain ⟨u0, u1, u2, uf⟩ := rcell HB3.out
  have s0 := HS0.out
  generalize (W2.setCell ⟨b, 1, none⟩ (.int .i64 ((i : Int) + 1))) = W3 at *
  simp only at u1 u2
  have x2 : IntKind.i64.wrap (i : Int) = (i : Int) := by rw [wrapEq]; unfold wrap64; omega
  have x3 : IntKind.i64.wrap ((i : Int) + 1 - 1) = (i : Int) := by rw [wrapEq]; unfold wrap64; omega
  go_quiet (fail)
  go_wp2
  go_ret
  exact ⟨rfl, H1.out.grown (w' := W3.drewN _) HB3.out (grown_drewN HG3.out _), grown_drewN HG3.out _⟩
set_option maxRecDepth 100000 in
set_option maxHeartbeats 1000000 in
theorem rwrong_any (L : List (List UInt8)) (A : Option Addr) (c b : Nat) (s : Gt.S) (w : World) (h : Rc w b A c L s) (hi : s.bad = false → 1 ≤ s.i ∧ s.i ≤ L.length) :
  Calls Tryz.prog 32 #[.pointer (some ⟨b, 0, none⟩)] w (RDid w b A c L (.tuple #[]) (ck false s)) := by
 obtain ⟨c0, c1, c2, cf⟩ := rcell h.obj
 have f1 := cf 1
 have f2 := cf 2
 have H1 := Lib.hid h
 have hf := h.few
 clear cf h
 obtain ⟨i, bad⟩ := s
 simp only at c1 c2 hi
 cases bad
 ·obtain ⟨hi1, hi2⟩ := hi rfl
  have HB := Lib.hid H1.out.obj
  have x0 : IntKind.i64.wrap ((i : Int) - 1) = ((i - 1 : Nat) : Int) := by rw [wrapEq]; unfold wrap64; omega
  have HB2 := Lib.hid (rset_bad HB.out)
  have HB3 := Lib.hid (rset_i HB2.out (i - 1))
  have HG3 := Lib.hid (grown_set (grown_set (grown_refl w (some b)) 2 (.bool true)) 1 (.int .i64 ((i - 1 : Nat) : Int)))
  obtain ⟨u0, u1, u2, uf⟩ := rcell HB2.out
  simp only at u1 u2
  have g1 := uf 1
  rw [show ck false ⟨i, false⟩ = ⟨i - 1, true⟩ from rfl]
  go_enter Tryz.func32, Tryz.ntmps32
  go_wp2
  go_end0
  exact ⟨rfl, H1.out.grown HB3.out HG3.out, HG3.out⟩
 ·rw [show ck false ⟨i, true⟩ = ⟨i, true⟩ by simp [ck]]
  go_enter Tryz.func32, Tryz.ntmps32
  go_wp2
  go_end0
  exact ⟨rfl, H1.out, grown_refl _ _⟩
end Go.Proofs.YtnmmhcchpcbeeaaGreatDoor.GtW

namespace Go.Proofs.YtnmmhcchpcbeeaaGreatDoor.GtW
open Go Go.RowKit Go.Proofs.YtnmmhcchpcbeeaaGreatDoor.Mem Go.Proofs.YtnmmhcchpcbeeaaGreatDoor.Gt Go.Proofs.YtnmmhcchpcbeeaaGreatDoor.Ge
open Go.Proofs.YtnmmhcchpcbeeaaGreatDoor.LexW (ritoa_any rtokens_any)
attribute [local go_sem ↓] Go.wp_at_zero Go.wp_at_succ

theorem tok_ways4 (x : List UInt8) : ((Lex.tokens x).err ≠ 0 ∧ tokNum x = none) ∨ ((Lex.tokens x).err = 0 ∧ (Lex.tokens x).toks.length ≠ 1 ∧ tokNum x = none) ∨
  ((Lex.tokens x).err = 0 ∧ ∃ t, (Lex.tokens x).toks = [t] ∧ t.kind ≠ 2 ∧ tokNum x = none) ∨ ((Lex.tokens x).err = 0 ∧ ∃ t, (Lex.tokens x).toks = [t] ∧ t.kind = 2 ∧ tokNum x = some t.n) := by
 unfold tokNum
 by_cases he : (Lex.tokens x).err = 0
 ·cases ht : (Lex.tokens x).toks with
  | nil => exact .inr (.inl ⟨he, by simp, rfl⟩)
  | cons t r =>
   cases r with
   | nil =>
    by_cases hk : t.kind = 2
    ·exact .inr (.inr (.inr ⟨he, t, rfl, hk, by simp [he, hk]⟩))
    ·exact .inr (.inr (.inl ⟨he, t, rfl, hk, by simp [hk]⟩))
   | cons u r => exact .inr (.inl ⟨he, by simp, rfl⟩)
 ·refine .inl ⟨he, ?_⟩
  cases ht : (Lex.tokens x).toks with
  | nil => rfl
  | cons t r =>
   cases r with
   | nil => simp [he]
   | cons u r => rfl
theorem num_i64 {c : UInt8} {r : List UInt8} (h : (Lex.numDigs c r).length ≤ 9) : -9223372036854775808 ≤ Lex.numVal c r ∧ Lex.numVal c r ≤ 9223372036854775807 := by
 have hl : (c :: Lex.numRun r).length ≤ 18 := by
  unfold Lex.numDigs at h
  split at h
  ·simp only [List.length_cons]; omega
  ·omega
 unfold Lex.numVal
 cases hx : Lib.atoi (c :: Lex.numRun r) with
 | none => simp
 | some v =>
  have := Lib.atoi_bound hx hl
  simp only [Option.getD_some]
  omega
theorem tok_i64 {x : List UInt8} {t : Lex.Tok} (h : (Lex.tokens x).toks = [t]) (he : (Lex.tokens x).err = 0) : -9223372036854775808 ≤ t.n ∧ t.n ≤ 9223372036854775807 := by
 unfold Lex.tokens at h he
 by_cases hl : 20000 < x.length
 ·rw [if_pos hl] at h; cases h
 ·rw [if_neg hl] at h he
  obtain ⟨c, r, h0, _, _, hn, _⟩ := Lex.lex_word he t (by rw [h]; simp)
  rw [hn]
  rcases Lex.tok_ways h0 with ⟨h1, h2, e⟩ | ⟨h1, h2, h3, h4, e⟩ | ⟨h1, h2, h3, e⟩ <;> rw [e] <;> simp only
  ·omega
  ·exact num_i64 h4
  ·omega
theorem row_one {w : World} {base : Nat} {T : TypeId} {v : Value} {t : Lex.Tok} (h : w.ownsRow base T 4 v 1 (LexW.toksCells [t])) : ∃ g off c, v = .slice (some ⟨g, off, none⟩) 1 c ∧ g < w.heap.size ∧ w.cell? ⟨g, off, none⟩ = some (.int .i64 t.kind) ∧ w.cell? ⟨g, off + 2, none⟩ = some (.int .i64 t.n) := by
 obtain ⟨A, c, rfl, _⟩ := own_shape h
 obtain ⟨g, off, rfl, hg, hc⟩ := Row.of_own h (by simp [LexW.toksCells, LexW.tokCells])
 exact ⟨g, off, c, rfl, hg, hc 0 (by simp [LexW.toksCells, LexW.tokCells]), hc 2 (by simp [LexW.toksCells, LexW.tokCells])⟩

set_option maxRecDepth 100000 in
set_option maxHeartbeats 1000000 in
theorem rcode_any (L : List (List UInt8)) (A : Option Addr) (c b : Nat) (s : Gt.S) (n : Int) (w : World) (h : Rc w b A c L s) (hn : -9223372036854775808 ≤ n ∧ n ≤ 9223372036854775807) :
  Calls Tryz.prog 29 #[.pointer (some ⟨b, 0, none⟩), .int .i64 n] w (RDid w b A c L (.tuple #[]) (cd L n s)) := by
 rw [← cd_rnx]
 have H1 := Lib.hid h
 have HN := Lib.hid (rnext_any L A c b s w h)
 have HI := Lib.hid (fun W => ritoa_any n W hn.1 hn.2)
 have HW := Lib.hid (fun W hW => rwrong_any L A c b (rnx L s).2 W hW rnx_i)
 have HG1 := Lib.hid (grown_refl w (some b))
 clear h
 by_cases he : (rnx L s).1 = Lib.itoa n
 ·rw [if_pos he]
  have hq := str_eql (rnx L s).1 (Lib.itoa n)
  rw [decide_eq_true he] at hq
  clear he HW
  generalize (rnx L s).2 = s2 at *
  generalize (ByteArray.mk (rnx L s).1.toArray) = XB at *
  generalize (ByteArray.mk (Lib.itoa n).toArray) = TB at *
  go_enter Tryz.func29, Tryz.ntmps29
  go_wp2_with fail
  refine HN.out.mono ?_
  rintro e w2 ⟨rfl, h2, hg2⟩
  have H2 := Lib.hid h2
  have HG2 := Lib.hid (HG1.out.trans hg2)
  clear h2 hg2
  go_wp2_with fail
  refine (HI.out _).mono ?_
  rintro e w3 ⟨rfl, hb3⟩
  go_wp2
  go_end0
  exact ⟨rfl, H2.out.below hb3, grown_below HG2.out hb3⟩
 ·rw [if_neg he]
  have hq := str_eql (rnx L s).1 (Lib.itoa n)
  rw [decide_eq_false he] at hq
  clear he
  generalize (rnx L s).2 = s2 at *
  generalize (ByteArray.mk (rnx L s).1.toArray) = XB at *
  generalize (ByteArray.mk (Lib.itoa n).toArray) = TB at *
  go_enter Tryz.func29, Tryz.ntmps29
  go_wp2_with fail
  refine HN.out.mono ?_
  rintro e w2 ⟨rfl, h2, hg2⟩
  have H2 := Lib.hid h2
  have HG2 := Lib.hid (HG1.out.trans hg2)
  clear h2 hg2
  go_wp2_with fail
  refine (HI.out _).mono ?_
  rintro e w3 ⟨rfl, hb3⟩
  have H3 := Lib.hid (H2.out.below hb3)
  have HG3 := Lib.hid (grown_below HG2.out hb3)
  clear hb3
  go_wp2_with fail
  refine (HW.out _ H3.out).mono ?_
  rintro e w4 ⟨rfl, h4, hg4⟩
  have H4 := Lib.hid h4
  have HG4 := Lib.hid (HG3.out.trans hg4)
  clear h4 hg4
  go_wp2
  go_end0
  exact ⟨rfl, H4.out, HG4.out⟩

set_option maxRecDepth 100000 in
set_option maxHeartbeats 4000000 in
theorem rnumber_any (L : List (List UInt8)) (A : Option Addr) (c b : Nat) (s : Gt.S) (n lo hi : Int) (w : World) (h : Rc w b A c L s) (hn : -9223372036854775808 ≤ n ∧ n ≤ 9223372036854775807) (hlo : -999999999 ≤ lo) (hhi : hi ≤ 999999999) :
  Calls Tryz.prog 68 #[.pointer (some ⟨b, 0, none⟩), .int .i64 n, .int .i64 lo, .int .i64 hi] w (RDid w b A c L (.int .i64 (nb L n lo hi s).1) (nb L n lo hi s).2) := by
 rw [← nb_rnx]
 have HC := Lib.hid (rcode_any L A c b s n w h hn)
 have HG1 := Lib.hid (grown_refl w (some b))
 have HSH := Lib.hid (rnx_short (L := L) (s := cd L n s) h.short)
 clear h
 generalize cd L n s = s1 at *
 have HN := Lib.hid (fun W hW => rnext_any L A c b s1 W hW)
 have HW := Lib.hid (fun W hW => rwrong_any L A c b (rnx L s1).2 W hW rnx_i)
 generalize (rnx L s1).2 = s2 at *
 generalize (rnx L s1).1 = x at *
 have HT := Lib.hid (fun W => rtokens_any ⟨x.toArray⟩ W)
 rw [show (ByteArray.mk x.toArray).data.toList = x by simp] at HT
 have HE := Lib.hid (numTok_eq hlo hhi x)
 have HV := Lib.hid (numTok_val hlo hhi (x := x))
 rcases tok_ways4 x with ⟨he, hk⟩ | ⟨he, hl, hk⟩ | ⟨he, t, ht, hk2, hk⟩ | ⟨he, t, ht, hk2, hk⟩
 ·have e0 : numOk lo hi x = false := by rw [← HE.out]; unfold numTok; rw [hk]
  rw [e0]
  simp only [Bool.false_eq_true, if_false]
  have hne : ((Lex.tokens x).err != 0) = true := by simpa using he
  have hn1 : ((Lex.tokens x).err == 0) = false := by simpa using he
  clear HE HV he hk e0
  cases hT : Lex.tokens x with
  | mk toks pos err =>
  rw [hT] at HT hne hn1
  simp only at hne hn1
  clear hT
  generalize (ByteArray.mk x.toArray) = XB at *
  go_enter Tryz.func68, Tryz.ntmps68
  go_wp2_with fail
  refine HC.out.mono ?_
  rintro e w2 ⟨rfl, h2, hg2⟩
  have H2 := Lib.hid h2
  have HG2 := Lib.hid (HG1.out.trans hg2)
  clear h2 hg2
  go_wp2_with fail
  refine (HN.out _ H2.out).mono ?_
  rintro e w3 ⟨rfl, h3, hg3⟩
  have H3 := Lib.hid h3
  have HG3 := Lib.hid (HG2.out.trans hg3)
  clear h3 hg3
  go_wp2_with fail
  refine (HT.out _).mono ?_
  rintro e w4 ⟨v, rfl, hown, hb4⟩
  have H4 := Lib.hid (H3.out.below hb4)
  have HG4 := Lib.hid (grown_below HG3.out hb4)
  clear hb4
  obtain ⟨B, d, rfl, _⟩ := own_shape hown
  clear hown
  go_wp2_with fail
  refine (HW.out _ H4.out).mono ?_
  rintro e w9 ⟨rfl, h9, hg9⟩
  go_wp2
  go_ret
  exact ⟨rfl, h9, HG4.out.trans hg9⟩
 ·have e0 : numOk lo hi x = false := by rw [← HE.out]; unfold numTok; rw [hk]
  rw [e0]
  simp only [Bool.false_eq_true, if_false]
  clear HE HV hk e0
  cases hT : Lex.tokens x with
  | mk toks pos err =>
  rw [hT] at HT he hl
  simp only at he hl
  subst he
  have hl1 : ((toks.length : Int) != 1) = true := by simp; omega
  have hl2 : ((toks.length : Int) == 1) = false := by simp; omega
  clear hT hl
  generalize (ByteArray.mk x.toArray) = XB at *
  go_enter Tryz.func68, Tryz.ntmps68
  go_wp2_with fail
  refine HC.out.mono ?_
  rintro e w2 ⟨rfl, h2, hg2⟩
  have H2 := Lib.hid h2
  have HG2 := Lib.hid (HG1.out.trans hg2)
  clear h2 hg2
  go_wp2_with fail
  refine (HN.out _ H2.out).mono ?_
  rintro e w3 ⟨rfl, h3, hg3⟩
  have H3 := Lib.hid h3
  have HG3 := Lib.hid (HG2.out.trans hg3)
  clear h3 hg3
  go_wp2_with fail
  refine (HT.out _).mono ?_
  rintro e w4 ⟨v, rfl, hown, hb4⟩
  have H4 := Lib.hid (H3.out.below hb4)
  have HG4 := Lib.hid (grown_below HG3.out hb4)
  clear hb4
  obtain ⟨B, d, rfl, _⟩ := own_shape hown
  clear hown
  go_wp2_with fail
  refine (HW.out _ H4.out).mono ?_
  rintro e w9 ⟨rfl, h9, hg9⟩
  go_wp2
  go_ret
  exact ⟨rfl, h9, HG4.out.trans hg9⟩
 ·have e0 : numOk lo hi x = false := by rw [← HE.out]; unfold numTok; rw [hk]
  rw [e0]
  simp only [Bool.false_eq_true, if_false]
  clear HE HV hk e0
  cases hT : Lex.tokens x with
  | mk toks pos err =>
  rw [hT] at HT he ht
  simp only at he ht
  subst he ht
  have hl1 : (t.kind != 2) = true := by simpa using hk2
  have hl2 : (t.kind == 2) = false := by simpa using hk2
  clear hT hk2
  generalize (ByteArray.mk x.toArray) = XB at *
  go_enter Tryz.func68, Tryz.ntmps68
  go_wp2_with fail
  refine HC.out.mono ?_
  rintro e w2 ⟨rfl, h2, hg2⟩
  have H2 := Lib.hid h2
  have HG2 := Lib.hid (HG1.out.trans hg2)
  clear h2 hg2
  go_wp2_with fail
  refine (HN.out _ H2.out).mono ?_
  rintro e w3 ⟨rfl, h3, hg3⟩
  have H3 := Lib.hid h3
  have HG3 := Lib.hid (HG2.out.trans hg3)
  clear h3 hg3
  go_wp2_with fail
  refine (HT.out _).mono ?_
  rintro e w4 ⟨v, rfl, hown, hb4⟩
  have H4 := Lib.hid (H3.out.below hb4)
  have HG4 := Lib.hid (grown_below HG3.out hb4)
  clear hb4
  obtain ⟨g, off, d, rfl, hg, k0, k2⟩ := row_one hown
  clear hown
  go_wp2_with fail
  refine (HW.out _ H4.out).mono ?_
  rintro e w9 ⟨rfl, h9, hg9⟩
  go_wp2
  go_ret
  exact ⟨rfl, h9, HG4.out.trans hg9⟩
 ·have hi64 := tok_i64 ht he
  have HI := Lib.hid (fun W => ritoa_any t.n W hi64.1 hi64.2)
  have e0 : numOk lo hi x = (decide (Lib.itoa t.n = x) && (decide (lo ≤ t.n) && decide (t.n ≤ hi))) := by rw [← HE.out]; unfold numTok; rw [hk]
  have hval : numOk lo hi x = true → numV x = t.n := fun h9 => by
   have := HV.out (by rw [HE.out]; exact h9)
   rw [hk] at this
   injection this with this
   exact this.symm
  rw [e0] at hval ⊢
  have HVAL := Lib.hid hval
  clear HE HV hk e0 hval hi64
  cases hT : Lex.tokens x with
  | mk toks pos err =>
  rw [hT] at HT he ht
  simp only at he ht
  subst he ht
  have hq := str_eql (Lib.itoa t.n) x
  obtain ⟨k, tx, m, ps⟩ := t
  simp only at hk2
  subst hk2
  simp only at hq HI HVAL ⊢
  by_cases hx : Lib.itoa m = x
  ·rw [decide_eq_true hx] at hq HVAL ⊢
   by_cases h1 : m < lo
   ·have d1 : decide (m < lo) = true := decide_eq_true h1
    rw [show decide (lo ≤ m) = false from decide_eq_false (by omega)]
    simp only [Bool.true_and, Bool.false_and, Bool.false_eq_true, if_false]
    clear HVAL hT hx
    generalize (ByteArray.mk x.toArray) = XB at *
    generalize (ByteArray.mk (Lib.itoa m).toArray) = TB at *
    go_enter Tryz.func68, Tryz.ntmps68
    go_wp2_with fail
    refine HC.out.mono ?_
    rintro e w2 ⟨rfl, h2, hg2⟩
    have H2 := Lib.hid h2
    have HG2 := Lib.hid (HG1.out.trans hg2)
    clear h2 hg2
    go_wp2_with fail
    refine (HN.out _ H2.out).mono ?_
    rintro e w3 ⟨rfl, h3, hg3⟩
    have H3 := Lib.hid h3
    have HG3 := Lib.hid (HG2.out.trans hg3)
    clear h3 hg3
    go_wp2_with fail
    refine (HT.out _).mono ?_
    rintro e w4 ⟨v, rfl, hown, hb4⟩
    have H4 := Lib.hid (H3.out.below hb4)
    have HG4 := Lib.hid (grown_below HG3.out hb4)
    clear hb4
    obtain ⟨g, off, d, rfl, hg, k0, k2⟩ := row_one hown
    clear hown
    go_wp2_with fail
    refine (HI.out _).mono ?_
    rintro e w5 ⟨rfl, hb5⟩
    have k3 := (hb5.cell (p := ⟨g, off + 2, none⟩) hg).trans k2
    have H5 := Lib.hid (H4.out.below hb5)
    have HG5 := Lib.hid (grown_below HG4.out hb5)
    clear hb5 k0 k2
    go_wp2_with fail
    refine (HW.out _ H5.out).mono ?_
    rintro e w9 ⟨rfl, h9, hg9⟩
    go_wp2
    go_ret
    exact ⟨rfl, h9, HG5.out.trans hg9⟩
   ·by_cases h2 : hi < m
    ·have d1 : decide (m < lo) = false := decide_eq_false h1
     have d2 : decide (hi < m) = true := decide_eq_true h2
     rw [show decide (lo ≤ m) = true from decide_eq_true (by omega), show decide (m ≤ hi) = false from decide_eq_false (by omega)]
     simp only [Bool.and_false, Bool.false_eq_true, if_false]
     clear HVAL hT hx
     generalize (ByteArray.mk x.toArray) = XB at *
     generalize (ByteArray.mk (Lib.itoa m).toArray) = TB at *
     go_enter Tryz.func68, Tryz.ntmps68
     go_wp2_with fail
     refine HC.out.mono ?_
     rintro e w2 ⟨rfl, h2, hg2⟩
     have H2 := Lib.hid h2
     have HG2 := Lib.hid (HG1.out.trans hg2)
     clear h2 hg2
     go_wp2_with fail
     refine (HN.out _ H2.out).mono ?_
     rintro e w3 ⟨rfl, h3, hg3⟩
     have H3 := Lib.hid h3
     have HG3 := Lib.hid (HG2.out.trans hg3)
     clear h3 hg3
     go_wp2_with fail
     refine (HT.out _).mono ?_
     rintro e w4 ⟨v, rfl, hown, hb4⟩
     have H4 := Lib.hid (H3.out.below hb4)
     have HG4 := Lib.hid (grown_below HG3.out hb4)
     clear hb4
     obtain ⟨g, off, d, rfl, hg, k0, k2⟩ := row_one hown
     clear hown
     go_wp2_with fail
     refine (HI.out _).mono ?_
     rintro e w5 ⟨rfl, hb5⟩
     have k3 := (hb5.cell (p := ⟨g, off + 2, none⟩) hg).trans k2
     have H5 := Lib.hid (H4.out.below hb5)
     have HG5 := Lib.hid (grown_below HG4.out hb5)
     clear hb5 k0 k2
     go_wp2_with fail
     refine (HW.out _ H5.out).mono ?_
     rintro e w9 ⟨rfl, h9, hg9⟩
     go_wp2
     go_ret
     exact ⟨rfl, h9, HG5.out.trans hg9⟩
    ·have d1 : decide (m < lo) = false := decide_eq_false h1
     have d2 : decide (hi < m) = false := decide_eq_false h2
     rw [show decide (lo ≤ m) = true from decide_eq_true (by omega), show decide (m ≤ hi) = true from decide_eq_true (by omega)] at HVAL ⊢
     simp only [Bool.true_and, if_true]
     rw [HVAL.out rfl]
     clear HVAL hT hx
     generalize (ByteArray.mk x.toArray) = XB at *
     generalize (ByteArray.mk (Lib.itoa m).toArray) = TB at *
     go_enter Tryz.func68, Tryz.ntmps68
     go_wp2_with fail
     refine HC.out.mono ?_
     rintro e w2 ⟨rfl, h2, hg2⟩
     have H2 := Lib.hid h2
     have HG2 := Lib.hid (HG1.out.trans hg2)
     clear h2 hg2
     go_wp2_with fail
     refine (HN.out _ H2.out).mono ?_
     rintro e w3 ⟨rfl, h3, hg3⟩
     have H3 := Lib.hid h3
     have HG3 := Lib.hid (HG2.out.trans hg3)
     clear h3 hg3
     go_wp2_with fail
     refine (HT.out _).mono ?_
     rintro e w4 ⟨v, rfl, hown, hb4⟩
     have H4 := Lib.hid (H3.out.below hb4)
     have HG4 := Lib.hid (grown_below HG3.out hb4)
     clear hb4
     obtain ⟨g, off, d, rfl, hg, k0, k2⟩ := row_one hown
     clear hown
     go_wp2_with fail
     refine (HI.out _).mono ?_
     rintro e w5 ⟨rfl, hb5⟩
     have k3 := (hb5.cell (p := ⟨g, off + 2, none⟩) hg).trans k2
     have H5 := Lib.hid (H4.out.below hb5)
     have HG5 := Lib.hid (grown_below HG4.out hb5)
     clear hb5 k0 k2
     go_wp2
     go_ret
     exact ⟨rfl, H5.out, HG5.out⟩
  ·rw [decide_eq_false hx] at hq ⊢
   simp only [Bool.false_and, Bool.false_eq_true, if_false]
   clear HVAL hT hx
   generalize (ByteArray.mk x.toArray) = XB at *
   generalize (ByteArray.mk (Lib.itoa m).toArray) = TB at *
   go_enter Tryz.func68, Tryz.ntmps68
   go_wp2_with fail
   refine HC.out.mono ?_
   rintro e w2 ⟨rfl, h2, hg2⟩
   have H2 := Lib.hid h2
   have HG2 := Lib.hid (HG1.out.trans hg2)
   clear h2 hg2
   go_wp2_with fail
   refine (HN.out _ H2.out).mono ?_
   rintro e w3 ⟨rfl, h3, hg3⟩
   have H3 := Lib.hid h3
   have HG3 := Lib.hid (HG2.out.trans hg3)
   clear h3 hg3
   go_wp2_with fail
   refine (HT.out _).mono ?_
   rintro e w4 ⟨v, rfl, hown, hb4⟩
   have H4 := Lib.hid (H3.out.below hb4)
   have HG4 := Lib.hid (grown_below HG3.out hb4)
   clear hb4
   obtain ⟨g, off, d, rfl, hg, k0, k2⟩ := row_one hown
   clear hown
   go_wp2_with fail
   refine (HI.out _).mono ?_
   rintro e w5 ⟨rfl, hb5⟩
   have k3 := (hb5.cell (p := ⟨g, off + 2, none⟩) hg).trans k2
   have H5 := Lib.hid (H4.out.below hb5)
   have HG5 := Lib.hid (grown_below HG4.out hb5)
   clear hb5 k0 k2
   go_wp2_with fail
   refine (HW.out _ H5.out).mono ?_
   rintro e w9 ⟨rfl, h9, hg9⟩
   go_wp2
   go_ret
   exact ⟨rfl, h9, HG5.out.trans hg9⟩

end Go.Proofs.YtnmmhcchpcbeeaaGreatDoor.GtW

namespace Go.Proofs.YtnmmhcchpcbeeaaGreatDoor.GtW
open Go Go.RowKit Go.Proofs.YtnmmhcchpcbeeaaGreatDoor.Mem Go.Proofs.YtnmmhcchpcbeeaaGreatDoor.Gt Go.Proofs.YtnmmhcchpcbeeaaGreatDoor.Ge
attribute [local go_sem ↓] Go.wp_at_zero Go.wp_at_succ

/-- Where the loop over the bytes stands. -/
structure LnAt (s : List UInt8) (k : Nat) (ls : List (List UInt8)) (p : List UInt8) : Prop where
 text : s.take k = textOf ls ++ p
 last : (10 : UInt8) ∉ p
 all : ∀ y ∈ ls, (10 : UInt8) ∉ y
theorem LnAt.start (s : List UInt8) : LnAt s 0 [] [] := ⟨rfl, by simp, by simp⟩
theorem take_one {s : List UInt8} {k : Nat} (h : k < s.length) : s.take (k + 1) = s.take k ++ [s[k]] := by rw [List.take_succ_eq_append_getElem h]
theorem LnAt.other {s : List UInt8} {k : Nat} {ls : List (List UInt8)} {p : List UInt8} (h : LnAt s k ls p) (hk : k < s.length) (hc : s[k] ≠ 10) : LnAt s (k + 1) ls (p ++ [s[k]]) :=
 ⟨by rw [take_one hk, h.text, List.append_assoc], fun hm => by
  rcases List.mem_append.1 hm with h1 | h1
  ·exact h.last h1
  ·exact hc (List.mem_singleton.1 h1).symm, h.all⟩
theorem LnAt.len {s : List UInt8} {k : Nat} {ls : List (List UInt8)} {p : List UInt8} (h : LnAt s k ls p) (hk : k ≤ s.length) : (textOf ls).length + p.length = k := by
 have := congrArg List.length h.text
 rw [List.length_take, List.length_append] at this
 omega
theorem LnAt.done {s : List UInt8} {k : Nat} {ls : List (List UInt8)} {p : List UInt8} (h : LnAt s k ls p) (hk : k = s.length) : linesOf s = ls ∧ lastP s = p := by
 have := h.text
 rw [hk, List.take_length] at this
 rw [this]
 exact linesOf_text h.all h.last
theorem info_text : (Tryz.prog.info? 9).map (fun i => (i.zero, i.size, i.bytes)) = some (some (.string ⟨#[]⟩), 1, 16) := by kernel_rfl
end Go.Proofs.YtnmmhcchpcbeeaaGreatDoor.GtW
