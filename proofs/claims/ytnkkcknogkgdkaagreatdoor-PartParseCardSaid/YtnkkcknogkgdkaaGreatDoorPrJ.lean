/- Walk: PartParse. Conditions: none. -/
import Derived.Test.YtnkkcknogkgdkaaGreatDoorPrG
import Derived.Test.YtnkkcknogkgdkaaGreatDoorLexW11
import Derived.Test.YtnkkcknogkgdkaaGreatDoorPtD
import Derived.Test.YtnkkcknogkgdkaaGreatDoorPcH

namespace Go.Proofs.YtnkkcknogkgdkaaGreatDoor.PaW
open Go Go.RowKit Go.Proofs.YtnkkcknogkgdkaaGreatDoor.Mem Go.Proofs.YtnkkcknogkgdkaaGreatDoor.Pa
open Go.Proofs.YtnkkcknogkgdkaaGreatDoor.Ge (V)
open Go.Proofs.YtnkkcknogkgdkaaGreatDoor.Lex (Tok)
open Go.Proofs.YtnkkcknogkgdkaaGreatDoor.LexW (tokCells)
attribute [local go_sem ↓] Go.wp_at_zero Go.wp_at_succ

open Go.Proofs.YtnkkcknogkgdkaaGreatDoor.LexW (rtokens_any TokensPost toksCells)
structure RLt (w0 wr : World) (b : Nat) (TA : Option Addr) (c : Nat) (L : List Tok) (E : Nat) (st : St) (mn : Bool) (ms : List SrcM) (A : Option Addr) (d : Nat) : Prop where
 pc : Rc wr b TA c L E st mn
 tok : wr.ownsRow w0.heap.size 118 4 (.slice TA L.length c) L.length (L.flatMap tokCells)
 own : wr.ownsRow w0.heap.size 41 11 (.slice A ms.length d) ms.length (ms.flatMap srcCells)
 srcs : ∀ m ∈ ms, SrcIn 38 140 0 wr m
 be : Below w0.heap.size w0 wr
 lb : w0.heap.size ≤ b
section
variable {w0 wr w1 : World} {b : Nat} {TA : Option Addr} {c : Nat} {L : List Tok} {E : Nat} {st st' : St} {mn mn' : Bool} {ms : List SrcM} {A : Option Addr} {d : Nat}
theorem RLt.step (h : RLt w0 wr b TA c L E st mn ms A d) (hp : Rc w1 b TA c L E st' mn') (hg : wr.grownBy w1 (some b)) : RLt w0 w1 b TA c L E st' mn' ms A d := by
 have hl := h.lb
 have hw := h.pc.rowW
 exact ⟨hp, own_keep hg hw (by decide) h.tok, own_keep hg hw (by decide) h.own, fun m hm => (h.srcs m hm).keep hg hw (by decide) (by decide) (by decide), below_grown h.be hg (fun k e => by cases e; omega) h.be.size, hl⟩
theorem RLt.below (h : RLt w0 wr b TA c L E st mn ms A d) (hb : Below wr.heap.size wr w1) : RLt w0 w1 b TA c L E st mn ms A d :=
 h.step (h.pc.below hb) (grown_below (grown_refl wr (some b)) hb)
theorem RLt.push {w4 w5 : World} {m : SrcM} {B' : Option Addr} {d' : Nat} (h : RLt w0 w4 b TA c L E st mn ms A d) (hx : SrcIn 38 140 0 w4 m)
  (hown : w5.ownsRow w0.heap.size 41 11 (.slice B' (ms.length + 1) d') (ms.length + 1) (ms.flatMap srcCells ++ srcCells m)) (hg : w4.grownBy w5 (Value.slice A ms.length d).ownBlock) :
  RLt w0 w5 b TA c L E st mn (ms ++ [m]) B' d' := by
 have hl := h.lb
 have hw := (RowW.own h.own).mono (Nat.zero_le _)
 have ht := own_keep hg hw (by decide) h.tok
 have e1 : (ms ++ [m]).length = ms.length + 1 := by simp
 have e2 : (ms ++ [m]).flatMap srcCells = ms.flatMap srcCells ++ srcCells m := by simp
 obtain ⟨⟨i, pos, e, mm, ho, hi, hs⟩, hr, ha, hf⟩ := h.pc
 refine ⟨⟨⟨i, pos, e, mm, heap_keep hg hw (by decide) ho, hi, hs⟩, Row.of_own ht, ha, hf⟩, ht, ?_, ?_, below_grown h.be hg (fun k hk => (h.own.lt k hk).1) h.be.size, hl⟩
 ·rw [e1, e2]
  exact hown
 ·intro y hy
  rcases List.mem_append.1 hy with hy | hy
  ·exact (h.srcs y hy).keep hg hw (by decide) (by decide) (by decide)
  ·rw [List.mem_singleton.1 hy]
   exact hx.keep hg hw (by decide) (by decide) (by decide)
end
theorem goes_parts_more {f : Nat} {acc : List Pa.Source} {H : Pa.Op (List Pa.Source)} {L : List Tok} {E j : Nat} {st0 t : St} {x : Pa.Source} (h : Goes (partsO (f + 1) acc) L E (.ok j) H st0) (hj : j < L.length) (h1 : Ran sourceO L E (.ok j) x t) : Goes (partsO f (acc ++ [x])) L E t H st0 := by
 intro a u h2
 refine h a u ?_
 have h3 : Ran (bnd sourceO fun x => partsO f (acc ++ [x])) L E (.ok j) a u := h1.bnd h2
 unfold Ran at h3 ⊢
 simp only at h3 ⊢
 rw [parts_go hj]
 exact h3
theorem goes_parts_end {f : Nat} {acc : List Pa.Source} {H : Pa.Op (List Pa.Source)} {L : List Tok} {E j : Nat} {st0 : St} (h : Goes (partsO f acc) L E (.ok j) H st0) (hj : ¬ j < L.length) : Ran H L E st0 acc (.ok j) := by
 refine h _ _ ?_
 unfold Ran
 simp only
 cases f with
 | zero => exact ⟨rfl, rfl⟩
 | succ f =>
  rw [parts_end hj]
  exact ⟨rfl, rfl⟩
/-- What the text's parse is, told by the reader. -/
def parseBy (r : Pa.R (List Pa.Source)) (L : List Tok) (E : Nat) : List Pa.Source × Nat × Int := match r with
 | .no k e => ([], offs L E k, e)
 | .ok l _ => if tooMany l = true then ([], 0, 9) else (l, 0, 0)
theorem by_bad {L : List Tok} {E k : Nat} {e : Int} {a : List Pa.Source} (h : Ran (partsO 20001 []) L E (.ok 0) a (.bad k e)) : parseBy (partsO 20001 [] L 0) L E = ([], k, e) := by
 unfold Ran at h
 simp only at h
 unfold parseBy
 cases hx : partsO 20001 [] L 0 with
 | ok l j => rw [hx] at h; cases h.2
 | no q er => rw [hx] at h; cases h; rfl
theorem by_ok {L : List Tok} {E j : Nat} {a : List Pa.Source} (h : Ran (partsO 20001 []) L E (.ok 0) a (.ok j)) : parseBy (partsO 20001 [] L 0) L E = if tooMany a = true then ([], 0, 9) else (a, 0, 0) := by
 unfold Ran at h
 simp only at h
 unfold parseBy
 cases hx : partsO 20001 [] L 0 with
 | ok l i => rw [hx] at h; rw [h.1]
 | no q er => rw [hx] at h; cases h
theorem tooMany_flag (ms : List SrcM) : tooMany (ms.map SrcM.src) = (decide (20 < ms.length) || ms.any fun m => badR m.src) := by
 unfold tooMany
 rw [List.length_map, List.any_map]
 rfl
/-- What the reference's Parse hands back. -/
def RParQ (p : List Pa.Source × Nat × Int) (w : World) (e : Ending) (w' : World) : Prop := ∃ (ms : List SrcM) (A : Option Addr) (d : Nat), ms.map SrcM.src = p.1 ∧ e = .returned (.tuple #[.slice A ms.length d, .int .i64 (p.2.1 : Int), .int .i64 p.2.2]) ∧ ms.length ≤ 20002 ∧ SrcsIn 41 38 140 0 w' A ms ∧ Below w.heap.size w w'
theorem RParQ.nought {p : List Pa.Source × Nat × Int} {w W : World} {at_ : Nat} {e : Int} (h : p = ([], at_, e)) (hb : Below w.heap.size w W) : RParQ p w (.returned (.tuple #[.slice none 0 0, .int .i64 (at_ : Int), .int .i64 e])) W := by
 subst h
 exact ⟨[], none, 0, rfl, rfl, by simp, SrcsIn.nil _ _ _ _ _ _, hb⟩
end Go.Proofs.YtnkkcknogkgdkaaGreatDoor.PaW

namespace Go.Proofs.YtnkkcknogkgdkaaGreatDoor.PaW
open Go Go.RowKit Go.Proofs.YtnkkcknogkgdkaaGreatDoor.Mem Go.Proofs.YtnkkcknogkgdkaaGreatDoor.Pa
open Go.Proofs.YtnkkcknogkgdkaaGreatDoor.Ge (V)
open Go.Proofs.YtnkkcknogkgdkaaGreatDoor.Lex (Tok)
open Go.Proofs.YtnkkcknogkgdkaaGreatDoor.LexW (tokCells)
attribute [local go_sem ↓] Go.wp_at_zero Go.wp_at_succ

open Go.Proofs.YtnkkcknogkgdkaaGreatDoor.LexW (rtokens_any TokensPost toksCells)
set_option maxRecDepth 100000 in
set_option maxHeartbeats 8000000 in
theorem rparse_any (s : List UInt8) (w : World) : Calls Tryz.prog 14 #[.string ⟨s.toArray⟩] w (RParQ (parse s) w) := by
 have HT := Lib.hid (rtokens_any ⟨s.toArray⟩ w)
 have hlen := tokens_len s
 have HSZ : Hid ((ByteArray.mk s.toArray).size = s.length) := Lib.hid (str_size s)
 have HPS : Hid (parse s = if (Lex.tokens s).err ≠ 0 then ([], (Lex.tokens s).pos, (Lex.tokens s).err) else parseBy (partsO 20001 [] (Lex.tokens s).toks 0) (Lex.tokens s).toks s.length) := Lib.hid rfl
 rw [← HSZ.out] at HPS
 have HT2 : Hid (Calls Tryz.prog 27 #[.string ⟨s.toArray⟩] w (TokensPost 118 w (Lex.tokens s))) := HT
 clear HT
 obtain ⟨PS, HPE⟩ : ∃ PS, Hid (parse s = PS) := ⟨_, Lib.hid rfl⟩
 rw [HPE.out] at HPS ⊢
 generalize Lex.tokens s = R at *
 obtain ⟨toks, pos, err⟩ := R
 simp only at hlen HPS
 clear HPE HSZ
 generalize (ByteArray.mk s.toArray) = SB at *
 go_enter Tryz.func14, Tryz.ntmps14
 go_wp2_with fail
 refine HT2.out.mono ?_
 rintro e w1 ⟨tv, rfl, hown, hb1⟩
 obtain ⟨TA, tc, rfl, htc⟩ := own_shape hown
 have HOWN : Hid (w1.ownsRow w.heap.size 118 4 (.slice TA toks.length tc) toks.length (toks.flatMap tokCells)) := Lib.hid hown
 have HB1 := Lib.hid hb1
 clear hown hb1 HT2
 by_cases he : err = 0
 case neg =>
  have n1 : (err != 0) = true := bne_iff_ne.2 he
  rw [if_pos he] at HPS
  go_wp2
  refine bodyPost_ret (v := .tuple #[.slice none 0 0, .int .i64 (pos : Int), .int .i64 err]) (by simp [results, Tryz.results14, go_sem]) rfl ?_
  exact RParQ.nought HPS.out HB1.out
 case pos =>
 subst he
 have n1 : ((0 : Int) != 0) = false := rfl
 have HP3 : Hid (PS = parseBy (partsO 20001 [] toks 0) toks SB.size) := Lib.hid (by
  have := HPS.out
  rw [if_neg (by simp)] at this
  exact this)
 clear HPS
 have hb3 := bel1 w1 (.cells #[.slice TA toks.length tc, .int .i64 0, .int .i64 (SB.size : Int), .int .i64 0, .int .i64 0, .bool false] 100)
 have HL3 : Hid (RLt w (w1.alloc (.cells #[.slice TA toks.length tc, .int .i64 0, .int .i64 (SB.size : Int), .int .i64 0, .int .i64 0, .bool false] 100)) w1.heap.size TA tc toks SB.size (.ok 0) false [] none 0) := Lib.hid (by
  have h1 := HOWN.out.alloc (.cells #[.slice TA toks.length tc, .int .i64 0, .int .i64 (SB.size : Int), .int .i64 0, .int .i64 0, .bool false] 100)
  exact ⟨⟨⟨0, 0, 0, false, heap_new w1 (.cells #[.slice TA toks.length tc, .int .i64 0, .int .i64 (SB.size : Int), .int .i64 0, .int .i64 0, .bool false] 100), Nat.zero_le _, rfl, rfl, rfl⟩, Row.of_own h1, fun g off e => by
   subst e
   have := (HOWN.out.lt g rfl).2
   omega, hlen⟩, h1, World.ownsRow_nil _ _ _ _, (fun m hm => by cases hm), HB1.out.trans (hb3.mono HB1.out.size), HB1.out.size⟩)
 have HK3 : Hid (Goes (partsO 20001 []) toks SB.size (.ok 0) (partsO 20001 []) (.ok 0)) := Lib.hid (Goes.refl _ _ _ _)
 clear hb3
 go_upto_region 5 with fail
 clear HOWN HB1
 generalize w1.alloc (.cells #[.slice TA toks.length tc, .int .i64 0, .int .i64 (SB.size : Int), .int .i64 0, .int .i64 0, .bool false] 100) = W3 at *
 generalize w1.heap.size = b at *
 obtain ⟨i0_, ia, ib, ic, id⟩ := info_parts info_rsrcR
 go_wp2_with fail
 go_loopg [9] 20001 (fun f v wr => ∃ (ms : List SrcM) (A : Option Addr) (d : Nat) (st' : St), v = .slice A ms.length d ∧ Hid (Goes (partsO f (ms.map SrcM.src)) toks SB.size st' (partsO 20001 []) (.ok 0)) ∧ fuel toks f st' ∧ ms.length + f ≤ 20002 ∧ Hid (RLt w wr b TA tc toks SB.size st' (ms.any fun m => badR m.src) ms A d))
 case atStart => exact ⟨[], none, 0, .ok 0, rfl, HK3, (show toks.length < 20001 + 0 by omega), by simp, HL3⟩
 case round =>
  obtain ⟨ms, A, d, st', rfl, HK, hfu, haf, HL⟩ := hrel
  clear HK3 HL3
  obtain ⟨i0, pos0, er0, m0, ho, hi0, hs⟩ := HL.out.pc.obj
  unfold robj at ho
  have c1 := cell_of ho 1 (.int .i64 (i0 : Int)) rfl
  have c3 := cell_of ho 3 (.int .i64 (pos0 : Int)) rfl
  have c4 := cell_of ho 4 (.int .i64 er0) rfl
  have c5 := cell_of ho 5 (.bool m0) rfl
  have hlt := blk_lt ho
  have hj0 : (0 : Int) ≤ (i0 : Int) := by omega
  cases st' with
  | bad k er =>
   obtain ⟨rfl, rfl, hne⟩ := hs
   have hs := And.intro trivial (And.intro trivial hne)
   have n4 : (er0 == 0) = false := beq_eq_false_iff_ne.2 hne
   clear hne
   by_cases hlt2 : i0 < toks.length
   ·have hd1 : ((i0 : Int) < (toks.length : Int)) = True := eq_true (by omega)
    clear hlt2
    have HPX : Hid (PS = ([], pos0, er0)) := Lib.hid (HP3.out.trans (by_bad (HK.out (ms.map SrcM.src) _ rfl)))
    have HB := Lib.hid HL.out.be
    have hn4 : (er0 != 0) = true := bne_iff_ne.2 hs.2.2
    clear HK HL HP3 hs i0_ ia ib ic id ho hfu
    go_wp2_with fail
    go_region
    go_wp2
    refine bodyPost_ret (v := .tuple #[.slice none 0 0, .int .i64 (pos0 : Int), .int .i64 er0]) (by simp [results, Tryz.results14, go_sem]) rfl ?_
    exact RParQ.nought HPX.out (HB.out.trans ((below_drewN (Below.refl _ _) _).mono HB.out.size))
   ·have hd1 : ((i0 : Int) < (toks.length : Int)) = False := eq_false (by omega)
    clear hlt2
    have HPX : Hid (PS = ([], pos0, er0)) := Lib.hid (HP3.out.trans (by_bad (HK.out (ms.map SrcM.src) _ rfl)))
    have HB := Lib.hid HL.out.be
    have hn4 : (er0 != 0) = true := bne_iff_ne.2 hs.2.2
    clear HK HL HP3 hs i0_ ia ib ic id ho hfu
    go_wp2_with fail
    go_region
    go_wp2
    refine bodyPost_ret (v := .tuple #[.slice none 0 0, .int .i64 (pos0 : Int), .int .i64 er0]) (by simp [results, Tryz.results14, go_sem]) rfl ?_
    exact RParQ.nought HPX.out (HB.out.trans ((below_drewN (Below.refl _ _) _).mono HB.out.size))
  | ok j =>
   obtain ⟨rfl, rfl, rfl⟩ := hs
   by_cases hlt2 : i0 < toks.length
   ·have hd1 : ((i0 : Int) < (toks.length : Int)) = True := eq_true (by omega)
    have HNB := Lib.hid (rpart_any b TA tc toks SB.size _ (.ok i0) wr HL.out.pc)
    rcases gk with _ | f
    ·exfalso
     have h1 : toks.length < 0 + i0 := hfu
     omega
    have HFU0 : Hid (toks.length < (f + 1) + i0) := Lib.hid hfu
    have HAF : Hid (ms.length + (f + 1) ≤ 20002) := Lib.hid haf
    have HLT := Lib.hid hlt2
    clear hfu haf hlt2
    go_wp2_with fail
    refine HNB.out.mono ?_
    rintro e w2 ⟨x, s2, _, rfl, ⟨m, rfl, rfl, hin⟩, hran, hp, hg⟩
    have HS2 := Lib.hid (HL.out.step hp hg)
    have HSI := Lib.hid hin
    have HNX := Lib.hid (goes_parts_more HK.out HLT.out hran)
    have HFU := Lib.hid (hran.fuel (f := f) HFU0.out (fun x k h => source_more h))
    clear hran hp hg hin HK HNB HL
    clear c1 c3 c4 c5 hlt ho
    unfold srcCells strV
    have hb6 := bel1 w2 (.cells #[.string ⟨m.name.toArray⟩, .string ⟨m.grade.toArray⟩, .int .i64 m.grain, .slice m.tA m.turns.length m.tc, .int .i64 m.tol, .bool m.outer.o.circle, .int .i64 m.outer.o.center.1, .int .i64 m.outer.o.center.2, .int .i64 m.outer.o.radius, .slice m.outer.A m.outer.o.steps.length m.outer.d, .slice m.hA m.holes.length m.hc] 41)
    have HSZ := Lib.hid (HS2.out.below hb6)
    have HSI2 := Lib.hid (HSI.out.below hb6)
    have CN := Lib.hid (World.news_of_block (cs := #[.string ⟨m.name.toArray⟩, .string ⟨m.grade.toArray⟩, .int .i64 m.grain, .slice m.tA m.turns.length m.tc, .int .i64 m.tol, .bool m.outer.o.circle, .int .i64 m.outer.o.center.1, .int .i64 m.outer.o.center.2, .int .i64 m.outer.o.radius, .slice m.outer.A m.outer.o.steps.length m.outer.d, .slice m.hA m.holes.length m.hc]) (t := 41) (fr := (0, 0)) (heap_new w2 _))
    have C2 : Hid (∀ uu ∈ ([.string ⟨m.name.toArray⟩, .string ⟨m.grade.toArray⟩, .int .i64 m.grain, .slice m.tA m.turns.length m.tc, .int .i64 m.tol, .bool m.outer.o.circle, .int .i64 m.outer.o.center.1, .int .i64 m.outer.o.center.2, .int .i64 m.outer.o.radius, .slice m.outer.A m.outer.o.steps.length m.outer.d, .slice m.hA m.holes.length m.hc] : List Value), uu.oneCell' = true) := Lib.hid (by intro uu hu; simp at hu; rcases hu with rfl | rfl | rfl | rfl | rfl | rfl | rfl | rfl | rfl | rfl | rfl <;> rfl)
    have C3 : Hid (ms.length + 1 ≤ maxLen ∧ (ms.length + 1) * 152 ≤ 140737488355328) := Lib.hid (by have := HAF.out; unfold maxLen; omega)
    have C5 : Hid (w.heap.size ≤ (w2.alloc (.cells #[.string ⟨m.name.toArray⟩, .string ⟨m.grade.toArray⟩, .int .i64 m.grain, .slice m.tA m.turns.length m.tc, .int .i64 m.tol, .bool m.outer.o.circle, .int .i64 m.outer.o.center.1, .int .i64 m.outer.o.center.2, .int .i64 m.outer.o.radius, .slice m.outer.A m.outer.o.steps.length m.outer.d, .slice m.hA m.holes.length m.hc] 41)).heap.size) := Lib.hid HSZ.out.be.size
    clear hb6
    go_wp2_with (at_builtin; refine wpList_append_own _ rfl _ _ 27 rfl w.heap.size 41 i0_ _ 11 152 Tryz.underlying27 ia ib ic id rfl (by omega) _ _ _ rfl HSZ.out.own ⟨w2.heap.size, 0, none⟩ 1 1 [.string ⟨m.name.toArray⟩, .string ⟨m.grade.toArray⟩, .int .i64 m.grain, .slice m.tA m.turns.length m.tc, .int .i64 m.tol, .bool m.outer.o.circle, .int .i64 m.outer.o.center.1, .int .i64 m.outer.o.center.2, .int .i64 m.outer.o.radius, .slice m.outer.A m.outer.o.steps.length m.outer.d, .slice m.hA m.holes.length m.hc] rfl rfl CN.out C2.out C3.out.1 C3.out.2 C5.out ?_)
    intro v7 w7 hown7 hg7 _
    obtain ⟨B7, d7, rfl, _⟩ := own_shape hown7
    have HP7 := Lib.hid (RLt.push HSZ.out HSI2.out hown7 hg7)
    clear hown7 hg7
    go_wp2
    go_roundg f
    case measure => omega
    case rel => exact ⟨ms ++ [m], B7, d7, s2, by rw [List.length_append]; rfl, by rw [List.map_append]; exact HNX, HFU.out, by rw [List.length_append]; simp only [List.length_singleton]; have := HAF.out; omega, Lib.hid (by rw [List.any_append, show ([m].any fun m => badR m.src) = badR m.src from Bool.or_false _]; exact HP7.out)⟩
   ·have hd1 : ((i0 : Int) < (toks.length : Int)) = False := eq_false (by omega)
    have HP4 : Hid (PS = if (decide (20 < ms.length) || ms.any fun m => badR m.src) = true then ([], 0, 9) else (ms.map SrcM.src, 0, 0)) := Lib.hid (by rw [← tooMany_flag]; exact HP3.out.trans (by_ok (goes_parts_end HK.out hlt2)))
    clear HK hfu HP3 i0_ ia ib ic id hlt2
    by_cases h20 : 20 < ms.length
    ·have hl1 : ((20 : Int) < (ms.length : Int)) = True := eq_true (by omega)
     generalize (ms.any fun m => badR m.src) = mq at *
     cases mq
     ·skip
      have HPX : Hid (PS = ([], 0, 9)) := Lib.hid (by rw [HP4.out, if_pos]; rw [decide_eq_true h20]; rfl)
      have HB := Lib.hid HL.out.be
      clear HL HP4 ho
      go_wp2
      refine bodyPost_ret (v := .tuple #[.slice none 0 0, .int .i64 0, .int .i64 9]) (by simp [results, Tryz.results14, go_sem]) rfl ?_
      exact RParQ.nought HPX.out HB.out
     ·skip
      have HPX : Hid (PS = ([], 0, 9)) := Lib.hid (by rw [HP4.out, if_pos]; exact Bool.or_true _)
      have HB := Lib.hid HL.out.be
      clear HL HP4 ho
      go_wp2
      refine bodyPost_ret (v := .tuple #[.slice none 0 0, .int .i64 0, .int .i64 9]) (by simp [results, Tryz.results14, go_sem]) rfl ?_
      exact RParQ.nought HPX.out HB.out
    ·have hl1 : ((20 : Int) < (ms.length : Int)) = False := eq_false (by omega)
     generalize (ms.any fun m => badR m.src) = mq at *
     cases mq
     ·skip
      have HPX : Hid (PS = (ms.map SrcM.src, 0, 0)) := Lib.hid (by rw [HP4.out, if_neg]; rw [decide_eq_false h20]; decide)
      have HB := Lib.hid HL.out.be
      have HSI := Lib.hid (show SrcsIn 41 38 140 0 wr A ms from ⟨At.of_own HL.out.own, HL.out.srcs⟩)
      have HLM : Hid (ms.length ≤ 20002) := Lib.hid (by omega)
      clear HL HP4 ho
      go_wp2
      refine bodyPost_ret (v := .tuple #[.slice A ms.length d, .int .i64 0, .int .i64 0]) (by simp [results, Tryz.results14, go_sem]) rfl ?_
      exact ⟨ms, A, d, by rw [HPX.out], by rw [HPX.out]; rfl, HLM.out, HSI.out, HB.out⟩
     ·skip
      have HPX : Hid (PS = ([], 0, 9)) := Lib.hid (by rw [HP4.out, if_pos]; exact Bool.or_true _)
      have HB := Lib.hid HL.out.be
      clear HL HP4 ho
      go_wp2
      refine bodyPost_ret (v := .tuple #[.slice none 0 0, .int .i64 0, .int .i64 9]) (by simp [results, Tryz.results14, go_sem]) rfl ?_
      exact RParQ.nought HPX.out HB.out
end Go.Proofs.YtnkkcknogkgdkaaGreatDoor.PaW

namespace Go.Proofs.YtnkkcknogkgdkaaGreatDoor.PaW
open Go Go.RowKit Go.Proofs.YtnkkcknogkgdkaaGreatDoor.Mem Go.Proofs.YtnkkcknogkgdkaaGreatDoor.Pa
open Go.Proofs.YtnkkcknogkgdkaaGreatDoor.Ge (V)
open Go.Proofs.YtnkkcknogkgdkaaGreatDoor.Lex (Tok)
open Go.Proofs.YtnkkcknogkgdkaaGreatDoor.LexW (tokCells)
attribute [local go_sem ↓] Go.wp_at_zero Go.wp_at_succ

set_option maxRecDepth 100000 in
set_option maxHeartbeats 4000000 in
theorem partParse_walk (haw : Awake) (s : List UInt8) (w : World) : Calls Tryz.prog 3 #[.string ⟨s.toArray⟩] w fun e w' => e = .returned (.bool true) ∧ Below w.heap.size w w' := by
 have HAW := Lib.hid haw
 have hs1 := str_size s
 have HP := Lib.hid (fun W => parse_any s W)
 have HR := Lib.hid (fun W => rparse_any s W)
 clear haw
 generalize ByteArray.mk s.toArray = SB at *
 by_cases hl : s.length ≤ 1500
 case neg =>
  clear HP HR
  have g1 : (1500 < (s.length : Int)) = True := eq_true (by omega)
  have g2 : (1500 < (SB.size : Int)) = True := eq_true (by omega)
  go_enter Tryz.func3, Tryz.ntmps3
  go_wp2_with fail
  refine (HAW.out _).mono ?_
  rintro e w1 ⟨rfl, hb1⟩
  go_wp2
  go_ret
  exact ⟨rfl, hb1⟩
 case pos =>
 have g1 : (1500 < (s.length : Int)) = False := eq_false (by omega)
 have g2 : (1500 < (SB.size : Int)) = False := eq_false (by omega)
 go_enter Tryz.func3, Tryz.ntmps3
 go_wp2_with fail
 refine (HAW.out _).mono ?_
 rintro e w1 ⟨rfl, hb1⟩
 go_wp2_with fail
 refine (HP.out _).mono ?_
 rintro e w2 ⟨ms, A2, d2, hms, rfl, hd2, hm2, hin2, hb2⟩
 have HB2 := Lib.hid (hb1.trans (hb2.mono hb1.size))
 have HMS := Lib.hid hms
 have HIN2 := Lib.hid hin2
 clear hb1 hb2 HP hms hin2 HAW
 go_wp2_with fail
 refine (HR.out _).mono ?_
 rintro e w3 ⟨ns, A3, d3, hns, rfl, hm3, hin3, hb3⟩
 have HB3 := Lib.hid (HB2.out.trans (hb3.mono HB2.out.size))
 have HNS := Lib.hid hns
 have HIN3 := Lib.hid hin3
 have HIN23 := Lib.hid (HIN2.out.below hb3)
 clear hb3 HR hns hin3 HIN2 HB2
 generalize parse s = pa at *
 obtain ⟨pl, pp, pe⟩ := pa
 simp only at HMS HNS
 have q1 : (pe == pe) = true := beq_self_eq_true pe
 have q2 : ((pp : Int) == (pp : Int)) = true := beq_self_eq_true _
 have HT := Lib.hid (theirs_any ms A2 d2 w3 HIN23.out (by omega) (Nat.zero_le _))
 go_wp2_with fail
 refine HT.out.mono ?_
 rintro e w4 ⟨⟨ms', B4, c4, hk4, rfl, hown4, hsrc4⟩, hb4⟩
 have HB4 := Lib.hid (HB3.out.trans (hb4.mono HB3.out.size))
 have HLK : Hid (ms'.length = ms.length) := Lib.hid (by simpa using congrArg List.length hk4)
 have HS := Lib.hid (refSame_any (TT := 41) (TO := 38) (TS := 140) (TT' := 41) (TO' := 38) (TS' := 140) (base := 0) (base' := 0) ms' ns B4 A3 c4 d3 w4 ⟨At.of_own hown4, hsrc4⟩ (HIN3.out.below hb4) (by have := HLK.out; omega) (by rw [hk4, HMS.out, HNS.out]))
 rw [HLK.out] at HS
 clear hb4 hk4 hown4 hsrc4 HT HIN23 HIN3 HB3
 go_wp2_with fail
 refine HS.out.mono ?_
 rintro e w5 ⟨rfl, hb5⟩
 have HB5 := Lib.hid (HB4.out.trans (hb5.mono HB4.out.size))
 clear hb5
 go_wp2
 go_ret
 exact ⟨rfl, HB5.out⟩
theorem partParse_bytes (x : ByteArray) (w : World) : Calls Tryz.prog 3 #[.string x] w fun e w' => e = .returned (.bool true) ∧ Below w.heap.size w w' := by
 have := partParse_walk awake_any x.data.toList w
 simpa using this
end Go.Proofs.YtnkkcknogkgdkaaGreatDoor.PaW
