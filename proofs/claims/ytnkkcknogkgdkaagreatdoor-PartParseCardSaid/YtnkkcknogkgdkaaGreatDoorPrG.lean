/- Walk: the reference's parser reads a part. Conditions: the parser and its tokens lie in memory, apart. -/
import Derived.Test.YtnkkcknogkgdkaaGreatDoorPrF

namespace Go.Proofs.YtnkkcknogkgdkaaGreatDoor.PaW
open Go Go.RowKit Go.Proofs.YtnkkcknogkgdkaaGreatDoor.Mem Go.Proofs.YtnkkcknogkgdkaaGreatDoor.Pa
open Go.Proofs.YtnkkcknogkgdkaaGreatDoor.Ge (V)
open Go.Proofs.YtnkkcknogkgdkaaGreatDoor.Lex (Tok)
open Go.Proofs.YtnkkcknogkgdkaaGreatDoor.LexW (tokCells)
attribute [local go_sem ↓] Go.wp_at_zero Go.wp_at_succ

theorem info_routR : (Tryz.prog.info? 38).map (fun i => (i.zero, i.size, i.bytes)) = some (some (.agg #[.bool false, .int .i64 0, .int .i64 0, .int .i64 0, .slice none 0 0]), 5, 56) := by kernel_rfl
theorem info_rsrcR : (Tryz.prog.info? 41).map (fun i => (i.zero, i.size, i.bytes)) = some (some (.agg #[.string ⟨#[]⟩, .string ⟨#[]⟩, .int .i64 0, .slice none 0 0, .int .i64 0, .bool false, .int .i64 0, .int .i64 0, .int .i64 0, .slice none 0 0, .slice none 0 0]), 11, 152) := by kernel_rfl
def badR (x : Pa.Source) : Bool := decide (6 < x.holes.length) || (long x.outer || x.holes.any long)
theorem bad_flag (mn : Bool) {nm gr : List UInt8} {g tl : Int} {ts : List Int} (o : Outline) (hs : List OutM) : (mn || badR ⟨nm, gr, g, ts, tl, o, hs.map OutM.o⟩) = (((mn || long o) || (hs.any fun h => long h.o)) || decide (6 < hs.length)) := by
 have e : (hs.map OutM.o).any long = hs.any fun h => long h.o := by rw [List.any_map]; rfl
 unfold badR
 rw [List.length_map, e]
 generalize long o = p
 generalize (hs.any fun h => long h.o) = q
 generalize decide (6 < hs.length) = r
 cases mn <;> cases p <;> cases q <;> cases r <;> rfl
theorem ran_num_ok {lo hi : Int} {L : List Tok} {E : Nat} {st : St} {v : Int} {k : Nat} (h : Ran (numO lo hi) L E st v (.ok k)) : lo ≤ v ∧ v ≤ hi := by
 cases st with
 | bad q e => cases h
 | ok i =>
  unfold Ran at h
  simp only at h
  cases hx : numO lo hi L i with
  | no q e => rw [hx] at h; cases h
  | ok x j =>
   rw [hx] at h
   have := num_ok hx
   rw [h.1]
   exact ⟨this.1, this.2.1⟩
def RSrcP (x : Pa.Source) (w : World) (v : Value) : Prop := ∃ m : SrcM, m.src = x ∧ v = .agg (srcCells m).toArray ∧ SrcIn 38 140 0 w m
set_option maxRecDepth 100000 in
set_option maxHeartbeats 16000000 in
theorem rpart_any (b : Nat) (A : Option Addr) (c : Nat) (L : List Tok) (E : Nat) (mn : Bool) (st : St) (w : World) (h : Rc w b A c L E st mn) :
  Calls Tryz.prog 43 #[.pointer (some ⟨b, 0, none⟩)] w (RResP RSrcP badR sourceO w b A c L E mn st) := by
 have hlt := h.lt
 have HFEW := Lib.hid h.few
 have HRW := Lib.hid h.row
 have hB := bel1 w (.cells #[.string ⟨#[]⟩, .string ⟨#[]⟩, .int .i64 0, .slice none 0 0, .int .i64 0, .bool false, .int .i64 0, .int .i64 0, .int .i64 0, .slice none 0 0, .slice none 0 0] 41)
 have HP0 := Lib.hid (h.below hB)
 have HZ0 := Lib.hid (heap_new w (.cells #[.string ⟨#[]⟩, .string ⟨#[]⟩, .int .i64 0, .slice none 0 0, .int .i64 0, .bool false, .int .i64 0, .int .i64 0, .int .i64 0, .slice none 0 0, .slice none 0 0] 41))
 have HG0 := Lib.hid (grown_below (grown_refl w (some b)) hB)
 have HK0 : Hid (Goes (bnd (need kPart) _) L E st sourceO st) := Lib.hid (Goes.refl sourceO L E st)
 clear h hB
 go_enter Tryz.func43, Tryz.ntmps43
 go_upto_region 1 with fail
 generalize w.alloc (.cells #[.string ⟨#[]⟩, .string ⟨#[]⟩, .int .i64 0, .slice none 0 0, .int .i64 0, .bool false, .int .i64 0, .int .i64 0, .int .i64 0, .slice none 0 0, .slice none 0 0] 41) = W0 at *
 have HE1 : Hid (Calls Tryz.prog 90 #[.pointer (some ⟨b, 0, none⟩), .string ⟨#[112, 97, 114, 116]⟩] W0 (RRes (fun _ => .tuple #[]) (need kPart) W0 b A c L E mn st)) := Lib.hid (rneed_any kPart b A c L E mn st W0 HP0.out)
 go_wp2_with fail
 refine HE1.out.mono ?_
 rintro e w1 ⟨u1, s1, rfl, hran, hp, hg⟩
 have HP1 := Lib.hid hp
 have HG1 := Lib.hid (HG0.out.trans hg)
 have HZ1 := Lib.hid ((hg.block _ (blk_lt HZ0.out) (by intro e; cases e; omega)).trans HZ0.out)
 clear HZ0
 clear HP0 HG0 HE1
 have HK1 := Lib.hid (HK0.out.step hran)
 clear HK0
 clear hran hp hg
 have HE2 := Lib.hid (rname_any b A c L E mn s1 w1 HP1.out)
 go_wp2_with fail
 refine HE2.out.mono ?_
 rintro e w2 ⟨nm, s2, rfl, hran, hp, hg⟩
 have HP2 := Lib.hid hp
 have HG2 := Lib.hid (HG1.out.trans hg)
 have HZ2 := Lib.hid ((hg.block _ (blk_lt HZ1.out) (by intro e; cases e; omega)).trans HZ1.out)
 clear HZ1
 clear HP1 HG1 HE2
 have HK2 := Lib.hid (HK1.out.step hran)
 clear HK1
 clear hran hp hg
 unfold strV
 have hbx := bel1 w2 (.cells #[.string ⟨nm.toArray⟩, .string ⟨#[]⟩, .int .i64 0, .slice none 0 0, .int .i64 1, .bool false, .int .i64 0, .int .i64 0, .int .i64 0, .slice none 0 0, .slice none 0 0] 41)
 have HSa : Hid (RSt w (w2.alloc (.cells #[.string ⟨nm.toArray⟩, .string ⟨#[]⟩, .int .i64 0, .slice none 0 0, .int .i64 1, .bool false, .int .i64 0, .int .i64 0, .int .i64 0, .slice none 0 0, .slice none 0 0] 41)) w2.heap.size b A c L E s2 mn ⟨nm, [], 0, [], none, 0, 1, ⟨⟨false, (0, 0), 0, []⟩, none, 0⟩, [], none, 0⟩) := Lib.hid ⟨HP2.out.below hbx, p_below HZ2.out hbx, heap_new w2 (.cells #[.string ⟨nm.toArray⟩, .string ⟨#[]⟩, .int .i64 0, .slice none 0 0, .int .i64 1, .bool false, .int .i64 0, .int .i64 0, .int .i64 0, .slice none 0 0, .slice none 0 0] 41), ⟨World.ownsRow_nil _ _ _ _, World.ownsRow_nil _ _ _ _, ⟨At.nil _ _ _ _, Nat.le_refl _, by simp⟩, by simp⟩, grown_below HG2.out hbx, HRW.out, hlt, blk_lt HZ2.out⟩
 go_upto_region 3 with fail
 clear hbx HZ2 HG2 HP2
 generalize w2.alloc (.cells #[.string ⟨nm.toArray⟩, .string ⟨#[]⟩, .int .i64 0, .slice none 0 0, .int .i64 1, .bool false, .int .i64 0, .int .i64 0, .int .i64 0, .slice none 0 0, .slice none 0 0] 41) = Wa at *
 generalize w2.heap.size = xb at *
 have HE3 : Hid (Calls Tryz.prog 90 #[.pointer (some ⟨b, 0, none⟩), .string ⟨#[123]⟩] Wa (RRes (fun _ => .tuple #[]) (need kBegin) Wa b A c L E mn s2)) := Lib.hid (rneed_any kBegin b A c L E mn s2 Wa HSa.out.pc)
 go_wp2_with fail
 refine HE3.out.mono ?_
 rintro e w3 ⟨u3, s3, rfl, hran, hp, hg⟩
 have HS3 := Lib.hid (HSa.out.step hp hg)
 clear HSa HE3
 have HK3 := Lib.hid (HK2.out.step hran)
 clear HK2
 clear hran hp hg
 have HE4 : Hid (Calls Tryz.prog 90 #[.pointer (some ⟨b, 0, none⟩), .string ⟨#[103, 114, 97, 100, 101]⟩] w3 (RRes (fun _ => .tuple #[]) (need kGrade) w3 b A c L E mn s3)) := Lib.hid (rneed_any kGrade b A c L E mn s3 w3 HS3.out.pc)
 go_wp2_with fail
 refine HE4.out.mono ?_
 rintro e w4 ⟨u4, s4, rfl, hran, hp, hg⟩
 have HS4 := Lib.hid (HS3.out.step hp hg)
 clear HS3 HE4
 have HK4 := Lib.hid (HK3.out.step hran)
 clear HK3
 clear hran hp hg
 have HE5 := Lib.hid (rname_any b A c L E mn s4 w4 HS4.out.pc)
 go_wp2_with fail
 refine HE5.out.mono ?_
 rintro e w5 ⟨gr, s5, rfl, hran, hp, hg⟩
 have HS5 := Lib.hid (HS4.out.step hp hg)
 clear HS4 HE5
 have HK5 := Lib.hid (HK4.out.step hran)
 clear HK4
 clear hran hp hg
 unfold strV
 have x1 := cell_of HS5.out.obj 1 _ rfl
 have y1 := free_of HS5.out.obj 1
 have HS6 : Hid (RSt w (w5.setCell ⟨xb, 1, none⟩ (.string ⟨gr.toArray⟩)) xb b A c L E s5 mn ⟨nm, gr, 0, [], none, 0, 1, ⟨⟨false, (0, 0), 0, []⟩, none, 0⟩, [], none, 0⟩) := Lib.hid (HS5.out.put (grown_set (grown_refl w5 (some xb)) 1 (.string ⟨gr.toArray⟩)) (block_set HS5.out.obj 1 _) (HS5.out.keepX (grown_set (grown_refl w5 (some xb)) 1 (.string ⟨gr.toArray⟩))))
 go_upto_region 6 with fail
 clear x1 y1 HS5
 generalize w5.setCell ⟨xb, 1, none⟩ (.string ⟨gr.toArray⟩) = W6 at *
 have HE7 : Hid (Calls Tryz.prog 90 #[.pointer (some ⟨b, 0, none⟩), .string ⟨#[59]⟩] W6 (RRes (fun _ => .tuple #[]) (need kSemi) W6 b A c L E mn s5)) := Lib.hid (rneed_any kSemi b A c L E mn s5 W6 HS6.out.pc)
 go_wp2_with fail
 refine HE7.out.mono ?_
 rintro e w7 ⟨u7, s7, rfl, hran, hp, hg⟩
 have HS7 := Lib.hid (HS6.out.step hp hg)
 clear HS6 HE7
 have HK7 := Lib.hid (HK5.out.step hran)
 clear HK5
 clear hran hp hg
 obtain ⟨qg, HQG⟩ : ∃ q, Hid (isS L kGrain s7 = q) := ⟨_, Lib.hid rfl⟩
 have HE8 : Hid (Calls Tryz.prog 92 #[.pointer (some ⟨b, 0, none⟩), .string ⟨#[103, 114, 97, 105, 110]⟩] w7 fun e w' => e = .returned (.bool qg) ∧ Rc w' b A c L E (nextS s7 qg) mn ∧ (w7).grownBy w' (some b)) := Lib.hid (by
  have := raccept_any kGrain b A c L E mn s7 w7 HS7.out.pc
  rw [HQG.out] at this
  exact this)
 go_wp2_with fail
 refine HE8.out.mono ?_
 rintro e w8 ⟨rfl, hp, hg⟩
 have HS8 := Lib.hid (HS7.out.step hp hg)
 clear HS7 HE8
 clear hp hg
 go_upto_if 19 with (fail)
 go_cut [] (fun wc => ∃ (g : Int) (sg : St), Ran grainO L E s7 g sg ∧ Hid (RSt w wc xb b A c L E sg mn ⟨nm, gr, g, [], none, 0, 1, ⟨⟨false, (0, 0), 0, []⟩, none, 0⟩, [], none, 0⟩))
 case first =>
  cases qg
  ·go_wp2_with fail
   go_meet
   exact ⟨0, s7, ran_grain_no HQG.out, Lib.hid (by have := HS8.out; rwa [nextS_no] at this)⟩
  ·obtain ⟨jg, hsg, hig⟩ := isS_ok HQG.out
   have HSg : Hid (RSt w w8 xb b A c L E (.ok (jg + 1)) mn ⟨nm, gr, 0, [], none, 0, 1, ⟨⟨false, (0, 0), 0, []⟩, none, 0⟩, [], none, 0⟩) := Lib.hid (by have := HS8.out; rw [hsg] at this; exact this)
   have HIG := Lib.hid hig
   have HSE := Lib.hid hsg
   clear hsg hig HS8
   cases hx : isT L kX (jg + 1)
   ·cases hy : isT L kY (jg + 1)
    ·skip
     have HE19 : Hid (Calls Tryz.prog 92 #[.pointer (some ⟨b, 0, none⟩), .string ⟨#[120]⟩] w8 fun e w' => e = .returned (.bool false) ∧ Rc w' b A c L E (.ok (jg + 1)) mn ∧ (w8).grownBy w' (some b)) := Lib.hid (by
      have := raccept_any kX b A c L E mn (.ok (jg + 1)) w8 HSg.out.pc
      rw [(show isS L kX (.ok (jg + 1)) = false from hx)] at this
      exact this)
     go_wp2_with fail
     refine HE19.out.mono ?_
     rintro e w19 ⟨rfl, hp, hg⟩
     have HS19 := Lib.hid (HSg.out.step hp hg)
     clear HSg HE19
     clear hp hg
     have HE20 : Hid (Calls Tryz.prog 92 #[.pointer (some ⟨b, 0, none⟩), .string ⟨#[121]⟩] w19 fun e w' => e = .returned (.bool false) ∧ Rc w' b A c L E (.ok (jg + 1)) mn ∧ (w19).grownBy w' (some b)) := Lib.hid (by
      have := raccept_any kY b A c L E mn (.ok (jg + 1)) w19 HS19.out.pc
      rw [(show isS L kY (.ok (jg + 1)) = false from hy)] at this
      exact this)
     go_wp2_with fail
     refine HE20.out.mono ?_
     rintro e w20 ⟨rfl, hp, hg⟩
     have HS20 := Lib.hid (HS19.out.step hp hg)
     clear HS19 HE20
     clear hp hg
     have HE21 := Lib.hid (rfail_any 3 (by decide) b A c L E mn (.ok (jg + 1)) w20 HS20.out.pc)
     go_wp2_with fail
     refine HE21.out.mono ?_
     rintro e w21 ⟨_, s21, rfl, hran, hp, hg⟩
     have HF21 : Hid (s21 = .bad (offs L E (jg + 1)) 3) := Lib.hid hran
     have HS21 := Lib.hid (HS20.out.step hp hg)
     clear HS20 HE21
     clear hran hp hg
     have HE22 : Hid (Calls Tryz.prog 90 #[.pointer (some ⟨b, 0, none⟩), .string ⟨#[59]⟩] w21 (RRes (fun _ => .tuple #[]) (need kSemi) w21 b A c L E mn s21)) := Lib.hid (rneed_any kSemi b A c L E mn s21 w21 HS21.out.pc)
     go_wp2_with fail
     refine HE22.out.mono ?_
     rintro e w22 ⟨_, s22, rfl, hran, hp, hg⟩
     have HR22 := Lib.hid hran
     have HS22 := Lib.hid (HS21.out.step hp hg)
     clear HS21 HE22
     clear hran hp hg
     go_wp2_with fail
     go_meet
     exact ⟨0, s22, by rw [HSE.out]; exact ran_grain_bad HIG.out hx hy HF21.out HR22.out, HS22⟩
    ·skip
     have HE19 : Hid (Calls Tryz.prog 92 #[.pointer (some ⟨b, 0, none⟩), .string ⟨#[120]⟩] w8 fun e w' => e = .returned (.bool false) ∧ Rc w' b A c L E (.ok (jg + 1)) mn ∧ (w8).grownBy w' (some b)) := Lib.hid (by
      have := raccept_any kX b A c L E mn (.ok (jg + 1)) w8 HSg.out.pc
      rw [(show isS L kX (.ok (jg + 1)) = false from hx)] at this
      exact this)
     go_wp2_with fail
     refine HE19.out.mono ?_
     rintro e w19 ⟨rfl, hp, hg⟩
     have HS19 := Lib.hid (HSg.out.step hp hg)
     clear HSg HE19
     clear hp hg
     have HE20 : Hid (Calls Tryz.prog 92 #[.pointer (some ⟨b, 0, none⟩), .string ⟨#[121]⟩] w19 fun e w' => e = .returned (.bool true) ∧ Rc w' b A c L E (.ok (jg + 1 + 1)) mn ∧ (w19).grownBy w' (some b)) := Lib.hid (by
      have := raccept_any kY b A c L E mn (.ok (jg + 1)) w19 HS19.out.pc
      rw [(show isS L kY (.ok (jg + 1)) = true from hy)] at this
      exact this)
     go_wp2_with fail
     refine HE20.out.mono ?_
     rintro e w20 ⟨rfl, hp, hg⟩
     have HS20 := Lib.hid (HS19.out.step hp hg)
     clear HS19 HE20
     clear hp hg
     have x2 := cell_of HS20.out.obj 2 _ rfl
     have y2 := free_of HS20.out.obj 2
     have HS21 : Hid (RSt w (w20.setCell ⟨xb, 2, none⟩ (.int .i64 2)) xb b A c L E (.ok (jg + 1 + 1)) mn ⟨nm, gr, 2, [], none, 0, 1, ⟨⟨false, (0, 0), 0, []⟩, none, 0⟩, [], none, 0⟩) := Lib.hid (HS20.out.put (grown_set (grown_refl w20 (some xb)) 2 (.int .i64 2)) (block_set HS20.out.obj 2 _) (HS20.out.keepX (grown_set (grown_refl w20 (some xb)) 2 (.int .i64 2))))
     go_upto_region 13 with fail
     clear x2 y2 HS20
     generalize w20.setCell ⟨xb, 2, none⟩ (.int .i64 2) = W21 at *
     have HE22 : Hid (Calls Tryz.prog 90 #[.pointer (some ⟨b, 0, none⟩), .string ⟨#[59]⟩] W21 (RRes (fun _ => .tuple #[]) (need kSemi) W21 b A c L E mn (.ok (jg + 1 + 1)))) := Lib.hid (rneed_any kSemi b A c L E mn (.ok (jg + 1 + 1)) W21 HS21.out.pc)
     go_wp2_with fail
     refine HE22.out.mono ?_
     rintro e w22 ⟨_, s22, rfl, hran, hp, hg⟩
     have HR22 := Lib.hid hran
     have HS22 := Lib.hid (HS21.out.step hp hg)
     clear HS21 HE22
     clear hran hp hg
     go_wp2_with fail
     go_meet
     exact ⟨2, s22, by rw [HSE.out]; exact ran_grain_y HIG.out hx hy HR22.out, HS22⟩
   ·skip
    have HE19 : Hid (Calls Tryz.prog 92 #[.pointer (some ⟨b, 0, none⟩), .string ⟨#[120]⟩] w8 fun e w' => e = .returned (.bool true) ∧ Rc w' b A c L E (.ok (jg + 1 + 1)) mn ∧ (w8).grownBy w' (some b)) := Lib.hid (by
     have := raccept_any kX b A c L E mn (.ok (jg + 1)) w8 HSg.out.pc
     rw [(show isS L kX (.ok (jg + 1)) = true from hx)] at this
     exact this)
    go_wp2_with fail
    refine HE19.out.mono ?_
    rintro e w19 ⟨rfl, hp, hg⟩
    have HS19 := Lib.hid (HSg.out.step hp hg)
    clear HSg HE19
    clear hp hg
    have x2 := cell_of HS19.out.obj 2 _ rfl
    have y2 := free_of HS19.out.obj 2
    have HS20 : Hid (RSt w (w19.setCell ⟨xb, 2, none⟩ (.int .i64 1)) xb b A c L E (.ok (jg + 1 + 1)) mn ⟨nm, gr, 1, [], none, 0, 1, ⟨⟨false, (0, 0), 0, []⟩, none, 0⟩, [], none, 0⟩) := Lib.hid (HS19.out.put (grown_set (grown_refl w19 (some xb)) 2 (.int .i64 1)) (block_set HS19.out.obj 2 _) (HS19.out.keepX (grown_set (grown_refl w19 (some xb)) 2 (.int .i64 1))))
    go_upto_region 13 with fail
    clear x2 y2 HS19
    generalize w19.setCell ⟨xb, 2, none⟩ (.int .i64 1) = W20 at *
    have HE21 : Hid (Calls Tryz.prog 90 #[.pointer (some ⟨b, 0, none⟩), .string ⟨#[59]⟩] W20 (RRes (fun _ => .tuple #[]) (need kSemi) W20 b A c L E mn (.ok (jg + 1 + 1)))) := Lib.hid (rneed_any kSemi b A c L E mn (.ok (jg + 1 + 1)) W20 HS20.out.pc)
    go_wp2_with fail
    refine HE21.out.mono ?_
    rintro e w21 ⟨_, s21, rfl, hran, hp, hg⟩
    have HR21 := Lib.hid hran
    have HS21 := Lib.hid (HS20.out.step hp hg)
    clear HS20 HE21
    clear hran hp hg
    go_wp2_with fail
    go_meet
    exact ⟨1, s21, by rw [HSE.out]; exact ran_grain_x HIG.out hx HR21.out, HS21⟩
 obtain ⟨g, sg, hgr, HSg⟩ := hcut
 have HKg := Lib.hid (HK7.out.step hgr)
 clear hgr HS8 HK7 HQG
 have HE41 : Hid (Calls Tryz.prog 90 #[.pointer (some ⟨b, 0, none⟩), .string ⟨#[116, 117, 114, 110, 115]⟩] wc (RRes (fun _ => .tuple #[]) (need kTurns) wc b A c L E mn sg)) := Lib.hid (rneed_any kTurns b A c L E mn sg wc HSg.out.pc)
 go_wp2_with fail
 refine HE41.out.mono ?_
 rintro e w41 ⟨u41, s41, rfl, hran, hp, hg⟩
 have HS41 := Lib.hid (HSg.out.step hp hg)
 clear HSg HE41
 have HK41 := Lib.hid (HKg.out.step hran)
 clear HKg
 clear hran hp hg
 have HSD := Lib.hid (HS41.out.below (show Below _ w41 w41.drew from below_drewN (Below.refl _ _) 1))
 have HNB := Lib.hid (rnumber_any 0 7 b A c L E mn s41 w41.drew HSD.out.pc)
 have x3 : w41.drew.cell? ⟨xb, 3, none⟩ = some (.slice none 0 0) := cell_of HSD.out.obj 3 _ rfl
 obtain ⟨i0, ia, ib, ic, id⟩ := info_parts info_int
 clear HS41
 go_upto_region 15 with fail
 refine wp_region_tillK (k := 7) (S1 := fun w' => True) (S2 := fun w' => w'.cell? ⟨xb, 3, none⟩ = some (.slice none 0 0)) (by kernel_rfl) ?_ (fun hHeld => ?_)
 ·exact ⟨trivial, x3⟩
 refine wpAnyK_take (i := 0) (oi := { dst := some 34, op := Op.fieldAddr 41 (Operand.tmp 3) 3, type := 0, pos := "ref.go:162", after := #[], guard := none }) (v := ?_) rfl (by kernel_rfl) (by kernel_rfl) (by kernel_rfl) (by kernel_rfl) (fun _ _ _ h => h) (Or.inl ⟨by rfl, ?_⟩) (by assumption) ?_
 rotate_left
 ·intro w' hSw
  (try dsimp only at hSw)
  first | (go_simp; done) | (go_simp; with_reducible rfl)
 try simp only [Act.put, List.setIfInBounds_toArray, List.set_cons_zero, List.set_cons_succ]
 refine wpAnyK_take (i := 1) (oi := { dst := some 35, op := Op.load 33 (Operand.tmp 34), type := 33, pos := "ref.go:162", after := #[{ on := 0, ground := Ground.data }], guard := none }) (v := ?_) rfl (by kernel_rfl) (by kernel_rfl) (by kernel_rfl) (by kernel_rfl) (fun _ _ _ h => h) (Or.inl ⟨by rfl, ?_⟩) (by assumption) ?_
 rotate_left
 ·intro w' hSw
  (try dsimp only at hSw)
  first | (go_simp; done) | (go_simp; with_reducible rfl)
 try simp only [Act.put, List.setIfInBounds_toArray, List.set_cons_zero, List.set_cons_succ]
 refine wpAnyK_take (i := 2) (oi := { dst := some 36, op := Op.move (Operand.tmp 0), type := 98, pos := "ref.go:162", after := #[], guard := none }) (v := ?_) rfl (by kernel_rfl) (by kernel_rfl) (by kernel_rfl) (by kernel_rfl) (fun _ _ _ h => h) (Or.inl ⟨by rfl, ?_⟩) (by assumption) ?_
 rotate_left
 ·intro w' hSw
  (try dsimp only at hSw)
  first | (go_simp; done) | (go_simp; with_reducible rfl)
 try simp only [Act.put, List.setIfInBounds_toArray, List.set_cons_zero, List.set_cons_succ]
 refine wpAnyK_one (i := 3) (o := { dst := some 37, op := Op.call { callee := Callee.value (Operand.func 94), args := #[Operand.tmp 36, Operand.const (Value.int IntKind.i64 0), Operand.const (Value.int IntKind.i64 7)], argTypes := #[98, 3, 3] }, type := 3, pos := "ref.go:162", after := #[{ on := 2, ground := Ground.data }], guard := none }) (by kernel_rfl) rfl (fun K hK => ?_)
 go_simp
 go_at_call 94
 refine HNB.out.mono ?_
 rintro e w45 ⟨v, s45, rfl, hran, hp, hg⟩
 have HS45 := Lib.hid (HSD.out.step hp hg)
 have HNM := Lib.hid hran
 have HK45 : Hid (Goes (bnd (turnsO 20001 [v]) (srcT nm gr g)) L E s45 sourceO st) := Lib.hid (HK41.out.step hran)
 clear hran hp hg x3 HK41
 have x3 : w45.cell? ⟨xb, 3, none⟩ = some (.slice none 0 0) := cell_of HS45.out.obj 3 _ rfl
 refine hK.out _ _ ?_ (fun _ => ?_) (fun hHeld => ?_)
 ·trivial
 ·exact x3
 replace hHeld := And.intro hHeld.1 (hHeld.2 (by decide))
 clear hK K
 try simp only [Act.put, List.setIfInBounds_toArray, List.set_cons_zero, List.set_cons_succ]
 refine wpAnyK_one (i := 4) (o := { dst := some 38, op := Op.buildSlice 33 1 #[(0, Operand.tmp 37)], type := 33, pos := "ref.go:162", after := #[{ on := 3, ground := Ground.data }], guard := none }) (by kernel_rfl) rfl (fun K hK => ?_)
 go_simp
 have HS46 := Lib.hid (HS45.out.below (bel1 w45 (.cells #[.int .i64 v] 3)))
 have HNW := Lib.hid (newN_row w45 [.int .i64 v] 3)
 have z3 : (w45.alloc (.cells #[.int .i64 v] 3)).cell? ⟨xb, 3, none⟩ = some (.slice none 0 0) := cell_of HS46.out.obj 3 _ rfl
 have HO46 : Hid ((w45.alloc (.cells #[.int .i64 v] 3)).ownsRow (w.heap.size + 1) 3 1 (.slice none 0 0) 0 []) := Lib.hid HS46.out.rows.1
 have C5 : Hid (w.heap.size + 1 ≤ (w45.alloc (.cells #[.int .i64 v] 3)).heap.size) := Lib.hid (by have := blk_lt HS46.out.res; omega)
 refine hK.out _ _ ?_ (fun _ => ?_) (fun hHeld => ?_)
 ·trivial
 ·exact z3
 replace hHeld := And.intro hHeld.1 (hHeld.2 (by decide))
 clear hK K
 try simp only [Act.put, List.setIfInBounds_toArray, List.set_cons_zero, List.set_cons_succ]
 refine wpAnyK_one (i := 5) (o := { dst := some 39, op := Op.call { callee := Callee.builtin Builtin.append, args := #[Operand.tmp 35, Operand.tmp 38], argTypes := #[33, 33] }, type := 33, pos := "ref.go:162", after := #[{ on := 1, ground := Ground.data }, { on := 4, ground := Ground.data }, { on := 3, ground := Ground.chain }], guard := none }) (by kernel_rfl) rfl (fun K hK => ?_)
 refine step_append_row (by rfl) _ _ _ (by rfl) (w.heap.size + 1) 3 i0 _ 1 8 Tryz.underlying33 ia ib ic id rfl (by omega) (.slice none 0 0) 0 [] (by rfl) HO46.out (some ⟨w45.heap.size, 0, none⟩) 1 1 [.int .i64 v] (by rfl) HNW.out rfl (by intro uu hu; simp at hu; rcases hu with rfl; rfl) (by decide) (by decide) C5.out ?_
 intro v5 w5 hown5 hg5
 obtain ⟨B5, d5, rfl, _⟩ := own_shape hown5
 have HP5 : Hid (RSt w (w5.setCell ⟨xb, 3, none⟩ (.slice B5 1 d5)) xb b A c L E s45 mn ⟨nm, gr, g, [v], B5, d5, 1, ⟨⟨false, (0, 0), 0, []⟩, none, 0⟩, [], none, 0⟩) := Lib.hid (RSt.pushT (v := v) (B' := B5) (d' := d5) HS46.out (w5 := w5) hown5 hg5)
 have HO5 := Lib.hid (heap_keep hg5 ((RowW.own HO46.out).mono (Nat.zero_le _)) (by decide) HS46.out.obj)
 have y5 : w5.cell? ⟨xb, 3, none⟩ = some (.slice none 0 0) := cell_of HO5.out 3 _ rfl
 have q5 := free_of HO5.out 3
 clear hown5 hg5 z3
 refine hK.out _ _ ?_ (fun _ => ?_) (fun hHeld => ?_)
 ·trivial
 ·exact y5
 replace hHeld := And.intro hHeld.1 (hHeld.2 (by decide))
 clear hK K
 try simp only [Act.put, List.setIfInBounds_toArray, List.set_cons_zero, List.set_cons_succ]
 refine wpAnyK_one (i := 6) (o := { dst := some 40, op := Op.fieldAddr 41 (Operand.tmp 3) 3, type := 0, pos := "ref.go:162", after := #[{ on := 0, ground := Ground.phase }, { on := 1, ground := Ground.phase }, { on := 2, ground := Ground.phase }, { on := 3, ground := Ground.phase }, { on := 4, ground := Ground.phase }, { on := 5, ground := Ground.phase }], guard := none }) (by kernel_rfl) rfl (fun K hK => ?_)
 go_simp
 refine hK.out _ _ ?_ (fun _ => ?_) (fun hHeld => ?_)
 ·trivial
 ·exact y5
 replace hHeld := And.intro hHeld.1 (hHeld.2 (by decide))
 clear hK K
 try simp only [Act.put, List.setIfInBounds_toArray, List.set_cons_zero, List.set_cons_succ]
 refine wpAnyK_one (i := 7) (o := { dst := none, op := Op.store 33 (Operand.tmp 40) (Operand.tmp 39), type := 0, pos := "ref.go:162", after := #[{ on := 6, ground := Ground.data }, { on := 5, ground := Ground.data }, { on := 5, ground := Ground.chain }, { on := 0, ground := Ground.phase }, { on := 1, ground := Ground.phase }, { on := 2, ground := Ground.phase }, { on := 3, ground := Ground.phase }, { on := 4, ground := Ground.phase }, { on := 5, ground := Ground.phase }], guard := none }) (by kernel_rfl) rfl (fun K hK => ?_)
 go_simp
 refine hK.out _ _ ?_ (fun hne => ?_) (fun hHeld => ?_)
 ·trivial
 ·exact absurd rfl hne
 clear hK K
 try simp only [Act.put, List.setIfInBounds_toArray, List.set_cons_zero, List.set_cons_succ]
 refine wpAnyK_done (by kernel_rfl) ?_ _
 go_wp2_with fail
 clear y5 q5 HO5 HO46 HNW HS46 HS45 HSD HNB C5
 generalize w5.setCell ⟨xb, 3, none⟩ (.slice B5 1 d5) = W14 at *
 have HLI0 : Hid (∀ k, s45 = .ok k → ∃ n u, LastIs [v] n u) := Lib.hid (fun k e => ⟨0, v, LastIs.one (by subst e; exact (ran_num_ok HNM.out))⟩)
 go_loopg [] 20001 (fun f wr => ∃ (ts : List Int) (st' : St) (tA : Option Addr) (tc : Nat), Hid (Goes (bnd (turnsO f ts) (srcT nm gr g)) L E st' sourceO st) ∧ fuel L f st' ∧ ts.length + f ≤ 20002 ∧ Hid (∀ k, st' = .ok k → ∃ n u, LastIs ts n u) ∧ Hid (RSt w wr xb b A c L E st' mn ⟨nm, gr, g, ts, tA, tc, 1, ⟨⟨false, (0, 0), 0, []⟩, none, 0⟩, [], none, 0⟩))
 case atStart => exact ⟨[v], s45, B5, d5, HK45, by have := HFEW.out; cases s45 with | bad k e => trivial | ok k => (show L.length < 20001 + k; omega), by simp, HLI0, HP5⟩
 case round =>
  obtain ⟨ts, st', tA, tc, HK, hfu, haf, HL, HS⟩ := hrel
  clear HK45 HP5 HLI0 HNM
  cases hq : isS L kComma st'
  ·skip
   have HTL : Hid (ts.length ≤ 20002) := Lib.hid (by omega)
   have HKt : Hid (Goes (bnd (need kSemi) _) L E st' sourceO st) := Lib.hid (HK.out.turns_end hq)
   clear HL HK hfu haf i0 ia ib ic id
   have HE51 : Hid (Calls Tryz.prog 92 #[.pointer (some ⟨b, 0, none⟩), .string ⟨#[44]⟩] wr fun e w' => e = .returned (.bool false) ∧ Rc w' b A c L E st' mn ∧ (wr).grownBy w' (some b)) := Lib.hid (by
    have := raccept_any kComma b A c L E mn st' wr HS.out.pc
    rw [hq, nextS_no] at this
    exact this)
   go_wp2_with fail
   refine HE51.out.mono ?_
   rintro e w51 ⟨rfl, hp, hg⟩
   have HS51 := Lib.hid (HS.out.step hp hg)
   clear HS HE51
   clear hp hg
   clear hq
   have HE52 : Hid (Calls Tryz.prog 90 #[.pointer (some ⟨b, 0, none⟩), .string ⟨#[59]⟩] w51 (RRes (fun _ => .tuple #[]) (need kSemi) w51 b A c L E mn st')) := Lib.hid (rneed_any kSemi b A c L E mn st' w51 HS51.out.pc)
   go_wp2_with fail
   refine HE52.out.mono ?_
   rintro e w52 ⟨u52, s52, rfl, hran, hp, hg⟩
   have HS52 := Lib.hid (HS51.out.step hp hg)
   clear HS51 HE52
   have HK52 := Lib.hid (HKt.out.step hran)
   clear HKt
   clear hran hp hg
   obtain ⟨qt, HQT⟩ : ∃ q, Hid (isS L kTol s52 = q) := ⟨_, Lib.hid rfl⟩
   have HE53 : Hid (Calls Tryz.prog 92 #[.pointer (some ⟨b, 0, none⟩), .string ⟨#[116, 111, 108, 101, 114, 97, 110, 99, 101]⟩] w52 fun e w' => e = .returned (.bool qt) ∧ Rc w' b A c L E (nextS s52 qt) mn ∧ (w52).grownBy w' (some b)) := Lib.hid (by
    have := raccept_any kTol b A c L E mn s52 w52 HS52.out.pc
    rw [HQT.out] at this
    exact this)
   go_wp2_with fail
   refine HE53.out.mono ?_
   rintro e w53 ⟨rfl, hp, hg⟩
   have HS53 := Lib.hid (HS52.out.step hp hg)
   clear HS52 HE53
   clear hp hg
   go_upto_if 62 with (fail)
   go_cut [] (fun wc => ∃ (tl : Int) (sl : St), Ran tolO L E s52 tl sl ∧ Hid (RSt w wc xb b A c L E sl mn ⟨nm, gr, g, ts, tA, tc, tl, ⟨⟨false, (0, 0), 0, []⟩, none, 0⟩, [], none, 0⟩))
   case first =>
    cases qt
    ·go_wp2_with fail
     go_meet
     exact ⟨1, s52, ran_tol_no HQT.out, Lib.hid (by have := HS53.out; rwa [nextS_no] at this)⟩
    ·obtain ⟨jg, hsg, hig⟩ := isS_ok HQT.out
     have HSg : Hid (RSt w w53 xb b A c L E (.ok (jg + 1)) mn ⟨nm, gr, g, ts, tA, tc, 1, ⟨⟨false, (0, 0), 0, []⟩, none, 0⟩, [], none, 0⟩) := Lib.hid (by have := HS53.out; rw [hsg] at this; exact this)
     have HIG := Lib.hid hig
     have HSE := Lib.hid hsg
     clear hsg hig HS53
     have HE61 := Lib.hid (rnumber_any 1 50 b A c L E mn (.ok (jg + 1)) w53 HSg.out.pc)
     go_wp2_with fail
     refine HE61.out.mono ?_
     rintro e w61 ⟨tl, s61, rfl, hran, hp, hg⟩
     have HRN1 := Lib.hid hran
     have HS61 := Lib.hid (HSg.out.step hp hg)
     clear HSg HE61
     clear hran hp hg
     have x4 := cell_of HS61.out.obj 4 _ rfl
     have y4 := free_of HS61.out.obj 4
     have HS62 : Hid (RSt w (w61.setCell ⟨xb, 4, none⟩ (.int .i64 tl)) xb b A c L E s61 mn ⟨nm, gr, g, ts, tA, tc, tl, ⟨⟨false, (0, 0), 0, []⟩, none, 0⟩, [], none, 0⟩) := Lib.hid (HS61.out.put (grown_set (grown_refl w61 (some xb)) 4 (.int .i64 tl)) (block_set HS61.out.obj 4 _) (HS61.out.keepX (grown_set (grown_refl w61 (some xb)) 4 (.int .i64 tl))))
     go_upto_region 21 with fail
     clear x4 y4 HS61
     generalize w61.setCell ⟨xb, 4, none⟩ (.int .i64 tl) = W62 at *
     have HE63 : Hid (Calls Tryz.prog 90 #[.pointer (some ⟨b, 0, none⟩), .string ⟨#[59]⟩] W62 (RRes (fun _ => .tuple #[]) (need kSemi) W62 b A c L E mn s61)) := Lib.hid (rneed_any kSemi b A c L E mn s61 W62 HS62.out.pc)
     go_wp2_with fail
     refine HE63.out.mono ?_
     rintro e w63 ⟨_, s63, rfl, hran, hp, hg⟩
     have HRN2 := Lib.hid hran
     have HS63 := Lib.hid (HS62.out.step hp hg)
     clear HS62 HE63
     clear hran hp hg
     go_wp2_with fail
     go_meet
     exact ⟨tl, s63, by rw [HSE.out]; exact ran_tol_yes HIG.out HRN1.out HRN2.out, HS63⟩
   obtain ⟨tl, sl, htl, HSl⟩ := hcut
   have HKl := Lib.hid (HK52.out.step htl)
   clear htl HS53 HK52 HQT
   have HE71 : Hid (Calls Tryz.prog 90 #[.pointer (some ⟨b, 0, none⟩), .string ⟨#[114, 105, 110, 103]⟩] wc (RRes (fun _ => .tuple #[]) (need kRing) wc b A c L E mn sl)) := Lib.hid (rneed_any kRing b A c L E mn sl wc HSl.out.pc)
   go_wp2_with fail
   refine HE71.out.mono ?_
   rintro e w71 ⟨u71, s71, rfl, hran, hp, hg⟩
   have HS71 := Lib.hid (HSl.out.step hp hg)
   clear HSl HE71
   have HK71 := Lib.hid (HKl.out.step hran)
   clear HKl
   clear hran hp hg
   have HE72 := Lib.hid (routline_any b A c L E mn s71 w71 HS71.out.pc)
   go_wp2_with fail
   refine HE72.out.mono ?_
   rintro e w72 ⟨o, s72, _, rfl, ⟨oA, od, rfl, hat, hod, hol⟩, hran, hp, hg⟩
   have HOIo : Hid (OutIn 140 0 w72 ⟨o, oA, od⟩) := Lib.hid ⟨hat, hod, Nat.le_trans hol (by decide)⟩
   have HRO72 := Lib.hid hran
   have HS72 := Lib.hid (HS71.out.step hp hg)
   clear HS71 HE72
   clear hat hod hol hran hp hg
   unfold outV
   have x5 := cell_of HS72.out.obj 5 _ rfl
   have y5 := free_of HS72.out.obj 5
   have x6 := cell_of HS72.out.obj 6 _ rfl
   have y6 := free_of HS72.out.obj 6
   have x7 := cell_of HS72.out.obj 7 _ rfl
   have y7 := free_of HS72.out.obj 7
   have x8 := cell_of HS72.out.obj 8 _ rfl
   have y8 := free_of HS72.out.obj 8
   have x9 := cell_of HS72.out.obj 9 _ rfl
   have y9 := free_of HS72.out.obj 9
   have HG5 := Lib.hid (grown_set (grown_set (grown_set (grown_set (grown_set (grown_refl w72 (some xb)) 5 (.bool o.circle)) 6 (.int .i64 o.center.1)) 7 (.int .i64 o.center.2)) 8 (.int .i64 o.radius)) 9 (.slice oA o.steps.length od))
   have HSo : Hid (RSt w (((((w72.setCell ⟨xb, 5, none⟩ (.bool o.circle)).setCell ⟨xb, 6, none⟩ (.int .i64 o.center.1)).setCell ⟨xb, 7, none⟩ (.int .i64 o.center.2)).setCell ⟨xb, 8, none⟩ (.int .i64 o.radius)).setCell ⟨xb, 9, none⟩ (.slice oA o.steps.length od)) xb b A c L E s72 (mn || long o) ⟨nm, gr, g, ts, tA, tc, tl, ⟨o, oA, od⟩, [], none, 0⟩) := Lib.hid (HS72.out.put HG5.out (block_set (block_set (block_set (block_set (block_set HS72.out.obj 5 _) 6 _) 7 _) 8 _) 9 _) ⟨(HS72.out.keepX HG5.out).1, (HS72.out.keepX HG5.out).2.1, HOIo.out.keep HG5.out (RowW.at HS72.out.obj (Nat.zero_le _)) (by decide), (HS72.out.keepX HG5.out).2.2.2⟩)
   go_upto_region 24 with fail
   clear x5 y5 x6 y6 x7 y7 x8 y8 x9 y9 HG5 HS72 HOIo
   generalize (((((w72.setCell ⟨xb, 5, none⟩ (.bool o.circle)).setCell ⟨xb, 6, none⟩ (.int .i64 o.center.1)).setCell ⟨xb, 7, none⟩ (.int .i64 o.center.2)).setCell ⟨xb, 8, none⟩ (.int .i64 o.radius)).setCell ⟨xb, 9, none⟩ (.slice oA o.steps.length od)) = Wo at *
   have HE73 : Hid (Calls Tryz.prog 90 #[.pointer (some ⟨b, 0, none⟩), .string ⟨#[59]⟩] Wo (RRes (fun _ => .tuple #[]) (need kSemi) Wo b A c L E (mn || long o) s72)) := Lib.hid (rneed_any kSemi b A c L E (mn || long o) s72 Wo HSo.out.pc)
   go_wp2_with fail
   refine HE73.out.mono ?_
   rintro e w73 ⟨_, s73, rfl, hran, hp, hg⟩
   have HKn : Hid (Goes (bnd (holesO 20001 []) (srcH nm gr g ts tl o)) L E s73 sourceO st) := Lib.hid (HK71.out.step (outline_ran HFEW.out HRO72.out hran))
   clear HK71 HRO72
   have HS73 := Lib.hid (HSo.out.step hp hg)
   clear HSo HE73
   clear hran hp hg
   have HSh : Hid (RSt w w73 xb b A c L E s73 ((mn || long o) || (([] : List OutM).any fun h => long h.o)) ⟨nm, gr, g, ts, tA, tc, tl, ⟨o, oA, od⟩, [], none, 0⟩) := Lib.hid (by have := HS73.out; rw [show ((mn || long o) || (([] : List OutM).any fun h => long h.o)) = (mn || long o) from Bool.or_false _]; exact this)
   obtain ⟨i0, ia, ib, ic, id⟩ := info_parts info_routR
   clear HS73
   go_wp2_with fail
   go_loopg [] 20001 (fun f wr => ∃ (hs : List OutM) (st' : St) (hA : Option Addr) (hc : Nat), Hid (Goes (bnd (holesO f (hs.map OutM.o)) (srcH nm gr g ts tl o)) L E st' sourceO st) ∧ fuel L f st' ∧ hs.length + f ≤ 20002 ∧ Hid (RSt w wr xb b A c L E st' ((mn || long o) || (hs.any fun h => long h.o)) ⟨nm, gr, g, ts, tA, tc, tl, ⟨o, oA, od⟩, hs, hA, hc⟩))
   case atStart => exact ⟨[], s73, none, 0, HKn, by have := HFEW.out; cases s73 with | bad k e => trivial | ok k => (show L.length < 20001 + k; omega), by simp, HSh⟩
   case round =>
    obtain ⟨hs, st', hA, hc, HK, hfu, haf, HS⟩ := hrel
    clear HKn HSh
    cases hq : isS L kHole st'
    ·skip
     have HHL : Hid (hs.length ≤ 20002) := Lib.hid (by omega)
     have HKe : Hid (Goes (bnd (need kEnd) _) L E st' sourceO st) := Lib.hid (HK.out.holes_end hq)
     clear HK hfu haf i0 ia ib ic id
     have HE101 : Hid (Calls Tryz.prog 92 #[.pointer (some ⟨b, 0, none⟩), .string ⟨#[104, 111, 108, 101]⟩] wr fun e w' => e = .returned (.bool false) ∧ Rc w' b A c L E st' ((mn || long o) || (hs.any fun h => long h.o)) ∧ (wr).grownBy w' (some b)) := Lib.hid (by
      have := raccept_any kHole b A c L E ((mn || long o) || (hs.any fun h => long h.o)) st' wr HS.out.pc
      rw [hq, nextS_no] at this
      exact this)
     go_wp2_with fail
     refine HE101.out.mono ?_
     rintro e w101 ⟨rfl, hp, hg⟩
     have HS101 := Lib.hid (HS.out.step hp hg)
     clear HS HE101
     clear hp hg
     clear hq
     have HE102 : Hid (Calls Tryz.prog 90 #[.pointer (some ⟨b, 0, none⟩), .string ⟨#[125]⟩] w101 (RRes (fun _ => .tuple #[]) (need kEnd) w101 b A c L E ((mn || long o) || (hs.any fun h => long h.o)) st')) := Lib.hid (rneed_any kEnd b A c L E ((mn || long o) || (hs.any fun h => long h.o)) st' w101 HS101.out.pc)
     go_wp2_with fail
     refine HE102.out.mono ?_
     rintro e w102 ⟨u102, s102, rfl, hran, hp, hg⟩
     have HS102 := Lib.hid (HS101.out.step hp hg)
     clear HS101 HE102
     have HK102 := Lib.hid (HKe.out.step hran)
     clear HKe
     clear hran hp hg
     have HRN := Lib.hid HK102.out.last
     obtain ⟨m, cm, fm, hm, hpm⟩ := HS102.out.pc.mark (decide (6 < hs.length))
     have HPM := Lib.hid hpm
     have HBR : Hid ((mn || badR ⟨nm, gr, g, ts, tl, o, hs.map OutM.o⟩) = (((mn || long o) || (hs.any fun h => long h.o)) || decide (6 < hs.length))) := Lib.hid (bad_flag mn o hs)
     clear hm hpm HK102
     by_cases hl : 6 < hs.length
     ·have hl1 : ((6 : Int) < (hs.length : Int)) = True := eq_true (by omega)
      rw [decide_eq_true hl] at HPM HBR
      clear hl
      cases m
      ·skip
       have HPM2 : Hid (Rc (w102.setCell ⟨b, 5, none⟩ (.bool true)) b A c L E s102 (mn || badR ⟨nm, gr, g, ts, tl, o, hs.map OutM.o⟩)) := Lib.hid (by have := HPM.out; rw [HBR.out]; simpa only [Bool.true_or, Bool.false_or, Bool.or_true, Bool.or_false] using this)
       have HSM := Lib.hid (HS102.out.step HPM2.out (grown_set (grown_refl w102 (some b)) 5 (.bool true)))
       have o4 := cell_of HS102.out.obj 10 (.slice hA hs.length hc) rfl
       go_upto_region 30 with fail
       clear o4 cm fm HPM2 HS102 HBR HPM
       generalize (w102.setCell ⟨b, 5, none⟩ (.bool true)) = WM at *
       have x0 := cell_of HSM.out.obj 0 (.string ⟨nm.toArray⟩) rfl
       have z0 := cell_of HSM.out.res 0 _ rfl
       have q0 := free_of HSM.out.res 0
       have x1 := cell_of HSM.out.obj 1 (.string ⟨gr.toArray⟩) rfl
       have z1 := cell_of HSM.out.res 1 _ rfl
       have q1 := free_of HSM.out.res 1
       have x2 := cell_of HSM.out.obj 2 (.int .i64 g) rfl
       have z2 := cell_of HSM.out.res 2 _ rfl
       have q2 := free_of HSM.out.res 2
       have x3 := cell_of HSM.out.obj 3 (.slice tA ts.length tc) rfl
       have z3 := cell_of HSM.out.res 3 _ rfl
       have q3 := free_of HSM.out.res 3
       have x4 := cell_of HSM.out.obj 4 (.int .i64 tl) rfl
       have z4 := cell_of HSM.out.res 4 _ rfl
       have q4 := free_of HSM.out.res 4
       have x5 := cell_of HSM.out.obj 5 (.bool o.circle) rfl
       have z5 := cell_of HSM.out.res 5 _ rfl
       have q5 := free_of HSM.out.res 5
       have x6 := cell_of HSM.out.obj 6 (.int .i64 o.center.1) rfl
       have z6 := cell_of HSM.out.res 6 _ rfl
       have q6 := free_of HSM.out.res 6
       have x7 := cell_of HSM.out.obj 7 (.int .i64 o.center.2) rfl
       have z7 := cell_of HSM.out.res 7 _ rfl
       have q7 := free_of HSM.out.res 7
       have x8 := cell_of HSM.out.obj 8 (.int .i64 o.radius) rfl
       have z8 := cell_of HSM.out.res 8 _ rfl
       have q8 := free_of HSM.out.res 8
       have x9 := cell_of HSM.out.obj 9 (.slice oA o.steps.length od) rfl
       have z9 := cell_of HSM.out.res 9 _ rfl
       have q9 := free_of HSM.out.res 9
       have x10 := cell_of HSM.out.obj 10 (.slice hA hs.length hc) rfl
       have z10 := cell_of HSM.out.res 10 _ rfl
       have q10 := free_of HSM.out.res 10
       have HGF : Hid (WM.grownBy (((((((((((WM.setCell ⟨w.heap.size, 0, none⟩ (.string ⟨nm.toArray⟩)).setCell ⟨w.heap.size, 1, none⟩ (.string ⟨gr.toArray⟩)).setCell ⟨w.heap.size, 2, none⟩ (.int .i64 g)).setCell ⟨w.heap.size, 3, none⟩ (.slice tA ts.length tc)).setCell ⟨w.heap.size, 4, none⟩ (.int .i64 tl)).setCell ⟨w.heap.size, 5, none⟩ (.bool o.circle)).setCell ⟨w.heap.size, 6, none⟩ (.int .i64 o.center.1)).setCell ⟨w.heap.size, 7, none⟩ (.int .i64 o.center.2)).setCell ⟨w.heap.size, 8, none⟩ (.int .i64 o.radius)).setCell ⟨w.heap.size, 9, none⟩ (.slice oA o.steps.length od)).setCell ⟨w.heap.size, 10, none⟩ (.slice hA hs.length hc)) (some w.heap.size)) := Lib.hid (sets_grown [.string ⟨nm.toArray⟩, .string ⟨gr.toArray⟩, .int .i64 g, .slice tA ts.length tc, .int .i64 tl, .bool o.circle, .int .i64 o.center.1, .int .i64 o.center.2, .int .i64 o.radius, .slice oA o.steps.length od, .slice hA hs.length hc] 0 _ _ (grown_refl WM (some w.heap.size)))
       have HWF : Hid ((((((((((((WM.setCell ⟨w.heap.size, 0, none⟩ (.string ⟨nm.toArray⟩)).setCell ⟨w.heap.size, 1, none⟩ (.string ⟨gr.toArray⟩)).setCell ⟨w.heap.size, 2, none⟩ (.int .i64 g)).setCell ⟨w.heap.size, 3, none⟩ (.slice tA ts.length tc)).setCell ⟨w.heap.size, 4, none⟩ (.int .i64 tl)).setCell ⟨w.heap.size, 5, none⟩ (.bool o.circle)).setCell ⟨w.heap.size, 6, none⟩ (.int .i64 o.center.1)).setCell ⟨w.heap.size, 7, none⟩ (.int .i64 o.center.2)).setCell ⟨w.heap.size, 8, none⟩ (.int .i64 o.radius)).setCell ⟨w.heap.size, 9, none⟩ (.slice oA o.steps.length od)).setCell ⟨w.heap.size, 10, none⟩ (.slice hA hs.length hc)).heap[w.heap.size]? = some (.cells #[.string ⟨nm.toArray⟩, .string ⟨gr.toArray⟩, .int .i64 g, .slice tA ts.length tc, .int .i64 tl, .bool o.circle, .int .i64 o.center.1, .int .i64 o.center.2, .int .i64 o.radius, .slice oA o.steps.length od, .slice hA hs.length hc] 41 (0, 0))) := Lib.hid (sets_block [.string ⟨nm.toArray⟩, .string ⟨gr.toArray⟩, .int .i64 g, .slice tA ts.length tc, .int .i64 tl, .bool o.circle, .int .i64 o.center.1, .int .i64 o.center.2, .int .i64 o.radius, .slice oA o.steps.length od, .slice hA hs.length hc] 0 WM [.string ⟨#[]⟩, .string ⟨#[]⟩, .int .i64 0, .slice none 0 0, .int .i64 0, .bool false, .int .i64 0, .int .i64 0, .int .i64 0, .slice none 0 0, .slice none 0 0] HSM.out.res rfl)
       have HX := Lib.hid (And.intro HGF.out HWF.out)
       clear HGF HWF
       go_wp2_with fail
       clear x0 z0 q0 x1 z1 q1 x2 z2 q2 x3 z3 q3 x4 z4 q4 x5 z5 q5 x6 z6 q6 x7 z7 q7 x8 z8 q8 x9 z9 q9 x10 z10 q10
       generalize (((((((((((WM.setCell ⟨w.heap.size, 0, none⟩ (.string ⟨nm.toArray⟩)).setCell ⟨w.heap.size, 1, none⟩ (.string ⟨gr.toArray⟩)).setCell ⟨w.heap.size, 2, none⟩ (.int .i64 g)).setCell ⟨w.heap.size, 3, none⟩ (.slice tA ts.length tc)).setCell ⟨w.heap.size, 4, none⟩ (.int .i64 tl)).setCell ⟨w.heap.size, 5, none⟩ (.bool o.circle)).setCell ⟨w.heap.size, 6, none⟩ (.int .i64 o.center.1)).setCell ⟨w.heap.size, 7, none⟩ (.int .i64 o.center.2)).setCell ⟨w.heap.size, 8, none⟩ (.int .i64 o.radius)).setCell ⟨w.heap.size, 9, none⟩ (.slice oA o.steps.length od)).setCell ⟨w.heap.size, 10, none⟩ (.slice hA hs.length hc)) = WF at HX ⊢
       have z0 := cell_of HX.out.2 0 _ rfl
       have z1 := cell_of HX.out.2 1 _ rfl
       have z2 := cell_of HX.out.2 2 _ rfl
       have z3 := cell_of HX.out.2 3 _ rfl
       have z4 := cell_of HX.out.2 4 _ rfl
       have z5 := cell_of HX.out.2 5 _ rfl
       have z6 := cell_of HX.out.2 6 _ rfl
       have z7 := cell_of HX.out.2 7 _ rfl
       have z8 := cell_of HX.out.2 8 _ rfl
       have z9 := cell_of HX.out.2 9 _ rfl
       have z10 := cell_of HX.out.2 10 _ rfl
       refine bodyPost_ret (v := .agg #[.string ⟨nm.toArray⟩, .string ⟨gr.toArray⟩, .int .i64 g, .slice tA ts.length tc, .int .i64 tl, .bool o.circle, .int .i64 o.center.1, .int .i64 o.center.2, .int .i64 o.radius, .slice oA o.steps.length od, .slice hA hs.length hc]) (by simp [results, Tryz.results43, go_sem, z0, z1, z2, z3, z4, z5, z6, z7, z8, z9, z10]) rfl ?_
       exact ⟨⟨nm, gr, g, ts, tl, o, hs.map OutM.o⟩, s102, _, rfl, ⟨⟨nm, gr, g, ts, tA, tc, tl, ⟨o, oA, od⟩, hs, hA, hc⟩, rfl, rfl, (HSM.out.rows.in_ (Nat.le_trans HTL.out (by decide)) (Nat.le_trans HHL.out (by decide))).keep HX.out.1 (RowW.at HSM.out.res (Nat.zero_le _)) (by decide) (by decide) (by decide)⟩, HRN.out, HSM.out.pc.wide HRW.out hlt HX.out.1 (fun k e => by cases e; omega), grown_wide HSM.out.gr HX.out.1 (fun k e => by cases e; omega)⟩
      ·skip
       have HPM2 : Hid (Rc (w102.setCell ⟨b, 5, none⟩ (.bool true)) b A c L E s102 (mn || badR ⟨nm, gr, g, ts, tl, o, hs.map OutM.o⟩)) := Lib.hid (by have := HPM.out; rw [HBR.out]; simpa only [Bool.true_or, Bool.false_or, Bool.or_true, Bool.or_false] using this)
       have HSM := Lib.hid (HS102.out.step HPM2.out (grown_set (grown_refl w102 (some b)) 5 (.bool true)))
       have o4 := cell_of HS102.out.obj 10 (.slice hA hs.length hc) rfl
       go_upto_region 30 with fail
       clear o4 cm fm HPM2 HS102 HBR HPM
       generalize (w102.setCell ⟨b, 5, none⟩ (.bool true)) = WM at *
       have x0 := cell_of HSM.out.obj 0 (.string ⟨nm.toArray⟩) rfl
       have z0 := cell_of HSM.out.res 0 _ rfl
       have q0 := free_of HSM.out.res 0
       have x1 := cell_of HSM.out.obj 1 (.string ⟨gr.toArray⟩) rfl
       have z1 := cell_of HSM.out.res 1 _ rfl
       have q1 := free_of HSM.out.res 1
       have x2 := cell_of HSM.out.obj 2 (.int .i64 g) rfl
       have z2 := cell_of HSM.out.res 2 _ rfl
       have q2 := free_of HSM.out.res 2
       have x3 := cell_of HSM.out.obj 3 (.slice tA ts.length tc) rfl
       have z3 := cell_of HSM.out.res 3 _ rfl
       have q3 := free_of HSM.out.res 3
       have x4 := cell_of HSM.out.obj 4 (.int .i64 tl) rfl
       have z4 := cell_of HSM.out.res 4 _ rfl
       have q4 := free_of HSM.out.res 4
       have x5 := cell_of HSM.out.obj 5 (.bool o.circle) rfl
       have z5 := cell_of HSM.out.res 5 _ rfl
       have q5 := free_of HSM.out.res 5
       have x6 := cell_of HSM.out.obj 6 (.int .i64 o.center.1) rfl
       have z6 := cell_of HSM.out.res 6 _ rfl
       have q6 := free_of HSM.out.res 6
       have x7 := cell_of HSM.out.obj 7 (.int .i64 o.center.2) rfl
       have z7 := cell_of HSM.out.res 7 _ rfl
       have q7 := free_of HSM.out.res 7
       have x8 := cell_of HSM.out.obj 8 (.int .i64 o.radius) rfl
       have z8 := cell_of HSM.out.res 8 _ rfl
       have q8 := free_of HSM.out.res 8
       have x9 := cell_of HSM.out.obj 9 (.slice oA o.steps.length od) rfl
       have z9 := cell_of HSM.out.res 9 _ rfl
       have q9 := free_of HSM.out.res 9
       have x10 := cell_of HSM.out.obj 10 (.slice hA hs.length hc) rfl
       have z10 := cell_of HSM.out.res 10 _ rfl
       have q10 := free_of HSM.out.res 10
       have HGF : Hid (WM.grownBy (((((((((((WM.setCell ⟨w.heap.size, 0, none⟩ (.string ⟨nm.toArray⟩)).setCell ⟨w.heap.size, 1, none⟩ (.string ⟨gr.toArray⟩)).setCell ⟨w.heap.size, 2, none⟩ (.int .i64 g)).setCell ⟨w.heap.size, 3, none⟩ (.slice tA ts.length tc)).setCell ⟨w.heap.size, 4, none⟩ (.int .i64 tl)).setCell ⟨w.heap.size, 5, none⟩ (.bool o.circle)).setCell ⟨w.heap.size, 6, none⟩ (.int .i64 o.center.1)).setCell ⟨w.heap.size, 7, none⟩ (.int .i64 o.center.2)).setCell ⟨w.heap.size, 8, none⟩ (.int .i64 o.radius)).setCell ⟨w.heap.size, 9, none⟩ (.slice oA o.steps.length od)).setCell ⟨w.heap.size, 10, none⟩ (.slice hA hs.length hc)) (some w.heap.size)) := Lib.hid (sets_grown [.string ⟨nm.toArray⟩, .string ⟨gr.toArray⟩, .int .i64 g, .slice tA ts.length tc, .int .i64 tl, .bool o.circle, .int .i64 o.center.1, .int .i64 o.center.2, .int .i64 o.radius, .slice oA o.steps.length od, .slice hA hs.length hc] 0 _ _ (grown_refl WM (some w.heap.size)))
       have HWF : Hid ((((((((((((WM.setCell ⟨w.heap.size, 0, none⟩ (.string ⟨nm.toArray⟩)).setCell ⟨w.heap.size, 1, none⟩ (.string ⟨gr.toArray⟩)).setCell ⟨w.heap.size, 2, none⟩ (.int .i64 g)).setCell ⟨w.heap.size, 3, none⟩ (.slice tA ts.length tc)).setCell ⟨w.heap.size, 4, none⟩ (.int .i64 tl)).setCell ⟨w.heap.size, 5, none⟩ (.bool o.circle)).setCell ⟨w.heap.size, 6, none⟩ (.int .i64 o.center.1)).setCell ⟨w.heap.size, 7, none⟩ (.int .i64 o.center.2)).setCell ⟨w.heap.size, 8, none⟩ (.int .i64 o.radius)).setCell ⟨w.heap.size, 9, none⟩ (.slice oA o.steps.length od)).setCell ⟨w.heap.size, 10, none⟩ (.slice hA hs.length hc)).heap[w.heap.size]? = some (.cells #[.string ⟨nm.toArray⟩, .string ⟨gr.toArray⟩, .int .i64 g, .slice tA ts.length tc, .int .i64 tl, .bool o.circle, .int .i64 o.center.1, .int .i64 o.center.2, .int .i64 o.radius, .slice oA o.steps.length od, .slice hA hs.length hc] 41 (0, 0))) := Lib.hid (sets_block [.string ⟨nm.toArray⟩, .string ⟨gr.toArray⟩, .int .i64 g, .slice tA ts.length tc, .int .i64 tl, .bool o.circle, .int .i64 o.center.1, .int .i64 o.center.2, .int .i64 o.radius, .slice oA o.steps.length od, .slice hA hs.length hc] 0 WM [.string ⟨#[]⟩, .string ⟨#[]⟩, .int .i64 0, .slice none 0 0, .int .i64 0, .bool false, .int .i64 0, .int .i64 0, .int .i64 0, .slice none 0 0, .slice none 0 0] HSM.out.res rfl)
       have HX := Lib.hid (And.intro HGF.out HWF.out)
       clear HGF HWF
       go_wp2_with fail
       clear x0 z0 q0 x1 z1 q1 x2 z2 q2 x3 z3 q3 x4 z4 q4 x5 z5 q5 x6 z6 q6 x7 z7 q7 x8 z8 q8 x9 z9 q9 x10 z10 q10
       generalize (((((((((((WM.setCell ⟨w.heap.size, 0, none⟩ (.string ⟨nm.toArray⟩)).setCell ⟨w.heap.size, 1, none⟩ (.string ⟨gr.toArray⟩)).setCell ⟨w.heap.size, 2, none⟩ (.int .i64 g)).setCell ⟨w.heap.size, 3, none⟩ (.slice tA ts.length tc)).setCell ⟨w.heap.size, 4, none⟩ (.int .i64 tl)).setCell ⟨w.heap.size, 5, none⟩ (.bool o.circle)).setCell ⟨w.heap.size, 6, none⟩ (.int .i64 o.center.1)).setCell ⟨w.heap.size, 7, none⟩ (.int .i64 o.center.2)).setCell ⟨w.heap.size, 8, none⟩ (.int .i64 o.radius)).setCell ⟨w.heap.size, 9, none⟩ (.slice oA o.steps.length od)).setCell ⟨w.heap.size, 10, none⟩ (.slice hA hs.length hc)) = WF at HX ⊢
       have z0 := cell_of HX.out.2 0 _ rfl
       have z1 := cell_of HX.out.2 1 _ rfl
       have z2 := cell_of HX.out.2 2 _ rfl
       have z3 := cell_of HX.out.2 3 _ rfl
       have z4 := cell_of HX.out.2 4 _ rfl
       have z5 := cell_of HX.out.2 5 _ rfl
       have z6 := cell_of HX.out.2 6 _ rfl
       have z7 := cell_of HX.out.2 7 _ rfl
       have z8 := cell_of HX.out.2 8 _ rfl
       have z9 := cell_of HX.out.2 9 _ rfl
       have z10 := cell_of HX.out.2 10 _ rfl
       refine bodyPost_ret (v := .agg #[.string ⟨nm.toArray⟩, .string ⟨gr.toArray⟩, .int .i64 g, .slice tA ts.length tc, .int .i64 tl, .bool o.circle, .int .i64 o.center.1, .int .i64 o.center.2, .int .i64 o.radius, .slice oA o.steps.length od, .slice hA hs.length hc]) (by simp [results, Tryz.results43, go_sem, z0, z1, z2, z3, z4, z5, z6, z7, z8, z9, z10]) rfl ?_
       exact ⟨⟨nm, gr, g, ts, tl, o, hs.map OutM.o⟩, s102, _, rfl, ⟨⟨nm, gr, g, ts, tA, tc, tl, ⟨o, oA, od⟩, hs, hA, hc⟩, rfl, rfl, (HSM.out.rows.in_ (Nat.le_trans HTL.out (by decide)) (Nat.le_trans HHL.out (by decide))).keep HX.out.1 (RowW.at HSM.out.res (Nat.zero_le _)) (by decide) (by decide) (by decide)⟩, HRN.out, HSM.out.pc.wide HRW.out hlt HX.out.1 (fun k e => by cases e; omega), grown_wide HSM.out.gr HX.out.1 (fun k e => by cases e; omega)⟩
     ·have hl1 : ((6 : Int) < (hs.length : Int)) = False := eq_false (by omega)
      rw [decide_eq_false hl] at HPM HBR
      clear hl
      cases m
      ·skip
       have HPM2 : Hid (Rc (w102.setCell ⟨b, 5, none⟩ (.bool false)) b A c L E s102 (mn || badR ⟨nm, gr, g, ts, tl, o, hs.map OutM.o⟩)) := Lib.hid (by have := HPM.out; rw [HBR.out]; simpa only [Bool.true_or, Bool.false_or, Bool.or_true, Bool.or_false] using this)
       have HSM := Lib.hid (HS102.out.step HPM2.out (grown_set (grown_refl w102 (some b)) 5 (.bool false)))
       have o4 := cell_of HS102.out.obj 10 (.slice hA hs.length hc) rfl
       go_upto_region 30 with fail
       clear o4 cm fm HPM2 HS102 HBR HPM
       generalize (w102.setCell ⟨b, 5, none⟩ (.bool false)) = WM at *
       have x0 := cell_of HSM.out.obj 0 (.string ⟨nm.toArray⟩) rfl
       have z0 := cell_of HSM.out.res 0 _ rfl
       have q0 := free_of HSM.out.res 0
       have x1 := cell_of HSM.out.obj 1 (.string ⟨gr.toArray⟩) rfl
       have z1 := cell_of HSM.out.res 1 _ rfl
       have q1 := free_of HSM.out.res 1
       have x2 := cell_of HSM.out.obj 2 (.int .i64 g) rfl
       have z2 := cell_of HSM.out.res 2 _ rfl
       have q2 := free_of HSM.out.res 2
       have x3 := cell_of HSM.out.obj 3 (.slice tA ts.length tc) rfl
       have z3 := cell_of HSM.out.res 3 _ rfl
       have q3 := free_of HSM.out.res 3
       have x4 := cell_of HSM.out.obj 4 (.int .i64 tl) rfl
       have z4 := cell_of HSM.out.res 4 _ rfl
       have q4 := free_of HSM.out.res 4
       have x5 := cell_of HSM.out.obj 5 (.bool o.circle) rfl
       have z5 := cell_of HSM.out.res 5 _ rfl
       have q5 := free_of HSM.out.res 5
       have x6 := cell_of HSM.out.obj 6 (.int .i64 o.center.1) rfl
       have z6 := cell_of HSM.out.res 6 _ rfl
       have q6 := free_of HSM.out.res 6
       have x7 := cell_of HSM.out.obj 7 (.int .i64 o.center.2) rfl
       have z7 := cell_of HSM.out.res 7 _ rfl
       have q7 := free_of HSM.out.res 7
       have x8 := cell_of HSM.out.obj 8 (.int .i64 o.radius) rfl
       have z8 := cell_of HSM.out.res 8 _ rfl
       have q8 := free_of HSM.out.res 8
       have x9 := cell_of HSM.out.obj 9 (.slice oA o.steps.length od) rfl
       have z9 := cell_of HSM.out.res 9 _ rfl
       have q9 := free_of HSM.out.res 9
       have x10 := cell_of HSM.out.obj 10 (.slice hA hs.length hc) rfl
       have z10 := cell_of HSM.out.res 10 _ rfl
       have q10 := free_of HSM.out.res 10
       have HGF : Hid (WM.grownBy (((((((((((WM.setCell ⟨w.heap.size, 0, none⟩ (.string ⟨nm.toArray⟩)).setCell ⟨w.heap.size, 1, none⟩ (.string ⟨gr.toArray⟩)).setCell ⟨w.heap.size, 2, none⟩ (.int .i64 g)).setCell ⟨w.heap.size, 3, none⟩ (.slice tA ts.length tc)).setCell ⟨w.heap.size, 4, none⟩ (.int .i64 tl)).setCell ⟨w.heap.size, 5, none⟩ (.bool o.circle)).setCell ⟨w.heap.size, 6, none⟩ (.int .i64 o.center.1)).setCell ⟨w.heap.size, 7, none⟩ (.int .i64 o.center.2)).setCell ⟨w.heap.size, 8, none⟩ (.int .i64 o.radius)).setCell ⟨w.heap.size, 9, none⟩ (.slice oA o.steps.length od)).setCell ⟨w.heap.size, 10, none⟩ (.slice hA hs.length hc)) (some w.heap.size)) := Lib.hid (sets_grown [.string ⟨nm.toArray⟩, .string ⟨gr.toArray⟩, .int .i64 g, .slice tA ts.length tc, .int .i64 tl, .bool o.circle, .int .i64 o.center.1, .int .i64 o.center.2, .int .i64 o.radius, .slice oA o.steps.length od, .slice hA hs.length hc] 0 _ _ (grown_refl WM (some w.heap.size)))
       have HWF : Hid ((((((((((((WM.setCell ⟨w.heap.size, 0, none⟩ (.string ⟨nm.toArray⟩)).setCell ⟨w.heap.size, 1, none⟩ (.string ⟨gr.toArray⟩)).setCell ⟨w.heap.size, 2, none⟩ (.int .i64 g)).setCell ⟨w.heap.size, 3, none⟩ (.slice tA ts.length tc)).setCell ⟨w.heap.size, 4, none⟩ (.int .i64 tl)).setCell ⟨w.heap.size, 5, none⟩ (.bool o.circle)).setCell ⟨w.heap.size, 6, none⟩ (.int .i64 o.center.1)).setCell ⟨w.heap.size, 7, none⟩ (.int .i64 o.center.2)).setCell ⟨w.heap.size, 8, none⟩ (.int .i64 o.radius)).setCell ⟨w.heap.size, 9, none⟩ (.slice oA o.steps.length od)).setCell ⟨w.heap.size, 10, none⟩ (.slice hA hs.length hc)).heap[w.heap.size]? = some (.cells #[.string ⟨nm.toArray⟩, .string ⟨gr.toArray⟩, .int .i64 g, .slice tA ts.length tc, .int .i64 tl, .bool o.circle, .int .i64 o.center.1, .int .i64 o.center.2, .int .i64 o.radius, .slice oA o.steps.length od, .slice hA hs.length hc] 41 (0, 0))) := Lib.hid (sets_block [.string ⟨nm.toArray⟩, .string ⟨gr.toArray⟩, .int .i64 g, .slice tA ts.length tc, .int .i64 tl, .bool o.circle, .int .i64 o.center.1, .int .i64 o.center.2, .int .i64 o.radius, .slice oA o.steps.length od, .slice hA hs.length hc] 0 WM [.string ⟨#[]⟩, .string ⟨#[]⟩, .int .i64 0, .slice none 0 0, .int .i64 0, .bool false, .int .i64 0, .int .i64 0, .int .i64 0, .slice none 0 0, .slice none 0 0] HSM.out.res rfl)
       have HX := Lib.hid (And.intro HGF.out HWF.out)
       clear HGF HWF
       go_wp2_with fail
       clear x0 z0 q0 x1 z1 q1 x2 z2 q2 x3 z3 q3 x4 z4 q4 x5 z5 q5 x6 z6 q6 x7 z7 q7 x8 z8 q8 x9 z9 q9 x10 z10 q10
       generalize (((((((((((WM.setCell ⟨w.heap.size, 0, none⟩ (.string ⟨nm.toArray⟩)).setCell ⟨w.heap.size, 1, none⟩ (.string ⟨gr.toArray⟩)).setCell ⟨w.heap.size, 2, none⟩ (.int .i64 g)).setCell ⟨w.heap.size, 3, none⟩ (.slice tA ts.length tc)).setCell ⟨w.heap.size, 4, none⟩ (.int .i64 tl)).setCell ⟨w.heap.size, 5, none⟩ (.bool o.circle)).setCell ⟨w.heap.size, 6, none⟩ (.int .i64 o.center.1)).setCell ⟨w.heap.size, 7, none⟩ (.int .i64 o.center.2)).setCell ⟨w.heap.size, 8, none⟩ (.int .i64 o.radius)).setCell ⟨w.heap.size, 9, none⟩ (.slice oA o.steps.length od)).setCell ⟨w.heap.size, 10, none⟩ (.slice hA hs.length hc)) = WF at HX ⊢
       have z0 := cell_of HX.out.2 0 _ rfl
       have z1 := cell_of HX.out.2 1 _ rfl
       have z2 := cell_of HX.out.2 2 _ rfl
       have z3 := cell_of HX.out.2 3 _ rfl
       have z4 := cell_of HX.out.2 4 _ rfl
       have z5 := cell_of HX.out.2 5 _ rfl
       have z6 := cell_of HX.out.2 6 _ rfl
       have z7 := cell_of HX.out.2 7 _ rfl
       have z8 := cell_of HX.out.2 8 _ rfl
       have z9 := cell_of HX.out.2 9 _ rfl
       have z10 := cell_of HX.out.2 10 _ rfl
       refine bodyPost_ret (v := .agg #[.string ⟨nm.toArray⟩, .string ⟨gr.toArray⟩, .int .i64 g, .slice tA ts.length tc, .int .i64 tl, .bool o.circle, .int .i64 o.center.1, .int .i64 o.center.2, .int .i64 o.radius, .slice oA o.steps.length od, .slice hA hs.length hc]) (by simp [results, Tryz.results43, go_sem, z0, z1, z2, z3, z4, z5, z6, z7, z8, z9, z10]) rfl ?_
       exact ⟨⟨nm, gr, g, ts, tl, o, hs.map OutM.o⟩, s102, _, rfl, ⟨⟨nm, gr, g, ts, tA, tc, tl, ⟨o, oA, od⟩, hs, hA, hc⟩, rfl, rfl, (HSM.out.rows.in_ (Nat.le_trans HTL.out (by decide)) (Nat.le_trans HHL.out (by decide))).keep HX.out.1 (RowW.at HSM.out.res (Nat.zero_le _)) (by decide) (by decide) (by decide)⟩, HRN.out, HSM.out.pc.wide HRW.out hlt HX.out.1 (fun k e => by cases e; omega), grown_wide HSM.out.gr HX.out.1 (fun k e => by cases e; omega)⟩
      ·skip
       have HPM2 : Hid (Rc (w102.setCell ⟨b, 5, none⟩ (.bool true)) b A c L E s102 (mn || badR ⟨nm, gr, g, ts, tl, o, hs.map OutM.o⟩)) := Lib.hid (by have := HPM.out; rw [HBR.out]; simpa only [Bool.true_or, Bool.false_or, Bool.or_true, Bool.or_false] using this)
       have HSM := Lib.hid (HS102.out.step HPM2.out (grown_set (grown_refl w102 (some b)) 5 (.bool true)))
       have o4 := cell_of HS102.out.obj 10 (.slice hA hs.length hc) rfl
       go_upto_region 30 with fail
       clear o4 cm fm HPM2 HS102 HBR HPM
       generalize (w102.setCell ⟨b, 5, none⟩ (.bool true)) = WM at *
       have x0 := cell_of HSM.out.obj 0 (.string ⟨nm.toArray⟩) rfl
       have z0 := cell_of HSM.out.res 0 _ rfl
       have q0 := free_of HSM.out.res 0
       have x1 := cell_of HSM.out.obj 1 (.string ⟨gr.toArray⟩) rfl
       have z1 := cell_of HSM.out.res 1 _ rfl
       have q1 := free_of HSM.out.res 1
       have x2 := cell_of HSM.out.obj 2 (.int .i64 g) rfl
       have z2 := cell_of HSM.out.res 2 _ rfl
       have q2 := free_of HSM.out.res 2
       have x3 := cell_of HSM.out.obj 3 (.slice tA ts.length tc) rfl
       have z3 := cell_of HSM.out.res 3 _ rfl
       have q3 := free_of HSM.out.res 3
       have x4 := cell_of HSM.out.obj 4 (.int .i64 tl) rfl
       have z4 := cell_of HSM.out.res 4 _ rfl
       have q4 := free_of HSM.out.res 4
       have x5 := cell_of HSM.out.obj 5 (.bool o.circle) rfl
       have z5 := cell_of HSM.out.res 5 _ rfl
       have q5 := free_of HSM.out.res 5
       have x6 := cell_of HSM.out.obj 6 (.int .i64 o.center.1) rfl
       have z6 := cell_of HSM.out.res 6 _ rfl
       have q6 := free_of HSM.out.res 6
       have x7 := cell_of HSM.out.obj 7 (.int .i64 o.center.2) rfl
       have z7 := cell_of HSM.out.res 7 _ rfl
       have q7 := free_of HSM.out.res 7
       have x8 := cell_of HSM.out.obj 8 (.int .i64 o.radius) rfl
       have z8 := cell_of HSM.out.res 8 _ rfl
       have q8 := free_of HSM.out.res 8
       have x9 := cell_of HSM.out.obj 9 (.slice oA o.steps.length od) rfl
       have z9 := cell_of HSM.out.res 9 _ rfl
       have q9 := free_of HSM.out.res 9
       have x10 := cell_of HSM.out.obj 10 (.slice hA hs.length hc) rfl
       have z10 := cell_of HSM.out.res 10 _ rfl
       have q10 := free_of HSM.out.res 10
       have HGF : Hid (WM.grownBy (((((((((((WM.setCell ⟨w.heap.size, 0, none⟩ (.string ⟨nm.toArray⟩)).setCell ⟨w.heap.size, 1, none⟩ (.string ⟨gr.toArray⟩)).setCell ⟨w.heap.size, 2, none⟩ (.int .i64 g)).setCell ⟨w.heap.size, 3, none⟩ (.slice tA ts.length tc)).setCell ⟨w.heap.size, 4, none⟩ (.int .i64 tl)).setCell ⟨w.heap.size, 5, none⟩ (.bool o.circle)).setCell ⟨w.heap.size, 6, none⟩ (.int .i64 o.center.1)).setCell ⟨w.heap.size, 7, none⟩ (.int .i64 o.center.2)).setCell ⟨w.heap.size, 8, none⟩ (.int .i64 o.radius)).setCell ⟨w.heap.size, 9, none⟩ (.slice oA o.steps.length od)).setCell ⟨w.heap.size, 10, none⟩ (.slice hA hs.length hc)) (some w.heap.size)) := Lib.hid (sets_grown [.string ⟨nm.toArray⟩, .string ⟨gr.toArray⟩, .int .i64 g, .slice tA ts.length tc, .int .i64 tl, .bool o.circle, .int .i64 o.center.1, .int .i64 o.center.2, .int .i64 o.radius, .slice oA o.steps.length od, .slice hA hs.length hc] 0 _ _ (grown_refl WM (some w.heap.size)))
       have HWF : Hid ((((((((((((WM.setCell ⟨w.heap.size, 0, none⟩ (.string ⟨nm.toArray⟩)).setCell ⟨w.heap.size, 1, none⟩ (.string ⟨gr.toArray⟩)).setCell ⟨w.heap.size, 2, none⟩ (.int .i64 g)).setCell ⟨w.heap.size, 3, none⟩ (.slice tA ts.length tc)).setCell ⟨w.heap.size, 4, none⟩ (.int .i64 tl)).setCell ⟨w.heap.size, 5, none⟩ (.bool o.circle)).setCell ⟨w.heap.size, 6, none⟩ (.int .i64 o.center.1)).setCell ⟨w.heap.size, 7, none⟩ (.int .i64 o.center.2)).setCell ⟨w.heap.size, 8, none⟩ (.int .i64 o.radius)).setCell ⟨w.heap.size, 9, none⟩ (.slice oA o.steps.length od)).setCell ⟨w.heap.size, 10, none⟩ (.slice hA hs.length hc)).heap[w.heap.size]? = some (.cells #[.string ⟨nm.toArray⟩, .string ⟨gr.toArray⟩, .int .i64 g, .slice tA ts.length tc, .int .i64 tl, .bool o.circle, .int .i64 o.center.1, .int .i64 o.center.2, .int .i64 o.radius, .slice oA o.steps.length od, .slice hA hs.length hc] 41 (0, 0))) := Lib.hid (sets_block [.string ⟨nm.toArray⟩, .string ⟨gr.toArray⟩, .int .i64 g, .slice tA ts.length tc, .int .i64 tl, .bool o.circle, .int .i64 o.center.1, .int .i64 o.center.2, .int .i64 o.radius, .slice oA o.steps.length od, .slice hA hs.length hc] 0 WM [.string ⟨#[]⟩, .string ⟨#[]⟩, .int .i64 0, .slice none 0 0, .int .i64 0, .bool false, .int .i64 0, .int .i64 0, .int .i64 0, .slice none 0 0, .slice none 0 0] HSM.out.res rfl)
       have HX := Lib.hid (And.intro HGF.out HWF.out)
       clear HGF HWF
       go_wp2_with fail
       clear x0 z0 q0 x1 z1 q1 x2 z2 q2 x3 z3 q3 x4 z4 q4 x5 z5 q5 x6 z6 q6 x7 z7 q7 x8 z8 q8 x9 z9 q9 x10 z10 q10
       generalize (((((((((((WM.setCell ⟨w.heap.size, 0, none⟩ (.string ⟨nm.toArray⟩)).setCell ⟨w.heap.size, 1, none⟩ (.string ⟨gr.toArray⟩)).setCell ⟨w.heap.size, 2, none⟩ (.int .i64 g)).setCell ⟨w.heap.size, 3, none⟩ (.slice tA ts.length tc)).setCell ⟨w.heap.size, 4, none⟩ (.int .i64 tl)).setCell ⟨w.heap.size, 5, none⟩ (.bool o.circle)).setCell ⟨w.heap.size, 6, none⟩ (.int .i64 o.center.1)).setCell ⟨w.heap.size, 7, none⟩ (.int .i64 o.center.2)).setCell ⟨w.heap.size, 8, none⟩ (.int .i64 o.radius)).setCell ⟨w.heap.size, 9, none⟩ (.slice oA o.steps.length od)).setCell ⟨w.heap.size, 10, none⟩ (.slice hA hs.length hc)) = WF at HX ⊢
       have z0 := cell_of HX.out.2 0 _ rfl
       have z1 := cell_of HX.out.2 1 _ rfl
       have z2 := cell_of HX.out.2 2 _ rfl
       have z3 := cell_of HX.out.2 3 _ rfl
       have z4 := cell_of HX.out.2 4 _ rfl
       have z5 := cell_of HX.out.2 5 _ rfl
       have z6 := cell_of HX.out.2 6 _ rfl
       have z7 := cell_of HX.out.2 7 _ rfl
       have z8 := cell_of HX.out.2 8 _ rfl
       have z9 := cell_of HX.out.2 9 _ rfl
       have z10 := cell_of HX.out.2 10 _ rfl
       refine bodyPost_ret (v := .agg #[.string ⟨nm.toArray⟩, .string ⟨gr.toArray⟩, .int .i64 g, .slice tA ts.length tc, .int .i64 tl, .bool o.circle, .int .i64 o.center.1, .int .i64 o.center.2, .int .i64 o.radius, .slice oA o.steps.length od, .slice hA hs.length hc]) (by simp [results, Tryz.results43, go_sem, z0, z1, z2, z3, z4, z5, z6, z7, z8, z9, z10]) rfl ?_
       exact ⟨⟨nm, gr, g, ts, tl, o, hs.map OutM.o⟩, s102, _, rfl, ⟨⟨nm, gr, g, ts, tA, tc, tl, ⟨o, oA, od⟩, hs, hA, hc⟩, rfl, rfl, (HSM.out.rows.in_ (Nat.le_trans HTL.out (by decide)) (Nat.le_trans HHL.out (by decide))).keep HX.out.1 (RowW.at HSM.out.res (Nat.zero_le _)) (by decide) (by decide) (by decide)⟩, HRN.out, HSM.out.pc.wide HRW.out hlt HX.out.1 (fun k e => by cases e; omega), grown_wide HSM.out.gr HX.out.1 (fun k e => by cases e; omega)⟩
    ·skip
     obtain ⟨j, rfl, hjt⟩ := isS_ok hq
     have HJT := Lib.hid hjt
     clear hjt
     rcases gk with _ | f
     ·exfalso
      have h1 : L.length < 0 + j := hfu
      have h2 : j ≤ L.length := HS.out.pc.fits
      omega
     have HFU0 : Hid (L.length < (f + 1) + j) := Lib.hid hfu
     have HAF : Hid (hs.length + (f + 1) ≤ 20002) := Lib.hid haf
     clear hfu haf
     have HE81 : Hid (Calls Tryz.prog 92 #[.pointer (some ⟨b, 0, none⟩), .string ⟨#[104, 111, 108, 101]⟩] wr fun e w' => e = .returned (.bool true) ∧ Rc w' b A c L E (.ok (j + 1)) ((mn || long o) || (hs.any fun h => long h.o)) ∧ (wr).grownBy w' (some b)) := Lib.hid (by
      have := raccept_any kHole b A c L E ((mn || long o) || (hs.any fun h => long h.o)) (.ok j) wr HS.out.pc
      rw [hq] at this
      exact this)
     go_wp2_with fail
     refine HE81.out.mono ?_
     rintro e w81 ⟨rfl, hp, hg⟩
     have HS81 := Lib.hid (HS.out.step hp hg)
     clear HS HE81
     clear hp hg
     clear hq
     have HSD := Lib.hid (HS81.out.below (show Below _ w81 w81.drew from below_drewN (Below.refl _ _) 1))
     have HNB := Lib.hid (routline_any b A c L E ((mn || long o) || (hs.any fun h => long h.o)) (.ok (j + 1)) w81.drew HSD.out.pc)
     have x3 : w81.drew.cell? ⟨xb, 10, none⟩ = some (.slice hA hs.length hc) := cell_of HSD.out.obj 10 _ rfl
     clear HS81
     go_upto_region 26 with fail
     refine wp_region_tillK (k := 7) (S1 := fun w' => True) (S2 := fun w' => w'.cell? ⟨xb, 10, none⟩ = some (.slice hA hs.length hc)) (by kernel_rfl) ?_ (fun hHeld => ?_)
     ·exact ⟨trivial, x3⟩
     refine wpAnyK_take (i := 0) (oi := { dst := some 77, op := Op.fieldAddr 41 (Operand.tmp 3) 6, type := 0, pos := "ref.go:175", after := #[], guard := none }) (v := ?_) rfl (by kernel_rfl) (by kernel_rfl) (by kernel_rfl) (by kernel_rfl) (fun _ _ _ h => h) (Or.inl ⟨by rfl, ?_⟩) (by assumption) ?_
     rotate_left
     ·intro w' hSw
      (try dsimp only at hSw)
      first | (go_simp; done) | (go_simp; with_reducible rfl)
     try simp only [Act.put, List.setIfInBounds_toArray, List.set_cons_zero, List.set_cons_succ]
     refine wpAnyK_take (i := 1) (oi := { dst := some 78, op := Op.load 39 (Operand.tmp 77), type := 39, pos := "ref.go:175", after := #[{ on := 0, ground := Ground.data }], guard := none }) (v := ?_) rfl (by kernel_rfl) (by kernel_rfl) (by kernel_rfl) (by kernel_rfl) (fun _ _ _ h => h) (Or.inl ⟨by rfl, ?_⟩) (by assumption) ?_
     rotate_left
     ·intro w' hSw
      (try dsimp only at hSw)
      first | (go_simp; done) | (go_simp; with_reducible rfl)
     try simp only [Act.put, List.setIfInBounds_toArray, List.set_cons_zero, List.set_cons_succ]
     refine wpAnyK_take (i := 2) (oi := { dst := some 79, op := Op.move (Operand.tmp 0), type := 98, pos := "ref.go:175", after := #[], guard := none }) (v := ?_) rfl (by kernel_rfl) (by kernel_rfl) (by kernel_rfl) (by kernel_rfl) (fun _ _ _ h => h) (Or.inl ⟨by rfl, ?_⟩) (by assumption) ?_
     rotate_left
     ·intro w' hSw
      (try dsimp only at hSw)
      first | (go_simp; done) | (go_simp; with_reducible rfl)
     try simp only [Act.put, List.setIfInBounds_toArray, List.set_cons_zero, List.set_cons_succ]
     refine wpAnyK_one (i := 3) (o := { dst := some 80, op := Op.call { callee := Callee.value (Operand.func 95), args := #[Operand.tmp 79], argTypes := #[98] }, type := 38, pos := "ref.go:175", after := #[{ on := 2, ground := Ground.data }], guard := none }) (by kernel_rfl) rfl (fun K hK => ?_)
     go_simp
     go_at_call 95
     refine HNB.out.mono ?_
     rintro e w81 ⟨p, s81, _, rfl, ⟨pA, pd, rfl, hat, hod, hol⟩, hran, hp, hg⟩
     have HOIp : Hid (OutIn 140 0 w81 (⟨p, pA, pd⟩ : OutM)) := Lib.hid ⟨hat, hod, Nat.le_trans hol (by decide)⟩
     have HS81 := Lib.hid (HSD.out.step hp hg)
     have HRO81 := Lib.hid hran
     clear hat hod hol hran hp hg x3
     unfold outV
     have x3 : w81.cell? ⟨xb, 10, none⟩ = some (.slice hA hs.length hc) := cell_of HS81.out.obj 10 _ rfl
     refine hK.out _ _ ?_ (fun _ => ?_) (fun hHeld => ?_)
     ·trivial
     ·exact x3
     replace hHeld := And.intro hHeld.1 (hHeld.2 (by decide))
     clear hK K
     try simp only [Act.put, List.setIfInBounds_toArray, List.set_cons_zero, List.set_cons_succ]
     refine wpAnyK_one (i := 4) (o := { dst := some 81, op := Op.buildSlice 39 1 #[(0, Operand.tmp 80)], type := 39, pos := "ref.go:175", after := #[{ on := 3, ground := Ground.data }], guard := none }) (by kernel_rfl) rfl (fun K hK => ?_)
     go_simp
     have HS82 := Lib.hid (HS81.out.below (bel1 w81 (.cells #[.bool p.circle, .int .i64 p.center.1, .int .i64 p.center.2, .int .i64 p.radius, .slice pA p.steps.length pd] 38)))
     have HOI2 := Lib.hid (HOIp.out.below (bel1 w81 (.cells #[.bool p.circle, .int .i64 p.center.1, .int .i64 p.center.2, .int .i64 p.radius, .slice pA p.steps.length pd] 38)))
     have HNW := Lib.hid (newN_row w81 [.bool p.circle, .int .i64 p.center.1, .int .i64 p.center.2, .int .i64 p.radius, .slice pA p.steps.length pd] 38)
     have z3 : (w81.alloc (.cells #[.bool p.circle, .int .i64 p.center.1, .int .i64 p.center.2, .int .i64 p.radius, .slice pA p.steps.length pd] 38)).cell? ⟨xb, 10, none⟩ = some (.slice hA hs.length hc) := cell_of HS82.out.obj 10 _ rfl
     have HO82 : Hid ((w81.alloc (.cells #[.bool p.circle, .int .i64 p.center.1, .int .i64 p.center.2, .int .i64 p.radius, .slice pA p.steps.length pd] 38)).ownsRow (w.heap.size + 1) 38 5 (.slice hA hs.length hc) hs.length (hs.flatMap outCells)) := Lib.hid HS82.out.rows.2.1
     have C3 : Hid (hs.length + 1 ≤ maxLen ∧ (hs.length + 1) * 56 ≤ 140737488355328) := Lib.hid (by have := HAF.out; unfold maxLen; omega)
     have C5 : Hid (w.heap.size + 1 ≤ (w81.alloc (.cells #[.bool p.circle, .int .i64 p.center.1, .int .i64 p.center.2, .int .i64 p.radius, .slice pA p.steps.length pd] 38)).heap.size) := Lib.hid (by have := blk_lt HS82.out.res; omega)
     refine hK.out _ _ ?_ (fun _ => ?_) (fun hHeld => ?_)
     ·trivial
     ·exact z3
     replace hHeld := And.intro hHeld.1 (hHeld.2 (by decide))
     clear hK K
     try simp only [Act.put, List.setIfInBounds_toArray, List.set_cons_zero, List.set_cons_succ]
     refine wpAnyK_one (i := 5) (o := { dst := some 82, op := Op.call { callee := Callee.builtin Builtin.append, args := #[Operand.tmp 78, Operand.tmp 81], argTypes := #[39, 39] }, type := 39, pos := "ref.go:175", after := #[{ on := 1, ground := Ground.data }, { on := 4, ground := Ground.data }, { on := 3, ground := Ground.chain }], guard := none }) (by kernel_rfl) rfl (fun K hK => ?_)
     refine step_append_row (by rfl) _ _ _ (by rfl) (w.heap.size + 1) 38 i0 _ 5 56 Tryz.underlying39 ia ib ic id rfl (by omega) (.slice hA hs.length hc) hs.length (hs.flatMap outCells) (by rfl) HO82.out (some ⟨w81.heap.size, 0, none⟩) 1 1 [.bool p.circle, .int .i64 p.center.1, .int .i64 p.center.2, .int .i64 p.radius, .slice pA p.steps.length pd] (by rfl) HNW.out rfl (by intro uu hu; simp at hu; rcases hu with rfl | rfl | rfl | rfl | rfl <;> rfl) C3.out.1 C3.out.2 C5.out ?_
     intro v5 w5 hown5 hg5
     obtain ⟨B5, d5, rfl, _⟩ := own_shape hown5
     have HP5 : Hid (RSt w (w5.setCell ⟨xb, 10, none⟩ (.slice B5 (hs.length + 1) d5)) xb b A c L E s81 (((mn || long o) || (hs.any fun h => long h.o)) || long p) ⟨nm, gr, g, ts, tA, tc, tl, ⟨o, oA, od⟩, (hs ++ [(⟨p, pA, pd⟩ : OutM)]), B5, d5⟩) := Lib.hid (RSt.pushH (x := (⟨p, pA, pd⟩ : OutM)) (B' := B5) (d' := d5) HS82.out HOI2.out (w5 := w5) hown5 hg5)
     have HO5 := Lib.hid (heap_keep hg5 ((RowW.own HO82.out).mono (Nat.zero_le _)) (by decide) HS82.out.obj)
     have y5 : w5.cell? ⟨xb, 10, none⟩ = some (.slice hA hs.length hc) := cell_of HO5.out 10 _ rfl
     have q5 := free_of HO5.out 10
     clear hown5 hg5 z3
     refine hK.out _ _ ?_ (fun _ => ?_) (fun hHeld => ?_)
     ·trivial
     ·exact y5
     replace hHeld := And.intro hHeld.1 (hHeld.2 (by decide))
     clear hK K
     try simp only [Act.put, List.setIfInBounds_toArray, List.set_cons_zero, List.set_cons_succ]
     refine wpAnyK_one (i := 6) (o := { dst := some 83, op := Op.fieldAddr 41 (Operand.tmp 3) 6, type := 0, pos := "ref.go:175", after := #[{ on := 0, ground := Ground.phase }, { on := 1, ground := Ground.phase }, { on := 2, ground := Ground.phase }, { on := 3, ground := Ground.phase }, { on := 4, ground := Ground.phase }, { on := 5, ground := Ground.phase }], guard := none }) (by kernel_rfl) rfl (fun K hK => ?_)
     go_simp
     refine hK.out _ _ ?_ (fun _ => ?_) (fun hHeld => ?_)
     ·trivial
     ·exact y5
     replace hHeld := And.intro hHeld.1 (hHeld.2 (by decide))
     clear hK K
     try simp only [Act.put, List.setIfInBounds_toArray, List.set_cons_zero, List.set_cons_succ]
     refine wpAnyK_one (i := 7) (o := { dst := none, op := Op.store 39 (Operand.tmp 83) (Operand.tmp 82), type := 0, pos := "ref.go:175", after := #[{ on := 6, ground := Ground.data }, { on := 5, ground := Ground.data }, { on := 5, ground := Ground.chain }, { on := 0, ground := Ground.phase }, { on := 1, ground := Ground.phase }, { on := 2, ground := Ground.phase }, { on := 3, ground := Ground.phase }, { on := 4, ground := Ground.phase }, { on := 5, ground := Ground.phase }], guard := none }) (by kernel_rfl) rfl (fun K hK => ?_)
     go_simp
     refine hK.out _ _ ?_ (fun hne => ?_) (fun hHeld => ?_)
     ·trivial
     ·exact absurd rfl hne
     clear hK K
     try simp only [Act.put, List.setIfInBounds_toArray, List.set_cons_zero, List.set_cons_succ]
     refine wpAnyK_done (by kernel_rfl) ?_ _
     go_upto_region 27 with fail
     clear y5 q5 HO5 HO82 HNW HS82 HOI2 HS81 HOIp HSD HNB C5
     generalize w5.setCell ⟨xb, 10, none⟩ (.slice B5 (hs.length + 1) d5) = W8 at *
     have HE91 : Hid (Calls Tryz.prog 90 #[.pointer (some ⟨b, 0, none⟩), .string ⟨#[59]⟩] W8 (RRes (fun _ => .tuple #[]) (need kSemi) W8 b A c L E (((mn || long o) || (hs.any fun h => long h.o)) || long p) s81)) := Lib.hid (rneed_any kSemi b A c L E (((mn || long o) || (hs.any fun h => long h.o)) || long p) s81 W8 HP5.out.pc)
     go_wp2_with fail
     refine HE91.out.mono ?_
     rintro e w91 ⟨_, s91, rfl, hran, hp, hg⟩
     have HROU := Lib.hid (outline_ran HFEW.out HRO81.out hran)
     have HKn : Hid (Goes (bnd (holesO f ((hs ++ [(⟨p, pA, pd⟩ : OutM)]).map OutM.o)) (srcH nm gr g ts tl o)) L E s91 sourceO st) := Lib.hid (by rw [List.map_append]; exact HK.out.holes_more HJT.out HROU.out)
     have HFU := Lib.hid (HROU.out.fuel0 (f := f) good_outline.1 (by have := HFU0.out; omega))
     clear HK HRO81 HROU
     have HS91 := Lib.hid (HP5.out.step hp hg)
     clear HP5 HE91
     clear hran hp hg
     have HSx : Hid (RSt w w91 xb b A c L E s91 ((mn || long o) || ((hs ++ [(⟨p, pA, pd⟩ : OutM)]).any fun h => long h.o)) ⟨nm, gr, g, ts, tA, tc, tl, ⟨o, oA, od⟩, (hs ++ [(⟨p, pA, pd⟩ : OutM)]), B5, d5⟩) := Lib.hid (by have := HS91.out; rw [show ((mn || long o) || ((hs ++ [(⟨p, pA, pd⟩ : OutM)]).any fun h => long h.o)) = (((mn || long o) || (hs.any fun h => long h.o)) || long p) by simp [List.any_append, Bool.or_assoc]]; exact this)
     clear HS91
     go_wp2_with fail
     go_roundg f
     case measure => omega
     case rel => exact ⟨hs ++ [(⟨p, pA, pd⟩ : OutM)], s91, B5, d5, HKn, HFU.out, by rw [List.length_append]; simp only [List.length_singleton]; have := HAF.out; omega, HSx⟩
  ·skip
   obtain ⟨j, rfl, hjt⟩ := isS_ok hq
   have HJT := Lib.hid hjt
   obtain ⟨n, u, hlast⟩ := HL.out j rfl
   have HLI := Lib.hid hlast
   clear hjt hlast HL
   rcases gk with _ | f
   ·exfalso
    have h1 : L.length < 0 + j := hfu
    have h2 : j ≤ L.length := HS.out.pc.fits
    omega
   have HFU0 : Hid (L.length < (f + 1) + j) := Lib.hid hfu
   have HAF : Hid (ts.length + (f + 1) ≤ 20002) := Lib.hid haf
   clear hfu haf
   have HE31 : Hid (Calls Tryz.prog 92 #[.pointer (some ⟨b, 0, none⟩), .string ⟨#[44]⟩] wr fun e w' => e = .returned (.bool true) ∧ Rc w' b A c L E (.ok (j + 1)) mn ∧ (wr).grownBy w' (some b)) := Lib.hid (by
    have := raccept_any kComma b A c L E mn (.ok j) wr HS.out.pc
    rw [hq] at this
    exact this)
   go_wp2_with fail
   refine HE31.out.mono ?_
   rintro e w31 ⟨rfl, hp, hg⟩
   have HS31 := Lib.hid (HS.out.step hp hg)
   clear HS HE31
   clear hp hg
   clear hq
   have HSD := Lib.hid (HS31.out.below (show Below _ w31 w31.drew from below_drewN (Below.refl _ _) 1))
   have elen : Hid (ts.length = n + 1) := Lib.hid HLI.out.1
   have HOW : Hid (w31.drew.ownsRow (w.heap.size + 1) 3 1 (.slice tA ts.length tc) ts.length (ts.map (Value.int .i64))) := Lib.hid HSD.out.rows.1
   obtain ⟨tg, tc2, eta, htc, htg, htl, hcell⟩ : ∃ tg tc2, tA = some ⟨tg, 0, none⟩ ∧ tc2 = tc ∧ tg < w31.drew.heap.size ∧ n < ts.length ∧ w31.drew.cell? ⟨tg, n, none⟩ = some (.int .i64 u) := by
    have h1 := HOW.out
    have h2 := elen.out
    rcases h1.2 with ⟨h3, _⟩ | ⟨tg, cap, cur, hv, hb, hh, hn', hc, hs, ht⟩
    ·injection h3 with _ h4 _
     omega
    ·injection hv with e1 e2 e3
     refine ⟨tg, cap, e1, e3.symm, blk_lt hh, by omega, ?_⟩
     have hv2 : (Value.slice tA ts.length tc) = .slice (some ⟨tg, 0, none⟩) ts.length tc := by rw [e1]
     have h5 : w31.drew.ownsRow (w.heap.size + 1) 3 1 (.slice (some ⟨tg, 0, none⟩) ts.length tc) ts.length (ts.map (Value.int .i64)) := by rw [← hv2]; exact h1
     have h6 := h5.cellAt n (by omega)
     rw [h6, List.getElem?_map, HLI.out.2.2.1]
     rfl
   subst eta htc
   have HNB := Lib.hid (rnumber_any (u + 1) 7 b A c L E mn (.ok (j + 1)) w31.drew HSD.out.pc)
   have hu0 := HLI.out.2.2.2.1
   have hu7 := HLI.out.2.2.2.2
   have hx0 : IntKind.i64.wrap ((n : Int) + 1 - 1) = (n : Int) := by have := HAF.out; have := elen.out; rw [wrapEq]; unfold wrap64; omega
   have hx9 : IntKind.i64.wrap (n : Int) = (n : Int) := by have := HAF.out; have := elen.out; rw [wrapEq]; unfold wrap64; omega
   have hx1 : (n : Int) < (n : Int) + 1 := by omega
   have hx2 : (0 : Int) ≤ (n : Int) := by omega
   have hx3 : IntKind.i64.wrap (u + 1) = u + 1 := by rw [wrapEq]; unfold wrap64; omega
   have x3 : w31.drew.cell? ⟨xb, 3, none⟩ = some (.slice (some ⟨tg, 0, none⟩) (n + 1) tc2) := by
    have := cell_of HSD.out.obj 3 (.slice (some ⟨tg, 0, none⟩) ts.length tc2) rfl
    rw [elen.out] at this
    exact this
   clear hu0 hu7 HS31
   go_upto_region 17 with fail
   refine wp_region_tillK (k := 16) (S1 := fun w' => True) (S2 := fun w' => w'.cell? ⟨xb, 3, none⟩ = some (.slice (some ⟨tg, 0, none⟩) (n + 1) tc2)) (by kernel_rfl) ?_ (fun hHeld => ?_)
   ·exact ⟨trivial, x3⟩
   refine wpAnyK_take (i := 0) (oi := { dst := some 43, op := Op.fieldAddr 41 (Operand.tmp 3) 3, type := 0, pos := "ref.go:164", after := #[], guard := none }) (v := ?_) rfl (by kernel_rfl) (by kernel_rfl) (by kernel_rfl) (by kernel_rfl) (fun _ _ _ h => h) (Or.inl ⟨by rfl, ?_⟩) (by assumption) ?_
   rotate_left
   ·intro w' hSw
    (try dsimp only at hSw)
    first | (go_simp; done) | (go_simp; with_reducible rfl)
   try simp only [Act.put, List.setIfInBounds_toArray, List.set_cons_zero, List.set_cons_succ]
   refine wpAnyK_take (i := 1) (oi := { dst := some 44, op := Op.load 33 (Operand.tmp 43), type := 33, pos := "ref.go:164", after := #[{ on := 0, ground := Ground.data }], guard := none }) (v := ?_) rfl (by kernel_rfl) (by kernel_rfl) (by kernel_rfl) (by kernel_rfl) (fun _ _ _ h => h) (Or.inl ⟨by rfl, ?_⟩) (by assumption) ?_
   rotate_left
   ·intro w' hSw
    (try dsimp only at hSw)
    first | (go_simp; done) | (go_simp; with_reducible rfl)
   try simp only [Act.put, List.setIfInBounds_toArray, List.set_cons_zero, List.set_cons_succ]
   refine wpAnyK_take (i := 2) (oi := { dst := some 45, op := Op.move (Operand.tmp 0), type := 98, pos := "ref.go:164", after := #[], guard := none }) (v := ?_) rfl (by kernel_rfl) (by kernel_rfl) (by kernel_rfl) (by kernel_rfl) (fun _ _ _ h => h) (Or.inl ⟨by rfl, ?_⟩) (by assumption) ?_
   rotate_left
   ·intro w' hSw
    (try dsimp only at hSw)
    first | (go_simp; done) | (go_simp; with_reducible rfl)
   try simp only [Act.put, List.setIfInBounds_toArray, List.set_cons_zero, List.set_cons_succ]
   refine wpAnyK_take (i := 3) (oi := { dst := some 46, op := Op.fieldAddr 41 (Operand.tmp 3) 3, type := 0, pos := "ref.go:164", after := #[], guard := none }) (v := ?_) rfl (by kernel_rfl) (by kernel_rfl) (by kernel_rfl) (by kernel_rfl) (fun _ _ _ h => h) (Or.inl ⟨by rfl, ?_⟩) (by assumption) ?_
   rotate_left
   ·intro w' hSw
    (try dsimp only at hSw)
    first | (go_simp; done) | (go_simp; with_reducible rfl)
   try simp only [Act.put, List.setIfInBounds_toArray, List.set_cons_zero, List.set_cons_succ]
   refine wpAnyK_take (i := 4) (oi := { dst := some 47, op := Op.load 33 (Operand.tmp 46), type := 33, pos := "ref.go:164", after := #[{ on := 3, ground := Ground.data }], guard := none }) (v := ?_) rfl (by kernel_rfl) (by kernel_rfl) (by kernel_rfl) (by kernel_rfl) (fun _ _ _ h => h) (Or.inl ⟨by rfl, ?_⟩) (by assumption) ?_
   rotate_left
   ·intro w' hSw
    (try dsimp only at hSw)
    first | (go_simp; done) | (go_simp; with_reducible rfl)
   try simp only [Act.put, List.setIfInBounds_toArray, List.set_cons_zero, List.set_cons_succ]
   refine wpAnyK_take (i := 5) (oi := { dst := some 48, op := Op.fieldAddr 41 (Operand.tmp 3) 3, type := 0, pos := "ref.go:164", after := #[], guard := none }) (v := ?_) rfl (by kernel_rfl) (by kernel_rfl) (by kernel_rfl) (by kernel_rfl) (fun _ _ _ h => h) (Or.inl ⟨by rfl, ?_⟩) (by assumption) ?_
   rotate_left
   ·intro w' hSw
    (try dsimp only at hSw)
    first | (go_simp; done) | (go_simp; with_reducible rfl)
   try simp only [Act.put, List.setIfInBounds_toArray, List.set_cons_zero, List.set_cons_succ]
   refine wpAnyK_take (i := 6) (oi := { dst := some 49, op := Op.load 33 (Operand.tmp 48), type := 33, pos := "ref.go:164", after := #[{ on := 5, ground := Ground.data }], guard := none }) (v := ?_) rfl (by kernel_rfl) (by kernel_rfl) (by kernel_rfl) (by kernel_rfl) (fun _ _ _ h => h) (Or.inl ⟨by rfl, ?_⟩) (by assumption) ?_
   rotate_left
   ·intro w' hSw
    (try dsimp only at hSw)
    first | (go_simp; done) | (go_simp; with_reducible rfl)
   try simp only [Act.put, List.setIfInBounds_toArray, List.set_cons_zero, List.set_cons_succ]
   refine wpAnyK_take (i := 7) (oi := { dst := some 50, op := Op.call { callee := Callee.builtin Builtin.len, args := #[Operand.tmp 49], argTypes := #[33] }, type := 3, pos := "ref.go:164", after := #[{ on := 6, ground := Ground.data }], guard := none }) (v := ?_) rfl (by kernel_rfl) (by kernel_rfl) (by kernel_rfl) (by kernel_rfl) (fun _ _ _ h => h) (Or.inl ⟨by rfl, ?_⟩) (by assumption) ?_
   rotate_left
   ·intro w' hSw
    (try dsimp only at hSw)
    first | (go_simp; done) | (go_simp; with_reducible rfl)
   try simp only [Act.put, List.setIfInBounds_toArray, List.set_cons_zero, List.set_cons_succ]
   refine wpAnyK_take (i := 8) (oi := { dst := some 51, op := Op.binOp BinOp.sub 3 (Operand.tmp 50) (Operand.const (Value.int IntKind.i64 1)) 3, type := 3, pos := "ref.go:164", after := #[{ on := 7, ground := Ground.data }], guard := none }) (v := ?_) rfl (by kernel_rfl) (by kernel_rfl) (by kernel_rfl) (by kernel_rfl) (fun _ _ _ h => h) (Or.inl ⟨by rfl, ?_⟩) (by assumption) ?_
   rotate_left
   ·intro w' hSw
    (try dsimp only at hSw)
    first | (go_simp; done) | (go_simp; with_reducible rfl)
   try simp only [Act.put, List.setIfInBounds_toArray, List.set_cons_zero, List.set_cons_succ]
   refine wpAnyK_take (i := 9) (oi := { dst := some 52, op := Op.indexAddr 33 (Operand.tmp 47) (Operand.tmp 51), type := 0, pos := "ref.go:164", after := #[{ on := 4, ground := Ground.data }, { on := 8, ground := Ground.data }], guard := none }) (v := ?_) rfl (by kernel_rfl) (by kernel_rfl) (by kernel_rfl) (by kernel_rfl) (fun _ _ _ h => h) (Or.inl ⟨by rfl, ?_⟩) (by assumption) ?_
   rotate_left
   ·intro w' hSw
    (try dsimp only at hSw)
    first | (go_simp; done) | (go_simp; with_reducible rfl)
   try simp only [Act.put, List.setIfInBounds_toArray, List.set_cons_zero, List.set_cons_succ]
   refine wpAnyK_one (i := 10) (o := { dst := some 53, op := Op.load 3 (Operand.tmp 52), type := 3, pos := "ref.go:164", after := #[{ on := 9, ground := Ground.data }], guard := none }) (by kernel_rfl) rfl (fun K hK => ?_)
   go_simp
   refine hK.out _ _ ?_ (fun _ => ?_) (fun hHeld => ?_)
   ·trivial
   ·exact x3
   replace hHeld := And.intro hHeld.1 (hHeld.2 (by decide))
   clear hK K
   try simp only [Act.put, List.setIfInBounds_toArray, List.set_cons_zero, List.set_cons_succ]
   refine wpAnyK_take (i := 11) (oi := { dst := some 54, op := Op.binOp BinOp.add 3 (Operand.tmp 53) (Operand.const (Value.int IntKind.i64 1)) 3, type := 3, pos := "ref.go:164", after := #[{ on := 10, ground := Ground.data }], guard := none }) (v := ?_) rfl (by kernel_rfl) (by kernel_rfl) (by kernel_rfl) (by kernel_rfl) (fun _ _ _ h => h) (Or.inl ⟨by rfl, ?_⟩) (by assumption) ?_
   rotate_left
   ·intro w' hSw
    (try dsimp only at hSw)
    first | (go_simp; done) | (go_simp; with_reducible rfl)
   try simp only [Act.put, List.setIfInBounds_toArray, List.set_cons_zero, List.set_cons_succ]
   refine wpAnyK_one (i := 12) (o := { dst := some 55, op := Op.call { callee := Callee.value (Operand.func 94), args := #[Operand.tmp 45, Operand.tmp 54, Operand.const (Value.int IntKind.i64 7)], argTypes := #[98, 3, 3] }, type := 3, pos := "ref.go:164", after := #[{ on := 2, ground := Ground.data }, { on := 11, ground := Ground.data }], guard := none }) (by kernel_rfl) rfl (fun K hK => ?_)
   go_simp
   go_at_call 94
   refine HNB.out.mono ?_
   rintro e w31 ⟨v, s31, rfl, hran, hp, hg⟩
   have HS31 := Lib.hid (HSD.out.step hp hg)
   have HNM := Lib.hid hran
   have HR31 := Lib.hid (HK.out.turns_more HJT.out (by rw [HLI.out.2.1]; exact hran))
   have HFU := Lib.hid (hran.fuel0 (f := f) (good_num _ _).1 (by have := HFU0.out; omega))
   clear hran hp hg x3 HK
   have x3 : w31.cell? ⟨xb, 3, none⟩ = some (.slice (some ⟨tg, 0, none⟩) (n + 1) tc2) := by
    have := cell_of HS31.out.obj 3 (.slice (some ⟨tg, 0, none⟩) ts.length tc2) rfl
    rw [elen.out] at this
    exact this
   refine hK.out _ _ ?_ (fun _ => ?_) (fun hHeld => ?_)
   ·trivial
   ·exact x3
   replace hHeld := And.intro hHeld.1 (hHeld.2 (by decide))
   clear hK K
   try simp only [Act.put, List.setIfInBounds_toArray, List.set_cons_zero, List.set_cons_succ]
   refine wpAnyK_one (i := 13) (o := { dst := some 56, op := Op.buildSlice 33 1 #[(0, Operand.tmp 55)], type := 33, pos := "ref.go:164", after := #[{ on := 12, ground := Ground.data }], guard := none }) (by kernel_rfl) rfl (fun K hK => ?_)
   go_simp
   have HS32 := Lib.hid (HS31.out.below (bel1 w31 (.cells #[.int .i64 v] 3)))
   have HNW := Lib.hid (newN_row w31 [.int .i64 v] 3)
   have z3 : (w31.alloc (.cells #[.int .i64 v] 3)).cell? ⟨xb, 3, none⟩ = some (.slice (some ⟨tg, 0, none⟩) (n + 1) tc2) := by
    have := cell_of HS32.out.obj 3 (.slice (some ⟨tg, 0, none⟩) ts.length tc2) rfl
    rw [elen.out] at this
    exact this
   have HO32 : Hid ((w31.alloc (.cells #[.int .i64 v] 3)).ownsRow (w.heap.size + 1) 3 1 (.slice (some ⟨tg, 0, none⟩) (n + 1) tc2) (n + 1) (ts.map (Value.int .i64))) := Lib.hid (by
    have := HS32.out.rows.1
    dsimp only at this
    rw [elen.out] at this
    exact this)
   have C3 : Hid (n + 1 + 1 ≤ maxLen ∧ (n + 1 + 1) * 8 ≤ 140737488355328) := Lib.hid (by have := HAF.out; have := elen.out; unfold maxLen; omega)
   have C5 : Hid (w.heap.size + 1 ≤ (w31.alloc (.cells #[.int .i64 v] 3)).heap.size) := Lib.hid (by have := blk_lt HS32.out.res; omega)
   refine hK.out _ _ ?_ (fun _ => ?_) (fun hHeld => ?_)
   ·trivial
   ·exact z3
   replace hHeld := And.intro hHeld.1 (hHeld.2 (by decide))
   clear hK K
   try simp only [Act.put, List.setIfInBounds_toArray, List.set_cons_zero, List.set_cons_succ]
   refine wpAnyK_one (i := 14) (o := { dst := some 57, op := Op.call { callee := Callee.builtin Builtin.append, args := #[Operand.tmp 44, Operand.tmp 56], argTypes := #[33, 33] }, type := 33, pos := "ref.go:164", after := #[{ on := 1, ground := Ground.data }, { on := 13, ground := Ground.data }, { on := 12, ground := Ground.chain }], guard := none }) (by kernel_rfl) rfl (fun K hK => ?_)
   refine step_append_row (by rfl) _ _ _ (by rfl) (w.heap.size + 1) 3 i0 _ 1 8 Tryz.underlying33 ia ib ic id rfl (by omega) (.slice (some ⟨tg, 0, none⟩) (n + 1) tc2) (n + 1) (ts.map (Value.int .i64)) (by rfl) HO32.out (some ⟨w31.heap.size, 0, none⟩) 1 1 [.int .i64 v] (by rfl) HNW.out rfl (by intro uu hu; simp at hu; rcases hu with rfl; rfl) C3.out.1 C3.out.2 C5.out ?_
   intro v5 w5 hown5 hg5
   obtain ⟨B5, d5, rfl, _⟩ := own_shape hown5
   have HP5 : Hid (RSt w (w5.setCell ⟨xb, 3, none⟩ (.slice B5 (n + 1 + 1) d5)) xb b A c L E s31 mn ⟨nm, gr, g, (ts ++ [v]), B5, d5, 1, ⟨⟨false, (0, 0), 0, []⟩, none, 0⟩, [], none, 0⟩) := Lib.hid (by
    have := RSt.pushT (v := v) (B' := B5) (d' := d5) HS32.out (w5 := w5) (by dsimp only; rw [elen.out]; exact hown5) (by dsimp only; rw [elen.out]; exact hg5)
    dsimp only at this
    rw [elen.out] at this
    exact this)
   have HO5 := Lib.hid (heap_keep hg5 ((RowW.own HO32.out).mono (Nat.zero_le _)) (by decide) HS32.out.obj)
   have y5 : w5.cell? ⟨xb, 3, none⟩ = some (.slice (some ⟨tg, 0, none⟩) (n + 1) tc2) := by
    have := cell_of HO5.out 3 (.slice (some ⟨tg, 0, none⟩) ts.length tc2) rfl
    rw [elen.out] at this
    exact this
   have q5 := free_of HO5.out 3
   clear hown5 hg5 z3
   refine hK.out _ _ ?_ (fun _ => ?_) (fun hHeld => ?_)
   ·trivial
   ·exact y5
   replace hHeld := And.intro hHeld.1 (hHeld.2 (by decide))
   clear hK K
   try simp only [Act.put, List.setIfInBounds_toArray, List.set_cons_zero, List.set_cons_succ]
   refine wpAnyK_one (i := 15) (o := { dst := some 58, op := Op.fieldAddr 41 (Operand.tmp 3) 3, type := 0, pos := "ref.go:164", after := #[{ on := 0, ground := Ground.phase }, { on := 1, ground := Ground.phase }, { on := 2, ground := Ground.phase }, { on := 3, ground := Ground.phase }, { on := 4, ground := Ground.phase }, { on := 5, ground := Ground.phase }, { on := 6, ground := Ground.phase }, { on := 7, ground := Ground.phase }, { on := 8, ground := Ground.phase }, { on := 9, ground := Ground.phase }, { on := 10, ground := Ground.phase }, { on := 11, ground := Ground.phase }, { on := 12, ground := Ground.phase }, { on := 13, ground := Ground.phase }, { on := 14, ground := Ground.phase }], guard := none }) (by kernel_rfl) rfl (fun K hK => ?_)
   go_simp
   refine hK.out _ _ ?_ (fun _ => ?_) (fun hHeld => ?_)
   ·trivial
   ·exact y5
   replace hHeld := And.intro hHeld.1 (hHeld.2 (by decide))
   clear hK K
   try simp only [Act.put, List.setIfInBounds_toArray, List.set_cons_zero, List.set_cons_succ]
   refine wpAnyK_one (i := 16) (o := { dst := none, op := Op.store 33 (Operand.tmp 58) (Operand.tmp 57), type := 0, pos := "ref.go:164", after := #[{ on := 15, ground := Ground.data }, { on := 14, ground := Ground.data }, { on := 14, ground := Ground.chain }, { on := 0, ground := Ground.phase }, { on := 1, ground := Ground.phase }, { on := 2, ground := Ground.phase }, { on := 3, ground := Ground.phase }, { on := 4, ground := Ground.phase }, { on := 5, ground := Ground.phase }, { on := 6, ground := Ground.phase }, { on := 7, ground := Ground.phase }, { on := 8, ground := Ground.phase }, { on := 9, ground := Ground.phase }, { on := 10, ground := Ground.phase }, { on := 11, ground := Ground.phase }, { on := 12, ground := Ground.phase }, { on := 13, ground := Ground.phase }, { on := 14, ground := Ground.phase }], guard := none }) (by kernel_rfl) rfl (fun K hK => ?_)
   go_simp
   refine hK.out _ _ ?_ (fun hne => ?_) (fun hHeld => ?_)
   ·trivial
   ·exact absurd rfl hne
   clear hK K
   try simp only [Act.put, List.setIfInBounds_toArray, List.set_cons_zero, List.set_cons_succ]
   refine wpAnyK_done (by kernel_rfl) ?_ _
   go_wp2_with fail
   go_roundg f
   case measure => omega
   case rel => exact ⟨ts ++ [v], s31, B5, d5, HR31, HFU.out, by rw [List.length_append]; simp only [List.length_singleton]; have := HAF.out; omega, Lib.hid (fun k e => ⟨n + 1, v, HLI.out.snoc (by subst e; have := ran_num_ok HNM.out; have := HLI.out.2.2.2.1; omega)⟩), HP5⟩
end Go.Proofs.YtnkkcknogkgdkaaGreatDoor.PaW
