/- Walk: the reference's parser reads a list of steps; an outline. Conditions: the parser and its tokens lie in memory, apart. -/
import Derived.Test.YtnkkcknogkgdkaaGreatDoorPrE
import Derived.Laws.AppendOwn
import Derived.Deep.AppendLies
import Derived.Deep.RegionLaw
import Derived.Deep.RegionHeld3
import Derived.Deep.DeepCutAuto

namespace Go.Proofs.YtnkkcknogkgdkaaGreatDoor.PaW
open Go Go.RowKit Go.Proofs.YtnkkcknogkgdkaaGreatDoor.Mem Go.Proofs.YtnkkcknogkgdkaaGreatDoor.Pa
open Go.Proofs.YtnkkcknogkgdkaaGreatDoor.Ge (V)
open Go.Proofs.YtnkkcknogkgdkaaGreatDoor.Lex (Tok)
open Go.Proofs.YtnkkcknogkgdkaaGreatDoor.LexW (tokCells)
attribute [local go_sem ↓] Go.wp_at_zero Go.wp_at_succ

set_option maxRecDepth 100000 in
set_option maxHeartbeats 8000000 in
theorem routline_path (b : Nat) (A : Option Addr) (c : Nat) (L : List Tok) (E : Nat) (mn : Bool) (st : St) (w : World) (h : Rc w b A c L E st mn) (hc0 : isS L kCircle st = false) :
  Calls Tryz.prog 95 #[.pointer (some ⟨b, 0, none⟩)] w (RResP ROutP long routlineO w b A c L E mn st) := by
 have hlt := h.lt
 have HRW := Lib.hid h.row
 have hsz : (w.alloc (.cells #[.bool false, .int .i64 0, .int .i64 0, .int .i64 0, .slice none 0 0] 38)).heap.size = w.heap.size + 1 := by simp
 have hB2 := bel1 (w.alloc (.cells #[.bool false, .int .i64 0, .int .i64 0, .int .i64 0, .slice none 0 0] 38)) (.cells #[.bool false, .int .i64 0, .int .i64 0, .int .i64 0, .slice none 0 0] 38)
 have HRa := Lib.hid (p_below (heap_new w (.cells #[.bool false, .int .i64 0, .int .i64 0, .int .i64 0, .slice none 0 0] 38)) hB2)
 have HOa : Hid (((w.alloc (.cells #[.bool false, .int .i64 0, .int .i64 0, .int .i64 0, .slice none 0 0] 38)).alloc (.cells #[.bool false, .int .i64 0, .int .i64 0, .int .i64 0, .slice none 0 0] 38)).heap[w.heap.size + 1]? = some (.cells #[.bool false, .int .i64 0, .int .i64 0, .int .i64 0, .slice none 0 0] 38)) := Lib.hid (by have := heap_new (w.alloc (.cells #[.bool false, .int .i64 0, .int .i64 0, .int .i64 0, .slice none 0 0] 38)) (.cells #[.bool false, .int .i64 0, .int .i64 0, .int .i64 0, .slice none 0 0] 38); rw [hsz] at this; exact this)
 have hB := (bel1 w (.cells #[.bool false, .int .i64 0, .int .i64 0, .int .i64 0, .slice none 0 0] 38)).trans (hB2.mono (by rw [hsz]; omega))
 have HPa := Lib.hid (h.below hB)
 have HGa := Lib.hid (grown_below (grown_refl w (some b)) hB)
 have HFEW := Lib.hid h.few
 clear h hB hB2 hsz
 have HC := Lib.hid hc0
 have hc : isS L kCircle st = false := hc0
 clear hc0
 obtain ⟨i0, ia, ib, ic, id⟩ := info_parts info_rstep
 have HK0 : Hid (Goes (bnd pointO _) L E st rpathO st) := Lib.hid (Goes.refl rpathO L E st)
 go_enter Tryz.func95, Tryz.ntmps95
 go_upto_region 2 with fail
 generalize (w.alloc (.cells #[.bool false, .int .i64 0, .int .i64 0, .int .i64 0, .slice none 0 0] 38)).alloc (.cells #[.bool false, .int .i64 0, .int .i64 0, .int .i64 0, .slice none 0 0] 38) = Wa at *
 have HE1 : Hid (Calls Tryz.prog 92 #[.pointer (some ⟨b, 0, none⟩), .string ⟨#[99, 105, 114, 99, 108, 101]⟩] Wa fun e w' => e = .returned (.bool false) ∧ Rc w' b A c L E st mn ∧ (Wa).grownBy w' (some b)) := Lib.hid (by
  have := raccept_any kCircle b A c L E mn st Wa HPa.out
  rw [hc, nextS_no] at this
  exact this)
 go_wp2_with fail
 refine HE1.out.mono ?_
 rintro e w1 ⟨rfl, hp, hg⟩
 have HP1 := Lib.hid hp
 have HG1 := Lib.hid (HGa.out.trans hg)
 have HO1 := Lib.hid ((hg.block _ (blk_lt HOa.out) (by intro e; cases e; omega)).trans HOa.out)
 clear HOa
 have HR1 := Lib.hid ((hg.block _ (blk_lt HRa.out) (by intro e; cases e; omega)).trans HRa.out)
 clear HRa
 clear HPa HGa HE1
 clear hp hg
 clear hc
 have HS0 : Hid (ROt w w1 b A c L E st mn [] none 0) := Lib.hid ⟨HP1.out, HR1.out, HO1.out, World.ownsRow_nil _ _ _ _, HG1.out, HRW.out, hlt⟩
 clear HP1 HG1 HO1 HR1
 have HSD := Lib.hid (HS0.out.below (show Below _ w1 w1.drew from below_drewN (Below.refl _ _) 1))
 have HNB := Lib.hid (rpoint_any b A c L E mn st w1.drew HSD.out.pc)
 have x4 : w1.drew.cell? ⟨w.heap.size + 1, 4, none⟩ = some (.slice none 0 0) := cell_of HSD.out.obj 4 _ rfl
 go_upto_region 8 with fail
 refine wp_region_tillK (k := 8) (S1 := fun w' => True) (S2 := fun w' => w'.cell? ⟨w.heap.size + 1, 4, none⟩ = some (.slice none 0 0)) (by kernel_rfl) ?_ (fun hHeld => ?_)
 ·exact ⟨trivial, x4⟩
 refine wpAnyK_take (i := 0) (oi := { dst := some 17, op := Op.fieldAddr 38 (Operand.tmp 3) 3, type := 0, pos := "ref.go:126", after := #[], guard := none }) (v := ?_) rfl (by kernel_rfl) (by kernel_rfl) (by kernel_rfl) (by kernel_rfl) (fun _ _ _ h => h) (Or.inl ⟨by rfl, ?_⟩) (by assumption) ?_
 rotate_left
 ·intro w' hSw
  (try dsimp only at hSw)
  first | (go_simp; done) | (go_simp; with_reducible rfl)
 try simp only [Act.put, List.setIfInBounds_toArray, List.set_cons_zero, List.set_cons_succ]
 refine wpAnyK_take (i := 1) (oi := { dst := some 18, op := Op.load 36 (Operand.tmp 17), type := 36, pos := "ref.go:126", after := #[{ on := 0, ground := Ground.data }], guard := none }) (v := ?_) rfl (by kernel_rfl) (by kernel_rfl) (by kernel_rfl) (by kernel_rfl) (fun _ _ _ h => h) (Or.inl ⟨by rfl, ?_⟩) (by assumption) ?_
 rotate_left
 ·intro w' hSw
  (try dsimp only at hSw)
  first | (go_simp; done) | (go_simp; with_reducible rfl)
 try simp only [Act.put, List.setIfInBounds_toArray, List.set_cons_zero, List.set_cons_succ]
 refine wpAnyK_take (i := 2) (oi := { dst := some 19, op := Op.move (Operand.tmp 0), type := 98, pos := "ref.go:126", after := #[], guard := none }) (v := ?_) rfl (by kernel_rfl) (by kernel_rfl) (by kernel_rfl) (by kernel_rfl) (fun _ _ _ h => h) (Or.inl ⟨by rfl, ?_⟩) (by assumption) ?_
 rotate_left
 ·intro w' hSw
  (try dsimp only at hSw)
  first | (go_simp; done) | (go_simp; with_reducible rfl)
 try simp only [Act.put, List.setIfInBounds_toArray, List.set_cons_zero, List.set_cons_succ]
 refine wpAnyK_one (i := 3) (o := { dst := some 20, op := Op.call { callee := Callee.value (Operand.func 146), args := #[Operand.tmp 19], argTypes := #[98] }, type := 35, pos := "ref.go:126", after := #[{ on := 2, ground := Ground.data }], guard := none }) (by kernel_rfl) rfl (fun K hK => ?_)
 go_simp
 go_at_call 146
 refine HNB.out.mono ?_
 rintro e w1 ⟨v, s1, rfl, hran, hp, hg⟩
 have HS1 := Lib.hid (HSD.out.step hp hg)
 have HK1 : Hid (Goes (bnd (rstepsO 20001 [⟨false, v, (0, 0), false⟩]) pathG) L E s1 rpathO st) := Lib.hid (HK0.out.step hran)
 clear hran hp hg x4 HK0
 unfold ptV
 have x4 : w1.cell? ⟨w.heap.size + 1, 4, none⟩ = some (.slice none 0 0) := cell_of HS1.out.obj 4 _ rfl
 refine hK.out _ _ ?_ (fun _ => ?_) (fun hHeld => ?_)
 ·trivial
 ·exact x4
 replace hHeld := And.intro hHeld.1 (hHeld.2 (by decide))
 clear hK K
 try simp only [Act.put, List.setIfInBounds_toArray, List.set_cons_zero, List.set_cons_succ]
 refine wpAnyK_take (i := 4) (oi := { dst := some 21, op := Op.build 140 #[(1, Operand.tmp 20)], type := 140, pos := "ref.go:126", after := #[{ on := 3, ground := Ground.data }], guard := none }) (v := ?_) rfl (by kernel_rfl) (by kernel_rfl) (by kernel_rfl) (by kernel_rfl) (fun _ _ _ h => h) (Or.inl ⟨by rfl, ?_⟩) (by assumption) ?_
 rotate_left
 ·intro w' hSw
  (try dsimp only at hSw)
  first | (go_simp; done) | (go_simp; with_reducible rfl)
 try simp only [Act.put, List.setIfInBounds_toArray, List.set_cons_zero, List.set_cons_succ]
 refine wpAnyK_one (i := 5) (o := { dst := some 22, op := Op.buildSlice 36 1 #[(0, Operand.tmp 21)], type := 36, pos := "ref.go:126", after := #[{ on := 4, ground := Ground.data }], guard := none }) (by kernel_rfl) rfl (fun K hK => ?_)
 go_simp
 have HS2 := Lib.hid (HS1.out.below (bel1 w1 (.cells #[.bool false, .int .i64 v.1, .int .i64 v.2, .int .i64 0, .int .i64 0, .bool false] 140)))
 have HNW := Lib.hid (newN_row w1 [.bool false, .int .i64 v.1, .int .i64 v.2, .int .i64 0, .int .i64 0, .bool false] 140)
 have z4 : (w1.alloc (.cells #[.bool false, .int .i64 v.1, .int .i64 v.2, .int .i64 0, .int .i64 0, .bool false] 140)).cell? ⟨w.heap.size + 1, 4, none⟩ = some (.slice none 0 0) := cell_of HS2.out.obj 4 _ rfl
 have HO2 : Hid ((w1.alloc (.cells #[.bool false, .int .i64 v.1, .int .i64 v.2, .int .i64 0, .int .i64 0, .bool false] 140)).ownsRow (w.heap.size + 2) 140 6 (.slice none 0 0) 0 []) := Lib.hid HS2.out.own
 have C5 : Hid (w.heap.size + 2 ≤ (w1.alloc (.cells #[.bool false, .int .i64 v.1, .int .i64 v.2, .int .i64 0, .int .i64 0, .bool false] 140)).heap.size) := Lib.hid (by have := blk_lt HS2.out.obj; omega)
 refine hK.out _ _ ?_ (fun _ => ?_) (fun hHeld => ?_)
 ·trivial
 ·exact z4
 replace hHeld := And.intro hHeld.1 (hHeld.2 (by decide))
 clear hK K
 try simp only [Act.put, List.setIfInBounds_toArray, List.set_cons_zero, List.set_cons_succ]
 refine wpAnyK_one (i := 6) (o := { dst := some 23, op := Op.call { callee := Callee.builtin Builtin.append, args := #[Operand.tmp 18, Operand.tmp 22], argTypes := #[36, 36] }, type := 36, pos := "ref.go:126", after := #[{ on := 1, ground := Ground.data }, { on := 5, ground := Ground.data }, { on := 3, ground := Ground.chain }], guard := none }) (by kernel_rfl) rfl (fun K hK => ?_)
 refine step_append_row (by rfl) _ _ _ (by rfl) (w.heap.size + 2) 140 i0 _ 6 48 Tryz.underlying36 ia ib ic id rfl (by omega) (.slice none 0 0) 0 [] (by rfl) HO2.out (some ⟨w1.heap.size, 0, none⟩) 1 1 [.bool false, .int .i64 v.1, .int .i64 v.2, .int .i64 0, .int .i64 0, .bool false] (by rfl) HNW.out rfl (by intro uu hu; simp at hu; rcases hu with rfl | rfl | rfl | rfl | rfl | rfl <;> rfl) (by decide) (by decide) C5.out ?_
 intro v5 w5 hown5 hg5
 obtain ⟨B5, d5, rfl, _⟩ := own_shape hown5
 have HP5 : Hid (ROt w (w5.setCell ⟨w.heap.size + 1, 4, none⟩ (.slice B5 1 d5)) b A c L E s1 mn [⟨false, v, (0, 0), false⟩] B5 d5) := Lib.hid (ROt.push (acc := []) (x := ⟨false, v, (0, 0), false⟩) (B' := B5) (d' := d5) HS2.out (w7 := w5) hown5 hg5)
 have HO5 := Lib.hid (heap_keep hg5 ((RowW.own HO2.out).mono (Nat.zero_le _)) (by decide) HS2.out.obj)
 have y5 : w5.cell? ⟨w.heap.size + 1, 4, none⟩ = some (.slice none 0 0) := cell_of HO5.out 4 _ rfl
 have q5 := free_of HO5.out 4
 clear hown5 hg5 z4
 refine hK.out _ _ ?_ (fun _ => ?_) (fun hHeld => ?_)
 ·trivial
 ·exact y5
 replace hHeld := And.intro hHeld.1 (hHeld.2 (by decide))
 clear hK K
 try simp only [Act.put, List.setIfInBounds_toArray, List.set_cons_zero, List.set_cons_succ]
 refine wpAnyK_one (i := 7) (o := { dst := some 24, op := Op.fieldAddr 38 (Operand.tmp 3) 3, type := 0, pos := "ref.go:126", after := #[{ on := 0, ground := Ground.phase }, { on := 1, ground := Ground.phase }, { on := 2, ground := Ground.phase }, { on := 3, ground := Ground.phase }, { on := 4, ground := Ground.phase }, { on := 5, ground := Ground.phase }, { on := 6, ground := Ground.phase }], guard := none }) (by kernel_rfl) rfl (fun K hK => ?_)
 go_simp
 refine hK.out _ _ ?_ (fun _ => ?_) (fun hHeld => ?_)
 ·trivial
 ·exact y5
 replace hHeld := And.intro hHeld.1 (hHeld.2 (by decide))
 clear hK K
 try simp only [Act.put, List.setIfInBounds_toArray, List.set_cons_zero, List.set_cons_succ]
 refine wpAnyK_one (i := 8) (o := { dst := none, op := Op.store 36 (Operand.tmp 24) (Operand.tmp 23), type := 0, pos := "ref.go:126", after := #[{ on := 7, ground := Ground.data }, { on := 6, ground := Ground.data }, { on := 6, ground := Ground.chain }, { on := 0, ground := Ground.phase }, { on := 1, ground := Ground.phase }, { on := 2, ground := Ground.phase }, { on := 3, ground := Ground.phase }, { on := 4, ground := Ground.phase }, { on := 5, ground := Ground.phase }, { on := 6, ground := Ground.phase }], guard := none }) (by kernel_rfl) rfl (fun K hK => ?_)
 go_simp
 refine hK.out _ _ ?_ (fun hne => ?_) (fun hHeld => ?_)
 ·trivial
 ·exact absurd rfl hne
 clear hK K
 try simp only [Act.put, List.setIfInBounds_toArray, List.set_cons_zero, List.set_cons_succ]
 refine wpAnyK_done (by kernel_rfl) ?_ _
 go_wp2_with fail
 clear y5 q5 HO5 HO2 HNW HS2 HS1 HSD HS0 HNB C5
 generalize w5.setCell ⟨w.heap.size + 1, 4, none⟩ (.slice B5 1 d5) = W8 at *
 go_loopg [4] 20001 (fun f _ wr => ∃ (acc : List Step) (st' : St) (B : Option Addr) (d : Nat), Hid (Goes (bnd (rstepsO f acc) pathG) L E st' rpathO st) ∧ fuel L f st' ∧ acc.length + f ≤ 20002 ∧ Hid (ROt w wr b A c L E st' mn acc B d))
 case atStart => exact ⟨_, s1, B5, d5, HK1, by have := HFEW.out; cases s1 with | bad k e => trivial | ok k => (show L.length < 20001 + k; omega), by simp, HP5⟩
 case round =>
  obtain ⟨acc, st', B, d, HK, hfu, haf, HS⟩ := hrel
  clear HK1 HP5
  cases hq1 : isS L kOpen st'
  ·cases hj : isS L kArc st'
   ·skip
    have HAF0 : Hid (acc.length + gk ≤ 20002) := Lib.hid haf
    have HRN : Hid (Ran rpathO L E st ⟨false, (0, 0), 0, acc⟩ st') := Lib.hid (HK.out.steps_end hq1 hj).last
    clear hfu haf HK
    have HE11 : Hid (Calls Tryz.prog 145 #[.pointer (some ⟨b, 0, none⟩), .string ⟨#[40]⟩] wr fun e w' => e = .returned (.bool false) ∧ Below (wr).heap.size wr w') := Lib.hid (by
     have := ris_any kOpen b A c L E mn st' wr HS.out.pc
     rw [hq1] at this
     exact this)
    go_wp2_with fail
    refine HE11.out.mono ?_
    rintro e w11 ⟨rfl, hb⟩
    have HS11 := Lib.hid (HS.out.below hb)
    clear hb HS HE11
    have HE12 : Hid (Calls Tryz.prog 145 #[.pointer (some ⟨b, 0, none⟩), .string ⟨#[97, 114, 99]⟩] w11 fun e w' => e = .returned (.bool false) ∧ Below (w11).heap.size w11 w') := Lib.hid (by
     have := ris_any kArc b A c L E mn st' w11 HS11.out.pc
     rw [hj] at this
     exact this)
    go_wp2_with fail
    refine HE12.out.mono ?_
    rintro e w12 ⟨rfl, hb⟩
    have HS12 := Lib.hid (HS11.out.below hb)
    clear hb HS11 HE12
    obtain ⟨m, cm, fm, hm, hpm⟩ := HS12.out.pc.mark (long ⟨false, (0, 0), 0, acc⟩)
    have HPM := Lib.hid hpm
    clear hm hpm hq1 hj
    by_cases hl : 40 < acc.length
    ·have hl1 : ((40 : Int) < (acc.length : Int)) = True := eq_true (by omega)
     have HLQ : Hid (long ⟨false, (0, 0), 0, acc⟩ = true) := Lib.hid (decide_eq_true hl)
     rw [HLQ.out] at HPM
     clear hl
     cases m
     ·skip
      have HPM2 : Hid (Rc (w12.setCell ⟨b, 5, none⟩ (.bool true)) b A c L E st' (mn || long ⟨false, (0, 0), 0, acc⟩)) := Lib.hid (by have := HPM.out; simpa only [Bool.true_or, Bool.false_or, Bool.or_true, HLQ.out] using this)
      have HSM := Lib.hid (HS12.out.step HPM2.out (grown_set (grown_refl w12 (some b)) 5 (.bool true)))
      have o4 := cell_of HS12.out.obj 4 _ rfl
      go_upto_region 19 with fail
      clear o4 cm fm HPM2 HS12
      generalize (w12.setCell ⟨b, 5, none⟩ (.bool true)) = WM at *
      have o0 := cell_of HSM.out.obj 0 _ rfl
      have z0 := cell_of HSM.out.res 0 _ rfl
      have q0 := free_of HSM.out.res 0
      have o1 := cell_of HSM.out.obj 1 _ rfl
      have z1 := cell_of HSM.out.res 1 _ rfl
      have q1 := free_of HSM.out.res 1
      have o2 := cell_of HSM.out.obj 2 _ rfl
      have z2 := cell_of HSM.out.res 2 _ rfl
      have q2 := free_of HSM.out.res 2
      have o3 := cell_of HSM.out.obj 3 _ rfl
      have z3 := cell_of HSM.out.res 3 _ rfl
      have q3 := free_of HSM.out.res 3
      have o4 := cell_of HSM.out.obj 4 _ rfl
      have z4 := cell_of HSM.out.res 4 _ rfl
      have q4 := free_of HSM.out.res 4
      have HPF := Lib.hid (((((HSM.out.pc.new hlt HRW.out (Nat.le_refl _) 0 (.bool false)).new hlt HRW.out (Nat.le_refl _) 1 (.int .i64 0)).new hlt HRW.out (Nat.le_refl _) 2 (.int .i64 0)).new hlt HRW.out (Nat.le_refl _) 3 (.int .i64 0)).new hlt HRW.out (Nat.le_refl _) 4 (.slice B acc.length d))
      have HGF := Lib.hid (grown_new (grown_new (grown_new (grown_new (grown_new HSM.out.gr (Nat.le_refl _) 0 (.bool false)) (Nat.le_refl _) 1 (.int .i64 0)) (Nat.le_refl _) 2 (.int .i64 0)) (Nat.le_refl _) 3 (.int .i64 0)) (Nat.le_refl _) 4 (.slice B acc.length d))
      have HWF : Hid ((((((WM.setCell ⟨w.heap.size, 0, none⟩ (.bool false)).setCell ⟨w.heap.size, 1, none⟩ (.int .i64 0)).setCell ⟨w.heap.size, 2, none⟩ (.int .i64 0)).setCell ⟨w.heap.size, 3, none⟩ (.int .i64 0)).setCell ⟨w.heap.size, 4, none⟩ (.slice B acc.length d)).heap[w.heap.size]? = some (.cells #[.bool false, .int .i64 0, .int .i64 0, .int .i64 0, .slice B acc.length d] 38 (0, 0))) := Lib.hid (block_set (block_set (block_set (block_set (block_set HSM.out.res 0 _) 1 _) 2 _) 3 _) 4 _)
      have HAF : Hid (At 140 0 (((((WM.setCell ⟨w.heap.size, 0, none⟩ (.bool false)).setCell ⟨w.heap.size, 1, none⟩ (.int .i64 0)).setCell ⟨w.heap.size, 2, none⟩ (.int .i64 0)).setCell ⟨w.heap.size, 3, none⟩ (.int .i64 0)).setCell ⟨w.heap.size, 4, none⟩ (.slice B acc.length d)) B (acc.flatMap stepCells)) := Lib.hid ((At.of_own (base := 0) HSM.out.own).keep (grown_set (grown_set (grown_set (grown_set (grown_set (grown_refl WM (some w.heap.size)) 0 (.bool false)) 1 (.int .i64 0)) 2 (.int .i64 0)) 3 (.int .i64 0)) 4 (.slice B acc.length d)) (RowW.at HSM.out.res (Nat.zero_le _)) (by decide))
      have HDF : Hid (acc.length ≤ d) := Lib.hid (by
       obtain ⟨_, _, e, hd⟩ := own_shape HSM.out.own
       cases e
       exact hd)
      go_wp2_with fail
      clear o0 o1 o2 o3 o4 z0 z1 z2 z3 z4 q0 q1 q2 q3 q4
      generalize (((((WM.setCell ⟨w.heap.size, 0, none⟩ (.bool false)).setCell ⟨w.heap.size, 1, none⟩ (.int .i64 0)).setCell ⟨w.heap.size, 2, none⟩ (.int .i64 0)).setCell ⟨w.heap.size, 3, none⟩ (.int .i64 0)).setCell ⟨w.heap.size, 4, none⟩ (.slice B acc.length d)) = WF at *
      have z0 := cell_of HWF.out 0 _ rfl
      have z1 := cell_of HWF.out 1 _ rfl
      have z2 := cell_of HWF.out 2 _ rfl
      have z3 := cell_of HWF.out 3 _ rfl
      have z4 := cell_of HWF.out 4 _ rfl
      refine bodyPost_ret (v := outV ⟨false, (0, 0), 0, acc⟩ B d) (by simp [results, Tryz.results95, go_sem, z0, z1, z2, z3, z4, outV]) rfl ?_
      exact ⟨⟨false, (0, 0), 0, acc⟩, st', _, rfl, ⟨B, d, rfl, HAF.out, HDF.out, by have := HAF0.out; show acc.length ≤ 20002; omega⟩, ran_path HC.out HRN.out, HPF.out, HGF.out⟩
     ·skip
      have HPM2 : Hid (Rc (w12.setCell ⟨b, 5, none⟩ (.bool true)) b A c L E st' (mn || long ⟨false, (0, 0), 0, acc⟩)) := Lib.hid (by have := HPM.out; simpa only [Bool.true_or, Bool.false_or, Bool.or_true, HLQ.out] using this)
      have HSM := Lib.hid (HS12.out.step HPM2.out (grown_set (grown_refl w12 (some b)) 5 (.bool true)))
      have o4 := cell_of HS12.out.obj 4 _ rfl
      go_upto_region 19 with fail
      clear o4 cm fm HPM2 HS12
      generalize (w12.setCell ⟨b, 5, none⟩ (.bool true)) = WM at *
      have o0 := cell_of HSM.out.obj 0 _ rfl
      have z0 := cell_of HSM.out.res 0 _ rfl
      have q0 := free_of HSM.out.res 0
      have o1 := cell_of HSM.out.obj 1 _ rfl
      have z1 := cell_of HSM.out.res 1 _ rfl
      have q1 := free_of HSM.out.res 1
      have o2 := cell_of HSM.out.obj 2 _ rfl
      have z2 := cell_of HSM.out.res 2 _ rfl
      have q2 := free_of HSM.out.res 2
      have o3 := cell_of HSM.out.obj 3 _ rfl
      have z3 := cell_of HSM.out.res 3 _ rfl
      have q3 := free_of HSM.out.res 3
      have o4 := cell_of HSM.out.obj 4 _ rfl
      have z4 := cell_of HSM.out.res 4 _ rfl
      have q4 := free_of HSM.out.res 4
      have HPF := Lib.hid (((((HSM.out.pc.new hlt HRW.out (Nat.le_refl _) 0 (.bool false)).new hlt HRW.out (Nat.le_refl _) 1 (.int .i64 0)).new hlt HRW.out (Nat.le_refl _) 2 (.int .i64 0)).new hlt HRW.out (Nat.le_refl _) 3 (.int .i64 0)).new hlt HRW.out (Nat.le_refl _) 4 (.slice B acc.length d))
      have HGF := Lib.hid (grown_new (grown_new (grown_new (grown_new (grown_new HSM.out.gr (Nat.le_refl _) 0 (.bool false)) (Nat.le_refl _) 1 (.int .i64 0)) (Nat.le_refl _) 2 (.int .i64 0)) (Nat.le_refl _) 3 (.int .i64 0)) (Nat.le_refl _) 4 (.slice B acc.length d))
      have HWF : Hid ((((((WM.setCell ⟨w.heap.size, 0, none⟩ (.bool false)).setCell ⟨w.heap.size, 1, none⟩ (.int .i64 0)).setCell ⟨w.heap.size, 2, none⟩ (.int .i64 0)).setCell ⟨w.heap.size, 3, none⟩ (.int .i64 0)).setCell ⟨w.heap.size, 4, none⟩ (.slice B acc.length d)).heap[w.heap.size]? = some (.cells #[.bool false, .int .i64 0, .int .i64 0, .int .i64 0, .slice B acc.length d] 38 (0, 0))) := Lib.hid (block_set (block_set (block_set (block_set (block_set HSM.out.res 0 _) 1 _) 2 _) 3 _) 4 _)
      have HAF : Hid (At 140 0 (((((WM.setCell ⟨w.heap.size, 0, none⟩ (.bool false)).setCell ⟨w.heap.size, 1, none⟩ (.int .i64 0)).setCell ⟨w.heap.size, 2, none⟩ (.int .i64 0)).setCell ⟨w.heap.size, 3, none⟩ (.int .i64 0)).setCell ⟨w.heap.size, 4, none⟩ (.slice B acc.length d)) B (acc.flatMap stepCells)) := Lib.hid ((At.of_own (base := 0) HSM.out.own).keep (grown_set (grown_set (grown_set (grown_set (grown_set (grown_refl WM (some w.heap.size)) 0 (.bool false)) 1 (.int .i64 0)) 2 (.int .i64 0)) 3 (.int .i64 0)) 4 (.slice B acc.length d)) (RowW.at HSM.out.res (Nat.zero_le _)) (by decide))
      have HDF : Hid (acc.length ≤ d) := Lib.hid (by
       obtain ⟨_, _, e, hd⟩ := own_shape HSM.out.own
       cases e
       exact hd)
      go_wp2_with fail
      clear o0 o1 o2 o3 o4 z0 z1 z2 z3 z4 q0 q1 q2 q3 q4
      generalize (((((WM.setCell ⟨w.heap.size, 0, none⟩ (.bool false)).setCell ⟨w.heap.size, 1, none⟩ (.int .i64 0)).setCell ⟨w.heap.size, 2, none⟩ (.int .i64 0)).setCell ⟨w.heap.size, 3, none⟩ (.int .i64 0)).setCell ⟨w.heap.size, 4, none⟩ (.slice B acc.length d)) = WF at *
      have z0 := cell_of HWF.out 0 _ rfl
      have z1 := cell_of HWF.out 1 _ rfl
      have z2 := cell_of HWF.out 2 _ rfl
      have z3 := cell_of HWF.out 3 _ rfl
      have z4 := cell_of HWF.out 4 _ rfl
      refine bodyPost_ret (v := outV ⟨false, (0, 0), 0, acc⟩ B d) (by simp [results, Tryz.results95, go_sem, z0, z1, z2, z3, z4, outV]) rfl ?_
      exact ⟨⟨false, (0, 0), 0, acc⟩, st', _, rfl, ⟨B, d, rfl, HAF.out, HDF.out, by have := HAF0.out; show acc.length ≤ 20002; omega⟩, ran_path HC.out HRN.out, HPF.out, HGF.out⟩
    ·have hl1 : ((40 : Int) < (acc.length : Int)) = False := eq_false (by omega)
     have HLQ : Hid (long ⟨false, (0, 0), 0, acc⟩ = false) := Lib.hid (decide_eq_false hl)
     rw [HLQ.out] at HPM
     clear hl
     cases m
     ·skip
      have HPM2 : Hid (Rc (w12.setCell ⟨b, 5, none⟩ (.bool false)) b A c L E st' (mn || long ⟨false, (0, 0), 0, acc⟩)) := Lib.hid (by have := HPM.out; simpa only [Bool.true_or, Bool.false_or, Bool.or_true, HLQ.out] using this)
      have HSM := Lib.hid (HS12.out.step HPM2.out (grown_set (grown_refl w12 (some b)) 5 (.bool false)))
      have o4 := cell_of HS12.out.obj 4 _ rfl
      go_upto_region 19 with fail
      clear o4 cm fm HPM2 HS12
      generalize (w12.setCell ⟨b, 5, none⟩ (.bool false)) = WM at *
      have o0 := cell_of HSM.out.obj 0 _ rfl
      have z0 := cell_of HSM.out.res 0 _ rfl
      have q0 := free_of HSM.out.res 0
      have o1 := cell_of HSM.out.obj 1 _ rfl
      have z1 := cell_of HSM.out.res 1 _ rfl
      have q1 := free_of HSM.out.res 1
      have o2 := cell_of HSM.out.obj 2 _ rfl
      have z2 := cell_of HSM.out.res 2 _ rfl
      have q2 := free_of HSM.out.res 2
      have o3 := cell_of HSM.out.obj 3 _ rfl
      have z3 := cell_of HSM.out.res 3 _ rfl
      have q3 := free_of HSM.out.res 3
      have o4 := cell_of HSM.out.obj 4 _ rfl
      have z4 := cell_of HSM.out.res 4 _ rfl
      have q4 := free_of HSM.out.res 4
      have HPF := Lib.hid (((((HSM.out.pc.new hlt HRW.out (Nat.le_refl _) 0 (.bool false)).new hlt HRW.out (Nat.le_refl _) 1 (.int .i64 0)).new hlt HRW.out (Nat.le_refl _) 2 (.int .i64 0)).new hlt HRW.out (Nat.le_refl _) 3 (.int .i64 0)).new hlt HRW.out (Nat.le_refl _) 4 (.slice B acc.length d))
      have HGF := Lib.hid (grown_new (grown_new (grown_new (grown_new (grown_new HSM.out.gr (Nat.le_refl _) 0 (.bool false)) (Nat.le_refl _) 1 (.int .i64 0)) (Nat.le_refl _) 2 (.int .i64 0)) (Nat.le_refl _) 3 (.int .i64 0)) (Nat.le_refl _) 4 (.slice B acc.length d))
      have HWF : Hid ((((((WM.setCell ⟨w.heap.size, 0, none⟩ (.bool false)).setCell ⟨w.heap.size, 1, none⟩ (.int .i64 0)).setCell ⟨w.heap.size, 2, none⟩ (.int .i64 0)).setCell ⟨w.heap.size, 3, none⟩ (.int .i64 0)).setCell ⟨w.heap.size, 4, none⟩ (.slice B acc.length d)).heap[w.heap.size]? = some (.cells #[.bool false, .int .i64 0, .int .i64 0, .int .i64 0, .slice B acc.length d] 38 (0, 0))) := Lib.hid (block_set (block_set (block_set (block_set (block_set HSM.out.res 0 _) 1 _) 2 _) 3 _) 4 _)
      have HAF : Hid (At 140 0 (((((WM.setCell ⟨w.heap.size, 0, none⟩ (.bool false)).setCell ⟨w.heap.size, 1, none⟩ (.int .i64 0)).setCell ⟨w.heap.size, 2, none⟩ (.int .i64 0)).setCell ⟨w.heap.size, 3, none⟩ (.int .i64 0)).setCell ⟨w.heap.size, 4, none⟩ (.slice B acc.length d)) B (acc.flatMap stepCells)) := Lib.hid ((At.of_own (base := 0) HSM.out.own).keep (grown_set (grown_set (grown_set (grown_set (grown_set (grown_refl WM (some w.heap.size)) 0 (.bool false)) 1 (.int .i64 0)) 2 (.int .i64 0)) 3 (.int .i64 0)) 4 (.slice B acc.length d)) (RowW.at HSM.out.res (Nat.zero_le _)) (by decide))
      have HDF : Hid (acc.length ≤ d) := Lib.hid (by
       obtain ⟨_, _, e, hd⟩ := own_shape HSM.out.own
       cases e
       exact hd)
      go_wp2_with fail
      clear o0 o1 o2 o3 o4 z0 z1 z2 z3 z4 q0 q1 q2 q3 q4
      generalize (((((WM.setCell ⟨w.heap.size, 0, none⟩ (.bool false)).setCell ⟨w.heap.size, 1, none⟩ (.int .i64 0)).setCell ⟨w.heap.size, 2, none⟩ (.int .i64 0)).setCell ⟨w.heap.size, 3, none⟩ (.int .i64 0)).setCell ⟨w.heap.size, 4, none⟩ (.slice B acc.length d)) = WF at *
      have z0 := cell_of HWF.out 0 _ rfl
      have z1 := cell_of HWF.out 1 _ rfl
      have z2 := cell_of HWF.out 2 _ rfl
      have z3 := cell_of HWF.out 3 _ rfl
      have z4 := cell_of HWF.out 4 _ rfl
      refine bodyPost_ret (v := outV ⟨false, (0, 0), 0, acc⟩ B d) (by simp [results, Tryz.results95, go_sem, z0, z1, z2, z3, z4, outV]) rfl ?_
      exact ⟨⟨false, (0, 0), 0, acc⟩, st', _, rfl, ⟨B, d, rfl, HAF.out, HDF.out, by have := HAF0.out; show acc.length ≤ 20002; omega⟩, ran_path HC.out HRN.out, HPF.out, HGF.out⟩
     ·skip
      have HPM2 : Hid (Rc (w12.setCell ⟨b, 5, none⟩ (.bool true)) b A c L E st' (mn || long ⟨false, (0, 0), 0, acc⟩)) := Lib.hid (by have := HPM.out; simpa only [Bool.true_or, Bool.false_or, Bool.or_true, HLQ.out] using this)
      have HSM := Lib.hid (HS12.out.step HPM2.out (grown_set (grown_refl w12 (some b)) 5 (.bool true)))
      have o4 := cell_of HS12.out.obj 4 _ rfl
      go_upto_region 19 with fail
      clear o4 cm fm HPM2 HS12
      generalize (w12.setCell ⟨b, 5, none⟩ (.bool true)) = WM at *
      have o0 := cell_of HSM.out.obj 0 _ rfl
      have z0 := cell_of HSM.out.res 0 _ rfl
      have q0 := free_of HSM.out.res 0
      have o1 := cell_of HSM.out.obj 1 _ rfl
      have z1 := cell_of HSM.out.res 1 _ rfl
      have q1 := free_of HSM.out.res 1
      have o2 := cell_of HSM.out.obj 2 _ rfl
      have z2 := cell_of HSM.out.res 2 _ rfl
      have q2 := free_of HSM.out.res 2
      have o3 := cell_of HSM.out.obj 3 _ rfl
      have z3 := cell_of HSM.out.res 3 _ rfl
      have q3 := free_of HSM.out.res 3
      have o4 := cell_of HSM.out.obj 4 _ rfl
      have z4 := cell_of HSM.out.res 4 _ rfl
      have q4 := free_of HSM.out.res 4
      have HPF := Lib.hid (((((HSM.out.pc.new hlt HRW.out (Nat.le_refl _) 0 (.bool false)).new hlt HRW.out (Nat.le_refl _) 1 (.int .i64 0)).new hlt HRW.out (Nat.le_refl _) 2 (.int .i64 0)).new hlt HRW.out (Nat.le_refl _) 3 (.int .i64 0)).new hlt HRW.out (Nat.le_refl _) 4 (.slice B acc.length d))
      have HGF := Lib.hid (grown_new (grown_new (grown_new (grown_new (grown_new HSM.out.gr (Nat.le_refl _) 0 (.bool false)) (Nat.le_refl _) 1 (.int .i64 0)) (Nat.le_refl _) 2 (.int .i64 0)) (Nat.le_refl _) 3 (.int .i64 0)) (Nat.le_refl _) 4 (.slice B acc.length d))
      have HWF : Hid ((((((WM.setCell ⟨w.heap.size, 0, none⟩ (.bool false)).setCell ⟨w.heap.size, 1, none⟩ (.int .i64 0)).setCell ⟨w.heap.size, 2, none⟩ (.int .i64 0)).setCell ⟨w.heap.size, 3, none⟩ (.int .i64 0)).setCell ⟨w.heap.size, 4, none⟩ (.slice B acc.length d)).heap[w.heap.size]? = some (.cells #[.bool false, .int .i64 0, .int .i64 0, .int .i64 0, .slice B acc.length d] 38 (0, 0))) := Lib.hid (block_set (block_set (block_set (block_set (block_set HSM.out.res 0 _) 1 _) 2 _) 3 _) 4 _)
      have HAF : Hid (At 140 0 (((((WM.setCell ⟨w.heap.size, 0, none⟩ (.bool false)).setCell ⟨w.heap.size, 1, none⟩ (.int .i64 0)).setCell ⟨w.heap.size, 2, none⟩ (.int .i64 0)).setCell ⟨w.heap.size, 3, none⟩ (.int .i64 0)).setCell ⟨w.heap.size, 4, none⟩ (.slice B acc.length d)) B (acc.flatMap stepCells)) := Lib.hid ((At.of_own (base := 0) HSM.out.own).keep (grown_set (grown_set (grown_set (grown_set (grown_set (grown_refl WM (some w.heap.size)) 0 (.bool false)) 1 (.int .i64 0)) 2 (.int .i64 0)) 3 (.int .i64 0)) 4 (.slice B acc.length d)) (RowW.at HSM.out.res (Nat.zero_le _)) (by decide))
      have HDF : Hid (acc.length ≤ d) := Lib.hid (by
       obtain ⟨_, _, e, hd⟩ := own_shape HSM.out.own
       cases e
       exact hd)
      go_wp2_with fail
      clear o0 o1 o2 o3 o4 z0 z1 z2 z3 z4 q0 q1 q2 q3 q4
      generalize (((((WM.setCell ⟨w.heap.size, 0, none⟩ (.bool false)).setCell ⟨w.heap.size, 1, none⟩ (.int .i64 0)).setCell ⟨w.heap.size, 2, none⟩ (.int .i64 0)).setCell ⟨w.heap.size, 3, none⟩ (.int .i64 0)).setCell ⟨w.heap.size, 4, none⟩ (.slice B acc.length d)) = WF at *
      have z0 := cell_of HWF.out 0 _ rfl
      have z1 := cell_of HWF.out 1 _ rfl
      have z2 := cell_of HWF.out 2 _ rfl
      have z3 := cell_of HWF.out 3 _ rfl
      have z4 := cell_of HWF.out 4 _ rfl
      refine bodyPost_ret (v := outV ⟨false, (0, 0), 0, acc⟩ B d) (by simp [results, Tryz.results95, go_sem, z0, z1, z2, z3, z4, outV]) rfl ?_
      exact ⟨⟨false, (0, 0), 0, acc⟩, st', _, rfl, ⟨B, d, rfl, HAF.out, HDF.out, by have := HAF0.out; show acc.length ≤ 20002; omega⟩, ran_path HC.out HRN.out, HPF.out, HGF.out⟩
   ·skip
    obtain ⟨j, rfl, hjt⟩ := isS_ok hj
    rcases gk with _ | f
    ·exfalso
     have h1 : L.length < 0 + j := hfu
     have h2 : j ≤ L.length := HS.out.pc.fits
     omega
    have HFU0 : Hid (L.length < (f + 1) + j) := Lib.hid hfu
    have HAF : Hid (acc.length + (f + 1) ≤ 20002) := Lib.hid haf
    clear hfu haf
    have HKA : Hid (isT L kArc j = true) := Lib.hid hjt
    have HOA : Hid (isT L kOpen j = true ∨ isT L kArc j = true) := Lib.hid (.inr hjt)
    have HA0 : Hid (Goes (bnd pointO _) L E (.ok (j + 1)) arcO (.ok (j + 1))) := Lib.hid (Goes.refl arcO L E (.ok (j + 1)))
    clear hjt
    have HE11 : Hid (Calls Tryz.prog 145 #[.pointer (some ⟨b, 0, none⟩), .string ⟨#[40]⟩] wr fun e w' => e = .returned (.bool false) ∧ Below (wr).heap.size wr w') := Lib.hid (by
     have := ris_any kOpen b A c L E mn (.ok j) wr HS.out.pc
     rw [hq1] at this
     exact this)
    go_wp2_with fail
    refine HE11.out.mono ?_
    rintro e w11 ⟨rfl, hb⟩
    have HS11 := Lib.hid (HS.out.below hb)
    clear hb HS HE11
    have HE12 : Hid (Calls Tryz.prog 145 #[.pointer (some ⟨b, 0, none⟩), .string ⟨#[97, 114, 99]⟩] w11 fun e w' => e = .returned (.bool true) ∧ Below (w11).heap.size w11 w') := Lib.hid (by
     have := ris_any kArc b A c L E mn (.ok j) w11 HS11.out.pc
     rw [hj] at this
     exact this)
    go_wp2_with fail
    refine HE12.out.mono ?_
    rintro e w12 ⟨rfl, hb⟩
    have HS12 := Lib.hid (HS11.out.below hb)
    clear hb HS11 HE12
    have hbn := bel1 w12 (.cells #[.bool false, .int .i64 0, .int .i64 0, .int .i64 0, .int .i64 0, .bool false] 140)
    have HSn := Lib.hid (HS12.out.below hbn)
    have HQn := Lib.hid (heap_new w12 (.cells #[.bool false, .int .i64 0, .int .i64 0, .int .i64 0, .int .i64 0, .bool false] 140))
    have HSB : Hid (w.heap.size + 2 ≤ w12.heap.size) := Lib.hid (by have := blk_lt HS12.out.obj; omega)
    have HNE : Hid (∀ k, (Value.slice B acc.length d).ownBlock = some k → k ≠ w12.heap.size) := Lib.hid (fun k hk => by have := (HS12.out.own.lt k hk).2; omega)
    go_upto_region 11 with fail
    clear hbn HS12
    generalize w12.alloc (.cells #[.bool false, .int .i64 0, .int .i64 0, .int .i64 0, .int .i64 0, .bool false] 140) = Wn at *
    generalize w12.heap.size = sb at *
    have hsbb := HSB.out
    have HE13 : Hid (Calls Tryz.prog 92 #[.pointer (some ⟨b, 0, none⟩), .string ⟨#[97, 114, 99]⟩] Wn fun e w' => e = .returned (.bool true) ∧ Rc w' b A c L E (.ok (j + 1)) mn ∧ (Wn).grownBy w' (some b)) := Lib.hid (by
     have := raccept_any kArc b A c L E mn (.ok j) Wn HSn.out.pc
     rw [hj] at this
     exact this)
    go_wp2_with fail
    refine HE13.out.mono ?_
    rintro e w13 ⟨rfl, hp, hg⟩
    have HS13 := Lib.hid (HSn.out.step hp hg)
    have HQ13 := Lib.hid ((hg.block _ (blk_lt HQn.out) (by intro e; cases e; omega)).trans HQn.out)
    clear HSn HQn HE13
    clear hp hg
    have x0 := cell_of HQ13.out 0 _ rfl
    have y0 := free_of HQ13.out 0
    have HS14 := Lib.hid (HS13.out.set HSB.out HNE.out 0 (.bool true))
    have HQ14 : Hid ((w13.setCell ⟨sb, 0, none⟩ (.bool true)).heap[sb]? = some (.cells #[.bool true, .int .i64 0, .int .i64 0, .int .i64 0, .int .i64 0, .bool false] 140 (0, 0))) := Lib.hid (block_set HQ13.out 0 _)
    go_upto_region 12 with fail
    clear x0 y0 HS13 HQ13
    generalize (w13.setCell ⟨sb, 0, none⟩ (.bool true)) = W14 at *
    have HE15 := Lib.hid (rpoint_any b A c L E mn (.ok (j + 1)) W14 HS14.out.pc)
    go_wp2_with fail
    refine HE15.out.mono ?_
    rintro e w15 ⟨t, s15, rfl, hran, hp, hg⟩
    have HS15 := Lib.hid (HS14.out.step hp hg)
    have HQ15 := Lib.hid ((hg.block _ (blk_lt HQ14.out) (by intro e; cases e; omega)).trans HQ14.out)
    clear HS14 HQ14 HE15
    have HK15 := Lib.hid (HA0.out.step hran)
    clear HA0
    clear hran hp hg
    unfold ptV
    have x1 := cell_of HQ15.out 1 _ rfl
    have y1 := free_of HQ15.out 1
    have x2 := cell_of HQ15.out 2 _ rfl
    have y2 := free_of HQ15.out 2
    have HS16 := Lib.hid ((HS15.out.set HSB.out HNE.out 1 (.int .i64 t.1)).set HSB.out HNE.out 2 (.int .i64 t.2))
    have HQ16 : Hid (((w15.setCell ⟨sb, 1, none⟩ (.int .i64 t.1)).setCell ⟨sb, 2, none⟩ (.int .i64 t.2)).heap[sb]? = some (.cells #[.bool true, .int .i64 t.1, .int .i64 t.2, .int .i64 0, .int .i64 0, .bool false] 140 (0, 0))) := Lib.hid (block_set (block_set HQ15.out 1 _) 2 _)
    go_upto_region 13 with fail
    clear x1 y1 x2 y2 HS15 HQ15
    generalize ((w15.setCell ⟨sb, 1, none⟩ (.int .i64 t.1)).setCell ⟨sb, 2, none⟩ (.int .i64 t.2)) = W16 at *
    have xg := cell_of HQ16.out 0 _ rfl
    go_upto_region 14 with fail
    clear xg
    have HE17 : Hid (Calls Tryz.prog 90 #[.pointer (some ⟨b, 0, none⟩), .string ⟨#[97, 114, 111, 117, 110, 100]⟩] W16 (RRes (fun _ => .tuple #[]) (need kAround) W16 b A c L E mn s15)) := Lib.hid (rneed_any kAround b A c L E mn s15 W16 HS16.out.pc)
    go_wp2_with fail
    refine HE17.out.mono ?_
    rintro e w17 ⟨u17, s17, rfl, hran, hp, hg⟩
    have HS17 := Lib.hid (HS16.out.step hp hg)
    have HQ17 := Lib.hid ((hg.block _ (blk_lt HQ16.out) (by intro e; cases e; omega)).trans HQ16.out)
    clear HS16 HQ16 HE17
    have HK17 := Lib.hid (HK15.out.step hran)
    clear HK15
    clear hran hp hg
    have HE18 := Lib.hid (rpoint_any b A c L E mn s17 w17 HS17.out.pc)
    go_wp2_with fail
    refine HE18.out.mono ?_
    rintro e w18 ⟨u, s18, rfl, hran, hp, hg⟩
    have HS18 := Lib.hid (HS17.out.step hp hg)
    have HQ18 := Lib.hid ((hg.block _ (blk_lt HQ17.out) (by intro e; cases e; omega)).trans HQ17.out)
    clear HS17 HQ17 HE18
    have HK18 := Lib.hid (HK17.out.step hran)
    clear HK17
    clear hran hp hg
    unfold ptV
    have x3 := cell_of HQ18.out 3 _ rfl
    have y3 := free_of HQ18.out 3
    have x4 := cell_of HQ18.out 4 _ rfl
    have y4 := free_of HQ18.out 4
    have HS19 := Lib.hid ((HS18.out.set HSB.out HNE.out 3 (.int .i64 u.1)).set HSB.out HNE.out 4 (.int .i64 u.2))
    have HQ19 : Hid (((w18.setCell ⟨sb, 3, none⟩ (.int .i64 u.1)).setCell ⟨sb, 4, none⟩ (.int .i64 u.2)).heap[sb]? = some (.cells #[.bool true, .int .i64 t.1, .int .i64 t.2, .int .i64 u.1, .int .i64 u.2, .bool false] 140 (0, 0))) := Lib.hid (block_set (block_set HQ18.out 3 _) 4 _)
    go_upto_region 16 with fail
    clear x3 y3 x4 y4 HS18 HQ18
    generalize ((w18.setCell ⟨sb, 3, none⟩ (.int .i64 u.1)).setCell ⟨sb, 4, none⟩ (.int .i64 u.2)) = W19 at *
    obtain ⟨q, HQQ⟩ : ∃ q, Hid (isS L kClock s18 = q) := ⟨_, Lib.hid rfl⟩
    have HAL := Lib.hid (HK18.out.opt HQQ.out).last
    have HE20 : Hid (Calls Tryz.prog 92 #[.pointer (some ⟨b, 0, none⟩), .string ⟨#[99, 108, 111, 99, 107, 119, 105, 115, 101]⟩] W19 fun e w' => e = .returned (.bool q) ∧ Rc w' b A c L E (nextS s18 q) mn ∧ (W19).grownBy w' (some b)) := Lib.hid (by
     have := raccept_any kClock b A c L E mn s18 W19 HS19.out.pc
     rw [HQQ.out] at this
     exact this)
    go_wp2_with fail
    refine HE20.out.mono ?_
    rintro e w20 ⟨rfl, hp, hg⟩
    have HS20 := Lib.hid (HS19.out.step hp hg)
    have HQ20 := Lib.hid ((hg.block _ (blk_lt HQ19.out) (by intro e; cases e; omega)).trans HQ19.out)
    clear HS19 HQ19 HE20
    clear hp hg
    have x5 := cell_of HQ20.out 5 _ rfl
    have y5 := free_of HQ20.out 5
    have HS21 := Lib.hid (HS20.out.set HSB.out HNE.out 5 (.bool q))
    have HQ21 : Hid ((w20.setCell ⟨sb, 5, none⟩ (.bool q)).heap[sb]? = some (.cells #[.bool true, .int .i64 t.1, .int .i64 t.2, .int .i64 u.1, .int .i64 u.2, .bool q] 140 (0, 0))) := Lib.hid (block_set HQ20.out 5 _)
    go_upto_region 17 with fail
    clear x5 y5 HS20 HQ20
    generalize (w20.setCell ⟨sb, 5, none⟩ (.bool q)) = W21 at *
    have HRN := Lib.hid (step_ran_arc HKA.out HAL.out)
    have HNX := Lib.hid (HK.out.steps_more (f := f) (v := ⟨true, t, u, q⟩) (t := (nextS s18 q)) HOA.out HRN.out)
    have HFU := Lib.hid (HRN.out.fuel (f := f) HFU0.out (fun x k h => step_on h))
    clear HRN HK
    have x0 := cell_of HQ21.out 0 _ rfl
    have x1 := cell_of HQ21.out 1 _ rfl
    have x2 := cell_of HQ21.out 2 _ rfl
    have x3 := cell_of HQ21.out 3 _ rfl
    have x4 := cell_of HQ21.out 4 _ rfl
    have x5 := cell_of HQ21.out 5 _ rfl
    have o4 := cell_of HS21.out.obj 4 _ rfl
    have hb6 := bel1 W21 (.cells #[.bool true, .int .i64 t.1, .int .i64 t.2, .int .i64 u.1, .int .i64 u.2, .bool q] 140)
    have HSZ := Lib.hid (HS21.out.below hb6)
    have CN := Lib.hid (World.news_of_block (cs := #[.bool true, .int .i64 t.1, .int .i64 t.2, .int .i64 u.1, .int .i64 u.2, .bool q]) (t := 140) (fr := (0, 0)) (heap_new W21 _))
    have C2 : Hid (∀ uu ∈ ([.bool true, .int .i64 t.1, .int .i64 t.2, .int .i64 u.1, .int .i64 u.2, .bool q] : List Value), uu.oneCell' = true) := Lib.hid (by intro uu hu; simp at hu; rcases hu with rfl | rfl | rfl | rfl | rfl | rfl <;> rfl)
    have C3 : Hid (acc.length + 1 ≤ maxLen ∧ (acc.length + 1) * 48 ≤ 140737488355328) := Lib.hid (by have := HAF.out; unfold maxLen; omega)
    have C5 : Hid (w.heap.size + 2 ≤ (W21.alloc (.cells #[.bool true, .int .i64 t.1, .int .i64 t.2, .int .i64 u.1, .int .i64 u.2, .bool q] 140)).heap.size) := Lib.hid (by have := blk_lt HS21.out.obj; simp; omega)
    clear hb6
    go_wp2_with (at_builtin; refine wpList_append_own _ rfl _ _ 36 rfl (w.heap.size + 2) 140 i0 _ 6 48 Tryz.underlying36 ia ib ic id rfl (by omega) _ _ _ rfl HSZ.out.own ⟨W21.heap.size, 0, none⟩ 1 1 [.bool true, .int .i64 t.1, .int .i64 t.2, .int .i64 u.1, .int .i64 u.2, .bool q] rfl rfl CN.out C2.out C3.out.1 C3.out.2 C5.out ?_)
    intro v7 w7 hown7 hg7 _
    obtain ⟨B7, d7, rfl, _⟩ := own_shape hown7
    have HO7 := Lib.hid (old_block hg7 (fun k hk => (HSZ.out.own.lt k hk).1) (by omega) HSZ.out.obj)
    have HP7 := Lib.hid (ROt.push (x := ⟨true, t, u, q⟩) HSZ.out hown7 hg7)
    have o5 := cell_of HO7.out 4 _ rfl
    have o6 := free_of HO7.out 4
    clear hown7 hg7 x0 x1 x2 x3 x4 x5 o4
    go_wp2
    go_roundg f
    case measure => omega
    case rel => exact ⟨acc ++ [⟨true, t, u, q⟩], (nextS s18 q), B7, d7, HNX, HFU, by rw [List.length_append]; simp only [List.length_singleton]; have := HAF.out; omega, HP7⟩
  ·have hj := hq1
   clear hq1
   obtain ⟨j, rfl, hjt⟩ := isS_ok hj
   rcases gk with _ | f
   ·exfalso
    have h1 : L.length < 0 + j := hfu
    have h2 : j ≤ L.length := HS.out.pc.fits
    omega
   have HFU0 : Hid (L.length < (f + 1) + j) := Lib.hid hfu
   have HAF : Hid (acc.length + (f + 1) ≤ 20002) := Lib.hid haf
   clear hfu haf
   have HKA : Hid (isS L kArc (.ok j) = false) := Lib.hid (isT_two hjt (by decide))
   have HOA : Hid (isT L kOpen j = true ∨ isT L kArc j = true) := Lib.hid (.inl hjt)
   clear hjt
   have HE11 : Hid (Calls Tryz.prog 145 #[.pointer (some ⟨b, 0, none⟩), .string ⟨#[40]⟩] wr fun e w' => e = .returned (.bool true) ∧ Below (wr).heap.size wr w') := Lib.hid (by
    have := ris_any kOpen b A c L E mn (.ok j) wr HS.out.pc
    rw [hj] at this
    exact this)
   go_wp2_with fail
   refine HE11.out.mono ?_
   rintro e w11 ⟨rfl, hb⟩
   have HS11 := Lib.hid (HS.out.below hb)
   clear hb HS HE11
   have hbn := bel1 w11 (.cells #[.bool false, .int .i64 0, .int .i64 0, .int .i64 0, .int .i64 0, .bool false] 140)
   have HSn := Lib.hid (HS11.out.below hbn)
   have HQn := Lib.hid (heap_new w11 (.cells #[.bool false, .int .i64 0, .int .i64 0, .int .i64 0, .int .i64 0, .bool false] 140))
   have HSB : Hid (w.heap.size + 2 ≤ w11.heap.size) := Lib.hid (by have := blk_lt HS11.out.obj; omega)
   have HNE : Hid (∀ k, (Value.slice B acc.length d).ownBlock = some k → k ≠ w11.heap.size) := Lib.hid (fun k hk => by have := (HS11.out.own.lt k hk).2; omega)
   go_upto_region 11 with fail
   clear hbn HS11
   generalize w11.alloc (.cells #[.bool false, .int .i64 0, .int .i64 0, .int .i64 0, .int .i64 0, .bool false] 140) = Wn at *
   generalize w11.heap.size = sb at *
   have hsbb := HSB.out
   have HE12 : Hid (Calls Tryz.prog 92 #[.pointer (some ⟨b, 0, none⟩), .string ⟨#[97, 114, 99]⟩] Wn fun e w' => e = .returned (.bool false) ∧ Rc w' b A c L E (.ok j) mn ∧ (Wn).grownBy w' (some b)) := Lib.hid (by
    have := raccept_any kArc b A c L E mn (.ok j) Wn HSn.out.pc
    rw [HKA.out] at this
    exact this)
   go_wp2_with fail
   refine HE12.out.mono ?_
   rintro e w12 ⟨rfl, hp, hg⟩
   have HS12 := Lib.hid (HSn.out.step hp hg)
   have HQ12 := Lib.hid ((hg.block _ (blk_lt HQn.out) (by intro e; cases e; omega)).trans HQn.out)
   clear HSn HQn HE12
   clear hp hg
   have x0 := cell_of HQ12.out 0 _ rfl
   have y0 := free_of HQ12.out 0
   have HS13 := Lib.hid (HS12.out.set HSB.out HNE.out 0 (.bool false))
   have HQ13 : Hid ((w12.setCell ⟨sb, 0, none⟩ (.bool false)).heap[sb]? = some (.cells #[.bool false, .int .i64 0, .int .i64 0, .int .i64 0, .int .i64 0, .bool false] 140 (0, 0))) := Lib.hid (block_set HQ12.out 0 _)
   go_upto_region 12 with fail
   clear x0 y0 HS12 HQ12
   generalize (w12.setCell ⟨sb, 0, none⟩ (.bool false)) = W13 at *
   have HE15 := Lib.hid (rpoint_any b A c L E mn (.ok j) W13 HS13.out.pc)
   go_wp2_with fail
   refine HE15.out.mono ?_
   rintro e w15 ⟨t, s15, rfl, hran, hp, hg⟩
   have HS15 := Lib.hid (HS13.out.step hp hg)
   have HQ15 := Lib.hid ((hg.block _ (blk_lt HQ13.out) (by intro e; cases e; omega)).trans HQ13.out)
   clear HS13 HQ13 HE15
   have HRA15 := Lib.hid hran
   clear hran hp hg
   unfold ptV
   have x1 := cell_of HQ15.out 1 _ rfl
   have y1 := free_of HQ15.out 1
   have x2 := cell_of HQ15.out 2 _ rfl
   have y2 := free_of HQ15.out 2
   have HS16 := Lib.hid ((HS15.out.set HSB.out HNE.out 1 (.int .i64 t.1)).set HSB.out HNE.out 2 (.int .i64 t.2))
   have HQ16 : Hid (((w15.setCell ⟨sb, 1, none⟩ (.int .i64 t.1)).setCell ⟨sb, 2, none⟩ (.int .i64 t.2)).heap[sb]? = some (.cells #[.bool false, .int .i64 t.1, .int .i64 t.2, .int .i64 0, .int .i64 0, .bool false] 140 (0, 0))) := Lib.hid (block_set (block_set HQ15.out 1 _) 2 _)
   go_upto_region 13 with fail
   clear x1 y1 x2 y2 HS15 HQ15
   generalize ((w15.setCell ⟨sb, 1, none⟩ (.int .i64 t.1)).setCell ⟨sb, 2, none⟩ (.int .i64 t.2)) = W16 at *
   have xg := cell_of HQ16.out 0 _ rfl
   go_upto_region 17 with fail
   clear xg
   have HRN := Lib.hid (step_ran_line HKA.out (show Ran lineO L E (.ok j) (⟨false, t, (0, 0), false⟩ : Step) _ from HRA15.out.bnd (G := fun t => ret (⟨false, t, (0, 0), false⟩ : Step)) (ran_ret L E _ _)))
   have HNX := Lib.hid (HK.out.steps_more (f := f) (v := ⟨false, t, (0, 0), false⟩) (t := s15) HOA.out HRN.out)
   have HFU := Lib.hid (HRN.out.fuel (f := f) HFU0.out (fun x k h => step_on h))
   clear HRN HK
   have x0 := cell_of HQ16.out 0 _ rfl
   have x1 := cell_of HQ16.out 1 _ rfl
   have x2 := cell_of HQ16.out 2 _ rfl
   have x3 := cell_of HQ16.out 3 _ rfl
   have x4 := cell_of HQ16.out 4 _ rfl
   have x5 := cell_of HQ16.out 5 _ rfl
   have o4 := cell_of HS16.out.obj 4 _ rfl
   have hb6 := bel1 W16 (.cells #[.bool false, .int .i64 t.1, .int .i64 t.2, .int .i64 0, .int .i64 0, .bool false] 140)
   have HSZ := Lib.hid (HS16.out.below hb6)
   have CN := Lib.hid (World.news_of_block (cs := #[.bool false, .int .i64 t.1, .int .i64 t.2, .int .i64 0, .int .i64 0, .bool false]) (t := 140) (fr := (0, 0)) (heap_new W16 _))
   have C2 : Hid (∀ uu ∈ ([.bool false, .int .i64 t.1, .int .i64 t.2, .int .i64 0, .int .i64 0, .bool false] : List Value), uu.oneCell' = true) := Lib.hid (by intro uu hu; simp at hu; rcases hu with rfl | rfl | rfl | rfl | rfl | rfl <;> rfl)
   have C3 : Hid (acc.length + 1 ≤ maxLen ∧ (acc.length + 1) * 48 ≤ 140737488355328) := Lib.hid (by have := HAF.out; unfold maxLen; omega)
   have C5 : Hid (w.heap.size + 2 ≤ (W16.alloc (.cells #[.bool false, .int .i64 t.1, .int .i64 t.2, .int .i64 0, .int .i64 0, .bool false] 140)).heap.size) := Lib.hid (by have := blk_lt HS16.out.obj; simp; omega)
   clear hb6
   go_wp2_with (at_builtin; refine wpList_append_own _ rfl _ _ 36 rfl (w.heap.size + 2) 140 i0 _ 6 48 Tryz.underlying36 ia ib ic id rfl (by omega) _ _ _ rfl HSZ.out.own ⟨W16.heap.size, 0, none⟩ 1 1 [.bool false, .int .i64 t.1, .int .i64 t.2, .int .i64 0, .int .i64 0, .bool false] rfl rfl CN.out C2.out C3.out.1 C3.out.2 C5.out ?_)
   intro v7 w7 hown7 hg7 _
   obtain ⟨B7, d7, rfl, _⟩ := own_shape hown7
   have HO7 := Lib.hid (old_block hg7 (fun k hk => (HSZ.out.own.lt k hk).1) (by omega) HSZ.out.obj)
   have HP7 := Lib.hid (ROt.push (x := ⟨false, t, (0, 0), false⟩) HSZ.out hown7 hg7)
   have o5 := cell_of HO7.out 4 _ rfl
   have o6 := free_of HO7.out 4
   clear hown7 hg7 x0 x1 x2 x3 x4 x5 o4
   go_wp2
   go_roundg f
   case measure => omega
   case rel => exact ⟨acc ++ [⟨false, t, (0, 0), false⟩], s15, B7, d7, HNX, HFU, by rw [List.length_append]; simp only [List.length_singleton]; have := HAF.out; omega, HP7⟩
theorem routline_any (b : Nat) (A : Option Addr) (c : Nat) (L : List Tok) (E : Nat) (mn : Bool) (st : St) (w : World) (h : Rc w b A c L E st mn) :
  Calls Tryz.prog 95 #[.pointer (some ⟨b, 0, none⟩)] w (RResP ROutP long routlineO w b A c L E mn st) := by
 cases hc : isS L kCircle st
 ·exact routline_path b A c L E mn st w h hc
 ·obtain ⟨i, rfl, _⟩ := isS_ok hc
  exact routline_circle b A c L E mn i w h hc
end Go.Proofs.YtnkkcknogkgdkaaGreatDoor.PaW
