/- Walk: whether a shape is valid. Conditions: the shape lies in memory. -/
import Derived.Test.YtnmmhcchpcbeeaaGreatWh2
import Derived.Test.YtnmmhcchpcbeeaaGreatRgW
import Derived.RangeFuncNested
import Derived.RangeFuncBound
import Derived.RangeFuncCalls
import Derived.RangeFuncLeaves
import Derived.Shelf.Abstract
import Derived.Shelf.RegionOpen
import Derived.WalkKit
import Derived.OwnWalkIn
import Derived.TacticsInMore
import Derived.LoopNIn
import Derived.LoopIn

namespace Go.Proofs.YtnmmhcchpcbeeaaGreat.GeW
open Go Go.RowKit Go.Proofs.YtnmmhcchpcbeeaaGreat.Mem Go.Proofs.YtnmmhcchpcbeeaaGreat.Ge
attribute [local go_sem ↓] Go.wp_at_zero Go.wp_at_succ
theorem one_at {w w' : World} {b : Nat} {x : Value} {t : TypeId} (h : w.heap[b]? = some (.cells #[x] t (0, 0))) (hb : Below w.heap.size w w') : w'.cell? ⟨b, 0, none⟩ = some x := by
  have h' := (hb.block b (lt_of_block h)).trans h
  simp [World.cell?, h']
/-- Not at the place. -/
def offB (l : List V) (pl : Int) (v : V) : Bool := whereL (edges l) v false != pl
set_option maxRecDepth 100000 in
theorem all1_any (l : List V) (A : Option Addr) (c : Nat) (x y pl : Int) (b4 b5 : Nat) (w : World) (hr : Row w A (l.flatMap ptCells)) (hv : ringB l = true) (hp : within (x, y) 2000 = true) (hb : w.heap[b4]? = some (.cells #[.slice A l.length c] 26 (0, 0)) ∧ w.heap[b5]? = some (.cells #[.int .i64 pl] 3 (0, 0))) :
    Calls Tryz.prog 134 #[.agg #[.int .i64 x, .int .i64 y], .pointer (some ⟨b4, 0, none⟩), .pointer (some ⟨b5, 0, none⟩)] w fun e w' => e = .returned (.bool (offB l pl (x, y))) ∧ Below w.heap.size w w' := by
  have HO := Lib.hid (one_vec w (.cells #[.int .i64 x, .int .i64 y] 53))
  have HWH := Lib.hid (fun W (hW : Below w.heap.size w W) => where_any l x y A c W (hr.below hW) hv hp)
  have HE : Hid (offB l pl (x, y) = (whereL (edges l) (x, y) false != pl)) := Lib.hid rfl
  generalize offB l pl (x, y) = ob at *
  generalize whereL (edges l) (x, y) false = rv at *
  have H1 := Lib.hid hb.1
  have H2 := Lib.hid hb.2
  clear hr hv hp hb
  go_enter Tryz.func134, Tryz.ntmps134
  go_upto_region 1 with fail
  have W4 := Lib.hid ((HO.out.1.block _ (lt_of_block H1.out)).trans H1.out)
  have W5 := Lib.hid ((HO.out.1.block _ (lt_of_block H2.out)).trans H2.out)
  generalize w.alloc (.cells #[.int .i64 x, .int .i64 y] 53) = wr at *
  have P0 := fun p : Later wr => one_at W4.out p.h
  have P1 := fun p : Later wr => one_at W5.out p.h
  have X0 := fun p : Later wr => (pair_at HO.out.2 p.h).1
  have X1 := fun p : Later wr => (pair_at HO.out.2 p.h).2
  have HWL := Lib.hid (fun p : Later wr => HWH.out p.w (HO.out.1.trans (p.h.mono HO.out.1.size)))
  refine wp_region_later wr (by kernel_rfl) (by kernel_rfl) (Below.refl _ _) ?_
  repeat (go_big_quiet_step (first | (go_at_call 55; with_reducible exact Calls.later (HWL.out _))))
  refine wpQuiet_nil ?_
  rintro w9 hex; have hb9 := later_of hex; clear hex
  have HB9 := Lib.hid (HO.out.1.trans (hb9.mono HO.out.1.size))
  clear P0 P1 X0 X1 hb9
  go_wp2
  go_ret
  rw [HE.out]
  exact ⟨rfl, HB9.out⟩
set_option maxRecDepth 100000 in
set_option maxHeartbeats 1000000 in
theorem idxOff_any (l m : List V) (A B : Option Addr) (c d : Nat) (pl : Int) (b4 b5 : Nat) (w : World) (hr : Row w A (l.flatMap ptCells)) (hv : ringB l = true) (hs : Row w B (m.flatMap ptCells)) (hn : near m = true) (hl : m.length ≤ 17592186043904) (hb : w.heap[b4]? = some (.cells #[.slice A l.length c] 26 (0, 0)) ∧ w.heap[b5]? = some (.cells #[.int .i64 pl] 3 (0, 0))) :
    Calls Tryz.prog 179 #[.slice B m.length d, .func (.func 134) #[] #[.pointer (some ⟨b4, 0, none⟩), .pointer (some ⟨b5, 0, none⟩)]] w fun e w' => e = .returned (.int .i64 (idx (offB l pl) m 0)) ∧ Below w.heap.size w w' := by
  have HR := Lib.hid hs
  have HCL := Lib.hid (fun (v : V) (hp : within v 2000 = true) W (hW : Below w.heap.size w W) => all1_any l A c v.1 v.2 pl b4 b5 W (hr.below hW) hv hp ⟨(hW.block _ (lt_of_block hb.1)).trans hb.1, (hW.block _ (lt_of_block hb.2)).trans hb.2⟩)
  have HN := Lib.hid hn
  clear hs hr hv hn hb
  have hst := Lib.hid (show idx (offB l pl) m 0 = idx (offB l pl) (m.drop 0) 0 by simp)
  go_enter Tryz.func179, Tryz.ntmps179
  go_wp2
  go_loopw [5, 8] (fun _ t wr => ∃ k : Nat, k ≤ m.length ∧ t = .int .i64 k ∧ Hid (idx (offB l pl) m 0 = idx (offB l pl) (m.drop k) k) ∧ Below w.heap.size w wr) (fun _ t _ => m.length - (intOf t).toNat)
  case atStart => exact ⟨0, Nat.zero_le _, rfl, hst, Below.refl _ _⟩
  case round =>
    obtain ⟨k, hk, rfl, hd, hbel⟩ := hrel
    by_cases hlt : k < m.length
    · obtain ⟨g, off, rfl, hg, ca⟩ := row_get pt_len (by decide) HR.out (by omega)
      have a0 := (hbel.cell (p := ⟨g, off + k * 2, none⟩) hg).trans (ca k hlt 0 (by decide))
      have a1 := (hbel.cell (p := ⟨g, off + k * 2 + 1, none⟩) hg).trans (ca k hlt 1 (by decide))
      have hno := Lib.hid (idx_no (offB l pl) m k hlt)
      have hyes := Lib.hid (idx_yes (offB l pl) m k hlt)
      have HM := Lib.hid (fun W hW => HCL.out m[k] (List.all_eq_true.1 HN.out _ (List.getElem_mem hlt)) W hW)
      have hk1 : (0 : Int) ≤ (k : Int) := by omega
      have hk2 : (k : Int) < (m.length : Int) := by omega
      clear ca
      generalize m[k] = q at *
      obtain ⟨mx, my⟩ := q
      simp only [ptCells, List.getElem?_cons_zero, List.getElem?_cons_succ] at a0 a1
      generalize offB l pl (mx, my) = b at *
      cases b
      · go_wp2_with fail
        refine (HM.out _ hbel).mono ?_
        rintro e w2 ⟨rfl, hb2⟩
        have HB2 := Lib.hid (hbel.trans (hb2.mono hbel.size))
        clear hb2
        go_wp2
        go_roundw
        case rel => exact ⟨k + 1, hlt, by go_num, Lib.hid (hd.out.trans (hno.out trivial)), HB2.out⟩
        case measure => simp [intOf]; omega
      · go_wp2_with fail
        refine (HM.out _ hbel).mono ?_
        rintro e w2 ⟨rfl, hb2⟩
        have HB2 := Lib.hid (hbel.trans (hb2.mono hbel.size))
        clear hb2
        go_wp2
        go_ret
        rw [hd.out, hyes.out trivial]
        exact ⟨rfl, HB2.out⟩
    · obtain rfl : k = m.length := by omega
      go_wp2
      go_ret
      rw [hd.out, List.drop_length]
      exact ⟨rfl, hbel⟩
theorem anyOff_any (l m : List V) (A B : Option Addr) (c d : Nat) (pl : Int) (b4 b5 : Nat) (w : World) (hr : Row w A (l.flatMap ptCells)) (hv : ringB l = true) (hs : Row w B (m.flatMap ptCells)) (hn : near m = true) (hl : m.length ≤ 17592186043904) (hb : w.heap[b4]? = some (.cells #[.slice A l.length c] 26 (0, 0)) ∧ w.heap[b5]? = some (.cells #[.int .i64 pl] 3 (0, 0))) :
    Calls Tryz.prog 133 #[.slice B m.length d, .func (.func 134) #[] #[.pointer (some ⟨b4, 0, none⟩), .pointer (some ⟨b5, 0, none⟩)]] w fun e w' => e = .returned (.bool (m.any (offB l pl))) ∧ Below w.heap.size w w' := by
  have hi := Lib.hid (idxOff_any l m A B c d pl b4 b5 w hr hv hs hn hl hb)
  have hq := Lib.hid (idx_ge (offB l pl) m 0)
  clear hr hs hb
  go_enter Tryz.func133, Tryz.ntmps133
  go_wp2_with fail
  refine hi.out.mono ?_
  rintro e w1 ⟨rfl, hb1⟩
  go_wp2
  go_ret
  rw [hq.out]
  exact ⟨rfl, hb1⟩
/-- All of m at a place with regard to l. -/
def allAt (l m : List V) (pl : Int) : Bool := m.all fun v => decide (whereL (edges l) v false = pl)
theorem allAt_off (l m : List V) (pl : Int) : (!m.any (offB l pl)) = allAt l m pl := by
  unfold allAt offB
  rw [Bool.eq_iff_iff]
  simp
theorem allB_at {l m : List V} {pl : Int} (hv : ringB l = true) (hn : near m = true) : allB m l pl = allAt l m pl := by
  unfold allB allAt
  rw [Bool.eq_iff_iff]
  simp only [List.all_eq_true, decide_eq_true_eq]
  have h : ∀ v ∈ m, whereB l v = whereL (edges l) v false := fun v hm => by
    unfold whereB
    rw [within_more (List.all_eq_true.1 hn v hm) (by omega), hv]
    rfl
  exact ⟨fun g v hm => (h v hm) ▸ g v hm, fun g v hm => (h v hm).trans (g v hm)⟩
set_option maxRecDepth 100000 in
theorem allAt_any (l m : List V) (A B : Option Addr) (c d : Nat) (pl : Int) (w : World) (hr : Row w A (l.flatMap ptCells)) (hv : ringB l = true) (hs : Row w B (m.flatMap ptCells)) (hn : near m = true) (hl : m.length ≤ 17592186043904) :
    Calls Tryz.prog 72 #[.slice B m.length d, .slice A l.length c, .int .i64 pl] w fun e w' => e = .returned (.bool (allB m l pl)) ∧ Below w.heap.size w w' := by
  rw [allB_at hv hn, ← allAt_off]
  have HX := Lib.hid (two_vecs w (.cells #[.slice A l.length c] 26) (.cells #[.int .i64 pl] 3))
  have HB := Lib.hid ((bel1 w (.cells #[.slice A l.length c] 26)).alloc (by simp) (.cells #[.int .i64 pl] 3))
  have HC := Lib.hid (anyOff_any l m A B c d pl w.heap.size (w.heap.size + 1) ((w.alloc (.cells #[.slice A l.length c] 26)).alloc (.cells #[.int .i64 pl] 3)) (hr.below HB.out) hv (hs.below HB.out) hn hl HX.out)
  clear hr hs
  generalize m.any (offB l pl) = b at *
  go_enter Tryz.func72, Tryz.ntmps72
  go_wp2_with fail
  refine HC.out.mono ?_
  rintro e w1 ⟨rfl, hb1⟩
  go_wp2
  go_ret
  exact ⟨rfl, HB.out.trans (hb1.mono HB.out.size)⟩
set_option maxRecDepth 100000 in
set_option maxHeartbeats 2000000 in
theorem apart_any (l m : List V) (A B : Option Addr) (c d : Nat) (w : World) (hr : Row w A (l.flatMap ptCells)) (hs : Row w B (m.flatMap ptCells)) (hl : 2 ≤ l.length ∧ l.length ≤ 200) (hm : 2 ≤ m.length ∧ m.length ≤ 200) :
    Calls Tryz.prog 73 #[.slice A l.length c, .slice B m.length d] w fun e w' => e = .returned (.bool (apartB l m)) ∧ Below w.heap.size w w' := by
  have HEA := Lib.hid (edges_any l A c w hr hl.2 hl.1)
  have HEB := Lib.hid (fun W (hW : Below w.heap.size w W) => edges_any m B d W (hs.below hW) hm.2 hm.1)
  have HQ : Hid (apartB l m = (edgesN l l.length).all fun x => (edgesN m m.length).all fun y => decide (meetK x y = 0)) := Lib.hid (by unfold apartB; rw [edges_get hl.1, edges_get hm.1]; rfl)
  have hla := edgesN_len l l.length
  have hlb := edgesN_len m m.length
  have HLA := Lib.hid hla.symm
  have HLB := Lib.hid hlb.symm
  generalize apartB l m = ab at *
  generalize edgesN l l.length = ea at *
  generalize edgesN m m.length = eb at *
  have hl1 := hl.1
  have hm1 := hm.1
  have hl2 := hl.2
  have hm2 := hm.2
  clear hr hs hl hm HLA HLB
  generalize l.length = n at *
  generalize m.length = mn at *
  subst hla
  subst hlb
  go_enter Tryz.func73, Tryz.ntmps73
  go_wp2_with fail
  refine HEA.out.mono ?_
  rintro e w1 ⟨v, rfl, hown, hb1⟩
  obtain ⟨ga, ka, rfl, hca, hga, hgaw, hcell⟩ := own_get seg_len rfl hown (by omega)
  have HCga := Lib.hid hcell
  have HB1 := Lib.hid hb1
  clear hcell hown hb1 hga
  go_wp2
  go_loopw [6, 8, 12] (fun _ _ i wr => ∃ k : Nat, i = .int .i64 (k : Int) ∧ k ≤ ea.length ∧ Hid (ab = (ea.drop k).all fun x => eb.all fun y => decide (meetK x y = 0)) ∧ Hid (Below w1.heap.size w1 wr)) (fun _ _ i _ => ea.length - (intOf i).toNat)
  case atStart => exact ⟨0, rfl, Nat.zero_le _, HQ, Lib.hid (Below.refl _ _)⟩
  case round =>
    obtain ⟨k, rfl, hk, HD, HBA⟩ := hrel
    by_cases hltA : k < ea.length
    · have HD1 : Hid (ab = ((eb.all fun y => decide (meetK ea[k] y = 0)) && (ea.drop (k + 1)).all fun x => eb.all fun y => decide (meetK x y = 0))) := Lib.hid (by rw [HD.out, List.drop_eq_getElem_cons hltA, List.all_cons])
      have c0 := (HBA.out.cell (p := ⟨ga, k * 4 + 0, none⟩) hgaw).trans (HCga.out k hltA 0 (by decide))
      have c1 := (HBA.out.cell (p := ⟨ga, k * 4 + 1, none⟩) hgaw).trans (HCga.out k hltA 1 (by decide))
      have c2 := (HBA.out.cell (p := ⟨ga, k * 4 + 2, none⟩) hgaw).trans (HCga.out k hltA 2 (by decide))
      have c3 := (HBA.out.cell (p := ⟨ga, k * 4 + 3, none⟩) hgaw).trans (HCga.out k hltA 3 (by decide))
      generalize ea[k] = e at *
      obtain ⟨⟨ax, ay⟩, bx, b_y⟩ := e
      simp only [segCells, List.getElem?_cons_zero, List.getElem?_cons_succ, Nat.add_zero] at c0 c1 c2 c3
      have hk1 : (0 : Int) ≤ (k : Int) := by omega
      have HO := Lib.hid (one_vec wr (.cells #[.int .i64 ax, .int .i64 ay, .int .i64 bx, .int .i64 b_y] 74))
      have HBW := Lib.hid (HB1.out.trans ((HBA.out.trans (HO.out.1.mono HBA.out.size)).mono HB1.out.size))
      go_wp2_with fail
      clear c0 c1 c2 c3
      generalize wr.alloc (.cells #[.int .i64 ax, .int .i64 ay, .int .i64 bx, .int .i64 b_y] 74) = W at *
      refine (HEB.out _ HBW.out).mono ?_
      rintro e w2 ⟨v, rfl, hown, hb2⟩
      obtain ⟨gb, kb, rfl, hcb, hgb, hgbw, hcell⟩ := own_get seg_len rfl hown (by omega)
      have HCgb := Lib.hid hcell
      have HX2 := Lib.hid ((hb2.block _ (lt_of_block HO.out.2)).trans HO.out.2)
      have HBA2 := Lib.hid (HBA.out.trans ((HO.out.1.trans (hb2.mono HO.out.1.size)).mono HBA.out.size))
      clear hcell hown hb2 hgb HBW HO
      go_wp2
      go_loopw [8, 19] (fun _ i wr => ∃ j : Nat, i = .int .i64 (j : Int) ∧ j ≤ eb.length ∧ Hid ((eb.all fun y => decide (meetK ((ax, ay), bx, b_y) y = 0)) = ((eb.drop j).all fun y => decide (meetK ((ax, ay), bx, b_y) y = 0))) ∧ Hid (Below w2.heap.size w2 wr)) (fun _ i _ => eb.length - (intOf i).toNat)
      case atStart => exact ⟨0, rfl, Nat.zero_le _, Lib.hid rfl, Lib.hid (Below.refl _ _)⟩
      case round =>
        obtain ⟨j, rfl, hj, HDJ, HBB⟩ := hrel
        by_cases hltB : j < eb.length
        · have HD2 : Hid ((eb.all fun y => decide (meetK ((ax, ay), bx, b_y) y = 0)) = (decide (meetK ((ax, ay), bx, b_y) eb[j] = 0) && ((eb.drop (j + 1)).all fun y => decide (meetK ((ax, ay), bx, b_y) y = 0)))) := Lib.hid (by rw [HDJ.out, List.drop_eq_getElem_cons hltB, List.all_cons])
          have d0 := (HBB.out.cell (p := ⟨gb, j * 4 + 0, none⟩) hgbw).trans (HCgb.out j hltB 0 (by decide))
          have d1 := (HBB.out.cell (p := ⟨gb, j * 4 + 1, none⟩) hgbw).trans (HCgb.out j hltB 1 (by decide))
          have d2 := (HBB.out.cell (p := ⟨gb, j * 4 + 2, none⟩) hgbw).trans (HCgb.out j hltB 2 (by decide))
          have d3 := (HBB.out.cell (p := ⟨gb, j * 4 + 3, none⟩) hgbw).trans (HCgb.out j hltB 3 (by decide))
          generalize eb[j] = e at *
          obtain ⟨⟨cx, cy⟩, dx, dy⟩ := e
          simp only [segCells, List.getElem?_cons_zero, List.getElem?_cons_succ, Nat.add_zero] at d0 d1 d2 d3
          have hj1 : (0 : Int) ≤ (j : Int) := by omega
          have HME := Lib.hid (fun W => Meet_any ax ay bx b_y cx cy dx dy W)
          generalize meetK ((ax, ay), bx, b_y) ((cx, cy), dx, dy) = mk at *
          have HO2 := Lib.hid (one_vec wr (.cells #[.int .i64 cx, .int .i64 cy, .int .i64 dx, .int .i64 dy] 74))
          have HB2 := Lib.hid (HBB.out.trans (HO2.out.1.mono HBB.out.size))
          obtain ⟨x0, x1, x2, x3⟩ := quad_at HX2.out HB2.out
          go_wp2_with fail
          refine (HME.out _).mono ?_
          rintro e w3 ⟨rfl, hb3⟩
          have HB3 := Lib.hid (HB2.out.trans (hb3.mono HB2.out.size))
          clear d0 d1 d2 d3 x0 x1 x2 x3 hb3
          by_cases hmk : mk = 0
          · have m1 : (mk != 0) = false := bne_eq_false_iff_eq.2 hmk
            have HD3 : Hid ((eb.all fun y => decide (meetK ((ax, ay), bx, b_y) y = 0)) = ((eb.drop (j + 1)).all fun y => decide (meetK ((ax, ay), bx, b_y) y = 0))) := Lib.hid (by rw [HD2.out, hmk]; rfl)
            clear hmk
            go_wp2
            go_roundw
            case rel => exact ⟨j + 1, by go_num, by omega, HD3, HB3⟩
            case measure => simp [intOf]; omega
          · have m1 : (mk != 0) = true := bne_iff_ne.2 hmk
            have HF : Hid (ab = false) := Lib.hid (by rw [HD1.out, HD2.out, decide_eq_false hmk]; rfl)
            clear hmk
            go_wp2
            go_ret
            rw [HF.out]
            exact ⟨rfl, HB1.out.trans ((HBA2.out.trans (HB3.out.mono HBA2.out.size)).mono HB1.out.size)⟩
        · obtain rfl : j = eb.length := by omega
          have HD3 : Hid (ab = (ea.drop (k + 1)).all fun x => eb.all fun y => decide (meetK x y = 0)) := Lib.hid (by rw [HD1.out, HDJ.out, List.drop_length]; rfl)
          go_wp2
          go_roundw
          case rel => exact ⟨k + 1, by go_num, by omega, HD3, Lib.hid (HBA2.out.trans (HBB.out.mono HBA2.out.size))⟩
          case measure => simp [intOf]; omega
    · obtain rfl : k = ea.length := by omega
      have HF : Hid (ab = true) := Lib.hid (by rw [HD.out, List.drop_length]; rfl)
      go_wp2
      go_ret
      rw [HF.out]
      exact ⟨rfl, HB1.out.trans (HBA.out.mono HB1.out.size)⟩
end Go.Proofs.YtnmmhcchpcbeeaaGreat.GeW

namespace Go.Proofs.YtnmmhcchpcbeeaaGreat.GeW
open Go Go.RowKit

/-- Nothing that lay has turned but the box b. -/
structure Turn (b : Nat) (w w' : World) : Prop where
  os : w'.os = w.os
  tape : w'.tape = w.tape
  output : w'.output = w.output
  size : w.heap.size ≤ w'.heap.size
  block : ∀ k, k < w.heap.size → k ≠ b → w'.heap[k]? = w.heap[k]?

theorem Turn.of_below {b : Nat} {w w' : World} (h : Below w.heap.size w w') : Turn b w w' := ⟨h.os, h.tape, h.output, h.size, fun k hk _ => h.block k hk⟩

theorem Turn.put {b : Nat} (w : World) (v : Value) : Turn b w (w.setCell ⟨b, 0, none⟩ v) := ⟨rfl, rfl, rfl, by simp [World.setCell], fun _ _ hne => Below.heap_setCell _ _ _ _ hne⟩

/-- What a round that goes on leaves as it lay: the box, and the library's first variable. -/
structure Leaves (b N : Nat) (A B : World) : Prop where
  own : B.heap[b]? = A.heap[b]?
  first : ∀ k, k < N → B.heap[k]? = A.heap[k]?
theorem Leaves.trans {b N : Nat} {A B C : World} (h : Leaves b N A B) (k : Leaves b N B C) : Leaves b N A C := ⟨k.own.trans h.own, fun j hj => (k.first j hj).trans (h.first j hj)⟩
theorem Leaves.put {b N l : Nat} (A : World) (o : Obj) (h : b < l) (hN : N ≤ l) : Leaves b N A (A.putObj l o) := ⟨World.putObj_heap_other (by omega), fun k hk => World.putObj_heap_other (by omega)⟩

variable {F : Fence} {n : Nat} {P : Program}

/-- The iterator's word: all of xs, one by one, or, where a round has said 'no more', a part. -/
def GivesAll {α : Type} (F : Fence) (n : Nat) (P : Program) (g : Nat) (lb : Array Value) (encs : α → Array Value) (b N : Nat) (xs : List α) (w : World) : Prop :=
  ∀ (l : Nat) (J Jx : List α → World → Prop) (W : World), Below w.heap.size w W → (∀ s A B, J s A → Turn b A B → J s B) → (∀ s A B, Jx s A → Turn b A B → Jx s B) →
    (∀ pre x A, J pre A → pre ++ [x] <+: xs → YieldAt F (n - 1) P l (encs x) A fun e B =>
      (e = .returned (.bool true) ∧ J (pre ++ [x]) B ∧ Leaves b N A B) ∨ (e = .returned (.bool false) ∧ Jx (pre ++ [x]) B)) →
    J [] W →
    CallsIn F n P g (#[.func (.yield l) #[] #[]] ++ lb) W fun e B => (∃ v, e = .returned v) ∧ (J xs B ∨ ∃ pre, pre <+: xs ∧ Jx pre B)

def goesOn {α : Type} (b N : Nat) (I : List α → World → Prop) (Ix : Code → List α → World → Prop) (xs : List α) (W : World) : Exit → Act → World → Prop
  | .normal, _, B => KeepsOthers W B ∧ Leaves b N W B ∧ I xs B
  | .ret, _, B => KeepsOthers W B ∧ Ix .ret xs B
  | .exit i, _, B => KeepsOthers W B ∧ Ix (.exit i) xs B
  | .goto t, _, B => KeepsOthers W B ∧ Ix (.goto t) xs B
  | .panic _, _, _ => False
  | .outgrown, _, _ => False

theorem wpIn_rangeFunc_box {α : Type} {g : Operand} {ps : Array Tmp} {assign body : Code} {Q : Exit → Act → World → Prop} {a : Act} {w : World}
    (hro : F.round = none) (h1 : 1 ≤ n) {gf : Nat} {lb : Array Value} (hg : a.eval g = .func (.func gf) #[] lb) (hFg : F.fn gf) (eg : ∀ args w, (callFunc gf args).run P w = .ok (.enter gf args) w)
    {encs : α → Array Value} {b N : Nat} (hb : b < w.heap.size) (hN : N ≤ w.heap.size) {xs : List α} (hseq : GivesAll F (n - 1) P gf lb encs b N xs w) (hps : ∀ x, (encs x).size = ps.size)
    (I : List α → World → Prop) (Ix : Code → List α → World → Prop)
    (hI : ∀ s A B, I s A → Turn b A B → I s B) (hI2 : ∀ s A l o o', I s A → w.heap.size ≤ l → A.heap[l]? = some o → o.isCells = false → I s (A.putObj l o'))
    (hX : ∀ c s A B, Ix c s A → Turn b A B → Ix c s B) (hX2 : ∀ c s A l o o', Ix c s A → w.heap.size ≤ l → A.heap[l]? = some o → o.isCells = false → Ix c s (A.putObj l o'))
    (h0 : I [] w) (a₁ : α → Act)
    (hassign : ∀ (l : Nat) (x : α) (W : World) (K : Act → World → Prop), K (a₁ x) W →
      assign.wpIn (F.inRound l) (n - 1 - 1) P (Exit.then K (fun _ _ _ => False)) { tmps := (ps.zip (encs x)).foldl (fun t (p, v) => t.setIfInBounds p v) a.tmps, defers := [] } W)
    (hbody : ∀ (l : Nat) (pre : List α) (x : α) (W : World), I pre W → pre ++ [x] <+: xs → body.wpIn (F.inRound l) (n - 1 - 1) P (goesOn b N I Ix (pre ++ [x]) W) (a₁ x) W)
    (hdone : ∀ (D : Nat) (W : World), w.heap.size ≤ D → I xs W → W.heap[D]? = some (.deferred (some [])) → Q .normal { a with defers := { target := .collected D, args := #[] } :: a.defers } W)
    (hstop : ∀ (D : Nat) (c : Code) (pre : List α) (W : World), w.heap.size ≤ D → pre <+: xs → Ix c pre W → W.heap[D]? = some (.deferred (some [])) → c.wpIn F n P Q { a with defers := { target := .collected D, args := #[] } :: a.defers } W) :
    (Code.rangeFunc g ps assign body).wpIn F n P Q a w := by
  refine wpIn_rangeFunc fun fn hfn => ?_
  rw [hro]
  generalize hD : w.heap.size = D at *
  let rec' : LoopState → Option Code → Loop := fun st pe => { state := st, pending := pe, fn, tmps := a.tmps, params := ps, assign, body, defers := D }
  let W1 := (w.alloc (.deferred (some []))).alloc (.loop (rec' .ready none))
  have hr1 : W1.heap[D + 1]? = some (.loop (rec' .ready none)) := by
    have := World.alloc_heap_new (w.alloc (.deferred (some []))) (.loop (rec' .ready none)); rwa [World.size_alloc, hD] at this
  have hd1 : W1.heap[D]? = some (.deferred (some [])) := by
    rw [← hD]; exact (Below.heap_alloc _ _ _ (by simp)).trans (World.alloc_heap_new w _)
  have hB1 : Below D w W1 := by rw [← hD]; exact (((Below.refl _ w).alloc (Nat.le_refl _) _).alloc (by simp) _)
  have hi1 : I [] W1 := hI _ _ _ h0 (Turn.of_below (by rw [hD]; exact hB1))
  have turnRec : ∀ {A B : World} {k : Nat} {o : Obj}, Turn b A B → D ≤ k → A.heap[k]? = some o → B.heap[k]? = some o := fun ht hk ho =>
    (ht.block _ (Array.getElem?_eq_some_iff.1 ho).1 (by omega)).trans ho
  refine ⟨D + 1, [{ target := .collected D, args := #[] }], W1, { target := .fn (.func gf) lb, args := #[.func (.yield (D + 1)) #[] #[]] }, W1, gf, #[.func (.yield (D + 1)) #[] #[]] ++ lb, W1, ?_, ?_, ?_, ?_, fun _ => h1, ?_⟩
  · have := run_enterLoop_outer (P := P) (w := w) fn a.tmps ps assign body
    rw [hD] at this; exact this
  · simp only [resolve, hg]
    simp [go_sem]
  · intro f' hf'; simp [Target.leads] at hf'; subst hf'; exact hFg
  · simp [invoke, go_sem, eg]
  · refine (hseq (D + 1) (fun pre W => I pre W ∧ W.heap[D + 1]? = some (.loop (rec' .ready none)) ∧ W.heap[D]? = some (.deferred (some [])))
      (fun pre W => ∃ c, Ix c pre W ∧ W.heap[D + 1]? = some (.loop (rec' .done (some c))) ∧ W.heap[D]? = some (.deferred (some [])))
      W1 (by rw [hD]; exact hB1)
      (fun s A B h ht => ⟨hI _ _ _ h.1 ht, turnRec ht (by omega) h.2.1, turnRec ht (by omega) h.2.2⟩)
      (fun s A B h ht => by obtain ⟨c, h⟩ := h; exact ⟨c, hX _ _ _ _ h.1 ht, turnRec ht (by omega) h.2.1, turnRec ht (by omega) h.2.2⟩)
      ?_ ⟨hi1, hr1, hd1⟩).mono ?_
    · rintro pre x A ⟨hi, hr, hd⟩ hpre
      have hlt := (Array.getElem?_eq_some_iff.1 hr).1
      refine ⟨fn, _, assign, body, run_yield (r := rec' .ready none) hr (hps x), roundIn_of_wpIn hfn (hassign _ x A _ ⟨_, run_beginRound hr rfl, ?_⟩)⟩
      have hr2 : (A.putObj (D + 1) (.loop (rec' .busy none))).heap[D + 1]? = some (.loop (rec' .busy none)) := World.putObj_heap_same hlt
      have hd2 : (A.putObj (D + 1) (.loop (rec' .busy none))).heap[D]? = some (.deferred (some [])) := (World.putObj_heap_other (by omega)).trans hd
      have hb2 : Leaves b N A (A.putObj (D + 1) (.loop (rec' .busy none))) := Leaves.put _ _ (by omega) (by omega)
      refine wpIn_mono (hbody _ pre x _ (hI2 _ _ _ _ _ hi (by omega) hr rfl) hpre) ?_
      rintro e a3 B hp
      have hend : ∀ j, KeepsOthers (A.putObj (D + 1) (.loop (rec' .busy none))) B → B.heap[D + 1]? = some (.loop (rec' .busy none)) ∧ B.heap[D]? = some (.deferred (some [])) ∧ (Instr.endRound (D + 1) j).run P B = .ok (.bool j.isNone) (B.putObj (D + 1) (.loop (rec' (if j.isNone then .ready else .done) j))) ∧
          (B.putObj (D + 1) (.loop (rec' (if j.isNone then .ready else .done) j))).heap[D + 1]? = some (.loop (rec' (if j.isNone then .ready else .done) j)) ∧ (B.putObj (D + 1) (.loop (rec' (if j.isNone then .ready else .done) j))).heap[D]? = some (.deferred (some [])) := fun j hk => by
        have hr3 := hk.same _ _ hr2 rfl
        have hd3 := hk.same _ _ hd2 rfl
        exact ⟨hr3, hd3, run_endRound j hr3, World.putObj_heap_same (Array.getElem?_eq_some_iff.1 hr3).1, (World.putObj_heap_other (by omega)).trans hd3⟩
      cases e with
      | normal =>
        obtain ⟨hk, hbl, hi3⟩ := hp
        obtain ⟨hr3, _, hrun, hr4, hd4⟩ := hend none hk
        exact ⟨_, _, hrun, .inl ⟨rfl, ⟨hI2 _ _ _ _ _ hi3 (by omega) hr3 rfl, hr4, hd4⟩, (hb2.trans hbl).trans (Leaves.put _ _ (by omega) (by omega))⟩⟩
      | ret =>
        obtain ⟨hk, hi3⟩ := hp
        obtain ⟨hr3, _, hrun, hr4, hd4⟩ := hend (some .ret) hk
        exact ⟨_, _, hrun, .inr ⟨rfl, .ret, hX2 _ _ _ _ _ _ hi3 (by omega) hr3 rfl, hr4, hd4⟩⟩
      | exit i =>
        obtain ⟨hk, hi3⟩ := hp
        obtain ⟨hr3, _, hrun, hr4, hd4⟩ := hend (some (.exit i)) hk
        exact ⟨_, _, hrun, .inr ⟨rfl, .exit i, hX2 _ _ _ _ _ _ hi3 (by omega) hr3 rfl, hr4, hd4⟩⟩
      | goto t =>
        obtain ⟨hk, hi3⟩ := hp
        obtain ⟨hr3, _, hrun, hr4, hd4⟩ := hend (some (.goto t)) hk
        exact ⟨_, _, hrun, .inr ⟨rfl, .goto t, hX2 _ _ _ _ _ _ hi3 (by omega) hr3 rfl, hr4, hd4⟩⟩
      | panic ch => exact hp.elim
      | outgrown => exact hp.elim
    · rintro e B ⟨⟨v, rfl⟩, (⟨hi, hr, hd⟩ | ⟨pre, hpre, c, hx, hr, hd⟩)⟩
      · exact ⟨none, _, run_endLoop (r := rec' .ready none) hr (by simp [rec']), hdone D _ (by omega) (hI2 _ _ _ _ _ hi (by omega) hr rfl) ((World.putObj_heap_other (by omega)).trans hd)⟩
      · exact ⟨some c, _, run_endLoop (r := rec' .done (some c)) hr (by simp [rec']), hstop D c pre _ (by omega) hpre (hX2 _ _ _ _ _ _ hx (by omega) hr rfl) ((World.putObj_heap_other (by omega)).trans hd)⟩
end Go.Proofs.YtnmmhcchpcbeeaaGreat.GeW

namespace Go.Proofs.YtnmmhcchpcbeeaaGreat.GeW
open Go Go.RowKit Go.Proofs.YtnmmhcchpcbeeaaGreat.Mem Go.Proofs.YtnmmhcchpcbeeaaGreat.Ge
/-- A shape as it lies in memory. -/
structure ShapeM where
  o : RowV
  hs : List RowV
  B : Option Addr
  k : Nat
def holesVal (m : ShapeM) : Value := .slice m.B m.hs.length m.k
def shapeVals (m : ShapeM) : Array Value := #[rowVal m.o, holesVal m]
def ringsM (m : ShapeM) : List RowV := m.o :: m.hs
def holesL (m : ShapeM) : List (List V) := m.hs.map RowV.l
structure ShapeIn (w : World) (m : ShapeM) : Prop where
  ro : Row w m.o.A (m.o.l.flatMap ptCells)
  rB : Row w m.B (m.hs.map rowVal)
  rh : ∀ r ∈ m.hs, Row w r.A (r.l.flatMap ptCells)
  few : m.hs.length ≤ 1000
  short : ∀ r ∈ ringsM m, r.l.length ≤ 1000 ∧ r.l.length ≤ r.k
  room : m.hs.length ≤ m.k
theorem ShapeIn.below {w w' : World} {m : ShapeM} (h : ShapeIn w m) (hb : Below w.heap.size w w') : ShapeIn w' m :=
  ⟨h.ro.below hb, h.rB.below hb, fun r hr => (h.rh r hr).below hb, h.few, h.short, h.room⟩
theorem ShapeIn.row {w : World} {m : ShapeM} (h : ShapeIn w m) {r : RowV} (hr : r ∈ ringsM m) : Row w r.A (r.l.flatMap ptCells) := by
  rcases List.mem_cons.1 hr with rfl | hr
  · exact h.ro
  · exact h.rh r hr
theorem row_one {w : World} {A : Option Addr} {xs : List Value} (h : Row w A xs) {k : Nat} (hk : k < xs.length) : ∃ g off, A = some ⟨g, off, none⟩ ∧ g < w.heap.size ∧ ∀ j (hj : j < xs.length), w.cell? ⟨g, off + j, none⟩ = some xs[j] := by
  obtain ⟨g, off, e, hg, hc⟩ := h (by intro h0; rw [h0] at hk; simp at hk)
  exact ⟨g, off, e, hg, fun j hj => by rw [hc j hj, List.getElem?_eq_getElem hj]⟩
theorem cell_same {w W : World} {g : Nat} (h : W.heap[g]? = w.heap[g]?) (o : Nat) : W.cell? ⟨g, o, none⟩ = w.cell? ⟨g, o, none⟩ := by
  unfold World.cell?
  rw [h]
def encRing (r : RowV) : Array Value := #[rowVal r]
theorem take_prefix {α : Type} (o : α) (l : List α) (k : Nat) (h : k < l.length) : (o :: l.take k) ++ [l[k]] <+: o :: l := by
  refine ⟨l.drop (k + 1), ?_⟩
  rw [List.cons_append, List.cons_append, ← List.take_succ_eq_append_getElem h, List.take_append_drop]
attribute [local go_sem] Oper.semAt_some
set_option maxRecDepth 100000 in
set_option maxHeartbeats 2000000 in
theorem rings1_gives (n b : Nat) (m : ShapeM) (w0 w : World) (hb : w.heap[b]? = some (.cells (shapeVals m) 29)) (hr : Row w0 m.B (m.hs.map rowVal)) (hk : ∀ k, k < w0.heap.size → w.heap[k]? = w0.heap[k]?) (hz : w0.heap.size ≤ w.heap.size) (hf : m.hs.length ≤ 1000) (hn : 1 ≤ n) :
    GivesAll Fence.wide n Tryz.prog 129 #[.pointer (some ⟨b, 0, none⟩)] encRing b w0.heap.size (ringsM m) w := by
  intro l J Jx W hW hJ hJx hY h0
  have hbw := lt_of_block hb
  have HBW := Lib.hid ((hW.block b hbw).trans hb)
  have HK : Hid (∀ k, k < w0.heap.size → W.heap[k]? = w0.heap[k]?) := Lib.hid (fun k hk0 => (hW.block k (by omega)).trans (hk k hk0))
  have HR := Lib.hid hr
  have HF := Lib.hid hf
  have HJ := Lib.hid hJ
  have HJX := Lib.hid hJx
  have HY := Lib.hid hY
  clear hb hr hk hz hf hbw hW hJ hJx hY
  unfold shapeVals at HBW
  obtain ⟨vh, hvh⟩ : ∃ vh, holesVal m = vh := ⟨_, rfl⟩
  rw [hvh] at HBW
  unfold holesVal at hvh
  have c0 : W.cell? ⟨b, 0, none⟩ = some (rowVal m.o) := by rw [Lib.cell_of_heap HBW.out]; rfl
  obtain ⟨fn, tmps, assign, body, hy, hR0⟩ := HY.out [] m.o W h0 ⟨m.hs, rfl⟩
  have HR0 := Lib.hid hR0
  clear hR0
  unfold encRing at hy
  generalize rowVal m.o = ov at *
  refine callsIn_of_wp Tryz.func129 rfl trivial ?_ rfl
  simp only [Tryz.ntmps129, List.size_toArray, List.length_cons, List.length_nil, Nat.reduceAdd, Nat.reduceSub, Array.replicate_succ, Array.replicate_zero, List.push_toArray, List.append_toArray, List.nil_append, List.cons_append]
  gi_wp2
  refine HR0.out.mono ?_
  rintro e W3 (⟨rfl, hJ3, hk3⟩ | ⟨rfl, hJx3⟩)
  case inr =>
    have HJ3 := Lib.hid hJx3
    clear hy
    gi_wp2
    refine bodyPost_ret (results_none rfl _ _ _) rfl ?_
    exact ⟨⟨_, rfl⟩, .inr ⟨_, ⟨m.hs, rfl⟩, HJ3.out⟩⟩
  case inl =>
    have HB3 := Lib.hid (hk3.own.trans HBW.out)
    have HK3 : Hid (∀ k, k < w0.heap.size → W3.heap[k]? = w0.heap[k]?) := Lib.hid (fun k hk0 => (hk3.first k hk0).trans (HK.out k hk0))
    have HJ3 := Lib.hid hJ3
    have c1 : W3.cell? ⟨b, 1, none⟩ = some vh := by rw [Lib.cell_of_heap HB3.out]; rfl
    subst hvh
    clear hy c0 hk3 hJ3 h0
    gi_wp2
    clear c1
    gi_loopw [4, 13] (fun _ i wr => ∃ k : Nat, i = .int .i64 (k : Int) ∧ k ≤ m.hs.length ∧ Hid (∀ k, k < w0.heap.size → wr.heap[k]? = w0.heap[k]?) ∧ Hid (wr.heap[b]? = some (.cells #[ov, .slice m.B m.hs.length m.k] 29)) ∧ Hid (J (m.o :: m.hs.take k) wr)) (fun _ i _ => m.hs.length - (intOf i).toNat)
    case atStart => exact ⟨0, rfl, Nat.zero_le _, HK3, HB3, HJ3⟩
    case round =>
      obtain ⟨k, rfl, hk, HKr, HBr, HJr⟩ := hrel
      have hf := HF.out
      by_cases hlt : k < m.hs.length
      · obtain ⟨g, off, hB, hg, hc⟩ := row_one HR.out (k := k) (by simpa using hlt)
        have c2 := (cell_same (HKr.out g hg) (off + k)).trans (hc k (by simpa using hlt))
        rw [List.getElem_map] at c2
        obtain ⟨fn, tmps, assign, body, hy, hR0⟩ := HY.out (m.o :: m.hs.take k) m.hs[k] wr HJr.out (take_prefix m.o m.hs k hlt)
        have HR1 := Lib.hid hR0
        unfold encRing at hy
        have hk1 : (0 : Int) ≤ (k : Int) := by omega
        have hk2 : (k : Int) < (m.hs.length : Int) := by omega
        rw [hB]
        clear hR0 hc
        generalize rowVal m.hs[k] = rk at *
        gi_wp2
        refine HR1.out.mono ?_
        rintro e W4 (⟨rfl, hJ4, hk4⟩ | ⟨rfl, hJx4⟩)
        · have HB4 := Lib.hid (hk4.own.trans HBr.out)
          have HK4 : Hid (∀ k, k < w0.heap.size → W4.heap[k]? = w0.heap[k]?) := Lib.hid (fun k hk0 => (hk4.first k hk0).trans (HKr.out k hk0))
          have HJ4 : Hid (J (m.o :: m.hs.take (k + 1)) W4) := Lib.hid (by rw [List.take_succ_eq_append_getElem hlt]; exact hJ4)
          clear hy c2 hk4 hJ4
          gi_wp2
          go_roundw
          case rel => exact ⟨k + 1, by go_num, by omega, HK4, Lib.hid (by rw [← hB]; exact HB4.out), HJ4⟩
          case measure => simp [intOf]; omega
        · have HJ4 := Lib.hid hJx4
          have HP := Lib.hid (take_prefix m.o m.hs k hlt)
          clear hy c2 hJx4
          gi_wp2
          refine bodyPost_ret (results_none rfl _ _ _) rfl ?_
          exact ⟨⟨_, rfl⟩, .inr ⟨_, HP.out, HJ4.out⟩⟩
      · obtain rfl : k = m.hs.length := by omega
        have HJ5 : Hid (J (ringsM m) wr) := Lib.hid (by have := HJr.out; rw [List.take_length] at this; exact this)
        gi_wp2
        go_end0
        exact ⟨⟨_, rfl⟩, .inl HJ5.out⟩
set_option maxRecDepth 100000 in
set_option maxHeartbeats 1000000 in
theorem rings_in (n : Nat) (m : ShapeM) (w : World) :
    CallsIn Fence.wide n Tryz.prog 70 #[.agg (shapeVals m)] w fun e w' => e = .returned (.func (.func 129) #[] #[.pointer (some ⟨w.heap.size, 0, none⟩)]) ∧ w' = w.alloc (.cells (shapeVals m) 29) := by
  unfold shapeVals
  generalize rowVal m.o = v0
  generalize holesVal m = v1
  refine callsIn_of_wp Tryz.func70 rfl trivial ?_ rfl
  simp only [Tryz.ntmps70, List.size_toArray, List.length_cons, List.length_nil, Nat.reduceAdd, Nat.reduceSub, Array.replicate_succ, Array.replicate_zero, List.push_toArray, List.append_toArray, List.nil_append, List.cons_append]
  gi_wp2
  go_ret
  exact ⟨rfl, rfl⟩
end Go.Proofs.YtnmmhcchpcbeeaaGreat.GeW

namespace Go.Proofs.YtnmmhcchpcbeeaaGreat.Ge
theorem total_snoc (a : List (List V)) (b : List V) : total (a ++ [b]) = total a + b.length := by
  induction a with
  | nil => simp [total]
  | cons x r ih => rw [List.cons_append, total, ih, total]; omega
theorem total_le (n : Nat) : ∀ a : List (List V), (∀ x ∈ a, x.length ≤ n) → total a ≤ a.length * n
  | [], _ => by simp [total]
  | x :: r, h => by
    have h1 := h x (by simp)
    have h2 := total_le n r (fun y hy => h y (by simp [hy]))
    rw [total, List.length_cons, Nat.add_mul]
    omega
end Go.Proofs.YtnmmhcchpcbeeaaGreat.Ge
namespace Go.Proofs.YtnmmhcchpcbeeaaGreat.GeW
open Go Go.RowKit Go.Proofs.YtnmmhcchpcbeeaaGreat.Mem Go.Proofs.YtnmmhcchpcbeeaaGreat.Ge
theorem others_below {A B : World} (h : Below A.heap.size A B) : KeepsOthers A B :=
  ⟨h.size, fun k _ hk _ => (h.block k (lt_of_block hk)).trans hk⟩
theorem below_turn {r b : Nat} {w A B : World} (h : Below r w A) (hr : r ≤ A.heap.size) (hb : r ≤ b) (ht : Turn b A B) : Below r w B :=
  ⟨ht.os.trans h.os, ht.tape.trans h.tape, ht.output.trans h.output, Nat.le_trans h.size ht.size, fun k hk => (ht.block k (by omega) (by omega)).trans (h.block k hk)⟩
theorem below_put {r l : Nat} {w W : World} (h : Below r w W) (hl : r ≤ l) (o : Obj) : Below r w (W.putObj l o) :=
  h.trans ⟨rfl, rfl, rfl, by simp [World.putObj], fun k hk => World.putObj_heap_other (by omega)⟩
/-- The variables: the shape, the result, the corners. -/
structure ShC (r : Nat) (W : World) (ov vh : Value) (b : Bool) (n : Int) : Prop where
  h0 : W.heap[r]? = some (.cells #[ov, vh] 29)
  h1 : W.heap[r + 1]? = some (.cells #[.bool b] 4)
  h2 : W.heap[r + 1 + 1]? = some (.cells #[.int .i64 n] 3)
theorem ShC.below {r : Nat} {W W' : World} {ov vh : Value} {b : Bool} {n : Int} (h : ShC r W ov vh b n) (hb : Below W.heap.size W W') : ShC r W' ov vh b n :=
  ⟨(hb.block _ (lt_of_block h.h0)).trans h.h0, (hb.block _ (lt_of_block h.h1)).trans h.h1, (hb.block _ (lt_of_block h.h2)).trans h.h2⟩
theorem ShC.turn {r : Nat} {W W' : World} {ov vh : Value} {b : Bool} {n : Int} (h : ShC r W ov vh b n) (hb : Turn (r + 1 + 1 + 1) W W') : ShC r W' ov vh b n :=
  ⟨(hb.block _ (lt_of_block h.h0) (by omega)).trans h.h0, (hb.block _ (lt_of_block h.h1) (by omega)).trans h.h1, (hb.block _ (lt_of_block h.h2) (by omega)).trans h.h2⟩
theorem ShC.put {r : Nat} {W : World} {ov vh : Value} {b : Bool} {n : Int} (h : ShC r W ov vh b n) {l : Nat} (hl : r + 1 + 1 + 1 ≤ l) (o : Obj) : ShC r (W.putObj l o) ov vh b n :=
  ⟨(World.putObj_heap_other (by omega)).trans h.h0, (World.putObj_heap_other (by omega)).trans h.h1, (World.putObj_heap_other (by omega)).trans h.h2⟩
theorem ShC.setN {r : Nat} {W : World} {ov vh : Value} {b : Bool} {n : Int} (h : ShC r W ov vh b n) (n' : Int) : ShC r (W.setCell ⟨r + 1 + 1, 0, none⟩ (.int .i64 n')) ov vh b n' :=
  ⟨(block_other W (r + 1 + 1) 0 _ (by omega)).trans h.h0, (block_other W (r + 1 + 1) 0 _ (by omega)).trans h.h1, block_set h.h2 0 _⟩
theorem ShC.setB {r : Nat} {W : World} {ov vh : Value} {b : Bool} {n : Int} (h : ShC r W ov vh b n) (b' : Bool) : ShC r (W.setCell ⟨r + 1, 0, none⟩ (.bool b')) ov vh b' n :=
  ⟨(block_other W (r + 1) 0 _ (by omega)).trans h.h0, block_set h.h1 0 _, (block_other W (r + 1) 0 _ (by omega)).trans h.h2⟩
def PI (w : World) (r : Nat) (ov vh : Value) (pre : List RowV) (W : World) : Prop :=
  (∀ x ∈ pre, ringB x.l = true) ∧ ShC r W ov vh false (total (pre.map RowV.l)) ∧ Below r w W ∧ r + 1 + 1 + 1 + 1 ≤ W.heap.size
def PX (w : World) (r : Nat) (ov vh : Value) (c : Code) (pre : List RowV) (W : World) : Prop :=
  c = .ret ∧ (∃ x ∈ pre, ringB x.l = false) ∧ (∃ n, ShC r W ov vh false n) ∧ Below r w W
theorem results_cells1 {fn : Func} {p : Tmp} {ty1 : TypeId} (h : fn.results = #[.cell p ty1]) (tmps : Array Value) (P : Program) (w : World) :
    (results fn tmps).run P w = ((asAddr (tmps.getD p undef)).run P w).andThen fun a w₁ => (loadVar ty1 a).run P w₁ := by
  simp only [results, h]
  simp [Sem.run_bind, Result.andThen]
theorem shres {r : Nat} {W : World} {b : Bool} (h : W.heap[r + 1]? = some (.cells #[.bool b] 4)) (tmps : Array Value) (t2 : tmps.getD 2 undef = .pointer (some ⟨r + 1, 0, none⟩)) :
    (results Tryz.f25 tmps).run Tryz.prog W = .ok (.bool b) W := by
  have c1 : W.cell? ⟨r + 1, 0, none⟩ = some (.bool b) := by rw [Lib.cell_of_heap h]; rfl
  rw [results_cells1 rfl, t2]
  go_simp
theorem sh_leave {r D : Nat} {w W9 : World} {ov vh : Value} {b0 b rb : Bool} {n : Int} (h : ShC r W9 ov vh b0 n) (hb : Below r w W9) (hr : w.heap.size = r) (hD : r + 1 + 1 + 1 ≤ D) (hK : W9.heap[D]? = some (.deferred (some []))) (tmps : Array Value) (t2 : tmps.getD 2 undef = .pointer (some ⟨r + 1, 0, none⟩)) (he : rb = b) :
    bodyPostM Fence.wide 9 Tryz.prog Tryz.f25 (fun e w' => e = .returned (.bool rb) ∧ Below w.heap.size w w') .ret { tmps := tmps, defers := [{ target := .collected D, args := #[] }] } (W9.setCell ⟨r + 1, 0, none⟩ (.bool b)) := by
  subst he
  have hK2 : (W9.setCell ⟨r + 1, 0, none⟩ (.bool rb)).heap[D]? = some (.deferred (some [])) := (block_other W9 (r + 1) 0 _ (by omega)).trans hK
  refine ⟨by simp, .inl ⟨_, _, rfl, run_takeDeferred hK2, ?_⟩⟩
  exact ⟨_, shres ((h.setB rb).put (l := D) (by omega) (.deferred none)).h1 _ t2, rfl, by rw [hr]; exact below_put (hb.setCell (p := ⟨r + 1, 0, none⟩) (by simp) _) (by omega) _⟩
attribute [local go_sem] Oper.semAt_some
set_option maxRecDepth 100000 in
set_option maxHeartbeats 8000000 in
theorem shapeOk_any (m : ShapeM) (w : World) (h : ShapeIn w m) :
    Calls Tryz.prog 25 #[.agg (shapeVals m)] w fun e w' => e = .returned (.bool (shapeB m.o.l (holesL m))) ∧ Below w.heap.size w w' := by
  have HS := Lib.hid h
  have HF := Lib.hid h.few
  have hfew := h.few
  have hbel := ((((Below.refl w.heap.size w).alloc (Nat.le_refl _) (.cells (shapeVals m) 29)).alloc (by simp) (.cells #[.bool false] 4)).alloc (by simp <;> omega) (.cells #[.int .i64 0] 3))
  have hs3 : (((w.alloc (.cells (shapeVals m) 29)).alloc (.cells #[.bool false] 4)).alloc (.cells #[.int .i64 0] 3)).heap.size = w.heap.size + 1 + 1 + 1 := by simp
  have hc0 := block_old (o' := (.cells #[.int .i64 0] 3)) (block_old (o' := (.cells #[.bool false] 4)) (heap_alloc_new w (.cells (shapeVals m) 29)))
  have hc1 := block_old (o' := (.cells #[.int .i64 0] 3)) (heap_alloc_new (w.alloc (.cells (shapeVals m) 29)) (.cells #[.bool false] 4))
  have hc2 := heap_alloc_new ((w.alloc (.cells (shapeVals m) 29)).alloc (.cells #[.bool false] 4)) (.cells #[.int .i64 0] 3)
  simp only [World.size_alloc] at hc1 hc2
  have HC : Hid (ShC w.heap.size _ (rowVal m.o) (holesVal m) false 0) := Lib.hid ⟨hc0, hc1, hc2⟩
  have HRI := Lib.hid (fun W => rings_in 8 m W)
  have HBEL := Lib.hid hbel
  have HS3 := Lib.hid hs3
  obtain ⟨rb, HRB⟩ : ∃ rb, Hid (rb = shapeB m.o.l (holesL m)) := ⟨_, Lib.hid rfl⟩
  rw [← HRB.out]
  have HUN : Hid (shapeVals m = #[rowVal m.o, holesVal m]) := Lib.hid rfl
  rw [HUN.out] at HRI HC HBEL HS3
  obtain ⟨vh, hvh⟩ : ∃ vh, holesVal m = vh := ⟨_, rfl⟩
  obtain ⟨ov, hov⟩ : ∃ ov, rowVal m.o = ov := ⟨_, rfl⟩
  rw [HUN.out]
  rw [hvh, hov] at HRI HC HBEL HS3 ⊢
  have HVH := Lib.hid hvh
  have HOV := Lib.hid hov
  unfold holesVal at hvh
  clear hbel hs3 hc0 hc1 hc2 h hov
  refine (callsIn_wide (n := 9)).1 ?_
  refine callsIn_of_wp_marks Tryz.func25 rfl trivial ?_ rfl
  simp only [Tryz.ntmps25, List.size_toArray, List.length_cons, List.length_nil, Nat.reduceAdd, Nat.reduceSub, Array.replicate_succ, Array.replicate_zero, List.push_toArray, List.append_toArray, List.nil_append, List.cons_append]
  by_cases h6 : m.hs.length ≤ 6
  case neg =>
    have d6 : decide (6 < (m.hs.length : Int)) = true := decide_eq_true (by omega)
    have HRF : Hid (rb = false) := Lib.hid (by rw [HRB.out]; unfold shapeB holesL; simp [h6])
    subst hvh
    clear h6 HRI
    gi_wp2
    rw [HRF.out]
    exact ⟨_, shres (heap_alloc_new2 (w.alloc (.cells #[ov, .slice m.B m.hs.length m.k] 29)) (.cells #[.bool false] 4) (by simp)) _ rfl, rfl, ((Below.refl w.heap.size w).alloc (Nat.le_refl _) (.cells #[ov, .slice m.B m.hs.length m.k] 29)).alloc (by simp) (.cells #[.bool false] 4)⟩
  case pos =>
    have d6 : decide (6 < (m.hs.length : Int)) = false := decide_eq_false (by omega)
    have H6 := Lib.hid h6
    subst hvh
    clear h6
    gi_wp2
    refine ⟨trivial, ?_⟩
    refine (HRI.out _).mono ?_
    rintro e w1 ⟨rfl, rfl⟩
    have HBX := Lib.hid (heap_alloc_new2 (((w.alloc (.cells #[ov, .slice m.B m.hs.length m.k] 29)).alloc (.cells #[.bool false] 4)).alloc (.cells #[.int .i64 0] 3)) (.cells #[ov, .slice m.B m.hs.length m.k] 29) HS3.out.symm)
    have HBE4 := Lib.hid (HBEL.out.alloc (by rw [HS3.out]; omega) (.cells #[ov, .slice m.B m.hs.length m.k] 29))
    have HC4 := Lib.hid (HC.out.below ((Below.refl _ _).alloc (Nat.le_refl _) (.cells #[ov, .slice m.B m.hs.length m.k] 29)))
    have HS4 : Hid (((((w.alloc (.cells #[ov, .slice m.B m.hs.length m.k] 29)).alloc (.cells #[.bool false] 4)).alloc (.cells #[.int .i64 0] 3)).alloc (.cells #[ov, .slice m.B m.hs.length m.k] 29)).heap.size = w.heap.size + 1 + 1 + 1 + 1) := Lib.hid (by rw [World.size_alloc, HS3.out])
    gi_wp2
    clear HBEL HC HS3
    generalize ((((w.alloc (.cells #[ov, .slice m.B m.hs.length m.k] 29)).alloc (.cells #[.bool false] 4)).alloc (.cells #[.int .i64 0] 3)).alloc (.cells #[ov, .slice m.B m.hs.length m.k] 29)) = W4 at *
    generalize hr : w.heap.size = r at *
    have HR := Lib.hid hr
    clear hr
    refine' wpIn_rangeFunc_box rfl (by decide) (gf := 129) (lb := #[.pointer (some ⟨r + 1 + 1 + 1, 0, none⟩)]) rfl trivial (enters_of Tryz.func129 (by kernel_rfl) rfl)
      (b := r + 1 + 1 + 1) (N := r) (by rw [HS4.out]; omega) (by rw [HS4.out]; omega)
      (by rw [← HR.out]; exact rings1_gives _ _ m w W4 (by rw [← HOV.out] at HBX; rw [HR.out]; exact HBX.out) HS.out.rB (fun k hk => HBE4.out.block k (by rw [← HR.out]; exact hk)) (by rw [HS4.out, HR.out]; omega) HF.out (by decide))
      (fun _ => rfl) (PI w r ov (.slice m.B m.hs.length m.k)) (PX w r ov (.slice m.B m.hs.length m.k)) ?hI ?hI2 ?hX ?hX2 ?h0 _ ?assign ?body ?done ?stop
    case hI =>
      rintro pre A B ⟨h1, h2, h3, h4⟩ ht
      exact ⟨h1, h2.turn ht, below_turn h3 (Nat.le_of_lt (lt_of_block h2.h0)) (by omega) ht, Nat.le_trans h4 ht.size⟩
    case hI2 =>
      rintro pre A l o o' ⟨h1, h2, h3, h4⟩ hl ho hc
      rw [HS4.out] at hl
      exact ⟨h1, h2.put (by omega) _, below_put h3 (by omega) _, by simpa [World.putObj] using h4⟩
    case hX =>
      rintro c pre A B ⟨h1, h2, ⟨n, h3⟩, h4⟩ ht
      exact ⟨h1, h2, ⟨n, h3.turn ht⟩, below_turn h4 (Nat.le_of_lt (lt_of_block h3.h0)) (by omega) ht⟩
    case hX2 =>
      rintro c pre A l o o' ⟨h1, h2, ⟨n, h3⟩, h4⟩ hl ho hc
      rw [HS4.out] at hl
      exact ⟨h1, h2, ⟨n, h3.put (by omega) _⟩, below_put h4 (by omega) _⟩
    case h0 => exact ⟨by simp, HC4.out, HBE4.out, by rw [HS4.out]; exact Nat.le_refl _⟩
    case assign =>
      intro l x W K hK
      dsimp only [encRing]
      gi_wp2
      exact hK
    case body =>
      rintro l pre x W ⟨h1, h2, h3, h4⟩ hpre
      have hx : x ∈ ringsM m := hpre.subset (by simp)
      have hsx := HS.out.short x hx
      have hpl : pre.length ≤ 7 := by
        have h := hpre.length_le
        have h6 := H6.out
        simp [ringsM] at h
        omega
      have htl : total (pre.map RowV.l) ≤ 7 * 1000 := Nat.le_trans (total_le 1000 _ (fun y hy => by
        obtain ⟨z, hz, rfl⟩ := List.mem_map.1 hy
        exact (HS.out.short z (hpre.subset (by simp [hz]))).1)) (Nat.mul_le_mul_right _ (by simpa using hpl))
      have HT : Hid (((total ((pre ++ [x]).map RowV.l) : Nat) : Int) = (total (pre.map RowV.l) : Int) + (x.l.length : Int)) := Lib.hid (by rw [List.map_append, List.map_singleton, total_snoc]; omega)
      have HV := Lib.hid (fun W' (hW : Below r w W') => ring_any x.l x.A x.k W' ((HS.out.row hx).below (by rw [HR.out]; exact hW)) (by omega))
      have H1 := Lib.hid h1
      have H2 := Lib.hid h2
      have H3 := Lib.hid h3
      have H4 := Lib.hid h4
      have x1 : IntKind.i64.wrap ((total (pre.map RowV.l) : Int) + (x.l.length : Int)) = (total (pre.map RowV.l) : Int) + (x.l.length : Int) := by rw [IntKind.wrap_i64]; omega
      clear h1 h2 h3 h4 hx hsx hpl htl hpre
      generalize (total (pre.map RowV.l) : Int) = tn at *
      unfold rowVal
      have c2 : W.cell? ⟨r + 1 + 1, 0, none⟩ = some (.int .i64 tn) := by rw [Lib.cell_of_heap H2.out.h2]; rfl
      have f2 : W.frozen? ⟨r + 1 + 1, 0, none⟩ = false := Lib.frozen_of_heap H2.out.h2 0
      have hb2 := lt_of_block H2.out.h2
      gi_wp2
      refine ⟨trivial, ?_⟩
      have H2S := Lib.hid (H2.out.setN (tn + (x.l.length : Int)))
      have HBS : Hid (Below r w (W.setCell ⟨r + 1 + 1, 0, none⟩ (.int .i64 (tn + (x.l.length : Int))))) := Lib.hid (H3.out.setCell (p := ⟨r + 1 + 1, 0, none⟩) (by simp <;> omega) _)
      have HK0 : Hid (KeepsOthers W (W.setCell ⟨r + 1 + 1, 0, none⟩ (.int .i64 (tn + (x.l.length : Int))))) := Lib.hid (KeepsOthers.setCell _ _ _)
      have HL0 : Hid (∀ k, k ≠ r + 1 + 1 → (W.setCell ⟨r + 1 + 1, 0, none⟩ (.int .i64 (tn + (x.l.length : Int)))).heap[k]? = W.heap[k]?) := Lib.hid (fun k hk => block_other W (r + 1 + 1) 0 _ hk)
      have HZ0 : Hid (r + 1 + 1 + 1 + 1 ≤ (W.setCell ⟨r + 1 + 1, 0, none⟩ (.int .i64 (tn + (x.l.length : Int)))).heap.size) := Lib.hid (by simpa [World.setCell] using H4.out)
      clear c2 f2 hb2 x1
      generalize W.setCell ⟨r + 1 + 1, 0, none⟩ (.int .i64 (tn + (x.l.length : Int))) = W1 at *
      refine (CallsIn.inRound l (callsIn_wide.2 (HV.out W1 HBS.out))).mono ?_
      rintro e W2 ⟨rfl, hb2⟩
      have HB2 := Lib.hid hb2
      have H2B := Lib.hid (H2S.out.below hb2)
      have HBB := Lib.hid (HBS.out.trans (hb2.mono (by have := HZ0.out; omega)))
      have HKB := Lib.hid (HK0.out.trans (others_below hb2))
      clear hb2
      cases hq : ringB x.l
      · have c1 : W2.cell? ⟨r + 1, 0, none⟩ = some (.bool false) := by rw [Lib.cell_of_heap H2B.out.h1]; rfl
        have f1 : W2.frozen? ⟨r + 1, 0, none⟩ = false := Lib.frozen_of_heap H2B.out.h1 0
        have hb1 := lt_of_block H2B.out.h1
        have HQ := Lib.hid hq
        clear hq
        gi_wp2
        exact ⟨HKB.out.trans (KeepsOthers.setCell _ _ _), rfl, ⟨x, by simp, HQ.out⟩, ⟨_, H2B.out.setB false⟩, HBB.out.setCell (p := ⟨r + 1, 0, none⟩) (by simp) _⟩
      · have HQ := Lib.hid hq
        clear hq
        gi_wp2
        have hz0 := HZ0.out
        refine ⟨HKB.out, ⟨?_, ?_⟩, ?_, ?_, HBB.out, Nat.le_trans hz0 HB2.out.size⟩
        · exact (HB2.out.block _ (by omega)).trans (HL0.out _ (by omega))
        · intro k hk
          exact (HB2.out.block _ (by omega)).trans (HL0.out _ (by omega))
        · intro y hy
          rcases List.mem_append.1 hy with h | h
          · exact H1.out y h
          · simp at h
            subst h
            exact HQ.out
        · rw [HT.out]
          exact H2B.out
    case done =>
      rintro D W hD ⟨h1, h2, h3, h4⟩ hK
      rw [HS4.out] at hD
      have hD : r + 1 + 1 + 1 ≤ D := by omega
      have HV := Lib.hid h1
      have H2 := Lib.hid h2
      have H3 := Lib.hid h3
      have HKD := Lib.hid hK
      have HVO : Hid (ringB m.o.l = true ∧ near m.o.l = true ∧ 3 ≤ m.o.l.length ∧ m.o.l.length ≤ 40) := Lib.hid ⟨h1 m.o (by simp [ringsM]), ring_near (h1 m.o (by simp [ringsM]))⟩
      have HVH : Hid (∀ x ∈ m.hs, ringB x.l = true ∧ near x.l = true ∧ 3 ≤ x.l.length ∧ x.l.length ≤ 40) := Lib.hid (fun x hx => ⟨h1 x (by simp [ringsM, hx]), ring_near (h1 x (by simp [ringsM, hx]))⟩)
      have HRW : Hid (∀ W', Below W.heap.size W W' → ∀ x ∈ ringsM m, Row W' x.A (x.l.flatMap ptCells)) := Lib.hid (fun W' hW x hx => (HS.out.row hx).below (by rw [HR.out]; exact h3.trans (hW.mono (Nat.le_of_lt (lt_of_block h2.h0)))))
      have HRH : Hid (∀ W', Below W.heap.size W W' → Row W' m.B (m.hs.map rowVal)) := Lib.hid (fun W' hW => HS.out.rB.below (by rw [HR.out]; exact h3.trans (hW.mono (Nat.le_of_lt (lt_of_block h2.h0)))))
      have HRB2 : Hid (rb = (decide (total ((ringsM m).map RowV.l) ≤ 80) && allFrom (holeB m.o.l (holesL m)) m.hs.length 0)) := Lib.hid (by
        rw [HRB.out]
        unfold shapeB
        have e1 : (m.o.l :: holesL m).all ringB = true := by
          rw [List.all_eq_true]
          intro y hy
          rcases List.mem_cons.1 hy with rfl | hy
          · exact h1 m.o (by simp [ringsM])
          · obtain ⟨z, hz, rfl⟩ := List.mem_map.1 hy
            exact h1 z (by simp [ringsM, hz])
        rw [e1]
        have e2 : (holesL m).length = m.hs.length := by simp [holesL]
        rw [e2, decide_eq_true H6.out]
        rfl)
      have hov := HOV.out
      unfold rowVal at hov
      subst hov
      have c0 : W.cell? ⟨r, 0, none⟩ = some (.slice m.o.A m.o.l.length m.o.k) := by rw [Lib.cell_of_heap h2.h0]; rfl
      have c1 : W.cell? ⟨r, 1, none⟩ = some (.slice m.B m.hs.length m.k) := by rw [Lib.cell_of_heap h2.h0]; rfl
      have c2 : W.cell? ⟨r + 1 + 1, 0, none⟩ = some (.int .i64 (total ((ringsM m).map RowV.l))) := by rw [Lib.cell_of_heap h2.h2]; rfl
      have c3 : W.cell? ⟨r + 1, 0, none⟩ = some (.bool false) := by rw [Lib.cell_of_heap h2.h1]; rfl
      have f3 : W.frozen? ⟨r + 1, 0, none⟩ = false := Lib.frozen_of_heap h2.h1 0
      have hb3 := lt_of_block h2.h1
      clear h1 h2 h3 h4 hK
      by_cases ht : total ((ringsM m).map RowV.l) ≤ 80
      case neg =>
        have t1 : decide (80 < ((total ((ringsM m).map RowV.l) : Nat) : Int)) = true := decide_eq_true (by omega)
        have HF0 : Hid (rb = false) := Lib.hid (by rw [HRB2.out]; simp [ht])
        clear ht
        generalize ((total ((ringsM m).map RowV.l) : Nat) : Int) = tn at *
        gi_wp2
        exact sh_leave H2.out H3.out HR.out hD HKD.out _ (by rfl) HF0.out
      case pos =>
        have t1 : decide (80 < ((total ((ringsM m).map RowV.l) : Nat) : Int)) = false := decide_eq_false (by omega)
        rw [decide_eq_true ht] at HRB2
        have HRB3 : Hid (rb = allFrom (holeB m.o.l (holesL m)) m.hs.length 0) := HRB2
        clear ht HRB2
        generalize ((total ((ringsM m).map RowV.l) : Nat) : Int) = tn at *
        gi_wp2
        clear c0 c1 c2 c3 f3 hb3
        gi_loopw [5, 6, 8, 28] (fun _ _ _ i wr => ∃ k : Nat, i = .int .i64 (k : Int) ∧ k ≤ m.hs.length ∧ Hid (rb = allFrom (holeB m.o.l (holesL m)) (m.hs.length - k) k) ∧ Hid (Below W.heap.size W wr)) (fun _ _ _ i _ => m.hs.length - (intOf i).toNat)
        case atStart => exact ⟨0, rfl, Nat.zero_le _, HRB3, Lib.hid (Below.refl _ _)⟩
        case round =>
          obtain ⟨k, rfl, hk, HD, HB⟩ := hrel
          have HC := Lib.hid (H2.out.below HB.out)
          have HZ := Lib.hid (Nat.le_of_lt (lt_of_block H2.out.h0))
          by_cases hlt : k < m.hs.length
          · skip
            have HD1 : Hid (rb = (holeB m.o.l (holesL m) k && allFrom (holeB m.o.l (holesL m)) (m.hs.length - (k + 1)) (k + 1))) := Lib.hid (by rw [HD.out, allFrom_step hlt])
            obtain ⟨g, off, hB, hg, hc⟩ := row_one (HRH.out W (Below.refl _ _)) (k := k) (by simpa using hlt)
            have HCA : Hid (∀ j (h : j < m.hs.length), W.cell? ⟨g, off + j, none⟩ = some (rowVal m.hs[j])) := Lib.hid (fun j h => by rw [hc j (by simpa using h), List.getElem_map])
            have HGW := Lib.hid hg
            have HAT : Hid (hAt (holesL m) k = m.hs[k].l) := Lib.hid (by unfold hAt holesL; rw [List.getD_eq_getElem?_getD, List.getElem?_eq_getElem (by simpa using hlt)]; simp)
            have ck := (HB.out.cell (p := ⟨g, off + k, none⟩) hg).trans (HCA.out k hlt)
            have hx := HVH.out m.hs[k] (List.getElem_mem hlt)
            have HXM : Hid (m.hs[k] ∈ ringsM m) := Lib.hid (List.mem_cons_of_mem _ (List.getElem_mem hlt))
            have ho := HVO.out
            have hom : m.o ∈ ringsM m := by simp [ringsM]
            clear hc hg
            obtain ⟨pq, HPQ0⟩ : ∃ pq, Hid (pq = allFrom (fun j => pairB m.hs[k].l (hAt (holesL m) j)) k 0) := ⟨_, Lib.hid rfl⟩
            have HHB : Hid (holeB m.o.l (holesL m) k = ((allB m.hs[k].l m.o.l 2 && apartB m.hs[k].l m.o.l) && pq)) := Lib.hid (by unfold holeB; rw [HAT.out, HPQ0.out])
            generalize m.hs[k] = x at *
            have HAL := Lib.hid (fun W' (hW : Below W.heap.size W W') => allAt_any m.o.l x.l m.o.A x.A m.o.k x.k 2 W' (HRW.out W' hW m.o hom) ho.1 (HRW.out W' hW x HXM.out) hx.2.1 (by omega))
            have HAP := Lib.hid (fun W' (hW : Below W.heap.size W W') => apart_any x.l m.o.l x.A m.o.A x.k m.o.k W' (HRW.out W' hW x HXM.out) (HRW.out W' hW m.o hom) ⟨by omega, by omega⟩ ⟨by omega, by omega⟩)
            generalize allB x.l m.o.l 2 = b1 at *
            generalize apartB x.l m.o.l = b2 at *
            unfold rowVal at ck
            have hk1 : (0 : Int) ≤ (k : Int) := by omega
            have hk2 : (k : Int) < (m.hs.length : Int) := by omega
            have hk3 : k ≤ m.k := by have := HS.out.room; omega
            have hk4 : (k : Int) ≤ (m.k : Int) := by omega
            have c0 : wr.cell? ⟨r, 0, none⟩ = some (.slice m.o.A m.o.l.length m.o.k) := by rw [Lib.cell_of_heap (H2.out.below HB.out).h0]; rfl
            have c1 : wr.cell? ⟨r, 1, none⟩ = some (.slice m.B m.hs.length m.k) := by rw [Lib.cell_of_heap (H2.out.below HB.out).h0]; rfl
            clear ho hom
            rw [hB] at c1 ⊢
            cases b1
            · have HF0 : Hid (rb = false) := Lib.hid (by rw [HD1.out, HHB.out]; simp)
              gi_wp2
              refine ⟨trivial, ?_⟩
              refine (callsIn_wide.2 (HAL.out _ HB.out)).mono ?_
              rintro e w5 ⟨rfl, hb⟩
              have HB5 := Lib.hid (HB.out.trans (hb.mono HB.out.size))
              clear hb ck c0 c1
              have c3 : w5.cell? ⟨r + 1, 0, none⟩ = some (.bool false) := by rw [Lib.cell_of_heap (H2.out.below HB5.out).h1]; rfl
              have f3 : w5.frozen? ⟨r + 1, 0, none⟩ = false := Lib.frozen_of_heap (H2.out.below HB5.out).h1 0
              have hb3 := lt_of_block (H2.out.below HB5.out).h1
              have HK9 := Lib.hid ((HB5.out.block _ (lt_of_block HKD.out)).trans HKD.out)
              gi_wp2
              refine ⟨trivial, ?_⟩
              gi_wp2
              exact sh_leave (H2.out.below HB5.out) (H3.out.trans (HB5.out.mono HZ.out)) HR.out hD HK9.out _ (by rfl) HF0.out
            · cases b2
              · have HF0 : Hid (rb = false) := Lib.hid (by rw [HD1.out, HHB.out]; simp)
                gi_wp2
                refine ⟨trivial, ?_⟩
                refine (callsIn_wide.2 (HAL.out _ HB.out)).mono ?_
                rintro e w5 ⟨rfl, hb⟩
                have HB5 := Lib.hid (HB.out.trans (hb.mono HB.out.size))
                clear hb ck c0 c1
                have c0 : w5.cell? ⟨r, 0, none⟩ = some (.slice m.o.A m.o.l.length m.o.k) := by rw [Lib.cell_of_heap (H2.out.below HB5.out).h0]; rfl
                have c1 : w5.cell? ⟨r, 1, none⟩ = some (.slice m.B m.hs.length m.k) := by rw [Lib.cell_of_heap (H2.out.below HB5.out).h0]; rfl
                clear c1
                gi_wp2
                refine ⟨trivial, ?_⟩
                refine (callsIn_wide.2 (HAP.out _ HB5.out)).mono ?_
                rintro e w6 ⟨rfl, hb⟩
                have HB6 := Lib.hid (HB5.out.trans (hb.mono HB5.out.size))
                clear hb c0
                have c3 : w6.cell? ⟨r + 1, 0, none⟩ = some (.bool false) := by rw [Lib.cell_of_heap (H2.out.below HB6.out).h1]; rfl
                have f3 : w6.frozen? ⟨r + 1, 0, none⟩ = false := Lib.frozen_of_heap (H2.out.below HB6.out).h1 0
                have hb3 := lt_of_block (H2.out.below HB6.out).h1
                have HK9 := Lib.hid ((HB6.out.block _ (lt_of_block HKD.out)).trans HKD.out)
                gi_wp2
                exact sh_leave (H2.out.below HB6.out) (H3.out.trans (HB6.out.mono HZ.out)) HR.out hD HK9.out _ (by rfl) HF0.out
              · skip
                gi_wp2
                refine ⟨trivial, ?_⟩
                refine (callsIn_wide.2 (HAL.out _ HB.out)).mono ?_
                rintro e w5 ⟨rfl, hb⟩
                have HB5 := Lib.hid (HB.out.trans (hb.mono HB.out.size))
                clear hb ck c0 c1
                have c0 : w5.cell? ⟨r, 0, none⟩ = some (.slice m.o.A m.o.l.length m.o.k) := by rw [Lib.cell_of_heap (H2.out.below HB5.out).h0]; rfl
                have c1 : w5.cell? ⟨r, 1, none⟩ = some (.slice m.B m.hs.length m.k) := by rw [Lib.cell_of_heap (H2.out.below HB5.out).h0]; rfl
                clear c1
                gi_wp2
                refine ⟨trivial, ?_⟩
                refine (callsIn_wide.2 (HAP.out _ HB5.out)).mono ?_
                rintro e w6 ⟨rfl, hb⟩
                have HB6 := Lib.hid (HB5.out.trans (hb.mono HB5.out.size))
                clear hb c0
                have c0 : w6.cell? ⟨r, 0, none⟩ = some (.slice m.o.A m.o.l.length m.o.k) := by rw [Lib.cell_of_heap (H2.out.below HB6.out).h0]; rfl
                have c1 : w6.cell? ⟨r, 1, none⟩ = some (.slice m.B m.hs.length m.k) := by rw [Lib.cell_of_heap (H2.out.below HB6.out).h0]; rfl
                rw [hB] at c1
                gi_wp2
                clear c0 c1
                gi_loopw [8, 50] (fun _ i wr => ∃ j : Nat, i = .int .i64 (j : Int) ∧ j ≤ k ∧ Hid (pq = allFrom (fun j => pairB x.l (hAt (holesL m) j)) (k - j) j) ∧ Hid (Below W.heap.size W wr)) (fun _ i _ => k - (intOf i).toNat)
                case atStart => exact ⟨0, rfl, Nat.zero_le _, HPQ0, HB6⟩
                case round =>
                  obtain ⟨j, rfl, hj, HPQ, HBI⟩ := hrel
                  by_cases hjk : j < k
                  · have hjl : j < m.hs.length := by omega
                    have HP1 : Hid (pq = (pairB x.l (hAt (holesL m) j) && allFrom (fun j => pairB x.l (hAt (holesL m) j)) (k - (j + 1)) (j + 1))) := Lib.hid (by rw [HPQ.out, allFrom_step hjk])
                    have HAJ : Hid (hAt (holesL m) j = m.hs[j].l) := Lib.hid (by unfold hAt holesL; rw [List.getD_eq_getElem?_getD, List.getElem?_eq_getElem (by simpa using hjl)]; simp)
                    rw [HAJ.out] at HP1
                    have cj := (HBI.out.cell (p := ⟨g, off + j, none⟩) (HGW.out)).trans (HCA.out j hjl)
                    have hy := HVH.out m.hs[j] (List.getElem_mem hjl)
                    have hym : m.hs[j] ∈ ringsM m := List.mem_cons_of_mem _ (List.getElem_mem hjl)
                    generalize m.hs[j] = y at *
                    have HAP2 := Lib.hid (fun W' (hW : Below W.heap.size W W') => apart_any x.l y.l x.A y.A x.k y.k W' (HRW.out W' hW x HXM.out) (HRW.out W' hW y hym) ⟨by omega, by omega⟩ ⟨by omega, by omega⟩)
                    have HAL2 := Lib.hid (fun W' (hW : Below W.heap.size W W') => allAt_any y.l x.l y.A x.A y.k x.k 0 W' (HRW.out W' hW y hym) hy.1 (HRW.out W' hW x HXM.out) hx.2.1 (by omega))
                    have HAL3 := Lib.hid (fun W' (hW : Below W.heap.size W W') => allAt_any x.l y.l x.A y.A x.k y.k 0 W' (HRW.out W' hW x HXM.out) hx.1 (HRW.out W' hW y hym) hy.2.1 (by omega))
                    have HPB : Hid (pairB x.l y.l = (apartB x.l y.l && (allB x.l y.l 0 && allB y.l x.l 0))) := Lib.hid rfl
                    generalize pairB x.l y.l = pb at *
                    generalize apartB x.l y.l = q1 at *
                    generalize allB x.l y.l 0 = q2 at *
                    generalize allB y.l x.l 0 = q3 at *
                    unfold rowVal at cj
                    have hj1 : (0 : Int) ≤ (j : Int) := by omega
                    have hj2 : (j : Int) < (k : Int) := by omega
                    clear hy hym
                    cases q1
                    · have HF0 : Hid (rb = false) := Lib.hid (by rw [HD1.out, HHB.out, HP1.out, HPB.out]; simp)
                      gi_wp2
                      refine ⟨trivial, ?_⟩
                      refine (callsIn_wide.2 (HAP2.out _ HBI.out)).mono ?_
                      rintro e w7 ⟨rfl, hb⟩
                      have HB7 := Lib.hid (HBI.out.trans (hb.mono HBI.out.size))
                      clear hb cj
                      have c3 : w7.cell? ⟨r + 1, 0, none⟩ = some (.bool false) := by rw [Lib.cell_of_heap (H2.out.below HB7.out).h1]; rfl
                      have f3 : w7.frozen? ⟨r + 1, 0, none⟩ = false := Lib.frozen_of_heap (H2.out.below HB7.out).h1 0
                      have hb3 := lt_of_block (H2.out.below HB7.out).h1
                      have HK9 := Lib.hid ((HB7.out.block _ (lt_of_block HKD.out)).trans HKD.out)
                      gi_wp2
                      refine ⟨trivial, ?_⟩
                      gi_wp2
                      refine ⟨trivial, ?_⟩
                      gi_wp2
                      exact sh_leave (H2.out.below HB7.out) (H3.out.trans (HB7.out.mono HZ.out)) HR.out hD HK9.out _ (by rfl) HF0.out
                    · cases q2
                      · have HF0 : Hid (rb = false) := Lib.hid (by rw [HD1.out, HHB.out, HP1.out, HPB.out]; simp)
                        gi_wp2
                        refine ⟨trivial, ?_⟩
                        refine (callsIn_wide.2 (HAP2.out _ HBI.out)).mono ?_
                        rintro e w7 ⟨rfl, hb⟩
                        have HB7 := Lib.hid (HBI.out.trans (hb.mono HBI.out.size))
                        clear hb cj
                        gi_wp2
                        refine ⟨trivial, ?_⟩
                        refine (callsIn_wide.2 (HAL2.out _ HB7.out)).mono ?_
                        rintro e w8 ⟨rfl, hb⟩
                        have HB8 := Lib.hid (HB7.out.trans (hb.mono HB7.out.size))
                        clear hb 
                        have c3 : w8.cell? ⟨r + 1, 0, none⟩ = some (.bool false) := by rw [Lib.cell_of_heap (H2.out.below HB8.out).h1]; rfl
                        have f3 : w8.frozen? ⟨r + 1, 0, none⟩ = false := Lib.frozen_of_heap (H2.out.below HB8.out).h1 0
                        have hb3 := lt_of_block (H2.out.below HB8.out).h1
                        have HK9 := Lib.hid ((HB8.out.block _ (lt_of_block HKD.out)).trans HKD.out)
                        gi_wp2
                        refine ⟨trivial, ?_⟩
                        gi_wp2
                        exact sh_leave (H2.out.below HB8.out) (H3.out.trans (HB8.out.mono HZ.out)) HR.out hD HK9.out _ (by rfl) HF0.out
                      · cases q3
                        · have HF0 : Hid (rb = false) := Lib.hid (by rw [HD1.out, HHB.out, HP1.out, HPB.out]; simp)
                          gi_wp2
                          refine ⟨trivial, ?_⟩
                          refine (callsIn_wide.2 (HAP2.out _ HBI.out)).mono ?_
                          rintro e w7 ⟨rfl, hb⟩
                          have HB7 := Lib.hid (HBI.out.trans (hb.mono HBI.out.size))
                          clear hb cj
                          gi_wp2
                          refine ⟨trivial, ?_⟩
                          refine (callsIn_wide.2 (HAL2.out _ HB7.out)).mono ?_
                          rintro e w8 ⟨rfl, hb⟩
                          have HB8 := Lib.hid (HB7.out.trans (hb.mono HB7.out.size))
                          clear hb 
                          gi_wp2
                          refine ⟨trivial, ?_⟩
                          refine (callsIn_wide.2 (HAL3.out _ HB8.out)).mono ?_
                          rintro e w9 ⟨rfl, hb⟩
                          have HB9 := Lib.hid (HB8.out.trans (hb.mono HB8.out.size))
                          clear hb 
                          have c3 : w9.cell? ⟨r + 1, 0, none⟩ = some (.bool false) := by rw [Lib.cell_of_heap (H2.out.below HB9.out).h1]; rfl
                          have f3 : w9.frozen? ⟨r + 1, 0, none⟩ = false := Lib.frozen_of_heap (H2.out.below HB9.out).h1 0
                          have hb3 := lt_of_block (H2.out.below HB9.out).h1
                          have HK9 := Lib.hid ((HB9.out.block _ (lt_of_block HKD.out)).trans HKD.out)
                          gi_wp2
                          exact sh_leave (H2.out.below HB9.out) (H3.out.trans (HB9.out.mono HZ.out)) HR.out hD HK9.out _ (by rfl) HF0.out
                        · have HP2 : Hid (pq = allFrom (fun j => pairB x.l (hAt (holesL m) j)) (k - (j + 1)) (j + 1)) := Lib.hid (by rw [HP1.out, HPB.out]; rfl)
                          gi_wp2
                          refine ⟨trivial, ?_⟩
                          refine (callsIn_wide.2 (HAP2.out _ HBI.out)).mono ?_
                          rintro e w7 ⟨rfl, hb⟩
                          have HB7 := Lib.hid (HBI.out.trans (hb.mono HBI.out.size))
                          clear hb cj
                          gi_wp2
                          refine ⟨trivial, ?_⟩
                          refine (callsIn_wide.2 (HAL2.out _ HB7.out)).mono ?_
                          rintro e w8 ⟨rfl, hb⟩
                          have HB8 := Lib.hid (HB7.out.trans (hb.mono HB7.out.size))
                          clear hb 
                          gi_wp2
                          refine ⟨trivial, ?_⟩
                          refine (callsIn_wide.2 (HAL3.out _ HB8.out)).mono ?_
                          rintro e w9 ⟨rfl, hb⟩
                          have HB9 := Lib.hid (HB8.out.trans (hb.mono HB8.out.size))
                          clear hb 
                          gi_wp2
                          go_roundw
                          case rel => exact ⟨j + 1, by go_num, by omega, HP2, HB9⟩
                          case measure => simp [intOf]; omega
                  · obtain rfl : j = k := by omega
                    have HD2 : Hid (rb = allFrom (holeB m.o.l (holesL m)) (m.hs.length - (j + 1)) (j + 1)) := Lib.hid (by rw [HD1.out, HHB.out, HPQ.out, allFrom_end]; rfl)
                    gi_wp2
                    go_roundw
                    case rel => exact ⟨j + 1, by go_num, by omega, HD2, HBI⟩
                    case measure => simp [intOf]; omega
          · obtain rfl : k = m.hs.length := by omega
            have HF1 : Hid (rb = true) := Lib.hid (by rw [HD.out, allFrom_end])
            have HK9 := Lib.hid ((HB.out.block _ (lt_of_block HKD.out)).trans HKD.out)
            have c3 : wr.cell? ⟨r + 1, 0, none⟩ = some (.bool false) := by rw [Lib.cell_of_heap HC.out.h1]; rfl
            have f3 : wr.frozen? ⟨r + 1, 0, none⟩ = false := Lib.frozen_of_heap HC.out.h1 0
            have hb3 := lt_of_block HC.out.h1
            gi_wp2
            exact sh_leave HC.out (H3.out.trans (HB.out.mono HZ.out)) HR.out hD HK9.out _ (by rfl) HF1.out
    case stop =>
      rintro D c pre W hD ⟨post, hpost⟩ ⟨rfl, ⟨x, hx, hq⟩, ⟨n, h3⟩, h4⟩ hK
      gi_wp2
      rw [HS4.out] at hD
      have h3' := h3.put (l := D) (by omega) (.deferred none)
      refine ⟨by simp, .inl ⟨_, _, rfl, run_takeDeferred hK, ?_⟩⟩
      have HRF : rb = false := by
        rw [HRB.out]
        unfold shapeB
        have : (m.o.l :: holesL m).all ringB = false := by
          rw [List.all_eq_false]
          refine ⟨x.l, ?_, by simp [hq]⟩
          have : x ∈ ringsM m := by rw [← hpost]; exact List.mem_append_left _ hx
          rcases List.mem_cons.1 this with rfl | h
          · simp
          · exact List.mem_cons_of_mem _ (List.mem_map_of_mem h)
        rw [this]
        simp
      rw [HRF]
      exact ⟨_, shres h3'.h1 _ rfl, rfl, by rw [HR.out]; exact below_put h4 (by omega) _⟩
end Go.Proofs.YtnmmhcchpcbeeaaGreat.GeW
