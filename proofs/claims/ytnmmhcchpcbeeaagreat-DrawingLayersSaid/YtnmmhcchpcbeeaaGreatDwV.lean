/- Walks: whether an entity of a drawing is valid. Conditions: its points lie in memory. -/
import Derived.Test.YtnmmhcchpcbeeaaGreatDwPlain
import Derived.Test.YtnmmhcchpcbeeaaGreatOdLex
import Derived.Test.YtnmmhcchpcbeeaaGreatEqV

namespace Go.Proofs.YtnmmhcchpcbeeaaGreat.GeW
open Go Go.RowKit Go.Proofs.YtnmmhcchpcbeeaaGreat.Mem Go.Proofs.YtnmmhcchpcbeeaaGreat.Ge
open Go.Proofs.YtnmmhcchpcbeeaaGreat.LexW (isName_any risName_any)
attribute [local go_sem ↓] Go.wp_at_zero Go.wp_at_succ
set_option maxRecDepth 100000 in
theorem dnear_any (x y : Int) (w : World) : Calls Tryz.prog 141 #[.agg #[.int .i64 x, .int .i64 y]] w fun e w' => e = .returned (.bool (within (x, y) 2000)) ∧ Below w.heap.size w w' := by
  have HO := Lib.hid (one_vec w (.cells #[.int .i64 x, .int .i64 y] 53))
  have HW := Lib.hid (fun W => within_any x y 2000 W (by omega))
  obtain ⟨x0, x1⟩ := pair_at HO.out.2 (Below.refl _ _)
  generalize within (x, y) 2000 = b at *
  go_enter Tryz.func141, Tryz.ntmps141
  go_wp2_with fail
  refine (HW.out _).mono ?_
  rintro e w2 ⟨rfl, hb2⟩
  go_wp2
  go_ret
  exact ⟨rfl, HO.out.1.trans (hb2.mono (Below.size HO.out.1))⟩
set_option maxRecDepth 100000 in
theorem dnear1_any (v : V) (w : World) : Calls Tryz.prog 143 #[.agg #[.int .i64 v.1, .int .i64 v.2]] w fun e w' => e = .returned (.bool (!within v 2000)) ∧ Below w.heap.size w w' := by
  obtain ⟨x, y⟩ := v
  have HO := Lib.hid (one_vec w (.cells #[.int .i64 x, .int .i64 y] 53))
  have HW := Lib.hid (fun W => dnear_any x y W)
  obtain ⟨x0, x1⟩ := pair_at HO.out.2 (Below.refl _ _)
  generalize within (x, y) 2000 = b at *
  go_enter Tryz.func143, Tryz.ntmps143
  go_wp2_with fail
  refine (HW.out _).mono ?_
  rintro e w2 ⟨rfl, hb2⟩
  go_wp2
  go_ret
  exact ⟨rfl, HO.out.1.trans (hb2.mono (Below.size HO.out.1))⟩
set_option maxRecDepth 100000 in
set_option maxHeartbeats 1000000 in
theorem dindexPts_any (l : List V) (A : Option Addr) (c : Nat) (w : World) (hr : Row w A (l.flatMap ptCells)) (hl : l.length ≤ 17592186043904) :
    Calls Tryz.prog 189 #[.slice A l.length c, .func (.func 143) #[] #[]] w fun e w' => e = .returned (.int .i64 (idx (fun v => !within v 2000) l 0)) ∧ Below w.heap.size w w' := by
  have HR := Lib.hid hr
  clear hr
  have hst := Lib.hid (show idx (fun v => !within v 2000) l 0 = idx (fun v => !within v 2000) (l.drop 0) 0 by simp)
  go_enter Tryz.func189, Tryz.ntmps189
  go_wp2
  go_loopw [5, 8] (fun _ t wr => ∃ k : Nat, k ≤ l.length ∧ t = .int .i64 k ∧ Hid (idx (fun v => !within v 2000) l 0 = idx (fun v => !within v 2000) (l.drop k) k) ∧ Below w.heap.size w wr) (fun _ t _ => l.length - (intOf t).toNat)
  case atStart => exact ⟨0, Nat.zero_le _, rfl, hst, Below.refl _ _⟩
  case round =>
    obtain ⟨k, hk, rfl, hd, hbel⟩ := hrel
    by_cases hlt : k < l.length
    · obtain ⟨g, off, rfl, hg, ca⟩ := row_get pt_len (by decide) HR.out (by omega)
      have a0 := (hbel.cell (p := ⟨g, off + k * 2, none⟩) hg).trans (ca k hlt 0 (by decide))
      have a1 := (hbel.cell (p := ⟨g, off + k * 2 + 1, none⟩) hg).trans (ca k hlt 1 (by decide))
      have hno := Lib.hid (idx_no (fun v => !within v 2000) l k hlt)
      have hyes := Lib.hid (idx_yes (fun v => !within v 2000) l k hlt)
      have HM := Lib.hid (fun W => dnear1_any l[k] W)
      have hk1 : (0 : Int) ≤ (k : Int) := by omega
      have hk2 : (k : Int) < (l.length : Int) := by omega
      clear ca
      generalize l[k] = m at *
      obtain ⟨mx, my⟩ := m
      simp only [ptCells, List.getElem?_cons_zero, List.getElem?_cons_succ] at a0 a1
      generalize (!within (mx, my) 2000) = b at *
      cases b
      · go_wp2_with fail
        refine (HM.out _).mono ?_
        rintro e w2 ⟨rfl, hb2⟩
        have HB2 := Lib.hid (hbel.trans (hb2.mono hbel.size))
        clear hb2
        go_wp2
        go_roundw
        case rel => exact ⟨k + 1, hlt, by go_num, Lib.hid (hd.out.trans (hno.out trivial)), HB2.out⟩
        case measure => simp [intOf]; omega
      · go_wp2_with fail
        refine (HM.out _).mono ?_
        rintro e w2 ⟨rfl, hb2⟩
        have HB2 := Lib.hid (hbel.trans (hb2.mono hbel.size))
        clear hb2
        go_wp2
        go_ret
        rw [hd.out, hyes.out trivial]
        exact ⟨rfl, HB2.out⟩
    · obtain rfl : k = l.length := by omega
      go_wp2
      go_ret
      rw [hd.out, List.drop_length]
      exact ⟨rfl, hbel⟩
theorem dcontainsPts_any (l : List V) (A : Option Addr) (c : Nat) (w : World) (hr : Row w A (l.flatMap ptCells)) (hl : l.length ≤ 17592186043904) :
    Calls Tryz.prog 142 #[.slice A l.length c, .func (.func 143) #[] #[]] w fun e w' => e = .returned (.bool (!(near l))) ∧ Below w.heap.size w w' := by
  have hi := Lib.hid (dindexPts_any l A c w hr hl)
  have hq := Lib.hid (idx_ge (fun v => !within v 2000) l 0)
  have hz : Hid ((l.any fun v => !within v 2000) = !(near l)) := Lib.hid (by unfold near; simp [List.all_eq_not_any_not])
  clear hr
  go_enter Tryz.func142, Tryz.ntmps142
  go_wp2_with fail
  refine hi.out.mono ?_
  rintro e w1 ⟨rfl, hb1⟩
  go_wp2
  go_ret
  rw [hq.out, hz.out]
  exact ⟨rfl, hb1⟩
theorem cellAt14 {w : World} {g : Nat} {cs : Array Value} {t : TypeId} (h : w.heap[g]? = some (.cells cs t (0, 0))) (i : Nat) (hi : i < cs.size) : w.cell? ⟨g, i, none⟩ = some cs[i] := by
  simp [World.cell?, h, Array.getElem?_eq_getElem hi]
theorem isName2 (s : List UInt8) (hs : s.length ≤ 1000000) (w : World) : Calls Tryz.prog 35 #[.string ⟨s.toArray⟩] w fun e w' => e = .returned (.bool (Lex.isName s)) ∧ w' = w := by
  have := isName_any ⟨s.toArray⟩ w (by simpa [ByteArray.size] using hs)
  refine this.mono ?_
  rintro e w' ⟨rfl, rfl⟩
  exact ⟨rfl, rfl⟩
def entK (e : Ent) : Bool := if e.kind = 1 then lineOk e else if e.kind = 2 then turnOk e else if e.kind = 3 then polyOk e else false
set_option maxRecDepth 100000 in
set_option maxHeartbeats 8000000 in
theorem entOk_any (x : EntV) (w : World) (hp : PtsIn w x) :
    Calls Tryz.prog 84 #[.agg (entVals x).toArray] w fun e w' => e = .returned (.bool (entOk x.e)) ∧ Below w.heap.size w w' := by
  obtain ⟨e, A, k⟩ := x
  obtain ⟨hrow, hl6, hlk, hlay⟩ := hp
  simp only at hrow hl6 hlk hlay
  have HIN := Lib.hid (fun W => isName2 e.layer hlay W)
  have HCP := Lib.hid (fun W (hW : Below w.heap.size w W) => dcontainsPts_any e.pts A k W (hrow.below hW) (by omega))
  clear hrow
  show Calls Tryz.prog 84 #[.agg #[.int .i64 e.kind, .string ⟨e.layer.toArray⟩, .int .i64 e.a.1, .int .i64 e.a.2, .int .i64 e.b.1, .int .i64 e.b.2, .int .i64 e.f.1, .int .i64 e.f.2, .int .i64 e.t.1, .int .i64 e.t.2, .int .i64 e.c.1, .int .i64 e.c.2, .bool e.cw, .slice A e.pts.length k]] w fun r w' => r = .returned (.bool (entOk e)) ∧ Below w.heap.size w w'
  obtain ⟨kd, HKE⟩ : ∃ kd, Hid (e.kind = kd) := ⟨_, Lib.hid rfl⟩
  obtain ⟨lay, HLY⟩ : ∃ lay, Hid (ByteArray.mk e.layer.toArray = lay) := ⟨_, Lib.hid rfl⟩
  obtain ⟨ax, HA1⟩ : ∃ v, Hid (e.a.1 = v) := ⟨_, Lib.hid rfl⟩
  obtain ⟨ay, HA2⟩ : ∃ v, Hid (e.a.2 = v) := ⟨_, Lib.hid rfl⟩
  obtain ⟨bx, HB1⟩ : ∃ v, Hid (e.b.1 = v) := ⟨_, Lib.hid rfl⟩
  obtain ⟨b_y, HB2⟩ : ∃ v, Hid (e.b.2 = v) := ⟨_, Lib.hid rfl⟩
  obtain ⟨fx, HF1⟩ : ∃ v, Hid (e.f.1 = v) := ⟨_, Lib.hid rfl⟩
  obtain ⟨fy, HF2⟩ : ∃ v, Hid (e.f.2 = v) := ⟨_, Lib.hid rfl⟩
  obtain ⟨tx, HT1⟩ : ∃ v, Hid (e.t.1 = v) := ⟨_, Lib.hid rfl⟩
  obtain ⟨ty, HT2⟩ : ∃ v, Hid (e.t.2 = v) := ⟨_, Lib.hid rfl⟩
  obtain ⟨cx, HC1⟩ : ∃ v, Hid (e.c.1 = v) := ⟨_, Lib.hid rfl⟩
  obtain ⟨cy, HC2⟩ : ∃ v, Hid (e.c.2 = v) := ⟨_, Lib.hid rfl⟩
  obtain ⟨cw, HCW⟩ : ∃ v, Hid (e.cw = v) := ⟨_, Lib.hid rfl⟩
  obtain ⟨n, HLE⟩ : ∃ v, Hid (e.pts.length = v) := ⟨_, Lib.hid rfl⟩
  have HEA : Hid (e.a = (ax, ay)) := Lib.hid (Prod.ext HA1.out HA2.out)
  have HEB : Hid (e.b = (bx, b_y)) := Lib.hid (Prod.ext HB1.out HB2.out)
  have HEF : Hid (e.f = (fx, fy)) := Lib.hid (Prod.ext HF1.out HF2.out)
  have HET : Hid (e.t = (tx, ty)) := Lib.hid (Prod.ext HT1.out HT2.out)
  have HEC : Hid (e.c = (cx, cy)) := Lib.hid (Prod.ext HC1.out HC2.out)
  rw [HKE.out, HLY.out, HA1.out, HA2.out, HB1.out, HB2.out, HF1.out, HF2.out, HT1.out, HT2.out, HC1.out, HC2.out, HCW.out, HLE.out]
  rw [HLE.out] at HCP hl6 hlk
  rw [HLY.out] at HIN
  have HNA := Lib.hid (fun W => dnear_any ax ay W)
  have HNB := Lib.hid (fun W => dnear_any bx b_y W)
  have HAV := Lib.hid (fun W => arcOk_any fx fy tx ty cx cy cw W)
  have HO := Lib.hid (one_vec w (.cells #[.int .i64 kd, .string lay, .int .i64 ax, .int .i64 ay, .int .i64 bx, .int .i64 b_y, .int .i64 fx, .int .i64 fy, .int .i64 tx, .int .i64 ty, .int .i64 cx, .int .i64 cy, .bool cw, .slice A n k] 66))
  go_enter Tryz.func84, Tryz.ntmps84
  go_upto_region 1 with fail
  generalize w.alloc (.cells #[.int .i64 kd, .string lay, .int .i64 ax, .int .i64 ay, .int .i64 bx, .int .i64 b_y, .int .i64 fx, .int .i64 fy, .int .i64 tx, .int .i64 ty, .int .i64 cx, .int .i64 cy, .bool cw, .slice A n k] 66) = W at *
  have HX := Lib.hid HO.out.2
  have HW := Lib.hid HO.out.1
  have Q0 : ∀ p : Later W, p.w.cell? ⟨w.heap.size, 0, none⟩ = some (.int .i64 kd) := fun p => cellAt14 ((p.h.block _ (lt_of_block HX.out)).trans HX.out) 0 (by simp)
  have Q1 : ∀ p : Later W, p.w.cell? ⟨w.heap.size, 1, none⟩ = some (.string lay) := fun p => cellAt14 ((p.h.block _ (lt_of_block HX.out)).trans HX.out) 1 (by simp)
  have Q2 : ∀ p : Later W, p.w.cell? ⟨w.heap.size, 2, none⟩ = some (.int .i64 ax) := fun p => cellAt14 ((p.h.block _ (lt_of_block HX.out)).trans HX.out) 2 (by simp)
  have Q3 : ∀ p : Later W, p.w.cell? ⟨w.heap.size, 3, none⟩ = some (.int .i64 ay) := fun p => cellAt14 ((p.h.block _ (lt_of_block HX.out)).trans HX.out) 3 (by simp)
  have Q4 : ∀ p : Later W, p.w.cell? ⟨w.heap.size, 4, none⟩ = some (.int .i64 bx) := fun p => cellAt14 ((p.h.block _ (lt_of_block HX.out)).trans HX.out) 4 (by simp)
  have Q5 : ∀ p : Later W, p.w.cell? ⟨w.heap.size, 5, none⟩ = some (.int .i64 b_y) := fun p => cellAt14 ((p.h.block _ (lt_of_block HX.out)).trans HX.out) 5 (by simp)
  have Q6 : ∀ p : Later W, p.w.cell? ⟨w.heap.size, 6, none⟩ = some (.int .i64 fx) := fun p => cellAt14 ((p.h.block _ (lt_of_block HX.out)).trans HX.out) 6 (by simp)
  have Q7 : ∀ p : Later W, p.w.cell? ⟨w.heap.size, 7, none⟩ = some (.int .i64 fy) := fun p => cellAt14 ((p.h.block _ (lt_of_block HX.out)).trans HX.out) 7 (by simp)
  have Q8 : ∀ p : Later W, p.w.cell? ⟨w.heap.size, 8, none⟩ = some (.int .i64 tx) := fun p => cellAt14 ((p.h.block _ (lt_of_block HX.out)).trans HX.out) 8 (by simp)
  have Q9 : ∀ p : Later W, p.w.cell? ⟨w.heap.size, 9, none⟩ = some (.int .i64 ty) := fun p => cellAt14 ((p.h.block _ (lt_of_block HX.out)).trans HX.out) 9 (by simp)
  have Q10 : ∀ p : Later W, p.w.cell? ⟨w.heap.size, 10, none⟩ = some (.int .i64 cx) := fun p => cellAt14 ((p.h.block _ (lt_of_block HX.out)).trans HX.out) 10 (by simp)
  have Q11 : ∀ p : Later W, p.w.cell? ⟨w.heap.size, 11, none⟩ = some (.int .i64 cy) := fun p => cellAt14 ((p.h.block _ (lt_of_block HX.out)).trans HX.out) 11 (by simp)
  have Q12 : ∀ p : Later W, p.w.cell? ⟨w.heap.size, 12, none⟩ = some (.bool cw) := fun p => cellAt14 ((p.h.block _ (lt_of_block HX.out)).trans HX.out) 12 (by simp)
  have Q13 : ∀ p : Later W, p.w.cell? ⟨w.heap.size, 13, none⟩ = some (.slice A n k) := fun p => cellAt14 ((p.h.block _ (lt_of_block HX.out)).trans HX.out) 13 (by simp)
  go_cut [3, 4, 5] from 6 to 24 (fun p q r wc => p = .bool (noLine e) ∧ q = .bool (noArc e) ∧ r = .bool (noPts e) ∧ Below W.heap.size W wc)
  case first =>
    have HE1 := eql_vec ax ay bx b_y
    have HE2 := eql_vec ax ay 0 0
    have HE3 := eql_arc fx fy tx ty cx cy 0 0 0 0 0 0 cw false
    have HL : Hid (noLine e = (decide ((ax, ay) = (bx, b_y)) && decide ((ax, ay) = (0, 0)))) := Lib.hid (by unfold noLine z0; rw [HEA.out, HEB.out])
    have HA : Hid (noArc e = (decide ((fx, fy) = (0, 0)) && (decide ((tx, ty) = (0, 0)) && (decide ((cx, cy) = (0, 0)) && decide (cw = false))))) := Lib.hid (by unfold noArc z0; rw [HEF.out, HET.out, HEC.out, HCW.out]; cases cw <;> rfl)
    have HPN : Hid (noPts e = ((n : Int) == 0)) := Lib.hid (by unfold noPts; rw [HLE.out, Bool.eq_iff_iff]; simp)
    generalize decide ((ax, ay) = (bx, b_y)) = r1 at *
    generalize decide ((ax, ay) = (0, 0)) = r2 at *
    generalize (decide ((fx, fy) = (0, 0)) && (decide ((tx, ty) = (0, 0)) && (decide ((cx, cy) = (0, 0)) && decide (cw = false)))) = r3 at *
    cases r1
    · refine wp_region_later W (by kernel_rfl) (by kernel_rfl) (Below.refl _ _) ?_
      repeat (go_big_quiet_step (fail))
      refine wpQuiet_nil ?_
      rintro w9 hex; have hb9 := later_of hex; clear hex
      have HB9 := Lib.hid (HW.out.trans (hb9.mono HW.out.size))
      go_wp2_with fail
      go_meet
      exact ⟨by rw [HL.out]; rfl, by rw [HA.out], by rw [HPN.out], hb9⟩
    · refine wp_region_later W (by kernel_rfl) (by kernel_rfl) (Below.refl _ _) ?_
      repeat (go_big_quiet_step (fail))
      refine wpQuiet_nil ?_
      rintro w9 hex; have hb9 := later_of hex; clear hex
      have HB9 := Lib.hid (HW.out.trans (hb9.mono HW.out.size))
      go_wp2_with fail
      go_meet
      exact ⟨by rw [HL.out]; rfl, by rw [HA.out], by rw [HPN.out], hb9⟩
  case rest =>
    obtain ⟨rfl, rfl, rfl, hbc⟩ := hcut
    obtain ⟨bl, HBL⟩ : ∃ v, Hid (noLine e = v) := ⟨_, Lib.hid rfl⟩
    obtain ⟨ba, HBA⟩ : ∃ v, Hid (noArc e = v) := ⟨_, Lib.hid rfl⟩
    obtain ⟨bp, HBP⟩ : ∃ v, Hid (noPts e = v) := ⟨_, Lib.hid rfl⟩
    rw [HBL.out, HBA.out, HBP.out]
    have HBC := Lib.hid hbc
    have qq0 := Q0 ⟨wc, hbc⟩
    have qq1 := Q1 ⟨wc, hbc⟩
    simp only at qq0 qq1
    clear hbc
    cases hnm : Lex.isName e.layer
    · have HV : Hid (entOk e = false) := Lib.hid (by unfold entOk; rw [hnm]; rfl)
      rw [hnm] at HIN
      clear hnm
      go_wp2_with fail
      refine (HIN.out _).mono ?_
      rintro r w4 ⟨rfl, rfl⟩
      go_wp2
      go_ret
      rw [HV.out]
      exact ⟨rfl, HW.out.trans (HBC.out.mono HW.out.size)⟩
    have HN : Hid (entOk e = entK e) := Lib.hid (by unfold entOk; rw [hnm]; rfl)
    rw [hnm] at HIN
    clear hnm
    go_wp2_with fail
    refine (HIN.out _).mono ?_
    rintro r w4 ⟨rfl, rfl⟩
    go_upto_region 4 with fail
    by_cases k1 : kd = 1
    · have HKD : Hid (e.kind = 1) := Lib.hid (HKE.out.trans k1)
      have s1 : (kd == 1) = true := beq_iff_eq.2 k1
      have s1' : (kd = 1) = True := eq_true k1
      clear k1
      have HLN : Hid (entK e = (!decide (e.a = e.b) && (within e.a 2000 && (within e.b 2000 && (noArc e && noPts e))))) := Lib.hid (by unfold entK; rw [HKD.out]; rfl)
      have HE1 := neq_vec ax ay bx b_y
      have HNE0 : Hid (decide (e.a = e.b) = decide ((ax, ay) = (bx, b_y))) := Lib.hid (by rw [HEA.out, HEB.out])
      generalize decide ((ax, ay) = (bx, b_y)) = r1 at *
      cases r1
      · have HNE := HNE0
        cases hna : within (ax, ay) 2000
        · rw [hna] at HNA
          have HV : Hid (entOk e = false) := Lib.hid (by rw [HN.out]; rw [HLN.out, HNE.out, HEA.out, hna]; rfl)
          have HR0 := HBC
          have q0 := Q0 ⟨_, HR0.out⟩
          have q1 := Q1 ⟨_, HR0.out⟩
          have q2 := Q2 ⟨_, HR0.out⟩
          have q3 := Q3 ⟨_, HR0.out⟩
          have q4 := Q4 ⟨_, HR0.out⟩
          have q5 := Q5 ⟨_, HR0.out⟩
          have q6 := Q6 ⟨_, HR0.out⟩
          have q7 := Q7 ⟨_, HR0.out⟩
          have q8 := Q8 ⟨_, HR0.out⟩
          have q9 := Q9 ⟨_, HR0.out⟩
          have q10 := Q10 ⟨_, HR0.out⟩
          have q11 := Q11 ⟨_, HR0.out⟩
          have q12 := Q12 ⟨_, HR0.out⟩
          have q13 := Q13 ⟨_, HR0.out⟩
          simp only at q0 q1 q2 q3 q4 q5 q6 q7 q8 q9 q10 q11 q12 q13
          go_wp2_with fail
          refine (HNA.out _).mono ?_
          rintro r w5 ⟨rfl, hb5⟩
          have HR1 := Lib.hid (HR0.out.trans (hb5.mono HR0.out.size))
          clear hb5 q0 q1 q2 q3 q4 q5 q6 q7 q8 q9 q10 q11 q12 q13
          have q0 := Q0 ⟨w5, HR1.out⟩
          have q1 := Q1 ⟨w5, HR1.out⟩
          have q2 := Q2 ⟨w5, HR1.out⟩
          have q3 := Q3 ⟨w5, HR1.out⟩
          have q4 := Q4 ⟨w5, HR1.out⟩
          have q5 := Q5 ⟨w5, HR1.out⟩
          have q6 := Q6 ⟨w5, HR1.out⟩
          have q7 := Q7 ⟨w5, HR1.out⟩
          have q8 := Q8 ⟨w5, HR1.out⟩
          have q9 := Q9 ⟨w5, HR1.out⟩
          have q10 := Q10 ⟨w5, HR1.out⟩
          have q11 := Q11 ⟨w5, HR1.out⟩
          have q12 := Q12 ⟨w5, HR1.out⟩
          have q13 := Q13 ⟨w5, HR1.out⟩
          simp only at q0 q1 q2 q3 q4 q5 q6 q7 q8 q9 q10 q11 q12 q13
          clear Q0 Q1 Q2 Q3 Q4 Q5 Q6 Q7 Q8 Q9 Q10 Q11 Q12 Q13
          go_wp2
          go_ret
          rw [HV.out]
          exact ⟨rfl, HW.out.trans (HR1.out.mono HW.out.size)⟩
        · rw [hna] at HNA
          cases hnb : within (bx, b_y) 2000
          · rw [hnb] at HNB
            have HV : Hid (entOk e = false) := Lib.hid (by rw [HN.out]; rw [HLN.out, HNE.out, HEA.out, HEB.out, hna, hnb]; rfl)
            have HR0 := HBC
            have q0 := Q0 ⟨_, HR0.out⟩
            have q1 := Q1 ⟨_, HR0.out⟩
            have q2 := Q2 ⟨_, HR0.out⟩
            have q3 := Q3 ⟨_, HR0.out⟩
            have q4 := Q4 ⟨_, HR0.out⟩
            have q5 := Q5 ⟨_, HR0.out⟩
            have q6 := Q6 ⟨_, HR0.out⟩
            have q7 := Q7 ⟨_, HR0.out⟩
            have q8 := Q8 ⟨_, HR0.out⟩
            have q9 := Q9 ⟨_, HR0.out⟩
            have q10 := Q10 ⟨_, HR0.out⟩
            have q11 := Q11 ⟨_, HR0.out⟩
            have q12 := Q12 ⟨_, HR0.out⟩
            have q13 := Q13 ⟨_, HR0.out⟩
            simp only at q0 q1 q2 q3 q4 q5 q6 q7 q8 q9 q10 q11 q12 q13
            go_wp2_with fail
            refine (HNA.out _).mono ?_
            rintro r w5 ⟨rfl, hb5⟩
            have HR1 := Lib.hid (HR0.out.trans (hb5.mono HR0.out.size))
            clear hb5 q0 q1 q2 q3 q4 q5 q6 q7 q8 q9 q10 q11 q12 q13
            have q0 := Q0 ⟨w5, HR1.out⟩
            have q1 := Q1 ⟨w5, HR1.out⟩
            have q2 := Q2 ⟨w5, HR1.out⟩
            have q3 := Q3 ⟨w5, HR1.out⟩
            have q4 := Q4 ⟨w5, HR1.out⟩
            have q5 := Q5 ⟨w5, HR1.out⟩
            have q6 := Q6 ⟨w5, HR1.out⟩
            have q7 := Q7 ⟨w5, HR1.out⟩
            have q8 := Q8 ⟨w5, HR1.out⟩
            have q9 := Q9 ⟨w5, HR1.out⟩
            have q10 := Q10 ⟨w5, HR1.out⟩
            have q11 := Q11 ⟨w5, HR1.out⟩
            have q12 := Q12 ⟨w5, HR1.out⟩
            have q13 := Q13 ⟨w5, HR1.out⟩
            simp only at q0 q1 q2 q3 q4 q5 q6 q7 q8 q9 q10 q11 q12 q13
            go_wp2_with fail
            refine (HNB.out _).mono ?_
            rintro r w6 ⟨rfl, hb6⟩
            have HR2 := Lib.hid (HR1.out.trans (hb6.mono HR1.out.size))
            clear hb6 q0 q1 q2 q3 q4 q5 q6 q7 q8 q9 q10 q11 q12 q13
            have q0 := Q0 ⟨w6, HR2.out⟩
            have q1 := Q1 ⟨w6, HR2.out⟩
            have q2 := Q2 ⟨w6, HR2.out⟩
            have q3 := Q3 ⟨w6, HR2.out⟩
            have q4 := Q4 ⟨w6, HR2.out⟩
            have q5 := Q5 ⟨w6, HR2.out⟩
            have q6 := Q6 ⟨w6, HR2.out⟩
            have q7 := Q7 ⟨w6, HR2.out⟩
            have q8 := Q8 ⟨w6, HR2.out⟩
            have q9 := Q9 ⟨w6, HR2.out⟩
            have q10 := Q10 ⟨w6, HR2.out⟩
            have q11 := Q11 ⟨w6, HR2.out⟩
            have q12 := Q12 ⟨w6, HR2.out⟩
            have q13 := Q13 ⟨w6, HR2.out⟩
            simp only at q0 q1 q2 q3 q4 q5 q6 q7 q8 q9 q10 q11 q12 q13
            clear Q0 Q1 Q2 Q3 Q4 Q5 Q6 Q7 Q8 Q9 Q10 Q11 Q12 Q13
            go_wp2
            go_ret
            rw [HV.out]
            exact ⟨rfl, HW.out.trans (HR2.out.mono HW.out.size)⟩
          · rw [hnb] at HNB
            cases ba
            · have HV : Hid (entOk e = false) := Lib.hid (by rw [HN.out]; rw [HLN.out, HNE.out, HEA.out, HEB.out, hna, hnb, HBA.out]; rfl)
              have HR0 := HBC
              have q0 := Q0 ⟨_, HR0.out⟩
              have q1 := Q1 ⟨_, HR0.out⟩
              have q2 := Q2 ⟨_, HR0.out⟩
              have q3 := Q3 ⟨_, HR0.out⟩
              have q4 := Q4 ⟨_, HR0.out⟩
              have q5 := Q5 ⟨_, HR0.out⟩
              have q6 := Q6 ⟨_, HR0.out⟩
              have q7 := Q7 ⟨_, HR0.out⟩
              have q8 := Q8 ⟨_, HR0.out⟩
              have q9 := Q9 ⟨_, HR0.out⟩
              have q10 := Q10 ⟨_, HR0.out⟩
              have q11 := Q11 ⟨_, HR0.out⟩
              have q12 := Q12 ⟨_, HR0.out⟩
              have q13 := Q13 ⟨_, HR0.out⟩
              simp only at q0 q1 q2 q3 q4 q5 q6 q7 q8 q9 q10 q11 q12 q13
              go_wp2_with fail
              refine (HNA.out _).mono ?_
              rintro r w5 ⟨rfl, hb5⟩
              have HR1 := Lib.hid (HR0.out.trans (hb5.mono HR0.out.size))
              clear hb5 q0 q1 q2 q3 q4 q5 q6 q7 q8 q9 q10 q11 q12 q13
              have q0 := Q0 ⟨w5, HR1.out⟩
              have q1 := Q1 ⟨w5, HR1.out⟩
              have q2 := Q2 ⟨w5, HR1.out⟩
              have q3 := Q3 ⟨w5, HR1.out⟩
              have q4 := Q4 ⟨w5, HR1.out⟩
              have q5 := Q5 ⟨w5, HR1.out⟩
              have q6 := Q6 ⟨w5, HR1.out⟩
              have q7 := Q7 ⟨w5, HR1.out⟩
              have q8 := Q8 ⟨w5, HR1.out⟩
              have q9 := Q9 ⟨w5, HR1.out⟩
              have q10 := Q10 ⟨w5, HR1.out⟩
              have q11 := Q11 ⟨w5, HR1.out⟩
              have q12 := Q12 ⟨w5, HR1.out⟩
              have q13 := Q13 ⟨w5, HR1.out⟩
              simp only at q0 q1 q2 q3 q4 q5 q6 q7 q8 q9 q10 q11 q12 q13
              go_wp2_with fail
              refine (HNB.out _).mono ?_
              rintro r w6 ⟨rfl, hb6⟩
              have HR2 := Lib.hid (HR1.out.trans (hb6.mono HR1.out.size))
              clear hb6 q0 q1 q2 q3 q4 q5 q6 q7 q8 q9 q10 q11 q12 q13
              have q0 := Q0 ⟨w6, HR2.out⟩
              have q1 := Q1 ⟨w6, HR2.out⟩
              have q2 := Q2 ⟨w6, HR2.out⟩
              have q3 := Q3 ⟨w6, HR2.out⟩
              have q4 := Q4 ⟨w6, HR2.out⟩
              have q5 := Q5 ⟨w6, HR2.out⟩
              have q6 := Q6 ⟨w6, HR2.out⟩
              have q7 := Q7 ⟨w6, HR2.out⟩
              have q8 := Q8 ⟨w6, HR2.out⟩
              have q9 := Q9 ⟨w6, HR2.out⟩
              have q10 := Q10 ⟨w6, HR2.out⟩
              have q11 := Q11 ⟨w6, HR2.out⟩
              have q12 := Q12 ⟨w6, HR2.out⟩
              have q13 := Q13 ⟨w6, HR2.out⟩
              simp only at q0 q1 q2 q3 q4 q5 q6 q7 q8 q9 q10 q11 q12 q13
              clear Q0 Q1 Q2 Q3 Q4 Q5 Q6 Q7 Q8 Q9 Q10 Q11 Q12 Q13
              go_wp2
              go_ret
              rw [HV.out]
              exact ⟨rfl, HW.out.trans (HR2.out.mono HW.out.size)⟩
            · have HV : Hid (entOk e = bp) := Lib.hid (by rw [HN.out]; rw [HLN.out, HNE.out, HEA.out, HEB.out, hna, hnb, HBA.out, HBP.out]; rfl)
              have HR0 := HBC
              have q0 := Q0 ⟨_, HR0.out⟩
              have q1 := Q1 ⟨_, HR0.out⟩
              have q2 := Q2 ⟨_, HR0.out⟩
              have q3 := Q3 ⟨_, HR0.out⟩
              have q4 := Q4 ⟨_, HR0.out⟩
              have q5 := Q5 ⟨_, HR0.out⟩
              have q6 := Q6 ⟨_, HR0.out⟩
              have q7 := Q7 ⟨_, HR0.out⟩
              have q8 := Q8 ⟨_, HR0.out⟩
              have q9 := Q9 ⟨_, HR0.out⟩
              have q10 := Q10 ⟨_, HR0.out⟩
              have q11 := Q11 ⟨_, HR0.out⟩
              have q12 := Q12 ⟨_, HR0.out⟩
              have q13 := Q13 ⟨_, HR0.out⟩
              simp only at q0 q1 q2 q3 q4 q5 q6 q7 q8 q9 q10 q11 q12 q13
              go_wp2_with fail
              refine (HNA.out _).mono ?_
              rintro r w5 ⟨rfl, hb5⟩
              have HR1 := Lib.hid (HR0.out.trans (hb5.mono HR0.out.size))
              clear hb5 q0 q1 q2 q3 q4 q5 q6 q7 q8 q9 q10 q11 q12 q13
              have q0 := Q0 ⟨w5, HR1.out⟩
              have q1 := Q1 ⟨w5, HR1.out⟩
              have q2 := Q2 ⟨w5, HR1.out⟩
              have q3 := Q3 ⟨w5, HR1.out⟩
              have q4 := Q4 ⟨w5, HR1.out⟩
              have q5 := Q5 ⟨w5, HR1.out⟩
              have q6 := Q6 ⟨w5, HR1.out⟩
              have q7 := Q7 ⟨w5, HR1.out⟩
              have q8 := Q8 ⟨w5, HR1.out⟩
              have q9 := Q9 ⟨w5, HR1.out⟩
              have q10 := Q10 ⟨w5, HR1.out⟩
              have q11 := Q11 ⟨w5, HR1.out⟩
              have q12 := Q12 ⟨w5, HR1.out⟩
              have q13 := Q13 ⟨w5, HR1.out⟩
              simp only at q0 q1 q2 q3 q4 q5 q6 q7 q8 q9 q10 q11 q12 q13
              go_wp2_with fail
              refine (HNB.out _).mono ?_
              rintro r w6 ⟨rfl, hb6⟩
              have HR2 := Lib.hid (HR1.out.trans (hb6.mono HR1.out.size))
              clear hb6 q0 q1 q2 q3 q4 q5 q6 q7 q8 q9 q10 q11 q12 q13
              have q0 := Q0 ⟨w6, HR2.out⟩
              have q1 := Q1 ⟨w6, HR2.out⟩
              have q2 := Q2 ⟨w6, HR2.out⟩
              have q3 := Q3 ⟨w6, HR2.out⟩
              have q4 := Q4 ⟨w6, HR2.out⟩
              have q5 := Q5 ⟨w6, HR2.out⟩
              have q6 := Q6 ⟨w6, HR2.out⟩
              have q7 := Q7 ⟨w6, HR2.out⟩
              have q8 := Q8 ⟨w6, HR2.out⟩
              have q9 := Q9 ⟨w6, HR2.out⟩
              have q10 := Q10 ⟨w6, HR2.out⟩
              have q11 := Q11 ⟨w6, HR2.out⟩
              have q12 := Q12 ⟨w6, HR2.out⟩
              have q13 := Q13 ⟨w6, HR2.out⟩
              simp only at q0 q1 q2 q3 q4 q5 q6 q7 q8 q9 q10 q11 q12 q13
              clear Q0 Q1 Q2 Q3 Q4 Q5 Q6 Q7 Q8 Q9 Q10 Q11 Q12 Q13
              go_wp2
              go_ret
              rw [HV.out]
              exact ⟨rfl, HW.out.trans (HR2.out.mono HW.out.size)⟩
      · have HNE := HNE0
        have HV : Hid (entOk e = false) := Lib.hid (by rw [HN.out]; rw [HLN.out, HNE.out]; rfl)
        have HR0 := HBC
        have q0 := Q0 ⟨_, HR0.out⟩
        have q1 := Q1 ⟨_, HR0.out⟩
        have q2 := Q2 ⟨_, HR0.out⟩
        have q3 := Q3 ⟨_, HR0.out⟩
        have q4 := Q4 ⟨_, HR0.out⟩
        have q5 := Q5 ⟨_, HR0.out⟩
        have q6 := Q6 ⟨_, HR0.out⟩
        have q7 := Q7 ⟨_, HR0.out⟩
        have q8 := Q8 ⟨_, HR0.out⟩
        have q9 := Q9 ⟨_, HR0.out⟩
        have q10 := Q10 ⟨_, HR0.out⟩
        have q11 := Q11 ⟨_, HR0.out⟩
        have q12 := Q12 ⟨_, HR0.out⟩
        have q13 := Q13 ⟨_, HR0.out⟩
        simp only at q0 q1 q2 q3 q4 q5 q6 q7 q8 q9 q10 q11 q12 q13
        clear Q0 Q1 Q2 Q3 Q4 Q5 Q6 Q7 Q8 Q9 Q10 Q11 Q12 Q13
        go_wp2
        go_ret
        rw [HV.out]
        exact ⟨rfl, HW.out.trans (HR0.out.mono HW.out.size)⟩
    have s1 : (kd == 1) = false := beq_eq_false_iff_ne.2 k1
    have s1' : (kd = 1) = False := eq_false k1
    by_cases k2 : kd = 2
    · have HKD : Hid (e.kind = 2) := Lib.hid (HKE.out.trans k2)
      have s2 : (kd == 2) = true := beq_iff_eq.2 k2
      have s2' : (kd = 2) = True := eq_true k2
      clear k2
      have HLN : Hid (entK e = (noLine e && (arcOk e.f e.t e.c && noPts e))) := Lib.hid (by unfold entK; rw [HKD.out]; rfl)
      cases bl
      · have HV : Hid (entOk e = false) := Lib.hid (by rw [HN.out]; rw [HLN.out, HBL.out]; rfl)
        have HR0 := HBC
        have q0 := Q0 ⟨_, HR0.out⟩
        have q1 := Q1 ⟨_, HR0.out⟩
        have q2 := Q2 ⟨_, HR0.out⟩
        have q3 := Q3 ⟨_, HR0.out⟩
        have q4 := Q4 ⟨_, HR0.out⟩
        have q5 := Q5 ⟨_, HR0.out⟩
        have q6 := Q6 ⟨_, HR0.out⟩
        have q7 := Q7 ⟨_, HR0.out⟩
        have q8 := Q8 ⟨_, HR0.out⟩
        have q9 := Q9 ⟨_, HR0.out⟩
        have q10 := Q10 ⟨_, HR0.out⟩
        have q11 := Q11 ⟨_, HR0.out⟩
        have q12 := Q12 ⟨_, HR0.out⟩
        have q13 := Q13 ⟨_, HR0.out⟩
        simp only at q0 q1 q2 q3 q4 q5 q6 q7 q8 q9 q10 q11 q12 q13
        clear Q0 Q1 Q2 Q3 Q4 Q5 Q6 Q7 Q8 Q9 Q10 Q11 Q12 Q13
        go_wp2
        go_ret
        rw [HV.out]
        exact ⟨rfl, HW.out.trans (HR0.out.mono HW.out.size)⟩
      · cases hao : arcOk (fx, fy) (tx, ty) (cx, cy)
        · rw [hao] at HAV
          have HV : Hid (entOk e = false) := Lib.hid (by rw [HN.out]; rw [HLN.out, HBL.out, HEF.out, HET.out, HEC.out, hao]; rfl)
          have HR0 := HBC
          have q0 := Q0 ⟨_, HR0.out⟩
          have q1 := Q1 ⟨_, HR0.out⟩
          have q2 := Q2 ⟨_, HR0.out⟩
          have q3 := Q3 ⟨_, HR0.out⟩
          have q4 := Q4 ⟨_, HR0.out⟩
          have q5 := Q5 ⟨_, HR0.out⟩
          have q6 := Q6 ⟨_, HR0.out⟩
          have q7 := Q7 ⟨_, HR0.out⟩
          have q8 := Q8 ⟨_, HR0.out⟩
          have q9 := Q9 ⟨_, HR0.out⟩
          have q10 := Q10 ⟨_, HR0.out⟩
          have q11 := Q11 ⟨_, HR0.out⟩
          have q12 := Q12 ⟨_, HR0.out⟩
          have q13 := Q13 ⟨_, HR0.out⟩
          simp only at q0 q1 q2 q3 q4 q5 q6 q7 q8 q9 q10 q11 q12 q13
          go_wp2_with fail
          refine (HAV.out _).mono ?_
          rintro r w5 ⟨rfl, hb5⟩
          have HR1 := Lib.hid (HR0.out.trans (hb5.mono HR0.out.size))
          clear hb5 q0 q1 q2 q3 q4 q5 q6 q7 q8 q9 q10 q11 q12 q13
          have q0 := Q0 ⟨w5, HR1.out⟩
          have q1 := Q1 ⟨w5, HR1.out⟩
          have q2 := Q2 ⟨w5, HR1.out⟩
          have q3 := Q3 ⟨w5, HR1.out⟩
          have q4 := Q4 ⟨w5, HR1.out⟩
          have q5 := Q5 ⟨w5, HR1.out⟩
          have q6 := Q6 ⟨w5, HR1.out⟩
          have q7 := Q7 ⟨w5, HR1.out⟩
          have q8 := Q8 ⟨w5, HR1.out⟩
          have q9 := Q9 ⟨w5, HR1.out⟩
          have q10 := Q10 ⟨w5, HR1.out⟩
          have q11 := Q11 ⟨w5, HR1.out⟩
          have q12 := Q12 ⟨w5, HR1.out⟩
          have q13 := Q13 ⟨w5, HR1.out⟩
          simp only at q0 q1 q2 q3 q4 q5 q6 q7 q8 q9 q10 q11 q12 q13
          clear Q0 Q1 Q2 Q3 Q4 Q5 Q6 Q7 Q8 Q9 Q10 Q11 Q12 Q13
          go_wp2
          go_ret
          rw [HV.out]
          exact ⟨rfl, HW.out.trans (HR1.out.mono HW.out.size)⟩
        · rw [hao] at HAV
          have HV : Hid (entOk e = bp) := Lib.hid (by rw [HN.out]; rw [HLN.out, HBL.out, HEF.out, HET.out, HEC.out, hao, HBP.out]; rfl)
          have HR0 := HBC
          have q0 := Q0 ⟨_, HR0.out⟩
          have q1 := Q1 ⟨_, HR0.out⟩
          have q2 := Q2 ⟨_, HR0.out⟩
          have q3 := Q3 ⟨_, HR0.out⟩
          have q4 := Q4 ⟨_, HR0.out⟩
          have q5 := Q5 ⟨_, HR0.out⟩
          have q6 := Q6 ⟨_, HR0.out⟩
          have q7 := Q7 ⟨_, HR0.out⟩
          have q8 := Q8 ⟨_, HR0.out⟩
          have q9 := Q9 ⟨_, HR0.out⟩
          have q10 := Q10 ⟨_, HR0.out⟩
          have q11 := Q11 ⟨_, HR0.out⟩
          have q12 := Q12 ⟨_, HR0.out⟩
          have q13 := Q13 ⟨_, HR0.out⟩
          simp only at q0 q1 q2 q3 q4 q5 q6 q7 q8 q9 q10 q11 q12 q13
          go_wp2_with fail
          refine (HAV.out _).mono ?_
          rintro r w5 ⟨rfl, hb5⟩
          have HR1 := Lib.hid (HR0.out.trans (hb5.mono HR0.out.size))
          clear hb5 q0 q1 q2 q3 q4 q5 q6 q7 q8 q9 q10 q11 q12 q13
          have q0 := Q0 ⟨w5, HR1.out⟩
          have q1 := Q1 ⟨w5, HR1.out⟩
          have q2 := Q2 ⟨w5, HR1.out⟩
          have q3 := Q3 ⟨w5, HR1.out⟩
          have q4 := Q4 ⟨w5, HR1.out⟩
          have q5 := Q5 ⟨w5, HR1.out⟩
          have q6 := Q6 ⟨w5, HR1.out⟩
          have q7 := Q7 ⟨w5, HR1.out⟩
          have q8 := Q8 ⟨w5, HR1.out⟩
          have q9 := Q9 ⟨w5, HR1.out⟩
          have q10 := Q10 ⟨w5, HR1.out⟩
          have q11 := Q11 ⟨w5, HR1.out⟩
          have q12 := Q12 ⟨w5, HR1.out⟩
          have q13 := Q13 ⟨w5, HR1.out⟩
          simp only at q0 q1 q2 q3 q4 q5 q6 q7 q8 q9 q10 q11 q12 q13
          clear Q0 Q1 Q2 Q3 Q4 Q5 Q6 Q7 Q8 Q9 Q10 Q11 Q12 Q13
          go_wp2
          go_ret
          rw [HV.out]
          exact ⟨rfl, HW.out.trans (HR1.out.mono HW.out.size)⟩
    have s2 : (kd == 2) = false := beq_eq_false_iff_ne.2 k2
    have s2' : (kd = 2) = False := eq_false k2
    by_cases k3 : kd = 3
    · have HKD : Hid (e.kind = 3) := Lib.hid (HKE.out.trans k3)
      have s3 : (kd == 3) = true := beq_iff_eq.2 k3
      have s3' : (kd = 3) = True := eq_true k3
      clear k3
      have HLN : Hid (entK e = (noLine e && (noArc e && (decide (3 ≤ e.pts.length) && (decide (e.pts.length ≤ 40) && near e.pts))))) := Lib.hid (by unfold entK; rw [HKD.out]; rfl)
      cases bl
      · have HV : Hid (entOk e = false) := Lib.hid (by rw [HN.out]; rw [HLN.out, HBL.out]; rfl)
        have HR0 := HBC
        have q0 := Q0 ⟨_, HR0.out⟩
        have q1 := Q1 ⟨_, HR0.out⟩
        have q2 := Q2 ⟨_, HR0.out⟩
        have q3 := Q3 ⟨_, HR0.out⟩
        have q4 := Q4 ⟨_, HR0.out⟩
        have q5 := Q5 ⟨_, HR0.out⟩
        have q6 := Q6 ⟨_, HR0.out⟩
        have q7 := Q7 ⟨_, HR0.out⟩
        have q8 := Q8 ⟨_, HR0.out⟩
        have q9 := Q9 ⟨_, HR0.out⟩
        have q10 := Q10 ⟨_, HR0.out⟩
        have q11 := Q11 ⟨_, HR0.out⟩
        have q12 := Q12 ⟨_, HR0.out⟩
        have q13 := Q13 ⟨_, HR0.out⟩
        simp only at q0 q1 q2 q3 q4 q5 q6 q7 q8 q9 q10 q11 q12 q13
        clear Q0 Q1 Q2 Q3 Q4 Q5 Q6 Q7 Q8 Q9 Q10 Q11 Q12 Q13
        go_wp2
        go_ret
        rw [HV.out]
        exact ⟨rfl, HW.out.trans (HR0.out.mono HW.out.size)⟩
      · cases ba
        · have HV : Hid (entOk e = false) := Lib.hid (by rw [HN.out]; rw [HLN.out, HBL.out, HBA.out]; rfl)
          have HR0 := HBC
          have q0 := Q0 ⟨_, HR0.out⟩
          have q1 := Q1 ⟨_, HR0.out⟩
          have q2 := Q2 ⟨_, HR0.out⟩
          have q3 := Q3 ⟨_, HR0.out⟩
          have q4 := Q4 ⟨_, HR0.out⟩
          have q5 := Q5 ⟨_, HR0.out⟩
          have q6 := Q6 ⟨_, HR0.out⟩
          have q7 := Q7 ⟨_, HR0.out⟩
          have q8 := Q8 ⟨_, HR0.out⟩
          have q9 := Q9 ⟨_, HR0.out⟩
          have q10 := Q10 ⟨_, HR0.out⟩
          have q11 := Q11 ⟨_, HR0.out⟩
          have q12 := Q12 ⟨_, HR0.out⟩
          have q13 := Q13 ⟨_, HR0.out⟩
          simp only at q0 q1 q2 q3 q4 q5 q6 q7 q8 q9 q10 q11 q12 q13
          clear Q0 Q1 Q2 Q3 Q4 Q5 Q6 Q7 Q8 Q9 Q10 Q11 Q12 Q13
          go_wp2
          go_ret
          rw [HV.out]
          exact ⟨rfl, HW.out.trans (HR0.out.mono HW.out.size)⟩
        · by_cases h3 : 3 ≤ n
          · have t3 : decide ((3 : Int) ≤ (n : Int)) = true := decide_eq_true (by omega)
            by_cases h40 : n ≤ 40
            · have t4 : decide ((n : Int) ≤ 40) = true := decide_eq_true (by omega)
              have HV : Hid (entOk e = (near e.pts)) := Lib.hid (by rw [HN.out]; rw [HLN.out, HBL.out, HBA.out, HLE.out, decide_eq_true h3, decide_eq_true h40]; rfl)
              have HR0 := HBC
              have q0 := Q0 ⟨_, HR0.out⟩
              have q1 := Q1 ⟨_, HR0.out⟩
              have q2 := Q2 ⟨_, HR0.out⟩
              have q3 := Q3 ⟨_, HR0.out⟩
              have q4 := Q4 ⟨_, HR0.out⟩
              have q5 := Q5 ⟨_, HR0.out⟩
              have q6 := Q6 ⟨_, HR0.out⟩
              have q7 := Q7 ⟨_, HR0.out⟩
              have q8 := Q8 ⟨_, HR0.out⟩
              have q9 := Q9 ⟨_, HR0.out⟩
              have q10 := Q10 ⟨_, HR0.out⟩
              have q11 := Q11 ⟨_, HR0.out⟩
              have q12 := Q12 ⟨_, HR0.out⟩
              have q13 := Q13 ⟨_, HR0.out⟩
              simp only at q0 q1 q2 q3 q4 q5 q6 q7 q8 q9 q10 q11 q12 q13
              go_wp2_with fail
              refine (HCP.out _ (HW.out.trans (HBC.out.mono HW.out.size))).mono ?_
              rintro r w5 ⟨rfl, hb5⟩
              have HR1 := Lib.hid (HR0.out.trans (hb5.mono HR0.out.size))
              clear hb5 q0 q1 q2 q3 q4 q5 q6 q7 q8 q9 q10 q11 q12 q13
              have q0 := Q0 ⟨w5, HR1.out⟩
              have q1 := Q1 ⟨w5, HR1.out⟩
              have q2 := Q2 ⟨w5, HR1.out⟩
              have q3 := Q3 ⟨w5, HR1.out⟩
              have q4 := Q4 ⟨w5, HR1.out⟩
              have q5 := Q5 ⟨w5, HR1.out⟩
              have q6 := Q6 ⟨w5, HR1.out⟩
              have q7 := Q7 ⟨w5, HR1.out⟩
              have q8 := Q8 ⟨w5, HR1.out⟩
              have q9 := Q9 ⟨w5, HR1.out⟩
              have q10 := Q10 ⟨w5, HR1.out⟩
              have q11 := Q11 ⟨w5, HR1.out⟩
              have q12 := Q12 ⟨w5, HR1.out⟩
              have q13 := Q13 ⟨w5, HR1.out⟩
              simp only at q0 q1 q2 q3 q4 q5 q6 q7 q8 q9 q10 q11 q12 q13
              clear Q0 Q1 Q2 Q3 Q4 Q5 Q6 Q7 Q8 Q9 Q10 Q11 Q12 Q13
              go_wp2
              go_ret
              rw [HV.out]
              exact ⟨by simp, HW.out.trans (HR1.out.mono HW.out.size)⟩
            · have t4 : decide ((n : Int) ≤ 40) = false := decide_eq_false (by omega)
              have HV : Hid (entOk e = false) := Lib.hid (by rw [HN.out]; rw [HLN.out, HBL.out, HBA.out, HLE.out, decide_eq_true h3, decide_eq_false h40]; rfl)
              have HR0 := HBC
              have q0 := Q0 ⟨_, HR0.out⟩
              have q1 := Q1 ⟨_, HR0.out⟩
              have q2 := Q2 ⟨_, HR0.out⟩
              have q3 := Q3 ⟨_, HR0.out⟩
              have q4 := Q4 ⟨_, HR0.out⟩
              have q5 := Q5 ⟨_, HR0.out⟩
              have q6 := Q6 ⟨_, HR0.out⟩
              have q7 := Q7 ⟨_, HR0.out⟩
              have q8 := Q8 ⟨_, HR0.out⟩
              have q9 := Q9 ⟨_, HR0.out⟩
              have q10 := Q10 ⟨_, HR0.out⟩
              have q11 := Q11 ⟨_, HR0.out⟩
              have q12 := Q12 ⟨_, HR0.out⟩
              have q13 := Q13 ⟨_, HR0.out⟩
              simp only at q0 q1 q2 q3 q4 q5 q6 q7 q8 q9 q10 q11 q12 q13
              clear Q0 Q1 Q2 Q3 Q4 Q5 Q6 Q7 Q8 Q9 Q10 Q11 Q12 Q13
              go_wp2
              go_ret
              rw [HV.out]
              exact ⟨rfl, HW.out.trans (HR0.out.mono HW.out.size)⟩
          · have t3 : decide ((3 : Int) ≤ (n : Int)) = false := decide_eq_false (by omega)
            have HV : Hid (entOk e = false) := Lib.hid (by rw [HN.out]; rw [HLN.out, HBL.out, HBA.out, HLE.out, decide_eq_false h3]; rfl)
            have HR0 := HBC
            have q0 := Q0 ⟨_, HR0.out⟩
            have q1 := Q1 ⟨_, HR0.out⟩
            have q2 := Q2 ⟨_, HR0.out⟩
            have q3 := Q3 ⟨_, HR0.out⟩
            have q4 := Q4 ⟨_, HR0.out⟩
            have q5 := Q5 ⟨_, HR0.out⟩
            have q6 := Q6 ⟨_, HR0.out⟩
            have q7 := Q7 ⟨_, HR0.out⟩
            have q8 := Q8 ⟨_, HR0.out⟩
            have q9 := Q9 ⟨_, HR0.out⟩
            have q10 := Q10 ⟨_, HR0.out⟩
            have q11 := Q11 ⟨_, HR0.out⟩
            have q12 := Q12 ⟨_, HR0.out⟩
            have q13 := Q13 ⟨_, HR0.out⟩
            simp only at q0 q1 q2 q3 q4 q5 q6 q7 q8 q9 q10 q11 q12 q13
            clear Q0 Q1 Q2 Q3 Q4 Q5 Q6 Q7 Q8 Q9 Q10 Q11 Q12 Q13
            go_wp2
            go_ret
            rw [HV.out]
            exact ⟨rfl, HW.out.trans (HR0.out.mono HW.out.size)⟩
    have s3 : (kd == 3) = false := beq_eq_false_iff_ne.2 k3
    have s3' : (kd = 3) = False := eq_false k3
    have HV : Hid (entOk e = false) := Lib.hid (by rw [HN.out]; unfold entK; rw [HKE.out, if_neg (fun h => by simp [h] at s1'), if_neg (fun h => by simp [h] at s2'), if_neg (fun h => by simp [h] at s3')])
    clear Q0 Q1 Q2 Q3 Q4 Q5 Q6 Q7 Q8 Q9 Q10 Q11 Q12 Q13
    go_wp2
    go_ret
    rw [HV.out]
    exact ⟨rfl, HW.out.trans (HBC.out.mono HW.out.size)⟩
end Go.Proofs.YtnmmhcchpcbeeaaGreat.GeW
