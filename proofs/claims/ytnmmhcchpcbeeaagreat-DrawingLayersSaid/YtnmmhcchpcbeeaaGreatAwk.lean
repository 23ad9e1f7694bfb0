/- Plain: entities of other layers do not matter for the rings of a layer. No function is in sight. Conditions: the drawing is valid. -/
import Derived.Test.YtnmmhcchpcbeeaaGreatGeA
import Derived.Test.YtnmmhcchpcbeeaaGreatEqV
import Derived.Deep.CutRange
import Derived.Test.YtnmmhcchpcbeeaaGreatRgW
import Derived.Test.YtnmmhcchpcbeeaaGreatRgK
import Derived.Test.YtnmmhcchpcbeeaaGreatDwV
import Derived.Deep.Cut

namespace Go.Proofs.YtnmmhcchpcbeeaaGreat.GeW
open Go Go.RowKit Go.Proofs.YtnmmhcchpcbeeaaGreat.Mem Go.Proofs.YtnmmhcchpcbeeaaGreat.Ge
theorem take_more {l m : List V} {k : Nat} (h : l.take k = m.take k) (h1 : k < l.length) (h2 : k < m.length) (he : l[k] = m[k]) : l.take (k + 1) = m.take (k + 1) := by
  rw [List.take_succ_eq_append_getElem h1, List.take_succ_eq_append_getElem h2, h, he]
set_option maxRecDepth 100000 in
set_option maxHeartbeats 1000000 in
theorem same6_any (l m : List V) (A B : Option Addr) (c d : Nat) (w : World) (hr : Row w A (l.flatMap ptCells)) (hs : Row w B (m.flatMap ptCells)) (hl : l.length ≤ 17592186043904) (hm : m.length ≤ 17592186043904) :
    Calls Tryz.prog 31 #[.slice A l.length c, .slice B m.length d] w fun e w' => e = .returned (.bool (decide (l = m))) ∧ Below w.heap.size w w' := by
  have HR := Lib.hid hr
  have HS := Lib.hid hs
  clear hr hs
  by_cases hlen : l.length = m.length
  · have HT0 := Lib.hid (show l.take 0 = m.take 0 by simp)
    have HLM := Lib.hid hlen
    go_enter Tryz.func31, Tryz.ntmps31
    rw [← hlen]
    clear hlen
    go_wp2
    go_loopw [5] (fun i wr => ∃ k : Nat, k ≤ l.length ∧ i = .int .i64 k ∧ Hid (l.take k = m.take k) ∧ Hid (Below w.heap.size w wr)) (fun i _ => l.length - (intOf i).toNat)
    case atStart => exact ⟨0, Nat.zero_le _, rfl, HT0, Lib.hid (Below.refl _ _)⟩
    case round =>
      obtain ⟨k, hk, rfl, HT, HB⟩ := hrel
      by_cases hlt : k < l.length
      · have hlt2 : k < m.length := by have := HLM.out; omega
        obtain ⟨g, off, rfl, hg, ca⟩ := row_get pt_len (by decide) HR.out (by omega)
        obtain ⟨g2, off2, rfl, hg2, cb⟩ := row_get pt_len (by decide) HS.out (by omega)
        have a0 := (HB.out.cell (p := ⟨g, off + k * 2, none⟩) hg).trans (ca k hlt 0 (by decide))
        have a1 := (HB.out.cell (p := ⟨g, off + k * 2 + 1, none⟩) hg).trans (ca k hlt 1 (by decide))
        have b0 := (HB.out.cell (p := ⟨g2, off2 + k * 2, none⟩) hg2).trans (cb k hlt2 0 (by decide))
        have b1 := (HB.out.cell (p := ⟨g2, off2 + k * 2 + 1, none⟩) hg2).trans (cb k hlt2 1 (by decide))
        have hk1 : (0 : Int) ≤ (k : Int) := by omega
        have HMO := Lib.hid (fun h => take_more HT.out hlt hlt2 h)
        have HNO : Hid (l[k] ≠ m[k] → l ≠ m) := Lib.hid (fun h e => h (by subst e; rfl))
        clear ca cb
        generalize l[k] = p at *
        generalize m[k] = q at *
        clear hlt2
        obtain ⟨px, py⟩ := p
        obtain ⟨qx, qy⟩ := q
        simp only [ptCells, List.getElem?_cons_zero, List.getElem?_cons_succ] at a0 a1 b0 b1
        by_cases he : (px, py) = (qx, qy)
        · have HE1 : ∀ W, (binOp .neq 53 (.agg #[.int .i64 px, .int .i64 py]) (.agg #[.int .i64 qx, .int .i64 qy])).run Tryz.prog W = .ok (.bool false) W := fun W => by rw [neq_vec, decide_eq_true he]; rfl
          have HT2 := Lib.hid (HMO.out he)
          clear he HMO HNO
          go_wp2
          go_region
          go_wp2
          go_roundw
          case rel => exact ⟨k + 1, hlt, by go_num, HT2, Lib.hid (below_drew HB.out)⟩
          case measure => simp [intOf]; omega
        · have HE1 : ∀ W, (binOp .neq 53 (.agg #[.int .i64 px, .int .i64 py]) (.agg #[.int .i64 qx, .int .i64 qy])).run Tryz.prog W = .ok (.bool true) W := fun W => by rw [neq_vec, decide_eq_false he]; rfl
          have HF : Hid (decide (l = m) = false) := Lib.hid (decide_eq_false (HNO.out he))
          clear he HMO HNO
          go_wp2
          go_region
          go_wp2
          go_ret
          rw [HF.out]
          exact ⟨rfl, below_drew HB.out⟩
      · obtain rfl : k = l.length := by omega
        have HF : Hid (decide (l = m) = true) := Lib.hid (decide_eq_true (by
          have h := HT.out
          rw [List.take_length, HLM.out, List.take_length] at h
          exact h))
        go_wp2
        go_ret
        rw [HF.out]
        exact ⟨rfl, HB.out⟩
  · have d1 : ((l.length : Int) != (m.length : Int)) = true := bne_iff_ne.2 (by omega)
    have HF : Hid (decide (l = m) = false) := Lib.hid (decide_eq_false (fun h => hlen (by rw [h])))
    clear hlen
    go_enter Tryz.func31, Tryz.ntmps31
    go_wp2
    go_ret
    rw [HF.out]
    exact ⟨rfl, Below.refl _ _⟩
end Go.Proofs.YtnmmhcchpcbeeaaGreat.GeW

namespace Go.Proofs.YtnmmhcchpcbeeaaGreat.GeW
open Go Go.RowKit Go.Proofs.YtnmmhcchpcbeeaaGreat.Mem Go.Proofs.YtnmmhcchpcbeeaaGreat.Ge
def exV : List EntV := exD.map fun e => ⟨e, none, 0⟩
def exCells : Array Value := (exV.flatMap entVals).toArray
theorem ex_cells : exCells = #[.int .i64 1, .string ⟨#[99, 117, 116]⟩, .int .i64 0, .int .i64 0, .int .i64 4, .int .i64 0, .int .i64 0, .int .i64 0, .int .i64 0, .int .i64 0, .int .i64 0, .int .i64 0, .bool false, .slice none 0 0,
  .int .i64 1, .string ⟨#[99, 117, 116]⟩, .int .i64 4, .int .i64 4, .int .i64 4, .int .i64 0, .int .i64 0, .int .i64 0, .int .i64 0, .int .i64 0, .int .i64 0, .int .i64 0, .bool false, .slice none 0 0,
  .int .i64 1, .string ⟨#[99, 117, 116]⟩, .int .i64 4, .int .i64 4, .int .i64 0, .int .i64 0, .int .i64 0, .int .i64 0, .int .i64 0, .int .i64 0, .int .i64 0, .int .i64 0, .bool false, .slice none 0 0] := by rfl
theorem row_block {w : World} {g : Nat} {cs : Array Value} {T : TypeId} (h : w.heap[g]? = some (.cells cs T (0, 0))) : Row w (some ⟨g, 0, none⟩) cs.toList := fun _ =>
  ⟨g, 0, rfl, (Array.getElem?_eq_some_iff.1 h).1, fun j _ => by simp [World.cell?, h]⟩
theorem ex_ents (w : World) (T : TypeId) : Ents (w.alloc (.cells exCells T)) (some ⟨w.heap.size, 0, none⟩) exV := by
  refine ⟨?_, ?_, by decide⟩
  · have := row_block (one_vec w (.cells exCells T)).2
    simpa [exCells] using this
  · intro x hx
    unfold exV at hx
    obtain ⟨e, he, rfl⟩ := List.mem_map.1 hx
    have : e.pts = [] ∧ e.layer.length = 3 := by
      simp only [exD, List.mem_cons, List.not_mem_nil, or_false] at he
      rcases he with rfl | rfl | rfl <;> exact ⟨rfl, rfl⟩
    refine ⟨by rw [this.1]; exact Row.nil _ _, by rw [this.1]; simp, by rw [this.1]; simp, by rw [this.2]; decide⟩
theorem ex_rings_any (w : World) (A : Option Addr) (h : Ents w A exV) (c : Nat) : Calls Tryz.prog 15 #[.slice A 3 c, .string ⟨#[99, 117, 116]⟩, .int .i64 1] w fun e w' => (∃ (g c : Nat) (v : Option Addr × Nat), e = .returned (.tuple #[.slice (some ⟨g, 0, none⟩) 1 c, .int .i64 0]) ∧ w'.cell? ⟨g, 0, none⟩ = some (.slice v.1 3 v.2) ∧ Row w' v.1 ([(0, 0), (4, 0), (4, 4)].flatMap ptCells)) ∧ Below w.heap.size w w' := by
  have h1 := rings_any exV A c w [99, 117, 116] 1 (fun _ => []) h (fun x hx h2 => by
    unfold exV at hx
    obtain ⟨e, he, rfl⟩ := List.mem_map.1 hx
    simp only [exD, List.mem_cons, List.not_mem_nil, or_false] at he
    rcases he with rfl | rfl | rfl <;> cases h2)
  have he : ents exV = exD := rfl
  rw [he, ex_rings] at h1
  refine h1.mono ?_
  rintro e w' ⟨⟨v, rfl, rs, hrs, how, hpts⟩, hb⟩
  refine ⟨?_, hb⟩
  have hl : rs.length = 1 := by
    have := congrArg List.length hrs
    simpa using this
  obtain ⟨r, rfl⟩ := List.length_eq_one_iff.1 hl
  obtain ⟨g, c', rfl, _⟩ := own_some how (by simp)
  have hr : r.l = [(0, 0), (4, 0), (4, 4)] := by simpa using hrs
  refine ⟨g, c', (r.A, r.k), rfl, ?_, ?_⟩
  · rw [(own_cells how 0 (by simp)).1]
    show some (rowVal r) = _
    unfold rowVal
    rw [hr]
    rfl
  · rw [← hr]
    exact (hpts r (by simp)).1.1
theorem tri_row (w : World) (T : TypeId) : Row (w.alloc (.cells #[.int .i64 0, .int .i64 0, .int .i64 4, .int .i64 0, .int .i64 4, .int .i64 4] T)) (some ⟨w.heap.size, 0, none⟩) (([(0, 0), (4, 0), (4, 4)] : List V).flatMap ptCells) :=
  row_block (one_vec w (.cells #[.int .i64 0, .int .i64 0, .int .i64 4, .int .i64 0, .int .i64 4, .int .i64 4] T)).2
set_option maxRecDepth 100000 in
set_option maxHeartbeats 1000000 in
theorem awake_any (w : World) : Calls Tryz.prog 8 #[] w fun e w' => e = .returned (.bool true) ∧ Below w.heap.size w w' := by
  have hE := ex_ents w 66
  have HB1 := Lib.hid (one_vec w (.cells exCells 66)).1
  rw [ex_cells] at hE HB1
  have HE := Lib.hid hE
  have HRA := Lib.hid (ex_rings_any _ _ hE 3)
  clear hE
  go_enter Tryz.func8, Tryz.ntmps8
  go_wp2_with fail
  refine HRA.out.mono ?_
  rintro e w2 ⟨⟨g, c, v, rfl, hc, hrow⟩, hb2⟩
  have HB2 := Lib.hid (HB1.out.trans (hb2.mono HB1.out.size))
  have HE2 := Lib.hid (HE.out.below hb2)
  have HRow := Lib.hid hrow
  have HT := Lib.hid (one_vec w2 (.cells #[.int .i64 0, .int .i64 0, .int .i64 4, .int .i64 0, .int .i64 4, .int .i64 4] 53)).1
  have HS := Lib.hid (same6_any [(0, 0), (4, 0), (4, 4)] [(0, 0), (4, 0), (4, 4)] v.1 (some ⟨w2.heap.size, 0, none⟩) v.2 3 (w2.alloc (.cells #[.int .i64 0, .int .i64 0, .int .i64 4, .int .i64 0, .int .i64 4, .int .i64 4] 53)) (HRow.out.below HT.out) (tri_row w2 _) (by decide) (by decide))
  clear hrow hb2 HE HB1 HRA
  obtain ⟨vA, vk⟩ := v
  simp only at hc
  go_wp2_with fail
  refine HS.out.mono ?_
  rintro e w4 ⟨rfl, hb4⟩
  have HB4 := Lib.hid ((HB2.out.trans (HT.out.mono HB2.out.size)).trans (hb4.mono (HB2.out.trans (HT.out.mono HB2.out.size)).size))
  have HV := Lib.hid (drawOk_any exV _ 3 w4 ((HE2.out.below HT.out).below hb4))
  clear hb4 HS HE2 HB2 HT hc
  go_wp2_with fail
  refine HV.out.mono ?_
  rintro e w5 ⟨rfl, hb5⟩
  go_wp2
  go_ret
  rw [show drawOk (ents exV) = true from ex_ok]
  exact ⟨rfl, HB4.out.trans (hb5.mono HB4.out.size)⟩
end Go.Proofs.YtnmmhcchpcbeeaaGreat.GeW

namespace Go.Proofs.YtnmmhcchpcbeeaaGreat.GtW
open Go Go.RowKit Go.Proofs.YtnmmhcchpcbeeaaGreat.Mem Go.Proofs.YtnmmhcchpcbeeaaGreat.Ge
open Go.Proofs.YtnmmhcchpcbeeaaGreat.GeW (EntV entVals PtsIn PtAt Tagged RowT RowW Ents own_keep own_tag ptCells one_vec pair_at cell6 rwithin_any rsub_any eql_vec neq_vec eql_arc cellAt14 entK pt_len mul8)
open Go.Proofs.YtnmmhcchpcbeeaaGreat.LexW (risName_any)
attribute [local go_sem ↓] Go.wp_at_zero Go.wp_at_succ
set_option maxRecDepth 100000 in
theorem rdot_any (x y u v : Int) (w : World) (hx : -8000 ≤ x ∧ x ≤ 8000) (hy : -8000 ≤ y ∧ y ≤ 8000) (hu : -8000 ≤ u ∧ u ≤ 8000) (hv : -8000 ≤ v ∧ v ≤ 8000) :
    Calls Tryz.prog 191 #[.agg #[.int .i64 x, .int .i64 y], .agg #[.int .i64 u, .int .i64 v]] w fun e w' => e = .returned (.int .i64 (dot (x, y) (u, v))) ∧ Below w.heap.size w w' := by
  have h1 := mul8 hx hu
  have h2 := mul8 hy hv
  have WW1 : IntKind.i64.wrap (x * u) = x * u := by rw [IntKind.wrap_i64]; omega
  have WW2 : IntKind.i64.wrap (y * v) = y * v := by rw [IntKind.wrap_i64]; omega
  have WW3 : IntKind.i64.wrap (x * u + y * v) = x * u + y * v := by rw [IntKind.wrap_i64]; omega
  have HB := Lib.hid (((Below.refl w.heap.size w).alloc (Nat.le_refl _) (.cells #[.int .i64 x, .int .i64 y] 53)).alloc (by simp) (.cells #[.int .i64 u, .int .i64 v] 53))
  clear h1 h2 hx hy hu hv
  go_enter Tryz.func191, Tryz.ntmps191
  go_wp2
  go_ret
  exact ⟨rfl, HB.out⟩
set_option maxRecDepth 100000 in
theorem rsquare_any (x y : Int) (w : World) (hx : -8000 ≤ x ∧ x ≤ 8000) (hy : -8000 ≤ y ∧ y ≤ 8000) :
    Calls Tryz.prog 172 #[.agg #[.int .i64 x, .int .i64 y]] w fun e w' => e = .returned (.int .i64 (dot (x, y) (x, y))) ∧ Below w.heap.size w w' := by
  have HD := Lib.hid (fun W => rdot_any x y x y W hx hy hx hy)
  go_enter Tryz.func172, Tryz.ntmps172
  go_wp2_with fail
  refine (HD.out _).mono ?_
  rintro e w2 ⟨rfl, hb2⟩
  have hb3 := ((Below.refl w.heap.size w).alloc (Nat.le_refl _) (.cells #[.int .i64 x, .int .i64 y] 53)).trans (hb2.mono (by simp))
  go_wp2
  go_ret
  exact ⟨rfl, hb3⟩
theorem within_bd {x y : Int} (h : within (x, y) 2000 = true) : -2000 ≤ x ∧ x ≤ 2000 ∧ -2000 ≤ y ∧ y ≤ 2000 := by
  unfold within at h
  simp only [Bool.and_eq_true, decide_eq_true_eq] at h
  omega
theorem sq_bd {x y : Int} (hx : -4000 ≤ x ∧ x ≤ 4000) (hy : -4000 ≤ y ∧ y ≤ 4000) : 0 ≤ dot (x, y) (x, y) ∧ dot (x, y) (x, y) ≤ 32000000 := by
  have h1 := mul4 hx
  have h2 := mul4 hy
  unfold dot
  simp only
  omega
where
  mul4 {x : Int} (h : -4000 ≤ x ∧ x ≤ 4000) : 0 ≤ x * x ∧ x * x ≤ 16000000 := by
    constructor
    · rcases Int.le_total 0 x with h1 | h1
      · exact Int.mul_nonneg h1 h1
      · exact Int.mul_nonneg_of_nonpos_of_nonpos h1 h1
    · have h1 : 0 ≤ (4000 - x) * (4000 + x) := Int.mul_nonneg (by omega) (by omega)
      have h2 : (4000 - x) * (4000 + x) = 16000000 - x * x := by rw [Int.sub_mul, Int.mul_add, Int.mul_add, Int.mul_comm x 4000]; omega
      omega

set_option maxRecDepth 100000 in
set_option maxHeartbeats 4000000 in
theorem rarcOk_any (fx fy tx ty cx cy : Int) (cw : Bool) (w : World) :
    Calls Tryz.prog 121 #[.agg #[.int .i64 fx, .int .i64 fy, .int .i64 tx, .int .i64 ty, .int .i64 cx, .int .i64 cy, .bool cw]] w fun e w' => e = .returned (.bool (arcOk (fx, fy) (tx, ty) (cx, cy))) ∧ Below w.heap.size w w' := by
  have HX0 := Lib.hid (one_vec w (.cells #[.int .i64 fx, .int .i64 fy, .int .i64 tx, .int .i64 ty, .int .i64 cx, .int .i64 cy, .bool cw] 55)).2
  have HB0 := Lib.hid (one_vec w (.cells #[.int .i64 fx, .int .i64 fy, .int .i64 tx, .int .i64 ty, .int .i64 cx, .int .i64 cy, .bool cw] 55)).1
  have HWF := Lib.hid (fun W => rwithin_any fx fy 2000 W (by omega))
  have HWT := Lib.hid (fun W => rwithin_any tx ty 2000 W (by omega))
  have HWC := Lib.hid (fun W => rwithin_any cx cy 2000 W (by omega))
  cases h1 : within (fx, fy) 2000
  · rw [h1] at HWF
    have HF : Hid (arcOk (fx, fy) (tx, ty) (cx, cy) = false) := Lib.hid (by unfold arcOk; rw [h1]; rfl)
    go_enter Tryz.func121, Tryz.ntmps121
    go_upto_region 1 with fail
    generalize w.alloc (.cells #[.int .i64 fx, .int .i64 fy, .int .i64 tx, .int .i64 ty, .int .i64 cx, .int .i64 cy, .bool cw] 55) = W at *
    obtain ⟨q0, q1, q2, q3, q4, q5⟩ := cell6 HX0.out
    go_wp2_with fail
    refine (HWF.out _).mono ?_
    rintro e w1 ⟨rfl, hb⟩
    have HX1 := Lib.hid ((hb.block _ (GeW.lt_of_block HX0.out)).trans HX0.out)
    have HB1 := Lib.hid (HB0.out.trans (hb.mono HB0.out.size))
    clear hb q0 q1 q2 q3 q4 q5
    obtain ⟨q0, q1, q2, q3, q4, q5⟩ := cell6 HX1.out
    go_wp2
    go_ret
    rw [HF.out]
    exact ⟨rfl, HB1.out⟩
  cases h2 : within (tx, ty) 2000
  · rw [h1] at HWF
    rw [h2] at HWT
    have HF : Hid (arcOk (fx, fy) (tx, ty) (cx, cy) = false) := Lib.hid (by unfold arcOk; rw [h1, h2]; rfl)
    go_enter Tryz.func121, Tryz.ntmps121
    go_upto_region 1 with fail
    generalize w.alloc (.cells #[.int .i64 fx, .int .i64 fy, .int .i64 tx, .int .i64 ty, .int .i64 cx, .int .i64 cy, .bool cw] 55) = W at *
    obtain ⟨q0, q1, q2, q3, q4, q5⟩ := cell6 HX0.out
    go_wp2_with fail
    refine (HWF.out _).mono ?_
    rintro e w1 ⟨rfl, hb⟩
    have HX1 := Lib.hid ((hb.block _ (GeW.lt_of_block HX0.out)).trans HX0.out)
    have HB1 := Lib.hid (HB0.out.trans (hb.mono HB0.out.size))
    clear hb q0 q1 q2 q3 q4 q5
    obtain ⟨q0, q1, q2, q3, q4, q5⟩ := cell6 HX1.out
    go_wp2_with fail
    refine (HWT.out _).mono ?_
    rintro e w2 ⟨rfl, hb⟩
    have HX2 := Lib.hid ((hb.block _ (GeW.lt_of_block HX1.out)).trans HX1.out)
    have HB2 := Lib.hid (HB1.out.trans (hb.mono HB1.out.size))
    clear hb q0 q1 q2 q3 q4 q5
    obtain ⟨q0, q1, q2, q3, q4, q5⟩ := cell6 HX2.out
    go_wp2
    go_ret
    rw [HF.out]
    exact ⟨rfl, HB2.out⟩
  cases h3 : within (cx, cy) 2000
  · rw [h1] at HWF
    rw [h2] at HWT
    rw [h3] at HWC
    have HF : Hid (arcOk (fx, fy) (tx, ty) (cx, cy) = false) := Lib.hid (by unfold arcOk; rw [h1, h2, h3]; rfl)
    go_enter Tryz.func121, Tryz.ntmps121
    go_upto_region 1 with fail
    generalize w.alloc (.cells #[.int .i64 fx, .int .i64 fy, .int .i64 tx, .int .i64 ty, .int .i64 cx, .int .i64 cy, .bool cw] 55) = W at *
    obtain ⟨q0, q1, q2, q3, q4, q5⟩ := cell6 HX0.out
    go_wp2_with fail
    refine (HWF.out _).mono ?_
    rintro e w1 ⟨rfl, hb⟩
    have HX1 := Lib.hid ((hb.block _ (GeW.lt_of_block HX0.out)).trans HX0.out)
    have HB1 := Lib.hid (HB0.out.trans (hb.mono HB0.out.size))
    clear hb q0 q1 q2 q3 q4 q5
    obtain ⟨q0, q1, q2, q3, q4, q5⟩ := cell6 HX1.out
    go_wp2_with fail
    refine (HWT.out _).mono ?_
    rintro e w2 ⟨rfl, hb⟩
    have HX2 := Lib.hid ((hb.block _ (GeW.lt_of_block HX1.out)).trans HX1.out)
    have HB2 := Lib.hid (HB1.out.trans (hb.mono HB1.out.size))
    clear hb q0 q1 q2 q3 q4 q5
    obtain ⟨q0, q1, q2, q3, q4, q5⟩ := cell6 HX2.out
    go_wp2_with fail
    refine (HWC.out _).mono ?_
    rintro e w3 ⟨rfl, hb⟩
    have HX3 := Lib.hid ((hb.block _ (GeW.lt_of_block HX2.out)).trans HX2.out)
    have HB3 := Lib.hid (HB2.out.trans (hb.mono HB2.out.size))
    clear hb q0 q1 q2 q3 q4 q5
    obtain ⟨q0, q1, q2, q3, q4, q5⟩ := cell6 HX3.out
    go_wp2
    go_ret
    rw [HF.out]
    exact ⟨rfl, HB3.out⟩
  have hf := within_bd h1
  have ht := within_bd h2
  have hc := within_bd h3
  have HS1 := Lib.hid (fun W => rsub_any fx fy cx cy W (by omega) (by omega) (by omega) (by omega))
  have HS2 := Lib.hid (fun W => rsub_any tx ty cx cy W (by omega) (by omega) (by omega) (by omega))
  have HQ1 := Lib.hid (fun W => rsquare_any (fx - cx) (fy - cy) W (by omega) (by omega))
  have HQ2 := Lib.hid (fun W => rsquare_any (tx - cx) (ty - cy) W (by omega) (by omega))
  have HK : Hid (arcOk (fx, fy) (tx, ty) (cx, cy) = (decide (0 < dot (fx - cx, fy - cy) (fx - cx, fy - cy)) && (decide (dot (fx - cx, fy - cy) (fx - cx, fy - cy) = dot (tx - cx, ty - cy) (tx - cx, ty - cy)) && decide (dot (fx - cx, fy - cy) (fx - cx, fy - cy) ≤ 4000000)))) := Lib.hid (by unfold arcOk; rw [h1, h2, h3]; rfl)
  rw [h1] at HWF
  rw [h2] at HWT
  rw [h3] at HWC
  clear h1 h2 h3 hf ht hc
  generalize dot (fx - cx, fy - cy) (fx - cx, fy - cy) = d1 at *
  generalize dot (tx - cx, ty - cy) (tx - cx, ty - cy) = d2 at *
  by_cases g1 : 0 < d1
  · have e1 : decide (0 < d1) = true := decide_eq_true g1
    by_cases g2 : d1 ≤ 4000000
    · have e2 : decide (d1 ≤ 4000000) = true := decide_eq_true g2
      have e3 : (d2 == d1) = decide (d1 = d2) := by rw [Bool.eq_iff_iff]; simp; exact eq_comm
      have HF : Hid (arcOk (fx, fy) (tx, ty) (cx, cy) = decide (d1 = d2)) := Lib.hid (by rw [HK.out, e1, e2]; simp)
      generalize decide (d1 = d2) = r at *
      go_enter Tryz.func121, Tryz.ntmps121
      go_upto_region 1 with fail
      generalize w.alloc (.cells #[.int .i64 fx, .int .i64 fy, .int .i64 tx, .int .i64 ty, .int .i64 cx, .int .i64 cy, .bool cw] 55) = W at *
      obtain ⟨q0, q1, q2, q3, q4, q5⟩ := cell6 HX0.out
      go_wp2_with fail
      refine (HWF.out _).mono ?_
      rintro e w1 ⟨rfl, hb⟩
      have HX1 := Lib.hid ((hb.block _ (GeW.lt_of_block HX0.out)).trans HX0.out)
      have HB1 := Lib.hid (HB0.out.trans (hb.mono HB0.out.size))
      clear hb q0 q1 q2 q3 q4 q5
      obtain ⟨q0, q1, q2, q3, q4, q5⟩ := cell6 HX1.out
      go_wp2_with fail
      refine (HWT.out _).mono ?_
      rintro e w2 ⟨rfl, hb⟩
      have HX2 := Lib.hid ((hb.block _ (GeW.lt_of_block HX1.out)).trans HX1.out)
      have HB2 := Lib.hid (HB1.out.trans (hb.mono HB1.out.size))
      clear hb q0 q1 q2 q3 q4 q5
      obtain ⟨q0, q1, q2, q3, q4, q5⟩ := cell6 HX2.out
      go_wp2_with fail
      refine (HWC.out _).mono ?_
      rintro e w3 ⟨rfl, hb⟩
      have HX3 := Lib.hid ((hb.block _ (GeW.lt_of_block HX2.out)).trans HX2.out)
      have HB3 := Lib.hid (HB2.out.trans (hb.mono HB2.out.size))
      clear hb q0 q1 q2 q3 q4 q5
      obtain ⟨q0, q1, q2, q3, q4, q5⟩ := cell6 HX3.out
      go_wp2_with fail
      refine (HS1.out _).mono ?_
      rintro e w4 ⟨rfl, hb⟩
      have HX4 := Lib.hid ((hb.block _ (GeW.lt_of_block HX3.out)).trans HX3.out)
      have HB4 := Lib.hid (HB3.out.trans (hb.mono HB3.out.size))
      clear hb q0 q1 q2 q3 q4 q5
      obtain ⟨q0, q1, q2, q3, q4, q5⟩ := cell6 HX4.out
      go_wp2_with fail
      refine (HQ1.out _).mono ?_
      rintro e w5 ⟨rfl, hb⟩
      have HX5 := Lib.hid ((hb.block _ (GeW.lt_of_block HX4.out)).trans HX4.out)
      have HB5 := Lib.hid (HB4.out.trans (hb.mono HB4.out.size))
      clear hb q0 q1 q2 q3 q4 q5
      obtain ⟨q0, q1, q2, q3, q4, q5⟩ := cell6 HX5.out
      go_wp2_with fail
      refine (HS2.out _).mono ?_
      rintro e w6 ⟨rfl, hb⟩
      have HX6 := Lib.hid ((hb.block _ (GeW.lt_of_block HX5.out)).trans HX5.out)
      have HB6 := Lib.hid (HB5.out.trans (hb.mono HB5.out.size))
      clear hb q0 q1 q2 q3 q4 q5
      obtain ⟨q0, q1, q2, q3, q4, q5⟩ := cell6 HX6.out
      go_wp2_with fail
      refine (HQ2.out _).mono ?_
      rintro e w7 ⟨rfl, hb⟩
      have HX7 := Lib.hid ((hb.block _ (GeW.lt_of_block HX6.out)).trans HX6.out)
      have HB7 := Lib.hid (HB6.out.trans (hb.mono HB6.out.size))
      clear hb q0 q1 q2 q3 q4 q5
      obtain ⟨q0, q1, q2, q3, q4, q5⟩ := cell6 HX7.out
      go_wp2
      go_ret
      rw [HF.out]
      exact ⟨rfl, HB7.out⟩
    · have e2 : decide (d1 ≤ 4000000) = false := decide_eq_false g2
      have HF : Hid (arcOk (fx, fy) (tx, ty) (cx, cy) = false) := Lib.hid (by rw [HK.out, e2]; simp)
      go_enter Tryz.func121, Tryz.ntmps121
      go_upto_region 1 with fail
      generalize w.alloc (.cells #[.int .i64 fx, .int .i64 fy, .int .i64 tx, .int .i64 ty, .int .i64 cx, .int .i64 cy, .bool cw] 55) = W at *
      obtain ⟨q0, q1, q2, q3, q4, q5⟩ := cell6 HX0.out
      go_wp2_with fail
      refine (HWF.out _).mono ?_
      rintro e w1 ⟨rfl, hb⟩
      have HX1 := Lib.hid ((hb.block _ (GeW.lt_of_block HX0.out)).trans HX0.out)
      have HB1 := Lib.hid (HB0.out.trans (hb.mono HB0.out.size))
      clear hb q0 q1 q2 q3 q4 q5
      obtain ⟨q0, q1, q2, q3, q4, q5⟩ := cell6 HX1.out
      go_wp2_with fail
      refine (HWT.out _).mono ?_
      rintro e w2 ⟨rfl, hb⟩
      have HX2 := Lib.hid ((hb.block _ (GeW.lt_of_block HX1.out)).trans HX1.out)
      have HB2 := Lib.hid (HB1.out.trans (hb.mono HB1.out.size))
      clear hb q0 q1 q2 q3 q4 q5
      obtain ⟨q0, q1, q2, q3, q4, q5⟩ := cell6 HX2.out
      go_wp2_with fail
      refine (HWC.out _).mono ?_
      rintro e w3 ⟨rfl, hb⟩
      have HX3 := Lib.hid ((hb.block _ (GeW.lt_of_block HX2.out)).trans HX2.out)
      have HB3 := Lib.hid (HB2.out.trans (hb.mono HB2.out.size))
      clear hb q0 q1 q2 q3 q4 q5
      obtain ⟨q0, q1, q2, q3, q4, q5⟩ := cell6 HX3.out
      go_wp2_with fail
      refine (HS1.out _).mono ?_
      rintro e w4 ⟨rfl, hb⟩
      have HX4 := Lib.hid ((hb.block _ (GeW.lt_of_block HX3.out)).trans HX3.out)
      have HB4 := Lib.hid (HB3.out.trans (hb.mono HB3.out.size))
      clear hb q0 q1 q2 q3 q4 q5
      obtain ⟨q0, q1, q2, q3, q4, q5⟩ := cell6 HX4.out
      go_wp2_with fail
      refine (HQ1.out _).mono ?_
      rintro e w5 ⟨rfl, hb⟩
      have HX5 := Lib.hid ((hb.block _ (GeW.lt_of_block HX4.out)).trans HX4.out)
      have HB5 := Lib.hid (HB4.out.trans (hb.mono HB4.out.size))
      clear hb q0 q1 q2 q3 q4 q5
      obtain ⟨q0, q1, q2, q3, q4, q5⟩ := cell6 HX5.out
      go_wp2
      go_ret
      rw [HF.out]
      exact ⟨rfl, HB5.out⟩
  · have e1 : decide (0 < d1) = false := decide_eq_false g1
    have HF : Hid (arcOk (fx, fy) (tx, ty) (cx, cy) = false) := Lib.hid (by rw [HK.out, e1]; rfl)
    go_enter Tryz.func121, Tryz.ntmps121
    go_upto_region 1 with fail
    generalize w.alloc (.cells #[.int .i64 fx, .int .i64 fy, .int .i64 tx, .int .i64 ty, .int .i64 cx, .int .i64 cy, .bool cw] 55) = W at *
    obtain ⟨q0, q1, q2, q3, q4, q5⟩ := cell6 HX0.out
    go_wp2_with fail
    refine (HWF.out _).mono ?_
    rintro e w1 ⟨rfl, hb⟩
    have HX1 := Lib.hid ((hb.block _ (GeW.lt_of_block HX0.out)).trans HX0.out)
    have HB1 := Lib.hid (HB0.out.trans (hb.mono HB0.out.size))
    clear hb q0 q1 q2 q3 q4 q5
    obtain ⟨q0, q1, q2, q3, q4, q5⟩ := cell6 HX1.out
    go_wp2_with fail
    refine (HWT.out _).mono ?_
    rintro e w2 ⟨rfl, hb⟩
    have HX2 := Lib.hid ((hb.block _ (GeW.lt_of_block HX1.out)).trans HX1.out)
    have HB2 := Lib.hid (HB1.out.trans (hb.mono HB1.out.size))
    clear hb q0 q1 q2 q3 q4 q5
    obtain ⟨q0, q1, q2, q3, q4, q5⟩ := cell6 HX2.out
    go_wp2_with fail
    refine (HWC.out _).mono ?_
    rintro e w3 ⟨rfl, hb⟩
    have HX3 := Lib.hid ((hb.block _ (GeW.lt_of_block HX2.out)).trans HX2.out)
    have HB3 := Lib.hid (HB2.out.trans (hb.mono HB2.out.size))
    clear hb q0 q1 q2 q3 q4 q5
    obtain ⟨q0, q1, q2, q3, q4, q5⟩ := cell6 HX3.out
    go_wp2_with fail
    refine (HS1.out _).mono ?_
    rintro e w4 ⟨rfl, hb⟩
    have HX4 := Lib.hid ((hb.block _ (GeW.lt_of_block HX3.out)).trans HX3.out)
    have HB4 := Lib.hid (HB3.out.trans (hb.mono HB3.out.size))
    clear hb q0 q1 q2 q3 q4 q5
    obtain ⟨q0, q1, q2, q3, q4, q5⟩ := cell6 HX4.out
    go_wp2_with fail
    refine (HQ1.out _).mono ?_
    rintro e w5 ⟨rfl, hb⟩
    have HX5 := Lib.hid ((hb.block _ (GeW.lt_of_block HX4.out)).trans HX4.out)
    have HB5 := Lib.hid (HB4.out.trans (hb.mono HB4.out.size))
    clear hb q0 q1 q2 q3 q4 q5
    obtain ⟨q0, q1, q2, q3, q4, q5⟩ := cell6 HX5.out
    go_wp2
    go_ret
    rw [HF.out]
    exact ⟨rfl, HB5.out⟩

theorem near_drop (l : List V) (k : Nat) (h : k < l.length) : near (l.drop k) = (within l[k] 2000 && near (l.drop (k + 1))) := by
  rw [List.drop_eq_getElem_cons h]
  rfl
set_option maxRecDepth 100000 in
set_option maxHeartbeats 1000000 in
theorem rwithins_any (l : List V) (A : Option Addr) (c : Nat) (w : World) (hr : Row w A (l.flatMap ptCells)) (hl : l.length ≤ 17592186043904) :
    Calls Tryz.prog 120 #[.slice A l.length c] w fun e w' => e = .returned (.bool (near l)) ∧ Below w.heap.size w w' := by
  have HR := Lib.hid hr
  clear hr
  have hst := Lib.hid (show near l = near (l.drop 0) by simp)
  obtain ⟨NR, HNR⟩ : ∃ NR, Hid (near l = NR) := ⟨_, Lib.hid rfl⟩
  rw [HNR.out] at hst ⊢
  go_enter Tryz.func120, Tryz.ntmps120
  go_wp2
  go_loopw [3] (fun t wr => ∃ k : Nat, k ≤ l.length ∧ t = .int .i64 k ∧ Hid (NR = near (l.drop k)) ∧ Below w.heap.size w wr) (fun t _ => l.length - (intOf t).toNat)
  case atStart => exact ⟨0, Nat.zero_le _, rfl, hst, Below.refl _ _⟩
  case round =>
    obtain ⟨k, hk, rfl, hd, hbel⟩ := hrel
    by_cases hlt : k < l.length
    · obtain ⟨g, off, rfl, hg, ca⟩ := row_get pt_len (by decide) HR.out (by omega)
      have a0 := (hbel.cell (p := ⟨g, off + k * 2, none⟩) hg).trans (ca k hlt 0 (by decide))
      have a1 := (hbel.cell (p := ⟨g, off + k * 2 + 1, none⟩) hg).trans (ca k hlt 1 (by decide))
      have hnx := Lib.hid (near_drop l k hlt)
      have hk1 : (0 : Int) ≤ (k : Int) := by omega
      have hk2 : (k : Int) < (l.length : Int) := by omega
      clear ca
      generalize l[k] = m at *
      obtain ⟨mx, my⟩ := m
      have HM := Lib.hid (fun W => rwithin_any mx my 2000 W (by omega))
      simp only [ptCells, List.getElem?_cons_zero, List.getElem?_cons_succ] at a0 a1
      generalize within (mx, my) 2000 = b at *
      cases b
      · have HF : Hid (NR = false) := Lib.hid (by rw [hd.out, hnx.out]; rfl)
        go_wp2_with fail
        refine (HM.out _).mono ?_
        rintro e w2 ⟨rfl, hb2⟩
        have HB2 := Lib.hid (hbel.trans (hb2.mono hbel.size))
        clear hb2
        go_wp2
        go_ret
        rw [HF.out]
        exact ⟨rfl, HB2.out⟩
      · have HF : Hid (NR = near (l.drop (k + 1))) := Lib.hid (by rw [hd.out, hnx.out]; rfl)
        go_wp2_with fail
        refine (HM.out _).mono ?_
        rintro e w2 ⟨rfl, hb2⟩
        have HB2 := Lib.hid (hbel.trans (hb2.mono hbel.size))
        clear hb2
        go_wp2
        go_roundw
        case rel => exact ⟨k + 1, hlt, by go_num, HF, HB2.out⟩
        case measure => simp [intOf]; omega
    · have HF : Hid (NR = true) := Lib.hid (by rw [hd.out, List.drop_of_length_le (by omega)]; rfl)
      go_wp2
      go_ret
      rw [HF.out]
      exact ⟨rfl, hbel⟩

theorem two_row (W : World) (ax ay bx b_y : Int) : Row (W.alloc (.cells #[.int .i64 ax, .int .i64 ay, .int .i64 bx, .int .i64 b_y] 53)) (some ⟨W.heap.size, 0, none⟩) (([(ax, ay), (bx, b_y)] : List V).flatMap ptCells) := fun _ =>
  ⟨_, _, rfl, by simp, fun j hj => by
    have e : ([(ax, ay), (bx, b_y)] : List V).flatMap ptCells = [.int .i64 ax, .int .i64 ay, .int .i64 bx, .int .i64 b_y] := rfl
    rw [e]
    unfold World.cell?
    rw [GeW.heap_alloc_new]
    simp⟩
set_option maxRecDepth 100000 in
set_option maxHeartbeats 8000000 in
theorem rentOk_any (x : EntV) (w : World) (hp : PtsIn w x) :
    Calls Tryz.prog 63 #[.agg (entVals x).toArray] w fun e w' => e = .returned (.bool (entOk x.e)) ∧ Below w.heap.size w w' := by
  obtain ⟨e, A, k⟩ := x
  obtain ⟨hrow, hl6, hlk, hlay⟩ := hp
  simp only at hrow hl6 hlk hlay
  have HIN : Hid (∀ W, Calls Tryz.prog 38 #[.string ⟨e.layer.toArray⟩] W fun r w' => r = .returned (.bool (Lex.isName e.layer)) ∧ W = w') := Lib.hid (fun W => (risName_any ⟨e.layer.toArray⟩ W (by simpa [ByteArray.size] using hlay)).mono fun _ _ h => ⟨h.1, h.2⟩)
  have HCP := Lib.hid (fun W (hW : Below w.heap.size w W) => rwithins_any e.pts A k W (hrow.below hW) (by omega))
  clear hrow
  show Calls Tryz.prog 63 #[.agg #[.int .i64 e.kind, .string ⟨e.layer.toArray⟩, .int .i64 e.a.1, .int .i64 e.a.2, .int .i64 e.b.1, .int .i64 e.b.2, .int .i64 e.f.1, .int .i64 e.f.2, .int .i64 e.t.1, .int .i64 e.t.2, .int .i64 e.c.1, .int .i64 e.c.2, .bool e.cw, .slice A e.pts.length k]] w fun r w' => r = .returned (.bool (entOk e)) ∧ Below w.heap.size w w'
  obtain ⟨kd, HKE⟩ : ∃ kd, Hid (e.kind = kd) := ⟨_, Lib.hid rfl⟩
  obtain ⟨lay, HLY⟩ : ∃ lay, Hid (ByteArray.mk e.layer.toArray = lay) := ⟨_, Lib.hid rfl⟩
  obtain ⟨ax, HA1⟩ : ∃ v, Hid (e.a.1 = v) := ⟨_, Lib.hid rfl⟩
  obtain ⟨ay, HA2⟩ : ∃ v, Hid (e.a.2 = v) := ⟨_, Lib.hid rfl⟩
  obtain ⟨bx, HB1⟩ : ∃ v, Hid (e.b.1 = v) := ⟨_, Lib.hid rfl⟩
  obtain ⟨b_y, HB2⟩ : ∃ v, Hid (e.b.2 = v) := ⟨_, Lib.hid rfl⟩
  obtain ⟨fx, HF1⟩ : ∃ v, Hid (e.f.1 = v) := ⟨_, Lib.hid rfl⟩
  obtain ⟨fy, HF2⟩ : ∃ v, Hid (e.f.2 = v) := ⟨_, Lib.hid rfl⟩
  obtain ⟨tx, HT1⟩ : ∃ v, Hid (e.t.1 = v) := ⟨_, Lib.hid rfl⟩
  obtain ⟨ty, HT2⟩ : ∃ v, Hid (e.t.2 = v) := ⟨_, Lib.hid rfl⟩
  obtain ⟨cx, HC1⟩ : ∃ v, Hid (e.c.1 = v) := ⟨_, Lib.hid rfl⟩
  obtain ⟨cy, HC2⟩ : ∃ v, Hid (e.c.2 = v) := ⟨_, Lib.hid rfl⟩
  obtain ⟨cw, HCW⟩ : ∃ v, Hid (e.cw = v) := ⟨_, Lib.hid rfl⟩
  obtain ⟨n, HLE⟩ : ∃ v, Hid (e.pts.length = v) := ⟨_, Lib.hid rfl⟩
  have HEA : Hid (e.a = (ax, ay)) := Lib.hid (Prod.ext HA1.out HA2.out)
  have HEB : Hid (e.b = (bx, b_y)) := Lib.hid (Prod.ext HB1.out HB2.out)
  have HEF : Hid (e.f = (fx, fy)) := Lib.hid (Prod.ext HF1.out HF2.out)
  have HET : Hid (e.t = (tx, ty)) := Lib.hid (Prod.ext HT1.out HT2.out)
  have HEC : Hid (e.c = (cx, cy)) := Lib.hid (Prod.ext HC1.out HC2.out)
  rw [HKE.out, HLY.out, HA1.out, HA2.out, HB1.out, HB2.out, HF1.out, HF2.out, HT1.out, HT2.out, HC1.out, HC2.out, HCW.out, HLE.out]
  rw [HLE.out] at HCP hl6 hlk
  rw [HLY.out] at HIN
  have HAV := Lib.hid (fun W => rarcOk_any fx fy tx ty cx cy cw W)
  have HO := Lib.hid (one_vec w (.cells #[.int .i64 kd, .string lay, .int .i64 ax, .int .i64 ay, .int .i64 bx, .int .i64 b_y, .int .i64 fx, .int .i64 fy, .int .i64 tx, .int .i64 ty, .int .i64 cx, .int .i64 cy, .bool cw, .slice A n k] 57))
  go_enter Tryz.func63, Tryz.ntmps63
  go_upto_region 1 with fail
  generalize w.alloc (.cells #[.int .i64 kd, .string lay, .int .i64 ax, .int .i64 ay, .int .i64 bx, .int .i64 b_y, .int .i64 fx, .int .i64 fy, .int .i64 tx, .int .i64 ty, .int .i64 cx, .int .i64 cy, .bool cw, .slice A n k] 57) = W at *
  have HX := Lib.hid HO.out.2
  have HW := Lib.hid HO.out.1
  have q0 := cellAt14 (((Below.refl _ _).block _ (GeW.lt_of_block HX.out)).trans HX.out) 0 (by simp)
  have q1 := cellAt14 (((Below.refl _ _).block _ (GeW.lt_of_block HX.out)).trans HX.out) 1 (by simp)
  have q2 := cellAt14 (((Below.refl _ _).block _ (GeW.lt_of_block HX.out)).trans HX.out) 2 (by simp)
  have q3 := cellAt14 (((Below.refl _ _).block _ (GeW.lt_of_block HX.out)).trans HX.out) 3 (by simp)
  have q4 := cellAt14 (((Below.refl _ _).block _ (GeW.lt_of_block HX.out)).trans HX.out) 4 (by simp)
  have q5 := cellAt14 (((Below.refl _ _).block _ (GeW.lt_of_block HX.out)).trans HX.out) 5 (by simp)
  have q6 := cellAt14 (((Below.refl _ _).block _ (GeW.lt_of_block HX.out)).trans HX.out) 6 (by simp)
  have q7 := cellAt14 (((Below.refl _ _).block _ (GeW.lt_of_block HX.out)).trans HX.out) 7 (by simp)
  have q8 := cellAt14 (((Below.refl _ _).block _ (GeW.lt_of_block HX.out)).trans HX.out) 8 (by simp)
  have q9 := cellAt14 (((Below.refl _ _).block _ (GeW.lt_of_block HX.out)).trans HX.out) 9 (by simp)
  have q10 := cellAt14 (((Below.refl _ _).block _ (GeW.lt_of_block HX.out)).trans HX.out) 10 (by simp)
  have q11 := cellAt14 (((Below.refl _ _).block _ (GeW.lt_of_block HX.out)).trans HX.out) 11 (by simp)
  have q12 := cellAt14 (((Below.refl _ _).block _ (GeW.lt_of_block HX.out)).trans HX.out) 12 (by simp)
  have q13 := cellAt14 (((Below.refl _ _).block _ (GeW.lt_of_block HX.out)).trans HX.out) 13 (by simp)
  simp only [List.getElem_toArray, List.getElem_cons_zero, List.getElem_cons_succ] at q0 q1 q2 q3 q4 q5 q6 q7 q8 q9 q10 q11 q12 q13
  cases hnm : Lex.isName e.layer
  · have HV : Hid (entOk e = false) := Lib.hid (by unfold entOk; rw [hnm]; rfl)
    rw [hnm] at HIN
    clear hnm
    go_wp2_with fail
    refine (HIN.out _).mono ?_
    rintro r w4 ⟨rfl, rfl⟩
    go_wp2
    go_ret
    rw [HV.out]
    exact ⟨rfl, HW.out⟩
  have HN : Hid (entOk e = entK e) := Lib.hid (by unfold entOk; rw [hnm]; rfl)
  rw [hnm] at HIN
  clear hnm
  go_wp2_with fail
  refine (HIN.out _).mono ?_
  rintro r w4 ⟨rfl, rfl⟩
  have HE2 := eql_vec ax ay 0 0
  have HE3 := eql_vec bx b_y 0 0
  have HE4 := eql_arc fx fy tx ty cx cy 0 0 0 0 0 0 cw false
  have HL : Hid (noLine e = (decide ((ax, ay) = (0, 0)) && decide ((bx, b_y) = (0, 0)))) := Lib.hid (by
    unfold noLine z0
    rw [HEA.out, HEB.out]
    by_cases h : ((ax, ay) : V) = (0, 0)
    · rw [h]
      by_cases h2 : ((bx, b_y) : V) = (0, 0)
      · rw [h2]
      · simp [h2, Ne.symm h2]
    · simp [h])
  have HA : Hid (noArc e = (decide ((fx, fy) = (0, 0)) && (decide ((tx, ty) = (0, 0)) && (decide ((cx, cy) = (0, 0)) && decide (cw = false))))) := Lib.hid (by unfold noArc z0; rw [HEF.out, HET.out, HEC.out, HCW.out]; cases cw <;> rfl)
  generalize decide ((ax, ay) = (0, 0)) = r1 at *
  generalize decide ((bx, b_y) = (0, 0)) = r2 at *
  generalize (decide ((fx, fy) = (0, 0)) && (decide ((tx, ty) = (0, 0)) && (decide ((cx, cy) = (0, 0)) && decide (cw = false)))) = ba at *
  have HBA : Hid (noArc e = ba) := HA
  go_upto_region 3 with fail
  go_cut [3] from 9 to 18 (fun p wc => p = .bool (noLine e) ∧ Below W.heap.size W wc)
  case first =>
    cases r1
    · go_wp2_with fail
      go_meet
      exact ⟨by rw [HL.out]; rfl, Below.refl _ _⟩
    · go_wp2_with fail
      go_meet
      exact ⟨by rw [HL.out]; rfl, Below.refl _ _⟩
  case rest =>
    obtain ⟨rfl, hbc⟩ := hcut
    have HBC := Lib.hid hbc
    clear q0 q1 q2 q3 q4 q5 q6 q7 q8 q9 q10 q11 q12 q13 hbc
    have q0 := cellAt14 (((HBC.out).block _ (GeW.lt_of_block HX.out)).trans HX.out) 0 (by simp)
    have q1 := cellAt14 (((HBC.out).block _ (GeW.lt_of_block HX.out)).trans HX.out) 1 (by simp)
    have q2 := cellAt14 (((HBC.out).block _ (GeW.lt_of_block HX.out)).trans HX.out) 2 (by simp)
    have q3 := cellAt14 (((HBC.out).block _ (GeW.lt_of_block HX.out)).trans HX.out) 3 (by simp)
    have q4 := cellAt14 (((HBC.out).block _ (GeW.lt_of_block HX.out)).trans HX.out) 4 (by simp)
    have q5 := cellAt14 (((HBC.out).block _ (GeW.lt_of_block HX.out)).trans HX.out) 5 (by simp)
    have q6 := cellAt14 (((HBC.out).block _ (GeW.lt_of_block HX.out)).trans HX.out) 6 (by simp)
    have q7 := cellAt14 (((HBC.out).block _ (GeW.lt_of_block HX.out)).trans HX.out) 7 (by simp)
    have q8 := cellAt14 (((HBC.out).block _ (GeW.lt_of_block HX.out)).trans HX.out) 8 (by simp)
    have q9 := cellAt14 (((HBC.out).block _ (GeW.lt_of_block HX.out)).trans HX.out) 9 (by simp)
    have q10 := cellAt14 (((HBC.out).block _ (GeW.lt_of_block HX.out)).trans HX.out) 10 (by simp)
    have q11 := cellAt14 (((HBC.out).block _ (GeW.lt_of_block HX.out)).trans HX.out) 11 (by simp)
    have q12 := cellAt14 (((HBC.out).block _ (GeW.lt_of_block HX.out)).trans HX.out) 12 (by simp)
    have q13 := cellAt14 (((HBC.out).block _ (GeW.lt_of_block HX.out)).trans HX.out) 13 (by simp)
    simp only [List.getElem_toArray, List.getElem_cons_zero, List.getElem_cons_succ] at q0 q1 q2 q3 q4 q5 q6 q7 q8 q9 q10 q11 q12 q13
    obtain ⟨bl, HBL⟩ : ∃ v, Hid (noLine e = v) := ⟨_, Lib.hid rfl⟩
    rw [HBL.out]
    by_cases k1 : kd = 1
    · have HKD : Hid (e.kind = 1) := Lib.hid (HKE.out.trans k1)
      have s1 : (kd == 1) = true := beq_iff_eq.2 k1
      have s1' : (kd = 1) = True := eq_true k1
      clear k1
      have HLN : Hid (entK e = (!decide (e.a = e.b) && (within e.a 2000 && (within e.b 2000 && (noArc e && noPts e))))) := Lib.hid (by unfold entK; rw [HKD.out]; rfl)
      have HE1 := neq_vec ax ay bx b_y
      have HNE : Hid (decide (e.a = e.b) = decide ((ax, ay) = (bx, b_y))) := Lib.hid (by rw [HEA.out, HEB.out])
      have HNR : Hid (near [(ax, ay), (bx, b_y)] = (within e.a 2000 && within e.b 2000)) := Lib.hid (by rw [HEA.out, HEB.out]; simp [near])
      cases ba
      · have HV : Hid (entOk e = false) := Lib.hid (by rw [HN.out]; rw [HLN.out, HBA.out]; simp)
        have HR0 := HBC
        go_wp2
        go_ret
        rw [HV.out]
        exact ⟨rfl, HW.out.trans (HR0.out.mono HW.out.size)⟩
      · by_cases h0 : n = 0
        · have t0 : ((n : Int) == 0) = true := by simp [h0]
          have HBP : Hid (noPts e = true) := Lib.hid (by unfold noPts; rw [HLE.out, h0]; rfl)
          clear h0
          generalize decide ((ax, ay) = (bx, b_y)) = r1 at *
          cases r1
          · have HWS := Lib.hid (fun W => rwithins_any [(ax, ay), (bx, b_y)] (some ⟨W.heap.size, 0, none⟩) 2 (W.alloc (.cells #[.int .i64 ax, .int .i64 ay, .int .i64 bx, .int .i64 b_y] 53)) (two_row W ax ay bx b_y) (by simp))
            rw [HNR.out] at HWS
            generalize hrr : (within e.a 2000 && within e.b 2000) = rr at *
            have HRR := Lib.hid hrr
            clear hrr
            have HV : Hid (entOk e = rr) := Lib.hid (by rw [HN.out]; rw [HLN.out, HNE.out, HBA.out, HBP.out, ← HRR.out]; simp)
            have HR0 := HBC
            go_wp2_with fail
            refine (HWS.out _).mono ?_
            rintro r w5 ⟨rfl, hb5⟩
            have HR1 := Lib.hid ((HR0.out.alloc HR0.out.size _).trans (hb5.mono (by have := HR0.out.size; simp; omega)))
            clear hb5 q0 q1 q2 q3 q4 q5 q6 q7 q8 q9 q10 q11 q12 q13
            have q0 := cellAt14 (((HR1.out).block _ (GeW.lt_of_block HX.out)).trans HX.out) 0 (by simp)
            have q1 := cellAt14 (((HR1.out).block _ (GeW.lt_of_block HX.out)).trans HX.out) 1 (by simp)
            have q2 := cellAt14 (((HR1.out).block _ (GeW.lt_of_block HX.out)).trans HX.out) 2 (by simp)
            have q3 := cellAt14 (((HR1.out).block _ (GeW.lt_of_block HX.out)).trans HX.out) 3 (by simp)
            have q4 := cellAt14 (((HR1.out).block _ (GeW.lt_of_block HX.out)).trans HX.out) 4 (by simp)
            have q5 := cellAt14 (((HR1.out).block _ (GeW.lt_of_block HX.out)).trans HX.out) 5 (by simp)
            have q6 := cellAt14 (((HR1.out).block _ (GeW.lt_of_block HX.out)).trans HX.out) 6 (by simp)
            have q7 := cellAt14 (((HR1.out).block _ (GeW.lt_of_block HX.out)).trans HX.out) 7 (by simp)
            have q8 := cellAt14 (((HR1.out).block _ (GeW.lt_of_block HX.out)).trans HX.out) 8 (by simp)
            have q9 := cellAt14 (((HR1.out).block _ (GeW.lt_of_block HX.out)).trans HX.out) 9 (by simp)
            have q10 := cellAt14 (((HR1.out).block _ (GeW.lt_of_block HX.out)).trans HX.out) 10 (by simp)
            have q11 := cellAt14 (((HR1.out).block _ (GeW.lt_of_block HX.out)).trans HX.out) 11 (by simp)
            have q12 := cellAt14 (((HR1.out).block _ (GeW.lt_of_block HX.out)).trans HX.out) 12 (by simp)
            have q13 := cellAt14 (((HR1.out).block _ (GeW.lt_of_block HX.out)).trans HX.out) 13 (by simp)
            simp only [List.getElem_toArray, List.getElem_cons_zero, List.getElem_cons_succ] at q0 q1 q2 q3 q4 q5 q6 q7 q8 q9 q10 q11 q12 q13
            go_wp2
            go_ret
            rw [HV.out]
            exact ⟨by simp, HW.out.trans (HR1.out.mono HW.out.size)⟩
          · have HV : Hid (entOk e = false) := Lib.hid (by rw [HN.out]; rw [HLN.out, HNE.out]; rfl)
            have HR0 := HBC
            go_wp2
            go_ret
            rw [HV.out]
            exact ⟨rfl, HW.out.trans (HR0.out.mono HW.out.size)⟩
        · have t0 : ((n : Int) == 0) = false := by simp [h0]
          have HBP : Hid (noPts e = false) := Lib.hid (by unfold noPts; rw [HLE.out]; simp [h0])
          have HV : Hid (entOk e = false) := Lib.hid (by rw [HN.out]; rw [HLN.out, HBP.out]; simp)
          have HR0 := HBC
          go_wp2
          go_ret
          rw [HV.out]
          exact ⟨rfl, HW.out.trans (HR0.out.mono HW.out.size)⟩
    have s1 : (kd == 1) = false := beq_eq_false_iff_ne.2 k1
    have s1' : (kd = 1) = False := eq_false k1
    by_cases k2 : kd = 2
    · have HKD : Hid (e.kind = 2) := Lib.hid (HKE.out.trans k2)
      have s2 : (kd == 2) = true := beq_iff_eq.2 k2
      have s2' : (kd = 2) = True := eq_true k2
      clear k2
      have HLN : Hid (entK e = (noLine e && (arcOk e.f e.t e.c && noPts e))) := Lib.hid (by unfold entK; rw [HKD.out]; rfl)
      cases bl
      · have HV : Hid (entOk e = false) := Lib.hid (by rw [HN.out]; rw [HLN.out, HBL.out]; rfl)
        have HR0 := HBC
        go_wp2
        go_ret
        rw [HV.out]
        exact ⟨rfl, HW.out.trans (HR0.out.mono HW.out.size)⟩
      · by_cases h0 : n = 0
        · have t0 : ((n : Int) == 0) = true := by simp [h0]
          have HBP : Hid (noPts e = true) := Lib.hid (by unfold noPts; rw [HLE.out, h0]; rfl)
          clear h0
          have HAO : Hid (arcOk e.f e.t e.c = arcOk (fx, fy) (tx, ty) (cx, cy)) := Lib.hid (by rw [HEF.out, HET.out, HEC.out])
          generalize arcOk (fx, fy) (tx, ty) (cx, cy) = rr at *
          have HV : Hid (entOk e = rr) := Lib.hid (by rw [HN.out]; rw [HLN.out, HBL.out, HBP.out, HAO.out]; simp)
          have HR0 := HBC
          go_wp2_with fail
          refine (HAV.out _).mono ?_
          rintro r w5 ⟨rfl, hb5⟩
          have HR1 := Lib.hid (HR0.out.trans (hb5.mono HR0.out.size))
          clear hb5 q0 q1 q2 q3 q4 q5 q6 q7 q8 q9 q10 q11 q12 q13
          have q0 := cellAt14 (((HR1.out).block _ (GeW.lt_of_block HX.out)).trans HX.out) 0 (by simp)
          have q1 := cellAt14 (((HR1.out).block _ (GeW.lt_of_block HX.out)).trans HX.out) 1 (by simp)
          have q2 := cellAt14 (((HR1.out).block _ (GeW.lt_of_block HX.out)).trans HX.out) 2 (by simp)
          have q3 := cellAt14 (((HR1.out).block _ (GeW.lt_of_block HX.out)).trans HX.out) 3 (by simp)
          have q4 := cellAt14 (((HR1.out).block _ (GeW.lt_of_block HX.out)).trans HX.out) 4 (by simp)
          have q5 := cellAt14 (((HR1.out).block _ (GeW.lt_of_block HX.out)).trans HX.out) 5 (by simp)
          have q6 := cellAt14 (((HR1.out).block _ (GeW.lt_of_block HX.out)).trans HX.out) 6 (by simp)
          have q7 := cellAt14 (((HR1.out).block _ (GeW.lt_of_block HX.out)).trans HX.out) 7 (by simp)
          have q8 := cellAt14 (((HR1.out).block _ (GeW.lt_of_block HX.out)).trans HX.out) 8 (by simp)
          have q9 := cellAt14 (((HR1.out).block _ (GeW.lt_of_block HX.out)).trans HX.out) 9 (by simp)
          have q10 := cellAt14 (((HR1.out).block _ (GeW.lt_of_block HX.out)).trans HX.out) 10 (by simp)
          have q11 := cellAt14 (((HR1.out).block _ (GeW.lt_of_block HX.out)).trans HX.out) 11 (by simp)
          have q12 := cellAt14 (((HR1.out).block _ (GeW.lt_of_block HX.out)).trans HX.out) 12 (by simp)
          have q13 := cellAt14 (((HR1.out).block _ (GeW.lt_of_block HX.out)).trans HX.out) 13 (by simp)
          simp only [List.getElem_toArray, List.getElem_cons_zero, List.getElem_cons_succ] at q0 q1 q2 q3 q4 q5 q6 q7 q8 q9 q10 q11 q12 q13
          go_wp2
          go_ret
          rw [HV.out]
          exact ⟨by simp, HW.out.trans (HR1.out.mono HW.out.size)⟩
        · have t0 : ((n : Int) == 0) = false := by simp [h0]
          have HBP : Hid (noPts e = false) := Lib.hid (by unfold noPts; rw [HLE.out]; simp [h0])
          have HV : Hid (entOk e = false) := Lib.hid (by rw [HN.out]; rw [HLN.out, HBP.out]; simp)
          have HR0 := HBC
          go_wp2
          go_ret
          rw [HV.out]
          exact ⟨rfl, HW.out.trans (HR0.out.mono HW.out.size)⟩
    have s2 : (kd == 2) = false := beq_eq_false_iff_ne.2 k2
    have s2' : (kd = 2) = False := eq_false k2
    by_cases k3 : kd = 3
    · have HKD : Hid (e.kind = 3) := Lib.hid (HKE.out.trans k3)
      have s3 : (kd == 3) = true := beq_iff_eq.2 k3
      have s3' : (kd = 3) = True := eq_true k3
      clear k3
      have HLN : Hid (entK e = (noLine e && (noArc e && (decide (3 ≤ e.pts.length) && (decide (e.pts.length ≤ 40) && near e.pts))))) := Lib.hid (by unfold entK; rw [HKD.out]; rfl)
      cases bl
      · have HV : Hid (entOk e = false) := Lib.hid (by rw [HN.out]; rw [HLN.out, HBL.out]; rfl)
        have HR0 := HBC
        go_wp2
        go_ret
        rw [HV.out]
        exact ⟨rfl, HW.out.trans (HR0.out.mono HW.out.size)⟩
      · cases ba
        · have HV : Hid (entOk e = false) := Lib.hid (by rw [HN.out]; rw [HLN.out, HBL.out, HBA.out]; rfl)
          have HR0 := HBC
          go_wp2
          go_ret
          rw [HV.out]
          exact ⟨rfl, HW.out.trans (HR0.out.mono HW.out.size)⟩
        · by_cases h3 : 3 ≤ n
          · have t3 : decide ((3 : Int) ≤ (n : Int)) = true := decide_eq_true (by omega)
            have u3 : decide (3 ≤ n) = true := decide_eq_true h3
            by_cases h40 : n ≤ 40
            · have t4 : decide ((n : Int) ≤ 40) = true := decide_eq_true (by omega)
              have u4 : decide (n ≤ 40) = true := decide_eq_true h40
              generalize near e.pts = rr at *
              have HV : Hid (entOk e = rr) := Lib.hid (by rw [HN.out]; rw [HLN.out, HBL.out, HBA.out, HLE.out, decide_eq_true h3, decide_eq_true h40]; rfl)
              have HR0 := HBC
              go_wp2_with fail
              refine (HCP.out _ (HW.out.trans (HBC.out.mono HW.out.size))).mono ?_
              rintro r w5 ⟨rfl, hb5⟩
              have HR1 := Lib.hid (HR0.out.trans (hb5.mono HR0.out.size))
              clear hb5 q0 q1 q2 q3 q4 q5 q6 q7 q8 q9 q10 q11 q12 q13
              have q0 := cellAt14 (((HR1.out).block _ (GeW.lt_of_block HX.out)).trans HX.out) 0 (by simp)
              have q1 := cellAt14 (((HR1.out).block _ (GeW.lt_of_block HX.out)).trans HX.out) 1 (by simp)
              have q2 := cellAt14 (((HR1.out).block _ (GeW.lt_of_block HX.out)).trans HX.out) 2 (by simp)
              have q3 := cellAt14 (((HR1.out).block _ (GeW.lt_of_block HX.out)).trans HX.out) 3 (by simp)
              have q4 := cellAt14 (((HR1.out).block _ (GeW.lt_of_block HX.out)).trans HX.out) 4 (by simp)
              have q5 := cellAt14 (((HR1.out).block _ (GeW.lt_of_block HX.out)).trans HX.out) 5 (by simp)
              have q6 := cellAt14 (((HR1.out).block _ (GeW.lt_of_block HX.out)).trans HX.out) 6 (by simp)
              have q7 := cellAt14 (((HR1.out).block _ (GeW.lt_of_block HX.out)).trans HX.out) 7 (by simp)
              have q8 := cellAt14 (((HR1.out).block _ (GeW.lt_of_block HX.out)).trans HX.out) 8 (by simp)
              have q9 := cellAt14 (((HR1.out).block _ (GeW.lt_of_block HX.out)).trans HX.out) 9 (by simp)
              have q10 := cellAt14 (((HR1.out).block _ (GeW.lt_of_block HX.out)).trans HX.out) 10 (by simp)
              have q11 := cellAt14 (((HR1.out).block _ (GeW.lt_of_block HX.out)).trans HX.out) 11 (by simp)
              have q12 := cellAt14 (((HR1.out).block _ (GeW.lt_of_block HX.out)).trans HX.out) 12 (by simp)
              have q13 := cellAt14 (((HR1.out).block _ (GeW.lt_of_block HX.out)).trans HX.out) 13 (by simp)
              simp only [List.getElem_toArray, List.getElem_cons_zero, List.getElem_cons_succ] at q0 q1 q2 q3 q4 q5 q6 q7 q8 q9 q10 q11 q12 q13
              go_wp2
              go_ret
              rw [HV.out]
              exact ⟨by simp, HW.out.trans (HR1.out.mono HW.out.size)⟩
            · have t4 : decide ((n : Int) ≤ 40) = false := decide_eq_false (by omega)
              have u4 : decide (n ≤ 40) = false := decide_eq_false h40
              have HV : Hid (entOk e = false) := Lib.hid (by rw [HN.out]; rw [HLN.out, HBL.out, HBA.out, HLE.out, decide_eq_true h3, decide_eq_false h40]; rfl)
              have HR0 := HBC
              go_wp2
              go_ret
              rw [HV.out]
              exact ⟨rfl, HW.out.trans (HR0.out.mono HW.out.size)⟩
          · have t3 : decide ((3 : Int) ≤ (n : Int)) = false := decide_eq_false (by omega)
            have u3 : decide (3 ≤ n) = false := decide_eq_false h3
            have HV : Hid (entOk e = false) := Lib.hid (by rw [HN.out]; rw [HLN.out, HBL.out, HBA.out, HLE.out, decide_eq_false h3]; rfl)
            have HR0 := HBC
            go_wp2
            go_ret
            rw [HV.out]
            exact ⟨rfl, HW.out.trans (HR0.out.mono HW.out.size)⟩
    have s3 : (kd == 3) = false := beq_eq_false_iff_ne.2 k3
    have s3' : (kd = 3) = False := eq_false k3
    have HV : Hid (entOk e = false) := Lib.hid (by rw [HN.out]; unfold entK; rw [HKE.out, if_neg (fun h => by simp [h] at s1'), if_neg (fun h => by simp [h] at s2'), if_neg (fun h => by simp [h] at s3')])
    go_wp2
    go_ret
    rw [HV.out]
    exact ⟨rfl, HW.out.trans (HBC.out.mono HW.out.size)⟩

set_option maxRecDepth 100000 in
set_option maxHeartbeats 2000000 in
theorem rdrawOk_any (es : List EntV) (A : Option Addr) (c : Nat) (w : World) (hr : Ents w A es) :
    Calls Tryz.prog 22 #[.slice A es.length c] w fun e w' => e = .returned (.bool (drawOk (es.map EntV.e))) ∧ Below w.heap.size w w' := by
  have HR := Lib.hid hr
  have hl := hr.2.2
  obtain ⟨DK, HDK⟩ : ∃ DK, Hid (drawOk (es.map EntV.e) = DK) := ⟨_, Lib.hid rfl⟩
  rw [HDK.out]
  clear hr
  go_enter Tryz.func22, Tryz.ntmps22
  go_wp2
  go_loopw [3] (fun i wr => ∃ j : Nat, i = .int .i64 (j : Int) ∧ j ≤ es.length ∧ Hid (DK = (decide (es.length ≤ 200) && ((es.drop j).map EntV.e).all entOk)) ∧ Hid (Below w.heap.size w wr)) (fun i _ => es.length - (intOf i).toNat)
  case atStart => exact ⟨0, rfl, Nat.zero_le _, Lib.hid (by rw [← HDK.out]; unfold drawOk; simp), Lib.hid (Below.refl _ _)⟩
  case round =>
    obtain ⟨j, rfl, hj, HD, HB⟩ := hrel
    by_cases hlt : j < es.length
    · obtain ⟨g, off, rfl, hg, ca⟩ := row_get GeW.ent_len (by decide) HR.out.1 (by omega)
      have a0 := (HB.out.cell (p := ⟨g, off + j * 14 + 0, none⟩) hg).trans (ca j hlt 0 (by decide))
      have a1 := (HB.out.cell (p := ⟨g, off + j * 14 + 1, none⟩) hg).trans (ca j hlt 1 (by decide))
      have a2 := (HB.out.cell (p := ⟨g, off + j * 14 + 2, none⟩) hg).trans (ca j hlt 2 (by decide))
      have a3 := (HB.out.cell (p := ⟨g, off + j * 14 + 3, none⟩) hg).trans (ca j hlt 3 (by decide))
      have a4 := (HB.out.cell (p := ⟨g, off + j * 14 + 4, none⟩) hg).trans (ca j hlt 4 (by decide))
      have a5 := (HB.out.cell (p := ⟨g, off + j * 14 + 5, none⟩) hg).trans (ca j hlt 5 (by decide))
      have a6 := (HB.out.cell (p := ⟨g, off + j * 14 + 6, none⟩) hg).trans (ca j hlt 6 (by decide))
      have a7 := (HB.out.cell (p := ⟨g, off + j * 14 + 7, none⟩) hg).trans (ca j hlt 7 (by decide))
      have a8 := (HB.out.cell (p := ⟨g, off + j * 14 + 8, none⟩) hg).trans (ca j hlt 8 (by decide))
      have a9 := (HB.out.cell (p := ⟨g, off + j * 14 + 9, none⟩) hg).trans (ca j hlt 9 (by decide))
      have a10 := (HB.out.cell (p := ⟨g, off + j * 14 + 10, none⟩) hg).trans (ca j hlt 10 (by decide))
      have a11 := (HB.out.cell (p := ⟨g, off + j * 14 + 11, none⟩) hg).trans (ca j hlt 11 (by decide))
      have a12 := (HB.out.cell (p := ⟨g, off + j * 14 + 12, none⟩) hg).trans (ca j hlt 12 (by decide))
      have a13 := (HB.out.cell (p := ⟨g, off + j * 14 + 13, none⟩) hg).trans (ca j hlt 13 (by decide))
      have HV := Lib.hid (rentOk_any es[j] wr ((HR.out.2.1 es[j] (List.getElem_mem hlt)).below HB.out))
      have HDX : Hid (DK = (decide (es.length ≤ 200) && (entOk es[j].e && ((es.drop (j + 1)).map EntV.e).all entOk))) := Lib.hid (by
        rw [HD.out, List.drop_eq_getElem_cons hlt, List.map_cons, List.all_cons])
      clear HD ca
      obtain ⟨g9, HG9⟩ : ∃ g9, Hid (entOk es[j].e = g9) := ⟨_, Lib.hid rfl⟩
      rw [HG9.out] at HV HDX
      clear HG9
      generalize es[j] = q at *
      obtain ⟨⟨kd, lay, ⟨ax, ay⟩, ⟨bx, b_y⟩, ⟨fx, fy⟩, ⟨tx, ty⟩, ⟨cx, cy⟩, cw, pts⟩, qA, qk⟩ := q
      simp only [entVals, List.getElem?_cons_zero, List.getElem?_cons_succ, Nat.add_zero] at a0 a1 a2 a3 a4 a5 a6 a7 a8 a9 a10 a11 a12 a13 HV
      have hj1 : (0 : Int) ≤ (j : Int) := by omega
      have hj2 : (j : Int) < (es.length : Int) := by omega
      cases g9
      · go_wp2_with fail
        refine HV.out.mono ?_
        rintro e w1 ⟨rfl, hb1⟩
        go_wp2
        go_ret
        exact ⟨by rw [HDX.out]; simp, HB.out.trans (hb1.mono HB.out.size)⟩
      · go_wp2_with fail
        refine HV.out.mono ?_
        rintro e w1 ⟨rfl, hb1⟩
        have HB1 := Lib.hid (HB.out.trans (hb1.mono HB.out.size))
        clear a0 a1 a2 a3 a4 a5 a6 a7 a8 a9 a10 a11 a12 a13 hb1
        go_wp2
        go_roundw
        case rel => exact ⟨j + 1, by go_num, by omega, Lib.hid (by rw [HDX.out]; simp), HB1⟩
        case measure => simp [intOf]; omega
    · obtain rfl : j = es.length := by omega
      have HDE : Hid (DK = decide (es.length ≤ 200)) := Lib.hid (by rw [HD.out, List.drop_length]; simp)
      have hd : decide ((es.length : Int) ≤ 200) = DK := by rw [HDE.out]; simp only [decide_eq_decide]; omega
      go_wp2
      go_ret
      exact ⟨rfl, HB.out⟩
end Go.Proofs.YtnmmhcchpcbeeaaGreat.GtW

namespace Go.Proofs.YtnmmhcchpcbeeaaGreat.Ge
open Go
def inLay (layer : List UInt8) (x : Ent) : Bool := decide (x.layer = layer)
theorem gather_lay (fl : Ent → List V) (layer : List UInt8) : ∀ (d : List Ent) (st : List Pass × List Itm), (d.filter (inLay layer)).foldl (gatherS fl layer) st = d.foldl (gatherS fl layer) st
  | [], st => rfl
  | x :: d, st => by
    rw [List.foldl_cons, List.filter_cons]
    by_cases h : x.layer = layer
    · rw [if_pos (show inLay layer x = true from decide_eq_true h), List.foldl_cons]
      exact gather_lay fl layer d _
    · rw [if_neg (show ¬ inLay layer x = true by unfold inLay; simpa using h), gather_lay fl layer d st]
      congr 1
      unfold gatherS
      rw [if_neg h]
theorem draw_lay {layer : List UInt8} {d : List Ent} (h : drawOk d = true) : drawOk (d.filter (inLay layer)) = true := by
  unfold drawOk at *
  rw [Bool.and_eq_true, decide_eq_true_eq, List.all_eq_true] at *
  exact ⟨Nat.le_trans (List.length_filter_le _ _) h.1, fun x hx => h.2 x (List.mem_filter.1 hx).1⟩
/-- The rings of a layer are those of its entities. -/
theorem rings_lay {fl : Ent → List V} {layer : List UInt8} {d : List Ent} {tol : Int} (h : drawOk d = true) : ringsP fl (d.filter (inLay layer)) layer tol = ringsP fl d layer tol := by
  unfold ringsP
  rw [if_pos h, if_pos (draw_lay h)]
  unfold gather
  rw [gather_lay]
end Go.Proofs.YtnmmhcchpcbeeaaGreat.Ge
namespace Go.Proofs.YtnmmhcchpcbeeaaGreat.GeW
open Go Go.RowKit Go.Proofs.YtnmmhcchpcbeeaaGreat.Mem Go.Proofs.YtnmmhcchpcbeeaaGreat.Ge
def layV (layer : List UInt8) (es : List EntV) : List EntV := es.filter fun q => inLay layer q.e
theorem layV_ents (layer : List UInt8) (es : List EntV) : ents (layV layer es) = (ents es).filter (inLay layer) := by
  unfold layV ents
  rw [List.filter_map]
  rfl
theorem layV_snoc (layer : List UInt8) (es : List EntV) (k : Nat) (h : k < es.length) : layV layer (es.take (k + 1)) = layV layer (es.take k) ++ if inLay layer es[k].e then [es[k]] else [] := by
  unfold layV
  rw [List.take_succ_eq_append_getElem h, List.filter_append]
  congr 1
  rw [List.filter_cons]
  rfl
theorem layV_len (layer : List UInt8) (es : List EntV) : (layV layer es).length ≤ es.length := List.length_filter_le _ _
theorem layV_pts {layer : List UInt8} {es : List EntV} {w : World} (h : ∀ x ∈ es, PtsIn w x) : ∀ x ∈ layV layer es, PtsIn w x := fun x hx => h x (List.mem_filter.1 hx).1
end Go.Proofs.YtnmmhcchpcbeeaaGreat.GeW
