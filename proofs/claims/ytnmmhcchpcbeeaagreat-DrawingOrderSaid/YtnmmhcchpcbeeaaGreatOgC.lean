/- DrawingOrder: neither the order of the entities nor the direction of lines matters for the shapes of a layer. Conditions: none. -/
import Derived.Test.YtnmmhcchpcbeeaaGreatGeA
import Derived.Test.YtnmmhcchpcbeeaaGreatEqV
import Derived.Deep.CutRange
import Derived.Test.YtnmmhcchpcbeeaaGreatRgW
import Derived.Test.YtnmmhcchpcbeeaaGreatOgW
import Derived.Test.YtnmmhcchpcbeeaaGreatOgO
import Derived.Test.YtnmmhcchpcbeeaaGreatOgQ
import Derived.Laws.BitsLemmas
import Derived.HandedShaped
import Derived.Handed
import Derived.ProofKit
import Derived.Test.YtnmmhcchpcbeeaaGreatRows
import Derived.OpenShut

namespace Go.Proofs.YtnmmhcchpcbeeaaGreat.GeW
open Go Go.RowKit Go.Proofs.YtnmmhcchpcbeeaaGreat.Mem Go.Proofs.YtnmmhcchpcbeeaaGreat.Ge
theorem take_more {l m : List V} {k : Nat} (h : l.take k = m.take k) (h1 : k < l.length) (h2 : k < m.length) (he : l[k] = m[k]) : l.take (k + 1) = m.take (k + 1) := by
  rw [List.take_succ_eq_append_getElem h1, List.take_succ_eq_append_getElem h2, h, he]
set_option maxRecDepth 100000 in
set_option maxHeartbeats 1000000 in
theorem same6_any (l m : List V) (A B : Option Addr) (c d : Nat) (w : World) (hr : Row w A (l.flatMap ptCells)) (hs : Row w B (m.flatMap ptCells)) (hl : l.length ≤ 17592186043904) (hm : m.length ≤ 17592186043904) :
    Calls Tryz.prog 31 #[.slice A l.length c, .slice B m.length d] w fun e w' => e = .returned (.bool (decide (l = m))) ∧ Below w.heap.size w w' := by
  have HR := Lib.hid hr
  have HS := Lib.hid hs
  clear hr hs
  by_cases hlen : l.length = m.length
  · have HT0 := Lib.hid (show l.take 0 = m.take 0 by simp)
    have HLM := Lib.hid hlen
    go_enter Tryz.func31, Tryz.ntmps31
    rw [← hlen]
    clear hlen
    go_wp2
    go_loopw [5] (fun i wr => ∃ k : Nat, k ≤ l.length ∧ i = .int .i64 k ∧ Hid (l.take k = m.take k) ∧ Hid (Below w.heap.size w wr)) (fun i _ => l.length - (intOf i).toNat)
    case atStart => exact ⟨0, Nat.zero_le _, rfl, HT0, Lib.hid (Below.refl _ _)⟩
    case round =>
      obtain ⟨k, hk, rfl, HT, HB⟩ := hrel
      by_cases hlt : k < l.length
      · have hlt2 : k < m.length := by have := HLM.out; omega
        obtain ⟨g, off, rfl, hg, ca⟩ := row_get pt_len (by decide) HR.out (by omega)
        obtain ⟨g2, off2, rfl, hg2, cb⟩ := row_get pt_len (by decide) HS.out (by omega)
        have a0 := (HB.out.cell (p := ⟨g, off + k * 2, none⟩) hg).trans (ca k hlt 0 (by decide))
        have a1 := (HB.out.cell (p := ⟨g, off + k * 2 + 1, none⟩) hg).trans (ca k hlt 1 (by decide))
        have b0 := (HB.out.cell (p := ⟨g2, off2 + k * 2, none⟩) hg2).trans (cb k hlt2 0 (by decide))
        have b1 := (HB.out.cell (p := ⟨g2, off2 + k * 2 + 1, none⟩) hg2).trans (cb k hlt2 1 (by decide))
        have hk1 : (0 : Int) ≤ (k : Int) := by omega
        have HMO := Lib.hid (fun h => take_more HT.out hlt hlt2 h)
        have HNO : Hid (l[k] ≠ m[k] → l ≠ m) := Lib.hid (fun h e => h (by subst e; rfl))
        clear ca cb
        generalize l[k] = p at *
        generalize m[k] = q at *
        clear hlt2
        obtain ⟨px, py⟩ := p
        obtain ⟨qx, qy⟩ := q
        simp only [ptCells, List.getElem?_cons_zero, List.getElem?_cons_succ] at a0 a1 b0 b1
        by_cases he : (px, py) = (qx, qy)
        · have HE1 : ∀ W, (binOp .neq 53 (.agg #[.int .i64 px, .int .i64 py]) (.agg #[.int .i64 qx, .int .i64 qy])).run Tryz.prog W = .ok (.bool false) W := fun W => by rw [neq_vec, decide_eq_true he]; rfl
          have HT2 := Lib.hid (HMO.out he)
          clear he HMO HNO
          go_wp2
          go_region
          go_wp2
          go_roundw
          case rel => exact ⟨k + 1, hlt, by go_num, HT2, Lib.hid (below_drew HB.out)⟩
          case measure => simp [intOf]; omega
        · have HE1 : ∀ W, (binOp .neq 53 (.agg #[.int .i64 px, .int .i64 py]) (.agg #[.int .i64 qx, .int .i64 qy])).run Tryz.prog W = .ok (.bool true) W := fun W => by rw [neq_vec, decide_eq_false he]; rfl
          have HF : Hid (decide (l = m) = false) := Lib.hid (decide_eq_false (HNO.out he))
          clear he HMO HNO
          go_wp2
          go_region
          go_wp2
          go_ret
          rw [HF.out]
          exact ⟨rfl, below_drew HB.out⟩
      · obtain rfl : k = l.length := by omega
        have HF : Hid (decide (l = m) = true) := Lib.hid (decide_eq_true (by
          have h := HT.out
          rw [List.take_length, HLM.out, List.take_length] at h
          exact h))
        go_wp2
        go_ret
        rw [HF.out]
        exact ⟨rfl, HB.out⟩
  · have d1 : ((l.length : Int) != (m.length : Int)) = true := bne_iff_ne.2 (by omega)
    have HF : Hid (decide (l = m) = false) := Lib.hid (decide_eq_false (fun h => hlen (by rw [h])))
    clear hlen
    go_enter Tryz.func31, Tryz.ntmps31
    go_wp2
    go_ret
    rw [HF.out]
    exact ⟨rfl, Below.refl _ _⟩
end Go.Proofs.YtnmmhcchpcbeeaaGreat.GeW

namespace Go.Proofs.YtnmmhcchpcbeeaaGreat.GeW
open Go Go.RowKit Go.Proofs.YtnmmhcchpcbeeaaGreat.Mem Go.Proofs.YtnmmhcchpcbeeaaGreat.Ge
def exV : List EntV := exD.map fun e => ⟨e, none, 0⟩
def exCells : Array Value := (exV.flatMap entVals).toArray
theorem ex_cells : exCells = #[.int .i64 1, .string ⟨#[99, 117, 116]⟩, .int .i64 0, .int .i64 0, .int .i64 4, .int .i64 0, .int .i64 0, .int .i64 0, .int .i64 0, .int .i64 0, .int .i64 0, .int .i64 0, .bool false, .slice none 0 0,
  .int .i64 1, .string ⟨#[99, 117, 116]⟩, .int .i64 4, .int .i64 4, .int .i64 4, .int .i64 0, .int .i64 0, .int .i64 0, .int .i64 0, .int .i64 0, .int .i64 0, .int .i64 0, .bool false, .slice none 0 0,
  .int .i64 1, .string ⟨#[99, 117, 116]⟩, .int .i64 4, .int .i64 4, .int .i64 0, .int .i64 0, .int .i64 0, .int .i64 0, .int .i64 0, .int .i64 0, .int .i64 0, .int .i64 0, .bool false, .slice none 0 0] := by rfl
theorem row_block {w : World} {g : Nat} {cs : Array Value} {T : TypeId} (h : w.heap[g]? = some (.cells cs T (0, 0))) : Row w (some ⟨g, 0, none⟩) cs.toList := fun _ =>
  ⟨g, 0, rfl, (Array.getElem?_eq_some_iff.1 h).1, fun j _ => by simp [World.cell?, h]⟩
theorem ex_ents (w : World) (T : TypeId) : Ents (w.alloc (.cells exCells T)) (some ⟨w.heap.size, 0, none⟩) exV := by
  refine ⟨?_, ?_, by decide⟩
  · have := row_block (one_vec w (.cells exCells T)).2
    simpa [exCells] using this
  · intro x hx
    unfold exV at hx
    obtain ⟨e, he, rfl⟩ := List.mem_map.1 hx
    have : e.pts = [] ∧ e.layer.length = 3 := by
      simp only [exD, List.mem_cons, List.not_mem_nil, or_false] at he
      rcases he with rfl | rfl | rfl <;> exact ⟨rfl, rfl⟩
    refine ⟨by rw [this.1]; exact Row.nil _ _, by rw [this.1]; simp, by rw [this.1]; simp, by rw [this.2]; decide⟩
theorem ex_rings_any (w : World) (A : Option Addr) (h : Ents w A exV) (c : Nat) : Calls Tryz.prog 15 #[.slice A 3 c, .string ⟨#[99, 117, 116]⟩, .int .i64 1] w fun e w' => (∃ (g c : Nat) (v : Option Addr × Nat), e = .returned (.tuple #[.slice (some ⟨g, 0, none⟩) 1 c, .int .i64 0]) ∧ w'.cell? ⟨g, 0, none⟩ = some (.slice v.1 3 v.2) ∧ Row w' v.1 ([(0, 0), (4, 0), (4, 4)].flatMap ptCells)) ∧ Below w.heap.size w w' := by
  have h1 := rings_any exV A c w [99, 117, 116] 1 (fun _ => []) h (fun x hx h2 => by
    unfold exV at hx
    obtain ⟨e, he, rfl⟩ := List.mem_map.1 hx
    simp only [exD, List.mem_cons, List.not_mem_nil, or_false] at he
    rcases he with rfl | rfl | rfl <;> cases h2)
  have he : ents exV = exD := rfl
  rw [he, ex_rings] at h1
  refine h1.mono ?_
  rintro e w' ⟨⟨v, rfl, rs, hrs, how, hpts⟩, hb⟩
  refine ⟨?_, hb⟩
  have hl : rs.length = 1 := by
    have := congrArg List.length hrs
    simpa using this
  obtain ⟨r, rfl⟩ := List.length_eq_one_iff.1 hl
  obtain ⟨g, c', rfl, _⟩ := own_some how (by simp)
  have hr : r.l = [(0, 0), (4, 0), (4, 4)] := by simpa using hrs
  refine ⟨g, c', (r.A, r.k), rfl, ?_, ?_⟩
  · rw [(own_cells how 0 (by simp)).1]
    show some (rowVal r) = _
    unfold rowVal
    rw [hr]
    rfl
  · rw [← hr]
    exact (hpts r (by simp)).1.1
theorem tri_row (w : World) (T : TypeId) : Row (w.alloc (.cells #[.int .i64 0, .int .i64 0, .int .i64 4, .int .i64 0, .int .i64 4, .int .i64 4] T)) (some ⟨w.heap.size, 0, none⟩) (([(0, 0), (4, 0), (4, 4)] : List V).flatMap ptCells) :=
  row_block (one_vec w (.cells #[.int .i64 0, .int .i64 0, .int .i64 4, .int .i64 0, .int .i64 4, .int .i64 4] T)).2
set_option maxRecDepth 100000 in
set_option maxHeartbeats 1000000 in
theorem awake_any (w : World) : Calls Tryz.prog 8 #[] w fun e w' => e = .returned (.bool true) ∧ Below w.heap.size w w' := by
  have hE := ex_ents w 66
  have HB1 := Lib.hid (one_vec w (.cells exCells 66)).1
  rw [ex_cells] at hE HB1
  have HE := Lib.hid hE
  have HRA := Lib.hid (ex_rings_any _ _ hE 3)
  clear hE
  go_enter Tryz.func8, Tryz.ntmps8
  go_wp2_with fail
  refine HRA.out.mono ?_
  rintro e w2 ⟨⟨g, c, v, rfl, hc, hrow⟩, hb2⟩
  have HB2 := Lib.hid (HB1.out.trans (hb2.mono HB1.out.size))
  have HE2 := Lib.hid (HE.out.below hb2)
  have HRow := Lib.hid hrow
  have HT := Lib.hid (one_vec w2 (.cells #[.int .i64 0, .int .i64 0, .int .i64 4, .int .i64 0, .int .i64 4, .int .i64 4] 53)).1
  have HS := Lib.hid (same6_any [(0, 0), (4, 0), (4, 4)] [(0, 0), (4, 0), (4, 4)] v.1 (some ⟨w2.heap.size, 0, none⟩) v.2 3 (w2.alloc (.cells #[.int .i64 0, .int .i64 0, .int .i64 4, .int .i64 0, .int .i64 4, .int .i64 4] 53)) (HRow.out.below HT.out) (tri_row w2 _) (by decide) (by decide))
  clear hrow hb2 HE HB1 HRA
  obtain ⟨vA, vk⟩ := v
  simp only at hc
  go_wp2_with fail
  refine HS.out.mono ?_
  rintro e w4 ⟨rfl, hb4⟩
  have HB4 := Lib.hid ((HB2.out.trans (HT.out.mono HB2.out.size)).trans (hb4.mono (HB2.out.trans (HT.out.mono HB2.out.size)).size))
  have HV := Lib.hid (drawOk_any exV _ 3 w4 ((HE2.out.below HT.out).below hb4))
  clear hb4 HS HE2 HB2 HT hc
  go_wp2_with fail
  refine HV.out.mono ?_
  rintro e w5 ⟨rfl, hb5⟩
  go_wp2
  go_ret
  rw [show drawOk (ents exV) = true from ex_ok]
  exact ⟨rfl, HB4.out.trans (hb5.mono HB4.out.size)⟩
end Go.Proofs.YtnmmhcchpcbeeaaGreat.GeW

namespace Go.Proofs.YtnmmhcchpcbeeaaGreat.GeW
open Go Go.RowKit Go.Proofs.YtnmmhcchpcbeeaaGreat.Mem Go.Proofs.YtnmmhcchpcbeeaaGreat.Ge
open Go.Proofs.YtnmmhcchpcbeeaaGreat.GtW (EntsRaw FewE FewRes few_any own_all info_rentA)
attribute [local go_sem ↓] Go.wp_at_zero Go.wp_at_succ
theorem bit_test (t s : Nat) (h : t < 65536) : (Go.bits .and .i64 ((t : Int) / 2 ^ s) 1 == 1) = decide (t >>> s % 2 = 1) := by
  have e1 : (t : Int) / 2 ^ s = ((t >>> s : Nat) : Int) := by
    rw [Nat.shiftRight_eq_div_pow]
    simp
  have h2 : t >>> s < 65536 := Nat.lt_of_le_of_lt (Nat.shiftRight_le t s) h
  have key : Go.bits .and .i64 ((t >>> s : Nat) : Int) 1 = ((t >>> s % 2 : Nat) : Int) := by
    show IntKind.i64.wrap ((BitVec.ofInt 64 ((t >>> s : Nat) : Int) &&& BitVec.ofInt 64 1).toNat : Nat) = _
    rw [BitVec.ofInt_natCast, BitVec.toNat_and, BitVec.toNat_ofNat, show (BitVec.ofInt 64 1).toNat = 1 from rfl, Nat.and_one_is_mod, Nat.mod_eq_of_lt (show t >>> s < 2 ^ 64 by omega), IntKind.wrap_i64]
    omega
  rw [e1, key, Bool.eq_iff_iff, beq_iff_eq, decide_eq_true_eq]
  omega
set_option maxRecDepth 100000 in
set_option maxHeartbeats 8000000 in
theorem orderLaw_walk (es : List EntV) (A : Option Addr) (c : Nat) (L : ByteArray) (t : Nat) (w : World) (h : EntsRaw w A es) (ht : t < 65536) :
    Calls Tryz.prog 5 #[.slice A es.length c, .string L, .int .u16 (t : Int)] w fun e w' => e = .returned (.bool true) ∧ Below w.heap.size w w' := by
  obtain ⟨layer, rfl⟩ : ∃ l : List UInt8, L = ⟨l.toArray⟩ := ⟨L.data.toList, by cases L; simp⟩
  have HRW := Lib.hid h
  have hsz : (ByteArray.mk layer.toArray).size = layer.length := by simp [ByteArray.size]
  have HAW := Lib.hid (awake_any w)
  have HF := Lib.hid (fun W hW => few_any 16 es A c W hW)
  obtain ⟨i0, ia, ib, ic, id⟩ := info_parts info_rentA
  clear h
  go_enter Tryz.func5, Tryz.ntmps5
  go_wp2_with fail
  refine HAW.out.mono ?_
  rintro e w1 ⟨rfl, hb1⟩
  have HB1 := Lib.hid hb1
  have HF1 := Lib.hid (HF.out w1 (HRW.out.below hb1))
  clear hb1 HAW HF
  go_wp2_with fail
  refine HF1.out.mono ?_
  rintro e w2 ⟨⟨b, rfl, hfew⟩, hb2⟩
  have HB2 := Lib.hid (HB1.out.trans (hb2.mono HB1.out.size))
  clear hb2 HF1
  cases b
  · clear hfew
    go_wp2
    go_ret
    exact ⟨rfl, HB2.out⟩
  by_cases h40 : layer.length ≤ 40
  case neg =>
    have d40 : decide (40 < ((ByteArray.mk layer.toArray).size : Int)) = true := decide_eq_true (by omega)
    clear h40 hsz hfew
    generalize (ByteArray.mk layer.toArray) = L at *
    go_wp2
    go_ret
    exact ⟨rfl, HB2.out⟩
  have d40 : decide (40 < ((ByteArray.mk layer.toArray).size : Int)) = false := decide_eq_false (by omega)
  have HFE := Lib.hid (hfew rfl)
  have HEN := Lib.hid (HRW.out.few HFE.out (by omega))
  have hes : es.length ≤ 16 := HFE.out.2
  clear hfew h40 hsz HRW HFE
  have HSH := Lib.hid (fun (l : List EntV) (B : Option Addr) (d : Nat) (W : World) (hr : Ents W B l) (hk : ∀ x ∈ l, x.e.kind ≠ 2) => shapes_any l B d W layer 1 (fun _ => []) hr (fun x hx hk2 => absurd hk2 (hk x hx)))
  obtain ⟨LB, hLB⟩ : ∃ LB, ByteArray.mk layer.toArray = LB := ⟨_, rfl⟩
  rw [hLB] at HSH d40 ⊢
  clear hLB
  obtain ⟨z0v, _⟩ : ∃ z : EntV, z = z := ⟨⟨⟨0, [], (0, 0), (0, 0), (0, 0), (0, 0), (0, 0), false, []⟩, none, 0⟩, rfl⟩
  go_wp2_with fail
  clear d40
  go_loopw [7, 8, 9] (fun m i _ wr => ∃ (k : Nat) (mA : Option Addr) (mc : Nat), m = .slice mA k mc ∧ i = .int .i64 (k : Int) ∧ k ≤ es.length ∧ Hid (∀ i, i < k → (turnV es z0v t i).e.kind ≠ 2) ∧ Hid (wr.ownsRow w.heap.size 57 14 (.slice mA k mc) k ((lawV es z0v t k).flatMap entVals)) ∧ Hid (Below w.heap.size w wr)) (fun _ i _ _ => es.length - (intOf i).toNat)
  case atStart => exact ⟨0, none, 0, rfl, rfl, Nat.zero_le _, Lib.hid (fun i hi => absurd hi (Nat.not_lt_zero _)), Lib.hid (World.ownsRow_nil _ _ _ _), HB2⟩
  case round =>
    obtain ⟨k, mA, mc, rfl, rfl, hk, HKN, HOW, HB⟩ := hrel
    by_cases hlt : k < es.length
    · obtain ⟨j, hj⟩ : ∃ j, j = (k + t) % es.length := ⟨_, rfl⟩
      have hjl : j < es.length := by rw [hj]; exact Nat.mod_lt _ (by omega)
      have HQT := Lib.hid (turnV_get es z0v t k hj hjl)
      have hm : (((k : Int) + (t : Int))) % (es.length : Int) = (j : Int) := by rw [hj, Int.natCast_emod, show ((k + t : Nat) : Int) = ((k : Int) + (t : Int)) by omega]
      obtain ⟨g, off, rfl, hg, ca⟩ := row_get ent_len (by decide) HEN.out.1 (by omega)
      have a0 := (HB.out.cell (p := ⟨g, off + j * 14, none⟩) hg).trans (ca j hjl 0 (by decide))
      have a1 := (HB.out.cell (p := ⟨g, off + j * 14 + 1, none⟩) hg).trans (ca j hjl 1 (by decide))
      have a2 := (HB.out.cell (p := ⟨g, off + j * 14 + 2, none⟩) hg).trans (ca j hjl 2 (by decide))
      have a3 := (HB.out.cell (p := ⟨g, off + j * 14 + 3, none⟩) hg).trans (ca j hjl 3 (by decide))
      have a4 := (HB.out.cell (p := ⟨g, off + j * 14 + 4, none⟩) hg).trans (ca j hjl 4 (by decide))
      have a5 := (HB.out.cell (p := ⟨g, off + j * 14 + 5, none⟩) hg).trans (ca j hjl 5 (by decide))
      have a6 := (HB.out.cell (p := ⟨g, off + j * 14 + 6, none⟩) hg).trans (ca j hjl 6 (by decide))
      have a7 := (HB.out.cell (p := ⟨g, off + j * 14 + 7, none⟩) hg).trans (ca j hjl 7 (by decide))
      have a8 := (HB.out.cell (p := ⟨g, off + j * 14 + 8, none⟩) hg).trans (ca j hjl 8 (by decide))
      have a9 := (HB.out.cell (p := ⟨g, off + j * 14 + 9, none⟩) hg).trans (ca j hjl 9 (by decide))
      have a10 := (HB.out.cell (p := ⟨g, off + j * 14 + 10, none⟩) hg).trans (ca j hjl 10 (by decide))
      have a11 := (HB.out.cell (p := ⟨g, off + j * 14 + 11, none⟩) hg).trans (ca j hjl 11 (by decide))
      have a12 := (HB.out.cell (p := ⟨g, off + j * 14 + 12, none⟩) hg).trans (ca j hjl 12 (by decide))
      have a13 := (HB.out.cell (p := ⟨g, off + j * 14 + 13, none⟩) hg).trans (ca j hjl 13 (by decide))
      clear ca hj
      generalize es[j] = q at *
      have HL1 : Hid (lawV1 q t k = if q.e.kind = 1 ∧ t >>> (k % 8) % 2 = 1 then ⟨flipEnt q.e, q.A, q.k⟩ else q) := Lib.hid rfl
      obtain ⟨⟨kd, lay, ⟨ax, ay⟩, ⟨bx, b_y⟩, ⟨fx, fy⟩, ⟨tx, ty⟩, ⟨cx, cy⟩, cw, pts⟩, qA, qk⟩ := q
      simp only [entVals, List.getElem?_cons_zero, List.getElem?_cons_succ] at a0 a1 a2 a3 a4 a5 a6 a7 a8 a9 a10 a11 a12 a13
      simp only [flipEnt] at HL1
      have hk1 : (0 : Int) ≤ (k : Int) := by omega
      have hk2 : (k : Int) < (es.length : Int) := by omega
      have hj1 : (0 : Int) ≤ (j : Int) := by omega
      have hj2 : (j : Int) < (es.length : Int) := by omega
      have HX := Lib.hid (heap_new wr (.cells #[.int .i64 kd, .string ⟨lay.toArray⟩, .int .i64 ax, .int .i64 ay, .int .i64 bx, .int .i64 b_y, .int .i64 fx, .int .i64 fy, .int .i64 tx, .int .i64 ty, .int .i64 cx, .int .i64 cy, .bool cw, .slice qA pts.length qk] 57))
      have HBX := Lib.hid (bel1 wr (.cells #[.int .i64 kd, .string ⟨lay.toArray⟩, .int .i64 ax, .int .i64 ay, .int .i64 bx, .int .i64 b_y, .int .i64 fx, .int .i64 fy, .int .i64 tx, .int .i64 ty, .int .i64 cx, .int .i64 cy, .bool cw, .slice qA pts.length qk] 57))
      go_upto_region 10 with fail
      clear a0 a1 a2 a3 a4 a5 a6 a7 a8 a9 a10 a11 a12 a13
      generalize wr.alloc (.cells #[.int .i64 kd, .string ⟨lay.toArray⟩, .int .i64 ax, .int .i64 ay, .int .i64 bx, .int .i64 b_y, .int .i64 fx, .int .i64 fy, .int .i64 tx, .int .i64 ty, .int .i64 cx, .int .i64 cy, .bool cw, .slice qA pts.length qk] 57) = wx at *
      have HOX := Lib.hid (own_below HOW.out HBX.out)
      have HBB := Lib.hid (HB.out.trans (HBX.out.mono HB.out.size))
      have x0 := cell_of HX.out 0 _ rfl
      by_cases hkd2 : kd = 2
      · have m2 : (kd == 2) = true := beq_iff_eq.2 hkd2
        clear HL1 HQT
        go_wp2
        go_ret
        exact ⟨rfl, HBB.out⟩
      have m2 : (kd == 2) = false := beq_eq_false_iff_ne.2 hkd2
      have HKN2 : Hid (∀ i, i < k + 1 → (turnV es z0v t i).e.kind ≠ 2) := Lib.hid (fun i hi => by
        rcases Nat.lt_or_ge i k with h | h
        · exact HKN.out i h
        · rw [show i = k by omega, HQT.out]; exact hkd2)
      clear HKN
      have HKN := HKN2
      by_cases hkd1 : kd = 1
      case neg =>
        have m1 : (kd == 1) = false := beq_eq_false_iff_ne.2 hkd1
        have HLQ := Lib.hid (HL1.out.trans (if_neg (fun hh => hkd1 hh.1)))
        go_upto_region 14 with fail
        clear x0
        have z := HX.out
        have x0 := cell_of HX.out 0 _ rfl
        have x1 := cell_of HX.out 1 _ rfl
        have x2 := cell_of HX.out 2 _ rfl
        have x3 := cell_of HX.out 3 _ rfl
        have x4 := cell_of HX.out 4 _ rfl
        have x5 := cell_of HX.out 5 _ rfl
        have x6 := cell_of HX.out 6 _ rfl
        have x7 := cell_of HX.out 7 _ rfl
        have x8 := cell_of HX.out 8 _ rfl
        have x9 := cell_of HX.out 9 _ rfl
        have x10 := cell_of HX.out 10 _ rfl
        have x11 := cell_of HX.out 11 _ rfl
        have x12 := cell_of HX.out 12 _ rfl
        have x13 := cell_of HX.out 13 _ rfl
        have HOA := Lib.hid (HOX.out.alloc (.cells #[.int .i64 kd, .string ⟨lay.toArray⟩, .int .i64 ax, .int .i64 ay, .int .i64 bx, .int .i64 b_y, .int .i64 fx, .int .i64 fy, .int .i64 tx, .int .i64 ty, .int .i64 cx, .int .i64 cy, .bool cw, .slice qA pts.length qk] 57))
        have HBA := Lib.hid (HBB.out.trans ((bel1 wx (.cells #[.int .i64 kd, .string ⟨lay.toArray⟩, .int .i64 ax, .int .i64 ay, .int .i64 bx, .int .i64 b_y, .int .i64 fx, .int .i64 fy, .int .i64 tx, .int .i64 ty, .int .i64 cx, .int .i64 cy, .bool cw, .slice qA pts.length qk] 57)).mono HBB.out.size))
        have C2 : Hid (k + 1 ≤ maxLen ∧ (k + 1) * 136 ≤ 140737488355328 ∧ ∀ u ∈ ([.int .i64 kd, .string ⟨lay.toArray⟩, .int .i64 ax, .int .i64 ay, .int .i64 bx, .int .i64 b_y, .int .i64 fx, .int .i64 fy, .int .i64 tx, .int .i64 ty, .int .i64 cx, .int .i64 cy, .bool cw, .slice qA pts.length qk] : List Value), u.oneCell' = true) := Lib.hid ⟨by unfold maxLen; omega, by omega, by intro u hu; simp at hu; rcases hu with rfl | rfl | rfl | rfl | rfl | rfl | rfl | rfl | rfl | rfl | rfl | rfl | rfl | rfl <;> rfl⟩
        clear z
        go_wp2_with (at_builtin; refine wpList_append_row _ rfl _ _ 34 rfl w.heap.size 57 i0 _ 14 136 Tryz.underlying34 ia ib ic id rfl (by omega) _ _ _ rfl HOA.out (some ⟨wx.heap.size, 0, none⟩) 1 1 [.int .i64 kd, .string ⟨lay.toArray⟩, .int .i64 ax, .int .i64 ay, .int .i64 bx, .int .i64 b_y, .int .i64 fx, .int .i64 fy, .int .i64 tx, .int .i64 ty, .int .i64 cx, .int .i64 cy, .bool cw, .slice qA pts.length qk] rfl (newN_row wx [.int .i64 kd, .string ⟨lay.toArray⟩, .int .i64 ax, .int .i64 ay, .int .i64 bx, .int .i64 b_y, .int .i64 fx, .int .i64 fy, .int .i64 tx, .int .i64 ty, .int .i64 cx, .int .i64 cy, .bool cw, .slice qA pts.length qk] 57) rfl C2.out.2.2 C2.out.1 C2.out.2.1 HBA.out.size ?_)
        intro v7 w7 hown7 hg7
        obtain ⟨B7, d7, rfl, _⟩ := own_shape hown7
        have HO7 : Hid (w7.ownsRow w.heap.size 57 14 (.slice B7 (k + 1) d7) (k + 1) ((lawV es z0v t (k + 1)).flatMap entVals)) := Lib.hid (by
          rw [lawV_succ, flatMap_snoc, HQT.out, HLQ.out]
          exact hown7)
        have HB7 := Lib.hid (below_grown2 HBA.out hg7 (fun b hb => (HOA.out.lt b hb).1) HBA.out.size)
        clear hown7 hg7 HOA HBA C2 x0 x1 x2 x3 x4 x5 x6 x7 x8 x9 x10 x11 x12 x13
        go_wp2_with fail
        go_roundw
        case rel => exact ⟨k + 1, B7, d7, rfl, by go_num, hlt, HKN, HO7, HB7⟩
        case measure => simp [intOf]; omega
      case pos =>
        subst hkd1
        have m1 : ((1 : Int) == 1) = true := rfl
        by_cases hbt : t >>> (k % 8) % 2 = 1
        case neg =>
          have m3 : (Go.bits .and .i64 ((t : Int) / 2 ^ (k % 8)) 1 == 1) = false := (bit_test t (k % 8) ht).trans (decide_eq_false hbt)
          have HLQ := Lib.hid (HL1.out.trans (if_neg (fun hh => hbt hh.2)))
          go_upto_region 14 with fail
          clear x0 m3
          have z := HX.out
          have x0 := cell_of HX.out 0 _ rfl
          have x1 := cell_of HX.out 1 _ rfl
          have x2 := cell_of HX.out 2 _ rfl
          have x3 := cell_of HX.out 3 _ rfl
          have x4 := cell_of HX.out 4 _ rfl
          have x5 := cell_of HX.out 5 _ rfl
          have x6 := cell_of HX.out 6 _ rfl
          have x7 := cell_of HX.out 7 _ rfl
          have x8 := cell_of HX.out 8 _ rfl
          have x9 := cell_of HX.out 9 _ rfl
          have x10 := cell_of HX.out 10 _ rfl
          have x11 := cell_of HX.out 11 _ rfl
          have x12 := cell_of HX.out 12 _ rfl
          have x13 := cell_of HX.out 13 _ rfl
          have HOA := Lib.hid (HOX.out.alloc (.cells #[.int .i64 1, .string ⟨lay.toArray⟩, .int .i64 ax, .int .i64 ay, .int .i64 bx, .int .i64 b_y, .int .i64 fx, .int .i64 fy, .int .i64 tx, .int .i64 ty, .int .i64 cx, .int .i64 cy, .bool cw, .slice qA pts.length qk] 57))
          have HBA := Lib.hid (HBB.out.trans ((bel1 wx (.cells #[.int .i64 1, .string ⟨lay.toArray⟩, .int .i64 ax, .int .i64 ay, .int .i64 bx, .int .i64 b_y, .int .i64 fx, .int .i64 fy, .int .i64 tx, .int .i64 ty, .int .i64 cx, .int .i64 cy, .bool cw, .slice qA pts.length qk] 57)).mono HBB.out.size))
          have C2 : Hid (k + 1 ≤ maxLen ∧ (k + 1) * 136 ≤ 140737488355328 ∧ ∀ u ∈ ([.int .i64 1, .string ⟨lay.toArray⟩, .int .i64 ax, .int .i64 ay, .int .i64 bx, .int .i64 b_y, .int .i64 fx, .int .i64 fy, .int .i64 tx, .int .i64 ty, .int .i64 cx, .int .i64 cy, .bool cw, .slice qA pts.length qk] : List Value), u.oneCell' = true) := Lib.hid ⟨by unfold maxLen; omega, by omega, by intro u hu; simp at hu; rcases hu with rfl | rfl | rfl | rfl | rfl | rfl | rfl | rfl | rfl | rfl | rfl | rfl | rfl | rfl <;> rfl⟩
          clear z
          go_wp2_with (at_builtin; refine wpList_append_row _ rfl _ _ 34 rfl w.heap.size 57 i0 _ 14 136 Tryz.underlying34 ia ib ic id rfl (by omega) _ _ _ rfl HOA.out (some ⟨wx.heap.size, 0, none⟩) 1 1 [.int .i64 1, .string ⟨lay.toArray⟩, .int .i64 ax, .int .i64 ay, .int .i64 bx, .int .i64 b_y, .int .i64 fx, .int .i64 fy, .int .i64 tx, .int .i64 ty, .int .i64 cx, .int .i64 cy, .bool cw, .slice qA pts.length qk] rfl (newN_row wx [.int .i64 1, .string ⟨lay.toArray⟩, .int .i64 ax, .int .i64 ay, .int .i64 bx, .int .i64 b_y, .int .i64 fx, .int .i64 fy, .int .i64 tx, .int .i64 ty, .int .i64 cx, .int .i64 cy, .bool cw, .slice qA pts.length qk] 57) rfl C2.out.2.2 C2.out.1 C2.out.2.1 HBA.out.size ?_)
          intro v7 w7 hown7 hg7
          obtain ⟨B7, d7, rfl, _⟩ := own_shape hown7
          have HO7 : Hid (w7.ownsRow w.heap.size 57 14 (.slice B7 (k + 1) d7) (k + 1) ((lawV es z0v t (k + 1)).flatMap entVals)) := Lib.hid (by
            rw [lawV_succ, flatMap_snoc, HQT.out, HLQ.out]
            exact hown7)
          have HB7 := Lib.hid (below_grown2 HBA.out hg7 (fun b hb => (HOA.out.lt b hb).1) HBA.out.size)
          clear hown7 hg7 HOA HBA C2 x0 x1 x2 x3 x4 x5 x6 x7 x8 x9 x10 x11 x12 x13
          go_wp2_with fail
          go_roundw
          case rel => exact ⟨k + 1, B7, d7, rfl, by go_num, hlt, HKN, HO7, HB7⟩
          case measure => simp [intOf]; omega
        case pos =>
          have m3 : (Go.bits .and .i64 ((t : Int) / 2 ^ (k % 8)) 1 == 1) = true := (bit_test t (k % 8) ht).trans (decide_eq_true hbt)
          have HLQ := Lib.hid (HL1.out.trans (if_pos ⟨rfl, hbt⟩))
          have x2 := cell_of HX.out 2 _ rfl
          have x3 := cell_of HX.out 3 _ rfl
          have x4 := cell_of HX.out 4 _ rfl
          have x5 := cell_of HX.out 5 _ rfl
          have q2 := free_of HX.out 2
          have q3 := free_of HX.out 3
          have q4 := free_of HX.out 4
          have q5 := free_of HX.out 5
          have HX2 : Hid (((((wx.setCell ⟨wr.heap.size, 2, none⟩ (.int .i64 bx)).setCell ⟨wr.heap.size, 3, none⟩ (.int .i64 b_y)).setCell ⟨wr.heap.size, 4, none⟩ (.int .i64 ax)).setCell ⟨wr.heap.size, 5, none⟩ (.int .i64 ay)).heap[wr.heap.size]? = some (.cells #[.int .i64 1, .string ⟨lay.toArray⟩, .int .i64 bx, .int .i64 b_y, .int .i64 ax, .int .i64 ay, .int .i64 fx, .int .i64 fy, .int .i64 tx, .int .i64 ty, .int .i64 cx, .int .i64 cy, .bool cw, .slice qA pts.length qk] 57)) := Lib.hid (by
            have h := block_set (block_set (block_set (block_set HX.out 2 (.int .i64 bx)) 3 (.int .i64 b_y)) 4 (.int .i64 ax)) 5 (.int .i64 ay)
            simpa using h)
          have hwz : w.heap.size ≤ wr.heap.size := HB.out.size
          have HBS : Hid (Below wr.heap.size wr ((((wx.setCell ⟨wr.heap.size, 2, none⟩ (.int .i64 bx)).setCell ⟨wr.heap.size, 3, none⟩ (.int .i64 b_y)).setCell ⟨wr.heap.size, 4, none⟩ (.int .i64 ax)).setCell ⟨wr.heap.size, 5, none⟩ (.int .i64 ay))) := Lib.hid ((((HBX.out.setCell (p := ⟨wr.heap.size, 2, none⟩) (Nat.le_refl _) _).setCell (p := ⟨wr.heap.size, 3, none⟩) (Nat.le_refl _) _).setCell (p := ⟨wr.heap.size, 4, none⟩) (Nat.le_refl _) _).setCell (p := ⟨wr.heap.size, 5, none⟩) (Nat.le_refl _) _)
          have HOX2 := Lib.hid (own_below HOW.out HBS.out)
          have HBB2 := Lib.hid (HB.out.trans (HBS.out.mono HB.out.size))
          go_upto_region 14 with fail
          clear x0 x2 x3 x4 x5 q2 q3 q4 q5 m3
          generalize ((((wx.setCell ⟨wr.heap.size, 2, none⟩ (.int .i64 bx)).setCell ⟨wr.heap.size, 3, none⟩ (.int .i64 b_y)).setCell ⟨wr.heap.size, 4, none⟩ (.int .i64 ax)).setCell ⟨wr.heap.size, 5, none⟩ (.int .i64 ay)) = wy at *
          have z := HX2.out
          have x0 := cell_of HX2.out 0 _ rfl
          have x1 := cell_of HX2.out 1 _ rfl
          have x2 := cell_of HX2.out 2 _ rfl
          have x3 := cell_of HX2.out 3 _ rfl
          have x4 := cell_of HX2.out 4 _ rfl
          have x5 := cell_of HX2.out 5 _ rfl
          have x6 := cell_of HX2.out 6 _ rfl
          have x7 := cell_of HX2.out 7 _ rfl
          have x8 := cell_of HX2.out 8 _ rfl
          have x9 := cell_of HX2.out 9 _ rfl
          have x10 := cell_of HX2.out 10 _ rfl
          have x11 := cell_of HX2.out 11 _ rfl
          have x12 := cell_of HX2.out 12 _ rfl
          have x13 := cell_of HX2.out 13 _ rfl
          have HOA := Lib.hid (HOX2.out.alloc (.cells #[.int .i64 1, .string ⟨lay.toArray⟩, .int .i64 bx, .int .i64 b_y, .int .i64 ax, .int .i64 ay, .int .i64 fx, .int .i64 fy, .int .i64 tx, .int .i64 ty, .int .i64 cx, .int .i64 cy, .bool cw, .slice qA pts.length qk] 57))
          have HBA := Lib.hid (HBB2.out.trans ((bel1 wy (.cells #[.int .i64 1, .string ⟨lay.toArray⟩, .int .i64 bx, .int .i64 b_y, .int .i64 ax, .int .i64 ay, .int .i64 fx, .int .i64 fy, .int .i64 tx, .int .i64 ty, .int .i64 cx, .int .i64 cy, .bool cw, .slice qA pts.length qk] 57)).mono HBB2.out.size))
          have C2 : Hid (k + 1 ≤ maxLen ∧ (k + 1) * 136 ≤ 140737488355328 ∧ ∀ u ∈ ([.int .i64 1, .string ⟨lay.toArray⟩, .int .i64 bx, .int .i64 b_y, .int .i64 ax, .int .i64 ay, .int .i64 fx, .int .i64 fy, .int .i64 tx, .int .i64 ty, .int .i64 cx, .int .i64 cy, .bool cw, .slice qA pts.length qk] : List Value), u.oneCell' = true) := Lib.hid ⟨by unfold maxLen; omega, by omega, by intro u hu; simp at hu; rcases hu with rfl | rfl | rfl | rfl | rfl | rfl | rfl | rfl | rfl | rfl | rfl | rfl | rfl | rfl <;> rfl⟩
          clear z
          go_wp2_with (at_builtin; refine wpList_append_row _ rfl _ _ 34 rfl w.heap.size 57 i0 _ 14 136 Tryz.underlying34 ia ib ic id rfl (by omega) _ _ _ rfl HOA.out (some ⟨wy.heap.size, 0, none⟩) 1 1 [.int .i64 1, .string ⟨lay.toArray⟩, .int .i64 bx, .int .i64 b_y, .int .i64 ax, .int .i64 ay, .int .i64 fx, .int .i64 fy, .int .i64 tx, .int .i64 ty, .int .i64 cx, .int .i64 cy, .bool cw, .slice qA pts.length qk] rfl (newN_row wy [.int .i64 1, .string ⟨lay.toArray⟩, .int .i64 bx, .int .i64 b_y, .int .i64 ax, .int .i64 ay, .int .i64 fx, .int .i64 fy, .int .i64 tx, .int .i64 ty, .int .i64 cx, .int .i64 cy, .bool cw, .slice qA pts.length qk] 57) rfl C2.out.2.2 C2.out.1 C2.out.2.1 HBA.out.size ?_)
          intro v7 w7 hown7 hg7
          obtain ⟨B7, d7, rfl, _⟩ := own_shape hown7
          have HO7 : Hid (w7.ownsRow w.heap.size 57 14 (.slice B7 (k + 1) d7) (k + 1) ((lawV es z0v t (k + 1)).flatMap entVals)) := Lib.hid (by
            rw [lawV_succ, flatMap_snoc, HQT.out, HLQ.out]
            exact hown7)
          have HB7 := Lib.hid (below_grown2 HBA.out hg7 (fun b hb => (HOA.out.lt b hb).1) HBA.out.size)
          clear hown7 hg7 HOA HBA C2 x0 x1 x2 x3 x4 x5 x6 x7 x8 x9 x10 x11 x12 x13
          go_wp2_with fail
          go_roundw
          case rel => exact ⟨k + 1, B7, d7, rfl, by go_num, hlt, HKN, HO7, HB7⟩
          case measure => simp [intOf]; omega
    · obtain rfl : k = es.length := by omega
      have HKA : Hid (∀ x ∈ es, x.e.kind ≠ 2) := Lib.hid (all_turned HKN.out)
      have HKL : Hid (∀ x ∈ lawV es z0v t es.length, x.e.kind ≠ 2) := Lib.hid (fun x hx => by
        unfold lawV at hx
        obtain ⟨i, hi, rfl⟩ := List.mem_map.1 hx
        have h1 := HKN.out i (List.mem_range.1 hi)
        unfold lawV1
        split
        · exact h1
        · exact h1)
      have HLL := Lib.hid (lawV_len es z0v t es.length)
      have HEL : Hid (Ents wr mA (lawV es z0v t es.length)) := Lib.hid ⟨Row.of_own HOW.out, lawV_pts (fun h => h) (fun x hx => (HEN.out.2.1 x hx).below HB.out), by rw [HLL.out]; omega⟩
      have HLB := Lib.hid (fun e1 e2 l1 l2 => law_both (es := es) (z := z0v) (t := t) (layer := layer) HKA.out (e1 := e1) (e2 := e2) (l1 := l1) (l2 := l2))
      have HO1 := Lib.hid (own_all es A c wr (HEN.out.below HB.out) (by omega))
      have HO2 := Lib.hid (fun W hW => own_all (lawV es z0v t es.length) mA mc W hW (by rw [HLL.out]; omega))
      rw [HLL.out] at HO2
      generalize lawV es z0v t es.length = fs at *
      clear HOW HKN HEN
      go_wp2_with fail
      refine HO1.out.mono ?_
      rintro e w3 ⟨B3, d3, rfl, hen3, hb3⟩
      have HB3 := Lib.hid (HB.out.trans (hb3.mono HB.out.size))
      have HE3 := Lib.hid (HEL.out.below hb3)
      have HS3 := Lib.hid (HSH.out es B3 d3 w3 hen3 HKA.out)
      clear hen3 hb3 HO1 HEL HB
      go_wp2_with fail
      refine HS3.out.mono ?_
      rintro e w4 ⟨⟨v4, er4, ms4, rfl, ⟨A4, c4, rfl, hrow4, hin4, hl4⟩, he4, hs4⟩, hb4⟩
      have HB4 := Lib.hid (HB3.out.trans (hb4.mono HB3.out.size))
      have HO4 := Lib.hid (HO2.out w4 (HE3.out.below hb4))
      have HR4 := Lib.hid hrow4
      have HI4 := Lib.hid hin4
      have HP4 := Lib.hid he4
      have HQ4 := Lib.hid hs4
      clear hrow4 hin4 he4 hs4 hb4 HS3 HE3 HO2 HB3
      go_wp2_with fail
      refine HO4.out.mono ?_
      rintro e w5 ⟨B5, d5, rfl, hen5, hb5⟩
      have HB5 := Lib.hid (HB4.out.trans (hb5.mono HB4.out.size))
      have HS5 := Lib.hid (HSH.out fs B5 d5 w5 hen5 HKL.out)
      rw [HLL.out] at HS5
      have HR5 := Lib.hid (HR4.out.below hb5)
      have HI5 : Hid (∀ m ∈ ms4, ShapeIn w5 m) := Lib.hid (fun m hm => (HI4.out m hm).below hb5)
      clear hen5 hb5 HO4 HB4 HR4 HI4 HSH
      go_wp2_with fail
      refine HS5.out.mono ?_
      rintro e w6 ⟨⟨v6, er6, ms6, rfl, ⟨A6, c6, rfl, hrow6, hin6, _⟩, he6, hs6⟩, hb6⟩
      have HB6 := Lib.hid (HB5.out.trans (hb6.mono HB5.out.size))
      have HR6 := Lib.hid (HR5.out.below hb6)
      have HI6 : Hid (∀ m ∈ ms4, ShapeIn w6 m) := Lib.hid (fun m hm => (HI5.out m hm).below hb6)
      have HLX := HLB.out er4 er6 (ms4.map shapeOf) (ms6.map shapeOf) (fun hh => (HP4.out hh).1) HQ4.out (fun hh => (he6 hh).1) hs6
      have HN6 := Lib.hid hrow6
      have HM6 := Lib.hid hin6
      clear hrow6 hin6 he6 hs6 hb6 HS5 HB5 HR5 HI5 HP4 HQ4 HLB
      by_cases h0 : er4 = 0
      · have h1 := HLX.1.1 h0
        have h2 := HLX.2 h0
        subst h0
        subst h1
        have HSS := Lib.hid (sameShapes_eq ms4 ms6 A4 A6 c4 c6 w6 HR6.out HN6.out HI6.out HM6.out h2 hl4)
        clear HLX h2
        go_wp2_with fail
        refine HSS.out.mono ?_
        rintro e w7 ⟨rfl, hb7⟩
        go_wp2
        go_ret
        exact ⟨rfl, HB6.out.trans (hb7.mono HB6.out.size)⟩
      · have h1 : er6 ≠ 0 := fun hh => h0 (HLX.1.2 hh)
        have m4 : (er4 != 0) = true := bne_iff_ne.2 h0
        have m5 : (er4 == 0) = false := beq_eq_false_iff_ne.2 h0
        have m6 : (er6 == 0) = false := beq_eq_false_iff_ne.2 h1
        clear HLX
        go_wp2
        go_ret
        exact ⟨rfl, HB6.out⟩
/-- A row of entities, opened. -/
def EntsArg (w : World) (A : Option Addr) (len : Nat) (es : List EntV) : Prop := es.length = len ∧ EntsRaw w A es
theorem orderLaw_at (A : Option Addr) (len cap : Nat) (es : List EntV) (L : ByteArray) (t : Int) (w : World) (h : EntsArg w A len es) (ht : (Lit.int .u16 t).wf = true) :
    Calls Tryz.prog 5 #[.slice A len cap, .string L, .int .u16 t] w fun e w' => e = .returned (.bool true) ∧ Below w.heap.size w w' := by
  obtain ⟨rfl, h⟩ := h
  obtain ⟨n, rfl, hn⟩ : ∃ n : Nat, t = (n : Int) ∧ n < 65536 := by
    simp [Lit.wf, IntKind.min, IntKind.max, IntKind.signed, IntKind.bits] at ht
    exact ⟨t.toNat, by omega, by omega⟩
  exact orderLaw_walk es A cap L n w h hn
end Go.Proofs.YtnmmhcchpcbeeaaGreat.GeW

namespace Go.Proofs.YtnmmhcchpcbeeaaGreat.GeW
open Go Go.RowKit
theorem handed6 {H : Type} {enc : TypeId × Value → H} {a : Assume} {C : Checked} {os : Os} {f : FuncId} {fn : Func} {s : ChangeSpec} {conds : List PathCond} {apart fresh handsOn again : Bool}
    (own : ownKnob C.prog.godebug = none) (started : os.Started) (noInit : C.prog.inits.idxOf? f = none) (hfn : C.prog.funcs[f]? = some fn)
    (witness : ∃ (w : World) (tape : Tape) (i : Input), w.os = os ∧ (w.forCall tape i).Shaped C.prog ∧ i.vars = [] ∧ Input.okWide C.prog (w.forCall tape i) .any w.heap.size f i ∧
      s.pre6 enc C.prog fn conds apart (w.forCall tape i).memory i.args ∧ a.holds C.prog (lone (Frame.enter C.prog f i.args .normal) [] (w.forCall tape i)))
    (contract : ∀ (W : World) (base : Nat) (args : Array Value) (ds gs : List (DataW H)) (before : List MemPlace),
      (∀ (j : Nat) t v, fn.params[j]? = some t → args[j]? = some v → Value.okWide C.prog W .any base t v) →
      DataW.Whole enc C.prog fn.params.toList s.vars apart W args.toList ds gs before →
      (DataW.weightsEach C.prog (fn.params.toList ++ s.plain.varTypes C.prog) (ds ++ gs)).all (· ≤ reachBytes) = true →
      Calls C.prog f args W fun e W' => ∃ v, e = .returned v ∧ s.post enc C.prog fn apart fresh handsOn again W args v W') :
    ReturnsInHanded a C os f .any (s.pre6 enc C.prog fn conds apart) (s.post enc C.prog fn apart fresh handsOn again) := by
  refine returnsInHanded_of_calls own started noInit witness ?_
  intro w tape i _ hsh _ hok hpre _
  obtain ⟨_, _, _, fn', hfn', _, _, _, _, hval⟩ := hok
  obtain rfl : fn' = fn := Option.some.inj (hfn'.symm.trans hfn)
  obtain ⟨⟨ds, gs, before, hw, _⟩, hz⟩ := hpre
  refine (contract (w.forCall tape i) w.heap.size i.args ds gs before hval (DataW.Whole.of_heap (w' := w.forCall tape i) (by rfl) hw) (hz.weights hw)).mono fun e W' ⟨v, he, hp⟩ => ?_
  subst he
  exact ChangeSpec.post_blind hp
end Go.Proofs.YtnmmhcchpcbeeaaGreat.GeW

namespace Go.Proofs.YtnmmhcchpcbeeaaGreat.DrawingOrderDone
open Go.ChangeShapes Go.WideShapes Go.ChangeAt Go.RowKit
open Go.ChangeMaps (open_string shut_string)

theorem own : ownKnob Tryz.prog.godebug = none := by kernel_rfl
theorem laidOut : laidOutB Tryz.prog = true := by kernel_rfl

set_option maxRecDepth 100000 in
theorem lifted (os : Os) (started : os.Started) (H : Type) (enc : TypeId × Value → H) :
    ReturnsInHanded {} Tryz.checked os 5 .any (Rows.drawingOrderSpec.pre6 enc Tryz.prog Tryz.f5 Rows.drawingOrderRow.domain false) (Rows.drawingOrderSpec.post enc Tryz.prog Tryz.f5 false true false false) := by
  refine GeW.handed6 (C := Tryz.checked) own started (by kernel_rfl) Tryz.func5
    (ChangeSpec.witness6 (enc := enc) (C := Tryz.checked) false ⟨#[], #[.slice none 0 0, .string ⟨#[]⟩, .int .u16 0], []⟩ 8 (by kernel_rfl) (by kernel_rfl) (by kernel_rfl) (by kernel_rfl)) ?_
  intro W base args ds gs before hval0 hW hz0
  have hz : (DataW.weightsEach Tryz.prog (Tryz.f5.params.toList ++ Rows.drawingOrderSpec.plain.varTypes Tryz.prog) (ds ++ gs)).all (· ≤ reachBytes) = true := hz0
  have hval : ∀ (j : Nat) t v, Tryz.f5.params[j]? = some t → args[j]? = some v → Value.okWide Tryz.prog W .any base t v := hval0
  have hW' := hW
  obtain ⟨p, q, hA0, hV, rfl, hfz, hnd⟩ := hW
  have hA : DataW.TrodAll enc Tryz.prog W 0 (fun _ => true) true Tryz.f5.params.toList args.toList ds p := hA0
  rw [Tryz.params5] at hA hval hz
  obtain ⟨v0, vs0, d0, ds0, p0, q0, hargs, rfl, rfl, h0, r0⟩ := trodAll_cons hA
  obtain ⟨v1, vs1, d1, ds1, p1, q1, rfl, rfl, rfl, h1, r1⟩ := trodAll_cons r0
  obtain ⟨v2, vs2, d2, ds2, p2, q2, rfl, rfl, rfl, h2, r2⟩ := trodAll_cons r1
  obtain ⟨rfl, rfl, rfl⟩ := trodAll_nil r2
  obtain rfl : args = #[v0, v1, v2] := by cases args; simp_all
  obtain ⟨rfl, rfl⟩ := trodVars_none hV
  have k0 := h0
  have lt0 : ∀ x ∈ p0, x.block < W.heap.size := by obtain ⟨m, hm⟩ := k0; exact DataW.trod_lt m _ _ _ hm
  obtain ⟨A0, len0, cap0, rfl⟩ := okWide_slice Tryz.underlying34 (hval 0 34 v0 rfl rfl)
  obtain ⟨x0, s0⟩ := GtW.open_ents h0 (fun k hk => by simpa using List.all_eq_true.1 hz k (DataW.weights_mem_each (j := 0) rfl rfl k hk))
  obtain ⟨x1, rfl, rfl, rfl, s1⟩ := open_string Tryz.underlying9 (hval 1 9 v1 rfl rfl) h1
  obtain ⟨x2, rfl, rfl, rfl, s2⟩ := open_int Tryz.underlying51 (hval 2 51 v2 rfl rfl) h2
  clear hA0 hval0 hz0
  simp only [List.append_nil] at hW'
  refine (GeW.orderLaw_at A0 len0 cap0 x0 x1 x2 W s0 s2).mono fun e W' ⟨he, bel⟩ => ?_
  subst he
  exact ⟨_, rfl, _, _, _, [], _, [], hW', trodAll_mk1 (shut_bool Tryz.underlying4 _), (trodAll_cons_mk (Below.trod laidOut (by kernel_rfl) (of_decide_eq_true (by kernel_rfl)) k0 bel lt0) (trodAll_cons_mk (shut_string Tryz.underlying9 s1) (trodAll_cons_mk (shut_int Tryz.underlying51 s2) trodAll_mk0))), rfl, bel.frame _, fun h => by cases h⟩

theorem said : Rows.DrawingOrderSaid :=
  OpenClaim.holds_of_wide 5 Tryz.f5 rfl rfl rfl rfl rfl rfl rfl ⟨rfl, rfl, rfl, rfl, rfl⟩ rfl rfl rfl rfl rfl (by kernel_rfl) Tryz.func5 (by kernel_rfl)
    (of_decide_eq_true (by kernel_rfl)) (by unfold Func.isWrapper; first | (rw [if_pos (by decide +kernel)]; kernel_rfl) | (rw [if_neg (by decide +kernel)]; exact ⟨rfl, rfl⟩))
    (fun os started H enc _ => lifted os started H enc)
#print axioms said
end Go.Proofs.YtnmmhcchpcbeeaaGreat.DrawingOrderDone
