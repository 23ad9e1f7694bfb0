/- The law NcodeShift, walked. Conditions: the library's table of powers of ten holds what its text lays; the program lies in memory; the vector's numbers are machine numbers. -/
import Derived.Test.YtonpbomjjamphaaDoorNcL1
import Derived.Test.YtonpbomjjamphaaDoorNcAw
import Derived.Test.YtonpbomjjamphaaDoorNcW5
namespace Go.Proofs.YtonpbomjjamphaaDoor.NcW
open Go Go.RowKit Go.Proofs.YtonpbomjjamphaaDoor.Mem
attribute [local go_sem ↓] Go.wp_at_zero Go.wp_at_succ

theorem shift_yes {l : List Nc.Mv} {A : Option Addr} {c : Nat} {u v : Int} (hv : Nc.valid l = true) (hq : Nc.valid (l.map (wsh u v)) = true) (w : World) (hr : Row w A (l.flatMap mvCells)) :
    Calls Tryd.prog 11 #[.slice A l.length c, .agg #[.int .i64 u, .int .i64 v]] w fun e w' => (∃ x, e = .returned (.tuple #[x, .int .i64 0]) ∧ w'.ownsRow w.heap.size 62 3 x l.length ((l.map (wsh u v)).flatMap mvCells)) ∧ Below w.heap.size w w' :=
  (shift_any l A c u v w hr hv).mono fun e w' h => by
    unfold ShiftOut at h
    rw [hq, List.length_map] at h
    simpa using h
theorem shift_no {l : List Nc.Mv} {A : Option Addr} {c : Nat} {u v : Int} (hv : Nc.valid l = true) (hq : Nc.valid (l.map (wsh u v)) = false) (w : World) (hr : Row w A (l.flatMap mvCells)) :
    Calls Tryd.prog 11 #[.slice A l.length c, .agg #[.int .i64 u, .int .i64 v]] w fun e w' => e = .returned (.tuple #[.slice none 0 0, .int .i64 2]) ∧ Below w.heap.size w w' :=
  (shift_any l A c u v w hr hv).mono fun e w' h => by
    unfold ShiftOut at h
    rw [hq] at h
    simpa using h

set_option maxRecDepth 100000 in
set_option maxHeartbeats 2000000 in
theorem ncodeShift_good (p : List Nc.Mv) (A : Option Addr) (c : Nat) (u v : Int) (w : World) (hr : Row w A (p.flatMap mvCells)) (hl : p.length ≤ 60) (hp : Nc.valid p = true) (hu : I64 u) (hvv : I64 v) (hL : Laid w) :
    Calls Tryd.prog 3 #[.slice A p.length c, .agg #[.int .i64 u, .int .i64 v]] w fun e w' => e = .returned (.bool true) ∧ Below w.heap.size w w' := by
  have hb0 := (Below.refl w.heap.size w).alloc (Nat.le_refl _) (.cells #[.int .i64 u, .int .i64 v] 24)
  have HR := Lib.hid (hr.below hb0)
  have HL := Lib.hid (hL.below hb0)
  have HB0 := Lib.hid hb0
  have HBX := Lib.hid (heap_alloc_new w (.cells #[.int .i64 u, .int .i64 v] 24))
  have HVP := Lib.hid (fun A c W h => rvalid_any p A c W h (by omega))
  rw [hp] at HVP
  have HOWN := Lib.hid (fun A c W h => own_any p A c W h (by omega))
  have HP := Lib.hid hp
  clear hr hL hb0
  cases hq : Nc.valid (p.map (wsh u v))
  · have HSH := Lib.hid (fun A c W h => shift_no (A := A) (c := c) hp hq W h)
    clear hp hq
    go_enter Tryd.func3, Tryd.ntmps3
    go_wp2_with fail
    generalize w.alloc (.cells #[.int .i64 u, .int .i64 v] 24) = W0 at *
    refine (awake_any _ HL.out).mono ?_
    rintro e w1 ⟨rfl, hb1⟩
    go_wp2_with fail
    refine (HVP.out _ _ _ (HR.out.below hb1)).mono ?_
    rintro e w2 ⟨rfl, hb2⟩
    have hb02 := hb1.trans (hb2.mono hb1.size)
    have HR2 := Lib.hid (HR.out.below hb02)
    have HB2 := Lib.hid (HB0.out.trans (hb02.mono HB0.out.size))
    have hbz := block_lt HBX.out
    have v0 : w2.cell? ⟨w.heap.size, 0, none⟩ = some (.int .i64 u) := by rw [hb02.cell (p := ⟨w.heap.size, 0, none⟩) hbz, Lib.cell_of_heap HBX.out]; rfl
    have v1 : w2.cell? ⟨w.heap.size, 1, none⟩ = some (.int .i64 v) := by rw [hb02.cell (p := ⟨w.heap.size, 1, none⟩) hbz, Lib.cell_of_heap HBX.out]; rfl
    have hbz2 := Nat.lt_of_lt_of_le hbz hb02.size
    clear hb1 hb2 hb02
    go_wp2
    go_region_with (first
      | (go_at_call 12; refine (HOWN.out _ _ _ (HR2.out.below (below_drew (Below.refl _ _)))).mono ?_; rintro e w3 ⟨⟨v3, rfl, hown3⟩, hb3⟩; obtain ⟨A3, c3, rfl, _⟩ := own_shape hown3; have hr3 := Row.of_own hown3; have d0 := (hb3.cell (p := ⟨w.heap.size, 0, none⟩) hbz2).trans v0; have d1 := (hb3.cell (p := ⟨w.heap.size, 1, none⟩) hbz2).trans v1)
      | (go_at_call 11; refine (HSH.out _ _ _ hr3).mono ?_; rintro e w4 ⟨rfl, hb4⟩))
    all_goals (
      as_aux_lemma =>
        go_wp2
        go_ret
        exact ⟨rfl, HB2.out.trans (((below_drew (Below.refl _ _)).trans (hb3.trans (hb4.mono hb3.size))).mono HB2.out.size)⟩)
  · have HSH := Lib.hid (fun A c W h => shift_yes (A := A) (c := c) hp hq W h)
    have hback := shift_back hu hvv hp hq
    have HBK := Lib.hid (fun A c W h => shift_yes (l := p.map (wsh u v)) (A := A) (c := c) (u := wrap64 (-u)) (v := wrap64 (-v)) hq (by rw [hback]; exact hp) W h)
    rw [hback, List.length_map] at HBK
    have HS1 := Lib.hid (fun A c W h => summary_any p A c W h hp)
    have HS2 := Lib.hid (fun A c W h => summary_any (p.map (wsh u v)) A c W h hq)
    rw [List.length_map] at HS2
    have hst := stats_law hu hvv hp hq
    obtain ⟨e1, e2, e3, e4⟩ := hst
    have E4 := Lib.hid e4
    have HNEG := Lib.hid (fun W => neg_any u v W)
    have HTH := Lib.hid (fun A c W h => theirs_any p A c W h (by omega))
    have HSM := Lib.hid (fun A B c d W h1 h2 => rsame_any p p A B c d W h1 h2 (by omega) (by omega))
    rw [same_iff.2 rfl] at HSM
    have es : Hid (statV (Nc.run (p.map (wsh u v))) = .agg #[.int .i64 (Nc.run (p.map (wsh u v))).rapid, .int .i64 (Nc.run (p.map (wsh u v))).cut, .int .i64 (Nc.run p).pierces, .int .i64 (Nc.run p).joints, .int .i64 (Nc.box (Nc.run (p.map (wsh u v))).pts).lx, .int .i64 (Nc.box (Nc.run (p.map (wsh u v))).pts).ly, .int .i64 (Nc.box (Nc.run (p.map (wsh u v))).pts).hx, .int .i64 (Nc.box (Nc.run (p.map (wsh u v))).pts).hy, .bool (decide ((Nc.run p).pts.length = 0))]) := Lib.hid (by rw [e1, e2, e3]; rfl)
    have es1 : Hid (statV (Nc.run p) = .agg #[.int .i64 (Nc.run p).rapid, .int .i64 (Nc.run p).cut, .int .i64 (Nc.run p).pierces, .int .i64 (Nc.run p).joints, .int .i64 (Nc.box (Nc.run p).pts).lx, .int .i64 (Nc.box (Nc.run p).pts).ly, .int .i64 (Nc.box (Nc.run p).pts).hx, .int .i64 (Nc.box (Nc.run p).pts).hy, .bool (decide ((Nc.run p).pts.length = 0))]) := Lib.hid rfl
    rw [es.out] at HS2
    rw [es1.out] at HS1
    clear e1 e2 e3 e4 es es1 hback hp hq
    generalize (Nc.run p).rapid = p1 at *
    generalize (Nc.run p).cut = p2 at *
    generalize (Nc.run p).pierces = p3 at *
    generalize (Nc.run p).joints = p4 at *
    generalize Nc.box (Nc.run p).pts = bx1 at *
    generalize decide ((Nc.run p).pts.length = 0) = em at *
    generalize (Nc.run (p.map (wsh u v))).rapid = q1 at *
    generalize (Nc.run (p.map (wsh u v))).cut = q2 at *
    generalize Nc.box (Nc.run (p.map (wsh u v))).pts = bx2 at *
    generalize p.map (wsh u v) = q at *
    generalize wrap64 (-u) = nu at *
    generalize wrap64 (-v) = nv at *
    go_enter Tryd.func3, Tryd.ntmps3
    go_wp2_with fail
    generalize w.alloc (.cells #[.int .i64 u, .int .i64 v] 24) = W0 at *
    refine (awake_any _ HL.out).mono ?_
    rintro e w1 ⟨rfl, hb1⟩
    go_wp2_with fail
    refine (HVP.out _ _ _ (HR.out.below hb1)).mono ?_
    rintro e w2 ⟨rfl, hb2⟩
    have hb02 := hb1.trans (hb2.mono hb1.size)
    have HR2 := Lib.hid (HR.out.below hb02)
    have HB2 := Lib.hid (HB0.out.trans (hb02.mono HB0.out.size))
    have hbz := block_lt HBX.out
    have v0 : w2.cell? ⟨w.heap.size, 0, none⟩ = some (.int .i64 u) := by rw [hb02.cell (p := ⟨w.heap.size, 0, none⟩) hbz, Lib.cell_of_heap HBX.out]; rfl
    have v1 : w2.cell? ⟨w.heap.size, 1, none⟩ = some (.int .i64 v) := by rw [hb02.cell (p := ⟨w.heap.size, 1, none⟩) hbz, Lib.cell_of_heap HBX.out]; rfl
    have hbz2 := Nat.lt_of_lt_of_le hbz hb02.size
    clear hb1 hb2 hb02
    go_wp2
    go_region_with (first
      | (go_at_call 12; refine (HOWN.out _ _ _ (HR2.out.below (below_drew (Below.refl _ _)))).mono ?_; rintro e w3 ⟨⟨v3, rfl, hown3⟩, hb3⟩; obtain ⟨A3, c3, rfl, _⟩ := own_shape hown3; have hr3 := Row.of_own hown3; have d0 := (hb3.cell (p := ⟨w.heap.size, 0, none⟩) hbz2).trans v0; have d1 := (hb3.cell (p := ⟨w.heap.size, 1, none⟩) hbz2).trans v1)
      | (go_at_call 11; refine (HSH.out _ _ _ hr3).mono ?_; rintro e w4 ⟨⟨v4, rfl, hown4⟩, hb4⟩))
    all_goals (
      as_aux_lemma =>
        obtain ⟨A4, c4, rfl, _⟩ := own_shape hown4
        have HR4 := Lib.hid (Row.of_own hown4)
        have hb24 := ((below_drew (Below.refl w2.heap.size w2)).trans (hb3.trans (hb4.mono hb3.size)))
        have HP4 := Lib.hid (HR2.out.below hb24)
        have HB4 := Lib.hid (HB2.out.trans (hb24.mono HB2.out.size))
        have e0 := (hb24.cell (p := ⟨w.heap.size, 0, none⟩) hbz2).trans v0
        have e1 := (hb24.cell (p := ⟨w.heap.size, 1, none⟩) hbz2).trans v1
        have hbz4 := Nat.lt_of_lt_of_le hbz2 hb24.size
        clear v0 v1 d0 d1 hr3 hown3 hb3 hown4 hb4 hb24
        go_wp2_with fail
        refine (HNEG.out _).mono ?_
        rintro e w5 ⟨rfl, hb5⟩
        have HR5 := Lib.hid (HR4.out.below hb5)
        have HP5 := Lib.hid (HP4.out.below hb5)
        have HB5 := Lib.hid (HB4.out.trans (hb5.mono HB4.out.size))
        clear e0 e1 hb5
        go_wp2_with fail
        refine (HBK.out _ _ _ HR5.out).mono ?_
        rintro e w6 ⟨⟨v6, rfl, hown6⟩, hb6⟩
        obtain ⟨A6, c6, rfl, _⟩ := own_shape hown6
        have HK6 := Lib.hid (Row.of_own hown6)
        have HR6 := Lib.hid (HR5.out.below hb6)
        have HP6 := Lib.hid (HP5.out.below hb6)
        have HB6 := Lib.hid (HB5.out.trans (hb6.mono HB5.out.size))
        clear hown6 hb6
        go_wp2_with fail
        refine (HOWN.out _ _ _ HP6.out).mono ?_
        rintro e w7 ⟨⟨v7, rfl, hown7⟩, hb7⟩
        obtain ⟨A7, c7, rfl, _⟩ := own_shape hown7
        have HO7 := Lib.hid (Row.of_own hown7)
        have HK7 := Lib.hid (HK6.out.below hb7)
        have HR7 := Lib.hid (HR6.out.below hb7)
        have HP7 := Lib.hid (HP6.out.below hb7)
        have HB7 := Lib.hid (HB6.out.trans (hb7.mono HB6.out.size))
        clear hown7 hb7
        go_wp2_with fail
        refine (HS1.out _ _ _ HO7.out).mono ?_
        rintro e w8 ⟨rfl, hb8⟩
        have hba := hb8.alloc hb8.size (.cells #[.int .i64 p1, .int .i64 p2, .int .i64 p3, .int .i64 p4, .int .i64 bx1.lx, .int .i64 bx1.ly, .int .i64 bx1.hx, .int .i64 bx1.hy, .bool em] 36)
        have HK8 := Lib.hid (HK7.out.below hba)
        have HR8 := Lib.hid (HR7.out.below hba)
        have HP8 := Lib.hid (HP7.out.below hba)
        have HB8 := Lib.hid (HB7.out.trans (hba.mono HB7.out.size))
        have HX8 := Lib.hid (heap_alloc_new w8 (.cells #[.int .i64 p1, .int .i64 p2, .int .i64 p3, .int .i64 p4, .int .i64 bx1.lx, .int .i64 bx1.ly, .int .i64 bx1.hx, .int .i64 bx1.hy, .bool em] 36))
        clear hb8 hba
        go_wp2_with fail
        generalize w8.alloc (.cells #[.int .i64 p1, .int .i64 p2, .int .i64 p3, .int .i64 p4, .int .i64 bx1.lx, .int .i64 bx1.ly, .int .i64 bx1.hx, .int .i64 bx1.hy, .bool em] 36) = W8 at *
        generalize hxa : w8.heap.size = xa at *
        have HXA := Lib.hid hxa
        clear hxa
        refine (HS2.out _ _ _ HR8.out).mono ?_
        rintro e w9 ⟨rfl, hb9⟩
        have hba := hb9.alloc hb9.size (.cells #[.int .i64 q1, .int .i64 q2, .int .i64 p3, .int .i64 p4, .int .i64 bx2.lx, .int .i64 bx2.ly, .int .i64 bx2.hx, .int .i64 bx2.hy, .bool em] 36)
        have HK9 := Lib.hid (HK8.out.below hba)
        have HP9 := Lib.hid (HP8.out.below hba)
        have HB9 := Lib.hid (HB8.out.trans (hba.mono HB8.out.size))
        have HX9 := Lib.hid ((hba.block xa (block_lt HX8.out)).trans HX8.out)
        have HY9 := Lib.hid (heap_alloc_new w9 (.cells #[.int .i64 q1, .int .i64 q2, .int .i64 p3, .int .i64 p4, .int .i64 bx2.lx, .int .i64 bx2.ly, .int .i64 bx2.hx, .int .i64 bx2.hy, .bool em] 36))
        clear hb9 hba
        go_wp2_with fail
        generalize w9.alloc (.cells #[.int .i64 q1, .int .i64 q2, .int .i64 p3, .int .i64 p4, .int .i64 bx2.lx, .int .i64 bx2.ly, .int .i64 bx2.hx, .int .i64 bx2.hy, .bool em] 36) = W9 at *
        generalize hxb : w9.heap.size = xb at *
        have HXB := Lib.hid hxb
        clear hxb
        refine (HTH.out _ _ _ HK9.out).mono ?_
        rintro e wa ⟨⟨va, rfl, howna⟩, hba⟩
        obtain ⟨Aa, ca, rfl, _⟩ := own_shape howna
        have HKa := Lib.hid (Row.of_own howna)
        have HPa := Lib.hid (HP9.out.below hba)
        have HBa := Lib.hid (HB9.out.trans (hba.mono HB9.out.size))
        have HXa := Lib.hid ((hba.block xa (block_lt HX9.out)).trans HX9.out)
        have HYa := Lib.hid ((hba.block xb (block_lt HY9.out)).trans HY9.out)
        clear howna hba
        go_wp2_with fail
        refine (HSM.out _ _ _ _ _ HKa.out HPa.out).mono ?_
        rintro e wb ⟨rfl, hbb⟩
        have HPb := Lib.hid (HPa.out.below hbb)
        have HBb := Lib.hid (HBa.out.trans (hbb.mono HBa.out.size))
        have hxb := (hbb.block xa (block_lt HXa.out)).trans HXa.out
        have hyb := (hbb.block xb (block_lt HYa.out)).trans HYa.out
        have x1 : wb.cell? ⟨xa, 1, none⟩ = some (.int .i64 p2) := by rw [Lib.cell_of_heap hxb]; rfl
        have x2 : wb.cell? ⟨xa, 2, none⟩ = some (.int .i64 p3) := by rw [Lib.cell_of_heap hxb]; rfl
        have x3 : wb.cell? ⟨xa, 3, none⟩ = some (.int .i64 p4) := by rw [Lib.cell_of_heap hxb]; rfl
        have x8 : wb.cell? ⟨xa, 8, none⟩ = some (.bool em) := by rw [Lib.cell_of_heap hxb]; rfl
        have y1 : wb.cell? ⟨xb, 1, none⟩ = some (.int .i64 q2) := by rw [Lib.cell_of_heap hyb]; rfl
        have y2 : wb.cell? ⟨xb, 2, none⟩ = some (.int .i64 p3) := by rw [Lib.cell_of_heap hyb]; rfl
        have y3 : wb.cell? ⟨xb, 3, none⟩ = some (.int .i64 p4) := by rw [Lib.cell_of_heap hyb]; rfl
        have y8 : wb.cell? ⟨xb, 8, none⟩ = some (.bool em) := by rw [Lib.cell_of_heap hyb]; rfl
        clear hxb hyb hbb
        rcases p with _ | ⟨m, r⟩
        · go_wp2
          go_ret
          exact ⟨rfl, HBb.out⟩
        · obtain ⟨g, off, rfl, hg, ca⟩ := row_get mv_len (by decide) HPb.out (by simp)
          have a0 := ca 0 (by simp) 0 (by decide)
          simp only [List.getElem_cons_zero, mvCells, List.getElem?_cons_zero, Nat.add_zero, Nat.zero_mul] at a0
          clear ca
          have E5 := Lib.hid (E4.out m r rfl)
          have hl1 : (0 : Int) < ((r.length + 1 : Nat) : Int) := by omega
          have hl2 : ((((r.length + 1 : Nat) : Int)) == 0) = false := beq_eq_false_iff_ne.2 (by omega)
          by_cases k1 : m.k = 1
          · have e5 := E5.out k1
            subst e5
            rw [k1] at a0
            clear k1
            go_wp2
            go_ret
            first | exact ⟨rfl, HBb.out⟩ | exact ⟨ret_bool (by simp), HBb.out⟩
          · have hk1 : (m.k != 1) = true := by simp [k1]
            clear k1
            go_wp2
            go_ret
            exact ⟨rfl, HBb.out⟩)

set_option maxRecDepth 100000 in
set_option maxHeartbeats 2000000 in
theorem ncodeShift_walk (A : Option Addr) (len c : Nat) (p : List Nc.Mv) (u v : Int) (w : World) (hx : p.length = len ∧ (∀ m ∈ p, True) ∧ Row w A (p.flatMap mvCells) ∧ len ≤ maxLen ∧ len ≤ c) (hu : I64 u ∧ I64 v) (hL : Laid w) :
    Calls Tryd.prog 3 #[.slice A len c, .agg #[.int .i64 u, .int .i64 v]] w fun e w' => e = .returned (.bool true) ∧ Below w.heap.size w w' := by
  obtain ⟨rfl, _, hr, hml, _⟩ := hx
  unfold maxLen at hml
  by_cases hl : p.length ≤ 60
  · cases hp : Nc.valid p
    · have hb0 := (Below.refl w.heap.size w).alloc (Nat.le_refl _) (.cells #[.int .i64 u, .int .i64 v] 24)
      have HR := Lib.hid (hr.below hb0)
      have HL := Lib.hid (hL.below hb0)
      have HB0 := Lib.hid hb0
      have HVP := Lib.hid (fun A c W h => rvalid_any p A c W h (by omega))
      rw [hp] at HVP
      clear hr hL hb0 hp
      go_enter Tryd.func3, Tryd.ntmps3
      go_wp2_with fail
      refine (awake_any _ HL.out).mono ?_
      rintro e w1 ⟨rfl, hb1⟩
      go_wp2_with fail
      refine (HVP.out _ _ _ (HR.out.below hb1)).mono ?_
      rintro e w2 ⟨rfl, hb2⟩
      go_wp2
      go_ret
      exact ⟨rfl, HB0.out.trans ((hb1.trans (hb2.mono hb1.size)).mono HB0.out.size)⟩
    · exact ncodeShift_good p A c u v w hr hl hp hu.1 hu.2 hL
  · have hb0 := (Below.refl w.heap.size w).alloc (Nat.le_refl _) (.cells #[.int .i64 u, .int .i64 v] 24)
    have HL := Lib.hid (hL.below hb0)
    have HB0 := Lib.hid hb0
    clear hr hL hb0
    go_enter Tryd.func3, Tryd.ntmps3
    go_wp2_with fail
    refine (awake_any _ HL.out).mono ?_
    rintro e w1 ⟨rfl, hb1⟩
    go_wp2
    go_ret
    exact ⟨rfl, HB0.out.trans (hb1.mono HB0.out.size)⟩
end Go.Proofs.YtonpbomjjamphaaDoor.NcW
