/- Walk: the reference's Wrong. Conditions: the system is little; the tree is well formed; they lie in memory. -/
import Derived.Test.YtjjohllfidmkjaaDoorPfP3
import Derived.Test.YtjjohllfidmkjaaDoorPfY2
import Derived.Test.YtjjohllfidmkjaaDoorMem2
namespace Go.Proofs.YtjjohllfidmkjaaDoor.PfW
open Go Go.RowKit Go.Proofs.YtjjohllfidmkjaaDoor.Mem Go.Proofs.YtjjohllfidmkjaaDoor.Pf
attribute [local go_sem ↓] Go.wp_at_zero Go.wp_at_succ

def WrongRet (p : Option (List Nat)) (w : World) (e : Ending) (w' : World) : Prop :=
  Below w.heap.size w w' ∧ match p with
    | none => e = .returned (.tuple #[.slice none 0 0, .bool false])
    | some l => ∃ B d, e = .returned (.tuple #[.slice B l.length d, .bool true]) ∧ Row w' B (natCells l)
theorem cell14 {w : World} {g : Nat} {x0 x1 x2 x3 x4 x5 x6 y0 y1 y2 y3 y4 y5 y6 : Value} {t : TypeId} (h : w.heap[g]? = some (.cells #[x0, x1, x2, x3, x4, x5, x6, y0, y1, y2, y3, y4, y5, y6] t (0, 0))) :
    (w.cell? ⟨g, 0, none⟩ = some x0 ∧ w.cell? ⟨g, 1, none⟩ = some x1 ∧ w.cell? ⟨g, 2, none⟩ = some x2 ∧ w.cell? ⟨g, 3, none⟩ = some x3 ∧ w.cell? ⟨g, 4, none⟩ = some x4 ∧ w.cell? ⟨g, 5, none⟩ = some x5 ∧ w.cell? ⟨g, 6, none⟩ = some x6) ∧
    (w.cell? ⟨g, 7, none⟩ = some y0 ∧ w.cell? ⟨g, 8, none⟩ = some y1 ∧ w.cell? ⟨g, 9, none⟩ = some y2 ∧ w.cell? ⟨g, 10, none⟩ = some y3 ∧ w.cell? ⟨g, 11, none⟩ = some y4 ∧ w.cell? ⟨g, 12, none⟩ = some y5 ∧ w.cell? ⟨g, 13, none⟩ = some y6) := by
  refine ⟨⟨?_, ?_, ?_, ?_, ?_, ?_, ?_⟩, ⟨?_, ?_, ?_, ?_, ?_, ?_, ?_⟩⟩ <;> simp [World.cell?, h]
theorem all_mk {s : Int} {ks : List T} {lf : List Int} (h : allB (.mk s ks lf) = true) : nodeB s ks.length lf = true ∧ allL ks = true := by
  rw [allB, Bool.and_eq_true] at h
  exact h
theorem node_split {s : Int} {kn : Nat} {lf : List Int} (h : nodeB s kn lf = true) : -1073741824 ≤ s ∧ s ≤ 1073741824 := by
  unfold nodeB at h
  split at h
  · simp only [Bool.and_eq_true, smallB, decide_eq_true_eq] at h
    omega
  · simp only [Bool.and_eq_true, decide_eq_true_eq] at h
    omega
theorem all_two {a b : T} (h : allL [a, b] = true) : allB a = true ∧ allB b = true := by
  unfold allL at h
  rw [Bool.and_eq_true] at h
  obtain ⟨h1, h2⟩ := h
  unfold allL at h2
  rw [Bool.and_eq_true] at h2
  exact ⟨h1, h2.1⟩
theorem nat_cell (l : List Nat) : ∀ u ∈ natCells l, u.oneCell' = true := by
  intro u hu
  simp only [natCells, intCells, List.mem_map] at hu
  obtain ⟨x, _, rfl⟩ := hu
  rfl
theorem info_int : (Tryd.prog.info? 3).map (fun i => (i.zero, i.size, i.bytes)) = some (some (.int .i64 0), 1, 8) := by kernel_rfl
set_option maxRecDepth 100000 in
set_option maxHeartbeats 4000000 in
theorem rwrong_any : ∀ (n : Nat) (t : T), nodes t ≤ n → Fit t → allB t = true → ∀ (y : Syst) (S : Nat → Prop) (vs : List Value) (A : Option Addr) (cp : Nat) (w : World), Little y → TreeIn S w t vs → Row w A (y.rows.flatMap r4Cells) →
    Calls Tryd.prog 17 #[sysV y A cp, .agg vs.toArray] w (WrongRet (wrong t y) w)
  | 0, .mk s ks lf, h, _, _, _, _, _, _, _, _, _, _, _ => by unfold nodes at h; omega
  | n + 1, .mk s ks lf, h, hf, hal, y, S, vs, A, cp, w, hy, ht, hrow => by
    have IH := Lib.hid (rwrong_any n)
    unfold TreeIn at ht
    obtain ⟨K, kc, B, d, ws, rfl, hc, hd, hr, hk, hlf⟩ := ht
    have hnk : nodes (.mk s ks lf) = 1 + nodesL ks := by rw [nodes]
    rw [hnk] at h
    obtain ⟨hfl, hfl2, hfk⟩ := hf.mk'
    obtain ⟨hnd, hak⟩ := all_mk hal
    obtain ⟨hs1, hs2⟩ := node_split hnd
    unfold sysV
    by_cases h0 : ks.length = 0
    · obtain rfl : ks = [] := List.eq_nil_of_length_eq_zero h0
      have HBB := Lib.hid (two_boxes w (.cells #[.int .i64 y.l0, .int .i64 y.l1, .int .i64 y.l2, .int .i64 y.h0, .int .i64 y.h1, .int .i64 y.h2, .slice A y.rows.length cp] 25) (.cells #[.int .i64 s, .slice K ([] : List T).length kc, .slice B lf.length d] 29))
      have HP := Lib.hid (proves_any y lf A B cp d _ hy.box hy.num (by have := hy.len; omega) (hrow.below HBB.out.1) (hlf.row.below HBB.out.1) hfl2)
      unfold sysV at HP
      rw [wrong_leaf]
      clear hrow hlf hr hk hnd hak hal hf hfk IH h h0 hnk
      generalize proves y lf = b at *
      cases b
      all_goals
        go_enter Tryd.func17, Tryd.ntmps17
        go_wp2_with fail
        refine HP.out.mono ?_
        rintro e w2 ⟨rfl, hb2⟩
        go_wp2
        go_ret2
      · exact ⟨HBB.out.1.trans (hb2.mono HBB.out.1.size), none, 0, rfl, Row.nil _ _⟩
      · exact ⟨HBB.out.1.trans (hb2.mono HBB.out.1.size), rfl⟩
    · have HBB := Lib.hid (two_boxes w (.cells #[.int .i64 y.l0, .int .i64 y.l1, .int .i64 y.l2, .int .i64 y.h0, .int .i64 y.h1, .int .i64 y.h2, .slice A y.rows.length cp] 25) (.cells #[.int .i64 s, .slice K ks.length kc, .slice B lf.length d] 29))
      have HP := Lib.hid (parts_any y s A cp ((w.alloc (.cells #[.int .i64 y.l0, .int .i64 y.l1, .int .i64 y.l2, .int .i64 y.h0, .int .i64 y.h1, .int .i64 y.h2, .slice A y.rows.length cp] 25)).alloc (.cells #[.int .i64 s, .slice K ks.length kc, .slice B lf.length d] 29)) (by omega) (by omega) hy.box)
      unfold sysV at HP
      have q0 : ((ks.length : Int) == 0) = false := by rw [beq_eq_false_iff_ne]; omega
      cases hp : parts y s with
      | none =>
        rw [wrong_none h0 hp]
        rw [hp] at HP
        clear hrow hlf hr hk hnd hak hal hf hfk IH h h0 hnk hp
        go_enter Tryd.func17, Tryd.ntmps17
        go_wp2_with fail
        refine HP.out.mono ?_
        rintro e w2 ⟨rfl, hb2⟩
        go_wp2
        go_ret2
        exact ⟨HBB.out.1.trans (hb2.mono HBB.out.1.size), none, 0, rfl, Row.nil _ _⟩
      | some x =>
        obtain ⟨a, b⟩ := x
        rw [hp] at HP
        by_cases h2 : ks.length = 2
        · obtain ⟨k0, k1, rfl⟩ := two_kids h2
          rw [wrong_two hp]
          obtain ⟨hla, hlb, _, _, era, erb⟩ := parts_little hp hy
          obtain ⟨ha0, ha1⟩ := all_two hak
          have hn : nodesL [k0, k1] = nodes k0 + (nodes k1 + 0) := by simp [nodesL]
          have HK := Lib.hid (fun W (hb : Below w.heap.size w W) => kid_cells hr hk hb (k := 0) (by simp))
          have HK2 := Lib.hid (fun W (hb : Below w.heap.size w W) => kid_cells hr hk hb (k := 1) (by simp))
          have HR := Lib.hid hrow
          have HW0 := Lib.hid (IH.out k0 (by omega) (hfk.get 0 (by simp)) ha0 a S)
          have HW1 := Lib.hid (IH.out k1 (by omega) (hfk.get 1 (by simp)) ha1 b S)
          have hlen0 := fun p h => wrong_len (nodes k0) k0 (Nat.le_refl _) a p hla h
          have hlen1 := fun p h => wrong_len (nodes k1) k1 (Nat.le_refl _) b p hlb h
          have hsa := side_le hla.box
          have hsb := side_le hlb.box
          have HLA := Lib.hid hla
          have HLB := Lib.hid hlb
          have HERA := Lib.hid era
          have HERB := Lib.hid erb
          have HL0 := Lib.hid hlen0
          have HL1 := Lib.hid hlen1
          unfold sysV at HW0 HW1
          have q2 : (2 != (2 : Int)) = false := by simp
          obtain ⟨i0, ia, ib, ic, id⟩ := info_parts info_int
          clear hrow hlf hr hk hnd hak hal hf hfk IH h h0 hnk hp h2 hn ha0 ha1 hla hlb era erb hlen0 hlen1 q0
          have q0 : ((([k0, k1] : List T).length : Int) == 0) = false := by rfl
          cases hw0 : wrong k0 a with
          | some q =>
            rw [hw0] at HW0
            have hq := HL0.out q hw0
            simp only
            go_enter Tryd.func17, Tryd.ntmps17
            go_wp2_with fail
            refine HP.out.mono ?_
            rintro e w2 ⟨gl, rfl, hg, hgw, hb2⟩
            have HT := Lib.hid (hb2.block _ (lt_of_block HBB.out.2.2) |>.trans HBB.out.2.2)
            have HG := Lib.hid hg
            obtain ⟨t0, t1, t2⟩ := cell3 HT.out
            have HB2 := Lib.hid (HBB.out.1.trans (hb2.mono HBB.out.1.size))
            obtain ⟨gk, ofk, xs, xA, xn, xc, xB, xm, xd, ek, HTK, c0, c1, c2⟩ := HK.out w2 HB2.out
            subst ek
            rw [Nat.zero_mul, Nat.add_zero] at c0 c1 c2
            obtain ⟨⟨z0, z1, z2, z3, z4, z5, z6⟩, _⟩ := cell14 HG.out
            have HTK0 := Lib.hid HTK
            have hzg := lt_of_block HG.out
            have hzt := lt_of_block HT.out
            clear hb2 hg HTK HP
            go_wp2
            refine wp_loop_rounds 3 ?_
            rw [rounds_succ]
            have hgk := World.block_lt_of_cell? w2 _ c0
            have HRW := Lib.hid (HR.out.below HB2.out)
            go_wp2_with fail
            go_region_held3 (fun w' => w'.cell? ⟨gl, 0, none⟩ = some (.int .i64 a.l0) ∧ w'.cell? ⟨gl, 1, none⟩ = some (.int .i64 a.l1) ∧ w'.cell? ⟨gl, 2, none⟩ = some (.int .i64 a.l2) ∧ w'.cell? ⟨gl, 3, none⟩ = some (.int .i64 a.h0) ∧ w'.cell? ⟨gl, 4, none⟩ = some (.int .i64 a.h1) ∧ w'.cell? ⟨gl, 5, none⟩ = some (.int .i64 a.h2) ∧ w'.cell? ⟨gl, 6, none⟩ = some (.slice A a.rows.length cp) ∧ w'.cell? ⟨w.heap.size + 1, 1, none⟩ = some (.slice (some ⟨gk, ofk, none⟩) 2 kc) ∧ w'.cell? ⟨gk, ofk, none⟩ = some (.int .i64 xs) ∧ w'.cell? ⟨gk, ofk + 1, none⟩ = some (.slice xA xn xc) ∧ w'.cell? ⟨gk, ofk + 2, none⟩ = some (.slice xB xm xd)) (first | go_keep) ((go_at_call 17; refine (HW0.out _ _ _ _ HLA.out (HTK0.out.below (below_drew (Below.refl _ _))) (by rw [HERA.out]; exact HRW.out.below (below_drew (Below.refl _ _)))).mono ?_; rintro e w3 ⟨hb3, B3, d3, rfl, hr3⟩; have hb3' : Below w2.heap.size w2 w3 := (below_drew (Below.refl _ _)).trans (hb3.mono (Nat.le_of_eq rfl)); have k0 := (hb3'.cell (p := ⟨gl, 0, none⟩) hzg).trans z0; have k1 := (hb3'.cell (p := ⟨gl, 1, none⟩) hzg).trans z1; have k2 := (hb3'.cell (p := ⟨gl, 2, none⟩) hzg).trans z2; have k3 := (hb3'.cell (p := ⟨gl, 3, none⟩) hzg).trans z3; have k4 := (hb3'.cell (p := ⟨gl, 4, none⟩) hzg).trans z4; have k5 := (hb3'.cell (p := ⟨gl, 5, none⟩) hzg).trans z5; have k6 := (hb3'.cell (p := ⟨gl, 6, none⟩) hzg).trans z6; have k7 := (hb3'.cell (p := ⟨w.heap.size + 1, 1, none⟩) hzt).trans t1; have k8 := (hb3'.cell (p := ⟨gk, ofk, none⟩) hgk).trans c0; have k9 := (hb3'.cell (p := ⟨gk, ofk + 1, none⟩) hgk).trans c1; have k10 := (hb3'.cell (p := ⟨gk, ofk + 2, none⟩) hgk).trans c2))
            have HB3 := Lib.hid (HB2.out.trans (hb3'.mono HB2.out.size))
            have HRR := Lib.hid hr3
            clear hr3 hb3 hb3' HTK0 HT HG t0 t1 t2 c0 c1 c2 z0 z1 z2 z3 z4 z5 z6 k0 k1 k2 k3 k4 k5 k6 k7 k8 k9 k10 hw0
            have hql : q.length ≤ 27 := by omega
            have HR3 := Lib.hid (HRR.out.below ((Below.refl w3.heap.size w3).alloc (Nat.le_refl _) (.cells #[.int .i64 0] 3)))
            have HOWN := Lib.hid (World.ownsRow_lit (base := w3.heap.size) (e := 3) (size := 1) w3 #[.int .i64 0] 1 (Nat.le_refl _) (by decide) rfl)
            have HBF := Lib.hid (HB3.out.alloc HB3.out.size (.cells #[.int .i64 0] 3))
            go_wp2_with (at_builtin; refine wpList_append_row _ rfl _ _ 27 rfl w3.heap.size 3 i0 _ 1 8 Tryd.underlying27 ia ib ic id rfl (by omega) _ _ _ rfl HOWN.out B3 q.length d3 (natCells q) rfl HR3.out (by rw [nat_len]; omega) (nat_cell _) ?cc0 ?cd0 ?ce0 ?_)
            case cc0 => unfold maxLen; omega
            case cd0 => omega
            intro v5 w5 hown5 hgrow5
            have HB5 : Hid (Below w.heap.size w w5) := Lib.hid (HBF.out.grown hgrow5 HBF.out.size (fun x hx => by have := (HOWN.out.lt x hx).1; have := HB3.out.size; omega))
            obtain ⟨A5, c5, rfl, hc5⟩ := own_shape hown5
            have HR5 := Lib.hid (Row.of_own hown5)
            clear hgrow5 hown5
            go_wp2
            go_ret2
            refine ⟨HB5.out, A5, c5, ?_, ?_⟩
            · simp [Nat.add_comm]
            · simpa [natCells, intCells, ints] using HR5.out
          | none =>
            cases hw1 : wrong k1 b with
            | some q =>
              rw [hw1] at HW1
              have hq := HL1.out q hw1
              rw [hw0] at HW0
              simp only
              go_enter Tryd.func17, Tryd.ntmps17
              go_wp2_with fail
              refine HP.out.mono ?_
              rintro e w2 ⟨gl, rfl, hg, hgw, hb2⟩
              have HT := Lib.hid (hb2.block _ (lt_of_block HBB.out.2.2) |>.trans HBB.out.2.2)
              have HG := Lib.hid hg
              obtain ⟨t0, t1, t2⟩ := cell3 HT.out
              have HB2 := Lib.hid (HBB.out.1.trans (hb2.mono HBB.out.1.size))
              obtain ⟨gk, ofk, xs, xA, xn, xc, xB, xm, xd, ek, HTK, c0, c1, c2⟩ := HK.out w2 HB2.out
              subst ek
              rw [Nat.zero_mul, Nat.add_zero] at c0 c1 c2
              obtain ⟨⟨z0, z1, z2, z3, z4, z5, z6⟩, _⟩ := cell14 HG.out
              have HTK0 := Lib.hid HTK
              have hzg := lt_of_block HG.out
              have hzt := lt_of_block HT.out
              clear hb2 hg HTK HP
              go_wp2
              refine wp_loop_rounds 3 ?_
              rw [rounds_succ]
              have hgk := World.block_lt_of_cell? w2 _ c0
              have HRW := Lib.hid (HR.out.below HB2.out)
              go_wp2_with fail
              go_region_held3 (fun w' => w'.cell? ⟨gl, 0, none⟩ = some (.int .i64 a.l0) ∧ w'.cell? ⟨gl, 1, none⟩ = some (.int .i64 a.l1) ∧ w'.cell? ⟨gl, 2, none⟩ = some (.int .i64 a.l2) ∧ w'.cell? ⟨gl, 3, none⟩ = some (.int .i64 a.h0) ∧ w'.cell? ⟨gl, 4, none⟩ = some (.int .i64 a.h1) ∧ w'.cell? ⟨gl, 5, none⟩ = some (.int .i64 a.h2) ∧ w'.cell? ⟨gl, 6, none⟩ = some (.slice A a.rows.length cp) ∧ w'.cell? ⟨w.heap.size + 1, 1, none⟩ = some (.slice (some ⟨gk, ofk, none⟩) 2 kc) ∧ w'.cell? ⟨gk, ofk, none⟩ = some (.int .i64 xs) ∧ w'.cell? ⟨gk, ofk + 1, none⟩ = some (.slice xA xn xc) ∧ w'.cell? ⟨gk, ofk + 2, none⟩ = some (.slice xB xm xd)) (first | go_keep) ((go_at_call 17; refine (HW0.out _ _ _ _ HLA.out (HTK0.out.below (below_drew (Below.refl _ _))) (by rw [HERA.out]; exact HRW.out.below (below_drew (Below.refl _ _)))).mono ?_; rintro e w3 ⟨hb3, rfl⟩; have hb3' : Below w2.heap.size w2 w3 := (below_drew (Below.refl _ _)).trans (hb3.mono (Nat.le_of_eq rfl)); have k0 := (hb3'.cell (p := ⟨gl, 0, none⟩) hzg).trans z0; have k1 := (hb3'.cell (p := ⟨gl, 1, none⟩) hzg).trans z1; have k2 := (hb3'.cell (p := ⟨gl, 2, none⟩) hzg).trans z2; have k3 := (hb3'.cell (p := ⟨gl, 3, none⟩) hzg).trans z3; have k4 := (hb3'.cell (p := ⟨gl, 4, none⟩) hzg).trans z4; have k5 := (hb3'.cell (p := ⟨gl, 5, none⟩) hzg).trans z5; have k6 := (hb3'.cell (p := ⟨gl, 6, none⟩) hzg).trans z6; have k7 := (hb3'.cell (p := ⟨w.heap.size + 1, 1, none⟩) hzt).trans t1; have k8 := (hb3'.cell (p := ⟨gk, ofk, none⟩) hgk).trans c0; have k9 := (hb3'.cell (p := ⟨gk, ofk + 1, none⟩) hgk).trans c1; have k10 := (hb3'.cell (p := ⟨gk, ofk + 2, none⟩) hgk).trans c2))
              have HT3 := Lib.hid (hb3'.block _ (lt_of_block HT.out) |>.trans HT.out)
              have HG3 := Lib.hid (hb3'.block _ (lt_of_block HG.out) |>.trans HG.out)
              have HB3 := Lib.hid (HB2.out.trans (hb3'.mono HB2.out.size))
              clear hb3 hb3' HTK0 HT HG t0 t1 t2 c0 c1 c2 z0 z1 z2 z3 z4 z5 z6 k0 k1 k2 k3 k4 k5 k6 k7 k8 k9 k10 hgk hzg hzt hw0 hw1 HRW
              obtain ⟨gk2, ofk2, xs2, xA2, xn2, xc2, xB2, xm2, xd2, ek2, HTK2, c0, c1, c2⟩ := HK2.out w3 HB3.out
              cases ek2
              rw [Nat.one_mul] at c0 c1 c2
              obtain ⟨_, z0, z1, z2, z3, z4, z5, z6⟩ := cell14 HG3.out
              obtain ⟨t0, t1, t2⟩ := cell3 HT3.out
              have HTK1 := Lib.hid HTK2
              have hzg2 := lt_of_block HG3.out
              have hzt2 := lt_of_block HT3.out
              have hgk2 := World.block_lt_of_cell? w3 _ c0
              have HRX := Lib.hid (HR.out.below HB3.out)
              clear HTK2
              go_wp2
              rw [rounds_succ]
              go_wp2_with fail
              go_region_held3 (fun w' => w'.cell? ⟨gl, 7, none⟩ = some (.int .i64 b.l0) ∧ w'.cell? ⟨gl, 8, none⟩ = some (.int .i64 b.l1) ∧ w'.cell? ⟨gl, 9, none⟩ = some (.int .i64 b.l2) ∧ w'.cell? ⟨gl, 10, none⟩ = some (.int .i64 b.h0) ∧ w'.cell? ⟨gl, 11, none⟩ = some (.int .i64 b.h1) ∧ w'.cell? ⟨gl, 12, none⟩ = some (.int .i64 b.h2) ∧ w'.cell? ⟨gl, 13, none⟩ = some (.slice A b.rows.length cp) ∧ w'.cell? ⟨w.heap.size + 1, 1, none⟩ = some (.slice (some ⟨gk, ofk, none⟩) 2 kc) ∧ w'.cell? ⟨gk, ofk + 3, none⟩ = some (.int .i64 xs2) ∧ w'.cell? ⟨gk, ofk + 3 + 1, none⟩ = some (.slice xA2 xn2 xc2) ∧ w'.cell? ⟨gk, ofk + 3 + 2, none⟩ = some (.slice xB2 xm2 xd2)) (first | go_keep) ((go_at_call 17; refine (HW1.out _ _ _ _ HLB.out (HTK1.out.below (below_drew (Below.refl _ _))) (by rw [HERB.out]; exact HRX.out.below (below_drew (Below.refl _ _)))).mono ?_; rintro e w4 ⟨hb4, B3, d3, rfl, hr3⟩; have hb4' : Below w3.heap.size w3 w4 := (below_drew (Below.refl _ _)).trans (hb4.mono (Nat.le_of_eq rfl)); have k0 := (hb4'.cell (p := ⟨gl, 7, none⟩) hzg2).trans z0; have k1 := (hb4'.cell (p := ⟨gl, 8, none⟩) hzg2).trans z1; have k2 := (hb4'.cell (p := ⟨gl, 9, none⟩) hzg2).trans z2; have k3 := (hb4'.cell (p := ⟨gl, 10, none⟩) hzg2).trans z3; have k4 := (hb4'.cell (p := ⟨gl, 11, none⟩) hzg2).trans z4; have k5 := (hb4'.cell (p := ⟨gl, 12, none⟩) hzg2).trans z5; have k6 := (hb4'.cell (p := ⟨gl, 13, none⟩) hzg2).trans z6; have k7 := (hb4'.cell (p := ⟨w.heap.size + 1, 1, none⟩) hzt2).trans t1; have k8 := (hb4'.cell (p := ⟨gk, ofk + 3, none⟩) hgk2).trans c0; have k9 := (hb4'.cell (p := ⟨gk, ofk + 3 + 1, none⟩) hgk2).trans c1; have k10 := (hb4'.cell (p := ⟨gk, ofk + 3 + 2, none⟩) hgk2).trans c2))
              have HB4 := Lib.hid (HB3.out.trans (hb4'.mono HB3.out.size))
              have HRR := Lib.hid hr3
              clear hr3 hb4 hb4' HTK1 HT3 HG3 t0 t1 t2 c0 c1 c2 z0 z1 z2 z3 z4 z5 z6 k0 k1 k2 k3 k4 k5 k6 k7 k8 k9 k10
              have hql : q.length ≤ 27 := by omega
              have HR3 := Lib.hid (HRR.out.below ((Below.refl w4.heap.size w4).alloc (Nat.le_refl _) (.cells #[.int .i64 1] 3)))
              have HOWN := Lib.hid (World.ownsRow_lit (base := w4.heap.size) (e := 3) (size := 1) w4 #[.int .i64 1] 1 (Nat.le_refl _) (by decide) rfl)
              have HBF := Lib.hid (HB4.out.alloc HB4.out.size (.cells #[.int .i64 1] 3))
              go_wp2_with (at_builtin; refine wpList_append_row _ rfl _ _ 27 rfl w4.heap.size 3 i0 _ 1 8 Tryd.underlying27 ia ib ic id rfl (by omega) _ _ _ rfl HOWN.out B3 q.length d3 (natCells q) rfl HR3.out (by rw [nat_len]; omega) (nat_cell _) ?cc1 ?cd1 ?ce1 ?_)
              case cc1 => unfold maxLen; omega
              case cd1 => omega
              intro v5 w5 hown5 hgrow5
              have HB5 : Hid (Below w.heap.size w w5) := Lib.hid (HBF.out.grown hgrow5 HBF.out.size (fun x hx => by have := (HOWN.out.lt x hx).1; have := HB4.out.size; omega))
              obtain ⟨A5, c5, rfl, hc5⟩ := own_shape hown5
              have HR5 := Lib.hid (Row.of_own hown5)
              clear hgrow5 hown5
              go_wp2
              go_ret2
              refine ⟨HB5.out, A5, c5, ?_, ?_⟩
              · simp [Nat.add_comm]
              · simpa [natCells, intCells, ints] using HR5.out
            | none =>
              rw [hw1] at HW1
              rw [hw0] at HW0
              simp only
              go_enter Tryd.func17, Tryd.ntmps17
              go_wp2_with fail
              refine HP.out.mono ?_
              rintro e w2 ⟨gl, rfl, hg, hgw, hb2⟩
              have HT := Lib.hid (hb2.block _ (lt_of_block HBB.out.2.2) |>.trans HBB.out.2.2)
              have HG := Lib.hid hg
              obtain ⟨t0, t1, t2⟩ := cell3 HT.out
              have HB2 := Lib.hid (HBB.out.1.trans (hb2.mono HBB.out.1.size))
              obtain ⟨gk, ofk, xs, xA, xn, xc, xB, xm, xd, ek, HTK, c0, c1, c2⟩ := HK.out w2 HB2.out
              subst ek
              rw [Nat.zero_mul, Nat.add_zero] at c0 c1 c2
              obtain ⟨⟨z0, z1, z2, z3, z4, z5, z6⟩, _⟩ := cell14 HG.out
              have HTK0 := Lib.hid HTK
              have hzg := lt_of_block HG.out
              have hzt := lt_of_block HT.out
              clear hb2 hg HTK HP
              go_wp2
              refine wp_loop_rounds 3 ?_
              rw [rounds_succ]
              have hgk := World.block_lt_of_cell? w2 _ c0
              have HRW := Lib.hid (HR.out.below HB2.out)
              go_wp2_with fail
              go_region_held3 (fun w' => w'.cell? ⟨gl, 0, none⟩ = some (.int .i64 a.l0) ∧ w'.cell? ⟨gl, 1, none⟩ = some (.int .i64 a.l1) ∧ w'.cell? ⟨gl, 2, none⟩ = some (.int .i64 a.l2) ∧ w'.cell? ⟨gl, 3, none⟩ = some (.int .i64 a.h0) ∧ w'.cell? ⟨gl, 4, none⟩ = some (.int .i64 a.h1) ∧ w'.cell? ⟨gl, 5, none⟩ = some (.int .i64 a.h2) ∧ w'.cell? ⟨gl, 6, none⟩ = some (.slice A a.rows.length cp) ∧ w'.cell? ⟨w.heap.size + 1, 1, none⟩ = some (.slice (some ⟨gk, ofk, none⟩) 2 kc) ∧ w'.cell? ⟨gk, ofk, none⟩ = some (.int .i64 xs) ∧ w'.cell? ⟨gk, ofk + 1, none⟩ = some (.slice xA xn xc) ∧ w'.cell? ⟨gk, ofk + 2, none⟩ = some (.slice xB xm xd)) (first | go_keep) ((go_at_call 17; refine (HW0.out _ _ _ _ HLA.out (HTK0.out.below (below_drew (Below.refl _ _))) (by rw [HERA.out]; exact HRW.out.below (below_drew (Below.refl _ _)))).mono ?_; rintro e w3 ⟨hb3, rfl⟩; have hb3' : Below w2.heap.size w2 w3 := (below_drew (Below.refl _ _)).trans (hb3.mono (Nat.le_of_eq rfl)); have k0 := (hb3'.cell (p := ⟨gl, 0, none⟩) hzg).trans z0; have k1 := (hb3'.cell (p := ⟨gl, 1, none⟩) hzg).trans z1; have k2 := (hb3'.cell (p := ⟨gl, 2, none⟩) hzg).trans z2; have k3 := (hb3'.cell (p := ⟨gl, 3, none⟩) hzg).trans z3; have k4 := (hb3'.cell (p := ⟨gl, 4, none⟩) hzg).trans z4; have k5 := (hb3'.cell (p := ⟨gl, 5, none⟩) hzg).trans z5; have k6 := (hb3'.cell (p := ⟨gl, 6, none⟩) hzg).trans z6; have k7 := (hb3'.cell (p := ⟨w.heap.size + 1, 1, none⟩) hzt).trans t1; have k8 := (hb3'.cell (p := ⟨gk, ofk, none⟩) hgk).trans c0; have k9 := (hb3'.cell (p := ⟨gk, ofk + 1, none⟩) hgk).trans c1; have k10 := (hb3'.cell (p := ⟨gk, ofk + 2, none⟩) hgk).trans c2))
              have HT3 := Lib.hid (hb3'.block _ (lt_of_block HT.out) |>.trans HT.out)
              have HG3 := Lib.hid (hb3'.block _ (lt_of_block HG.out) |>.trans HG.out)
              have HB3 := Lib.hid (HB2.out.trans (hb3'.mono HB2.out.size))
              clear hb3 hb3' HTK0 HT HG t0 t1 t2 c0 c1 c2 z0 z1 z2 z3 z4 z5 z6 k0 k1 k2 k3 k4 k5 k6 k7 k8 k9 k10 hgk hzg hzt hw0 hw1 HRW
              obtain ⟨gk2, ofk2, xs2, xA2, xn2, xc2, xB2, xm2, xd2, ek2, HTK2, c0, c1, c2⟩ := HK2.out w3 HB3.out
              cases ek2
              rw [Nat.one_mul] at c0 c1 c2
              obtain ⟨_, z0, z1, z2, z3, z4, z5, z6⟩ := cell14 HG3.out
              obtain ⟨t0, t1, t2⟩ := cell3 HT3.out
              have HTK1 := Lib.hid HTK2
              have hzg2 := lt_of_block HG3.out
              have hzt2 := lt_of_block HT3.out
              have hgk2 := World.block_lt_of_cell? w3 _ c0
              have HRX := Lib.hid (HR.out.below HB3.out)
              clear HTK2
              go_wp2
              rw [rounds_succ]
              go_wp2_with fail
              go_region_held3 (fun w' => w'.cell? ⟨gl, 7, none⟩ = some (.int .i64 b.l0) ∧ w'.cell? ⟨gl, 8, none⟩ = some (.int .i64 b.l1) ∧ w'.cell? ⟨gl, 9, none⟩ = some (.int .i64 b.l2) ∧ w'.cell? ⟨gl, 10, none⟩ = some (.int .i64 b.h0) ∧ w'.cell? ⟨gl, 11, none⟩ = some (.int .i64 b.h1) ∧ w'.cell? ⟨gl, 12, none⟩ = some (.int .i64 b.h2) ∧ w'.cell? ⟨gl, 13, none⟩ = some (.slice A b.rows.length cp) ∧ w'.cell? ⟨w.heap.size + 1, 1, none⟩ = some (.slice (some ⟨gk, ofk, none⟩) 2 kc) ∧ w'.cell? ⟨gk, ofk + 3, none⟩ = some (.int .i64 xs2) ∧ w'.cell? ⟨gk, ofk + 3 + 1, none⟩ = some (.slice xA2 xn2 xc2) ∧ w'.cell? ⟨gk, ofk + 3 + 2, none⟩ = some (.slice xB2 xm2 xd2)) (first | go_keep) ((go_at_call 17; refine (HW1.out _ _ _ _ HLB.out (HTK1.out.below (below_drew (Below.refl _ _))) (by rw [HERB.out]; exact HRX.out.below (below_drew (Below.refl _ _)))).mono ?_; rintro e w4 ⟨hb4, rfl⟩; have hb4' : Below w3.heap.size w3 w4 := (below_drew (Below.refl _ _)).trans (hb4.mono (Nat.le_of_eq rfl)); have k0 := (hb4'.cell (p := ⟨gl, 7, none⟩) hzg2).trans z0; have k1 := (hb4'.cell (p := ⟨gl, 8, none⟩) hzg2).trans z1; have k2 := (hb4'.cell (p := ⟨gl, 9, none⟩) hzg2).trans z2; have k3 := (hb4'.cell (p := ⟨gl, 10, none⟩) hzg2).trans z3; have k4 := (hb4'.cell (p := ⟨gl, 11, none⟩) hzg2).trans z4; have k5 := (hb4'.cell (p := ⟨gl, 12, none⟩) hzg2).trans z5; have k6 := (hb4'.cell (p := ⟨gl, 13, none⟩) hzg2).trans z6; have k7 := (hb4'.cell (p := ⟨w.heap.size + 1, 1, none⟩) hzt2).trans t1; have k8 := (hb4'.cell (p := ⟨gk, ofk + 3, none⟩) hgk2).trans c0; have k9 := (hb4'.cell (p := ⟨gk, ofk + 3 + 1, none⟩) hgk2).trans c1; have k10 := (hb4'.cell (p := ⟨gk, ofk + 3 + 2, none⟩) hgk2).trans c2))
              have HB4 := Lib.hid (HB3.out.trans (hb4'.mono HB3.out.size))
              have HT4 := Lib.hid (hb4'.block _ (lt_of_block HT3.out) |>.trans HT3.out)
              clear hb4 hb4' HTK1 HT3 HG3 t0 t1 t2 c0 c1 c2 z0 z1 z2 z3 z4 z5 z6 k0 k1 k2 k3 k4 k5 k6 k7 k8 k9 k10
              go_wp2
              rw [rounds_succ]
              go_wp2
              go_ret2
              exact ⟨HB4.out, rfl⟩
        · rw [wrong_many h0 hp h2]
          have q2 : (2 != (ks.length : Int)) = true := by simp; omega
          clear hrow hlf hr hk hnd hak hal hf hfk IH h h0 hnk hp h2
          go_enter Tryd.func17, Tryd.ntmps17
          go_wp2_with fail
          refine HP.out.mono ?_
          rintro e w2 ⟨g, rfl, hg, _, hb2⟩
          have HT := Lib.hid (hb2.block _ (lt_of_block HBB.out.2.2) |>.trans HBB.out.2.2)
          obtain ⟨t0, t1, t2⟩ := cell3 HT.out
          have HB2 := Lib.hid (HBB.out.1.trans (hb2.mono HBB.out.1.size))
          clear hb2 hg
          go_wp2
          go_ret2
          exact ⟨HB2.out, none, 0, rfl, Row.nil _ _⟩
end Go.Proofs.YtjjohllfidmkjaaDoor.PfW
