/- DrawingLayers: entities of other layers do not matter for the rings and the shapes of a layer. Conditions: none. -/
import Derived.Test.YtnmmhcchpcbeeaaGreatArJ
import Derived.Test.YtnmmhcchpcbeeaaGreatRgW
import Derived.Test.YtnmmhcchpcbeeaaGreatOgS
import Derived.Test.YtnmmhcchpcbeeaaGreatOgW
import Derived.Test.YtnmmhcchpcbeeaaGreatOgO
import Derived.Test.YtnmmhcchpcbeeaaGreatAwk
import Derived.HandedShaped
import Derived.Handed
import Derived.ProofKit
import Derived.Test.YtnmmhcchpcbeeaaGreatRows
import Derived.OpenShut

namespace Go.Proofs.YtnmmhcchpcbeeaaGreat.GeW
open Go Go.RowKit Go.Proofs.YtnmmhcchpcbeeaaGreat.Mem Go.Proofs.YtnmmhcchpcbeeaaGreat.Ge
attribute [local go_sem ↓] Go.wp_at_zero Go.wp_at_succ
theorem own_base {w : World} {b b' n size : Nat} {e : TypeId} {v : Value} {xs : List Value} (h : w.ownsRow b e size v n xs) (hb : b' ≤ b) : w.ownsRow b' e size v n xs := by
  refine ⟨h.1, ?_⟩
  rcases h.2 with h0 | ⟨g, cp, cur, e1, e2, e3⟩
  · exact .inl h0
  · exact .inr ⟨g, cp, cur, e1, Nat.le_trans hb e2, e3⟩
set_option maxRecDepth 100000 in
set_option maxHeartbeats 8000000 in
theorem flatten_any (fx fy tx ty cx cy : Int) (cw : Bool) (tol : Int) (w : World) (hv : arcOk (fx, fy) (tx, ty) (cx, cy) = true) (ht : 1 ≤ tol ∧ tol ≤ 50) :
    Calls Tryz.prog 42 #[.agg #[.int .i64 fx, .int .i64 fy, .int .i64 tx, .int .i64 ty, .int .i64 cx, .int .i64 cy, .bool cw], .int .i64 tol] w fun e w' => (∃ v, e = .returned (.tuple #[v, .int .i64 0]) ∧ w'.ownsRow w.heap.size 53 2 v (flatL (fx, fy) (tx, ty) (cx, cy) cw tol).length ((flatL (fx, fy) (tx, ty) (cx, cy) cw tol).flatMap ptCells)) ∧ Below w.heap.size w w' := by
  obtain ⟨⟨⟨h1, h2⟩, h3⟩, hcb⟩ := arc_parts hv
  have hw := hv
  unfold arcOk at hw
  simp only [Bool.and_eq_true] at hw
  obtain ⟨⟨f1, f2⟩, f3, f4⟩ := within_in hw.1
  obtain ⟨⟨t1, t2⟩, t3, t4⟩ := within_in hw.2.1
  obtain ⟨⟨c1, c2⟩, c3, c4⟩ := within_in hw.2.2.1
  simp only at f1 f2 f3 f4 t1 t2 t3 t4 c1 c2 c3 c4
  have HCB : Hid ((-2000 ≤ cx ∧ cx ≤ 2000) ∧ -2000 ≤ cy ∧ cy ≤ 2000) := Lib.hid hcb
  have HAV := Lib.hid (fun W => arcOk_any fx fy tx ty cx cy cw W)
  rw [hv] at HAV
  have HU := Lib.hid (fun W => sub_any fx fy cx cy W (by omega) (by omega) (by omega) (by omega))
  have HV := Lib.hid (fun W => sub_any tx ty cx cy W (by omega) (by omega) (by omega) (by omega))
  unfold Ge.sub at h1 h2 h3
  dsimp only at h1 h2 h3
  have HC1 := Lib.hid (fun W => chainA_any (fx - cx) (fy - cy) (tx - cx) (ty - cy) tol W ⟨h1, h2⟩ h3 ht)
  have HC2 := Lib.hid (fun W => chainA_any (tx - cx) (ty - cy) (fx - cx) (fy - cy) tol W (by rw [h3]; exact ⟨h1, h2⟩) h3.symm ht)
  have HK1 := Lib.hid (chain_bounds (p := (fx - cx, fy - cy)) (q := (tx - cx, ty - cy)) (tol := tol) h1 h2 h3)
  have HK2 := Lib.hid (chain_bounds (p := (tx - cx, ty - cy)) (q := (fx - cx, fy - cy)) (tol := tol) (by rw [h3]; exact h1) (by rw [h3]; exact h2) h3.symm)
  have HL1 : Hid (flatL (fx, fy) (tx, ty) (cx, cy) false tol = (chainA (fx - cx, fy - cy) (tx - cx, ty - cy) tol).map (addV (cx, cy))) := Lib.hid rfl
  have HL2 : Hid (flatL (fx, fy) (tx, ty) (cx, cy) true tol = ((chainA (tx - cx, ty - cy) (fx - cx, fy - cy) tol).map (addV (cx, cy))).reverse) := Lib.hid rfl
  clear h1 h2 h3 hcb hw f1 f2 f3 f4 t1 t2 t3 t4 c1 c2 c3 c4 hv
  have HO := Lib.hid (one_vec w (.cells #[.int .i64 fx, .int .i64 fy, .int .i64 tx, .int .i64 ty, .int .i64 cx, .int .i64 cy, .bool cw] 55))
  have d1 : decide (tol < 1) = false := decide_eq_false (by omega)
  have d2 : decide (50 < tol) = false := decide_eq_false (by omega)
  clear ht
  go_enter Tryz.func42, Tryz.ntmps42
  go_upto_region 1 with fail
  generalize w.alloc (.cells #[.int .i64 fx, .int .i64 fy, .int .i64 tx, .int .i64 ty, .int .i64 cx, .int .i64 cy, .bool cw] 55) = W0 at *
  obtain ⟨q0, q1, q2, q3, q4, q5⟩ := cell6 HO.out.2
  have q6 : W0.cell? ⟨w.heap.size, 6, none⟩ = some (.bool cw) := by simp [World.cell?, HO.out.2]
  go_wp2_with fail
  refine (HAV.out W0).mono ?_
  rintro e W ⟨rfl, hb0⟩
  have HB := Lib.hid (HO.out.1.trans (hb0.mono HO.out.1.size))
  have HX := Lib.hid (older HO.out.2 hb0)
  clear hb0 q0 q1 q2 q3 q4 q5 q6 HO HAV
  go_upto_region 5 with fail
  have CS : Hid (∀ w', Below W.heap.size W w' → w'.cell? ⟨w.heap.size, 0, none⟩ = some (.int .i64 fx) ∧ w'.cell? ⟨w.heap.size, 1, none⟩ = some (.int .i64 fy) ∧ w'.cell? ⟨w.heap.size, 2, none⟩ = some (.int .i64 tx) ∧ w'.cell? ⟨w.heap.size, 3, none⟩ = some (.int .i64 ty) ∧ w'.cell? ⟨w.heap.size, 4, none⟩ = some (.int .i64 cx) ∧ w'.cell? ⟨w.heap.size, 5, none⟩ = some (.int .i64 cy) ∧ Below W.heap.size W w') := Lib.hid (fun w' hb => by
    obtain ⟨a0, a1, a2, a3, a4, a5⟩ := cell6 ((hb.block _ (lt_of_block HX.out)).trans HX.out)
    exact ⟨a0, a1, a2, a3, a4, a5, hb⟩)
  obtain ⟨q0, q1, q2, q3, q4, q5, q6⟩ := CS.out W (Below.refl _ _)
  go_cut [6, 7] from 19 to 28 (fun p q wc => ∃ b1 b2, p = .pointer (some ⟨b1, 0, none⟩) ∧ q = .pointer (some ⟨b2, 0, none⟩) ∧ (wc.cell? ⟨b1, 0, none⟩ = some (.int .i64 (fx - cx)) ∧ wc.cell? ⟨b1, 1, none⟩ = some (.int .i64 (fy - cy)) ∧ b1 < wc.heap.size) ∧ (wc.cell? ⟨b2, 0, none⟩ = some (.int .i64 (tx - cx)) ∧ wc.cell? ⟨b2, 1, none⟩ = some (.int .i64 (ty - cy)) ∧ b2 < wc.heap.size) ∧ (b1 ≠ b2 ∧ W.heap.size ≤ b1 ∧ W.heap.size ≤ b2 ∧ wc.frozen? ⟨b1, 0, none⟩ = false ∧ wc.frozen? ⟨b1, 1, none⟩ = false ∧ wc.frozen? ⟨b2, 0, none⟩ = false ∧ wc.frozen? ⟨b2, 1, none⟩ = false) ∧ Below W.heap.size W wc)
  case first =>
    go_wp2_with fail
    have tok1 := Lib.hid trivial
    go_region_held3 (fun w' => w'.cell? ⟨w.heap.size, 0, none⟩ = some (.int .i64 fx) ∧ w'.cell? ⟨w.heap.size, 1, none⟩ = some (.int .i64 fy) ∧ w'.cell? ⟨w.heap.size, 2, none⟩ = some (.int .i64 tx) ∧ w'.cell? ⟨w.heap.size, 3, none⟩ = some (.int .i64 ty) ∧ w'.cell? ⟨w.heap.size, 4, none⟩ = some (.int .i64 cx) ∧ w'.cell? ⟨w.heap.size, 5, none⟩ = some (.int .i64 cy) ∧ Below W.heap.size W w')
      (first | assumption | exact CS.out _ (by (repeat (with_reducible first | assumption | exact Below.refl _ _ | refine below_drew ?_ | refine bel_alloc ?_ _ | (refine bel_set ?_ (by simp <;> omega) _)))))
      (first
       | (go_at_call 94; clear tok1; obtain ⟨_, _, _, _, _, _, hbx⟩ := ‹_ ∧ _ ∧ _ ∧ _ ∧ _ ∧ _ ∧ Below _ _ _›; refine (HU.out _).mono ?_; rintro e w6 ⟨rfl, hb60⟩; have hb6 : Below W.heap.size W w6 := hbx.trans (hb60.mono (Below.size hbx)); have hz6 := Below.size hb6; (first | (have n12 := fresh2 hb60; obtain ⟨n1, n2⟩ := n12; have k1 := lt_of_block n1; have k2 := lt_of_block n2) | (have n1 := fresh1 hb60; have k1 := lt_of_block n1) | skip))
       | (go_at_call 94; obtain ⟨_, _, _, _, _, _, hbx⟩ := ‹_ ∧ _ ∧ _ ∧ _ ∧ _ ∧ _ ∧ Below _ _ _›; refine (HV.out _).mono ?_; rintro e w7 ⟨rfl, hb70⟩; have hb7 : Below W.heap.size W w7 := hbx.trans (hb70.mono (Below.size hbx)); have hz7 := Below.size hb7; (first | (have l12 := fresh2' hb70; obtain ⟨l1, l2⟩ := l12; have l1f := two_facts l1; obtain ⟨d0, d1, d2, d3, d4⟩ := l1f; have l2f := two_facts l2; obtain ⟨d0', d1', d2', d3', d4'⟩ := l2f) | (have l1 := fresh1' hb70; have l1f := two_facts l1; obtain ⟨d0, d1, d2, d3, d4⟩ := l1f) | skip); (first | (have o1 := two_facts (older n1 hb70); obtain ⟨c0, c1, c2, c3, c4⟩ := o1) | (have o1 := two_facts (older n1 (below_of_alloc hb70)); obtain ⟨c0, c1, c2, c3, c4⟩ := o1) | skip); (first | (have o2 := two_facts (older n2 hb70); obtain ⟨e0, e1, e2, e3, e4⟩ := o2) | skip)))
    all_goals
      go_wp2_with fail
      go_meet
    all_goals
      refine ⟨_, _, rfl, rfl, ⟨?_, ?_, ?_⟩, ⟨?_, ?_, ?_⟩, ⟨?_, ?_, ?_, ?_, ?_, ?_, ?_⟩, ?_⟩
      all_goals first | (repeat (with_reducible first | assumption | exact Below.refl _ _ | refine below_drew ?_ | refine bel_alloc ?_ _ | (refine bel_set ?_ (by simp <;> omega) _))) | skip
    all_goals try (go_simp; done)
    all_goals try omega
  case rest =>
    obtain ⟨b1, b2, rfl, rfl, ⟨u0, u1, ul⟩, ⟨v0, v1, vl⟩, ⟨hne, hbe1, hbe2, z0, z1, z2, z3⟩, hbc⟩ := hcut
    have HX2 := Lib.hid (older HX.out hbc)
    have HB2 := Lib.hid (HB.out.trans (hbc.mono HB.out.size))
    have HLT2 := Lib.hid (lt_of_block HX2.out)
    have HLW := Lib.hid (lt_of_block HX.out)
    clear hbc q0 q1 q2 q3 q4 q5 q6 CS HX HB HU HV d1 d2
    have c6 : wc.cell? ⟨w.heap.size, 6, none⟩ = some (.bool cw) := by simp [World.cell?, HX2.out]
    generalize wc = w2 at *
    cases cw
    case false =>
      have HFL := HL1
      have HCH := HC1
      have HLC := Lib.hid (And.intro (And.intro HK1.out.1 HK1.out.2.1) HK1.out.2.2)
      clear HL1 HL2 HC1 HC2 HK1 HK2
      generalize chainA (fx - cx, fy - cy) (tx - cx, ty - cy) tol = LC at *
      obtain ⟨d0, d1, d2, d3⟩ : w2.cell? ⟨b1, 0, none⟩ = some (.int .i64 (fx - cx)) ∧ w2.cell? ⟨b1, 1, none⟩ = some (.int .i64 (fy - cy)) ∧ w2.cell? ⟨b2, 0, none⟩ = some (.int .i64 (tx - cx)) ∧ w2.cell? ⟨b2, 1, none⟩ = some (.int .i64 (ty - cy)) := ⟨u0, u1, v0, v1⟩
      clear u0 u1 ul v0 v1 vl hne hbe1 hbe2 z0 z1 z2 z3
      go_wp2_with fail
      refine (HCH.out _).mono ?_
      rintro e w3 ⟨⟨v, rfl, hown⟩, hb3⟩
      have hne : 0 < LC.length := by have := HLC.out.1.1; omega
      obtain ⟨g, c, rfl, hc⟩ : ∃ g c, v = .slice (some ⟨g, 0, none⟩) LC.length c ∧ LC.length ≤ c := by
        rcases hown.2 with ⟨_, h0⟩ | ⟨g, cap, cur, h1, _, _, h2, _⟩
        · omega
        · exact ⟨g, cap, h1, h2⟩
      have HX3 := Lib.hid (older HX2.out hb3)
      have HB3 := Lib.hid (HB2.out.trans (hb3.mono HB2.out.size))
      have HZ2 : Hid (w.heap.size ≤ w2.heap.size) := Lib.hid HB2.out.size
      obtain ⟨n, hn⟩ : ∃ n, LC.length = n := ⟨_, rfl⟩
      rw [hn] at hown hne hc ⊢
      have HN := Lib.hid hn
      have hnb : n ≤ 32001 := by rw [← hn]; exact HLC.out.1.2
      have HO3 := Lib.hid hown
      clear hown hb3 HX2 HCH d0 d1 d2 d3
      go_wp2_with fail
      go_loopw [39] (fun i wr => ∃ k : Nat, i = .int .i64 (k : Int) ∧ k ≤ n ∧ Hid (wr.ownsRow w2.heap.size 53 2 (.slice (some ⟨g, 0, none⟩) n c) n (((LC.take k).map (addV (cx, cy)) ++ LC.drop k).flatMap ptCells)) ∧ Hid (wr.heap[w.heap.size]? = some (.cells #[.int .i64 fx, .int .i64 fy, .int .i64 tx, .int .i64 ty, .int .i64 cx, .int .i64 cy, .bool false] 55 (0, 0))) ∧ Hid (Below w.heap.size w wr)) (fun i _ => n - (intOf i).toNat)
      case atStart => exact ⟨0, rfl, Nat.zero_le _, Lib.hid (by simpa using HO3.out), HX3, HB3⟩
      case round =>
        obtain ⟨k, rfl, hk, HOW, HX, HB⟩ := hrel
        clear HO3 HX3 HB3
        by_cases hlt : k < n
        · have hkl : k < LC.length := by rw [HN.out]; exact hlt
          have HSP : Hid (LC.drop k = LC[k] :: LC.drop (k + 1)) := Lib.hid (List.drop_eq_getElem_cons hkl)
          have HTP : Hid ((LC.take (k + 1)).map (addV (cx, cy)) = (LC.take k).map (addV (cx, cy)) ++ [addV (cx, cy) LC[k]]) := Lib.hid (by rw [List.take_succ_eq_append_getElem hkl, List.map_append]; rfl)
          have HLK := Lib.hid (HLC.out.2 _ (List.getElem_mem hkl))
          have HTL : Hid ((((LC.take k).map (addV (cx, cy))).flatMap ptCells).length = k * 2) := Lib.hid (by
            rw [flatMap_len pt_len, List.length_map, List.length_take]
            omega)
          generalize LC[k] = q at *
          obtain ⟨x, y⟩ := q
          have HOX : Hid (wr.ownsRow w2.heap.size 53 2 (.slice (some ⟨g, 0, none⟩) n c) n (((LC.take k).map (addV (cx, cy))).flatMap ptCells ++ (.int .i64 x :: .int .i64 y :: (LC.drop (k + 1)).flatMap ptCells))) := Lib.hid (by
            have h := HOW.out
            rw [HSP.out, List.flatMap_append, List.flatMap_cons] at h
            exact h)
          have HC0 : Hid ((((LC.take k).map (addV (cx, cy))).flatMap ptCells ++ (.int .i64 x :: .int .i64 y :: (LC.drop (k + 1)).flatMap ptCells))[k * 2]? = some (.int .i64 x)) := Lib.hid (by
            rw [List.getElem?_append_right (by rw [HTL.out]; exact Nat.le_refl _), HTL.out, Nat.sub_self]; rfl)
          have HC1 : Hid ((((LC.take k).map (addV (cx, cy))).flatMap ptCells ++ (.int .i64 x :: .int .i64 y :: (LC.drop (k + 1)).flatMap ptCells))[k * 2 + 1]? = some (.int .i64 y)) := Lib.hid (by
            rw [List.getElem?_append_right (by rw [HTL.out]; omega), HTL.out, show k * 2 + 1 - k * 2 = 1 by omega]; rfl)
          clear HOW
          have HOW := HOX
          clear HOX
          have HAD := Lib.hid (fun W => add_any x y cx cy W (by have := HLK.out; omega) (by have := HLK.out; omega) (by have := HCB.out; omega) (by have := HCB.out; omega))
          obtain ⟨o0, o1, o2⟩ := own_cells HOW.out (k * 2) (by omega)
          obtain ⟨p0, p1, p2⟩ := own_cells HOW.out (k * 2 + 1) (by omega)
          have a0 := o0.trans HC0.out
          have a1 := p0.trans HC1.out
          clear o0 o1 o2 p0 p1 p2
          obtain ⟨_, _, _, _, a4, a5⟩ := cell6 HX.out
          have hk1 : (0 : Int) ≤ (k : Int) := by omega
          have hk2 : (k : Int) < (n : Int) := by omega
          have HWR : Hid (∀ w7 : World, w7.ownsRow w2.heap.size 53 2 (.slice (some ⟨g, 0, none⟩) n c) n (((LC.take k).map (addV (cx, cy))).flatMap ptCells ++ (.int .i64 x :: .int .i64 y :: (LC.drop (k + 1)).flatMap ptCells)) → ((w7.setCell ⟨g, k * 2, none⟩ (.int .i64 (x + cx))).setCell ⟨g, k * 2 + 1, none⟩ (.int .i64 (y + cy))).ownsRow w2.heap.size 53 2 (.slice (some ⟨g, 0, none⟩) n c) n (((LC.take (k + 1)).map (addV (cx, cy)) ++ LC.drop (k + 1)).flatMap ptCells)) := Lib.hid (fun w7 h => by
            have h2 := own_write h (k * 2) [.int .i64 (x + cx), .int .i64 (y + cy)] (by simp; omega)
            have e1 : w7.setCells g (k * 2) [.int .i64 (x + cx), .int .i64 (y + cy)] = (w7.setCell ⟨g, k * 2, none⟩ (.int .i64 (x + cx))).setCell ⟨g, k * 2 + 1, none⟩ (.int .i64 (y + cy)) := rfl
            rw [e1] at h2
            rw [HTP.out, List.flatMap_append, List.flatMap_append]
            rw [List.take_append_of_le_length (by rw [HTL.out]; exact Nat.le_refl _), List.take_of_length_le (by rw [HTL.out]; exact Nat.le_refl _), List.drop_append, HTL.out, List.drop_of_length_le (by rw [HTL.out]; omega)] at h2
            have e2 : k * 2 + [Value.int .i64 (x + cx), .int .i64 (y + cy)].length - k * 2 = 2 := by simp
            rw [e2] at h2
            simpa [ptCells, addV] using h2)
          clear HSP HTP
          go_upto_region 12 with fail
          refine wp_region_tillK (k := 10) (S1 := fun w' => True) (S2 := fun w' => (w'.cell? ⟨g, k * 2, none⟩ = some (.int .i64 x) ∧ w'.cell? ⟨g, k * 2 + 1, none⟩ = some (.int .i64 y) ∧ w'.cell? ⟨w.heap.size, 4, none⟩ = some (.int .i64 cx) ∧ w'.cell? ⟨w.heap.size, 5, none⟩ = some (.int .i64 cy))) (by kernel_rfl) ?_ (fun hHeld => ?_)
          · exact ⟨trivial, a0, a1, a4, a5⟩
          refine wpAnyK_take (i := 0) (oi := { dst := some 42, op := Op.move (Operand.tmp 8), type := 25, pos := "arc.go:105", after := #[], guard := none }) (v := ?_) rfl (by kernel_rfl) (by kernel_rfl) (by kernel_rfl) (by kernel_rfl) (fun _ _ _ h => h) (Or.inl ⟨by rfl, ?_⟩) (by assumption) ?_
          rotate_left
          · intro w' hSw
            (try dsimp only at hSw)
            first | (go_simp; done) | (go_simp; with_reducible rfl)
          try simp only [Act.put, List.setIfInBounds_toArray, List.set_cons_zero, List.set_cons_succ]
          refine wpAnyK_take (i := 1) (oi := { dst := some 43, op := Op.move (Operand.tmp 9), type := 3, pos := "arc.go:105", after := #[], guard := none }) (v := ?_) rfl (by kernel_rfl) (by kernel_rfl) (by kernel_rfl) (by kernel_rfl) (fun _ _ _ h => h) (Or.inl ⟨by rfl, ?_⟩) (by assumption) ?_
          rotate_left
          · intro w' hSw
            (try dsimp only at hSw)
            first | (go_simp; done) | (go_simp; with_reducible rfl)
          try simp only [Act.put, List.setIfInBounds_toArray, List.set_cons_zero, List.set_cons_succ]
          refine wpAnyK_take (i := 2) (oi := { dst := some 44, op := Op.move (Operand.tmp 8), type := 25, pos := "arc.go:105", after := #[], guard := none }) (v := ?_) rfl (by kernel_rfl) (by kernel_rfl) (by kernel_rfl) (by kernel_rfl) (fun _ _ _ h => h) (Or.inl ⟨by rfl, ?_⟩) (by assumption) ?_
          rotate_left
          · intro w' hSw
            (try dsimp only at hSw)
            first | (go_simp; done) | (go_simp; with_reducible rfl)
          try simp only [Act.put, List.setIfInBounds_toArray, List.set_cons_zero, List.set_cons_succ]
          refine wpAnyK_take (i := 3) (oi := { dst := some 45, op := Op.move (Operand.tmp 9), type := 3, pos := "arc.go:105", after := #[], guard := none }) (v := ?_) rfl (by kernel_rfl) (by kernel_rfl) (by kernel_rfl) (by kernel_rfl) (fun _ _ _ h => h) (Or.inl ⟨by rfl, ?_⟩) (by assumption) ?_
          rotate_left
          · intro w' hSw
            (try dsimp only at hSw)
            first | (go_simp; done) | (go_simp; with_reducible rfl)
          try simp only [Act.put, List.setIfInBounds_toArray, List.set_cons_zero, List.set_cons_succ]
          refine wpAnyK_take (i := 4) (oi := { dst := some 46, op := Op.indexAddr 25 (Operand.tmp 44) (Operand.tmp 45), type := 0, pos := "arc.go:105", after := #[{ on := 2, ground := Ground.data }, { on := 3, ground := Ground.data }], guard := none }) (v := ?_) rfl (by kernel_rfl) (by kernel_rfl) (by kernel_rfl) (by kernel_rfl) (fun _ _ _ h => h) (Or.inl ⟨by rfl, ?_⟩) (by assumption) ?_
          rotate_left
          · intro w' hSw
            (try dsimp only at hSw)
            first | (go_simp; done) | (go_simp; with_reducible rfl)
          try simp only [Act.put, List.setIfInBounds_toArray, List.set_cons_zero, List.set_cons_succ]
          refine wpAnyK_take (i := 5) (oi := { dst := some 47, op := Op.load 53 (Operand.tmp 46), type := 53, pos := "arc.go:105", after := #[{ on := 4, ground := Ground.data }], guard := none }) (v := ?_) rfl (by kernel_rfl) (by kernel_rfl) (by kernel_rfl) (by kernel_rfl) (fun _ _ _ h => h) (Or.inl ⟨by rfl, ?_⟩) (by assumption) ?_
          rotate_left
          · intro w' hSw
            (try dsimp only at hSw)
            first | (go_simp; done) | (go_simp; with_reducible rfl)
          try simp only [Act.put, List.setIfInBounds_toArray, List.set_cons_zero, List.set_cons_succ]
          refine wpAnyK_take (i := 6) (oi := { dst := some 48, op := Op.fieldAddr 55 (Operand.tmp 2) 2, type := 0, pos := "arc.go:105", after := #[], guard := none }) (v := ?_) rfl (by kernel_rfl) (by kernel_rfl) (by kernel_rfl) (by kernel_rfl) (fun _ _ _ h => h) (Or.inl ⟨by rfl, ?_⟩) (by assumption) ?_
          rotate_left
          · intro w' hSw
            (try dsimp only at hSw)
            first | (go_simp; done) | (go_simp; with_reducible rfl)
          try simp only [Act.put, List.setIfInBounds_toArray, List.set_cons_zero, List.set_cons_succ]
          refine wpAnyK_take (i := 7) (oi := { dst := some 49, op := Op.load 53 (Operand.tmp 48), type := 53, pos := "arc.go:105", after := #[{ on := 6, ground := Ground.data }], guard := none }) (v := ?_) rfl (by kernel_rfl) (by kernel_rfl) (by kernel_rfl) (by kernel_rfl) (fun _ _ _ h => h) (Or.inl ⟨by rfl, ?_⟩) (by assumption) ?_
          rotate_left
          · intro w' hSw
            (try dsimp only at hSw)
            first | (go_simp; done) | (go_simp; with_reducible rfl)
          try simp only [Act.put, List.setIfInBounds_toArray, List.set_cons_zero, List.set_cons_succ]
          refine wpAnyK_one (i := 8) (o := { dst := some 50, op := Op.call { callee := Callee.value (Operand.func 96), args := #[Operand.tmp 47, Operand.tmp 49], argTypes := #[53, 53] }, type := 53, pos := "arc.go:105", after := #[{ on := 5, ground := Ground.data }, { on := 7, ground := Ground.data }], guard := none }) (by kernel_rfl) rfl (fun K hK => ?_)
          go_simp
          go_at_call 96
          refine (HAD.out _).mono ?_
          rintro e w7 ⟨rfl, hb70⟩
          have hb7 : Below wr.heap.size wr w7 := (below_drew (Below.refl _ _)).trans (hb70.mono (Nat.le_of_eq rfl))
          have HO7 := Lib.hid (own_below HOW.out hb7)
          have HX7 := Lib.hid (older HX.out hb7)
          have HB7 := Lib.hid (HB.out.trans (hb7.mono HB.out.size))
          clear hb70 hb7
          obtain ⟨o0, o1, o2⟩ := own_cells HO7.out (k * 2) (by omega)
          obtain ⟨p0, p1, p2⟩ := own_cells HO7.out (k * 2 + 1) (by omega)
          have k0 := o0.trans HC0.out
          have k1 := p0.trans HC1.out
          clear o0 p0 o2 p2
          obtain ⟨_, _, _, _, e4, e5⟩ := cell6 HX7.out
          refine hK.out _ _ ?_ (fun _ => ?_) (fun hHeld => ?_)
          · trivial
          · exact ⟨k0, k1, e4, e5⟩
          replace hHeld := And.intro hHeld.1 (hHeld.2 (by decide))
          clear hK K
          try simp only [Act.put, List.setIfInBounds_toArray, List.set_cons_zero, List.set_cons_succ]
          refine wpAnyK_take (i := 9) (oi := { dst := some 51, op := Op.indexAddr 25 (Operand.tmp 42) (Operand.tmp 43), type := 0, pos := "arc.go:105", after := #[{ on := 0, ground := Ground.data }, { on := 1, ground := Ground.data }, { on := 0, ground := Ground.phase }, { on := 1, ground := Ground.phase }, { on := 2, ground := Ground.phase }, { on := 3, ground := Ground.phase }, { on := 4, ground := Ground.phase }, { on := 5, ground := Ground.phase }, { on := 6, ground := Ground.phase }, { on := 7, ground := Ground.phase }, { on := 8, ground := Ground.phase }], guard := none }) (v := ?_) rfl (by kernel_rfl) (by kernel_rfl) (by kernel_rfl) (by kernel_rfl) (fun _ _ _ h => h) (Or.inl ⟨by rfl, ?_⟩) (by assumption) ?_
          rotate_left
          · intro w' hSw
            (try dsimp only at hSw)
            first | (go_simp; done) | (go_simp; with_reducible rfl)
          try simp only [Act.put, List.setIfInBounds_toArray, List.set_cons_zero, List.set_cons_succ]
          refine wpAnyK_one (i := 10) (o := { dst := none, op := Op.store 53 (Operand.tmp 51) (Operand.tmp 50), type := 0, pos := "arc.go:105", after := #[{ on := 9, ground := Ground.data }, { on := 8, ground := Ground.data }, { on := 8, ground := Ground.chain }, { on := 0, ground := Ground.phase }, { on := 1, ground := Ground.phase }, { on := 2, ground := Ground.phase }, { on := 3, ground := Ground.phase }, { on := 4, ground := Ground.phase }, { on := 5, ground := Ground.phase }, { on := 6, ground := Ground.phase }, { on := 7, ground := Ground.phase }, { on := 8, ground := Ground.phase }], guard := none }) (by kernel_rfl) rfl (fun K hK => ?_)
          go_simp
          refine hK.out _ _ ?_ (fun hne => ?_) (fun hHeld => ?_)
          · trivial
          · exact absurd rfl hne
          clear hK K
          try simp only [Act.put, List.setIfInBounds_toArray, List.set_cons_zero, List.set_cons_succ]
          refine wpAnyK_done (by kernel_rfl) ?_ _
          have HOF := Lib.hid (HWR.out _ HO7.out)
          have HXF : Hid (((w7.setCell ⟨g, k * 2, none⟩ (.int .i64 (x + cx))).setCell ⟨g, k * 2 + 1, none⟩ (.int .i64 (y + cy))).heap[w.heap.size]? = some (.cells #[.int .i64 fx, .int .i64 fy, .int .i64 tx, .int .i64 ty, .int .i64 cx, .int .i64 cy, .bool false] 55 (0, 0))) := Lib.hid (by
            have hgb : w2.heap.size ≤ g := (HO7.out.lt g rfl).1
            have h2 := HLT2.out
            rw [Below.heap_setCell _ _ _ _ (show w.heap.size ≠ g by omega), Below.heap_setCell _ _ _ _ (show w.heap.size ≠ g by omega)]
            exact HX7.out)
          have HBF := Lib.hid ((HB7.out.setCell (p := ⟨g, k * 2, none⟩) (show w.heap.size ≤ g by have := (HO7.out.lt g rfl).1; have := HLT2.out; omega) (.int .i64 (x + cx))).setCell (p := ⟨g, k * 2 + 1, none⟩) (show w.heap.size ≤ g by have := (HO7.out.lt g rfl).1; have := HLT2.out; omega) (.int .i64 (y + cy)))
          go_wp2_with fail
          go_roundw
          case rel => exact ⟨k + 1, by go_num, by omega, HOF, HXF, HBF⟩
          case measure => simp [intOf]; omega
        · obtain rfl : k = n := by omega
          obtain ⟨LM, hLM⟩ : ∃ LM, LC.map (addV (cx, cy)) = LM := ⟨_, rfl⟩
          have HNM : Hid (k = LM.length) := Lib.hid (by rw [← hLM, List.length_map, HN.out])
          have HO9 : Hid (wr.ownsRow w2.heap.size 53 2 (.slice (some ⟨g, 0, none⟩) k c) k (LM.flatMap ptCells)) := Lib.hid (by
            have h := HOW.out
            rw [← HN.out, List.take_length, List.drop_length, List.append_nil, hLM, HN.out] at h
            exact h)
          have HLM := Lib.hid hLM
          clear hLM HOW
          obtain ⟨c0, c1, c2, c3, c4, c5⟩ := cell6 HX.out
          have c6 : wr.cell? ⟨w.heap.size, 6, none⟩ = some (.bool false) := by simp [World.cell?, HX.out]
          go_wp2
          refine bodyPost_ret (v := .tuple #[.slice (some ⟨g, 0, none⟩) k c, .int .i64 0]) (by simp [results, Tryz.results42, go_sem]) rfl ⟨⟨_, rfl, ?_⟩, HB.out⟩
          have h := HO9.out
          rw [HFL.out, HLM.out]
          rw [← HNM.out]
          exact own_base h HZ2.out
    case true =>
      have HFL := HL2
      have HCH := HC2
      have HLC := Lib.hid (And.intro (And.intro HK2.out.1 HK2.out.2.1) HK2.out.2.2)
      clear HL1 HL2 HC1 HC2 HK1 HK2
      generalize chainA (tx - cx, ty - cy) (fx - cx, fy - cy) tol = LC at *
      have hne2 : b2 ≠ b1 := fun e => hne e.symm
      go_upto_region 8 with fail
      have d0 : ((((w2.setCell ⟨b1, 0, none⟩ (.int .i64 (tx - cx))).setCell ⟨b1, 1, none⟩ (.int .i64 (ty - cy))).setCell ⟨b2, 0, none⟩ (.int .i64 (fx - cx))).setCell ⟨b2, 1, none⟩ (.int .i64 (fy - cy))).cell? ⟨b1, 0, none⟩ = some (.int .i64 (tx - cx)) := by go_simp
      have d1 : ((((w2.setCell ⟨b1, 0, none⟩ (.int .i64 (tx - cx))).setCell ⟨b1, 1, none⟩ (.int .i64 (ty - cy))).setCell ⟨b2, 0, none⟩ (.int .i64 (fx - cx))).setCell ⟨b2, 1, none⟩ (.int .i64 (fy - cy))).cell? ⟨b1, 1, none⟩ = some (.int .i64 (ty - cy)) := by go_simp
      have d2 : ((((w2.setCell ⟨b1, 0, none⟩ (.int .i64 (tx - cx))).setCell ⟨b1, 1, none⟩ (.int .i64 (ty - cy))).setCell ⟨b2, 0, none⟩ (.int .i64 (fx - cx))).setCell ⟨b2, 1, none⟩ (.int .i64 (fy - cy))).cell? ⟨b2, 0, none⟩ = some (.int .i64 (fx - cx)) := by go_simp
      have d3 : ((((w2.setCell ⟨b1, 0, none⟩ (.int .i64 (tx - cx))).setCell ⟨b1, 1, none⟩ (.int .i64 (ty - cy))).setCell ⟨b2, 0, none⟩ (.int .i64 (fx - cx))).setCell ⟨b2, 1, none⟩ (.int .i64 (fy - cy))).cell? ⟨b2, 1, none⟩ = some (.int .i64 (fy - cy)) := by go_simp
      have hwb1 : w.heap.size ≤ b1 := by have := HLW.out; omega
      have hwb2 : w.heap.size ≤ b2 := by have := HLW.out; omega
      have HBS := Lib.hid ((((HB2.out.setCell (p := ⟨b1, 0, none⟩) hwb1 (.int .i64 (tx - cx))).setCell (p := ⟨b1, 1, none⟩) hwb1 (.int .i64 (ty - cy))).setCell (p := ⟨b2, 0, none⟩) hwb2 (.int .i64 (fx - cx))).setCell (p := ⟨b2, 1, none⟩) hwb2 (.int .i64 (fy - cy)))
      have HXS : Hid (((((w2.setCell ⟨b1, 0, none⟩ (.int .i64 (tx - cx))).setCell ⟨b1, 1, none⟩ (.int .i64 (ty - cy))).setCell ⟨b2, 0, none⟩ (.int .i64 (fx - cx))).setCell ⟨b2, 1, none⟩ (.int .i64 (fy - cy))).heap[w.heap.size]? = some (.cells #[.int .i64 fx, .int .i64 fy, .int .i64 tx, .int .i64 ty, .int .i64 cx, .int .i64 cy, .bool true] 55 (0, 0))) := Lib.hid (by
        have h1 := HLW.out
        rw [Below.heap_setCell _ _ _ _ (show w.heap.size ≠ b2 by omega), Below.heap_setCell _ _ _ _ (show w.heap.size ≠ b2 by omega), Below.heap_setCell _ _ _ _ (show w.heap.size ≠ b1 by omega), Below.heap_setCell _ _ _ _ (show w.heap.size ≠ b1 by omega)]
        exact HX2.out)
      clear u0 u1 ul v0 v1 vl hne hne2 hbe1 hbe2 z0 z1 z2 z3 hwb1 hwb2 HB2 HX2 HLT2
      have HB2 := HBS
      have HX2 := HXS
      clear HBS HXS
      generalize ((((w2.setCell ⟨b1, 0, none⟩ (.int .i64 (tx - cx))).setCell ⟨b1, 1, none⟩ (.int .i64 (ty - cy))).setCell ⟨b2, 0, none⟩ (.int .i64 (fx - cx))).setCell ⟨b2, 1, none⟩ (.int .i64 (fy - cy))) = w4 at *
      generalize w4 = w2 at *
      have HLT2 := Lib.hid (lt_of_block HX2.out)
      go_wp2_with fail
      refine (HCH.out _).mono ?_
      rintro e w3 ⟨⟨v, rfl, hown⟩, hb3⟩
      have hne : 0 < LC.length := by have := HLC.out.1.1; omega
      obtain ⟨g, c, rfl, hc⟩ : ∃ g c, v = .slice (some ⟨g, 0, none⟩) LC.length c ∧ LC.length ≤ c := by
        rcases hown.2 with ⟨_, h0⟩ | ⟨g, cap, cur, h1, _, _, h2, _⟩
        · omega
        · exact ⟨g, cap, h1, h2⟩
      have HX3 := Lib.hid (older HX2.out hb3)
      have HB3 := Lib.hid (HB2.out.trans (hb3.mono HB2.out.size))
      have HZ2 : Hid (w.heap.size ≤ w2.heap.size) := Lib.hid HB2.out.size
      obtain ⟨n, hn⟩ : ∃ n, LC.length = n := ⟨_, rfl⟩
      rw [hn] at hown hne hc ⊢
      have HN := Lib.hid hn
      have hnb : n ≤ 32001 := by rw [← hn]; exact HLC.out.1.2
      have HO3 := Lib.hid hown
      clear hown hb3 HX2 HCH d0 d1 d2 d3
      go_wp2_with fail
      go_loopw [39] (fun i wr => ∃ k : Nat, i = .int .i64 (k : Int) ∧ k ≤ n ∧ Hid (wr.ownsRow w2.heap.size 53 2 (.slice (some ⟨g, 0, none⟩) n c) n (((LC.take k).map (addV (cx, cy)) ++ LC.drop k).flatMap ptCells)) ∧ Hid (wr.heap[w.heap.size]? = some (.cells #[.int .i64 fx, .int .i64 fy, .int .i64 tx, .int .i64 ty, .int .i64 cx, .int .i64 cy, .bool true] 55 (0, 0))) ∧ Hid (Below w.heap.size w wr)) (fun i _ => n - (intOf i).toNat)
      case atStart => exact ⟨0, rfl, Nat.zero_le _, Lib.hid (by simpa using HO3.out), HX3, HB3⟩
      case round =>
        obtain ⟨k, rfl, hk, HOW, HX, HB⟩ := hrel
        clear HO3 HX3 HB3
        by_cases hlt : k < n
        · have hkl : k < LC.length := by rw [HN.out]; exact hlt
          have HSP : Hid (LC.drop k = LC[k] :: LC.drop (k + 1)) := Lib.hid (List.drop_eq_getElem_cons hkl)
          have HTP : Hid ((LC.take (k + 1)).map (addV (cx, cy)) = (LC.take k).map (addV (cx, cy)) ++ [addV (cx, cy) LC[k]]) := Lib.hid (by rw [List.take_succ_eq_append_getElem hkl, List.map_append]; rfl)
          have HLK := Lib.hid (HLC.out.2 _ (List.getElem_mem hkl))
          have HTL : Hid ((((LC.take k).map (addV (cx, cy))).flatMap ptCells).length = k * 2) := Lib.hid (by
            rw [flatMap_len pt_len, List.length_map, List.length_take]
            omega)
          generalize LC[k] = q at *
          obtain ⟨x, y⟩ := q
          have HOX : Hid (wr.ownsRow w2.heap.size 53 2 (.slice (some ⟨g, 0, none⟩) n c) n (((LC.take k).map (addV (cx, cy))).flatMap ptCells ++ (.int .i64 x :: .int .i64 y :: (LC.drop (k + 1)).flatMap ptCells))) := Lib.hid (by
            have h := HOW.out
            rw [HSP.out, List.flatMap_append, List.flatMap_cons] at h
            exact h)
          have HC0 : Hid ((((LC.take k).map (addV (cx, cy))).flatMap ptCells ++ (.int .i64 x :: .int .i64 y :: (LC.drop (k + 1)).flatMap ptCells))[k * 2]? = some (.int .i64 x)) := Lib.hid (by
            rw [List.getElem?_append_right (by rw [HTL.out]; exact Nat.le_refl _), HTL.out, Nat.sub_self]; rfl)
          have HC1 : Hid ((((LC.take k).map (addV (cx, cy))).flatMap ptCells ++ (.int .i64 x :: .int .i64 y :: (LC.drop (k + 1)).flatMap ptCells))[k * 2 + 1]? = some (.int .i64 y)) := Lib.hid (by
            rw [List.getElem?_append_right (by rw [HTL.out]; omega), HTL.out, show k * 2 + 1 - k * 2 = 1 by omega]; rfl)
          clear HOW
          have HOW := HOX
          clear HOX
          have HAD := Lib.hid (fun W => add_any x y cx cy W (by have := HLK.out; omega) (by have := HLK.out; omega) (by have := HCB.out; omega) (by have := HCB.out; omega))
          obtain ⟨o0, o1, o2⟩ := own_cells HOW.out (k * 2) (by omega)
          obtain ⟨p0, p1, p2⟩ := own_cells HOW.out (k * 2 + 1) (by omega)
          have a0 := o0.trans HC0.out
          have a1 := p0.trans HC1.out
          clear o0 o1 o2 p0 p1 p2
          obtain ⟨_, _, _, _, a4, a5⟩ := cell6 HX.out
          have hk1 : (0 : Int) ≤ (k : Int) := by omega
          have hk2 : (k : Int) < (n : Int) := by omega
          have HWR : Hid (∀ w7 : World, w7.ownsRow w2.heap.size 53 2 (.slice (some ⟨g, 0, none⟩) n c) n (((LC.take k).map (addV (cx, cy))).flatMap ptCells ++ (.int .i64 x :: .int .i64 y :: (LC.drop (k + 1)).flatMap ptCells)) → ((w7.setCell ⟨g, k * 2, none⟩ (.int .i64 (x + cx))).setCell ⟨g, k * 2 + 1, none⟩ (.int .i64 (y + cy))).ownsRow w2.heap.size 53 2 (.slice (some ⟨g, 0, none⟩) n c) n (((LC.take (k + 1)).map (addV (cx, cy)) ++ LC.drop (k + 1)).flatMap ptCells)) := Lib.hid (fun w7 h => by
            have h2 := own_write h (k * 2) [.int .i64 (x + cx), .int .i64 (y + cy)] (by simp; omega)
            have e1 : w7.setCells g (k * 2) [.int .i64 (x + cx), .int .i64 (y + cy)] = (w7.setCell ⟨g, k * 2, none⟩ (.int .i64 (x + cx))).setCell ⟨g, k * 2 + 1, none⟩ (.int .i64 (y + cy)) := rfl
            rw [e1] at h2
            rw [HTP.out, List.flatMap_append, List.flatMap_append]
            rw [List.take_append_of_le_length (by rw [HTL.out]; exact Nat.le_refl _), List.take_of_length_le (by rw [HTL.out]; exact Nat.le_refl _), List.drop_append, HTL.out, List.drop_of_length_le (by rw [HTL.out]; omega)] at h2
            have e2 : k * 2 + [Value.int .i64 (x + cx), .int .i64 (y + cy)].length - k * 2 = 2 := by simp
            rw [e2] at h2
            simpa [ptCells, addV] using h2)
          clear HSP HTP
          go_upto_region 12 with fail
          refine wp_region_tillK (k := 10) (S1 := fun w' => True) (S2 := fun w' => (w'.cell? ⟨g, k * 2, none⟩ = some (.int .i64 x) ∧ w'.cell? ⟨g, k * 2 + 1, none⟩ = some (.int .i64 y) ∧ w'.cell? ⟨w.heap.size, 4, none⟩ = some (.int .i64 cx) ∧ w'.cell? ⟨w.heap.size, 5, none⟩ = some (.int .i64 cy))) (by kernel_rfl) ?_ (fun hHeld => ?_)
          · exact ⟨trivial, a0, a1, a4, a5⟩
          refine wpAnyK_take (i := 0) (oi := { dst := some 42, op := Op.move (Operand.tmp 8), type := 25, pos := "arc.go:105", after := #[], guard := none }) (v := ?_) rfl (by kernel_rfl) (by kernel_rfl) (by kernel_rfl) (by kernel_rfl) (fun _ _ _ h => h) (Or.inl ⟨by rfl, ?_⟩) (by assumption) ?_
          rotate_left
          · intro w' hSw
            (try dsimp only at hSw)
            first | (go_simp; done) | (go_simp; with_reducible rfl)
          try simp only [Act.put, List.setIfInBounds_toArray, List.set_cons_zero, List.set_cons_succ]
          refine wpAnyK_take (i := 1) (oi := { dst := some 43, op := Op.move (Operand.tmp 9), type := 3, pos := "arc.go:105", after := #[], guard := none }) (v := ?_) rfl (by kernel_rfl) (by kernel_rfl) (by kernel_rfl) (by kernel_rfl) (fun _ _ _ h => h) (Or.inl ⟨by rfl, ?_⟩) (by assumption) ?_
          rotate_left
          · intro w' hSw
            (try dsimp only at hSw)
            first | (go_simp; done) | (go_simp; with_reducible rfl)
          try simp only [Act.put, List.setIfInBounds_toArray, List.set_cons_zero, List.set_cons_succ]
          refine wpAnyK_take (i := 2) (oi := { dst := some 44, op := Op.move (Operand.tmp 8), type := 25, pos := "arc.go:105", after := #[], guard := none }) (v := ?_) rfl (by kernel_rfl) (by kernel_rfl) (by kernel_rfl) (by kernel_rfl) (fun _ _ _ h => h) (Or.inl ⟨by rfl, ?_⟩) (by assumption) ?_
          rotate_left
          · intro w' hSw
            (try dsimp only at hSw)
            first | (go_simp; done) | (go_simp; with_reducible rfl)
          try simp only [Act.put, List.setIfInBounds_toArray, List.set_cons_zero, List.set_cons_succ]
          refine wpAnyK_take (i := 3) (oi := { dst := some 45, op := Op.move (Operand.tmp 9), type := 3, pos := "arc.go:105", after := #[], guard := none }) (v := ?_) rfl (by kernel_rfl) (by kernel_rfl) (by kernel_rfl) (by kernel_rfl) (fun _ _ _ h => h) (Or.inl ⟨by rfl, ?_⟩) (by assumption) ?_
          rotate_left
          · intro w' hSw
            (try dsimp only at hSw)
            first | (go_simp; done) | (go_simp; with_reducible rfl)
          try simp only [Act.put, List.setIfInBounds_toArray, List.set_cons_zero, List.set_cons_succ]
          refine wpAnyK_take (i := 4) (oi := { dst := some 46, op := Op.indexAddr 25 (Operand.tmp 44) (Operand.tmp 45), type := 0, pos := "arc.go:105", after := #[{ on := 2, ground := Ground.data }, { on := 3, ground := Ground.data }], guard := none }) (v := ?_) rfl (by kernel_rfl) (by kernel_rfl) (by kernel_rfl) (by kernel_rfl) (fun _ _ _ h => h) (Or.inl ⟨by rfl, ?_⟩) (by assumption) ?_
          rotate_left
          · intro w' hSw
            (try dsimp only at hSw)
            first | (go_simp; done) | (go_simp; with_reducible rfl)
          try simp only [Act.put, List.setIfInBounds_toArray, List.set_cons_zero, List.set_cons_succ]
          refine wpAnyK_take (i := 5) (oi := { dst := some 47, op := Op.load 53 (Operand.tmp 46), type := 53, pos := "arc.go:105", after := #[{ on := 4, ground := Ground.data }], guard := none }) (v := ?_) rfl (by kernel_rfl) (by kernel_rfl) (by kernel_rfl) (by kernel_rfl) (fun _ _ _ h => h) (Or.inl ⟨by rfl, ?_⟩) (by assumption) ?_
          rotate_left
          · intro w' hSw
            (try dsimp only at hSw)
            first | (go_simp; done) | (go_simp; with_reducible rfl)
          try simp only [Act.put, List.setIfInBounds_toArray, List.set_cons_zero, List.set_cons_succ]
          refine wpAnyK_take (i := 6) (oi := { dst := some 48, op := Op.fieldAddr 55 (Operand.tmp 2) 2, type := 0, pos := "arc.go:105", after := #[], guard := none }) (v := ?_) rfl (by kernel_rfl) (by kernel_rfl) (by kernel_rfl) (by kernel_rfl) (fun _ _ _ h => h) (Or.inl ⟨by rfl, ?_⟩) (by assumption) ?_
          rotate_left
          · intro w' hSw
            (try dsimp only at hSw)
            first | (go_simp; done) | (go_simp; with_reducible rfl)
          try simp only [Act.put, List.setIfInBounds_toArray, List.set_cons_zero, List.set_cons_succ]
          refine wpAnyK_take (i := 7) (oi := { dst := some 49, op := Op.load 53 (Operand.tmp 48), type := 53, pos := "arc.go:105", after := #[{ on := 6, ground := Ground.data }], guard := none }) (v := ?_) rfl (by kernel_rfl) (by kernel_rfl) (by kernel_rfl) (by kernel_rfl) (fun _ _ _ h => h) (Or.inl ⟨by rfl, ?_⟩) (by assumption) ?_
          rotate_left
          · intro w' hSw
            (try dsimp only at hSw)
            first | (go_simp; done) | (go_simp; with_reducible rfl)
          try simp only [Act.put, List.setIfInBounds_toArray, List.set_cons_zero, List.set_cons_succ]
          refine wpAnyK_one (i := 8) (o := { dst := some 50, op := Op.call { callee := Callee.value (Operand.func 96), args := #[Operand.tmp 47, Operand.tmp 49], argTypes := #[53, 53] }, type := 53, pos := "arc.go:105", after := #[{ on := 5, ground := Ground.data }, { on := 7, ground := Ground.data }], guard := none }) (by kernel_rfl) rfl (fun K hK => ?_)
          go_simp
          go_at_call 96
          refine (HAD.out _).mono ?_
          rintro e w7 ⟨rfl, hb70⟩
          have hb7 : Below wr.heap.size wr w7 := (below_drew (Below.refl _ _)).trans (hb70.mono (Nat.le_of_eq rfl))
          have HO7 := Lib.hid (own_below HOW.out hb7)
          have HX7 := Lib.hid (older HX.out hb7)
          have HB7 := Lib.hid (HB.out.trans (hb7.mono HB.out.size))
          clear hb70 hb7
          obtain ⟨o0, o1, o2⟩ := own_cells HO7.out (k * 2) (by omega)
          obtain ⟨p0, p1, p2⟩ := own_cells HO7.out (k * 2 + 1) (by omega)
          have k0 := o0.trans HC0.out
          have k1 := p0.trans HC1.out
          clear o0 p0 o2 p2
          obtain ⟨_, _, _, _, e4, e5⟩ := cell6 HX7.out
          refine hK.out _ _ ?_ (fun _ => ?_) (fun hHeld => ?_)
          · trivial
          · exact ⟨k0, k1, e4, e5⟩
          replace hHeld := And.intro hHeld.1 (hHeld.2 (by decide))
          clear hK K
          try simp only [Act.put, List.setIfInBounds_toArray, List.set_cons_zero, List.set_cons_succ]
          refine wpAnyK_take (i := 9) (oi := { dst := some 51, op := Op.indexAddr 25 (Operand.tmp 42) (Operand.tmp 43), type := 0, pos := "arc.go:105", after := #[{ on := 0, ground := Ground.data }, { on := 1, ground := Ground.data }, { on := 0, ground := Ground.phase }, { on := 1, ground := Ground.phase }, { on := 2, ground := Ground.phase }, { on := 3, ground := Ground.phase }, { on := 4, ground := Ground.phase }, { on := 5, ground := Ground.phase }, { on := 6, ground := Ground.phase }, { on := 7, ground := Ground.phase }, { on := 8, ground := Ground.phase }], guard := none }) (v := ?_) rfl (by kernel_rfl) (by kernel_rfl) (by kernel_rfl) (by kernel_rfl) (fun _ _ _ h => h) (Or.inl ⟨by rfl, ?_⟩) (by assumption) ?_
          rotate_left
          · intro w' hSw
            (try dsimp only at hSw)
            first | (go_simp; done) | (go_simp; with_reducible rfl)
          try simp only [Act.put, List.setIfInBounds_toArray, List.set_cons_zero, List.set_cons_succ]
          refine wpAnyK_one (i := 10) (o := { dst := none, op := Op.store 53 (Operand.tmp 51) (Operand.tmp 50), type := 0, pos := "arc.go:105", after := #[{ on := 9, ground := Ground.data }, { on := 8, ground := Ground.data }, { on := 8, ground := Ground.chain }, { on := 0, ground := Ground.phase }, { on := 1, ground := Ground.phase }, { on := 2, ground := Ground.phase }, { on := 3, ground := Ground.phase }, { on := 4, ground := Ground.phase }, { on := 5, ground := Ground.phase }, { on := 6, ground := Ground.phase }, { on := 7, ground := Ground.phase }, { on := 8, ground := Ground.phase }], guard := none }) (by kernel_rfl) rfl (fun K hK => ?_)
          go_simp
          refine hK.out _ _ ?_ (fun hne => ?_) (fun hHeld => ?_)
          · trivial
          · exact absurd rfl hne
          clear hK K
          try simp only [Act.put, List.setIfInBounds_toArray, List.set_cons_zero, List.set_cons_succ]
          refine wpAnyK_done (by kernel_rfl) ?_ _
          have HOF := Lib.hid (HWR.out _ HO7.out)
          have HXF : Hid (((w7.setCell ⟨g, k * 2, none⟩ (.int .i64 (x + cx))).setCell ⟨g, k * 2 + 1, none⟩ (.int .i64 (y + cy))).heap[w.heap.size]? = some (.cells #[.int .i64 fx, .int .i64 fy, .int .i64 tx, .int .i64 ty, .int .i64 cx, .int .i64 cy, .bool true] 55 (0, 0))) := Lib.hid (by
            have hgb : w2.heap.size ≤ g := (HO7.out.lt g rfl).1
            have h2 := HLT2.out
            rw [Below.heap_setCell _ _ _ _ (show w.heap.size ≠ g by omega), Below.heap_setCell _ _ _ _ (show w.heap.size ≠ g by omega)]
            exact HX7.out)
          have HBF := Lib.hid ((HB7.out.setCell (p := ⟨g, k * 2, none⟩) (show w.heap.size ≤ g by have := (HO7.out.lt g rfl).1; have := HLT2.out; omega) (.int .i64 (x + cx))).setCell (p := ⟨g, k * 2 + 1, none⟩) (show w.heap.size ≤ g by have := (HO7.out.lt g rfl).1; have := HLT2.out; omega) (.int .i64 (y + cy)))
          go_wp2_with fail
          go_roundw
          case rel => exact ⟨k + 1, by go_num, by omega, HOF, HXF, HBF⟩
          case measure => simp [intOf]; omega
        · obtain rfl : k = n := by omega
          obtain ⟨LM, hLM⟩ : ∃ LM, LC.map (addV (cx, cy)) = LM := ⟨_, rfl⟩
          have HNM : Hid (k = LM.length) := Lib.hid (by rw [← hLM, List.length_map, HN.out])
          have HO9 : Hid (wr.ownsRow w2.heap.size 53 2 (.slice (some ⟨g, 0, none⟩) k c) k (LM.flatMap ptCells)) := Lib.hid (by
            have h := HOW.out
            rw [← HN.out, List.take_length, List.drop_length, List.append_nil, hLM, HN.out] at h
            exact h)
          have HLM := Lib.hid hLM
          clear hLM HOW
          obtain ⟨c0, c1, c2, c3, c4, c5⟩ := cell6 HX.out
          have c6 : wr.cell? ⟨w.heap.size, 6, none⟩ = some (.bool true) := by simp [World.cell?, HX.out]
          have HRV := Lib.hid (revV_any LM w2.heap.size k (.slice (some ⟨g, 0, none⟩) k c) wr HNM.out HO9.out)
          go_wp2_with fail
          refine HRV.out.mono ?_
          rintro e w8 ⟨rfl, hown8, hb8⟩
          have HO8 := Lib.hid hown8
          have HB8 := Lib.hid (HB.out.trans (hb8.mono HZ2.out |> fun h => ⟨h.os, h.tape, h.output, h.size, h.block⟩))
          clear hown8 hb8
          go_wp2
          refine bodyPost_ret (v := .tuple #[.slice (some ⟨g, 0, none⟩) k c, .int .i64 0]) (by simp [results, Tryz.results42, go_sem]) rfl ⟨⟨_, rfl, ?_⟩, HB8.out⟩
          have h := HO8.out
          rw [HFL.out, HLM.out]
          rw [List.length_reverse]
          rw [← HNM.out]
          exact own_base h HZ2.out
theorem flat_at (x : Ent) (tol : Int) (hk : x.kind = 2) (h1 : 1 ≤ tol) (h2 : tol ≤ 50) (h : entOk x = true) : FlatAt x tol (flatL x.f x.t x.c x.cw tol) := by
  have ha : arcOk x.f x.t x.c = true := by
    unfold entOk at h
    rw [if_neg (by omega), if_pos hk] at h
    unfold turnOk at h
    simp only [Bool.and_eq_true] at h
    exact h.2.2.1
  have hb := flat_bounds (cw := x.cw) (tol := tol) ha
  refine ⟨⟨hb.1.1, by have := hb.1.2; omega⟩, fun p hp => ?_, fun W => ?_⟩
  · have := hb.2 p hp
    unfold WfV
    constructor <;> simp [Lit.wf, IntKind.min, IntKind.max, IntKind.signed, IntKind.bits] <;> omega
  · exact flatten_any x.f.1 x.f.2 x.t.1 x.t.2 x.c.1 x.c.2 x.cw tol W ha ⟨h1, h2⟩
end Go.Proofs.YtnmmhcchpcbeeaaGreat.GeW

namespace Go.Proofs.YtnmmhcchpcbeeaaGreat.GeW
open Go Go.RowKit Go.Proofs.YtnmmhcchpcbeeaaGreat.Mem Go.Proofs.YtnmmhcchpcbeeaaGreat.Ge
open Go.Proofs.YtnmmhcchpcbeeaaGreat.GtW (EntsRaw FewE FewRes few_any own_all info_rentA rdrawOk_any)
attribute [local go_sem ↓] Go.wp_at_zero Go.wp_at_succ
structure RgRow (w : World) (A : Option Addr) (rs : List RowV) : Prop where
  row : Row w A (rs.map rowVal)
  each : ∀ r ∈ rs, Row w r.A (r.l.flatMap ptCells)
theorem RgRow.below {w w' : World} {A : Option Addr} {rs : List RowV} (h : RgRow w A rs) (hb : Below w.heap.size w w') : RgRow w' A rs := ⟨h.row.below hb, fun r hr => (h.each r hr).below hb⟩
def flA (tol : Int) (x : Ent) : List V := flatL x.f x.t x.c x.cw tol
set_option maxRecDepth 100000 in
set_option maxHeartbeats 8000000 in
theorem layersLaw_walk (es : List EntV) (A : Option Addr) (c : Nat) (L : ByteArray) (t : Nat) (w : World) (h : EntsRaw w A es) (ht : t < 256) :
    Calls Tryz.prog 6 #[.slice A es.length c, .string L, .int .u8 (t : Int)] w fun e w' => e = .returned (.bool true) ∧ Below w.heap.size w w' := by
  obtain ⟨layer, rfl⟩ : ∃ l : List UInt8, L = ⟨l.toArray⟩ := ⟨L.data.toList, by cases L; simp⟩
  have HRW := Lib.hid h
  have hsz : (ByteArray.mk layer.toArray).size = layer.length := by simp [ByteArray.size]
  have HAW := Lib.hid (awake_any w)
  have HF := Lib.hid (fun W hW => few_any 16 es A c W hW)
  have HVD := Lib.hid (fun W hW => rdrawOk_any es A c W hW)
  obtain ⟨i0, ia, ib, ic, id⟩ := info_parts info_rentA
  clear h
  go_enter Tryz.func6, Tryz.ntmps6
  go_wp2_with fail
  refine HAW.out.mono ?_
  rintro e w1 ⟨rfl, hb1⟩
  have HB1 := Lib.hid hb1
  have HF1 := Lib.hid (HF.out w1 (HRW.out.below hb1))
  clear hb1 HAW HF
  go_wp2_with fail
  refine HF1.out.mono ?_
  rintro e w2 ⟨⟨b, rfl, hfew⟩, hb2⟩
  have HB2 := Lib.hid (HB1.out.trans (hb2.mono HB1.out.size))
  clear hb2 HF1
  cases b
  · clear hfew
    go_wp2
    go_ret
    exact ⟨rfl, HB2.out⟩
  by_cases h40 : layer.length ≤ 40
  case neg =>
    have d40 : decide (40 < ((ByteArray.mk layer.toArray).size : Int)) = true := decide_eq_true (by omega)
    clear h40 hsz hfew
    generalize (ByteArray.mk layer.toArray) = L at *
    go_wp2
    go_ret
    exact ⟨rfl, HB2.out⟩
  have d40 : decide (40 < ((ByteArray.mk layer.toArray).size : Int)) = false := decide_eq_false (by omega)
  have HFE := Lib.hid (hfew rfl)
  have HEN := Lib.hid (HRW.out.few HFE.out (by omega))
  have hes : es.length ≤ 16 := HFE.out.2
  have HVW := Lib.hid (HVD.out w2 (HEN.out.below HB2.out))
  clear hfew h40 hsz HRW HFE HVD
  obtain ⟨LB, hLB⟩ : ∃ LB, ByteArray.mk layer.toArray = LB := ⟨_, rfl⟩
  have HLB := Lib.hid hLB
  rw [hLB] at d40 ⊢
  clear hLB
  go_wp2_with fail
  refine HVW.out.mono ?_
  rintro e w3 ⟨rfl, hb3⟩
  have HB3 := Lib.hid (HB2.out.trans (hb3.mono HB2.out.size))
  clear hb3 HVW HB2
  cases hdo : drawOk (es.map EntV.e)
  · clear hdo
    go_wp2
    go_ret
    exact ⟨rfl, HB3.out⟩
  have HDO := Lib.hid hdo
  have hLB := HLB.out
  subst hLB
  clear hdo d40 HLB
  go_wp2_with fail
  go_loopw [7, 8] (fun m i wr => ∃ (k j : Nat) (mA : Option Addr) (mc : Nat), m = .slice mA j mc ∧ i = .int .i64 (k : Int) ∧ k ≤ es.length ∧ Hid ((layV layer (es.take k)).length = j ∧ j ≤ 16) ∧ Hid (wr.ownsRow w.heap.size 57 14 (.slice mA j mc) j ((layV layer (es.take k)).flatMap entVals)) ∧ Hid (Below w.heap.size w wr)) (fun _ i _ => es.length - (intOf i).toNat)
  case atStart => exact ⟨0, 0, none, 0, rfl, rfl, Nat.zero_le _, Lib.hid ⟨rfl, by omega⟩, Lib.hid (World.ownsRow_nil _ _ _ _), HB3⟩
  case round =>
    obtain ⟨k, j, mA, mc, rfl, rfl, hk, HJ, HOW, HB⟩ := hrel
    by_cases hlt : k < es.length
    · have HTK := Lib.hid (layV_snoc layer es k hlt)
      have hj16 : j ≤ 16 := HJ.out.2
      have HJ2 : Hid ((layV layer (es.take (k + 1))).length ≤ 16) := Lib.hid (Nat.le_trans (layV_len _ _) (by rw [List.length_take]; omega))
      obtain ⟨g, off, rfl, hg, ca⟩ := row_get ent_len (by decide) HEN.out.1 (by omega)
      have a0 := (HB.out.cell (p := ⟨g, off + k * 14, none⟩) hg).trans (ca k hlt 0 (by decide))
      have a1 := (HB.out.cell (p := ⟨g, off + k * 14 + 1, none⟩) hg).trans (ca k hlt 1 (by decide))
      have a2 := (HB.out.cell (p := ⟨g, off + k * 14 + 2, none⟩) hg).trans (ca k hlt 2 (by decide))
      have a3 := (HB.out.cell (p := ⟨g, off + k * 14 + 3, none⟩) hg).trans (ca k hlt 3 (by decide))
      have a4 := (HB.out.cell (p := ⟨g, off + k * 14 + 4, none⟩) hg).trans (ca k hlt 4 (by decide))
      have a5 := (HB.out.cell (p := ⟨g, off + k * 14 + 5, none⟩) hg).trans (ca k hlt 5 (by decide))
      have a6 := (HB.out.cell (p := ⟨g, off + k * 14 + 6, none⟩) hg).trans (ca k hlt 6 (by decide))
      have a7 := (HB.out.cell (p := ⟨g, off + k * 14 + 7, none⟩) hg).trans (ca k hlt 7 (by decide))
      have a8 := (HB.out.cell (p := ⟨g, off + k * 14 + 8, none⟩) hg).trans (ca k hlt 8 (by decide))
      have a9 := (HB.out.cell (p := ⟨g, off + k * 14 + 9, none⟩) hg).trans (ca k hlt 9 (by decide))
      have a10 := (HB.out.cell (p := ⟨g, off + k * 14 + 10, none⟩) hg).trans (ca k hlt 10 (by decide))
      have a11 := (HB.out.cell (p := ⟨g, off + k * 14 + 11, none⟩) hg).trans (ca k hlt 11 (by decide))
      have a12 := (HB.out.cell (p := ⟨g, off + k * 14 + 12, none⟩) hg).trans (ca k hlt 12 (by decide))
      have a13 := (HB.out.cell (p := ⟨g, off + k * 14 + 13, none⟩) hg).trans (ca k hlt 13 (by decide))
      clear ca
      generalize es[k] = q at *
      have HLQ : Hid (inLay layer q.e = decide (q.e.layer = layer)) := Lib.hid rfl
      obtain ⟨⟨kd, lay, ⟨ax, ay⟩, ⟨bx, b_y⟩, ⟨fx, fy⟩, ⟨tx, ty⟩, ⟨cx, cy⟩, cw, pts⟩, qA, qk⟩ := q
      simp only [entVals, List.getElem?_cons_zero, List.getElem?_cons_succ] at a0 a1 a2 a3 a4 a5 a6 a7 a8 a9 a10 a11 a12 a13
      have hk1 : (0 : Int) ≤ (k : Int) := by omega
      have hk2 : (k : Int) < (es.length : Int) := by omega
      dsimp only at HLQ
      by_cases hly : lay = layer
      · have HQT : Hid (layV layer (es.take (k + 1)) = layV layer (es.take k) ++ [_]) := Lib.hid (HTK.out.trans (by rw [HLQ.out, decide_eq_true hly, if_pos rfl]))
        have HJ7 : Hid ((layV layer (es.take (k + 1))).length = j + 1 ∧ j + 1 ≤ 16) := Lib.hid (by
          have h1 := HJ2.out
          rw [HQT.out, List.length_append, HJ.out.1] at h1 ⊢
          exact ⟨rfl, h1⟩)
        have heq : (lay == layer) = true := beq_iff_eq.2 hly
        clear HTK HLQ HJ2 hly
        have HOA := Lib.hid (HOW.out.alloc (.cells #[.int .i64 kd, .string ⟨lay.toArray⟩, .int .i64 ax, .int .i64 ay, .int .i64 bx, .int .i64 b_y, .int .i64 fx, .int .i64 fy, .int .i64 tx, .int .i64 ty, .int .i64 cx, .int .i64 cy, .bool cw, .slice qA pts.length qk] 57))
        have HBA := Lib.hid (HB.out.trans ((bel1 wr (.cells #[.int .i64 kd, .string ⟨lay.toArray⟩, .int .i64 ax, .int .i64 ay, .int .i64 bx, .int .i64 b_y, .int .i64 fx, .int .i64 fy, .int .i64 tx, .int .i64 ty, .int .i64 cx, .int .i64 cy, .bool cw, .slice qA pts.length qk] 57)).mono HB.out.size))
        have C2 : Hid (j + 1 ≤ maxLen ∧ (j + 1) * 136 ≤ 140737488355328 ∧ ∀ u ∈ ([.int .i64 kd, .string ⟨lay.toArray⟩, .int .i64 ax, .int .i64 ay, .int .i64 bx, .int .i64 b_y, .int .i64 fx, .int .i64 fy, .int .i64 tx, .int .i64 ty, .int .i64 cx, .int .i64 cy, .bool cw, .slice qA pts.length qk] : List Value), u.oneCell' = true) := Lib.hid ⟨by unfold maxLen; omega, by omega, by intro u hu; simp at hu; rcases hu with rfl | rfl | rfl | rfl | rfl | rfl | rfl | rfl | rfl | rfl | rfl | rfl | rfl | rfl <;> rfl⟩
        go_wp2_with (at_builtin; refine wpList_append_row _ rfl _ _ 34 rfl w.heap.size 57 i0 _ 14 136 Tryz.underlying34 ia ib ic id rfl (by omega) _ _ _ rfl HOA.out (some ⟨wr.heap.size, 0, none⟩) 1 1 [.int .i64 kd, .string ⟨lay.toArray⟩, .int .i64 ax, .int .i64 ay, .int .i64 bx, .int .i64 b_y, .int .i64 fx, .int .i64 fy, .int .i64 tx, .int .i64 ty, .int .i64 cx, .int .i64 cy, .bool cw, .slice qA pts.length qk] rfl (newN_row wr [.int .i64 kd, .string ⟨lay.toArray⟩, .int .i64 ax, .int .i64 ay, .int .i64 bx, .int .i64 b_y, .int .i64 fx, .int .i64 fy, .int .i64 tx, .int .i64 ty, .int .i64 cx, .int .i64 cy, .bool cw, .slice qA pts.length qk] 57) rfl C2.out.2.2 C2.out.1 C2.out.2.1 HBA.out.size ?_)
        intro v7 w7 hown7 hg7
        obtain ⟨B7, d7, rfl, _⟩ := own_shape hown7
        have HO7 : Hid (w7.ownsRow w.heap.size 57 14 (.slice B7 (j + 1) d7) (j + 1) ((layV layer (es.take (k + 1))).flatMap entVals)) := Lib.hid (by
          rw [HQT.out, flatMap_snoc]
          exact hown7)
        have HB7 := Lib.hid (below_grown2 HBA.out hg7 (fun b hb => (HOA.out.lt b hb).1) HBA.out.size)
        clear hown7 hg7 HOA HBA C2 a0 a1 a2 a3 a4 a5 a6 a7 a8 a9 a10 a11 a12 a13
        go_wp2_with fail
        go_roundw
        case rel => exact ⟨k + 1, j + 1, B7, d7, rfl, by go_num, hlt, HJ7, HO7, HB7⟩
        case measure => simp [intOf]; omega
      · have HQT : Hid (layV layer (es.take (k + 1)) = layV layer (es.take k)) := Lib.hid (HTK.out.trans (by rw [HLQ.out, decide_eq_false hly, if_neg Bool.false_ne_true, List.append_nil]))
        have heq : (lay == layer) = false := beq_eq_false_iff_ne.2 hly
        clear HTK HLQ HJ2 hly
        go_wp2_with fail
        go_roundw
        case rel => exact ⟨k + 1, j, mA, mc, rfl, by go_num, hlt, Lib.hid (by rw [HQT.out]; exact HJ.out), Lib.hid (by rw [HQT.out]; exact HOW.out), HB⟩
        case measure => simp [intOf]; omega
    · obtain rfl : k = es.length := by omega
      rw [List.take_length] at HJ HOW
      have HFS : Hid (ents (layV layer es) = (ents es).filter (inLay layer)) := Lib.hid (layV_ents layer es)
      have HEL : Hid (Ents wr mA (layV layer es)) := Lib.hid ⟨Row.of_own HOW.out, layV_pts (fun x hx => (HEN.out.2.1 x hx).below HB.out), by have := HJ.out; omega⟩
      have hfj := HJ.out.1
      have hj := HJ.out.2
      generalize layV layer es = fs at *
      subst hfj
      clear HOW HJ
      have ht2 : (0 : Int) ≤ (t : Int) ∧ (t : Int) < 256 := by omega
      go_upto_region 12 with fail
      obtain ⟨tol, htol⟩ : ∃ tol, 1 + (t : Int) % 50 = tol := ⟨_, rfl⟩
      rw [htol]
      have HT : Hid (1 ≤ tol ∧ tol ≤ 50) := Lib.hid (by omega)
      clear htol ht2 ht
      have HEQ : Hid (ringsP (flA tol) (ents fs) layer tol = ringsP (flA tol) (ents es) layer tol) := Lib.hid (by rw [HFS.out]; exact rings_lay HDO.out)
      have HFA : Hid (∀ x : Ent, x.kind = 2 → x.layer = layer → 1 ≤ tol → tol ≤ 50 → entOk x = true → FlatAt x tol (flA tol x)) := Lib.hid (fun x hk _ h1 h2 h3 => flat_at x tol hk h1 h2 h3)
      have HR1 := Lib.hid (fun B d W hr => rings_any es B d W layer tol (flA tol) hr (fun x _ => HFA.out x.e))
      have HR2 := Lib.hid (fun B d W hr => rings_any fs B d W layer tol (flA tol) hr (fun x _ => HFA.out x.e))
      have HS1 := Lib.hid (fun B d W hr => shapes_any es B d W layer tol (flA tol) hr (fun x _ => HFA.out x.e))
      have HS2 := Lib.hid (fun B d W hr => shapes_any fs B d W layer tol (flA tol) hr (fun x _ => HFA.out x.e))
      rw [HEQ.out] at HR2 HS2
      have HVB := Lib.hid (ringsP_valid (flA tol) (ents es) layer tol)
      have HFW := Lib.hid (ringsP_few (flA tol) (ents es) layer tol)
      have HO1 := Lib.hid (fun W hW => own_all es A c W hW (by omega))
      have HO2 := Lib.hid (fun W hW => own_all fs mA mc W hW (by omega))
      have HEW := Lib.hid (HEN.out.below HB.out)
      clear HFS HDO HFA HEQ HEN HT
      generalize ringsP (flA tol) (ents es) layer tol = rp at *
      obtain ⟨ec, ls⟩ := rp
      try dsimp only at HVB HFW
      have hb4 := HO1.out wr HEW.out
      have H4 := Lib.hid hb4
      clear hb4
      go_wp2_with fail
      refine H4.out.mono ?_
      rintro e w4 ⟨B4, d4, rfl, hen4, hb4⟩
      have H5 := Lib.hid (HR1.out B4 d4 w4 hen4)
      have HB4 := Lib.hid (HB.out.trans (hb4.mono HB.out.size))
      have HEW4 := Lib.hid (HEW.out.below hb4)
      have HEL4 := Lib.hid (HEL.out.below hb4)
      clear hen4 hb4 H4 HB HEW HEL HR1
      go_wp2_with fail
      refine H5.out.mono ?_
      rintro e w5 ⟨⟨v5, rfl, rs5, hls5, hown5, hpt5⟩, hb5⟩
      try dsimp only at hls5
      obtain ⟨A5, c5, rfl, _⟩ := own_shape hown5
      have HB5 := Lib.hid (HB4.out.trans (hb5.mono HB4.out.size))
      have HEW5 := Lib.hid (HEW4.out.below hb5)
      have HEL5 := Lib.hid (HEL4.out.below hb5)
      have HG5 : Hid (RgRow w5 A5 rs5) := Lib.hid ⟨Row.of_own hown5, fun r hr => (hpt5 r hr).1.1⟩
      have HLS5 := Lib.hid hls5
      have H6 := Lib.hid (HO2.out w5 HEL5.out)
      clear hls5 hown5 hpt5 hb5 H5 HB4 HEW4 HEL4
      go_wp2_with fail
      refine H6.out.mono ?_
      rintro e w6 ⟨B6, d6, rfl, hen6, hb6⟩
      have H7 := Lib.hid (HR2.out B6 d6 w6 hen6)
      have HB6 := Lib.hid (HB5.out.trans (hb6.mono HB5.out.size))
      have HEW6 := Lib.hid (HEW5.out.below hb6)
      have HEL6 := Lib.hid (HEL5.out.below hb6)
      have HG6 := Lib.hid (HG5.out.below hb6)
      clear hen6 hb6 H6 HB5 HEW5 HEL5 HG5 HR2
      go_wp2_with fail
      refine H7.out.mono ?_
      rintro e w7 ⟨⟨v7, rfl, rs7, hls7, hown7, hpt7⟩, hb7⟩
      try dsimp only at hls7
      obtain ⟨A7, c7, rfl, _⟩ := own_shape hown7
      have HB7 := Lib.hid (HB6.out.trans (hb7.mono HB6.out.size))
      have HEW7 := Lib.hid (HEW6.out.below hb7)
      have HEL7 := Lib.hid (HEL6.out.below hb7)
      have HG7 := Lib.hid (HG6.out.below hb7)
      have HK7 : Hid (RgRow w7 A7 rs7) := Lib.hid ⟨Row.of_own hown7, fun r hr => (hpt7 r hr).1.1⟩
      have HLS7 := Lib.hid hls7
      have H8 := Lib.hid (HO1.out w7 HEW7.out)
      clear hls7 hown7 hpt7 hb7 H7 HB6 HEW6 HEL6 HG6 HO1
      go_wp2_with fail
      refine H8.out.mono ?_
      rintro e w8 ⟨B8, d8, rfl, hen8, hb8⟩
      have H9 := Lib.hid (HS1.out B8 d8 w8 hen8)
      have HB8 := Lib.hid (HB7.out.trans (hb8.mono HB7.out.size))
      have HEL8 := Lib.hid (HEL7.out.below hb8)
      have HG8 := Lib.hid (HG7.out.below hb8)
      have HK8 := Lib.hid (HK7.out.below hb8)
      clear hen8 hb8 H8 HB7 HEW7 HEL7 HG7 HK7 HS1
      go_wp2_with fail
      refine H9.out.mono ?_
      rintro e w9 ⟨⟨v9, er9, ms9, rfl, ⟨A9, c9, rfl, hrow9, hin9, hl9⟩, he9, hs9⟩, hb9⟩
      have HB9 := Lib.hid (HB8.out.trans (hb9.mono HB8.out.size))
      have HEL9 := Lib.hid (HEL8.out.below hb9)
      have HG9 := Lib.hid (HG8.out.below hb9)
      have HK9 := Lib.hid (HK8.out.below hb9)
      have HR9 := Lib.hid hrow9
      have HI9 := Lib.hid hin9
      have HP9 := Lib.hid (And.intro he9 hs9)
      have H10 := Lib.hid (HO2.out w9 HEL9.out)
      clear hrow9 hin9 he9 hs9 hb9 H9 HB8 HEL8 HG8 HK8 HO2
      go_wp2_with fail
      refine H10.out.mono ?_
      rintro e wa ⟨Ba, da, rfl, hena, hba⟩
      have H11 := Lib.hid (HS2.out Ba da wa hena)
      have HBa := Lib.hid (HB9.out.trans (hba.mono HB9.out.size))
      have HGa := Lib.hid (HG9.out.below hba)
      have HKa := Lib.hid (HK9.out.below hba)
      have HRa := Lib.hid (HR9.out.below hba)
      have HIa : Hid (∀ m ∈ ms9, ShapeIn wa m) := Lib.hid (fun m hm => (HI9.out m hm).below hba)
      clear hena hba H10 HB9 HEL9 HG9 HK9 HR9 HI9 HS2
      go_wp2_with fail
      refine H11.out.mono ?_
      rintro e wb ⟨⟨vb, erb, msb, rfl, ⟨Ab, cb, rfl, hrowb, hinb, _⟩, heb, hsb⟩, hbb⟩
      have HBb := Lib.hid (HBa.out.trans (hbb.mono HBa.out.size))
      have HGb := Lib.hid (HGa.out.below hbb)
      have HKb := Lib.hid (HKa.out.below hbb)
      have HRb := Lib.hid (HRa.out.below hbb)
      have HIb : Hid (∀ m ∈ ms9, ShapeIn wb m) := Lib.hid (fun m hm => (HIa.out m hm).below hbb)
      have HSD : Hid (er9 = erb ∧ ms9.map shapeOf = msb.map shapeOf) := Lib.hid (by
        obtain ⟨h1, h2⟩ := HP9.out
        try dsimp only at h1 h2 heb hsb
        by_cases h0 : ec = 0
        · have s1 := h2 h0
          have s2 := hsb h0
          have e1 := shapesR_err s1 s2
          refine ⟨e1, ?_⟩
          by_cases hz : er9 = 0
          · exact (shapes_order (List.Perm.refl _) HVB.out s1 s2).2 hz
          · rcases s1 with ⟨_, _, x, _⟩ | ⟨_, _, x⟩
            · exact absurd x hz
            · rcases s2 with ⟨_, _, y, _⟩ | ⟨_, _, y⟩
              · exact absurd (e1.trans y) hz
              · rw [x, y]
        · obtain ⟨x1, x2⟩ := h1 h0
          obtain ⟨y1, y2⟩ := heb h0
          exact ⟨x1.trans y1.symm, by rw [x2, y2]⟩)
      obtain ⟨hsd1, hsd2⟩ := HSD.out
      subst hsd1
      have HSR := Lib.hid (sameRings_eq rs5 rs7 A5 A7 c5 c7 wb HGb.out.row HKb.out.row (fun r hr => ⟨HGb.out.each r hr, by
        have h1 := (ring_near (HVB.out r.l (by rw [← HLS5.out]; exact List.mem_map_of_mem hr))).2.2
        omega⟩) HKb.out.each (HLS5.out.trans HLS7.out.symm) (by
        have h1 := HFW.out
        rw [← HLS5.out, List.length_map] at h1
        omega))
      have HSS := Lib.hid (fun W hW => sameShapes_eq ms9 msb A9 Ab c9 cb W (HRb.out.below hW) ((show Row wb Ab _ from hrowb).below hW) (fun m hm => (HIb.out m hm).below hW) (fun m hm => (hinb m hm).below hW) hsd2 hl9)
      clear hrowb hinb heb hsb hbb hsd2 HSD H11 HBa HGa HKa HRa HIa HP9
      go_wp2_with fail
      refine HSR.out.mono ?_
      rintro e wc ⟨rfl, hbc⟩
      have HBc := Lib.hid (HBb.out.trans (hbc.mono HBb.out.size))
      have HSC := Lib.hid (HSS.out wc hbc)
      clear hbc HSR HSS
      go_wp2_with fail
      refine HSC.out.mono ?_
      rintro e wd ⟨rfl, hbd⟩
      go_wp2
      go_ret
      exact ⟨rfl, HBc.out.trans (hbd.mono HBc.out.size)⟩
/-- A row of entities, opened. -/
def EntsArg (w : World) (A : Option Addr) (len : Nat) (es : List EntV) : Prop := es.length = len ∧ EntsRaw w A es
theorem layersLaw_at (A : Option Addr) (len cap : Nat) (es : List EntV) (L : ByteArray) (t : Int) (w : World) (h : EntsArg w A len es) (ht : (Lit.int .u8 t).wf = true) :
    Calls Tryz.prog 6 #[.slice A len cap, .string L, .int .u8 t] w fun e w' => e = .returned (.bool true) ∧ Below w.heap.size w w' := by
  obtain ⟨rfl, h⟩ := h
  obtain ⟨n, rfl, hn⟩ : ∃ n : Nat, t = (n : Int) ∧ n < 256 := by
    simp [Lit.wf, IntKind.min, IntKind.max, IntKind.signed, IntKind.bits] at ht
    exact ⟨t.toNat, by omega, by omega⟩
  exact layersLaw_walk es A cap L n w h hn
end Go.Proofs.YtnmmhcchpcbeeaaGreat.GeW

namespace Go.Proofs.YtnmmhcchpcbeeaaGreat.GeW
open Go Go.RowKit
theorem handed6 {H : Type} {enc : TypeId × Value → H} {a : Assume} {C : Checked} {os : Os} {f : FuncId} {fn : Func} {s : ChangeSpec} {conds : List PathCond} {apart fresh handsOn again : Bool}
    (own : ownKnob C.prog.godebug = none) (started : os.Started) (noInit : C.prog.inits.idxOf? f = none) (hfn : C.prog.funcs[f]? = some fn)
    (witness : ∃ (w : World) (tape : Tape) (i : Input), w.os = os ∧ (w.forCall tape i).Shaped C.prog ∧ i.vars = [] ∧ Input.okWide C.prog (w.forCall tape i) .any w.heap.size f i ∧
      s.pre6 enc C.prog fn conds apart (w.forCall tape i).memory i.args ∧ a.holds C.prog (lone (Frame.enter C.prog f i.args .normal) [] (w.forCall tape i)))
    (contract : ∀ (W : World) (base : Nat) (args : Array Value) (ds gs : List (DataW H)) (before : List MemPlace),
      (∀ (j : Nat) t v, fn.params[j]? = some t → args[j]? = some v → Value.okWide C.prog W .any base t v) →
      DataW.Whole enc C.prog fn.params.toList s.vars apart W args.toList ds gs before →
      (DataW.weightsEach C.prog (fn.params.toList ++ s.plain.varTypes C.prog) (ds ++ gs)).all (· ≤ reachBytes) = true →
      Calls C.prog f args W fun e W' => ∃ v, e = .returned v ∧ s.post enc C.prog fn apart fresh handsOn again W args v W') :
    ReturnsInHanded a C os f .any (s.pre6 enc C.prog fn conds apart) (s.post enc C.prog fn apart fresh handsOn again) := by
  refine returnsInHanded_of_calls own started noInit witness ?_
  intro w tape i _ hsh _ hok hpre _
  obtain ⟨_, _, _, fn', hfn', _, _, _, _, hval⟩ := hok
  obtain rfl : fn' = fn := Option.some.inj (hfn'.symm.trans hfn)
  obtain ⟨⟨ds, gs, before, hw, _⟩, hz⟩ := hpre
  refine (contract (w.forCall tape i) w.heap.size i.args ds gs before hval (DataW.Whole.of_heap (w' := w.forCall tape i) (by rfl) hw) (hz.weights hw)).mono fun e W' ⟨v, he, hp⟩ => ?_
  subst he
  exact ChangeSpec.post_blind hp
end Go.Proofs.YtnmmhcchpcbeeaaGreat.GeW

namespace Go.Proofs.YtnmmhcchpcbeeaaGreat.DrawingLayersDone
open Go.ChangeShapes Go.WideShapes Go.ChangeAt Go.RowKit
open Go.ChangeMaps (open_string shut_string)

theorem own : ownKnob Tryz.prog.godebug = none := by kernel_rfl
theorem laidOut : laidOutB Tryz.prog = true := by kernel_rfl

set_option maxRecDepth 100000 in
theorem lifted (os : Os) (started : os.Started) (H : Type) (enc : TypeId × Value → H) :
    ReturnsInHanded {} Tryz.checked os 6 .any (Rows.drawingLayersSpec.pre6 enc Tryz.prog Tryz.f6 Rows.drawingLayersRow.domain false) (Rows.drawingLayersSpec.post enc Tryz.prog Tryz.f6 false true false false) := by
  refine GeW.handed6 (C := Tryz.checked) own started (by kernel_rfl) Tryz.func6
    (ChangeSpec.witness6 (enc := enc) (C := Tryz.checked) false ⟨#[], #[.slice none 0 0, .string ⟨#[]⟩, .int .u8 0], []⟩ 8 (by kernel_rfl) (by kernel_rfl) (by kernel_rfl) (by kernel_rfl)) ?_
  intro W base args ds gs before hval0 hW hz0
  have hz : (DataW.weightsEach Tryz.prog (Tryz.f6.params.toList ++ Rows.drawingLayersSpec.plain.varTypes Tryz.prog) (ds ++ gs)).all (· ≤ reachBytes) = true := hz0
  have hval : ∀ (j : Nat) t v, Tryz.f6.params[j]? = some t → args[j]? = some v → Value.okWide Tryz.prog W .any base t v := hval0
  have hW' := hW
  obtain ⟨p, q, hA0, hV, rfl, hfz, hnd⟩ := hW
  have hA : DataW.TrodAll enc Tryz.prog W 0 (fun _ => true) true Tryz.f6.params.toList args.toList ds p := hA0
  rw [Tryz.params6] at hA hval hz
  obtain ⟨v0, vs0, d0, ds0, p0, q0, hargs, rfl, rfl, h0, r0⟩ := trodAll_cons hA
  obtain ⟨v1, vs1, d1, ds1, p1, q1, rfl, rfl, rfl, h1, r1⟩ := trodAll_cons r0
  obtain ⟨v2, vs2, d2, ds2, p2, q2, rfl, rfl, rfl, h2, r2⟩ := trodAll_cons r1
  obtain ⟨rfl, rfl, rfl⟩ := trodAll_nil r2
  obtain rfl : args = #[v0, v1, v2] := by cases args; simp_all
  obtain ⟨rfl, rfl⟩ := trodVars_none hV
  have k0 := h0
  have lt0 : ∀ x ∈ p0, x.block < W.heap.size := by obtain ⟨m, hm⟩ := k0; exact DataW.trod_lt m _ _ _ hm
  obtain ⟨A0, len0, cap0, rfl⟩ := okWide_slice Tryz.underlying34 (hval 0 34 v0 rfl rfl)
  obtain ⟨x0, s0⟩ := GtW.open_ents h0 (fun k hk => by simpa using List.all_eq_true.1 hz k (DataW.weights_mem_each (j := 0) rfl rfl k hk))
  obtain ⟨x1, rfl, rfl, rfl, s1⟩ := open_string Tryz.underlying9 (hval 1 9 v1 rfl rfl) h1
  obtain ⟨x2, rfl, rfl, rfl, s2⟩ := open_int Tryz.underlying5 (hval 2 5 v2 rfl rfl) h2
  clear hA0 hval0 hz0
  simp only [List.append_nil] at hW'
  refine (GeW.layersLaw_at A0 len0 cap0 x0 x1 x2 W s0 s2).mono fun e W' ⟨he, bel⟩ => ?_
  subst he
  exact ⟨_, rfl, _, _, _, [], _, [], hW', trodAll_mk1 (shut_bool Tryz.underlying4 _), (trodAll_cons_mk (Below.trod laidOut (by kernel_rfl) (of_decide_eq_true (by kernel_rfl)) k0 bel lt0) (trodAll_cons_mk (shut_string Tryz.underlying9 s1) (trodAll_cons_mk (shut_int Tryz.underlying5 s2) trodAll_mk0))), rfl, bel.frame _, fun h => by cases h⟩

theorem said : Rows.DrawingLayersSaid :=
  OpenClaim.holds_of_wide 6 Tryz.f6 rfl rfl rfl rfl rfl rfl rfl ⟨rfl, rfl, rfl, rfl, rfl⟩ rfl rfl rfl rfl rfl (by kernel_rfl) Tryz.func6 (by kernel_rfl)
    (of_decide_eq_true (by kernel_rfl)) (by unfold Func.isWrapper; first | (rw [if_pos (by decide +kernel)]; kernel_rfl) | (rw [if_neg (by decide +kernel)]; exact ⟨rfl, rfl⟩))
    (fun os started H enc _ => lifted os started H enc)
#print axioms said
end Go.Proofs.YtnmmhcchpcbeeaaGreat.DrawingLayersDone
