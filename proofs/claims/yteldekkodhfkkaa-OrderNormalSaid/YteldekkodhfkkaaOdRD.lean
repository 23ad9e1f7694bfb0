/- Walk: the reference's demand. Conditions: the list lies in memory; its texts are short. -/
import Derived.Test.YteldekkodhfkkaaOdR3
import Derived.Deep.QuietTactic
import Derived.Deep.DrawnRows
import Derived.Deep.RegionHeld3
import Derived.StillTailTactics
namespace Go.Proofs.Yteldekkodhfkkaa.OdW
open Go Go.RowKit Go.Proofs.Yteldekkodhfkkaa.Mem
attribute [local go_sem ↓] Go.wp_at_zero Go.wp_at_succ

set_option maxRecDepth 100000 in
set_option maxHeartbeats 8000000 in
theorem rdemand_any (l : List Od.It) (A : Option Addr) (c : Nat) (w : World) (hr : Row w A (l.flatMap itCells)) (hl : l.length ≤ 1000000) (hsh : ∀ m ∈ l, Od.Short m) :
    Calls Try.prog 19 #[.slice A l.length c] w fun e w' => ∃ (B : Option Addr) (d : Nat), e = .returned (.slice B (demand l).length d) ∧ Row w' B ((demand l).flatMap ndCells) ∧ Below w.heap.size w w' := by
  have HV := Lib.hid (fun W h => rvalid_any l A c W h hl hsh)
  have HK0 := Lib.hid ((Kept.start w).add hr)
  clear hr
  obtain ⟨i0, ia, ib, ic, id⟩ := info_parts info_rneed
  by_cases hv : Od.valid l = true
  · rw [hv] at HV
    have HD := Lib.hid (show demand l = Od.nf Od.sl (l.map pq) by unfold demand; rw [if_pos hv])
    have hl100 := Od.valid_len hv
    have HOK := Lib.hid (fun x (hx : x ∈ l) => Od.ok_parts (Od.valid_ok hv hx))
    clear hv
    go_enter Try.func19, Try.ntmps19
    go_wp2_with fail
    refine (HV.out _ (HK0.out.r 0 rfl)).mono ?_
    rintro e w1 ⟨rfl, hb⟩
    have HK1 := Lib.hid (HK0.out.below hb)
    clear hb HK0
    go_wp2_with fail
    generalize hb0 : w1.heap.size = b0 at *
    go_loopw [3, 4] (fun v t wr => ∃ (i : Nat) (acc : List Nd), i ≤ l.length ∧ t = .int .i64 i ∧ Hid (acc = Od.nf Od.sl ((l.take i).map pq)) ∧ Hid (acc.length ≤ i) ∧ wr.ownsRow b0 42 2 v acc.length (acc.flatMap ndCells) ∧ Below b0 w1 wr) (fun _ t _ => l.length - (intOf t).toNat)
    case atStart => exact ⟨0, [], Nat.zero_le _, rfl, Lib.hid rfl, Lib.hid (Nat.le_refl _), World.ownsRow_nil _ _ _ _, Below.refl _ _⟩
    case round =>
      obtain ⟨i, acc, hi, rfl, HA, hacc, hown, hbel⟩ := hrel
      have hz2 : b0 ≤ wr.heap.size := by have := hbel.size; omega
      have HK2 := Lib.hid (HK1.out.below (by rw [hb0]; exact hbel))
      by_cases hlt : i < l.length
      · have hacc1 := hacc.out
        have hacc : acc.length ≤ 100 := by omega
        obtain ⟨B, d, rfl, hnd⟩ := own_shape hown
        have HO := Lib.hid hown
        have HRO := Lib.hid (Row.of_own hown)
        have HB2 := Lib.hid hbel
        clear hown hbel
        have HNX : Hid (Od.nf Od.sl ((l.take (i + 1)).map pq) = Od.ins Od.sl acc (pq l[i])) := Lib.hid (by rw [take_snoc' l i hlt, List.map_append, List.map_singleton, Od.nf_snoc, ← HA.out])
        go_wp2_with fail
        obtain ⟨wo, rfl⟩ : ∃ wo : World, wo = wr := ⟨_, rfl⟩
        go_loopw [5] (fun t wq => ∃ k : Nat, k ≤ acc.length ∧ t = .int .i64 k ∧ Hid (∀ j (h : j < k), ∃ hj : j < acc.length, Od.sl (acc[j]'hj).1 l[i].p = true) ∧ Below wo.heap.size wo wq) (fun t _ => acc.length - (intOf t).toNat)
        case atStart => exact ⟨0, Nat.zero_le _, rfl, Lib.hid (fun j h => absurd h (Nat.not_lt_zero j)), Below.refl _ _⟩
        case round =>
          obtain ⟨k, hk, rfl, HLT, hbel⟩ := hrel
          have HK3 := Lib.hid (HK2.out.below hbel)
          have HR3 := Lib.hid (HRO.out.below hbel)
          obtain ⟨g, off, rfl, hg, ca⟩ := row_get it_len (by decide) (HK3.out.r 0 rfl) (by omega)
          have a1 := ca i hlt 1 (by decide)
          have a2 := ca i hlt 2 (by decide)
          have hqb := HOK.out l[i] (List.getElem_mem hlt)
          have hz3 := hbel.size
          clear ca
          have hi0 : (0 : Int) ≤ (i : Int) := by omega
          have hi1 : (i : Int) < (l.length : Int) := by omega
          have x9 : IntKind.i64.wrap l[i].q = l[i].q := by rw [wrapEq]; unfold wrap64; omega
          have x8 : wrap64 l[i].q = l[i].q := by unfold wrap64; omega
          by_cases hkl : k < acc.length
          · obtain ⟨g2, rfl, hgb2, hg3⟩ := own_some HO.out (by omega)
            have cb := row_get0 nd_len HR3.out hkl
            have c0 := cb.2 k hkl 0 (by decide)
            have c1 := cb.2 k hkl 1 (by decide)
            have hgr := cb.1
            clear cb
            have dk : decide ((k : Int) < (acc.length : Int)) = true := by simp; omega
            have dk2 : ((k : Int) == (acc.length : Int)) = false := by rw [beq_eq_false_iff_ne]; omega
            have hk0 : (0 : Int) ≤ (k : Int) := by omega
            have hk1 : (k : Int) < (acc.length : Int) := by omega
            have ls := text_less acc[k].1 l[i].p
            have es := text_eq acc[k].1 l[i].p
            by_cases hls : Od.sl acc[k].1 l[i].p = true
            · rw [hls] at ls
              have HLT2 : Hid (∀ j (h : j < k + 1), ∃ hj : j < acc.length, Od.sl (acc[j]'hj).1 l[i].p = true) := Lib.hid (fun j h => by
                rcases Nat.lt_or_ge j k with h1 | h1
                · exact HLT.out j h1
                · obtain rfl : j = k := by omega
                  exact ⟨hkl, hls⟩)
              clear hls es dk2 x9 x8
              generalize hN : acc[k] = n at *
              generalize hM : l[i] = m at *
              simp only [itCells, List.getElem?_cons_zero, List.getElem?_cons_succ] at a1 a2
              generalize hMQ : m.q = mq at *
              generalize hMP : m.p = mp at *

              simp only [ndCells, List.getElem?_cons_zero, List.getElem?_cons_succ, Nat.add_zero] at c0 c1
              generalize (ByteArray.mk mp.toArray) = PB at *
              generalize (ByteArray.mk n.1.toArray) = PB2 at *
              generalize n.2 = nq2 at *
              clear hM hMQ hMP hqb hN
              go_wp2_with fail
              go_quiet (fail)
              have HB9 := Lib.hid (below_drewN hbel nq)
              clear hbel a1 a2 c0 c1 ls
              go_wp2
              go_roundw
              case rel => exact ⟨k + 1, by omega, by go_num, HLT2, HB9.out⟩
              case measure => simp [intOf]; omega
            · have hls0 := show Od.sl acc[k].1 l[i].p = false by simpa using hls
              rw [hls0] at ls
              clear hls
              by_cases he : acc[k].1 = l[i].p
              · rw [decide_eq_true he] at es
                have hsb : -9223372036854775808 ≤ acc[k].2 + l[i].q ∧ acc[k].2 + l[i].q ≤ 9223372036854775807 := by
                  have h1 := nf_mem Od.sl_tot (l := (l.take i).map pq) (x := acc[k]) (by rw [← HA.out]; exact List.getElem_mem hkl)
                  have h2 := sum_bound ((l.take i).map pq) (by
                    intro x hx
                    obtain ⟨y, hy, rfl⟩ := List.mem_map.1 hx
                    have := HOK.out y (List.mem_of_mem_take hy)
                    exact ⟨this.1, this.2.1⟩) acc[k].1
                  rw [List.length_map, List.length_take] at h2
                  rw [h1.2]
                  omega
                obtain ⟨acc', HAC⟩ : ∃ acc', Hid (acc' = acc.set k (acc[k].1, acc[k].2 + l[i].q)) := ⟨_, Lib.hid rfl⟩
                have HNF : Hid (acc' = Od.nf Od.sl ((l.take (i + 1)).map pq)) := Lib.hid (by
                  rw [HNX.out, HAC.out, ins_here acc (pq l[i]) k hkl (fun j h => (HLT.out j h).2) hls0 (by rw [he]; exact Od.sl_irr _)]
                  rfl)
                have HLA : Hid (acc.length = acc'.length) := Lib.hid (by rw [HAC.out]; simp)
                have HLN : Hid (acc'.length ≤ i + 1) := Lib.hid (by rw [← HLA.out]; omega)
                have HCL : Hid ((acc.flatMap ndCells).set (k * 2 + 1) (.int .i64 (acc[k].2 + l[i].q)) = acc'.flatMap ndCells) := Lib.hid (by rw [HAC.out]; exact nd_set _ _ acc[k].2 _ _ (by rw [List.getElem?_eq_getElem hkl]))
                have x3 : IntKind.i64.wrap (acc[k].2 + l[i].q) = acc[k].2 + l[i].q := by rw [wrapEq]; unfold wrap64; omega
                clear hls0 he hsb x9 x8
                generalize hN : acc[k] = n at *
                generalize hM : l[i] = m at *
                simp only [itCells, List.getElem?_cons_zero, List.getElem?_cons_succ] at a1 a2
                generalize hMQ : m.q = mq at *
                generalize hMP : m.p = mp at *

                simp only [ndCells, List.getElem?_cons_zero, List.getElem?_cons_succ, Nat.add_zero] at c0 c1
                generalize (ByteArray.mk mp.toArray) = PB at *
                generalize (ByteArray.mk n.1.toArray) = PB2 at *
                generalize n.2 = nq2 at *
                have es2 : (PB2.toList != PB.toList) = false := by unfold bne; rw [es]; rfl
                clear hM hMQ hMP hqb hN
                go_wp2_with fail
                go_quiet (fail)
                obtain ⟨na, rfl⟩ : ∃ na : Nat, na = nq := ⟨_, rfl⟩
                go_wp2_with fail
                go_quiet (fail)

                have HRW := Lib.hid (HR3.out.below (below_drewN (below_drewN (Below.refl wr.heap.size wr) na) nq))
                have hbw := Lib.hid (below_drewN (below_drewN hbel na) nq)
                clear hbel
                generalize hW : (wr.drewN na).drewN nq = W at *
                have hgw : g < W.heap.size := by rw [← hW]; exact hg
                have b1 : W.cell? ⟨g, off + i * 4 + 1, none⟩ = some (.string PB) := by rw [← hW]; exact a1
                have b2 : W.cell? ⟨g, off + i * 4 + 2, none⟩ = some (.int .i64 mq) := by rw [← hW]; exact a2
                have hbz : b0 ≤ W.heap.size := by have := hbw.out.size; omega

                have HOV := Lib.hid (own_below HO.out hbw.out)
                have HBV : Hid (Below b0 w1 W) := Lib.hid (HB2.out.trans (hbw.out.mono hz2))
                have hgb := hgb2
                replace c1 : W.cell? ⟨g2, k * 2 + 1, none⟩ = some (.int .i64 nq2) := by rw [← hW]; exact c1
                replace a2 := b2
                clear hW a1 b1 b2 hg c0 es es2 ls
                have HBL := Lib.hid (below_drewN HBV.out 1)
                have hfr := HOV.out.frozenAt (k * 2 + 1)
                have HOD := Lib.hid (World.ownsRow.stored (w := W.drewN 1) (own_below HOV.out (below_drewN (Below.refl _ _) 1)) (k * 2 + 1) (.int .i64 (nq2 + mq)))
                go_wp2_with fail
                refine wp_region_still_tail 13 (by kernel_rfl) (by kernel_rfl) ?_
                simp only [List.take_succ_cons, List.take_zero, List.drop_succ_cons, List.drop_zero]
                iterate 13 still_step
                refine wpStill_nil ?_
                change wpList _ _ _ _ _ (W.drewN 1)
                have hfr2 : (W.drewN 1).frozen? ⟨g2, k * 2 + 1, none⟩ = false := hfr
                have c2' : (W.drewN 1).cell? ⟨g2, k * 2 + 1, none⟩ = some (.int .i64 nq2) := c1
                clear hfr c1 a2
                go_wp2_with fail
                have HOWN : Hid (((W.drewN 1).setCell ⟨g2, k * 2 + 1, none⟩ (.int .i64 (nq2 + mq))).ownsRow b0 42 2 (.slice (some ⟨g2, 0, none⟩) acc.length d) acc'.length (acc'.flatMap ndCells)) := Lib.hid (own_fit HOD.out.1 (Nat.le_refl _) HLA.out HCL.out)
                have HBEL : Hid (Below b0 w1 ((W.drewN 1).setCell ⟨g2, k * 2 + 1, none⟩ (.int .i64 (nq2 + mq)))) := Lib.hid (HBL.out.setCell hgb _)
                clear HOD c2' hfr2
                go_roundw
                case rel => exact ⟨i + 1, _, by omega, by go_num, HNF, HLN, HOWN.out, HBEL.out⟩
                case measure => simp [intOf]; omega
              · rw [decide_eq_false he] at es
                have hl2 : Od.sl l[i].p acc[k].1 = true := by
                  cases h : Od.sl l[i].p acc[k].1
                  · exact absurd (Od.sl_tri _ _ hls0 h) he
                  · rfl
                obtain ⟨acc2, HAC⟩ : ∃ acc2, Hid (acc2 = acc.take k ++ (l[i].p, 0) :: acc.drop k) := ⟨_, Lib.hid rfl⟩
                obtain ⟨acc', HAC'⟩ : ∃ acc', Hid (acc' = acc2.set k (l[i].p, l[i].q)) := ⟨_, Lib.hid rfl⟩
                have HL2 : Hid (0 + k + 1 + (acc.length - k) = acc2.length) := Lib.hid (by rw [HAC.out]; simp; omega)
                have hk8 : k < acc2.length := by rw [← HL2.out]; omega
                have HLA : Hid (acc2.length = acc'.length) := Lib.hid (by rw [HAC'.out]; simp)
                have HLN : Hid (acc'.length ≤ i + 1) := Lib.hid (by rw [← HLA.out, ← HL2.out]; omega)
                have HG9 : Hid (acc2[k]? = some (l[i].p, 0)) := Lib.hid (by rw [HAC.out, List.getElem?_append_right (by rw [List.length_take]; omega), List.length_take, show k - min k acc.length = 0 by omega]; rfl)
                have HCL : Hid ((acc2.flatMap ndCells).set (k * 2 + 1) (.int .i64 l[i].q) = acc'.flatMap ndCells) := Lib.hid (by rw [HAC'.out]; exact nd_set _ _ _ _ _ HG9.out)
                have HC9 : Hid ((acc2.flatMap ndCells)[k * 2 + 1]? = some (.int .i64 0)) := Lib.hid (nd_cell1 _ _ _ _ HG9.out)

                have HNF : Hid (acc' = Od.nf Od.sl ((l.take (i + 1)).map pq)) := Lib.hid (by
                  rw [HNX.out, HAC'.out, HAC.out, ins_new acc (pq l[i]) k hk (fun j h => (HLT.out j h).2) (fun h => ⟨hls0, hl2⟩), List.set_append_right _ _ (by rw [List.length_take]; omega), List.length_take, show k - min k acc.length = 0 by omega]
                  simp [pq])
                have hkx : (k : Int) < (acc2.length : Int) := by omega
                clear he hls0 hl2
                generalize hN : acc[k] = n at *
                generalize hM : l[i] = m at *
                simp only [itCells, List.getElem?_cons_zero, List.getElem?_cons_succ] at a1 a2
                generalize hMQ : m.q = mq at *
                generalize hMP : m.p = mp at *

                simp only [ndCells, List.getElem?_cons_zero, List.getElem?_cons_succ, Nat.add_zero] at c0 c1
                generalize hPB : (ByteArray.mk mp.toArray) = PB at *
                have HCN : Hid ([] ++ ((acc.take k).flatMap ndCells) ++ [.string PB, .int .i64 0] ++ ((acc.drop k).flatMap ndCells) = acc2.flatMap ndCells) := Lib.hid (by rw [HAC.out, ← hPB]; simp [ndCells])
                generalize (ByteArray.mk n.1.toArray) = PB2 at *
                generalize n.2 = nq2 at *
                have es2 : (PB2.toList != PB.toList) = true := by unfold bne; rw [es]; rfl
                clear hPB hM hMQ hMP hqb hN HAC HAC' HNX HG9
                have C1 : Hid (0 + k ≤ maxLen ∧ (0 + k) * 24 ≤ 140737488355328 ∧ (((acc.take k).flatMap ndCells)).length = k * 2 ∧ ∀ u ∈ ((acc.take k).flatMap ndCells), u.oneCell' = true) := Lib.hid ⟨by unfold maxLen; omega, by omega, by rw [flatMap_len nd_len, List.length_take]; omega, nd_cell _⟩
                have C2 : Hid (0 + k + 1 ≤ maxLen ∧ (0 + k + 1) * 24 ≤ 140737488355328 ∧ ([.string PB, .int .i64 0] : List Value).length = 1 * 2 ∧ ∀ u ∈ ([.string PB, .int .i64 0] : List Value), u.oneCell' = true) := Lib.hid ⟨by unfold maxLen; omega, by omega, rfl, by intro u hu; simp at hu; rcases hu with rfl | rfl <;> rfl⟩
                have C3 : Hid (0 + k + 1 + (acc.length - k) ≤ maxLen ∧ (0 + k + 1 + (acc.length - k)) * 24 ≤ 140737488355328 ∧ (((acc.drop k).flatMap ndCells) : List Value).length = (acc.length - k) * 2 ∧ ∀ u ∈ (((acc.drop k).flatMap ndCells) : List Value), u.oneCell' = true) := Lib.hid ⟨by unfold maxLen; omega, by omega, by rw [flatMap_len nd_len, List.length_drop], nd_cell _⟩
                go_wp2_with fail
                go_quiet (fail)
                obtain ⟨na, rfl⟩ : ∃ na : Nat, na = nq := ⟨_, rfl⟩
                go_wp2_with fail
                go_quiet (fail)

                have HRW := Lib.hid (HR3.out.below (below_drewN (below_drewN (Below.refl wr.heap.size wr) na) nq))
                have hbw := Lib.hid (below_drewN (below_drewN hbel na) nq)
                clear hbel
                generalize hW : (wr.drewN na).drewN nq = W at *
                have hgw : g < W.heap.size := by rw [← hW]; exact hg
                have b1 : W.cell? ⟨g, off + i * 4 + 1, none⟩ = some (.string PB) := by rw [← hW]; exact a1
                have b2 : W.cell? ⟨g, off + i * 4 + 2, none⟩ = some (.int .i64 mq) := by rw [← hW]; exact a2
                have hbz : b0 ≤ W.heap.size := by have := hbw.out.size; omega

                clear hW a1 a2 hg c0 c1 es es2 ls
                have HTD : Hid (acc.flatMap ndCells = (acc.take k).flatMap ndCells ++ (acc.drop k).flatMap ndCells) := Lib.hid (by rw [← List.flatMap_append, List.take_append_drop])
                have HRT := Lib.hid (Row.head (by rw [← HTD.out]; exact HRW.out))
                have HRD := Lib.hid (show Row W (some ⟨g2, k * 2, none⟩) ((acc.drop k).flatMap ndCells) by
                  have h1 : Row W (some ⟨g2, 0, none⟩) ((acc.take k).flatMap ndCells ++ (acc.drop k).flatMap ndCells) := by rw [← HTD.out]; exact HRW.out
                  have h2 := Row.rest h1
                  rw [C1.out.2.2.1, Nat.zero_add] at h2
                  exact h2)
                have hk2 : (k : Int) ≤ (acc.length : Int) := by omega
                have hk3 : (k : Int) ≤ (d : Int) := by omega
                have hdk : ¬ d = k := by omega
                go_wp2_with fail
                go_region_held3 (fun w' => w'.cell? ⟨g, off + i * 4 + 1, none⟩ = some (.string PB)) (first | go_keep | exact (hF3.out.cell (p := ⟨g, _, none⟩) hgw).trans b1 | exact (hF2.out.cell (p := ⟨g, _, none⟩) hgw).trans b1 | exact (hF1.out.cell (p := ⟨g, _, none⟩) hgw).trans b1 | exact ((hF1.out.alloc hF1.out.size _).cell (p := ⟨g, _, none⟩) hgw).trans b1)
                  (first
                  | (refine step_append_row (by rfl) _ _ _ (by rfl) W.heap.size 42 i0 _ 2 24 Try.underlying30 ia ib ic id rfl (by omega) _ 0 [] (by rfl) ((own_empty W W.heap.size 42 2 (Nat.le_refl _)).drew) _ _ _ ((acc.take k).flatMap ndCells) (by rfl) (HRT.out.below (below_drew (bel1 W (.cells #[] 42)))) C1.out.2.2.1 C1.out.2.2.2 C1.out.1 C1.out.2.1 (by simp <;> omega) ?_; intro v1 wa ho1 hg1; have hF1 := Lib.hid (below_append (below_drew (bel1 W (.cells #[] 42))) (by simp <;> omega) ((own_empty W W.heap.size 42 2 (Nat.le_refl _)).drew) hg1 (Nat.le_refl _)); have hP := Lib.hid ho1; clear ho1 hg1)
                  | (refine step_append_row (by rfl) _ _ _ (by rfl) W.heap.size 42 i0 _ 2 24 Try.underlying30 ia ib ic id rfl (by omega) _ 0 [] (by rfl) (((own_empty W W.heap.size 42 2 (Nat.le_refl _)).alloc (.cells #[.string PB, .int .i64 0] 42)).drew) _ _ _ ((acc.take k).flatMap ndCells) (by rfl) (HRT.out.below (below_drew ((bel1 W (.cells #[] 42)).alloc (by simp) (.cells #[.string PB, .int .i64 0] 42)))) C1.out.2.2.1 C1.out.2.2.2 C1.out.1 C1.out.2.1 (by simp <;> omega) ?_; intro v1 wa ho1 hg1; have hF1 := Lib.hid (below_append (below_drew ((bel1 W (.cells #[] 42)).alloc (by simp) (.cells #[.string PB, .int .i64 0] 42))) (by simp <;> omega) (((own_empty W W.heap.size 42 2 (Nat.le_refl _)).alloc (.cells #[.string PB, .int .i64 0] 42)).drew) hg1 (Nat.le_refl _)); have hP := Lib.hid ho1; have HN := Lib.hid (row_grown (new2_rowB W _ _ _ _) hg1 (by simp [Value.ownBlock])); clear ho1 hg1)
                  | (refine step_append_row (by rfl) _ _ _ (by rfl) W.heap.size 42 i0 _ 2 24 Try.underlying30 ia ib ic id rfl (by omega) _ 0 [] (by rfl) (own_emptyC W (.cells #[.string PB, .int .i64 0] 42) 42 2) _ _ _ ((acc.take k).flatMap ndCells) (by rfl) (HRT.out.below (below_drew ((bel1 W (.cells #[.string PB, .int .i64 0] 42)).alloc (by simp) (.cells #[] 42)))) C1.out.2.2.1 C1.out.2.2.2 C1.out.1 C1.out.2.1 (by simp <;> omega) ?_; intro v1 wa ho1 hg1; have hF1 := Lib.hid (below_append (below_drew ((bel1 W (.cells #[.string PB, .int .i64 0] 42)).alloc (by simp) (.cells #[] 42))) (by simp <;> omega) (own_emptyC W (.cells #[.string PB, .int .i64 0] 42) 42 2) hg1 (Nat.le_refl _)); have hP := Lib.hid ho1; have HN := Lib.hid (row_grown (new2_rowC W _ _ _ _) hg1 (by simp [Value.ownBlock])); clear ho1 hg1)
                  | (refine step_append_row (by rfl) _ _ _ (by rfl) W.heap.size 42 i0 _ 2 24 Try.underlying30 ia ib ic id rfl (by omega) _ _ _ (by rfl) (hP.out.alloc _) _ 1 _ [.string PB, .int .i64 0] (by rfl) (new2_row _ _ _ _) C2.out.2.2.1 C2.out.2.2.2 C2.out.1 C2.out.2.1 (Below.size (hF1.out.alloc hF1.out.size _)) ?_; intro v2 wb ho2 hg2; have hF2 := Lib.hid (below_append (hF1.out.alloc hF1.out.size _) (Below.size (hF1.out.alloc hF1.out.size _)) (hP.out.alloc _) hg2 (Nat.le_refl _)); have hQ := Lib.hid ho2; clear ho2 hg2)
                  | (refine step_append_row (by rfl) _ _ _ (by rfl) W.heap.size 42 i0 _ 2 24 Try.underlying30 ia ib ic id rfl (by omega) _ _ _ (by rfl) hP.out _ 1 _ [.string PB, .int .i64 0] (by rfl) HN.out C2.out.2.2.1 C2.out.2.2.2 C2.out.1 C2.out.2.1 (Below.size hF1.out) ?_; intro v2 wb ho2 hg2; have hF2 := Lib.hid (below_append hF1.out (Below.size hF1.out) hP.out hg2 (Nat.le_refl _)); have hQ := Lib.hid ho2; clear ho2 hg2)
                  | (refine step_append_row (by rfl) _ _ _ (by rfl) W.heap.size 42 i0 _ 2 24 Try.underlying30 ia ib ic id rfl (by omega) _ _ _ (by rfl) hQ.out _ (acc.length - k) _ ((acc.drop k).flatMap ndCells) (by rfl) (HRD.out.below hF2.out) C3.out.2.2.1 C3.out.2.2.2 C3.out.1 C3.out.2.1 (Below.size hF2.out) ?_; intro v3 wc ho3 hg3; have hF3 := Lib.hid (below_append hF2.out (Below.size hF2.out) hQ.out hg3 (Nat.le_refl _)); have hS := Lib.hid ho3; clear ho3 hg3))
                all_goals
                  have HOV := Lib.hid (own_fit hS.out hbz HL2.out HCN.out)
                  have HBV : Hid (Below b0 w1 wc) := Lib.hid ((HB2.out.trans (hbw.out.mono hz2)).trans (hF3.out.mono hbz))
                  have a2' := (hF3.out.cell (p := ⟨g, _, none⟩) hgw).trans b2
                  have b1' := (hF3.out.cell (p := ⟨g, _, none⟩) hgw).trans b1
                  clear hS hF3 hF2 hQ hF1 hP b2 b1
                  obtain ⟨B3, d3, rfl, _⟩ := own_shape HOV.out
                  obtain ⟨g3, rfl, hgb, hg9⟩ := own_some HOV.out (by omega)
                  have c1 := HOV.out.cellAt (k * 2 + 1) (by omega)
                  rw [HC9.out] at c1
                  have a2 := a2'
                  clear a2'
                  have hk9 : (k : Int) < (acc2.length : Int) := by omega
                  have HBL := Lib.hid (below_drewN HBV.out 1)
                  have hfr := HOV.out.frozenAt (k * 2 + 1)
                  have HOD := Lib.hid (World.ownsRow.stored (w := wc.drewN 1) (own_below HOV.out (below_drewN (Below.refl _ _) 1)) (k * 2 + 1) (.int .i64 mq))
                  go_wp2_with fail
                  refine wp_region_still_tail 13 (by kernel_rfl) (by kernel_rfl) ?_
                  simp only [List.take_succ_cons, List.take_zero, List.drop_succ_cons, List.drop_zero]
                  iterate 13 still_step
                  refine wpStill_nil ?_
                  change wpList _ _ _ _ _ (wc.drewN 1)
                  have hfr2 : (wc.drewN 1).frozen? ⟨g3, k * 2 + 1, none⟩ = false := hfr
                  have c2' : (wc.drewN 1).cell? ⟨g3, k * 2 + 1, none⟩ = some (.int .i64 0) := c1
                  clear hfr c1 a2
                  go_wp2_with fail
                  have HOWN : Hid (((wc.drewN 1).setCell ⟨g3, k * 2 + 1, none⟩ (.int .i64 mq)).ownsRow b0 42 2 (.slice (some ⟨g3, 0, none⟩) acc2.length d3) acc'.length (acc'.flatMap ndCells)) := Lib.hid (own_fit HOD.out.1 (Nat.le_refl _) HLA.out HCL.out)
                  have HBEL : Hid (Below b0 w1 ((wc.drewN 1).setCell ⟨g3, k * 2 + 1, none⟩ (.int .i64 mq))) := Lib.hid (HBL.out.setCell hgb _)
                  clear HOD c2' hfr2
                  go_roundw
                  case rel => exact ⟨i + 1, _, by omega, by go_num, HNF, HLN, HOWN.out, HBEL.out⟩
                  case measure => simp [intOf]; omega
          · obtain rfl : k = acc.length := by omega
            obtain ⟨acc2, HAC⟩ : ∃ acc2, Hid (acc2 = acc ++ [(l[i].p, 0)]) := ⟨_, Lib.hid rfl⟩
            obtain ⟨acc', HAC'⟩ : ∃ acc', Hid (acc' = acc2.set acc.length (l[i].p, l[i].q)) := ⟨_, Lib.hid rfl⟩
            have HL2 : Hid (0 + acc.length + 1 + 0 = acc2.length) := Lib.hid (by rw [HAC.out]; simp)
            have hk8 : acc.length < acc2.length := by rw [← HL2.out]; omega
            have HLA : Hid (acc2.length = acc'.length) := Lib.hid (by rw [HAC'.out]; simp)
            have HLN : Hid (acc'.length ≤ i + 1) := Lib.hid (by rw [← HLA.out, ← HL2.out]; omega)
            have HG9 : Hid (acc2[acc.length]? = some (l[i].p, 0)) := Lib.hid (by rw [HAC.out]; simp)
            have HCL : Hid ((acc2.flatMap ndCells).set (acc.length * 2 + 1) (.int .i64 l[i].q) = acc'.flatMap ndCells) := Lib.hid (by rw [HAC'.out]; exact nd_set _ _ _ _ _ HG9.out)
            have HC9 : Hid ((acc2.flatMap ndCells)[acc.length * 2 + 1]? = some (.int .i64 0)) := Lib.hid (nd_cell1 _ _ _ _ HG9.out)

            have HNF : Hid (acc' = Od.nf Od.sl ((l.take (i + 1)).map pq)) := Lib.hid (by
              rw [HNX.out, HAC'.out, HAC.out, ins_new acc (pq l[i]) acc.length (Nat.le_refl _) (fun j h => (HLT.out j h).2) (fun h => absurd h (Nat.lt_irrefl _)), List.take_length, List.drop_length, List.set_append_right _ _ (Nat.le_refl _)]
              simp [pq])
            have hkx : (acc.length : Int) < (acc2.length : Int) := by omega
            generalize hM : l[i] = m at *
            simp only [itCells, List.getElem?_cons_zero, List.getElem?_cons_succ] at a1 a2
            generalize hMQ : m.q = mq at *
            generalize hMP : m.p = mp at *

            generalize hPB : (ByteArray.mk mp.toArray) = PB at *
            have HCN : Hid ([] ++ (acc.flatMap ndCells) ++ [.string PB, .int .i64 0] ++ [] = acc2.flatMap ndCells) := Lib.hid (by rw [HAC.out, ← hPB]; simp [ndCells])
            clear hPB hM hMQ hMP HAC HAC' HNX HG9
            have dk : decide ((acc.length : Int) < (acc.length : Int)) = false := by simp
            have dk2 : ((acc.length : Int) == (acc.length : Int)) = true := by simp
            have hk0 : (0 : Int) ≤ (acc.length : Int) := by omega
            have hk1 : (acc.length : Int) ≤ (d : Int) := by omega
            have C1 : Hid (0 + acc.length ≤ maxLen ∧ (0 + acc.length) * 24 ≤ 140737488355328 ∧ ((acc.flatMap ndCells)).length = acc.length * 2 ∧ ∀ u ∈ (acc.flatMap ndCells), u.oneCell' = true) := Lib.hid ⟨by unfold maxLen; omega, by omega, by rw [flatMap_len nd_len], nd_cell _⟩
            have C2 : Hid (0 + acc.length + 1 ≤ maxLen ∧ (0 + acc.length + 1) * 24 ≤ 140737488355328 ∧ ([.string PB, .int .i64 0] : List Value).length = 1 * 2 ∧ ∀ u ∈ ([.string PB, .int .i64 0] : List Value), u.oneCell' = true) := Lib.hid ⟨by unfold maxLen; omega, by omega, rfl, by intro u hu; simp at hu; rcases hu with rfl | rfl <;> rfl⟩
            have C3 : Hid (0 + acc.length + 1 + 0 ≤ maxLen ∧ (0 + acc.length + 1 + 0) * 24 ≤ 140737488355328 ∧ ([] : List Value).length = 0 * 2 ∧ ∀ u ∈ ([] : List Value), u.oneCell' = true) := Lib.hid ⟨by unfold maxLen; omega, by omega, rfl, by intro u hu; simp at hu⟩
            clear hacc1
            go_wp2_with fail
            go_quiet (fail)
            obtain ⟨na, rfl⟩ : ∃ na : Nat, na = nq := ⟨_, rfl⟩
            go_wp2_with fail
            go_quiet (fail)

            have HRW := Lib.hid (HR3.out.below (below_drewN (below_drewN (Below.refl wr.heap.size wr) na) nq))
            have hbw := Lib.hid (below_drewN (below_drewN hbel na) nq)
            clear hbel
            generalize hW : (wr.drewN na).drewN nq = W at *
            have hgw : g < W.heap.size := by rw [← hW]; exact hg
            have b1 : W.cell? ⟨g, off + i * 4 + 1, none⟩ = some (.string PB) := by rw [← hW]; exact a1
            have b2 : W.cell? ⟨g, off + i * 4 + 2, none⟩ = some (.int .i64 mq) := by rw [← hW]; exact a2
            have hbz : b0 ≤ W.heap.size := by have := hbw.out.size; omega

            clear hW a1 a2 hg
            go_wp2_with fail
            rcases own_cases HO.out with ⟨rfl, hn0, hd0⟩ | ⟨g2, rfl, hg2, hg3⟩
            · obtain rfl : d = acc.length := by omega
              clear hn0 hd0
              go_region_held3 (fun w' => w'.cell? ⟨g, off + i * 4 + 1, none⟩ = some (.string PB)) (first | go_keep | exact (hF3.out.cell (p := ⟨g, _, none⟩) hgw).trans b1 | exact (hF2.out.cell (p := ⟨g, _, none⟩) hgw).trans b1 | exact (hF1.out.cell (p := ⟨g, _, none⟩) hgw).trans b1 | exact ((hF1.out.alloc hF1.out.size _).cell (p := ⟨g, _, none⟩) hgw).trans b1)
                (first
                | (refine step_append_row (by rfl) _ _ _ (by rfl) W.heap.size 42 i0 _ 2 24 Try.underlying30 ia ib ic id rfl (by omega) _ 0 [] (by rfl) ((own_empty W W.heap.size 42 2 (Nat.le_refl _)).drew) _ _ _ (acc.flatMap ndCells) (by rfl) (HRW.out.below (below_drew (bel1 W (.cells #[] 42)))) C1.out.2.2.1 C1.out.2.2.2 C1.out.1 C1.out.2.1 (by simp <;> omega) ?_; intro v1 wa ho1 hg1; have hF1 := Lib.hid (below_append (below_drew (bel1 W (.cells #[] 42))) (by simp <;> omega) ((own_empty W W.heap.size 42 2 (Nat.le_refl _)).drew) hg1 (Nat.le_refl _)); have hP := Lib.hid ho1; clear ho1 hg1)
                | (refine step_append_row (by rfl) _ _ _ (by rfl) W.heap.size 42 i0 _ 2 24 Try.underlying30 ia ib ic id rfl (by omega) _ 0 [] (by rfl) (((own_empty W W.heap.size 42 2 (Nat.le_refl _)).alloc (.cells #[.string PB, .int .i64 0] 42)).drew) _ _ _ (acc.flatMap ndCells) (by rfl) (HRW.out.below (below_drew ((bel1 W (.cells #[] 42)).alloc (by simp) (.cells #[.string PB, .int .i64 0] 42)))) C1.out.2.2.1 C1.out.2.2.2 C1.out.1 C1.out.2.1 (by simp <;> omega) ?_; intro v1 wa ho1 hg1; have hF1 := Lib.hid (below_append (below_drew ((bel1 W (.cells #[] 42)).alloc (by simp) (.cells #[.string PB, .int .i64 0] 42))) (by simp <;> omega) (((own_empty W W.heap.size 42 2 (Nat.le_refl _)).alloc (.cells #[.string PB, .int .i64 0] 42)).drew) hg1 (Nat.le_refl _)); have hP := Lib.hid ho1; have HN := Lib.hid (row_grown (new2_rowB W _ _ _ _) hg1 (by simp [Value.ownBlock])); clear ho1 hg1)
                | (refine step_append_row (by rfl) _ _ _ (by rfl) W.heap.size 42 i0 _ 2 24 Try.underlying30 ia ib ic id rfl (by omega) _ 0 [] (by rfl) (own_emptyC W (.cells #[.string PB, .int .i64 0] 42) 42 2) _ _ _ (acc.flatMap ndCells) (by rfl) (HRW.out.below (below_drew ((bel1 W (.cells #[.string PB, .int .i64 0] 42)).alloc (by simp) (.cells #[] 42)))) C1.out.2.2.1 C1.out.2.2.2 C1.out.1 C1.out.2.1 (by simp <;> omega) ?_; intro v1 wa ho1 hg1; have hF1 := Lib.hid (below_append (below_drew ((bel1 W (.cells #[.string PB, .int .i64 0] 42)).alloc (by simp) (.cells #[] 42))) (by simp <;> omega) (own_emptyC W (.cells #[.string PB, .int .i64 0] 42) 42 2) hg1 (Nat.le_refl _)); have hP := Lib.hid ho1; have HN := Lib.hid (row_grown (new2_rowC W _ _ _ _) hg1 (by simp [Value.ownBlock])); clear ho1 hg1)
                | (refine step_append_row (by rfl) _ _ _ (by rfl) W.heap.size 42 i0 _ 2 24 Try.underlying30 ia ib ic id rfl (by omega) _ _ _ (by rfl) (hP.out.alloc _) _ 1 _ [.string PB, .int .i64 0] (by rfl) (new2_row _ _ _ _) C2.out.2.2.1 C2.out.2.2.2 C2.out.1 C2.out.2.1 (Below.size (hF1.out.alloc hF1.out.size _)) ?_; intro v2 wb ho2 hg2; have hF2 := Lib.hid (below_append (hF1.out.alloc hF1.out.size _) (Below.size (hF1.out.alloc hF1.out.size _)) (hP.out.alloc _) hg2 (Nat.le_refl _)); have hQ := Lib.hid ho2; clear ho2 hg2)
                | (refine step_append_row (by rfl) _ _ _ (by rfl) W.heap.size 42 i0 _ 2 24 Try.underlying30 ia ib ic id rfl (by omega) _ _ _ (by rfl) hP.out _ 1 _ [.string PB, .int .i64 0] (by rfl) HN.out C2.out.2.2.1 C2.out.2.2.2 C2.out.1 C2.out.2.1 (Below.size hF1.out) ?_; intro v2 wb ho2 hg2; have hF2 := Lib.hid (below_append hF1.out (Below.size hF1.out) hP.out hg2 (Nat.le_refl _)); have hQ := Lib.hid ho2; clear ho2 hg2)
                | (refine step_append_row (by rfl) _ _ _ (by rfl) W.heap.size 42 i0 _ 2 24 Try.underlying30 ia ib ic id rfl (by omega) _ _ _ (by rfl) hQ.out _ 0 _ [] (by rfl) (Row.nil _ _) C3.out.2.2.1 C3.out.2.2.2 C3.out.1 C3.out.2.1 (Below.size hF2.out) ?_; intro v3 wc ho3 hg3; have hF3 := Lib.hid (below_append hF2.out (Below.size hF2.out) hQ.out hg3 (Nat.le_refl _)); have hS := Lib.hid ho3; clear ho3 hg3))
              all_goals
                have HOV := Lib.hid (own_fit hS.out hbz HL2.out HCN.out)
                have HBV : Hid (Below b0 w1 wc) := Lib.hid ((HB2.out.trans (hbw.out.mono hz2)).trans (hF3.out.mono hbz))
                have a2' := (hF3.out.cell (p := ⟨g, _, none⟩) hgw).trans b2
                have b1' := (hF3.out.cell (p := ⟨g, _, none⟩) hgw).trans b1
                clear hS hF3 hF2 hQ hF1 hP b2 b1
                obtain ⟨B3, d3, rfl, _⟩ := own_shape HOV.out
                obtain ⟨g3, rfl, hgb, hg9⟩ := own_some HOV.out (by omega)
                have c1 := HOV.out.cellAt (acc.length * 2 + 1) (by omega)
                rw [HC9.out] at c1
                have a2 := a2'
                clear a2'
                have hk9 : (acc.length : Int) < (acc2.length : Int) := by omega
                have HBL := Lib.hid (below_drewN HBV.out 1)
                have hfr := HOV.out.frozenAt (acc.length * 2 + 1)
                have HOD := Lib.hid (World.ownsRow.stored (w := wc.drewN 1) (own_below HOV.out (below_drewN (Below.refl _ _) 1)) (acc.length * 2 + 1) (.int .i64 mq))
                go_wp2_with fail
                refine wp_region_still_tail 13 (by kernel_rfl) (by kernel_rfl) ?_
                simp only [List.take_succ_cons, List.take_zero, List.drop_succ_cons, List.drop_zero]
                iterate 13 still_step
                refine wpStill_nil ?_
                change wpList _ _ _ _ _ (wc.drewN 1)
                have hfr2 : (wc.drewN 1).frozen? ⟨g3, acc.length * 2 + 1, none⟩ = false := hfr
                have c2' : (wc.drewN 1).cell? ⟨g3, acc.length * 2 + 1, none⟩ = some (.int .i64 0) := c1
                clear hfr c1 a2
                go_wp2_with fail
                have HOWN : Hid (((wc.drewN 1).setCell ⟨g3, acc.length * 2 + 1, none⟩ (.int .i64 mq)).ownsRow b0 42 2 (.slice (some ⟨g3, 0, none⟩) acc2.length d3) acc'.length (acc'.flatMap ndCells)) := Lib.hid (own_fit HOD.out.1 (Nat.le_refl _) HLA.out HCL.out)
                have HBEL : Hid (Below b0 w1 ((wc.drewN 1).setCell ⟨g3, acc.length * 2 + 1, none⟩ (.int .i64 mq))) := Lib.hid (HBL.out.setCell hgb _)
                clear HOD c2' hfr2
                go_roundw
                case rel => exact ⟨i + 1, _, by omega, by go_num, HNF, HLN, HOWN.out, HBEL.out⟩
                case measure => simp [intOf]; omega
            · clear hg2 hg3
              by_cases hda : d = acc.length
              · subst hda
                go_region_held3 (fun w' => w'.cell? ⟨g, off + i * 4 + 1, none⟩ = some (.string PB)) (first | go_keep | exact (hF3.out.cell (p := ⟨g, _, none⟩) hgw).trans b1 | exact (hF2.out.cell (p := ⟨g, _, none⟩) hgw).trans b1 | exact (hF1.out.cell (p := ⟨g, _, none⟩) hgw).trans b1 | exact ((hF1.out.alloc hF1.out.size _).cell (p := ⟨g, _, none⟩) hgw).trans b1)
                  (first
                  | (refine step_append_row (by rfl) _ _ _ (by rfl) W.heap.size 42 i0 _ 2 24 Try.underlying30 ia ib ic id rfl (by omega) _ 0 [] (by rfl) ((own_empty W W.heap.size 42 2 (Nat.le_refl _)).drew) _ _ _ (acc.flatMap ndCells) (by rfl) (HRW.out.below (below_drew (bel1 W (.cells #[] 42)))) C1.out.2.2.1 C1.out.2.2.2 C1.out.1 C1.out.2.1 (by simp <;> omega) ?_; intro v1 wa ho1 hg1; have hF1 := Lib.hid (below_append (below_drew (bel1 W (.cells #[] 42))) (by simp <;> omega) ((own_empty W W.heap.size 42 2 (Nat.le_refl _)).drew) hg1 (Nat.le_refl _)); have hP := Lib.hid ho1; clear ho1 hg1)
                  | (refine step_append_row (by rfl) _ _ _ (by rfl) W.heap.size 42 i0 _ 2 24 Try.underlying30 ia ib ic id rfl (by omega) _ 0 [] (by rfl) (((own_empty W W.heap.size 42 2 (Nat.le_refl _)).alloc (.cells #[.string PB, .int .i64 0] 42)).drew) _ _ _ (acc.flatMap ndCells) (by rfl) (HRW.out.below (below_drew ((bel1 W (.cells #[] 42)).alloc (by simp) (.cells #[.string PB, .int .i64 0] 42)))) C1.out.2.2.1 C1.out.2.2.2 C1.out.1 C1.out.2.1 (by simp <;> omega) ?_; intro v1 wa ho1 hg1; have hF1 := Lib.hid (below_append (below_drew ((bel1 W (.cells #[] 42)).alloc (by simp) (.cells #[.string PB, .int .i64 0] 42))) (by simp <;> omega) (((own_empty W W.heap.size 42 2 (Nat.le_refl _)).alloc (.cells #[.string PB, .int .i64 0] 42)).drew) hg1 (Nat.le_refl _)); have hP := Lib.hid ho1; have HN := Lib.hid (row_grown (new2_rowB W _ _ _ _) hg1 (by simp [Value.ownBlock])); clear ho1 hg1)
                  | (refine step_append_row (by rfl) _ _ _ (by rfl) W.heap.size 42 i0 _ 2 24 Try.underlying30 ia ib ic id rfl (by omega) _ 0 [] (by rfl) (own_emptyC W (.cells #[.string PB, .int .i64 0] 42) 42 2) _ _ _ (acc.flatMap ndCells) (by rfl) (HRW.out.below (below_drew ((bel1 W (.cells #[.string PB, .int .i64 0] 42)).alloc (by simp) (.cells #[] 42)))) C1.out.2.2.1 C1.out.2.2.2 C1.out.1 C1.out.2.1 (by simp <;> omega) ?_; intro v1 wa ho1 hg1; have hF1 := Lib.hid (below_append (below_drew ((bel1 W (.cells #[.string PB, .int .i64 0] 42)).alloc (by simp) (.cells #[] 42))) (by simp <;> omega) (own_emptyC W (.cells #[.string PB, .int .i64 0] 42) 42 2) hg1 (Nat.le_refl _)); have hP := Lib.hid ho1; have HN := Lib.hid (row_grown (new2_rowC W _ _ _ _) hg1 (by simp [Value.ownBlock])); clear ho1 hg1)
                  | (refine step_append_row (by rfl) _ _ _ (by rfl) W.heap.size 42 i0 _ 2 24 Try.underlying30 ia ib ic id rfl (by omega) _ _ _ (by rfl) (hP.out.alloc _) _ 1 _ [.string PB, .int .i64 0] (by rfl) (new2_row _ _ _ _) C2.out.2.2.1 C2.out.2.2.2 C2.out.1 C2.out.2.1 (Below.size (hF1.out.alloc hF1.out.size _)) ?_; intro v2 wb ho2 hg2; have hF2 := Lib.hid (below_append (hF1.out.alloc hF1.out.size _) (Below.size (hF1.out.alloc hF1.out.size _)) (hP.out.alloc _) hg2 (Nat.le_refl _)); have hQ := Lib.hid ho2; clear ho2 hg2)
                  | (refine step_append_row (by rfl) _ _ _ (by rfl) W.heap.size 42 i0 _ 2 24 Try.underlying30 ia ib ic id rfl (by omega) _ _ _ (by rfl) hP.out _ 1 _ [.string PB, .int .i64 0] (by rfl) HN.out C2.out.2.2.1 C2.out.2.2.2 C2.out.1 C2.out.2.1 (Below.size hF1.out) ?_; intro v2 wb ho2 hg2; have hF2 := Lib.hid (below_append hF1.out (Below.size hF1.out) hP.out hg2 (Nat.le_refl _)); have hQ := Lib.hid ho2; clear ho2 hg2)
                  | (refine step_append_row (by rfl) _ _ _ (by rfl) W.heap.size 42 i0 _ 2 24 Try.underlying30 ia ib ic id rfl (by omega) _ _ _ (by rfl) hQ.out _ 0 _ [] (by rfl) (Row.nil _ _) C3.out.2.2.1 C3.out.2.2.2 C3.out.1 C3.out.2.1 (Below.size hF2.out) ?_; intro v3 wc ho3 hg3; have hF3 := Lib.hid (below_append hF2.out (Below.size hF2.out) hQ.out hg3 (Nat.le_refl _)); have hS := Lib.hid ho3; clear ho3 hg3))
                all_goals
                  have HOV := Lib.hid (own_fit hS.out hbz HL2.out HCN.out)
                  have HBV : Hid (Below b0 w1 wc) := Lib.hid ((HB2.out.trans (hbw.out.mono hz2)).trans (hF3.out.mono hbz))
                  have a2' := (hF3.out.cell (p := ⟨g, _, none⟩) hgw).trans b2
                  have b1' := (hF3.out.cell (p := ⟨g, _, none⟩) hgw).trans b1
                  clear hS hF3 hF2 hQ hF1 hP b2 b1
                  obtain ⟨B3, d3, rfl, _⟩ := own_shape HOV.out
                  obtain ⟨g3, rfl, hgb, hg9⟩ := own_some HOV.out (by omega)
                  have c1 := HOV.out.cellAt (acc.length * 2 + 1) (by omega)
                  rw [HC9.out] at c1
                  have a2 := a2'
                  clear a2'
                  have hk9 : (acc.length : Int) < (acc2.length : Int) := by omega
                  have HBL := Lib.hid (below_drewN HBV.out 1)
                  have hfr := HOV.out.frozenAt (acc.length * 2 + 1)
                  have HOD := Lib.hid (World.ownsRow.stored (w := wc.drewN 1) (own_below HOV.out (below_drewN (Below.refl _ _) 1)) (acc.length * 2 + 1) (.int .i64 mq))
                  go_wp2_with fail
                  refine wp_region_still_tail 13 (by kernel_rfl) (by kernel_rfl) ?_
                  simp only [List.take_succ_cons, List.take_zero, List.drop_succ_cons, List.drop_zero]
                  iterate 13 still_step
                  refine wpStill_nil ?_
                  change wpList _ _ _ _ _ (wc.drewN 1)
                  have hfr2 : (wc.drewN 1).frozen? ⟨g3, acc.length * 2 + 1, none⟩ = false := hfr
                  have c2' : (wc.drewN 1).cell? ⟨g3, acc.length * 2 + 1, none⟩ = some (.int .i64 0) := c1
                  clear hfr c1 a2
                  go_wp2_with fail
                  have HOWN : Hid (((wc.drewN 1).setCell ⟨g3, acc.length * 2 + 1, none⟩ (.int .i64 mq)).ownsRow b0 42 2 (.slice (some ⟨g3, 0, none⟩) acc2.length d3) acc'.length (acc'.flatMap ndCells)) := Lib.hid (own_fit HOD.out.1 (Nat.le_refl _) HLA.out HCL.out)
                  have HBEL : Hid (Below b0 w1 ((wc.drewN 1).setCell ⟨g3, acc.length * 2 + 1, none⟩ (.int .i64 mq))) := Lib.hid (HBL.out.setCell hgb _)
                  clear HOD c2' hfr2
                  go_roundw
                  case rel => exact ⟨i + 1, _, by omega, by go_num, HNF, HLN, HOWN.out, HBEL.out⟩
                  case measure => simp [intOf]; omega
              ·
                go_region_held3 (fun w' => w'.cell? ⟨g, off + i * 4 + 1, none⟩ = some (.string PB)) (first | go_keep | exact (hF3.out.cell (p := ⟨g, _, none⟩) hgw).trans b1 | exact (hF2.out.cell (p := ⟨g, _, none⟩) hgw).trans b1 | exact (hF1.out.cell (p := ⟨g, _, none⟩) hgw).trans b1 | exact ((hF1.out.alloc hF1.out.size _).cell (p := ⟨g, _, none⟩) hgw).trans b1)
                  (first
                  | (refine step_append_row (by rfl) _ _ _ (by rfl) W.heap.size 42 i0 _ 2 24 Try.underlying30 ia ib ic id rfl (by omega) _ 0 [] (by rfl) ((own_empty W W.heap.size 42 2 (Nat.le_refl _)).drew) _ _ _ (acc.flatMap ndCells) (by rfl) (HRW.out.below (below_drew (bel1 W (.cells #[] 42)))) C1.out.2.2.1 C1.out.2.2.2 C1.out.1 C1.out.2.1 (by simp <;> omega) ?_; intro v1 wa ho1 hg1; have hF1 := Lib.hid (below_append (below_drew (bel1 W (.cells #[] 42))) (by simp <;> omega) ((own_empty W W.heap.size 42 2 (Nat.le_refl _)).drew) hg1 (Nat.le_refl _)); have hP := Lib.hid ho1; clear ho1 hg1)
                  | (refine step_append_row (by rfl) _ _ _ (by rfl) W.heap.size 42 i0 _ 2 24 Try.underlying30 ia ib ic id rfl (by omega) _ 0 [] (by rfl) (((own_empty W W.heap.size 42 2 (Nat.le_refl _)).alloc (.cells #[.string PB, .int .i64 0] 42)).drew) _ _ _ (acc.flatMap ndCells) (by rfl) (HRW.out.below (below_drew ((bel1 W (.cells #[] 42)).alloc (by simp) (.cells #[.string PB, .int .i64 0] 42)))) C1.out.2.2.1 C1.out.2.2.2 C1.out.1 C1.out.2.1 (by simp <;> omega) ?_; intro v1 wa ho1 hg1; have hF1 := Lib.hid (below_append (below_drew ((bel1 W (.cells #[] 42)).alloc (by simp) (.cells #[.string PB, .int .i64 0] 42))) (by simp <;> omega) (((own_empty W W.heap.size 42 2 (Nat.le_refl _)).alloc (.cells #[.string PB, .int .i64 0] 42)).drew) hg1 (Nat.le_refl _)); have hP := Lib.hid ho1; have HN := Lib.hid (row_grown (new2_rowB W _ _ _ _) hg1 (by simp [Value.ownBlock])); clear ho1 hg1)
                  | (refine step_append_row (by rfl) _ _ _ (by rfl) W.heap.size 42 i0 _ 2 24 Try.underlying30 ia ib ic id rfl (by omega) _ 0 [] (by rfl) (own_emptyC W (.cells #[.string PB, .int .i64 0] 42) 42 2) _ _ _ (acc.flatMap ndCells) (by rfl) (HRW.out.below (below_drew ((bel1 W (.cells #[.string PB, .int .i64 0] 42)).alloc (by simp) (.cells #[] 42)))) C1.out.2.2.1 C1.out.2.2.2 C1.out.1 C1.out.2.1 (by simp <;> omega) ?_; intro v1 wa ho1 hg1; have hF1 := Lib.hid (below_append (below_drew ((bel1 W (.cells #[.string PB, .int .i64 0] 42)).alloc (by simp) (.cells #[] 42))) (by simp <;> omega) (own_emptyC W (.cells #[.string PB, .int .i64 0] 42) 42 2) hg1 (Nat.le_refl _)); have hP := Lib.hid ho1; have HN := Lib.hid (row_grown (new2_rowC W _ _ _ _) hg1 (by simp [Value.ownBlock])); clear ho1 hg1)
                  | (refine step_append_row (by rfl) _ _ _ (by rfl) W.heap.size 42 i0 _ 2 24 Try.underlying30 ia ib ic id rfl (by omega) _ _ _ (by rfl) (hP.out.alloc _) _ 1 _ [.string PB, .int .i64 0] (by rfl) (new2_row _ _ _ _) C2.out.2.2.1 C2.out.2.2.2 C2.out.1 C2.out.2.1 (Below.size (hF1.out.alloc hF1.out.size _)) ?_; intro v2 wb ho2 hg2; have hF2 := Lib.hid (below_append (hF1.out.alloc hF1.out.size _) (Below.size (hF1.out.alloc hF1.out.size _)) (hP.out.alloc _) hg2 (Nat.le_refl _)); have hQ := Lib.hid ho2; clear ho2 hg2)
                  | (refine step_append_row (by rfl) _ _ _ (by rfl) W.heap.size 42 i0 _ 2 24 Try.underlying30 ia ib ic id rfl (by omega) _ _ _ (by rfl) hP.out _ 1 _ [.string PB, .int .i64 0] (by rfl) HN.out C2.out.2.2.1 C2.out.2.2.2 C2.out.1 C2.out.2.1 (Below.size hF1.out) ?_; intro v2 wb ho2 hg2; have hF2 := Lib.hid (below_append hF1.out (Below.size hF1.out) hP.out hg2 (Nat.le_refl _)); have hQ := Lib.hid ho2; clear ho2 hg2)
                  | (refine step_append_row (by rfl) _ _ _ (by rfl) W.heap.size 42 i0 _ 2 24 Try.underlying30 ia ib ic id rfl (by omega) _ _ _ (by rfl) hQ.out _ 0 _ [] (by rfl) (Row.nil _ _) C3.out.2.2.1 C3.out.2.2.2 C3.out.1 C3.out.2.1 (Below.size hF2.out) ?_; intro v3 wc ho3 hg3; have hF3 := Lib.hid (below_append hF2.out (Below.size hF2.out) hQ.out hg3 (Nat.le_refl _)); have hS := Lib.hid ho3; clear ho3 hg3))
                all_goals
                  have HOV := Lib.hid (own_fit hS.out hbz HL2.out HCN.out)
                  have HBV : Hid (Below b0 w1 wc) := Lib.hid ((HB2.out.trans (hbw.out.mono hz2)).trans (hF3.out.mono hbz))
                  have a2' := (hF3.out.cell (p := ⟨g, _, none⟩) hgw).trans b2
                  have b1' := (hF3.out.cell (p := ⟨g, _, none⟩) hgw).trans b1
                  clear hS hF3 hF2 hQ hF1 hP b2 b1
                  obtain ⟨B3, d3, rfl, _⟩ := own_shape HOV.out
                  obtain ⟨g3, rfl, hgb, hg9⟩ := own_some HOV.out (by omega)
                  have c1 := HOV.out.cellAt (acc.length * 2 + 1) (by omega)
                  rw [HC9.out] at c1
                  have a2 := a2'
                  clear a2'
                  have hk9 : (acc.length : Int) < (acc2.length : Int) := by omega
                  have HBL := Lib.hid (below_drewN HBV.out 1)
                  have hfr := HOV.out.frozenAt (acc.length * 2 + 1)
                  have HOD := Lib.hid (World.ownsRow.stored (w := wc.drewN 1) (own_below HOV.out (below_drewN (Below.refl _ _) 1)) (acc.length * 2 + 1) (.int .i64 mq))
                  go_wp2_with fail
                  refine wp_region_still_tail 13 (by kernel_rfl) (by kernel_rfl) ?_
                  simp only [List.take_succ_cons, List.take_zero, List.drop_succ_cons, List.drop_zero]
                  iterate 13 still_step
                  refine wpStill_nil ?_
                  change wpList _ _ _ _ _ (wc.drewN 1)
                  have hfr2 : (wc.drewN 1).frozen? ⟨g3, acc.length * 2 + 1, none⟩ = false := hfr
                  have c2' : (wc.drewN 1).cell? ⟨g3, acc.length * 2 + 1, none⟩ = some (.int .i64 0) := c1
                  clear hfr c1 a2
                  go_wp2_with fail
                  have HOWN : Hid (((wc.drewN 1).setCell ⟨g3, acc.length * 2 + 1, none⟩ (.int .i64 mq)).ownsRow b0 42 2 (.slice (some ⟨g3, 0, none⟩) acc2.length d3) acc'.length (acc'.flatMap ndCells)) := Lib.hid (own_fit HOD.out.1 (Nat.le_refl _) HLA.out HCL.out)
                  have HBEL : Hid (Below b0 w1 ((wc.drewN 1).setCell ⟨g3, acc.length * 2 + 1, none⟩ (.int .i64 mq))) := Lib.hid (HBL.out.setCell hgb _)
                  clear HOD c2' hfr2
                  go_roundw
                  case rel => exact ⟨i + 1, _, by omega, by go_num, HNF, HLN, HOWN.out, HBEL.out⟩
                  case measure => simp [intOf]; omega
      · obtain rfl : i = l.length := by omega
        have HAA : Hid (demand l = acc) := Lib.hid (by rw [HA.out, List.take_length]; exact HD.out)
        obtain ⟨B, d, rfl, hnd⟩ := own_shape hown
        have HRO := Lib.hid (Row.of_own hown)
        have HBF := Lib.hid ((HK1.out.below (by rw [hb0]; exact hbel)).bel)
        clear hown hbel HK2
        go_wp2_with fail
        go_ret
        rw [HAA.out]
        exact ⟨B, d, rfl, HRO.out, HBF.out⟩
  · rw [show Od.valid l = false by simpa using hv] at HV
    have HD := Lib.hid (show demand l = [] by unfold demand; rw [if_neg hv])
    clear hv
    go_enter Try.func19, Try.ntmps19
    go_wp2_with fail
    refine (HV.out _ (HK0.out.r 0 rfl)).mono ?_
    rintro e w1 ⟨rfl, hb1⟩
    have HB := Lib.hid (HK0.out.below hb1).bel
    clear hb1
    go_wp2
    go_ret
    rw [HD.out]
    exact ⟨none, 0, rfl, Row.nil _ _, HB.out⟩
end Go.Proofs.Yteldekkodhfkkaa.OdW
