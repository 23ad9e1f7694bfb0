/- Walk: the reference's normal form. Conditions: the list lies in memory; its texts are short. -/
import Derived.Test.YteldekkodhfkkaaOdR2
import Derived.Test.YteldekkodhfkkaaKept
import Derived.Deep.QuietTactic
import Derived.Deep.DrawnRows
import Derived.Deep.RegionHeld3
import Derived.StillTailTactics
namespace Go.Proofs.Yteldekkodhfkkaa.OdW
open Go Go.RowKit Go.Proofs.Yteldekkodhfkkaa.Mem
attribute [local go_sem ↓] Go.wp_at_zero Go.wp_at_succ

set_option maxRecDepth 100000 in
set_option maxHeartbeats 8000000 in
theorem rnormal_any (l : List Od.It) (A : Option Addr) (c : Nat) (w : World) (hr : Row w A (l.flatMap itCells)) (hl : l.length ≤ 1000000) (hsh : ∀ m ∈ l, Od.Short m) :
    Calls Try.prog 12 #[.slice A l.length c] w fun e w' => ∃ (B : Option Addr) (d : Nat), e = .returned (.tuple #[.slice B (normal l).1.length d, .int .i64 (normal l).2]) ∧ Row w' B ((normal l).1.flatMap itCells) ∧ Below w.heap.size w w' := by
  have HV := Lib.hid (fun W h => rvalid_any l A c W h hl hsh)
  have HK0 := Lib.hid ((Kept.start w).add hr)
  clear hr
  obtain ⟨i0, ia, ib, ic, id⟩ := info_parts info_item
  by_cases hv : Od.valid l = true
  · rw [hv] at HV
    have HD := Lib.hid (show normal l = if (sums l).all (fun x => decide (x.2 ≤ 1000)) = true then ((sums l).map toIt, 0) else ([], 2) by unfold normal; rw [if_pos hv])
    have hl100 := Od.valid_len hv
    have HOK := Lib.hid (fun x (hx : x ∈ l) => Od.ok_parts (Od.valid_ok hv hx))
    clear hv
    go_enter Try.func12, Try.ntmps12
    go_wp2_with fail
    refine (HV.out _ (HK0.out.r 0 rfl)).mono ?_
    rintro e w1 ⟨rfl, hb⟩
    have HK1 := Lib.hid (HK0.out.below hb)
    clear hb HK0
    go_wp2_with fail
    generalize hb0 : w1.heap.size = b0 at *
    go_loopw [4, 5] (fun v t wr => ∃ (i : Nat) (acc : List (Od.Ky × Int)), i ≤ l.length ∧ t = .int .i64 i ∧ Hid (acc = Od.nf Od.kl ((l.take i).map kq)) ∧ Hid (acc.length ≤ i) ∧ wr.ownsRow b0 36 4 v acc.length ((acc.map toIt).flatMap itCells) ∧ Below b0 w1 wr) (fun _ t _ => l.length - (intOf t).toNat)
    case atStart => exact ⟨0, [], Nat.zero_le _, rfl, Lib.hid rfl, Lib.hid (Nat.le_refl _), World.ownsRow_nil _ _ _ _, Below.refl _ _⟩
    case round =>
      obtain ⟨i, acc, hi, rfl, HA, hacc, hown, hbel⟩ := hrel
      have hz2 : b0 ≤ wr.heap.size := by have := hbel.size; omega
      have HK2 := Lib.hid (HK1.out.below (by rw [hb0]; exact hbel))
      by_cases hlt : i < l.length
      · have hacc1 := hacc.out
        have hacc : acc.length ≤ 100 := by omega
        obtain ⟨B, d, rfl, hnd⟩ := own_shape hown
        have HO := Lib.hid hown
        have HRO := Lib.hid (Row.of_own hown)
        have HB2 := Lib.hid hbel
        clear hown hbel
        have HNX : Hid (Od.nf Od.kl ((l.take (i + 1)).map kq) = Od.ins Od.kl acc (kq l[i])) := Lib.hid (by rw [take_snoc' l i hlt, List.map_append, List.map_singleton, Od.nf_snoc, ← HA.out])
        go_wp2_with fail
        obtain ⟨wo, rfl⟩ : ∃ wo : World, wo = wr := ⟨_, rfl⟩
        go_loopw [6] (fun t wq => ∃ k : Nat, k ≤ acc.length ∧ t = .int .i64 k ∧ Hid (∀ j (h : j < k), ∃ hj : j < acc.length, Od.kl (acc[j]'hj).1 (key l[i]) = true) ∧ Below wo.heap.size wo wq) (fun t _ => acc.length - (intOf t).toNat)
        case atStart => exact ⟨0, Nat.zero_le _, rfl, Lib.hid (fun j h => absurd h (Nat.not_lt_zero j)), Below.refl _ _⟩
        case round =>
          obtain ⟨k, hk, rfl, HLT, hbel⟩ := hrel
          have HK3 := Lib.hid (HK2.out.below hbel)
          have HR3 := Lib.hid (HRO.out.below hbel)
          obtain ⟨g, off, rfl, hg, ca⟩ := row_get it_len (by decide) (HK3.out.r 0 rfl) (by omega)
          have a0 := ca i hlt 0 (by decide)
          have a1 := ca i hlt 1 (by decide)
          have a2 := ca i hlt 2 (by decide)
          have a3 := ca i hlt 3 (by decide)
          have hqb := HOK.out l[i] (List.getElem_mem hlt)
          have hz3 := hbel.size
          clear ca
          have hi0 : (0 : Int) ≤ (i : Int) := by omega
          have hi1 : (i : Int) < (l.length : Int) := by omega
          by_cases hkl : k < acc.length
          · obtain ⟨g2, rfl, hg2, hg3⟩ := own_some HO.out (by omega)
            obtain ⟨cn, hdn⟩ : ∃ cn, cn = d := ⟨d, rfl⟩
            have cb := row_get0 it_len HR3.out (by simpa using hkl)
            have c0 := cb.2 k (by simpa using hkl) 0 (by decide)
            have c1 := cb.2 k (by simpa using hkl) 1 (by decide)
            have c2 := cb.2 k (by simpa using hkl) 2 (by decide)
            have c3 := cb.2 k (by simpa using hkl) 3 (by decide)
            have hgr := cb.1
            rw [List.getElem_map] at c0 c1 c2 c3
            clear cb hdn
            have dk : decide ((k : Int) < (acc.length : Int)) = true := by simp; omega
            have hk0 : (0 : Int) ≤ (k : Int) := by omega
            have hk1 : (k : Int) < (acc.length : Int) := by omega
            have HL1 := Lib.hid (fun W => rless_any (toIt acc[k]) l[i] W)
            have HL2 := Lib.hid (fun W => rless_any l[i] (toIt acc[k]) W)
            have HKE := Lib.hid (show key (toIt acc[k]) = acc[k].1 from rfl)
            have HQE := Lib.hid (show (toIt acc[k]).q = acc[k].2 from rfl)
            by_cases hls : Od.kl acc[k].1 (key l[i]) = true
            · rw [HKE.out, hls] at HL1
              have HLT2 : Hid (∀ j (h : j < k + 1), ∃ hj : j < acc.length, Od.kl (acc[j]'hj).1 (key l[i]) = true) := Lib.hid (fun j h => by
                rcases Nat.lt_or_ge j k with h1 | h1
                · exact HLT.out j h1
                · obtain rfl : j = k := by omega
                  exact ⟨hkl, hls⟩)
              clear hls HL2
              generalize hN : toIt acc[k] = n at *
              generalize hM : l[i] = m at *
              simp only [itCells, List.getElem?_cons_zero, List.getElem?_cons_succ, Nat.add_zero] at a0 a1 a2 a3
              generalize hOB : (ByteArray.mk m.o.toArray) = OB at *
              generalize hPB : (ByteArray.mk m.p.toArray) = PB at *
              generalize hMQ : m.q = mq at *
              generalize hMD : m.d = md at *
              have HCELL : Hid (itCells m = [.string OB, .string PB, .int .i64 mq, .int .i64 md]) := Lib.hid (by unfold itCells; rw [hOB, hPB, hMQ, hMD])
              have HHM := Lib.hid hM

              simp only [itCells, List.getElem?_cons_zero, List.getElem?_cons_succ, Nat.add_zero] at c0 c1 c2 c3
              generalize (ByteArray.mk n.o.toArray) = OB2 at *
              generalize (ByteArray.mk n.p.toArray) = PB2 at *
              generalize n.q = nq2 at *
              generalize n.d = nd2 at *
              clear hOB hPB hM hMQ hMD hqb
              have HBL := Lib.hid (below_drewN hbel 1)
              go_wp2_with fail
              refine wp_region_still_tail 13 (by kernel_rfl) (by kernel_rfl) ?_
              simp only [List.take_succ_cons, List.take_zero, List.drop_succ_cons, List.drop_zero]
              iterate 13 still_step
              refine wpStill_nil ?_
              change wpList _ _ _ _ _ (wr.drewN 1)
              go_wp2_with fail
              refine (HL1.out _).mono ?_
              rintro e w6 ⟨rfl, hb⟩
              have hb6 := HBL.out.trans (hb.mono HBL.out.size)
              clear hb hbel a0 a1 a2 a3 c0 c1 c2 c3 HL1
              go_wp2
              go_roundw
              case rel => exact ⟨k + 1, by omega, by go_num, HLT2, hb6⟩
              case measure => simp [intOf]; omega
            · rw [HKE.out, show Od.kl acc[k].1 (key l[i]) = false by simpa using hls] at HL1
              have hls0 := Lib.hid (show Od.kl acc[k].1 (key l[i]) = false by simpa using hls)
              clear hls
              by_cases hl2 : Od.kl (key l[i]) acc[k].1 = true
              · rw [HKE.out, hl2] at HL2
                obtain ⟨acc', HAC⟩ : ∃ acc', Hid (acc' = acc.take k ++ kq l[i] :: acc.drop k) := ⟨_, Lib.hid rfl⟩
                have HNF : Hid (acc' = Od.nf Od.kl ((l.take (i + 1)).map kq)) := Lib.hid (by
                  rw [HNX.out, HAC.out, ins_new acc (kq l[i]) k hk (fun j h => (HLT.out j h).2) (fun h => ⟨hls0.out, hl2⟩)])
                have HLA : Hid (0 + k + 1 + (acc.length - k) = acc'.length) := Lib.hid (by rw [HAC.out]; simp; omega)
                have HLN : Hid (acc'.length ≤ i + 1) := Lib.hid (by rw [← HLA.out]; omega)
                have hl3 := Lib.hid hl2
                clear hl2 hls0
                generalize hN : toIt acc[k] = n at *
                generalize hM : l[i] = m at *
                simp only [itCells, List.getElem?_cons_zero, List.getElem?_cons_succ, Nat.add_zero] at a0 a1 a2 a3
                generalize hOB : (ByteArray.mk m.o.toArray) = OB at *
                generalize hPB : (ByteArray.mk m.p.toArray) = PB at *
                generalize hMQ : m.q = mq at *
                generalize hMD : m.d = md at *
                have HCELL : Hid (itCells m = [.string OB, .string PB, .int .i64 mq, .int .i64 md]) := Lib.hid (by unfold itCells; rw [hOB, hPB, hMQ, hMD])
                have HHM := Lib.hid hM
                have HCL : Hid ([] ++ (((acc.take k).map toIt).flatMap itCells) ++ [.string OB, .string PB, .int .i64 mq, .int .i64 md] ++ (((acc.drop k).map toIt).flatMap itCells) = (acc'.map toIt).flatMap itCells) := Lib.hid (by rw [HAC.out]; simp [← HCELL.out, toIt_kq])
                simp only [itCells, List.getElem?_cons_zero, List.getElem?_cons_succ, Nat.add_zero] at c0 c1 c2 c3
                generalize (ByteArray.mk n.o.toArray) = OB2 at *
                generalize (ByteArray.mk n.p.toArray) = PB2 at *
                generalize n.q = nq2 at *
                generalize n.d = nd2 at *
                clear hOB hPB hM hMQ hMD hqb
                have C1 : Hid (0 + k ≤ maxLen ∧ (0 + k) * 48 ≤ 140737488355328 ∧ ((((acc.take k).map toIt).flatMap itCells)).length = k * 4 ∧ ∀ u ∈ (((acc.take k).map toIt).flatMap itCells), u.oneCell' = true) := Lib.hid ⟨by unfold maxLen; omega, by omega, by rw [flatMap_len it_len, List.length_map, List.length_take]; omega, it_cell _⟩
                have C2 : Hid (0 + k + 1 ≤ maxLen ∧ (0 + k + 1) * 48 ≤ 140737488355328 ∧ ([.string OB, .string PB, .int .i64 mq, .int .i64 md] : List Value).length = 1 * 4 ∧ ∀ u ∈ ([.string OB, .string PB, .int .i64 mq, .int .i64 md] : List Value), u.oneCell' = true) := Lib.hid ⟨by unfold maxLen; omega, by omega, rfl, by intro u hu; simp at hu; rcases hu with rfl | rfl | rfl | rfl <;> rfl⟩
                have C3 : Hid (0 + k + 1 + (acc.length - k) ≤ maxLen ∧ (0 + k + 1 + (acc.length - k)) * 48 ≤ 140737488355328 ∧ ((((acc.drop k).map toIt).flatMap itCells) : List Value).length = (acc.length - k) * 4 ∧ ∀ u ∈ ((((acc.drop k).map toIt).flatMap itCells) : List Value), u.oneCell' = true) := Lib.hid ⟨by unfold maxLen; omega, by omega, by rw [flatMap_len it_len, List.length_map, List.length_drop], it_cell _⟩
                go_wp2_with fail
                refine wp_region_still_tail 13 (by kernel_rfl) (by kernel_rfl) ?_
                simp only [List.take_succ_cons, List.take_zero, List.drop_succ_cons, List.drop_zero]
                iterate 13 still_step
                refine wpStill_nil ?_
                change wpList _ _ _ _ _ (wr.drewN 1)
                go_wp2_with fail
                refine (HL1.out _).mono ?_
                rintro e w6 ⟨rfl, hb⟩
                have hb' : Below wr.heap.size wr w6 := (below_drewN (Below.refl _ _) 1).trans hb
                have hbww6 := Lib.hid (hbel.trans (hb'.mono hz3))
                replace a0 := (hb'.cell (p := ⟨g, _, none⟩) hg).trans a0
                replace c0 := (hb'.cell (p := ⟨g2, _, none⟩) hgr).trans c0
                replace a1 := (hb'.cell (p := ⟨g, _, none⟩) hg).trans a1
                replace c1 := (hb'.cell (p := ⟨g2, _, none⟩) hgr).trans c1
                replace a2 := (hb'.cell (p := ⟨g, _, none⟩) hg).trans a2
                replace c2 := (hb'.cell (p := ⟨g2, _, none⟩) hgr).trans c2
                replace a3 := (hb'.cell (p := ⟨g, _, none⟩) hg).trans a3
                replace c3 := (hb'.cell (p := ⟨g2, _, none⟩) hgr).trans c3
                replace hg := Nat.lt_of_lt_of_le hg hb'.size
                replace hgr := Nat.lt_of_lt_of_le hgr hb'.size
                have HRW := Lib.hid (HR3.out.below hb')
                clear hb hb' hbel HL1
                go_wp2_with fail
                refine wp_region_still_tail 13 (by kernel_rfl) (by kernel_rfl) ?_
                simp only [List.take_succ_cons, List.take_zero, List.drop_succ_cons, List.drop_zero]
                iterate 13 still_step
                refine wpStill_nil ?_
                change wpList _ _ _ _ _ (w6.drewN 1)
                go_wp2_with fail
                refine (HL2.out _).mono ?_
                rintro e W ⟨rfl, hb⟩
                have hb' : Below w6.heap.size w6 W := (below_drewN (Below.refl _ _) 1).trans hb
                have hbwW := Lib.hid (hbww6.out.trans (hb'.mono hbww6.out.size))
                replace a0 := (hb'.cell (p := ⟨g, _, none⟩) hg).trans a0
                replace c0 := (hb'.cell (p := ⟨g2, _, none⟩) hgr).trans c0
                replace a1 := (hb'.cell (p := ⟨g, _, none⟩) hg).trans a1
                replace c1 := (hb'.cell (p := ⟨g2, _, none⟩) hgr).trans c1
                replace a2 := (hb'.cell (p := ⟨g, _, none⟩) hg).trans a2
                replace c2 := (hb'.cell (p := ⟨g2, _, none⟩) hgr).trans c2
                replace a3 := (hb'.cell (p := ⟨g, _, none⟩) hg).trans a3
                replace c3 := (hb'.cell (p := ⟨g2, _, none⟩) hgr).trans c3
                replace hg := Nat.lt_of_lt_of_le hg hb'.size
                replace hgr := Nat.lt_of_lt_of_le hgr hb'.size
                have HRW := Lib.hid (HRW.out.below hb')
                clear hb hb' hbww6 HL2
                have hbw := hbwW
                clear hbwW
                have hbz : b0 ≤ W.heap.size := by have := hbw.out.size; omega
                have HTD : Hid ((acc.map toIt).flatMap itCells = ((acc.take k).map toIt).flatMap itCells ++ ((acc.drop k).map toIt).flatMap itCells) := Lib.hid (by
                  rw [← List.flatMap_append, ← List.map_append, List.take_append_drop])
                have HRT := Lib.hid (Row.head (by rw [← HTD.out]; exact HRW.out))
                have HRD := Lib.hid (show Row W (some ⟨g2, k * 4, none⟩) (((acc.drop k).map toIt).flatMap itCells) by
                  have h1 : Row W (some ⟨g2, 0, none⟩) (((acc.take k).map toIt).flatMap itCells ++ ((acc.drop k).map toIt).flatMap itCells) := by rw [← HTD.out]; exact HRW.out
                  have h2 := Row.rest h1
                  rw [C1.out.2.2.1, Nat.zero_add] at h2
                  exact h2)
                have hk2 : (k : Int) ≤ (acc.length : Int) := by omega
                have hk3 : (k : Int) ≤ (d : Int) := by omega
                have hdk : ¬ d = k := by omega
                have hgw := hg
                have b0' := a0
                have b1 := a1
                have b2 := a2
                have b3 := a3
                clear a0 a1 a2 a3 c0 c1 c2 c3 hg
                go_wp2_with fail
                go_region_held3 (fun w' => w'.cell? ⟨g, off + i * 4, none⟩ = some (.string OB) ∧ w'.cell? ⟨g, off + i * 4 + 1, none⟩ = some (.string PB) ∧ w'.cell? ⟨g, off + i * 4 + 2, none⟩ = some (.int .i64 mq) ∧ w'.cell? ⟨g, off + i * 4 + 3, none⟩ = some (.int .i64 md)) (first | go_keep | exact keep4 hF3.out hgw b0' b1 b2 b3 | exact keep4 hF2.out hgw b0' b1 b2 b3 | exact keep4 hF1.out hgw b0' b1 b2 b3 | exact keep4 (hF1.out.alloc hF1.out.size _) hgw b0' b1 b2 b3)
                  (first
                  | (refine step_append_row (by rfl) _ _ _ (by rfl) W.heap.size 36 i0 _ 4 48 Try.underlying22 ia ib ic id rfl (by omega) _ 0 [] (by rfl) ((own_empty W W.heap.size 36 4 (Nat.le_refl _)).drew) _ _ _ (((acc.take k).map toIt).flatMap itCells) (by rfl) (HRT.out.below (below_drew (bel1 W (.cells #[] 36)))) C1.out.2.2.1 C1.out.2.2.2 C1.out.1 C1.out.2.1 (by simp <;> omega) ?_; intro v1 wa ho1 hg1; have hF1 := Lib.hid (below_append (below_drew (bel1 W (.cells #[] 36))) (by simp <;> omega) ((own_empty W W.heap.size 36 4 (Nat.le_refl _)).drew) hg1 (Nat.le_refl _)); have hP := Lib.hid ho1; clear ho1 hg1)
                  | (refine step_append_row (by rfl) _ _ _ (by rfl) W.heap.size 36 i0 _ 4 48 Try.underlying22 ia ib ic id rfl (by omega) _ 0 [] (by rfl) (((own_empty W W.heap.size 36 4 (Nat.le_refl _)).alloc (.cells #[.string OB, .string PB, .int .i64 mq, .int .i64 md] 36)).drew) _ _ _ (((acc.take k).map toIt).flatMap itCells) (by rfl) (HRT.out.below (below_drew ((bel1 W (.cells #[] 36)).alloc (by simp) (.cells #[.string OB, .string PB, .int .i64 mq, .int .i64 md] 36)))) C1.out.2.2.1 C1.out.2.2.2 C1.out.1 C1.out.2.1 (by simp <;> omega) ?_; intro v1 wa ho1 hg1; have hF1 := Lib.hid (below_append (below_drew ((bel1 W (.cells #[] 36)).alloc (by simp) (.cells #[.string OB, .string PB, .int .i64 mq, .int .i64 md] 36))) (by simp <;> omega) (((own_empty W W.heap.size 36 4 (Nat.le_refl _)).alloc (.cells #[.string OB, .string PB, .int .i64 mq, .int .i64 md] 36)).drew) hg1 (Nat.le_refl _)); have hP := Lib.hid ho1; have HN := Lib.hid (row_grown (new4_rowB W _ _ _ _ _ _) hg1 (by simp [Value.ownBlock])); clear ho1 hg1)
                  | (refine step_append_row (by rfl) _ _ _ (by rfl) W.heap.size 36 i0 _ 4 48 Try.underlying22 ia ib ic id rfl (by omega) _ 0 [] (by rfl) (own_emptyC W (.cells #[.string OB, .string PB, .int .i64 mq, .int .i64 md] 36) 36 4) _ _ _ (((acc.take k).map toIt).flatMap itCells) (by rfl) (HRT.out.below (below_drew ((bel1 W (.cells #[.string OB, .string PB, .int .i64 mq, .int .i64 md] 36)).alloc (by simp) (.cells #[] 36)))) C1.out.2.2.1 C1.out.2.2.2 C1.out.1 C1.out.2.1 (by simp <;> omega) ?_; intro v1 wa ho1 hg1; have hF1 := Lib.hid (below_append (below_drew ((bel1 W (.cells #[.string OB, .string PB, .int .i64 mq, .int .i64 md] 36)).alloc (by simp) (.cells #[] 36))) (by simp <;> omega) (own_emptyC W (.cells #[.string OB, .string PB, .int .i64 mq, .int .i64 md] 36) 36 4) hg1 (Nat.le_refl _)); have hP := Lib.hid ho1; have HN := Lib.hid (row_grown (new4_rowC W _ _ _ _ _ _) hg1 (by simp [Value.ownBlock])); clear ho1 hg1)
                  | (refine step_append_row (by rfl) _ _ _ (by rfl) W.heap.size 36 i0 _ 4 48 Try.underlying22 ia ib ic id rfl (by omega) _ _ _ (by rfl) (hP.out.alloc _) _ 1 _ [.string OB, .string PB, .int .i64 mq, .int .i64 md] (by rfl) (new4_row _ _ _ _ _ _) C2.out.2.2.1 C2.out.2.2.2 C2.out.1 C2.out.2.1 (Below.size (hF1.out.alloc hF1.out.size _)) ?_; intro v2 wb ho2 hg2; have hF2 := Lib.hid (below_append (hF1.out.alloc hF1.out.size _) (Below.size (hF1.out.alloc hF1.out.size _)) (hP.out.alloc _) hg2 (Nat.le_refl _)); have hQ := Lib.hid ho2; clear ho2 hg2)
                  | (refine step_append_row (by rfl) _ _ _ (by rfl) W.heap.size 36 i0 _ 4 48 Try.underlying22 ia ib ic id rfl (by omega) _ _ _ (by rfl) hP.out _ 1 _ [.string OB, .string PB, .int .i64 mq, .int .i64 md] (by rfl) HN.out C2.out.2.2.1 C2.out.2.2.2 C2.out.1 C2.out.2.1 (Below.size hF1.out) ?_; intro v2 wb ho2 hg2; have hF2 := Lib.hid (below_append hF1.out (Below.size hF1.out) hP.out hg2 (Nat.le_refl _)); have hQ := Lib.hid ho2; clear ho2 hg2)
                  | (refine step_append_row (by rfl) _ _ _ (by rfl) W.heap.size 36 i0 _ 4 48 Try.underlying22 ia ib ic id rfl (by omega) _ _ _ (by rfl) hQ.out _ (acc.length - k) _ (((acc.drop k).map toIt).flatMap itCells) (by rfl) (HRD.out.below hF2.out) C3.out.2.2.1 C3.out.2.2.2 C3.out.1 C3.out.2.1 (Below.size hF2.out) ?_; intro v3 wc ho3 hg3; have hF3 := Lib.hid (below_append hF2.out (Below.size hF2.out) hQ.out hg3 (Nat.le_refl _)); have hS := Lib.hid ho3; clear ho3 hg3))
                all_goals
                  have HOWN : Hid (wc.ownsRow b0 36 4 v3 acc'.length ((acc'.map toIt).flatMap itCells)) := Lib.hid (own_fit hS.out hbz HLA.out HCL.out)
                  have HBEL : Hid (Below b0 w1 wc) := Lib.hid ((HB2.out.trans (hbw.out.mono hz2)).trans (hF3.out.mono hbz))
                  clear hS hF3 hF2 hQ hF1 hP
                  go_wp2
                  go_roundw
                  case rel => exact ⟨i + 1, _, by omega, by go_num, HNF, HLN, HOWN.out, HBEL.out⟩
                  case measure => simp [intOf]; omega
              · rw [HKE.out, show Od.kl (key l[i]) acc[k].1 = false by simpa using hl2] at HL2
                have hl3 := Lib.hid (show Od.kl (key l[i]) acc[k].1 = false by simpa using hl2)
                clear hl2
                have hsb : -9223372036854775808 ≤ acc[k].2 + l[i].q ∧ acc[k].2 + l[i].q ≤ 9223372036854775807 := by
                  have h1 := nf_mem Od.kl_tot (l := (l.take i).map kq) (x := acc[k]) (by rw [← HA.out]; exact List.getElem_mem hkl)
                  have h2 := sum_bound ((l.take i).map kq) (by
                    intro x hx
                    obtain ⟨y, hy, rfl⟩ := List.mem_map.1 hx
                    have := HOK.out y (List.mem_of_mem_take hy)
                    exact ⟨this.1, this.2.1⟩) acc[k].1
                  rw [List.length_map, List.length_take] at h2
                  rw [h1.2]
                  omega
                obtain ⟨acc', HAC⟩ : ∃ acc', Hid (acc' = acc.set k (acc[k].1, acc[k].2 + l[i].q)) := ⟨_, Lib.hid rfl⟩
                have HNF : Hid (acc' = Od.nf Od.kl ((l.take (i + 1)).map kq)) := Lib.hid (by
                  rw [HNX.out, HAC.out, ins_here acc (kq l[i]) k hkl (fun j h => (HLT.out j h).2) hls0.out hl3.out]
                  rfl)
                have HLA : Hid (acc.length = acc'.length) := Lib.hid (by rw [HAC.out]; simp)
                have HLN : Hid (acc'.length ≤ i + 1) := Lib.hid (by rw [← HLA.out]; omega)
                have HCL := Lib.hid (flat_set acc k hkl (acc[k].2 + l[i].q))
                rw [← HAC.out] at HCL
                have hqq := HQE.out
                rw [← hqq] at HCL hsb
                clear hls0 hqq
                generalize hN : toIt acc[k] = n at *
                generalize hM : l[i] = m at *
                simp only [itCells, List.getElem?_cons_zero, List.getElem?_cons_succ, Nat.add_zero] at a0 a1 a2 a3
                generalize hOB : (ByteArray.mk m.o.toArray) = OB at *
                generalize hPB : (ByteArray.mk m.p.toArray) = PB at *
                generalize hMQ : m.q = mq at *
                generalize hMD : m.d = md at *
                have HCELL : Hid (itCells m = [.string OB, .string PB, .int .i64 mq, .int .i64 md]) := Lib.hid (by unfold itCells; rw [hOB, hPB, hMQ, hMD])
                have HHM := Lib.hid hM
                simp only [itCells, List.getElem?_cons_zero, List.getElem?_cons_succ, Nat.add_zero] at c0 c1 c2 c3
                generalize (ByteArray.mk n.o.toArray) = OB2 at *
                generalize (ByteArray.mk n.p.toArray) = PB2 at *
                generalize n.q = nq2 at *
                generalize n.d = nd2 at *
                clear hOB hPB hM hMQ hMD hqb
                go_wp2_with fail
                refine wp_region_still_tail 13 (by kernel_rfl) (by kernel_rfl) ?_
                simp only [List.take_succ_cons, List.take_zero, List.drop_succ_cons, List.drop_zero]
                iterate 13 still_step
                refine wpStill_nil ?_
                change wpList _ _ _ _ _ (wr.drewN 1)
                go_wp2_with fail
                refine (HL1.out _).mono ?_
                rintro e w6 ⟨rfl, hb⟩
                have hb' : Below wr.heap.size wr w6 := (below_drewN (Below.refl _ _) 1).trans hb
                have hbww6 := Lib.hid (hbel.trans (hb'.mono hz3))
                replace a0 := (hb'.cell (p := ⟨g, _, none⟩) hg).trans a0
                replace c0 := (hb'.cell (p := ⟨g2, _, none⟩) hgr).trans c0
                replace a1 := (hb'.cell (p := ⟨g, _, none⟩) hg).trans a1
                replace c1 := (hb'.cell (p := ⟨g2, _, none⟩) hgr).trans c1
                replace a2 := (hb'.cell (p := ⟨g, _, none⟩) hg).trans a2
                replace c2 := (hb'.cell (p := ⟨g2, _, none⟩) hgr).trans c2
                replace a3 := (hb'.cell (p := ⟨g, _, none⟩) hg).trans a3
                replace c3 := (hb'.cell (p := ⟨g2, _, none⟩) hgr).trans c3
                replace hg := Nat.lt_of_lt_of_le hg hb'.size
                replace hgr := Nat.lt_of_lt_of_le hgr hb'.size
                have HRW := Lib.hid (HR3.out.below hb')
                clear hb hb' hbel HL1
                go_wp2_with fail
                refine wp_region_still_tail 13 (by kernel_rfl) (by kernel_rfl) ?_
                simp only [List.take_succ_cons, List.take_zero, List.drop_succ_cons, List.drop_zero]
                iterate 13 still_step
                refine wpStill_nil ?_
                change wpList _ _ _ _ _ (w6.drewN 1)
                go_wp2_with fail
                refine (HL2.out _).mono ?_
                rintro e W ⟨rfl, hb⟩
                have hb' : Below w6.heap.size w6 W := (below_drewN (Below.refl _ _) 1).trans hb
                have hbwW := Lib.hid (hbww6.out.trans (hb'.mono hbww6.out.size))
                replace a0 := (hb'.cell (p := ⟨g, _, none⟩) hg).trans a0
                replace c0 := (hb'.cell (p := ⟨g2, _, none⟩) hgr).trans c0
                replace a1 := (hb'.cell (p := ⟨g, _, none⟩) hg).trans a1
                replace c1 := (hb'.cell (p := ⟨g2, _, none⟩) hgr).trans c1
                replace a2 := (hb'.cell (p := ⟨g, _, none⟩) hg).trans a2
                replace c2 := (hb'.cell (p := ⟨g2, _, none⟩) hgr).trans c2
                replace a3 := (hb'.cell (p := ⟨g, _, none⟩) hg).trans a3
                replace c3 := (hb'.cell (p := ⟨g2, _, none⟩) hgr).trans c3
                replace hg := Nat.lt_of_lt_of_le hg hb'.size
                replace hgr := Nat.lt_of_lt_of_le hgr hb'.size
                have HRW := Lib.hid (HRW.out.below hb')
                clear hb hb' hbww6 HL2
                have hbw := hbwW
                clear hbwW
                have x3 : IntKind.i64.wrap (nq2 + mq) = nq2 + mq := by rw [wrapEq]; unfold wrap64; omega
                have hk2 : (k : Int) < (acc.length : Int) := by omega
                have HOW := Lib.hid (own_below HO.out hbw.out)
                have hfr := HOW.out.frozenAt (k * 4 + 2)
                have HBL := Lib.hid (below_drewN hbw.out 1)
                have HOD := Lib.hid (World.ownsRow.stored (w := W.drewN 1) (own_below HOW.out (below_drewN (Below.refl _ _) 1)) (k * 4 + 2) (.int .i64 (nq2 + mq)))
                clear hk0
                have hk0 : (0 : Int) ≤ (k : Int) := by omega
                go_wp2_with fail
                refine wp_region_still_tail 13 (by kernel_rfl) (by kernel_rfl) ?_
                simp only [List.take_succ_cons, List.take_zero, List.drop_succ_cons, List.drop_zero]
                iterate 13 still_step
                refine wpStill_nil ?_
                change wpList _ _ _ _ _ (W.drewN 1)
                have hfr2 : (W.drewN 1).frozen? ⟨g2, k * 4 + 2, none⟩ = false := hfr
                have c2' : (W.drewN 1).cell? ⟨g2, k * 4 + 2, none⟩ = some (.int .i64 nq2) := c2
                clear hfr c0 c1 c2 c3 a0 a1 a2 a3
                go_wp2_with fail
                have HOWN : Hid (((W.drewN 1).setCell ⟨g2, k * 4 + 2, none⟩ (.int .i64 (nq2 + mq))).ownsRow b0 36 4 (.slice (some ⟨g2, 0, none⟩) acc.length d) acc'.length ((acc'.map toIt).flatMap itCells)) := Lib.hid (own_fit HOD.out.1 (Nat.le_refl _) HLA.out HCL.out)
                have HBEL : Hid (Below b0 w1 ((W.drewN 1).setCell ⟨g2, k * 4 + 2, none⟩ (.int .i64 (nq2 + mq)))) := Lib.hid ((HB2.out.trans (HBL.out.mono hz2)).setCell hg2 _)
                clear HOD c2' hfr2
                go_roundw
                case rel => exact ⟨i + 1, _, by omega, by go_num, HNF, HLN, HOWN.out, HBEL.out⟩
                case measure => simp [intOf]; omega

          · obtain rfl : k = acc.length := by omega
            obtain ⟨acc', HAC⟩ : ∃ acc', Hid (acc' = acc ++ [kq l[i]]) := ⟨_, Lib.hid rfl⟩
            have HNF : Hid (acc' = Od.nf Od.kl ((l.take (i + 1)).map kq)) := Lib.hid (by
              rw [HNX.out, HAC.out, ins_new acc (kq l[i]) acc.length (Nat.le_refl _) (fun j h => (HLT.out j h).2) (fun h => absurd h (Nat.lt_irrefl _)), List.take_length, List.drop_length])
            have HLA : Hid (0 + acc.length + 1 + 0 = acc'.length) := Lib.hid (by rw [HAC.out]; simp)
            have HLN : Hid (acc'.length ≤ i + 1) := Lib.hid (by rw [← HLA.out]; omega)
            generalize hM : l[i] = m at *
            simp only [itCells, List.getElem?_cons_zero, List.getElem?_cons_succ, Nat.add_zero] at a0 a1 a2 a3
            generalize hOB : (ByteArray.mk m.o.toArray) = OB at *
            generalize hPB : (ByteArray.mk m.p.toArray) = PB at *
            generalize hMQ : m.q = mq at *
            generalize hMD : m.d = md at *
            have HCELL : Hid (itCells m = [.string OB, .string PB, .int .i64 mq, .int .i64 md]) := Lib.hid (by unfold itCells; rw [hOB, hPB, hMQ, hMD])
            have HHM := Lib.hid hM

            have HCL : Hid ([] ++ ((acc.map toIt).flatMap itCells) ++ [.string OB, .string PB, .int .i64 mq, .int .i64 md] ++ [] = (acc'.map toIt).flatMap itCells) := Lib.hid (by rw [HAC.out]; simp [← HCELL.out, toIt_kq])
            clear hOB hPB hM hMQ hMD
            have dk : decide ((acc.length : Int) < (acc.length : Int)) = false := by simp
            have hk0 : (0 : Int) ≤ (acc.length : Int) := by omega
            have hk1 : (acc.length : Int) ≤ (d : Int) := by omega
            have C1 : Hid (0 + acc.length ≤ maxLen ∧ (0 + acc.length) * 48 ≤ 140737488355328 ∧ (((acc.map toIt).flatMap itCells)).length = acc.length * 4 ∧ ∀ u ∈ ((acc.map toIt).flatMap itCells), u.oneCell' = true) := Lib.hid ⟨by unfold maxLen; omega, by omega, by rw [flatMap_len it_len, List.length_map], it_cell _⟩
            have C2 : Hid (0 + acc.length + 1 ≤ maxLen ∧ (0 + acc.length + 1) * 48 ≤ 140737488355328 ∧ ([.string OB, .string PB, .int .i64 mq, .int .i64 md] : List Value).length = 1 * 4 ∧ ∀ u ∈ ([.string OB, .string PB, .int .i64 mq, .int .i64 md] : List Value), u.oneCell' = true) := Lib.hid ⟨by unfold maxLen; omega, by omega, rfl, by intro u hu; simp at hu; rcases hu with rfl | rfl | rfl | rfl <;> rfl⟩
            have C3 : Hid (0 + acc.length + 1 + 0 ≤ maxLen ∧ (0 + acc.length + 1 + 0) * 48 ≤ 140737488355328 ∧ ([] : List Value).length = 0 * 4 ∧ ∀ u ∈ ([] : List Value), u.oneCell' = true) := Lib.hid ⟨by unfold maxLen; omega, by omega, rfl, by intro u hu; simp at hu⟩
            clear hqb hacc1
            go_wp2_with fail
            go_quiet (fail)
            obtain ⟨na, rfl⟩ : ∃ na : Nat, na = nq := ⟨_, rfl⟩
            go_wp2_with fail
            go_quiet (fail)
            go_wp2_with fail
            have HRW := Lib.hid (HR3.out.below (below_drewN (below_drewN (Below.refl wr.heap.size wr) na) nq))
            have hbw := Lib.hid (below_drewN (below_drewN hbel na) nq)
            clear hbel
            generalize hW : (wr.drewN na).drewN nq = W at *
            have hgw : g < W.heap.size := by rw [← hW]; exact hg
            have b0' : W.cell? ⟨g, off + i * 4, none⟩ = some (.string OB) := by rw [← hW]; exact a0
            have b1 : W.cell? ⟨g, off + i * 4 + 1, none⟩ = some (.string PB) := by rw [← hW]; exact a1
            have b2 : W.cell? ⟨g, off + i * 4 + 2, none⟩ = some (.int .i64 mq) := by rw [← hW]; exact a2
            have b3 : W.cell? ⟨g, off + i * 4 + 3, none⟩ = some (.int .i64 md) := by rw [← hW]; exact a3
            have hbz : b0 ≤ W.heap.size := by have := hbw.out.size; omega
            clear hW a0 a1 a2 a3 hg

            rcases own_cases HO.out with ⟨rfl, hn0, hd0⟩ | ⟨g2, rfl, hg2, hg3⟩
            · obtain rfl : d = acc.length := by omega
              clear hn0 hd0
              go_region_held3 (fun w' => w'.cell? ⟨g, off + i * 4, none⟩ = some (.string OB) ∧ w'.cell? ⟨g, off + i * 4 + 1, none⟩ = some (.string PB) ∧ w'.cell? ⟨g, off + i * 4 + 2, none⟩ = some (.int .i64 mq) ∧ w'.cell? ⟨g, off + i * 4 + 3, none⟩ = some (.int .i64 md)) (first | go_keep | exact keep4 hF3.out hgw b0' b1 b2 b3 | exact keep4 hF2.out hgw b0' b1 b2 b3 | exact keep4 hF1.out hgw b0' b1 b2 b3 | exact keep4 (hF1.out.alloc hF1.out.size _) hgw b0' b1 b2 b3)
                (first
                | (refine step_append_row (by rfl) _ _ _ (by rfl) W.heap.size 36 i0 _ 4 48 Try.underlying22 ia ib ic id rfl (by omega) _ 0 [] (by rfl) ((own_empty W W.heap.size 36 4 (Nat.le_refl _)).drew) _ _ _ ((acc.map toIt).flatMap itCells) (by rfl) (HRW.out.below (below_drew (bel1 W (.cells #[] 36)))) C1.out.2.2.1 C1.out.2.2.2 C1.out.1 C1.out.2.1 (by simp <;> omega) ?_; intro v1 wa ho1 hg1; have hF1 := Lib.hid (below_append (below_drew (bel1 W (.cells #[] 36))) (by simp <;> omega) ((own_empty W W.heap.size 36 4 (Nat.le_refl _)).drew) hg1 (Nat.le_refl _)); have hP := Lib.hid ho1; clear ho1 hg1)
                | (refine step_append_row (by rfl) _ _ _ (by rfl) W.heap.size 36 i0 _ 4 48 Try.underlying22 ia ib ic id rfl (by omega) _ 0 [] (by rfl) (((own_empty W W.heap.size 36 4 (Nat.le_refl _)).alloc (.cells #[.string OB, .string PB, .int .i64 mq, .int .i64 md] 36)).drew) _ _ _ ((acc.map toIt).flatMap itCells) (by rfl) (HRW.out.below (below_drew ((bel1 W (.cells #[] 36)).alloc (by simp) (.cells #[.string OB, .string PB, .int .i64 mq, .int .i64 md] 36)))) C1.out.2.2.1 C1.out.2.2.2 C1.out.1 C1.out.2.1 (by simp <;> omega) ?_; intro v1 wa ho1 hg1; have hF1 := Lib.hid (below_append (below_drew ((bel1 W (.cells #[] 36)).alloc (by simp) (.cells #[.string OB, .string PB, .int .i64 mq, .int .i64 md] 36))) (by simp <;> omega) (((own_empty W W.heap.size 36 4 (Nat.le_refl _)).alloc (.cells #[.string OB, .string PB, .int .i64 mq, .int .i64 md] 36)).drew) hg1 (Nat.le_refl _)); have hP := Lib.hid ho1; have HN := Lib.hid (row_grown (new4_rowB W _ _ _ _ _ _) hg1 (by simp [Value.ownBlock])); clear ho1 hg1)
                | (refine step_append_row (by rfl) _ _ _ (by rfl) W.heap.size 36 i0 _ 4 48 Try.underlying22 ia ib ic id rfl (by omega) _ 0 [] (by rfl) (own_emptyC W (.cells #[.string OB, .string PB, .int .i64 mq, .int .i64 md] 36) 36 4) _ _ _ ((acc.map toIt).flatMap itCells) (by rfl) (HRW.out.below (below_drew ((bel1 W (.cells #[.string OB, .string PB, .int .i64 mq, .int .i64 md] 36)).alloc (by simp) (.cells #[] 36)))) C1.out.2.2.1 C1.out.2.2.2 C1.out.1 C1.out.2.1 (by simp <;> omega) ?_; intro v1 wa ho1 hg1; have hF1 := Lib.hid (below_append (below_drew ((bel1 W (.cells #[.string OB, .string PB, .int .i64 mq, .int .i64 md] 36)).alloc (by simp) (.cells #[] 36))) (by simp <;> omega) (own_emptyC W (.cells #[.string OB, .string PB, .int .i64 mq, .int .i64 md] 36) 36 4) hg1 (Nat.le_refl _)); have hP := Lib.hid ho1; have HN := Lib.hid (row_grown (new4_rowC W _ _ _ _ _ _) hg1 (by simp [Value.ownBlock])); clear ho1 hg1)
                | (refine step_append_row (by rfl) _ _ _ (by rfl) W.heap.size 36 i0 _ 4 48 Try.underlying22 ia ib ic id rfl (by omega) _ _ _ (by rfl) (hP.out.alloc _) _ 1 _ [.string OB, .string PB, .int .i64 mq, .int .i64 md] (by rfl) (new4_row _ _ _ _ _ _) C2.out.2.2.1 C2.out.2.2.2 C2.out.1 C2.out.2.1 (Below.size (hF1.out.alloc hF1.out.size _)) ?_; intro v2 wb ho2 hg2; have hF2 := Lib.hid (below_append (hF1.out.alloc hF1.out.size _) (Below.size (hF1.out.alloc hF1.out.size _)) (hP.out.alloc _) hg2 (Nat.le_refl _)); have hQ := Lib.hid ho2; clear ho2 hg2)
                | (refine step_append_row (by rfl) _ _ _ (by rfl) W.heap.size 36 i0 _ 4 48 Try.underlying22 ia ib ic id rfl (by omega) _ _ _ (by rfl) hP.out _ 1 _ [.string OB, .string PB, .int .i64 mq, .int .i64 md] (by rfl) HN.out C2.out.2.2.1 C2.out.2.2.2 C2.out.1 C2.out.2.1 (Below.size hF1.out) ?_; intro v2 wb ho2 hg2; have hF2 := Lib.hid (below_append hF1.out (Below.size hF1.out) hP.out hg2 (Nat.le_refl _)); have hQ := Lib.hid ho2; clear ho2 hg2)
                | (refine step_append_row (by rfl) _ _ _ (by rfl) W.heap.size 36 i0 _ 4 48 Try.underlying22 ia ib ic id rfl (by omega) _ _ _ (by rfl) hQ.out _ 0 _ [] (by rfl) (Row.nil _ _) C3.out.2.2.1 C3.out.2.2.2 C3.out.1 C3.out.2.1 (Below.size hF2.out) ?_; intro v3 wc ho3 hg3; have hF3 := Lib.hid (below_append hF2.out (Below.size hF2.out) hQ.out hg3 (Nat.le_refl _)); have hS := Lib.hid ho3; clear ho3 hg3))
              all_goals
                have HOWN : Hid (wc.ownsRow b0 36 4 v3 acc'.length ((acc'.map toIt).flatMap itCells)) := Lib.hid (own_fit hS.out hbz HLA.out HCL.out)
                have HBEL : Hid (Below b0 w1 wc) := Lib.hid ((HB2.out.trans (hbw.out.mono hz2)).trans (hF3.out.mono hbz))
                clear hS hF3 hF2 hQ hF1 hP
                go_wp2
                go_roundw
                case rel => exact ⟨i + 1, _, by omega, by go_num, HNF, HLN, HOWN.out, HBEL.out⟩
                case measure => simp [intOf]; omega
            · clear hg2 hg3
              by_cases hda : d = acc.length
              · subst hda
                go_region_held3 (fun w' => w'.cell? ⟨g, off + i * 4, none⟩ = some (.string OB) ∧ w'.cell? ⟨g, off + i * 4 + 1, none⟩ = some (.string PB) ∧ w'.cell? ⟨g, off + i * 4 + 2, none⟩ = some (.int .i64 mq) ∧ w'.cell? ⟨g, off + i * 4 + 3, none⟩ = some (.int .i64 md)) (first | go_keep | exact keep4 hF3.out hgw b0' b1 b2 b3 | exact keep4 hF2.out hgw b0' b1 b2 b3 | exact keep4 hF1.out hgw b0' b1 b2 b3 | exact keep4 (hF1.out.alloc hF1.out.size _) hgw b0' b1 b2 b3)
                  (first
                  | (refine step_append_row (by rfl) _ _ _ (by rfl) W.heap.size 36 i0 _ 4 48 Try.underlying22 ia ib ic id rfl (by omega) _ 0 [] (by rfl) ((own_empty W W.heap.size 36 4 (Nat.le_refl _)).drew) _ _ _ ((acc.map toIt).flatMap itCells) (by rfl) (HRW.out.below (below_drew (bel1 W (.cells #[] 36)))) C1.out.2.2.1 C1.out.2.2.2 C1.out.1 C1.out.2.1 (by simp <;> omega) ?_; intro v1 wa ho1 hg1; have hF1 := Lib.hid (below_append (below_drew (bel1 W (.cells #[] 36))) (by simp <;> omega) ((own_empty W W.heap.size 36 4 (Nat.le_refl _)).drew) hg1 (Nat.le_refl _)); have hP := Lib.hid ho1; clear ho1 hg1)
                  | (refine step_append_row (by rfl) _ _ _ (by rfl) W.heap.size 36 i0 _ 4 48 Try.underlying22 ia ib ic id rfl (by omega) _ 0 [] (by rfl) (((own_empty W W.heap.size 36 4 (Nat.le_refl _)).alloc (.cells #[.string OB, .string PB, .int .i64 mq, .int .i64 md] 36)).drew) _ _ _ ((acc.map toIt).flatMap itCells) (by rfl) (HRW.out.below (below_drew ((bel1 W (.cells #[] 36)).alloc (by simp) (.cells #[.string OB, .string PB, .int .i64 mq, .int .i64 md] 36)))) C1.out.2.2.1 C1.out.2.2.2 C1.out.1 C1.out.2.1 (by simp <;> omega) ?_; intro v1 wa ho1 hg1; have hF1 := Lib.hid (below_append (below_drew ((bel1 W (.cells #[] 36)).alloc (by simp) (.cells #[.string OB, .string PB, .int .i64 mq, .int .i64 md] 36))) (by simp <;> omega) (((own_empty W W.heap.size 36 4 (Nat.le_refl _)).alloc (.cells #[.string OB, .string PB, .int .i64 mq, .int .i64 md] 36)).drew) hg1 (Nat.le_refl _)); have hP := Lib.hid ho1; have HN := Lib.hid (row_grown (new4_rowB W _ _ _ _ _ _) hg1 (by simp [Value.ownBlock])); clear ho1 hg1)
                  | (refine step_append_row (by rfl) _ _ _ (by rfl) W.heap.size 36 i0 _ 4 48 Try.underlying22 ia ib ic id rfl (by omega) _ 0 [] (by rfl) (own_emptyC W (.cells #[.string OB, .string PB, .int .i64 mq, .int .i64 md] 36) 36 4) _ _ _ ((acc.map toIt).flatMap itCells) (by rfl) (HRW.out.below (below_drew ((bel1 W (.cells #[.string OB, .string PB, .int .i64 mq, .int .i64 md] 36)).alloc (by simp) (.cells #[] 36)))) C1.out.2.2.1 C1.out.2.2.2 C1.out.1 C1.out.2.1 (by simp <;> omega) ?_; intro v1 wa ho1 hg1; have hF1 := Lib.hid (below_append (below_drew ((bel1 W (.cells #[.string OB, .string PB, .int .i64 mq, .int .i64 md] 36)).alloc (by simp) (.cells #[] 36))) (by simp <;> omega) (own_emptyC W (.cells #[.string OB, .string PB, .int .i64 mq, .int .i64 md] 36) 36 4) hg1 (Nat.le_refl _)); have hP := Lib.hid ho1; have HN := Lib.hid (row_grown (new4_rowC W _ _ _ _ _ _) hg1 (by simp [Value.ownBlock])); clear ho1 hg1)
                  | (refine step_append_row (by rfl) _ _ _ (by rfl) W.heap.size 36 i0 _ 4 48 Try.underlying22 ia ib ic id rfl (by omega) _ _ _ (by rfl) (hP.out.alloc _) _ 1 _ [.string OB, .string PB, .int .i64 mq, .int .i64 md] (by rfl) (new4_row _ _ _ _ _ _) C2.out.2.2.1 C2.out.2.2.2 C2.out.1 C2.out.2.1 (Below.size (hF1.out.alloc hF1.out.size _)) ?_; intro v2 wb ho2 hg2; have hF2 := Lib.hid (below_append (hF1.out.alloc hF1.out.size _) (Below.size (hF1.out.alloc hF1.out.size _)) (hP.out.alloc _) hg2 (Nat.le_refl _)); have hQ := Lib.hid ho2; clear ho2 hg2)
                  | (refine step_append_row (by rfl) _ _ _ (by rfl) W.heap.size 36 i0 _ 4 48 Try.underlying22 ia ib ic id rfl (by omega) _ _ _ (by rfl) hP.out _ 1 _ [.string OB, .string PB, .int .i64 mq, .int .i64 md] (by rfl) HN.out C2.out.2.2.1 C2.out.2.2.2 C2.out.1 C2.out.2.1 (Below.size hF1.out) ?_; intro v2 wb ho2 hg2; have hF2 := Lib.hid (below_append hF1.out (Below.size hF1.out) hP.out hg2 (Nat.le_refl _)); have hQ := Lib.hid ho2; clear ho2 hg2)
                  | (refine step_append_row (by rfl) _ _ _ (by rfl) W.heap.size 36 i0 _ 4 48 Try.underlying22 ia ib ic id rfl (by omega) _ _ _ (by rfl) hQ.out _ 0 _ [] (by rfl) (Row.nil _ _) C3.out.2.2.1 C3.out.2.2.2 C3.out.1 C3.out.2.1 (Below.size hF2.out) ?_; intro v3 wc ho3 hg3; have hF3 := Lib.hid (below_append hF2.out (Below.size hF2.out) hQ.out hg3 (Nat.le_refl _)); have hS := Lib.hid ho3; clear ho3 hg3))
                all_goals
                  have HOWN : Hid (wc.ownsRow b0 36 4 v3 acc'.length ((acc'.map toIt).flatMap itCells)) := Lib.hid (own_fit hS.out hbz HLA.out HCL.out)
                  have HBEL : Hid (Below b0 w1 wc) := Lib.hid ((HB2.out.trans (hbw.out.mono hz2)).trans (hF3.out.mono hbz))
                  clear hS hF3 hF2 hQ hF1 hP
                  go_wp2
                  go_roundw
                  case rel => exact ⟨i + 1, _, by omega, by go_num, HNF, HLN, HOWN.out, HBEL.out⟩
                  case measure => simp [intOf]; omega
              ·
                go_region_held3 (fun w' => w'.cell? ⟨g, off + i * 4, none⟩ = some (.string OB) ∧ w'.cell? ⟨g, off + i * 4 + 1, none⟩ = some (.string PB) ∧ w'.cell? ⟨g, off + i * 4 + 2, none⟩ = some (.int .i64 mq) ∧ w'.cell? ⟨g, off + i * 4 + 3, none⟩ = some (.int .i64 md)) (first | go_keep | exact keep4 hF3.out hgw b0' b1 b2 b3 | exact keep4 hF2.out hgw b0' b1 b2 b3 | exact keep4 hF1.out hgw b0' b1 b2 b3 | exact keep4 (hF1.out.alloc hF1.out.size _) hgw b0' b1 b2 b3)
                  (first
                  | (refine step_append_row (by rfl) _ _ _ (by rfl) W.heap.size 36 i0 _ 4 48 Try.underlying22 ia ib ic id rfl (by omega) _ 0 [] (by rfl) ((own_empty W W.heap.size 36 4 (Nat.le_refl _)).drew) _ _ _ ((acc.map toIt).flatMap itCells) (by rfl) (HRW.out.below (below_drew (bel1 W (.cells #[] 36)))) C1.out.2.2.1 C1.out.2.2.2 C1.out.1 C1.out.2.1 (by simp <;> omega) ?_; intro v1 wa ho1 hg1; have hF1 := Lib.hid (below_append (below_drew (bel1 W (.cells #[] 36))) (by simp <;> omega) ((own_empty W W.heap.size 36 4 (Nat.le_refl _)).drew) hg1 (Nat.le_refl _)); have hP := Lib.hid ho1; clear ho1 hg1)
                  | (refine step_append_row (by rfl) _ _ _ (by rfl) W.heap.size 36 i0 _ 4 48 Try.underlying22 ia ib ic id rfl (by omega) _ 0 [] (by rfl) (((own_empty W W.heap.size 36 4 (Nat.le_refl _)).alloc (.cells #[.string OB, .string PB, .int .i64 mq, .int .i64 md] 36)).drew) _ _ _ ((acc.map toIt).flatMap itCells) (by rfl) (HRW.out.below (below_drew ((bel1 W (.cells #[] 36)).alloc (by simp) (.cells #[.string OB, .string PB, .int .i64 mq, .int .i64 md] 36)))) C1.out.2.2.1 C1.out.2.2.2 C1.out.1 C1.out.2.1 (by simp <;> omega) ?_; intro v1 wa ho1 hg1; have hF1 := Lib.hid (below_append (below_drew ((bel1 W (.cells #[] 36)).alloc (by simp) (.cells #[.string OB, .string PB, .int .i64 mq, .int .i64 md] 36))) (by simp <;> omega) (((own_empty W W.heap.size 36 4 (Nat.le_refl _)).alloc (.cells #[.string OB, .string PB, .int .i64 mq, .int .i64 md] 36)).drew) hg1 (Nat.le_refl _)); have hP := Lib.hid ho1; have HN := Lib.hid (row_grown (new4_rowB W _ _ _ _ _ _) hg1 (by simp [Value.ownBlock])); clear ho1 hg1)
                  | (refine step_append_row (by rfl) _ _ _ (by rfl) W.heap.size 36 i0 _ 4 48 Try.underlying22 ia ib ic id rfl (by omega) _ 0 [] (by rfl) (own_emptyC W (.cells #[.string OB, .string PB, .int .i64 mq, .int .i64 md] 36) 36 4) _ _ _ ((acc.map toIt).flatMap itCells) (by rfl) (HRW.out.below (below_drew ((bel1 W (.cells #[.string OB, .string PB, .int .i64 mq, .int .i64 md] 36)).alloc (by simp) (.cells #[] 36)))) C1.out.2.2.1 C1.out.2.2.2 C1.out.1 C1.out.2.1 (by simp <;> omega) ?_; intro v1 wa ho1 hg1; have hF1 := Lib.hid (below_append (below_drew ((bel1 W (.cells #[.string OB, .string PB, .int .i64 mq, .int .i64 md] 36)).alloc (by simp) (.cells #[] 36))) (by simp <;> omega) (own_emptyC W (.cells #[.string OB, .string PB, .int .i64 mq, .int .i64 md] 36) 36 4) hg1 (Nat.le_refl _)); have hP := Lib.hid ho1; have HN := Lib.hid (row_grown (new4_rowC W _ _ _ _ _ _) hg1 (by simp [Value.ownBlock])); clear ho1 hg1)
                  | (refine step_append_row (by rfl) _ _ _ (by rfl) W.heap.size 36 i0 _ 4 48 Try.underlying22 ia ib ic id rfl (by omega) _ _ _ (by rfl) (hP.out.alloc _) _ 1 _ [.string OB, .string PB, .int .i64 mq, .int .i64 md] (by rfl) (new4_row _ _ _ _ _ _) C2.out.2.2.1 C2.out.2.2.2 C2.out.1 C2.out.2.1 (Below.size (hF1.out.alloc hF1.out.size _)) ?_; intro v2 wb ho2 hg2; have hF2 := Lib.hid (below_append (hF1.out.alloc hF1.out.size _) (Below.size (hF1.out.alloc hF1.out.size _)) (hP.out.alloc _) hg2 (Nat.le_refl _)); have hQ := Lib.hid ho2; clear ho2 hg2)
                  | (refine step_append_row (by rfl) _ _ _ (by rfl) W.heap.size 36 i0 _ 4 48 Try.underlying22 ia ib ic id rfl (by omega) _ _ _ (by rfl) hP.out _ 1 _ [.string OB, .string PB, .int .i64 mq, .int .i64 md] (by rfl) HN.out C2.out.2.2.1 C2.out.2.2.2 C2.out.1 C2.out.2.1 (Below.size hF1.out) ?_; intro v2 wb ho2 hg2; have hF2 := Lib.hid (below_append hF1.out (Below.size hF1.out) hP.out hg2 (Nat.le_refl _)); have hQ := Lib.hid ho2; clear ho2 hg2)
                  | (refine step_append_row (by rfl) _ _ _ (by rfl) W.heap.size 36 i0 _ 4 48 Try.underlying22 ia ib ic id rfl (by omega) _ _ _ (by rfl) hQ.out _ 0 _ [] (by rfl) (Row.nil _ _) C3.out.2.2.1 C3.out.2.2.2 C3.out.1 C3.out.2.1 (Below.size hF2.out) ?_; intro v3 wc ho3 hg3; have hF3 := Lib.hid (below_append hF2.out (Below.size hF2.out) hQ.out hg3 (Nat.le_refl _)); have hS := Lib.hid ho3; clear ho3 hg3))
                all_goals
                  have HOWN : Hid (wc.ownsRow b0 36 4 v3 acc'.length ((acc'.map toIt).flatMap itCells)) := Lib.hid (own_fit hS.out hbz HLA.out HCL.out)
                  have HBEL : Hid (Below b0 w1 wc) := Lib.hid ((HB2.out.trans (hbw.out.mono hz2)).trans (hF3.out.mono hbz))
                  clear hS hF3 hF2 hQ hF1 hP
                  go_wp2
                  go_roundw
                  case rel => exact ⟨i + 1, _, by omega, by go_num, HNF, HLN, HOWN.out, HBEL.out⟩
                  case measure => simp [intOf]; omega
      · obtain rfl : i = l.length := by omega
        have HAA : Hid (acc = sums l) := Lib.hid (by rw [HA.out, List.take_length]; rfl)
        have hac := hacc.out
        obtain ⟨B, d, rfl, hnd⟩ := own_shape hown
        have HRO := Lib.hid (Row.of_own hown)
        have HBF := Lib.hid ((HK1.out.below (by rw [hb0]; exact hbel)).bel)
        have HOO := Lib.hid hown
        clear hown hbel HK2
        go_wp2_with fail
        obtain ⟨wo, rfl⟩ : ∃ wo : World, wo = wr := ⟨_, rfl⟩
        go_loopw [7] (fun t wq => ∃ k : Nat, k ≤ acc.length ∧ t = .int .i64 k ∧ Hid (∀ x ∈ acc.take k, x.2 ≤ 1000) ∧ Below wo.heap.size wo wq) (fun t _ => acc.length - (intOf t).toNat)
        case atStart => exact ⟨0, Nat.zero_le _, rfl, Lib.hid (by simp), Below.refl _ _⟩
        case round =>
          obtain ⟨k, hk, rfl, HLT, hbq⟩ := hrel
          have HRQ := Lib.hid (HRO.out.below hbq)
          have HBQ := Lib.hid (HBF.out.trans (hbq.mono HBF.out.size))
          have hbq9 := Lib.hid hbq
          clear hbq
          by_cases hkl : k < acc.length
          · obtain ⟨g2, rfl, hg2, hg3⟩ := own_some HOO.out (by omega)
            have c2 := (row_get0 it_len HRQ.out (by simpa using hkl)).2 k (by simpa using hkl) 2 (by decide)
            rw [List.getElem_map] at c2
            have HQE := Lib.hid (show (toIt acc[k]).q = acc[k].2 from rfl)
            have HTS := Lib.hid (take_snoc' acc k hkl)
            by_cases hq : acc[k].2 ≤ 1000
            · have HLT2 : Hid (∀ x ∈ acc.take (k + 1), x.2 ≤ 1000) := Lib.hid (fun x hx => by
                rw [HTS.out] at hx
                rcases List.mem_append.1 hx with h | h
                · exact HLT.out x h
                · simp at h; rw [h]; exact hq)
              rw [← HQE.out] at hq
              simp only [itCells, List.getElem?_cons_zero, List.getElem?_cons_succ] at c2
              generalize (toIt acc[k]).q = qq at *
              go_wp2_with fail
              go_roundw
              case rel => exact ⟨k + 1, by omega, by go_num, HLT2, hbq9.out⟩
              case measure => simp [intOf]; omega
            · have HB9 : Hid (((sums l).all fun x => decide (x.2 ≤ 1000)) = false) := Lib.hid (by
                rw [← HAA.out, Bool.eq_false_iff]
                intro h
                rw [List.all_eq_true] at h
                have := h acc[k] (List.getElem_mem hkl)
                simp at this
                exact hq this)
              rw [← HQE.out] at hq
              simp only [itCells, List.getElem?_cons_zero, List.getElem?_cons_succ] at c2
              generalize (toIt acc[k]).q = qq at *
              go_wp2_with fail
              go_ret2
              rw [HD.out, if_neg (by rw [HB9.out]; simp)]
              first | exact ⟨none, 0, rfl, Row.nil _ _, HBQ.out⟩ | exact ⟨none, ⟨0, rfl⟩, Row.nil _ _, HBQ.out⟩
          · obtain rfl : k = acc.length := by omega
            have HB9 : Hid (((sums l).all fun x => decide (x.2 ≤ 1000)) = true) := Lib.hid (by
              have h := HLT.out
              rw [List.take_length] at h
              rw [← HAA.out, List.all_eq_true]
              intro x hx
              simpa using h x hx)
            go_wp2_with fail
            go_ret2
            rw [HD.out, if_pos HB9.out, ← HAA.out]
            exact ⟨B, d, by simp, HRQ.out, HBQ.out⟩
  · rw [show Od.valid l = false by simpa using hv] at HV
    have HD := Lib.hid (show normal l = ([], 1) by unfold normal; rw [if_neg hv])
    clear hv
    go_enter Try.func12, Try.ntmps12
    go_wp2_with fail
    refine (HV.out _ (HK0.out.r 0 rfl)).mono ?_
    rintro e w1 ⟨rfl, hb1⟩
    have HB := Lib.hid (HK0.out.below hb1).bel
    clear hb1
    go_wp2
    go_ret2
    rw [HD.out]
    exact ⟨none, 0, rfl, Row.nil _ _, HB.out⟩
end Go.Proofs.Yteldekkodhfkkaa.OdW
