/- The law OrderDelivery, walked. Conditions: the list lies in memory; the number is a machine number. -/
import Derived.Test.YteldekkodhfkkaaOdE
import Derived.Deep.QuietTactic
namespace Go.Proofs.Yteldekkodhfkkaa.OdW
open Go Go.RowKit Go.Proofs.Yteldekkodhfkkaa.Mem

theorem demand_len {l : List Od.It} : (demand l).length ≤ 100 := by
  unfold demand
  split
  · rename_i hv
    have := nf_len (lt := Od.sl) (l.map pq)
    rw [List.length_map] at this
    have := Od.valid_len hv
    omega
  · simp
theorem of_quiet (l : List Nd) (p : List UInt8) (A : Option Addr) (c : Nat) (w : World) (hr : Row w A (l.flatMap ndCells)) (hl : l.length ≤ 1000000) :
    Calls Try.prog 22 #[.slice A l.length c, .string ⟨p.toArray⟩] w fun e w' => e = .returned (.int .i64 (of l p)) ∧ w' = w :=
  (of_any l p A c w hr hl).mono fun _ _ ⟨h1, h2⟩ => ⟨h1, h2.symm⟩
theorem del_facts {l : List Od.It} {p : List UInt8} {n : Int} (h0 : (normal l).2 = 0) (hn : 0 ≤ n) :
    (∀ x ∈ demand l, x.1 ≠ p → of (demand (del p (normal l).1 n).1) x.1 = x.2) ∧
    of (demand l) p = of (demand (del p (normal l).1 n).1) p + n - (del p (normal l).1 n).2 ∧ 0 ≤ of (demand (del p (normal l).1 n).1) p ∧ of (demand l) p ≤ 100000 ∧
    ((del p (normal l).1 n).2 = 0 ∨ (0 < (del p (normal l).1 n).2 ∧ of (demand (del p (normal l).1 n).1) p = 0)) := by
  have hv := (normal_zero h0).1
  have hR := normal_del (p := p) h0 hn
  have hvR : Od.valid (del p (normal l).1 n).1 = true := (normal_zero (by rw [hR])).1
  have hs := del_n (p := p) (l := (normal l).1) normal_posq hn
  have hb := sum_bound (l.map pq) (by
    intro x hx
    obtain ⟨y, hy, rfl⟩ := List.mem_map.1 hx
    have := Od.ok_parts (Od.valid_ok hv hy)
    exact ⟨this.1, this.2.1⟩) p
  have hb2 := sum_bound ((del p (normal l).1 n).1.map pq) (by
    intro x hx
    obtain ⟨y, hy, rfl⟩ := List.mem_map.1 hx
    have := Od.ok_parts (Od.valid_ok hvR hy)
    exact ⟨this.1, this.2.1⟩) p
  have hl := Od.valid_len hv
  rw [List.length_map] at hb hb2
  refine ⟨fun x hx hne => ?_, ?_, ?_, ?_, ?_⟩
  · rw [of_demand hvR, del_other_sum hne normal_posq, normal_sum h0, demand_mem hx]
  · rw [of_demand hv, of_demand hvR, del_part_sum normal_posq, normal_sum h0]
    omega
  · rw [of_demand hvR]; exact hb2.1
  · rw [of_demand hv]; omega
  · rcases Int.lt_or_le 0 (del p (normal l).1 n).2 with h | h
    · exact .inr ⟨h, by rw [of_demand hvR, del_none normal_posq h]⟩
    · exact .inl (by omega)

set_option maxRecDepth 100000 in
set_option maxHeartbeats 4000000 in
theorem orderDelivery_good (l : List Od.It) (p : List UInt8) (n : Int) (A : Option Addr) (c : Nat) (w : World) (hr : Row w A (l.flatMap itCells)) (hfl : few l = true) (hn : 0 ≤ n) (hn2 : n ≤ 9223372036854775807) (h0 : (normal l).2 = 0) :
    Calls Try.prog 6 #[.slice A l.length c, .string ⟨p.toArray⟩, .int .i64 n] w fun e w' => e = .returned (.bool true) ∧ Below w.heap.size w w' := by
  have hsl := few_shorts hfl
  have hl := (few_short hfl).1
  have HFA := Lib.hid (fun A k W h => few_any l A k W h (by omega))
  rw [hfl] at HFA
  have HN := Lib.hid (fun A k W h => normal_any l A k W h (by omega) hsl)
  have HD := Lib.hid (fun A k W h => deliver_any l p n A k W h (by omega) hsl (by omega))
  have hsR := deliver_short (p := p) (n := n) hsl
  rw [deliver_good h0 hn] at HD hsR
  rw [h0] at HN
  simp only at HD hsR
  have q1 := normal_len l
  have q2 : (del p (normal l).1 n).1.length ≤ 100 := Nat.le_trans del_len q1
  have HDL := Lib.hid (fun A k W h => demand_any l A k W h (by omega) hsl)
  have HDR := Lib.hid (fun A k W h => demand_any (del p (normal l).1 n).1 A k W h (by omega) hsR)
  have q3 := demand_len (l := l)
  have q4 := demand_len (l := (del p (normal l).1 n).1)
  obtain ⟨f1, f2, f3, f4, f5⟩ := del_facts (p := p) h0 hn
  have HC := Lib.hid (first_chk (l := l) (p := p) hn)
  have HV := Lib.hid (fun A k W h => valid_any (del p (normal l).1 n).1 A k W h (by omega) hsR)
  rw [(normal_zero (l := (del p (normal l).1 n).1) (by rw [normal_del h0 hn])).1] at HV
  have f6 := del_n (p := p) (l := (normal l).1) (n := n) normal_posq hn
  have HIT := Lib.hid (fun x (hx : x ∈ (normal l).1) => Od.ok_parts (normal_item hx).1)
  have HIR := Lib.hid (fun x (hx : x ∈ (del p (normal l).1 n).1) => Od.ok_parts (Od.valid_ok (normal_zero (l := (del p (normal l).1 n).1) (by rw [normal_del h0 hn])).1 hx))
  generalize (del p (normal l).1 n).1 = R at *
  generalize (del p (normal l).1 n).2 = s at *
  generalize (normal l).1 = N at *
  generalize demand l = D at *
  generalize demand R = DR at *
  have HTD := Lib.hid (fun A k W h => theirs_any D A k W h (by omega))
  have HTR := Lib.hid (fun A k W h => theirs_any DR A k W h (by omega))
  have HOD := Lib.hid (fun A k W h => of_quiet D p A k W h (by omega))
  have HOR := Lib.hid (fun p' A k W h => of_quiet DR p' A k W h (by omega))
  have HF1 := Lib.hid f1
  have hz : decide (n < 0) = false := by simp; omega
  have HE := Lib.hid (fun x : List UInt8 => text_eq x p)
  have HK0 := Lib.hid ((Kept.start w).add hr)
  have HF := Lib.hid (⟨f2, f3, f4, f6⟩ : of D p = of DR p + n - s ∧ 0 ≤ of DR p ∧ of D p ≤ 100000 ∧ 0 ≤ s ∧ s ≤ n)
  have HF5 := Lib.hid f5
  clear hr hfl hsl hsR h0 f1 f2 f3 f4 f5 f6
  go_enter Try.func6, Try.ntmps6
  go_wp2_with fail
  refine (awake_any _).mono ?_
  rintro e w1 ⟨rfl, hb⟩
  have HK1 := Lib.hid (HK0.out.below hb)
  clear hb HK0
  go_wp2_with fail
  refine (HFA.out _ _ _ (HK1.out.r 0 rfl)).mono ?_
  rintro e wx ⟨rfl, rfl⟩
  go_wp2_with fail
  refine (HN.out _ _ _ (HK1.out.r 0 rfl)).mono ?_
  rintro e w2 ⟨A2, c2, rfl, hr2, hb⟩
  have HK2 := Lib.hid ((HK1.out.below hb).add hr2)
  clear hb HK1 hr2
  go_wp2_with fail
  refine (HD.out _ _ _ (HK2.out.r 0 rfl)).mono ?_
  rintro e w3 ⟨A3, c3, rfl, hr3, hb⟩
  have HK3 := Lib.hid ((HK2.out.below hb).add hr3)
  clear hb HK2 hr3
  go_wp2_with fail
  refine (HDL.out _ _ _ (HK3.out.r 0 rfl)).mono ?_
  rintro e w4 ⟨A4, c4, rfl, hr4, hb⟩
  have HK4 := Lib.hid ((HK3.out.below hb).add hr4)
  clear hb HK3 hr4
  go_wp2_with fail
  refine (HTD.out _ _ _ (HK4.out.r 3 rfl)).mono ?_
  rintro e w5 ⟨A5, c5, rfl, hr5, hb⟩
  have HK5 := Lib.hid ((HK4.out.below hb).add hr5)
  clear hb HK4 hr5
  go_wp2_with fail
  refine (HDR.out _ _ _ (HK5.out.r 2 rfl)).mono ?_
  rintro e w6 ⟨A6, c6, rfl, hr6, hb⟩
  have HK6 := Lib.hid ((HK5.out.below hb).add hr6)
  clear hb HK5 hr6
  go_wp2_with fail
  refine (HTR.out _ _ _ (HK6.out.r 5 rfl)).mono ?_
  rintro e w7 ⟨A7, c7, rfl, hr7, hb⟩
  have HK7 := Lib.hid ((HK6.out.below hb).add hr7)
  clear hb HK6 hr7 HFA HN HD HDL HDR HTD HTR
  go_wp2_with fail
  go_loopw [14] (fun t wr => ∃ k : Nat, k ≤ D.length ∧ t = .int .i64 k ∧ Below w7.heap.size w7 wr) (fun t _ => D.length - (intOf t).toNat)
  case atStart => exact ⟨0, Nat.zero_le _, rfl, Below.refl _ _⟩
  case round =>
    obtain ⟨k, hk, rfl, hbel⟩ := hrel
    have HK8 := Lib.hid (HK7.out.below hbel)
    have hz7 := hbel.size
    have HB := Lib.hid hbel
    clear hbel
    by_cases hlt : k < D.length
    · obtain ⟨g, off, rfl, hg, ca⟩ := row_get nd_len (by decide) (HK8.out.r 4 rfl) (by omega)
      have a0 := ca k hlt 0 (by decide)
      have a1 := ca k hlt 1 (by decide)
      have hf := HF1.out D[k] (List.getElem_mem hlt)
      clear ca
      generalize D[k] = m at *
      obtain ⟨mp, mq⟩ := m
      simp only [ndCells, List.getElem?_cons_zero, List.getElem?_cons_succ, Nat.add_zero] at a0 a1 hf
      have hm := HE.out mp
      by_cases hmp : mp = p
      · rw [decide_eq_true hmp] at hm
        clear hf hmp
        generalize (ByteArray.mk mp.toArray) = MB at *
        generalize (ByteArray.mk p.toArray) = PB at *
        go_wp2_with fail
        go_quiet (fail)
        go_wp2
        go_roundw
        case rel => exact ⟨k + 1, by omega, by go_num, below_drewN HB.out _⟩
        case measure => simp [intOf]; omega
      · rw [decide_eq_false hmp] at hm
        have HQ := Lib.hid (fun W h => HOR.out mp A7 c7 W h)
        rw [hf hmp] at HQ
        have HR8 := Lib.hid (HK8.out.r 6 rfl)
        clear hf hmp HOR
        generalize (ByteArray.mk mp.toArray) = MB at *
        generalize (ByteArray.mk p.toArray) = PB at *
        go_wp2_with fail
        go_quiet ((go_at_call 22; exact Calls.quiet_of_same (HQ.out _ (HR8.out.below (below_drewN (Below.refl _ _) _)))))
        go_wp2
        go_roundw
        case rel => exact ⟨k + 1, by omega, by go_num, below_drewN HB.out _⟩
        case measure => simp [intOf]; omega
    · obtain rfl : k = D.length := by omega
      clear HK7
      have HOP := Lib.hid (fun A k W h => of_quiet DR p A k W h (by omega))
      generalize of DR p = L1 at *
      generalize of D p = L0 at *
      obtain ⟨g1, g2, g3, g4, g5⟩ := HF.out
      have x1 : IntKind.i64.wrap (L1 + n) = L1 + n := by
        rw [wrapEq]
        unfold wrap64
        rcases HF5.out with h | ⟨h, h'⟩ <;> omega
      have x2 : IntKind.i64.wrap (L1 + n - s) = L0 := by rw [← g1, wrapEq]; unfold wrap64; omega
      have x3 : decide (s < 0) = false := by simp; omega
      have x4 : IntKind.i64.wrap (n - s) = n - s := by rw [wrapEq]; unfold wrap64; omega
      have x6 := Lib.hid (show n - s ≤ 100000 by omega)
      have HG := Lib.hid (show 0 ≤ s ∧ s ≤ n ∧ L0 = L1 + n - s from ⟨g4, g5, g1⟩)
      clear g1 g2 g3 g4 g5 HF
      generalize hPB : (ByteArray.mk p.toArray) = PB at *
      have HPB := Lib.hid hPB
      clear hPB
      go_wp2_with fail
      refine (HOP.out _ _ _ (HK8.out.r 6 rfl)).mono ?_
      rintro e wx ⟨rfl, rfl⟩
      go_wp2_with fail
      refine (HOD.out _ _ _ (HK8.out.r 4 rfl)).mono ?_
      rintro e wx ⟨rfl, rfl⟩
      have hcase : decide (0 < s) = false ∨ (decide (0 < s) = true ∧ L1 = 0) := by
        rcases HF5.out with h | ⟨h, h'⟩
        · exact .inl (by simp; omega)
        · exact .inr ⟨by simp; omega, h'⟩
      clear HOP HOD HOR HF5 HF1
      rcases hcase with hc | ⟨hc, hc2⟩
      · go_upto_region 20 with (fail)
        go_wp2_with fail
        go_loopw [17, 18] (fun f t wq => ∃ k : Nat, k ≤ R.length ∧ t = .int .i64 k ∧ f = .int .i64 ((R.take k).foldl (fstep p) 1000001) ∧ Below wx.heap.size wx wq) (fun _ t _ => R.length - (intOf t).toNat)
        case atStart => exact ⟨0, Nat.zero_le _, rfl, rfl, Below.refl _ _⟩
        case round =>
          obtain ⟨k, hk, rfl, rfl, hbel⟩ := hrel
          have HK9 := Lib.hid (HK8.out.below hbel)
          have HB9 := Lib.hid hbel
          clear hbel
          by_cases hlt : k < R.length
          · obtain ⟨g, off, rfl, hg, ca⟩ := row_get it_len (by decide) (HK9.out.r 2 rfl) (by omega)
            have a1 := ca k hlt 1 (by decide)
            have a3 := ca k hlt 3 (by decide)
            have hts : (R.take (k + 1)).foldl (fstep p) 1000001 = fstep p ((R.take k).foldl (fstep p) 1000001) R[k] := by
              rw [take_snoc' R k hlt, List.foldl_append]
              rfl
            generalize (R.take k).foldl (fstep p) 1000001 = f at *
            clear ca
            generalize R[k] = m at *
            simp only [itCells, List.getElem?_cons_zero, List.getElem?_cons_succ] at a1 a3
            have hm := HE.out m.p
            by_cases hmp : m.p = p
            · rw [decide_eq_true hmp] at hm
              have HT := Lib.hid (hts.trans (show fstep p f m = min f m.d by unfold fstep; rw [if_pos hmp]))
              clear hts hmp
              generalize m.d = md at *
              generalize (ByteArray.mk m.p.toArray) = MB at *
              go_wp2
              go_roundw
              case rel => exact ⟨k + 1, by omega, by go_num, by rw [HT.out], HB9.out⟩
              case measure => simp [intOf]; omega
            · rw [decide_eq_false hmp] at hm
              have HT := Lib.hid (hts.trans (show fstep p f m = f by unfold fstep; rw [if_neg hmp]))
              clear hts hmp
              generalize m.d = md at *
              generalize (ByteArray.mk m.p.toArray) = MB at *
              go_wp2
              go_roundw
              case rel => exact ⟨k + 1, by omega, by go_num, by rw [HT.out], HB9.out⟩
              case measure => simp [intOf]; omega
          · obtain rfl : k = R.length := by omega
            have hF : (R.take R.length).foldl (fstep p) 1000001 = firstDue p R := by rw [List.take_length]; rfl
            rw [hF]
            clear hF HB9 HK8
            generalize firstDue p R = F at *
            go_wp2_with fail
            go_loopw [19, 20] (fun x t wq => ∃ (k : Nat) (y : Int), k ≤ N.length ∧ t = .int .i64 k ∧ x = .int .i64 y ∧ Hid (chk p F (N.drop k) y = true) ∧ Hid (-1000 ≤ y ∧ y ≤ 100000) ∧ Below wr.heap.size wr wq) (fun _ t _ => N.length - (intOf t).toNat)
            case atStart =>
              exact ⟨0, n - s, Nat.zero_le _, rfl, rfl, HC, Lib.hid ⟨by have := HG.out; omega, x6.out⟩, Below.refl _ _⟩
            case round =>
              obtain ⟨k, y, hk, rfl, rfl, hc0, hy0, hbel⟩ := hrel
              have HK10 := Lib.hid (HK9.out.below hbel)
              have HB10 := Lib.hid hbel
              have hy1 := hy0.out
              clear hbel
              by_cases hlt : k < N.length
              · by_cases hy : 0 < y
                · obtain ⟨g, off, rfl, hg, ca⟩ := row_get it_len (by decide) (HK10.out.r 1 rfl) (by omega)
                  have a1 := ca k hlt 1 (by decide)
                  have a2 := ca k hlt 2 (by decide)
                  have a3 := ca k hlt 3 (by decide)
                  have hch := hc0.out
                  rw [List.drop_eq_getElem_cons hlt] at hch
                  unfold chk at hch
                  rw [if_neg (by omega)] at hch
                  have hit := HIT.out N[k] (List.getElem_mem hlt)
                  clear ca
                  generalize N[k] = m at *
                  simp only [itCells, List.getElem?_cons_zero, List.getElem?_cons_succ] at a1 a2 a3
                  have hm := HE.out m.p
                  have hyd : decide (0 < y) = true := by simp; omega
                  by_cases hmp : m.p = p
                  · rw [decide_eq_true hmp] at hm
                    rw [if_pos hmp, Bool.and_eq_true, decide_eq_true_eq] at hch
                    obtain ⟨hd1, hd2⟩ := hch
                    have HD2 := Lib.hid hd2
                    have x7 : IntKind.i64.wrap (y - m.q) = y - m.q := by rw [wrapEq]; unfold wrap64; omega
                    have x8 := Lib.hid (show -1000 ≤ y - m.q ∧ y - m.q ≤ 100000 by omega)
                    have x9 : decide (F < m.d) = false := by simp; omega
                    clear hmp hd2 hy0 hc0
                    generalize m.d = md at *
                    generalize m.q = mq at *
                    generalize (ByteArray.mk m.p.toArray) = MB at *
                    go_wp2
                    go_roundw
                    case rel => exact ⟨k + 1, _, by omega, by go_num, rfl, HD2, x8, HB10.out⟩
                    case measure => simp [intOf]; omega
                  · rw [decide_eq_false hmp] at hm
                    rw [if_neg hmp] at hch
                    have HD2 := Lib.hid hch
                    clear hmp hch hc0
                    generalize m.d = md at *
                    generalize m.q = mq at *
                    generalize (ByteArray.mk m.p.toArray) = MB at *
                    go_wp2
                    go_roundw
                    case rel => exact ⟨k + 1, _, by omega, by go_num, rfl, HD2, hy0, HB10.out⟩
                    case measure => simp [intOf]; omega
                · have hyd : decide (0 < y) = false := by simp; omega
                  clear HK9
                  go_wp2_with fail
                  refine (HV.out _ _ _ (HK10.out.r 2 rfl)).mono ?_
                  rintro e w11 ⟨rfl, hb⟩
                  have hf := Lib.hid (HK10.out.below hb).bel
                  clear hb HK10
                  go_wp2
                  go_ret
                  exact ⟨rfl, hf.out⟩
              · obtain rfl : k = N.length := by omega
                clear HK9
                go_wp2_with fail
                refine (HV.out _ _ _ (HK10.out.r 2 rfl)).mono ?_
                rintro e w11 ⟨rfl, hb⟩
                have hf := Lib.hid (HK10.out.below hb).bel
                clear hb HK10
                go_wp2
                go_ret
                exact ⟨rfl, hf.out⟩
      · have hc3 : decide (0 < L1) = false := by rw [hc2]; rfl
        clear hc2
        go_upto_region 20 with (fail)
        go_wp2_with fail
        go_loopw [17, 18] (fun f t wq => ∃ k : Nat, k ≤ R.length ∧ t = .int .i64 k ∧ f = .int .i64 ((R.take k).foldl (fstep p) 1000001) ∧ Below wx.heap.size wx wq) (fun _ t _ => R.length - (intOf t).toNat)
        case atStart => exact ⟨0, Nat.zero_le _, rfl, rfl, Below.refl _ _⟩
        case round =>
          obtain ⟨k, hk, rfl, rfl, hbel⟩ := hrel
          have HK9 := Lib.hid (HK8.out.below hbel)
          have HB9 := Lib.hid hbel
          clear hbel
          by_cases hlt : k < R.length
          · obtain ⟨g, off, rfl, hg, ca⟩ := row_get it_len (by decide) (HK9.out.r 2 rfl) (by omega)
            have a1 := ca k hlt 1 (by decide)
            have a3 := ca k hlt 3 (by decide)
            have hts : (R.take (k + 1)).foldl (fstep p) 1000001 = fstep p ((R.take k).foldl (fstep p) 1000001) R[k] := by
              rw [take_snoc' R k hlt, List.foldl_append]
              rfl
            generalize (R.take k).foldl (fstep p) 1000001 = f at *
            clear ca
            generalize R[k] = m at *
            simp only [itCells, List.getElem?_cons_zero, List.getElem?_cons_succ] at a1 a3
            have hm := HE.out m.p
            by_cases hmp : m.p = p
            · rw [decide_eq_true hmp] at hm
              have HT := Lib.hid (hts.trans (show fstep p f m = min f m.d by unfold fstep; rw [if_pos hmp]))
              clear hts hmp
              generalize m.d = md at *
              generalize (ByteArray.mk m.p.toArray) = MB at *
              go_wp2
              go_roundw
              case rel => exact ⟨k + 1, by omega, by go_num, by rw [HT.out], HB9.out⟩
              case measure => simp [intOf]; omega
            · rw [decide_eq_false hmp] at hm
              have HT := Lib.hid (hts.trans (show fstep p f m = f by unfold fstep; rw [if_neg hmp]))
              clear hts hmp
              generalize m.d = md at *
              generalize (ByteArray.mk m.p.toArray) = MB at *
              go_wp2
              go_roundw
              case rel => exact ⟨k + 1, by omega, by go_num, by rw [HT.out], HB9.out⟩
              case measure => simp [intOf]; omega
          · obtain rfl : k = R.length := by omega
            have hF : (R.take R.length).foldl (fstep p) 1000001 = firstDue p R := by rw [List.take_length]; rfl
            rw [hF]
            clear hF HB9 HK8
            generalize firstDue p R = F at *
            go_wp2_with fail
            go_loopw [19, 20] (fun x t wq => ∃ (k : Nat) (y : Int), k ≤ N.length ∧ t = .int .i64 k ∧ x = .int .i64 y ∧ Hid (chk p F (N.drop k) y = true) ∧ Hid (-1000 ≤ y ∧ y ≤ 100000) ∧ Below wr.heap.size wr wq) (fun _ t _ => N.length - (intOf t).toNat)
            case atStart =>
              exact ⟨0, n - s, Nat.zero_le _, rfl, rfl, HC, Lib.hid ⟨by have := HG.out; omega, x6.out⟩, Below.refl _ _⟩
            case round =>
              obtain ⟨k, y, hk, rfl, rfl, hc0, hy0, hbel⟩ := hrel
              have HK10 := Lib.hid (HK9.out.below hbel)
              have HB10 := Lib.hid hbel
              have hy1 := hy0.out
              clear hbel
              by_cases hlt : k < N.length
              · by_cases hy : 0 < y
                · obtain ⟨g, off, rfl, hg, ca⟩ := row_get it_len (by decide) (HK10.out.r 1 rfl) (by omega)
                  have a1 := ca k hlt 1 (by decide)
                  have a2 := ca k hlt 2 (by decide)
                  have a3 := ca k hlt 3 (by decide)
                  have hch := hc0.out
                  rw [List.drop_eq_getElem_cons hlt] at hch
                  unfold chk at hch
                  rw [if_neg (by omega)] at hch
                  have hit := HIT.out N[k] (List.getElem_mem hlt)
                  clear ca
                  generalize N[k] = m at *
                  simp only [itCells, List.getElem?_cons_zero, List.getElem?_cons_succ] at a1 a2 a3
                  have hm := HE.out m.p
                  have hyd : decide (0 < y) = true := by simp; omega
                  by_cases hmp : m.p = p
                  · rw [decide_eq_true hmp] at hm
                    rw [if_pos hmp, Bool.and_eq_true, decide_eq_true_eq] at hch
                    obtain ⟨hd1, hd2⟩ := hch
                    have HD2 := Lib.hid hd2
                    have x7 : IntKind.i64.wrap (y - m.q) = y - m.q := by rw [wrapEq]; unfold wrap64; omega
                    have x8 := Lib.hid (show -1000 ≤ y - m.q ∧ y - m.q ≤ 100000 by omega)
                    have x9 : decide (F < m.d) = false := by simp; omega
                    clear hmp hd2 hy0 hc0
                    generalize m.d = md at *
                    generalize m.q = mq at *
                    generalize (ByteArray.mk m.p.toArray) = MB at *
                    go_wp2
                    go_roundw
                    case rel => exact ⟨k + 1, _, by omega, by go_num, rfl, HD2, x8, HB10.out⟩
                    case measure => simp [intOf]; omega
                  · rw [decide_eq_false hmp] at hm
                    rw [if_neg hmp] at hch
                    have HD2 := Lib.hid hch
                    clear hmp hch hc0
                    generalize m.d = md at *
                    generalize m.q = mq at *
                    generalize (ByteArray.mk m.p.toArray) = MB at *
                    go_wp2
                    go_roundw
                    case rel => exact ⟨k + 1, _, by omega, by go_num, rfl, HD2, hy0, HB10.out⟩
                    case measure => simp [intOf]; omega
                · have hyd : decide (0 < y) = false := by simp; omega
                  clear HK9
                  go_wp2_with fail
                  refine (HV.out _ _ _ (HK10.out.r 2 rfl)).mono ?_
                  rintro e w11 ⟨rfl, hb⟩
                  have hf := Lib.hid (HK10.out.below hb).bel
                  clear hb HK10
                  go_wp2
                  go_ret
                  exact ⟨rfl, hf.out⟩
              · obtain rfl : k = N.length := by omega
                clear HK9
                go_wp2_with fail
                refine (HV.out _ _ _ (HK10.out.r 2 rfl)).mono ?_
                rintro e w11 ⟨rfl, hb⟩
                have hf := Lib.hid (HK10.out.below hb).bel
                clear hb HK10
                go_wp2
                go_ret
                exact ⟨rfl, hf.out⟩
end Go.Proofs.Yteldekkodhfkkaa.OdW
