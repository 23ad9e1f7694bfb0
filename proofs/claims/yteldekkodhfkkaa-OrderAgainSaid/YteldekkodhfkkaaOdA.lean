/- The law OrderAgain, walked. Conditions: the list lies in memory. -/
import Derived.Test.YteldekkodhfkkaaOdG
import Derived.StillTailTactics
namespace Go.Proofs.Yteldekkodhfkkaa.OdW
open Go Go.RowKit Go.Proofs.Yteldekkodhfkkaa.Mem

theorem normal_next {l : List Od.It} (k : Nat) (x y : Od.It) (h1 : (normal l).1[k]? = some x) (h2 : (normal l).1[k + 1]? = some y) : Od.kl (key x) (key y) = true := by
  obtain ⟨h3, rfl⟩ := List.getElem?_eq_some_iff.1 h2
  obtain ⟨h4, rfl⟩ := List.getElem?_eq_some_iff.1 h1
  exact normal_up k h3
theorem turned_len (l : List Od.It) (t : Nat) : (turned l t).length = l.length := by simp [turned]
def turnAt (l : List Od.It) (t i : Nat) : Od.It := l[place l.length t i]!
theorem turned_take (l : List Od.It) (t k : Nat) (h : k < l.length) : (List.range (k + 1)).map (turnAt l t) = (List.range k).map (turnAt l t) ++ [l[place l.length t k]'(place_lt (by omega))] := by
  rw [List.range_succ, List.map_append, List.map_cons, List.map_nil]
  unfold turnAt
  rw [getElem!_pos l _ (place_lt (by omega))]
theorem place_int {n t k : Nat} (hk : k < n) : ((n : Int) - (k : Int) + (t : Int)).tmod (n : Int) = ((place n t k : Nat) : Int) := by
  unfold place
  rw [Int.tmod_eq_emod_of_nonneg (by omega)]
  have e : ((n : Int) - (k : Int) + (t : Int)) = ((n - k + t : Nat) : Int) := by omega
  rw [e]
  rfl
set_option maxRecDepth 100000 in
set_option maxHeartbeats 4000000 in
theorem orderAgain_good (l : List Od.It) (T : Nat) (A : Option Addr) (c : Nat) (w : World) (hr : Row w A (l.flatMap itCells)) (hfl : few l = true) (hT : T < 256) :
    Calls Try.prog 4 #[.slice A l.length c, .int .u8 (T : Int)] w fun e w' => e = .returned (.bool true) ∧ Below w.heap.size w w' := by
  have hsl := few_shorts hfl
  have hl := (few_short hfl).1
  have HFA := Lib.hid (fun A k W h => few_any l A k W h (by omega))
  rw [hfl] at HFA
  have HN := Lib.hid (fun A k W h => normal_any l A k W h (by omega) hsl)
  have HT := Lib.hid (fun A k W h => normal_any (turned l T) A k W h (by rw [turned_len]; omega) (fun m hm => hsl m ((turned_perm l T).mem_iff.1 hm)))
  rw [normal_perm (turned_perm l T), turned_len] at HT
  have HDL := Lib.hid (fun A k W h => demand_any l A k W h (by omega) hsl)
  have q1 := normal_len l
  have HNA := Lib.hid (fun (h : (normal l).2 = 0) => normal_again h)
  have HDA := Lib.hid (fun (h : (normal l).2 = 0) => demand_normal h)
  have HUP := Lib.hid (fun k x y h1 h2 => normal_next (l := l) k x y h1 h2)
  have HSA := normal_short hsl
  have HE := normal_two l
  have HEM := Lib.hid (fun (h : (normal l).2 ≠ 0) => normal_err h)
  have HNN := Lib.hid (fun A k W h => normal_any (normal l).1 A k W h (by omega) HSA)
  have HDN := Lib.hid (fun A k W h => demand_any (normal l).1 A k W h (by omega) HSA)
  generalize hX : normal l = X at *
  obtain ⟨a, er⟩ := X
  simp only at HN HT q1 HNA HDA HUP HE HEM HNN HDN
  have HS := Lib.hid (fun A B k j W h1 h2 => rsame_any a a A B k j W h1 h2 (by omega) (by omega))
  rw [decide_eq_true rfl] at HS
  obtain ⟨i0, ia, ib, ic, id⟩ := info_parts info_item
  have HK0 := Lib.hid ((Kept.start w).add hr)
  clear hr hfl hsl HSA
  go_enter Try.func4, Try.ntmps4
  go_wp2_with fail
  refine (awake_any _).mono ?_
  rintro e w1 ⟨rfl, hb⟩
  have HK1 := Lib.hid (HK0.out.below hb)
  clear hb HK0
  go_wp2_with fail
  refine (HFA.out _ _ _ (HK1.out.r 0 rfl)).mono ?_
  rintro e wx ⟨rfl, rfl⟩
  go_wp2_with fail
  refine (HN.out _ _ _ (HK1.out.r 0 rfl)).mono ?_
  rintro e w2 ⟨A2, c2, rfl, hr2, hb⟩
  have HK2 := Lib.hid ((HK1.out.below hb).add hr2)
  clear hb HK1 hr2
  go_wp2_with fail
  go_loopw [7, 8] (fun v t wr => ∃ k : Nat, k ≤ l.length ∧ t = .int .i64 k ∧ wr.ownsRow w2.heap.size 36 4 v k (((List.range k).map (turnAt l T)).flatMap itCells) ∧ Below w2.heap.size w2 wr) (fun _ t _ => l.length - (intOf t).toNat)
  case atStart => exact ⟨0, Nat.zero_le _, rfl, World.ownsRow_nil _ _ _ _, Below.refl _ _⟩
  case round =>
    obtain ⟨k, hk, rfl, hown, hbel⟩ := hrel
    by_cases hlt : k < l.length
    · obtain ⟨g, off, rfl, hg, ca⟩ := row_get it_len (by decide) ((HK2.out.r 0 rfl).below hbel) (by omega)
      have hpl : place l.length T k < l.length := place_lt (by omega)
      have a0 := ca (place l.length T k) hpl 0 (by decide)
      have a1 := ca (place l.length T k) hpl 1 (by decide)
      have a2 := ca (place l.length T k) hpl 2 (by decide)
      have a3 := ca (place l.length T k) hpl 3 (by decide)
      have hts := Lib.hid (turned_take l T k hlt)
      have x3 := place_int (t := T) hlt
      have x1 : IntKind.i64.wrap ((l.length : Int) - (k : Int)) = (l.length : Int) - (k : Int) := by rw [wrapEq]; unfold wrap64; omega
      have x2 : IntKind.i64.wrap ((l.length : Int) - (k : Int) + (T : Int)) = (l.length : Int) - (k : Int) + (T : Int) := by rw [wrapEq]; unfold wrap64; omega
      clear ca
      generalize hM : l[place l.length T k]'hpl = m at *
      generalize place l.length T k = j at *
      clear hM
      simp only [itCells, List.getElem?_cons_zero, List.getElem?_cons_succ, Nat.add_zero] at a0 a1 a2 a3
      have hz0 := hbel.size
      have HX : Hid (itCells m = [.string ⟨m.o.toArray⟩, .string ⟨m.p.toArray⟩, .int .i64 m.q, .int .i64 m.d]) := Lib.hid rfl
      generalize m.q = mq at *
      generalize m.d = md at *
      generalize (ByteArray.mk m.p.toArray) = MB at *
      generalize (ByteArray.mk m.o.toArray) = OB at *
      have C1 := Lib.hid (cells_new4 wr (.string OB) (.string MB) (.int .i64 mq) (.int .i64 md) 36)
      have C2 : Hid (∀ u ∈ [Value.string OB, .string MB, .int .i64 mq, .int .i64 md], u.oneCell' = true) := Lib.hid (by intro u hu; simp at hu; rcases hu with rfl | rfl | rfl | rfl <;> rfl)
      have C3 : Hid (k + 1 ≤ maxLen ∧ (k + 1) * 48 ≤ 140737488355328) := Lib.hid (by unfold maxLen; omega)
      have C5 : Hid (w2.heap.size ≤ (wr.alloc (.cells #[.string OB, .string MB, .int .i64 mq, .int .i64 md] 36)).heap.size) := Lib.hid (by simp; omega)
      have HOW := Lib.hid (hown.alloc (.cells #[.string OB, .string MB, .int .i64 mq, .int .i64 md] 36))
      have HBW := Lib.hid (hbel.alloc hz0 (.cells #[.string OB, .string MB, .int .i64 mq, .int .i64 md] 36))
      clear hown hbel
      go_wp2_with (at_builtin; refine wpList_append_own _ rfl _ _ 22 rfl w2.heap.size 36 i0 _ 4 48 Try.underlying22 ia ib ic id rfl (by omega) _ _ _ rfl HOW.out ⟨wr.heap.size, 0, none⟩ 1 1 [.string OB, .string MB, .int .i64 mq, .int .i64 md] rfl rfl C1.out C2.out C3.out.1 C3.out.2 C5.out ?_)
      intro v' w4 hown4 hg4 _
      have hb4 : Below w2.heap.size w2 w4 := below_append HBW.out C5.out HOW.out hg4 (Nat.le_refl _)
      have HO4 : Hid (w4.ownsRow w2.heap.size 36 4 v' (k + 1) (((List.range (k + 1)).map (turnAt l T)).flatMap itCells)) := Lib.hid (by
        rw [hts.out, flatMap_snoc, HX.out]
        exact hown4)
      clear hg4 hown4 a0 a1 a2 a3
      go_wp2
      go_roundw
      case rel => exact ⟨k + 1, by omega, by go_num, HO4.out, hb4⟩
      case measure => simp [intOf]; omega
    · obtain rfl : k = l.length := by omega
      obtain ⟨A3, c3, rfl, _⟩ := own_shape hown
      have hr3 : Row wr A3 ((turned l T).flatMap itCells) := Row.of_own hown
      have HR3 := Lib.hid hr3
      have HK3 := Lib.hid (HK2.out.below hbel)
      clear hown hbel hr3
      go_wp2_with fail
      refine (HT.out _ _ _ HR3.out).mono ?_
      rintro e w4 ⟨A4, c4, rfl, hr4, hb⟩
      have HK4 := Lib.hid ((HK3.out.below hb).add hr4)
      clear hb hr4 HK3
      go_wp2_with fail
      refine (HS.out _ _ _ _ _ (HK4.out.r 1 rfl) (HK4.out.r 2 rfl)).mono ?_
      rintro e w5 ⟨rfl, hb⟩
      have HK5 := Lib.hid (HK4.out.below hb)
      clear hb HK4
      rcases HE with rfl | rfl | rfl
      · have hna := HNA.out rfl
        have hda := HDA.out rfl
        rw [hna] at HNN
        rw [hda] at HDN
        have hdl : (demand l).length ≤ 100 := by
          unfold demand
          split
          · rename_i hv
            have := nf_len (lt := Od.sl) (l.map pq)
            rw [List.length_map] at this
            have := Od.valid_len hv
            omega
          · simp
        clear hna hda HNA HDA HEM
        generalize demand l = D at *
        have HTH := Lib.hid (fun A k W h => theirs_any D A k W h (by omega))
        have HSN := Lib.hid (fun A B j k W h1 h2 => rneeds_any D D A B j k W h1 h2 (by omega) (by omega))
        rw [decide_eq_true rfl] at HSN
        go_wp2_with fail
        go_loopw [11] (fun t wr => ∃ k : Nat, 1 ≤ k ∧ (k = 1 ∨ k ≤ a.length) ∧ t = .int .i64 k ∧ Below w5.heap.size w5 wr) (fun t _ => a.length - (intOf t).toNat)
        case atStart => exact ⟨1, Nat.le_refl _, .inl rfl, rfl, Below.refl _ _⟩
        case round =>
          obtain ⟨k, hk1, hk2, rfl, hbel⟩ := hrel
          obtain ⟨j, rfl⟩ : ∃ j, k = j + 1 := ⟨k - 1, by omega⟩
          by_cases hlt : j + 1 < a.length
          · obtain ⟨g, off, rfl, hg, ca⟩ := row_get it_len (by decide) ((HK5.out.r 1 rfl).below hbel) (by omega)
            have a0 := ca j (by omega) 0 (by decide)
            have a1 := ca j (by omega) 1 (by decide)
            have a2 := ca j (by omega) 2 (by decide)
            have a3 := ca j (by omega) 3 (by decide)
            have b0 := ca (j + 1) hlt 0 (by decide)
            have b1 := ca (j + 1) hlt 1 (by decide)
            have b2 := ca (j + 1) hlt 2 (by decide)
            have b3 := ca (j + 1) hlt 3 (by decide)
            have hup := HUP.out j _ _ (List.getElem?_eq_getElem (by omega)) (List.getElem?_eq_getElem hlt)
            have HL := Lib.hid (fun W => rless_any (a[j]'(by omega)) a[j + 1] W)
            rw [hup] at HL
            clear ca hup
            generalize a[j]'(by omega) = m at *
            generalize a[j + 1] = n at *
            simp only [itCells, List.getElem?_cons_zero, List.getElem?_cons_succ, Nat.add_zero] at a0 a1 a2 a3 b0 b1 b2 b3
            generalize (ByteArray.mk m.o.toArray) = OA at *
            generalize (ByteArray.mk m.p.toArray) = PA at *
            generalize (ByteArray.mk n.o.toArray) = OB at *
            generalize (ByteArray.mk n.p.toArray) = PB at *
            have hz0 := hbel.size
            have xj : IntKind.i64.wrap (j : Int) = (j : Int) := by rw [wrapEq]; unfold wrap64; omega
            have hj1 : j < a.length := by omega
            have hj2 : (0 : Int) ≤ (j : Int) + 1 := by omega
            have HBL := Lib.hid (below_drewN hbel 1)
            go_wp2_with fail
            refine wp_region_still_tail 9 (by kernel_rfl) (by kernel_rfl) ?_
            simp only [List.take_succ_cons, List.take_zero, List.drop_succ_cons, List.drop_zero]
            still_step
            still_step
            still_step
            still_step
            still_step
            still_step
            still_step
            still_step
            still_step
            refine wpStill_nil ?_
            change wpList _ _ _ _ _ (wr.drewN 1)
            go_wp2_with fail
            refine (HL.out _).mono ?_
            rintro e w6 ⟨rfl, hb⟩
            have hb6 := HBL.out.trans (hb.mono HBL.out.size)
            clear hb hbel a0 a1 a2 a3 b0 b1 b2 b3 HL
            go_wp2
            go_roundw
            case rel => exact ⟨j + 2, by omega, .inr (by omega), by go_num, hb6⟩
            case measure => simp [intOf]; omega
          · have hbel' := Lib.hid hbel
            have hk3 : decide ((j : Int) + 1 < (a.length : Int)) = false := by simp; omega
            have HK6 := Lib.hid (HK5.out.below hbel)
            clear hbel HK5
            go_wp2_with fail
            refine (HNN.out _ _ _ (HK6.out.r 1 rfl)).mono ?_
            rintro e w7 ⟨A7, c7, rfl, hr7, hb⟩
            have HK7 := Lib.hid ((HK6.out.below hb).add hr7)
            clear hb hr7 HK6
            go_wp2_with fail
            refine (HS.out _ _ _ _ _ (HK7.out.r 1 rfl) (HK7.out.r 3 rfl)).mono ?_
            rintro e w8 ⟨rfl, hb⟩
            have HK8 := Lib.hid (HK7.out.below hb)
            clear hb HK7
            go_wp2_with fail
            refine (HDN.out _ _ _ (HK8.out.r 1 rfl)).mono ?_
            rintro e w9 ⟨A9, c9, rfl, hr9, hb⟩
            have HK9 := Lib.hid ((HK8.out.below hb).add hr9)
            clear hb hr9 HK8
            go_wp2_with fail
            refine (HTH.out _ _ _ (HK9.out.r 4 rfl)).mono ?_
            rintro e w10 ⟨A10, c10, rfl, hr10, hb⟩
            have HK10 := Lib.hid ((HK9.out.below hb).add hr10)
            clear hb hr10 HK9
            go_wp2_with fail
            refine (HDL.out _ _ _ (HK10.out.r 0 rfl)).mono ?_
            rintro e w11 ⟨A11, c11, rfl, hr11, hb⟩
            have HK11 := Lib.hid ((HK10.out.below hb).add hr11)
            clear hb hr11 HK10
            go_wp2_with fail
            refine (HTH.out _ _ _ (HK11.out.r 6 rfl)).mono ?_
            rintro e w12 ⟨A12, c12, rfl, hr12, hb⟩
            have HK12 := Lib.hid ((HK11.out.below hb).add hr12)
            clear hb hr12 HK11
            go_wp2_with fail
            refine (HSN.out _ _ _ _ _ (HK12.out.r 5 rfl) (HK12.out.r 7 rfl)).mono ?_
            rintro e w13 ⟨rfl, hb⟩
            have hf := Lib.hid (HK12.out.below hb).bel
            clear hb HK12
            go_wp2
            go_ret
            exact ⟨rfl, hf.out⟩
      · obtain rfl : a = [] := HEM.out (by decide)
        have hf := Lib.hid HK5.out.bel
        go_wp2
        go_ret
        exact ⟨rfl, hf.out⟩
      · obtain rfl : a = [] := HEM.out (by decide)
        have hf := Lib.hid HK5.out.bel
        go_wp2
        go_ret
        exact ⟨rfl, hf.out⟩
end Go.Proofs.Yteldekkodhfkkaa.OdW
