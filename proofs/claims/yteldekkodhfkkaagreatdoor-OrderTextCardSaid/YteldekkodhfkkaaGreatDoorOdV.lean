/- Walk: Deliver. Conditions: the list lies in memory; its texts are short. -/
import Derived.Test.YteldekkodhfkkaaGreatDoorOdL
namespace Go.Proofs.YteldekkodhfkkaaGreatDoor.OdW
open Go Go.RowKit Go.Proofs.YteldekkodhfkkaaGreatDoor.Mem

theorem dstep_no {p : List UInt8} {s : List Od.It × Int} {x : Od.It} (h : ¬ x.p = p) (hq : 0 < x.q) : dstep p s x = (s.1 ++ [x], s.2) := by
  unfold dstep take1
  rw [if_neg h]
  simp [hq]
theorem dstep_part {p : List UInt8} {s : List Od.It × Int} {x : Od.It} (h : x.p = p) (hq : s.2 < x.q) : dstep p s x = (s.1 ++ [⟨x.o, x.p, x.q - s.2, x.d⟩], 0) := by
  have e : take1 p s.2 x = s.2 := by unfold take1; rw [if_pos h]; omega
  unfold dstep
  rw [e, if_pos (by omega)]
  simp
theorem dstep_all {p : List UInt8} {s : List Od.It × Int} {x : Od.It} (h : x.p = p) (hq : x.q ≤ s.2) : dstep p s x = (s.1, s.2 - x.q) := by
  have e : take1 p s.2 x = x.q := by unfold take1; rw [if_pos h]; omega
  unfold dstep
  rw [e, if_neg (by omega)]

set_option maxRecDepth 100000 in
set_option maxHeartbeats 2000000 in
theorem deliver_any (l : List Od.It) (p : List UInt8) (n : Int) (A : Option Addr) (c : Nat) (w : World) (hr : Row w A (l.flatMap itCells)) (hl : l.length ≤ 1000000) (hsh : ∀ m ∈ l, Od.Short m) (hn : -9223372036854775808 ≤ n ∧ n ≤ 9223372036854775807) :
    Calls Tryz.prog 12 #[.slice A l.length c, .string ⟨p.toArray⟩, .int .i64 n] w fun e w' => ∃ (B : Option Addr) (d : Nat), e = .returned (.tuple #[.slice B (deliver l p n).1.length d, .int .i64 (deliver l p n).2.1, .int .i64 (deliver l p n).2.2]) ∧ Row w' B ((deliver l p n).1.flatMap itCells) ∧ Below w.heap.size w w' := by
  have HN := Lib.hid (fun W h => normal_any l A c W h hl hsh)
  have HR := Lib.hid hr
  clear hr
  obtain ⟨i0, ia, ib, ic, id⟩ := info_parts info_item
  have HE := Lib.hid (fun x : List UInt8 => text_eq x p)
  have hlen := normal_len l
  have HIT := Lib.hid (fun x (hx : x ∈ (normal l).1) => Od.ok_parts (normal_item hx).1)
  have HD := Lib.hid (show deliver l p n = if (normal l).2 ≠ 0 then ([], 0, (normal l).2) else if n < 0 then ([], 0, 2) else ((dfold p (normal l).1 n).1, (dfold p (normal l).1 n).2, 0) from rfl)
  generalize hDD : deliver l p n = DD at *
  generalize (normal l).1 = L at *
  have hE0 := Lib.hid (show (normal l).2 = (normal l).2 from rfl)
  rcases (show (normal l).2 = 0 ∨ (normal l).2 = 1 ∨ (normal l).2 = 2 by rcases normal_ways l with ⟨_, e⟩ | ⟨_, _, e⟩ | ⟨_, _, e⟩ <;> rw [e] <;> simp) with h9 | h9 | h9
  · rw [h9] at HN HD
    clear hE0 h9 hDD
    by_cases hneg : n < 0
    · have d1 : decide (n < 0) = true := decide_eq_true hneg
      go_enter Tryz.func12, Tryz.ntmps12
      go_wp2_with fail
      refine (HN.out _ HR.out).mono ?_
      rintro e w1 ⟨B, d, rfl, hrow, hb1⟩
      go_wp2
      go_ret3
      rw [HD.out]
      simp only [ne_eq, not_true_eq_false, if_false, if_pos hneg]
      exact ⟨none, 0, rfl, Row.nil _ _, hb1⟩
    · have d1 : decide (n < 0) = false := decide_eq_false hneg
      have hD2 : DD = ((dfold p L n).1, (dfold p L n).2, 0) := by
        rw [HD.out]
        simp only [ne_eq, not_true_eq_false, if_false, if_neg hneg]
      subst hD2
      have HDB := Lib.hid (fun k => dfold_n (p := p) (n := n) (by omega) (L.take k) (fun x hx => by have := HIT.out x (List.mem_of_mem_take hx); omega))
      have HDL := Lib.hid (fun k => dfold_len p n (L.take k))
      clear HD hneg
      go_enter Tryz.func12, Tryz.ntmps12
      go_wp2_with fail
      refine (HN.out _ HR.out).mono ?_
      rintro e w1 ⟨B, d, rfl, hrow, hb1⟩
      have HRW := Lib.hid hrow
      clear hrow
      go_wp2
      go_loopw [2, 6, 25] (fun s v t wr => ∃ k : Nat, k ≤ L.length ∧ t = .int .i64 k ∧ s = .int .i64 (dfold p (L.take k) n).2 ∧ wr.ownsRow w1.heap.size 33 4 v (dfold p (L.take k) n).1.length ((dfold p (L.take k) n).1.flatMap itCells) ∧ Below w1.heap.size w1 wr) (fun _ _ t _ => L.length - (intOf t).toNat)
      case atStart => exact ⟨0, Nat.zero_le _, rfl, rfl, World.ownsRow_nil _ _ _ _, Below.refl _ _⟩
      case round =>
        obtain ⟨k, hk, rfl, rfl, hown, hbel⟩ := hrel
        by_cases hlt : k < L.length
        · obtain ⟨g, off, rfl, hg, ca⟩ := row_get it_len (by decide) HRW.out (by omega)
          have a0 := (hbel.cell (p := ⟨g, _, none⟩) hg).trans (ca k hlt 0 (by decide))
          have a1 := (hbel.cell (p := ⟨g, _, none⟩) hg).trans (ca k hlt 1 (by decide))
          have a2 := (hbel.cell (p := ⟨g, _, none⟩) hg).trans (ca k hlt 2 (by decide))
          have a3 := (hbel.cell (p := ⟨g, _, none⟩) hg).trans (ca k hlt 3 (by decide))
          have hts := dfold_snoc p (L.take k) L[k] n
          rw [← take_snoc' L k hlt] at hts
          have hq := HIT.out L[k] (List.getElem_mem hlt)
          have hdb := HDB.out k
          have hdl : (dfold p (L.take k) n).1.length ≤ 100 := Nat.le_trans (HDL.out k) (by rw [List.length_take]; omega)
          generalize dfold p (L.take k) n = S at *
          obtain ⟨acc, s⟩ := S
          simp only at hown hdb hdl ⊢
          clear ca
          generalize L[k] = m at *
          have hz0 := hbel.size
          by_cases hmp : m.p = p
          · by_cases hns : m.q ≤ s
            · have hst := Lib.hid (hts.trans (dstep_all hmp hns))
              have hm := HE.out m.p
              rw [decide_eq_true hmp] at hm
              have x2 : min s m.q = m.q := by omega
              have x3 : IntKind.i64.wrap (s - m.q) = s - m.q := by rw [wrapEq]; unfold wrap64; omega
              clear hts hmp
              simp only [itCells, List.getElem?_cons_zero, List.getElem?_cons_succ, Nat.add_zero] at a0 a1 a2 a3
              generalize m.q = mq at *
              generalize m.d = md at *
              generalize (ByteArray.mk m.p.toArray) = MB at *
              generalize (ByteArray.mk m.o.toArray) = OB at *
              generalize (ByteArray.mk p.toArray) = PB at *
              go_wp2
              go_roundw
              case rel => exact ⟨k + 1, by omega, by go_num, by rw [hst.out], by rw [hst.out]; exact hown.alloc _, hbel.alloc hz0 _⟩
              case measure => simp [intOf]; omega
            · have hst := Lib.hid (hts.trans (dstep_part hmp (by simp only; omega)))
              have hm := HE.out m.p
              rw [decide_eq_true hmp] at hm
              have x2 : min s m.q = s := by omega
              have x5 : s < m.q := by omega
              have x3 : IntKind.i64.wrap (m.q - s) = m.q - s := by rw [wrapEq]; unfold wrap64; omega
              have hX : itCells ⟨m.o, m.p, m.q - s, m.d⟩ = [.string ⟨m.o.toArray⟩, .string ⟨m.p.toArray⟩, .int .i64 (m.q - s), .int .i64 m.d] := rfl
              have HX := Lib.hid hX
              clear hX
              clear hts hmp
              simp only [itCells, List.getElem?_cons_zero, List.getElem?_cons_succ, Nat.add_zero] at a0 a1 a2 a3
              generalize m.q = mq at *
              generalize m.d = md at *
              generalize (ByteArray.mk m.p.toArray) = MB at *
              generalize (ByteArray.mk m.o.toArray) = OB at *
              generalize (ByteArray.mk p.toArray) = PB at *
              have C1 := Lib.hid (cells_new4 (wr.alloc (.cells #[.string OB, .string MB, .int .i64 (mq - s), .int .i64 md] 33)) (.string OB) (.string MB) (.int .i64 (mq - s)) (.int .i64 md) 33)
              have C2 : Hid (∀ u ∈ [Value.string OB, .string MB, .int .i64 (mq - s), .int .i64 md], u.oneCell' = true) := Lib.hid (by intro u hu; simp at hu; rcases hu with rfl | rfl | rfl | rfl <;> rfl)
              have C3 : Hid (acc.length + 1 ≤ maxLen ∧ (acc.length + 1) * 48 ≤ 140737488355328) := Lib.hid (by unfold maxLen; omega)
              have C5 : Hid (w1.heap.size ≤ ((wr.alloc (.cells #[.string OB, .string MB, .int .i64 (mq - s), .int .i64 md] 33)).alloc (.cells #[.string OB, .string MB, .int .i64 (mq - s), .int .i64 md] 33)).heap.size) := Lib.hid (by simp; omega)
              have HOW := Lib.hid ((hown.alloc (.cells #[.string OB, .string MB, .int .i64 (mq - s), .int .i64 md] 33)).alloc (.cells #[.string OB, .string MB, .int .i64 (mq - s), .int .i64 md] 33))
              have HBW := Lib.hid ((hbel.alloc hz0 (.cells #[.string OB, .string MB, .int .i64 (mq - s), .int .i64 md] 33)).alloc (by simp; omega) (.cells #[.string OB, .string MB, .int .i64 (mq - s), .int .i64 md] 33))
              have hWS : Hid ((wr.alloc (.cells #[.string OB, .string MB, .int .i64 (mq - s), .int .i64 md] 33)).heap.size = wr.heap.size + 1) := Lib.hid (by simp)
              rw [hWS.out] at C1
              clear hown hbel
              go_wp2_with (at_builtin; refine wpList_append_own _ rfl _ _ 22 rfl w1.heap.size 33 i0 _ 4 48 Tryz.underlying22 ia ib ic id rfl (by omega) _ _ _ rfl HOW.out ⟨wr.heap.size + 1, 0, none⟩ 1 1 [.string OB, .string MB, .int .i64 (mq - s), .int .i64 md] rfl rfl C1.out C2.out C3.out.1 C3.out.2 C5.out ?_)
              · intro v' w4 hown4 hg4 _
                have hb4 : Below w1.heap.size w1 w4 := below_append HBW.out C5.out HOW.out hg4 (Nat.le_refl _)
                have HO4 : Hid (w4.ownsRow w1.heap.size 33 4 v' (dfold p (L.take (k + 1)) n).1.length ((dfold p (L.take (k + 1)) n).1.flatMap itCells)) := Lib.hid (by
                  rw [hst.out]
                  simp only [List.length_append, List.flatMap_append, List.length_cons, List.length_nil, List.flatMap_cons, List.flatMap_nil, List.append_nil]
                  rw [HX.out]
                  exact hown4)
                clear hg4 hown4 a0 a1 a2 a3
                go_wp2
                go_roundw
                case rel => exact ⟨k + 1, by omega, by go_num, by rw [hst.out], HO4.out, hb4⟩
                case measure => simp [intOf]; omega
          · have hst := Lib.hid (hts.trans (dstep_no hmp (by omega)))
            have hm := HE.out m.p
            rw [decide_eq_false hmp] at hm
            have x5 : 0 < m.q := by omega
            have HX : Hid (itCells m = [.string ⟨m.o.toArray⟩, .string ⟨m.p.toArray⟩, .int .i64 m.q, .int .i64 m.d]) := Lib.hid rfl
            clear hts hmp
            simp only [itCells, List.getElem?_cons_zero, List.getElem?_cons_succ, Nat.add_zero] at a0 a1 a2 a3
            generalize m.q = mq at *
            generalize m.d = md at *
            generalize (ByteArray.mk m.p.toArray) = MB at *
            generalize (ByteArray.mk m.o.toArray) = OB at *
            generalize (ByteArray.mk p.toArray) = PB at *
            have C1 := Lib.hid (cells_new4 (wr.alloc (.cells #[.string OB, .string MB, .int .i64 mq, .int .i64 md] 33)) (.string OB) (.string MB) (.int .i64 mq) (.int .i64 md) 33)
            have C2 : Hid (∀ u ∈ [Value.string OB, .string MB, .int .i64 mq, .int .i64 md], u.oneCell' = true) := Lib.hid (by intro u hu; simp at hu; rcases hu with rfl | rfl | rfl | rfl <;> rfl)
            have C3 : Hid (acc.length + 1 ≤ maxLen ∧ (acc.length + 1) * 48 ≤ 140737488355328) := Lib.hid (by unfold maxLen; omega)
            have C5 : Hid (w1.heap.size ≤ ((wr.alloc (.cells #[.string OB, .string MB, .int .i64 mq, .int .i64 md] 33)).alloc (.cells #[.string OB, .string MB, .int .i64 mq, .int .i64 md] 33)).heap.size) := Lib.hid (by simp; omega)
            have HOW := Lib.hid ((hown.alloc (.cells #[.string OB, .string MB, .int .i64 mq, .int .i64 md] 33)).alloc (.cells #[.string OB, .string MB, .int .i64 mq, .int .i64 md] 33))
            have HBW := Lib.hid ((hbel.alloc hz0 (.cells #[.string OB, .string MB, .int .i64 mq, .int .i64 md] 33)).alloc (by simp; omega) (.cells #[.string OB, .string MB, .int .i64 mq, .int .i64 md] 33))
            have hWS : Hid ((wr.alloc (.cells #[.string OB, .string MB, .int .i64 mq, .int .i64 md] 33)).heap.size = wr.heap.size + 1) := Lib.hid (by simp)
            rw [hWS.out] at C1
            clear hown hbel
            go_wp2_with (at_builtin; refine wpList_append_own _ rfl _ _ 22 rfl w1.heap.size 33 i0 _ 4 48 Tryz.underlying22 ia ib ic id rfl (by omega) _ _ _ rfl HOW.out ⟨wr.heap.size + 1, 0, none⟩ 1 1 [.string OB, .string MB, .int .i64 mq, .int .i64 md] rfl rfl C1.out C2.out C3.out.1 C3.out.2 C5.out ?_)
            · intro v' w4 hown4 hg4 _
              have hb4 : Below w1.heap.size w1 w4 := below_append HBW.out C5.out HOW.out hg4 (Nat.le_refl _)
              have HO4 : Hid (w4.ownsRow w1.heap.size 33 4 v' (dfold p (L.take (k + 1)) n).1.length ((dfold p (L.take (k + 1)) n).1.flatMap itCells)) := Lib.hid (by
                rw [hst.out]
                simp only [List.length_append, List.flatMap_append, List.length_cons, List.length_nil, List.flatMap_cons, List.flatMap_nil, List.append_nil]
                rw [HX.out]
                exact hown4)
              clear hg4 hown4 a0 a1 a2 a3
              go_wp2
              go_roundw
              case rel => exact ⟨k + 1, by omega, by go_num, by rw [hst.out], HO4.out, hb4⟩
              case measure => simp [intOf]; omega
        · obtain rfl : k = L.length := by omega
          have htk := Lib.hid (show L.take L.length = L from List.take_length)
          rw [htk.out] at hown ⊢
          obtain ⟨B2, d2, rfl, _⟩ := own_shape hown
          have HO := Lib.hid (Row.of_own hown)
          have hbz := hb1.size
          clear hown
          go_wp2
          go_ret3
          exact ⟨B2, d2, rfl, HO.out, hb1.trans (hbel.mono hbz)⟩
  all_goals
    rw [h9] at HN HD
    clear hE0 h9 hDD
    go_enter Tryz.func12, Tryz.ntmps12
    go_wp2_with fail
    refine (HN.out _ HR.out).mono ?_
    rintro e w1 ⟨B, d, rfl, hrow, hb1⟩
    go_wp2
    go_ret3
    rw [HD.out, if_pos (by decide)]
    exact ⟨none, 0, rfl, Row.nil _ _, hb1⟩
end Go.Proofs.YteldekkodhfkkaaGreatDoor.OdW
