/- Walks: programs joined, by the reference; what shifts and joins come to, by the program, whatever the programs are. Conditions: the programs lie in memory. -/
import Derived.Test.YtonpbomjjamphaaDoorNcR
namespace Go.Proofs.YtonpbomjjamphaaDoor.NcW
open Go Go.RowKit Go.Proofs.YtonpbomjjamphaaDoor.Mem

set_option maxRecDepth 100000 in
set_option maxHeartbeats 2000000 in
theorem rjoin_any (a b : List Nc.Mv) (A B : Option Addr) (c d : Nat) (w : World) (hra : Row w A (a.flatMap mvCells)) (hrb : Row w B (b.flatMap mvCells)) (hla : a.length ≤ 100000) (hlb : b.length ≤ 100000) :
    Calls Tryd.prog 20 #[.slice A a.length c, .slice B b.length d] w (Gives (joinR a b) w) := by
  have HRA := Lib.hid hra
  have HRB := Lib.hid hrb
  have HVA := Lib.hid (fun W h => rvalid_any a A c W h (by omega))
  have HVB := Lib.hid (fun W h => rvalid_any b B d W h (by omega))
  clear hra hrb
  cases hva : Nc.valid a
  · rw [hva] at HVA
    have e : joinR a b = ([], 1) := by unfold joinR; rw [hva]; rfl
    rw [e]
    clear e hva
    go_enter Tryd.func20, Tryd.ntmps20
    go_wp2_with fail
    refine (HVA.out _ HRA.out).mono ?_
    rintro e w1 ⟨rfl, hb1⟩
    go_wp2
    go_ret2
    exact gives_nil rfl hb1
  rw [hva] at HVA
  cases hvb : Nc.valid b
  · rw [hvb] at HVB
    have e : joinR a b = ([], 1) := by unfold joinR; rw [hvb, Bool.and_false]; rfl
    rw [e]
    clear e hva hvb
    go_enter Tryd.func20, Tryd.ntmps20
    go_wp2_with fail
    refine (HVA.out _ HRA.out).mono ?_
    rintro e w1 ⟨rfl, hb1⟩
    go_wp2_with fail
    refine (HVB.out _ (HRB.out.below hb1)).mono ?_
    rintro e w2 ⟨rfl, hb2⟩
    go_wp2
    go_ret2
    exact gives_nil rfl (hb1.trans (hb2.mono hb1.size))
  · rw [hvb] at HVB
    have hl1 := Nc.valid_len hva
    have hl2 := Nc.valid_len hvb
    have e : joinR a b = if (Nc.till a).length + b.length ≤ 2000 then (Nc.join a b, 0) else ([], 9) := by unfold joinR; rw [hva, hvb]; rfl
    have HE := Lib.hid e
    have HAT := Lib.hid (fun k h h1 h2 => till_at (a := a) (k := k) h h1 h2)
    have HTT := Lib.hid (till_take a)
    have HNO := Lib.hid (fun h => till_none (a := a) h)
    have HLB := Lib.hid (flatMap_len mv_len b)
    have HOB := Lib.hid (mv_one b)
    have HJ : Hid (Nc.join a b = Nc.till a ++ b) := Lib.hid rfl
    obtain ⟨i0, ia, ib, ic, id⟩ := info_parts info_theirs_any
    clear e hva hvb
    go_enter Tryd.func20, Tryd.ntmps20
    go_wp2_with fail
    refine (HVA.out _ HRA.out).mono ?_
    rintro e w1 ⟨rfl, hb1⟩
    go_wp2_with fail
    refine (HVB.out _ (HRB.out.below hb1)).mono ?_
    rintro e w2 ⟨rfl, hb2⟩
    have hb02 := hb1.trans (hb2.mono hb1.size)
    clear hb1 hb2
    go_wp2
    go_loopw [6, 7] (fun o t wr => ∃ k : Nat, k ≤ a.length ∧ t = .int .i64 k ∧ wr.ownsRow w.heap.size 42 3 o k ((a.take k).flatMap mvCells) ∧ Hid (∀ m ∈ a.take k, isEnd m = false) ∧ Below w.heap.size w wr) (fun _ t _ => a.length - (intOf t).toNat)
    case atStart => exact ⟨0, Nat.zero_le _, rfl, World.ownsRow_nil _ _ _ _, Lib.hid (by simp), hb02⟩
    case round =>
      obtain ⟨k, hk, rfl, hown, hd, hbel⟩ := hrel
      have hstop : Hid ((k = a.length ∨ ∃ h : k < a.length, isEnd a[k] = true) → Nc.till a = a.take k) := Lib.hid (by
        rintro (rfl | ⟨h, he⟩)
        · rw [List.take_length]; exact HNO.out (by have := hd.out; rwa [List.take_length] at this)
        · have := HAT.out k h hd.out he
          rw [HTT.out, this])
      have HRBr := Lib.hid (HRB.out.below hbel)
      have HBE := Lib.hid hbel
      have HOW := Lib.hid hown
      by_cases hlt : k < a.length
      · obtain ⟨g, off, rfl, hg, ca⟩ := row_get mv_len (by decide) HRA.out (by omega)
        have a0 := (hbel.cell (p := ⟨g, _, none⟩) hg).trans (ca k hlt 0 (by decide))
        have a1 := (hbel.cell (p := ⟨g, _, none⟩) hg).trans (ca k hlt 1 (by decide))
        have a2 := (hbel.cell (p := ⟨g, _, none⟩) hg).trans (ca k hlt 2 (by decide))
        have hts := Lib.hid (flatMap_take mvCells a k hlt)
        have hnx : Hid (isEnd a[k] = false → ∀ m ∈ a.take (k + 1), isEnd m = false) := Lib.hid (by
          intro h m hm
          rw [take_snoc' a k hlt] at hm
          rcases List.mem_append.1 hm with h1 | h1
          · exact hd.out m h1
          · simp at h1; subst h1; exact h)
        have hst2 : Hid (isEnd a[k] = true → Nc.till a = a.take k) := Lib.hid (fun h => hstop.out (.inr ⟨hlt, h⟩))
        clear ca hstop hown hbel
        generalize a[k] = m at *
        obtain ⟨mk, mx, my⟩ := m
        simp only [mvCells, List.getElem?_cons_zero, List.getElem?_cons_succ, Nat.add_zero] at a0 a1 a2
        have he : isEnd ⟨mk, mx, my⟩ = (mk == 6) := rfl
        rw [he] at hnx hst2
        clear he
        cases h6 : (mk == 6)
        · have h6n : (mk != 6) = true := by simp [bne, h6]
          have HNX := Lib.hid (hnx.out h6)
          clear h6 hst2 hnx
          have hbz := HBE.out.size
          go_wp2_with (at_builtin; refine wpList_append_own _ rfl _ _ 22 rfl w.heap.size 42 i0 _ 3 24 Tryd.underlying22 ia ib ic id rfl (by omega) _ _ _ rfl (HOW.out.alloc _) ⟨wr.heap.size, 0, none⟩ 1 1 [.int .i64 mk, .int .i64 mx, .int .i64 my] rfl rfl ?c1 ?c2 ?c3 ?c4 ?c5 ?_)
          case c1 => exact cells_newl3 wr _ _ _ _
          case c2 => intro u hu; simp at hu; rcases hu with rfl | rfl | rfl <;> rfl
          case c3 => unfold maxLen; omega
          case c4 => omega
          case c5 => simp; omega
          · intro v' w3 hown3 hg3 _
            have hb3 : Below w.heap.size w w3 := below_append (HBE.out.alloc HBE.out.size _) (by simp; omega) (HOW.out.alloc _) hg3 (Nat.le_refl _)
            have HO3 : Hid (w3.ownsRow w.heap.size 42 3 v' (k + 1) ((a.take (k + 1)).flatMap mvCells)) := Lib.hid (by rw [hts.out]; exact hown3)
            clear hown3 hg3 a0 a1 a2
            go_wp2
            go_roundw
            case rel => exact ⟨k + 1, by omega, by go_num, HO3.out, HNX, hb3⟩
            case measure => simp [intOf]; omega
        · have h6n : (mk != 6) = false := by simp [bne, h6]
          have HTL := Lib.hid (hst2.out h6)
          clear h6 hst2 hnx
          have htl : Hid ((Nc.till a).length = k) := Lib.hid (by rw [HTL.out, List.length_take]; omega)
          go_wp2_with (at_builtin; refine wpList_append_row _ rfl _ _ 22 rfl w.heap.size 42 i0 _ 3 24 Tryd.underlying22 ia ib ic id rfl (by omega) _ _ _ rfl HOW.out B b.length d (b.flatMap mvCells) rfl HRBr.out HLB.out HOB.out ?c3 ?c4 ?c5 ?_)
          case c3 => unfold maxLen; omega
          case c4 => omega
          case c5 => exact HBE.out.size
          · intro v' w3 hown3 hg3
            have hb3 : Below w.heap.size w w3 := below_append HBE.out HBE.out.size HOW.out hg3 (Nat.le_refl _)
            obtain ⟨A3, c3, rfl, hc3⟩ := own_shape hown3
            have HR3 : Hid (Row w3 A3 ((Nc.join a b).flatMap mvCells)) := Lib.hid (by rw [HJ.out, HTL.out, List.flatMap_append]; exact Row.of_own hown3)
            clear hown3 hg3
            by_cases hbig : k + b.length ≤ 2000
            · have hq : Hid (joinR a b = (Nc.join a b, 0)) := Lib.hid (by rw [HE.out, htl.out, if_pos hbig])
              have hjl : Hid ((Nc.join a b).length = k + b.length) := Lib.hid (by rw [HJ.out, List.length_append, htl.out])
              go_wp2
              go_ret2
              rw [hq.out]
              exact ⟨⟨A3, c3, by rw [hjl.out]; exact hc3, by rw [hjl.out]; rfl, HR3.out⟩, hb3⟩
            · have hq : Hid (joinR a b = ([], 9)) := Lib.hid (by rw [HE.out, htl.out, if_neg hbig])
              go_wp2
              go_ret2
              rw [hq.out]
              exact gives_nil rfl hb3
      · obtain rfl : k = a.length := by omega
        have HTL := Lib.hid ((hstop.out (.inl rfl)).trans List.take_length)
        clear hstop hown hbel
        have htl : Hid ((Nc.till a).length = a.length) := Lib.hid (by rw [HTL.out])
        go_wp2_with (at_builtin; refine wpList_append_row _ rfl _ _ 22 rfl w.heap.size 42 i0 _ 3 24 Tryd.underlying22 ia ib ic id rfl (by omega) _ _ _ rfl HOW.out B b.length d (b.flatMap mvCells) rfl HRBr.out HLB.out HOB.out ?c3 ?c4 ?c5 ?_)
        case c3 => unfold maxLen; omega
        case c4 => omega
        case c5 => exact HBE.out.size
        · intro v' w3 hown3 hg3
          have hb3 : Below w.heap.size w w3 := below_append HBE.out HBE.out.size HOW.out hg3 (Nat.le_refl _)
          obtain ⟨A3, c3, rfl, hc3⟩ := own_shape hown3
          have HR3 : Hid (Row w3 A3 ((Nc.join a b).flatMap mvCells)) := Lib.hid (by rw [HJ.out, HTL.out, List.flatMap_append]; exact Row.of_own hown3)
          clear hown3 hg3
          by_cases hbig : a.length + b.length ≤ 2000
          · have hq : Hid (joinR a b = (Nc.join a b, 0)) := Lib.hid (by rw [HE.out, htl.out, if_pos hbig])
            have hjl : Hid ((Nc.join a b).length = a.length + b.length) := Lib.hid (by rw [HJ.out, List.length_append, htl.out])
            go_wp2
            go_ret2
            rw [hq.out]
            exact ⟨⟨A3, c3, by rw [hjl.out]; exact hc3, by rw [hjl.out]; rfl, HR3.out⟩, hb3⟩
          · have hq : Hid (joinR a b = ([], 9)) := Lib.hid (by rw [HE.out, htl.out, if_neg hbig])
            go_wp2
            go_ret2
            rw [hq.out]
            exact gives_nil rfl hb3

/-- The program's shift, whatever the program is. -/
theorem pshift_any (l : List Nc.Mv) (A : Option Addr) (c : Nat) (u v : Int) (w : World) (hr : Row w A (l.flatMap mvCells)) (hl : l.length ≤ 100000) :
    Calls Tryd.prog 11 #[.slice A l.length c, .agg #[.int .i64 u, .int .i64 v]] w (Gives (shiftR l u v) w) := by
  cases hva : Nc.valid l
  · have e : shiftR l u v = ([], 1) := by unfold shiftR; rw [hva]; rfl
    have HV := Lib.hid (fun W h => valid_any l A c W h (by omega))
    rw [hva] at HV
    have HR := Lib.hid (hr.below ((Below.refl w.heap.size w).alloc (Nat.le_refl _) (.cells #[.int .i64 u, .int .i64 v] 24)))
    have HB0 := Lib.hid ((Below.refl w.heap.size w).alloc (Nat.le_refl _) (.cells #[.int .i64 u, .int .i64 v] 24))
    rw [e]
    clear e hva hr
    go_enter Tryd.func11, Tryd.ntmps11
    go_wp2_with fail
    refine (HV.out _ HR.out).mono ?_
    rintro e w1 ⟨rfl, hb1⟩
    go_wp2
    go_ret2
    exact gives_nil rfl (HB0.out.trans (hb1.mono HB0.out.size))
  · refine (shift_any l A c u v w hr hva).mono fun e w' h => ?_
    unfold ShiftOut at h
    unfold shiftR
    rw [hva]
    cases hq : Nc.valid (l.map (wsh u v))
    · rw [hq] at h
      simp only [Bool.false_eq_true, if_false] at h
      exact gives_nil h.1 h.2
    · rw [hq] at h
      simp only [if_true] at h
      obtain ⟨⟨x, he, ho⟩, hb⟩ := h
      obtain ⟨A2, c2, rfl, hc2⟩ := own_shape ho
      exact ⟨⟨A2, c2, hc2, he, Row.of_own ho⟩, hb⟩
theorem pjoin_any (a b : List Nc.Mv) (A B : Option Addr) (c d : Nat) (w : World) (hra : Row w A (a.flatMap mvCells)) (hrb : Row w B (b.flatMap mvCells)) (hla : a.length ≤ 100000) (hlb : b.length ≤ 100000) (hc : a.length ≤ c) :
    Calls Tryd.prog 17 #[.slice A a.length c, .slice B b.length d] w (Gives (joinR a b) w) := by
  cases hva : Nc.valid a
  · have e : joinR a b = ([], 1) := by unfold joinR; rw [hva]; rfl
    have HVA := Lib.hid (fun W h => valid_any a A c W h (by omega))
    rw [hva] at HVA
    have HRA := Lib.hid hra
    rw [e]
    clear e hva hra hrb
    go_enter Tryd.func17, Tryd.ntmps17
    go_wp2_with fail
    refine (HVA.out _ HRA.out).mono ?_
    rintro e w1 ⟨rfl, hb1⟩
    go_wp2
    go_ret2
    exact gives_nil rfl hb1
  cases hvb : Nc.valid b
  · have e : joinR a b = ([], 1) := by unfold joinR; rw [hvb, Bool.and_false]; rfl
    have HVA := Lib.hid (fun W h => valid_any a A c W h (by omega))
    have HVB := Lib.hid (fun W h => valid_any b B d W h (by omega))
    rw [hva] at HVA
    rw [hvb] at HVB
    have HRA := Lib.hid hra
    have HRB := Lib.hid hrb
    rw [e]
    clear e hva hvb hra hrb
    go_enter Tryd.func17, Tryd.ntmps17
    go_wp2_with fail
    refine (HVA.out _ HRA.out).mono ?_
    rintro e w1 ⟨rfl, hb1⟩
    go_wp2_with fail
    refine (HVB.out _ (HRB.out.below hb1)).mono ?_
    rintro e w2 ⟨rfl, hb2⟩
    go_wp2
    go_ret2
    exact gives_nil rfl (hb1.trans (hb2.mono hb1.size))
  · unfold joinR
    rw [hva, hvb]
    by_cases hlen : (Nc.till a).length + b.length ≤ 2000
    · rw [if_pos hlen]
      refine (join_yes a b A B c d w hra hrb hva hvb hc hlen).mono fun e w' h => ?_
      obtain ⟨⟨x, he, ho⟩, hb⟩ := h
      obtain ⟨A2, c2, rfl, hc2⟩ := own_shape ho
      exact ⟨⟨A2, c2, hc2, he, Row.of_own ho⟩, hb⟩
    · rw [if_neg hlen]
      refine (join_no a b A B c d w hra hrb hva hvb (by omega)).mono fun e w' h => ?_
      exact gives_nil h.1 h.2
end Go.Proofs.YtonpbomjjamphaaDoor.NcW
