/- Walks: the items that are due before a time, of the program and of the reference. Conditions: the list lies in memory; its texts are short. -/
import Derived.Test.YteldekkodhfkkaaOdQ1
import Derived.OwnWalk
namespace Go.Proofs.Yteldekkodhfkkaa.OdW
open Go Go.RowKit Go.Proofs.Yteldekkodhfkkaa.Mem

def isLate (l : List Od.It) (now : Int) (x : Od.It) : Bool := Od.valid l && decide (x.d < now)
def late (l : List Od.It) (now : Int) : List Od.It := l.filter (isLate l now)
def lateK (l : List Od.It) (now : Int) (k : Nat) : List Od.It := (l.take k).filter (isLate l now)
theorem lateK_len (l : List Od.It) (now : Int) (k : Nat) : (lateK l now k).length ≤ k := by
  unfold lateK
  have := List.length_filter_le (isLate l now) (l.take k)
  rw [List.length_take] at this
  omega
theorem lateK_yes {l : List Od.It} {now : Int} {k : Nat} (h : k < l.length) (hp : isLate l now l[k] = true) : lateK l now (k + 1) = lateK l now k ++ [l[k]] := by
  unfold lateK
  rw [take_snoc' l k h, List.filter_append, List.filter_cons, if_pos hp]
  rfl
theorem lateK_no {l : List Od.It} {now : Int} {k : Nat} (h : k < l.length) (hp : isLate l now l[k] = false) : lateK l now (k + 1) = lateK l now k := by
  unfold lateK
  rw [take_snoc' l k h, List.filter_append, List.filter_cons, if_neg (by rw [hp]; simp)]
  simp
theorem lateK_all (l : List Od.It) (now : Int) : lateK l now l.length = late l now := by
  unfold lateK late
  rw [List.take_length]
theorem late_none {l : List Od.It} (h : Od.valid l = false) (now : Int) : late l now = [] := by
  unfold late isLate
  rw [h]
  simp

set_option maxRecDepth 100000 in
set_option maxHeartbeats 2000000 in
theorem late_any (l : List Od.It) (now : Int) (A : Option Addr) (c : Nat) (w : World) (hr : Row w A (l.flatMap itCells)) (hl : l.length ≤ 1000000) (hsh : ∀ m ∈ l, Od.Short m) :
    Calls Try.prog 24 #[.slice A l.length c, .int .i64 now] w fun e w' => ∃ (B : Option Addr) (d : Nat), e = .returned (.slice B (late l now).length d) ∧ Row w' B ((late l now).flatMap itCells) ∧ Below w.heap.size w w' := by
  have HR := Lib.hid hr
  clear hr
  obtain ⟨i0, ia, ib, ic, id⟩ := info_parts info_item
  have HV := Lib.hid (fun W h => valid_any l A c W h hl hsh)
  go_enter Try.func24, Try.ntmps24
  go_wp2
  go_loopw [5, 10] (fun v t wr => ∃ k : Nat, k ≤ l.length ∧ t = .int .i64 k ∧ wr.ownsRow w.heap.size 36 4 v (lateK l now k).length ((lateK l now k).flatMap itCells) ∧ Below w.heap.size w wr) (fun _ t _ => l.length - (intOf t).toNat)
  case atStart => exact ⟨0, Nat.zero_le _, rfl, World.ownsRow_nil _ _ _ _, Below.refl _ _⟩
  case round =>
    obtain ⟨k, hk, rfl, hown, hbel⟩ := hrel
    by_cases hlt : k < l.length
    · by_cases hd : l[k].d < now
      · have hIL : isLate l now l[k] = Od.valid l := by unfold isLate; rw [decide_eq_true hd, Bool.and_true]
        cases hv : Od.valid l
        · rw [hv] at HV hIL
          have HY := Lib.hid (lateK_no hlt hIL)
          clear hv hIL
          obtain ⟨g, off, rfl, hg, ca⟩ := row_get it_len (by decide) (HR.out.below hbel) (by omega)
          have a0 := ca k hlt 0 (by decide)
          have a1 := ca k hlt 1 (by decide)
          have a2 := ca k hlt 2 (by decide)
          have a3 := ca k hlt 3 (by decide)
          clear ca
          generalize hM : l[k] = m at *
          simp only [itCells, List.getElem?_cons_zero, List.getElem?_cons_succ, Nat.add_zero] at a0 a1 a2 a3
          generalize hOB : (ByteArray.mk m.o.toArray) = OB at *
          generalize hPB : (ByteArray.mk m.p.toArray) = PB at *
          generalize hMQ : m.q = mq at *
          generalize hMD : m.d = md at *
          have HCELL : Hid (itCells m = [.string OB, .string PB, .int .i64 mq, .int .i64 md]) := Lib.hid (by unfold itCells; rw [hOB, hPB, hMQ, hMD])
          clear hM hOB hPB hMQ hMD
          go_wp2_with fail
          refine (HV.out _ (Row.below (HR.out.below hbel) (bel1 _ _))).mono ?_
          rintro e w2 ⟨rfl, hb⟩
          have hb2 := (hbel.alloc hbel.size _).trans (hb.mono (hbel.alloc hbel.size _).size)
          have HO2 := Lib.hid (own_below (hown.alloc _) hb)
          clear hb hbel hown a0 a1 a2 a3
          go_wp2
          go_roundw
          case rel => exact ⟨k + 1, by omega, by go_num, by rw [HY.out]; exact HO2.out, hb2⟩
          case measure => simp [intOf]; omega
        · rw [hv] at HV hIL
          have HY := Lib.hid (lateK_yes hlt hIL)
          clear hv hIL
          obtain ⟨g, off, rfl, hg, ca⟩ := row_get it_len (by decide) (HR.out.below hbel) (by omega)
          have a0 := ca k hlt 0 (by decide)
          have a1 := ca k hlt 1 (by decide)
          have a2 := ca k hlt 2 (by decide)
          have a3 := ca k hlt 3 (by decide)
          clear ca
          generalize hM : l[k] = m at *
          simp only [itCells, List.getElem?_cons_zero, List.getElem?_cons_succ, Nat.add_zero] at a0 a1 a2 a3
          generalize hOB : (ByteArray.mk m.o.toArray) = OB at *
          generalize hPB : (ByteArray.mk m.p.toArray) = PB at *
          generalize hMQ : m.q = mq at *
          generalize hMD : m.d = md at *
          have HCELL : Hid (itCells m = [.string OB, .string PB, .int .i64 mq, .int .i64 md]) := Lib.hid (by unfold itCells; rw [hOB, hPB, hMQ, hMD])
          clear hM hOB hPB hMQ hMD
          go_wp2_with fail
          refine (HV.out _ (Row.below (HR.out.below hbel) (bel1 _ _))).mono ?_
          rintro e w2 ⟨rfl, hb⟩
          have hb2 := (hbel.alloc hbel.size _).trans (hb.mono (hbel.alloc hbel.size _).size)
          have HO2 := Lib.hid (own_below (hown.alloc _) hb)
          have hx := Lib.hid hb
          have n0 : w2.cell? ⟨wr.heap.size, 0, none⟩ = some (.string OB) := (hb.cell (p := ⟨wr.heap.size, 0, none⟩) (by simp)).trans (by simp)
          have n1 : w2.cell? ⟨wr.heap.size, 1, none⟩ = some (.string PB) := (hb.cell (p := ⟨wr.heap.size, 1, none⟩) (by simp)).trans (by simp)
          have n2 : w2.cell? ⟨wr.heap.size, 2, none⟩ = some (.int .i64 mq) := (hb.cell (p := ⟨wr.heap.size, 2, none⟩) (by simp)).trans (by simp)
          have n3 : w2.cell? ⟨wr.heap.size, 3, none⟩ = some (.int .i64 md) := (hb.cell (p := ⟨wr.heap.size, 3, none⟩) (by simp)).trans (by simp)
          clear hb
          have C1 := Lib.hid (cells_new4 w2 (.string OB) (.string PB) (.int .i64 mq) (.int .i64 md) 36)
          have C2 : Hid (∀ u ∈ [Value.string OB, .string PB, .int .i64 mq, .int .i64 md], u.oneCell' = true) := Lib.hid (by intro u hu; simp at hu; rcases hu with rfl | rfl | rfl | rfl <;> rfl)
          have C3 : Hid ((lateK l now k).length + 1 ≤ maxLen ∧ ((lateK l now k).length + 1) * 48 ≤ 140737488355328) := Lib.hid (by have := lateK_len l now k; unfold maxLen; omega)
          have C5 : Hid (w.heap.size ≤ (w2.alloc (.cells #[.string OB, .string PB, .int .i64 mq, .int .i64 md] 36)).heap.size) := Lib.hid (by have := hb2.size; simp; omega)
          have HOW := Lib.hid (HO2.out.alloc (.cells #[.string OB, .string PB, .int .i64 mq, .int .i64 md] 36))
          have HBW := Lib.hid (hb2.alloc hb2.size (.cells #[.string OB, .string PB, .int .i64 mq, .int .i64 md] 36))
          go_wp2_with (at_builtin; refine wpList_append_own _ rfl _ _ 22 rfl w.heap.size 36 i0 _ 4 48 Try.underlying22 ia ib ic id rfl (by omega) _ _ _ rfl HOW.out ⟨w2.heap.size, 0, none⟩ 1 1 [.string OB, .string PB, .int .i64 mq, .int .i64 md] rfl rfl C1.out C2.out C3.out.1 C3.out.2 C5.out ?_)
          intro v' w4 hown4 hg4 _
          have hb4 : Below w.heap.size w w4 := below_append HBW.out C5.out HOW.out hg4 (Nat.le_refl _)
          have HO4 : Hid (w4.ownsRow w.heap.size 36 4 v' (lateK l now (k + 1)).length ((lateK l now (k + 1)).flatMap itCells)) := Lib.hid (by
            rw [HY.out, flatMap_snoc, HCELL.out, List.length_append]
            exact hown4)
          clear hg4 hown4 a0 a1 a2 a3
          go_wp2
          go_roundw
          case rel => exact ⟨k + 1, by omega, by go_num, HO4.out, hb4⟩
          case measure => simp [intOf]; omega
      · have HY := Lib.hid (lateK_no (l := l) (now := now) hlt (by unfold isLate; rw [decide_eq_false hd, Bool.and_false]))
        obtain ⟨g, off, rfl, hg, ca⟩ := row_get it_len (by decide) (HR.out.below hbel) (by omega)
        have a0 := ca k hlt 0 (by decide)
        have a1 := ca k hlt 1 (by decide)
        have a2 := ca k hlt 2 (by decide)
        have a3 := ca k hlt 3 (by decide)
        clear ca
        generalize hM : l[k] = m at *
        simp only [itCells, List.getElem?_cons_zero, List.getElem?_cons_succ, Nat.add_zero] at a0 a1 a2 a3
        generalize hOB : (ByteArray.mk m.o.toArray) = OB at *
        generalize hPB : (ByteArray.mk m.p.toArray) = PB at *
        generalize hMQ : m.q = mq at *
        generalize hMD : m.d = md at *
        have HCELL : Hid (itCells m = [.string OB, .string PB, .int .i64 mq, .int .i64 md]) := Lib.hid (by unfold itCells; rw [hOB, hPB, hMQ, hMD])
        clear hM hOB hPB hMQ hMD
        go_wp2_with fail
        go_roundw
        case rel => exact ⟨k + 1, by omega, by go_num, by rw [HY.out]; exact hown.alloc _, hbel.alloc hbel.size _⟩
        case measure => simp [intOf]; omega
    ·
      obtain rfl : k = l.length := by omega
      rw [lateK_all] at hown
      have HO := Lib.hid hown
      clear hown
      obtain ⟨B, d, rfl, _⟩ := own_shape HO.out
      go_wp2_with fail
      go_ret
      exact ⟨B, d, rfl, Row.of_own HO.out, hbel⟩

set_option maxRecDepth 100000 in
set_option maxHeartbeats 2000000 in
theorem rlate_any (l : List Od.It) (now : Int) (A : Option Addr) (c : Nat) (w : World) (hr : Row w A (l.flatMap itCells)) (hl : l.length ≤ 1000000) (hsh : ∀ m ∈ l, Od.Short m) :
    Calls Try.prog 25 #[.slice A l.length c, .int .i64 now] w fun e w' => ∃ (B : Option Addr) (d : Nat), e = .returned (.slice B (late l now).length d) ∧ Row w' B ((late l now).flatMap itCells) ∧ Below w.heap.size w w' := by
  have HR := Lib.hid hr
  clear hr
  obtain ⟨i0, ia, ib, ic, id⟩ := info_parts info_item
  have HV := Lib.hid (fun W h => rvalid_any l A c W h hl hsh)
  cases hv : Od.valid l
  · rw [hv] at HV
    have HN := Lib.hid (late_none hv now)
    clear hv
    go_enter Try.func25, Try.ntmps25
    go_wp2
    go_loopw [5, 6] (fun v t wr => v = .slice none 0 0 ∧ t = .int .i64 (0 : Nat) ∧ Below w.heap.size w wr) (fun _ _ _ => 0)
    case atStart => exact ⟨rfl, rfl, Below.refl _ _⟩
    case round =>
      obtain ⟨rfl, rfl, hbel⟩ := hrel
      by_cases hlt : 0 < l.length
      · go_wp2_with fail
        refine (HV.out _ (HR.out.below hbel)).mono ?_
        rintro e w2 ⟨rfl, hb⟩
        have HB2 := Lib.hid (hbel.trans (hb.mono hbel.size))
        clear hb hbel
        go_wp2_with fail
        go_ret
        rw [HN.out]
        exact ⟨none, 0, rfl, Row.nil _ _, HB2.out⟩
      · have h0 : (l.length : Int) = 0 := by omega
        have HB2 := Lib.hid hbel
        clear hbel
        go_wp2_with fail
        go_ret
        rw [HN.out]
        exact ⟨none, 0, rfl, Row.nil _ _, HB2.out⟩
  · rw [hv] at HV
    have hIL := Lib.hid (fun x => show isLate l now x = decide (x.d < now) by unfold isLate; rw [hv, Bool.true_and])
    clear hv
    go_enter Try.func25, Try.ntmps25
    go_wp2
    go_loopw [5, 6] (fun v t wr => ∃ k : Nat, k ≤ l.length ∧ t = .int .i64 k ∧ wr.ownsRow w.heap.size 36 4 v (lateK l now k).length ((lateK l now k).flatMap itCells) ∧ Below w.heap.size w wr) (fun _ t _ => l.length - (intOf t).toNat)
    case atStart => exact ⟨0, Nat.zero_le _, rfl, World.ownsRow_nil _ _ _ _, Below.refl _ _⟩
    case round =>
      obtain ⟨k, hk, rfl, hown, hbel⟩ := hrel
      by_cases hlt : k < l.length
      · go_wp2_with fail
        refine (HV.out _ (HR.out.below hbel)).mono ?_
        rintro e w2 ⟨rfl, hb⟩
        have hb2 := hbel.trans (hb.mono hbel.size)
        have HO2 := Lib.hid (own_below hown hb)
        clear hb hbel hown
        by_cases hd : l[k].d < now
        · have HY := Lib.hid (lateK_yes (l := l) (now := now) hlt (by rw [hIL.out, decide_eq_true hd]))
          obtain ⟨g, off, rfl, hg, ca⟩ := row_get it_len (by decide) (HR.out.below hb2) (by omega)
          have a0 := ca k hlt 0 (by decide)
          have a1 := ca k hlt 1 (by decide)
          have a2 := ca k hlt 2 (by decide)
          have a3 := ca k hlt 3 (by decide)
          clear ca
          generalize hM : l[k] = m at *
          simp only [itCells, List.getElem?_cons_zero, List.getElem?_cons_succ, Nat.add_zero] at a0 a1 a2 a3
          generalize hOB : (ByteArray.mk m.o.toArray) = OB at *
          generalize hPB : (ByteArray.mk m.p.toArray) = PB at *
          generalize hMQ : m.q = mq at *
          generalize hMD : m.d = md at *
          have HCELL : Hid (itCells m = [.string OB, .string PB, .int .i64 mq, .int .i64 md]) := Lib.hid (by unfold itCells; rw [hOB, hPB, hMQ, hMD])
          clear hM hOB hPB hMQ hMD
          have C1 := Lib.hid (cells_new4 w2 (.string OB) (.string PB) (.int .i64 mq) (.int .i64 md) 36)
          have C2 : Hid (∀ u ∈ [Value.string OB, .string PB, .int .i64 mq, .int .i64 md], u.oneCell' = true) := Lib.hid (by intro u hu; simp at hu; rcases hu with rfl | rfl | rfl | rfl <;> rfl)
          have C3 : Hid ((lateK l now k).length + 1 ≤ maxLen ∧ ((lateK l now k).length + 1) * 48 ≤ 140737488355328) := Lib.hid (by have := lateK_len l now k; unfold maxLen; omega)
          have C5 : Hid (w.heap.size ≤ (w2.alloc (.cells #[.string OB, .string PB, .int .i64 mq, .int .i64 md] 36)).heap.size) := Lib.hid (by have := hb2.size; simp; omega)
          have HOW := Lib.hid (HO2.out.alloc (.cells #[.string OB, .string PB, .int .i64 mq, .int .i64 md] 36))
          have HBW := Lib.hid (hb2.alloc hb2.size (.cells #[.string OB, .string PB, .int .i64 mq, .int .i64 md] 36))
          go_wp2_with (at_builtin; refine wpList_append_own _ rfl _ _ 22 rfl w.heap.size 36 i0 _ 4 48 Try.underlying22 ia ib ic id rfl (by omega) _ _ _ rfl HOW.out ⟨w2.heap.size, 0, none⟩ 1 1 [.string OB, .string PB, .int .i64 mq, .int .i64 md] rfl rfl C1.out C2.out C3.out.1 C3.out.2 C5.out ?_)
          intro v' w4 hown4 hg4 _
          have hb4 : Below w.heap.size w w4 := below_append HBW.out C5.out HOW.out hg4 (Nat.le_refl _)
          have HO4 : Hid (w4.ownsRow w.heap.size 36 4 v' (lateK l now (k + 1)).length ((lateK l now (k + 1)).flatMap itCells)) := Lib.hid (by
            rw [HY.out, flatMap_snoc, HCELL.out, List.length_append]
            exact hown4)
          clear hg4 hown4 a0 a1 a2 a3
          go_wp2
          go_roundw
          case rel => exact ⟨k + 1, by omega, by go_num, HO4.out, hb4⟩
          case measure => simp [intOf]; omega
        · have HY := Lib.hid (lateK_no (l := l) (now := now) hlt (by rw [hIL.out, decide_eq_false hd]))
          obtain ⟨g, off, rfl, hg, ca⟩ := row_get it_len (by decide) (HR.out.below hb2) (by omega)
          have a0 := ca k hlt 0 (by decide)
          have a1 := ca k hlt 1 (by decide)
          have a2 := ca k hlt 2 (by decide)
          have a3 := ca k hlt 3 (by decide)
          clear ca
          generalize hM : l[k] = m at *
          simp only [itCells, List.getElem?_cons_zero, List.getElem?_cons_succ, Nat.add_zero] at a0 a1 a2 a3
          generalize hOB : (ByteArray.mk m.o.toArray) = OB at *
          generalize hPB : (ByteArray.mk m.p.toArray) = PB at *
          generalize hMQ : m.q = mq at *
          generalize hMD : m.d = md at *
          have HCELL : Hid (itCells m = [.string OB, .string PB, .int .i64 mq, .int .i64 md]) := Lib.hid (by unfold itCells; rw [hOB, hPB, hMQ, hMD])
          clear hM hOB hPB hMQ hMD
          go_wp2_with fail
          go_roundw
          case rel => exact ⟨k + 1, by omega, by go_num, by rw [HY.out]; exact HO2.out, hb2⟩
          case measure => simp [intOf]; omega
      ·
        obtain rfl : k = l.length := by omega
        rw [lateK_all] at hown
        have HO := Lib.hid hown
        clear hown
        obtain ⟨B, d, rfl, _⟩ := own_shape HO.out
        go_wp2_with fail
        go_ret
        exact ⟨B, d, rfl, Row.of_own HO.out, hbel⟩
end Go.Proofs.Yteldekkodhfkkaa.OdW
