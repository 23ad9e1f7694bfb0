/- Walks: a demand as the reference has it; the quantity of a part. Conditions: the demand lies in memory and has at most a million parts. -/
import Derived.Test.YteldekkodhfkkaaOdN
namespace Go.Proofs.Yteldekkodhfkkaa.OdW
open Go Go.RowKit Go.Proofs.Yteldekkodhfkkaa.Mem

theorem info_rneed : (Try.prog.info? 42).map (fun i => (i.zero, i.size, i.bytes)) = some (some (.agg #[.string ByteArray.empty, .int .i64 0]), 2, 24) := by kernel_rfl
set_option maxRecDepth 100000 in
set_option maxHeartbeats 1000000 in
theorem theirs_any (l : List Nd) (A : Option Addr) (c : Nat) (w : World) (hr : Row w A (l.flatMap ndCells)) (hl : l.length ≤ 1000000) :
    Calls Try.prog 17 #[.slice A l.length c] w fun e w' => ∃ (B : Option Addr) (d : Nat), e = .returned (.slice B l.length d) ∧ Row w' B (l.flatMap ndCells) ∧ Below w.heap.size w w' := by
  have HR := Lib.hid hr
  clear hr
  obtain ⟨i0, ia, ib, ic, id⟩ := info_parts info_rneed
  go_enter Try.func17, Try.ntmps17
  go_wp2
  go_loopw [3, 4] (fun v t wr => ∃ k : Nat, k ≤ l.length ∧ t = .int .i64 k ∧ wr.ownsRow w.heap.size 42 2 v k ((l.take k).flatMap ndCells) ∧ Below w.heap.size w wr) (fun _ t _ => l.length - (intOf t).toNat)
  case atStart => exact ⟨0, Nat.zero_le _, rfl, World.ownsRow_nil _ _ _ _, Below.refl _ _⟩
  case round =>
    obtain ⟨k, hk, rfl, hown, hbel⟩ := hrel
    by_cases hlt : k < l.length
    · obtain ⟨g, off, rfl, hg, ca⟩ := row_get nd_len (by decide) HR.out (by omega)
      have a0 := (hbel.cell (p := ⟨g, _, none⟩) hg).trans (ca k hlt 0 (by decide))
      have a1 := (hbel.cell (p := ⟨g, _, none⟩) hg).trans (ca k hlt 1 (by decide))
      have hts := Lib.hid (flatMap_take ndCells l k hlt)
      clear ca
      generalize l[k] = m at *
      obtain ⟨mp, mq⟩ := m
      simp only [ndCells, List.getElem?_cons_zero, List.getElem?_cons_succ, Nat.add_zero] at a0 a1 hts
      have hz0 := hbel.size
      generalize (ByteArray.mk mp.toArray) = PB at *
      go_wp2_with (at_builtin; refine wpList_append_own _ rfl _ _ 30 rfl w.heap.size 42 i0 _ 2 24 Try.underlying30 ia ib ic id rfl (by omega) _ _ _ rfl (hown.alloc _) ⟨wr.heap.size, 0, none⟩ 1 1 [.string PB, .int .i64 mq] rfl rfl ?c1 ?c2 ?c3 ?c4 ?c5 ?_)
      case c1 => exact cells_newl2 wr _ _ _
      case c2 => intro u hu; simp at hu; rcases hu with rfl | rfl <;> rfl
      case c3 => unfold maxLen; omega
      case c4 => omega
      case c5 => simp; omega
      · intro v' w2 hown2 hg2 _
        have hb2 : Below w.heap.size w w2 := below_append (hbel.alloc (by omega) _) (by simp; omega) (hown.alloc _) hg2 (Nat.le_refl _)
        have HO2 : Hid (w2.ownsRow w.heap.size 42 2 v' (k + 1) ((l.take (k + 1)).flatMap ndCells)) := Lib.hid (by rw [hts.out]; exact hown2)
        clear hg2 hown2 hbel hown a0 a1
        go_wp2
        go_roundw
        case rel => exact ⟨k + 1, by omega, by go_num, HO2.out, hb2⟩
        case measure => simp [intOf]; omega
    · obtain rfl : k = l.length := by omega
      have htk := Lib.hid (show l.take l.length = l from List.take_length)
      rw [htk.out] at hown
      have HO := Lib.hid hown
      clear hown
      obtain ⟨B, d, rfl, _⟩ := own_shape HO.out
      go_wp2
      go_ret
      exact ⟨B, d, rfl, Row.of_own HO.out, hbel⟩

/-- The quantity of a part. -/
def of : List Nd → List UInt8 → Int
  | [], _ => 0
  | x :: r, p => if x.1 = p then x.2 else of r p
theorem of_drop {l : List Nd} {p : List UInt8} (k : Nat) (h : k < l.length) : of (l.drop k) p = if l[k].1 = p then l[k].2 else of (l.drop (k + 1)) p := by
  rw [List.drop_eq_getElem_cons h]
  rfl
set_option maxRecDepth 100000 in
set_option maxHeartbeats 1000000 in
theorem of_any (l : List Nd) (p : List UInt8) (A : Option Addr) (c : Nat) (w : World) (hr : Row w A (l.flatMap ndCells)) (hl : l.length ≤ 1000000) :
    Calls Try.prog 22 #[.slice A l.length c, .string ⟨p.toArray⟩] w (Returns w (.int .i64 (of l p))) := by
  have HR := Lib.hid hr
  clear hr
  have hz := Lib.hid (show of (l.drop 0) p = of l p from rfl)
  have hE : ∀ x : List UInt8, ((ByteArray.mk x.toArray).toList == (ByteArray.mk p.toArray).toList) = decide (x = p) := fun x => text_eq x p
  generalize hX : of l p = X at *
  go_enter Try.func22, Try.ntmps22
  go_wp2
  go_loop [5] (fun t => ∃ k : Nat, k ≤ l.length ∧ t = .int .i64 k ∧ Hid (of (l.drop k) p = X)) (fun t => l.length - (intOf t).toNat)
  case atStart => exact ⟨0, Nat.zero_le _, rfl, hz⟩
  case round =>
    obtain ⟨k, hk, rfl, hd⟩ := hrel
    by_cases hlt : k < l.length
    · obtain ⟨g, off, rfl, hg, ca⟩ := row_get nd_len (by decide) HR.out (by omega)
      have a0 := ca k hlt 0 (by decide)
      have a1 := ca k hlt 1 (by decide)
      have hs := Lib.hid (of_drop (p := p) k hlt)
      clear ca
      generalize l[k] = m at *
      obtain ⟨mp, mq⟩ := m
      simp only [ndCells, List.getElem?_cons_zero, List.getElem?_cons_succ, Nat.add_zero] at a0 a1 hs
      have hm := hE mp
      clear hE
      by_cases hmp : mp = p
      · rw [decide_eq_true hmp] at hm
        rw [if_pos hmp] at hs
        have hq := Lib.hid (hd.out.symm.trans hs.out)
        clear hmp hd hs
        generalize (ByteArray.mk mp.toArray) = MB at *
        generalize (ByteArray.mk p.toArray) = PB at *
        go_wp2
        go_ret
        rw [hq.out]
        exact ⟨rfl, rfl⟩
      · rw [decide_eq_false hmp] at hm
        rw [if_neg hmp] at hs
        have hq := Lib.hid (hs.out.symm.trans hd.out)
        clear hmp hd hs
        generalize (ByteArray.mk mp.toArray) = MB at *
        generalize (ByteArray.mk p.toArray) = PB at *
        go_wp2
        go_round
        case rel => exact ⟨k + 1, by omega, by go_num, hq⟩
        case measure => simp [intOf]; omega
    · obtain rfl : k = l.length := by omega
      have h0 : X = 0 := by
        rw [← hd.out, List.drop_length]
        rfl
      have H0 := Lib.hid h0
      clear h0 hd hX
      go_wp2
      go_ret
      rw [H0.out]
      exact ⟨rfl, rfl⟩
end Go.Proofs.Yteldekkodhfkkaa.OdW
