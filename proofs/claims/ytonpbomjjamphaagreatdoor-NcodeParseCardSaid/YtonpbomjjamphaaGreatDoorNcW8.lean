/- Walks: a program printed, by the program. Conditions: the library's table of powers of ten holds what its text lays; the program lies in memory and has at most a million moves. -/
import Derived.Test.YtonpbomjjamphaaGreatDoorNcW7
import Derived.Test.YtonpbomjjamphaaGreatDoorNcW4
import Derived.Test.YtonpbomjjamphaaGreatDoorNcB
import Derived.Lib.OthersKept
namespace Go.Proofs.YtonpbomjjamphaaGreatDoor.NcW
open Go Go.RowKit Go.Proofs.YtonpbomjjamphaaGreatDoor.Mem

theorem line_len (m : Nc.Mv) (i : Nat) (hi : i ≤ 1000000) (h : Nc.ok m = true) : (Nc.lineOf m i).length ≤ 100 := by
  have hb := Nc.ok_bound h
  have h1 := itoa_len (10 * ((i : Int) + 1)) (by unfold I64; omega)
  have h2 := itoa_len m.x (by unfold I64; omega)
  have h3 := itoa_len m.y (by unfold I64; omega)
  have h4 := Nc.code_len m.k
  unfold Nc.lineOf Nc.number Nc.text
  split
  · simp only [List.length_append, List.length_cons, List.length_nil]; omega
  · simp only [List.length_append, List.length_cons, List.length_nil]; omega
theorem prints_len : ∀ (p : List Nc.Mv) (i : Nat), i + p.length ≤ 1000000 → (∀ m ∈ p, Nc.ok m = true) → (Nc.prints p i).length ≤ 100 * p.length
  | [], _, _, _ => by simp [Nc.prints]
  | m :: r, i, hi, h => by
    simp only [List.length_cons] at hi
    have := line_len m i (by omega) (h m (by simp))
    have := prints_len r (i + 1) (by omega) fun a ha => h a (by simp [ha])
    simp only [Nc.prints, List.length_append, List.length_cons]
    omega
theorem line_text (m : Nc.Mv) (i : Nat) : (ByteArray.mk (Nc.number i).toArray) ++ (ByteArray.mk (Nc.text m).toArray) ++ (ByteArray.mk #[10]) = ⟨(Nc.lineOf m i).toArray⟩ := by
  rw [str_append]
  exact str_append (Nc.number i ++ Nc.text m) [10]
theorem strCells_mk (l : List UInt8) : Lib.strCells ⟨l.toArray⟩ = Lib.byteCells l := by
  simp [Lib.strCells, Lib.byteCells]

theorem byteCells_app (a b : List UInt8) : Lib.byteCells (a ++ b) = Lib.byteCells a ++ Lib.byteCells b := by simp [Lib.byteCells]
theorem isBuilder_below {T e : TypeId} {B b : Nat} {bs : List Value} {w w' : World} (h : Lib.IsBuilder T e B b bs w) (hb : Below w.heap.size w w') : Lib.IsBuilder T e B b bs w' := by
  have hat : ∀ p, Lib.BuilderAt T e B b p bs w → Lib.BuilderAt T e B b p bs w' := by
    rintro p hp
    have hlt := hp.lt
    obtain ⟨hB, v, hbk, hown, hne⟩ := hp
    exact ⟨hB, v, by rw [hb.block b hlt]; exact hbk, own_below hown hb, hne⟩
  exact h.elim (fun x => .inl (hat _ x)) (fun x => .inr (hat _ x))

theorem b_new (w : World) (B : Nat) (hB : B ≤ w.heap.size) : Lib.IsBuilder 60 5 B w.heap.size [] (w.alloc (.cells #[.pointer none, .slice none 0 0] 60)) :=
  .inl ⟨hB, .slice none 0 0, heap_alloc_new w _, World.ownsRow_nil _ _ _ _, by simp [Value.ownBlock]⟩
theorem print_take (l : List Nc.Mv) (k : Nat) (h : k < l.length) : Nc.print (l.take (k + 1)) = Nc.print (l.take k) ++ Nc.lineOf l[k] k := by
  rw [take_snoc' l k h, Nc.print_snoc, List.length_take, Nat.min_eq_left (by omega)]

set_option maxRecDepth 100000 in
set_option maxHeartbeats 1000000 in
theorem print_any (l : List Nc.Mv) (A : Option Addr) (c : Nat) (w : World) (hL : Laid w) (hr : Row w A (l.flatMap mvCells)) (hv : Nc.valid l = true) :
    Calls Tryz.prog 9 #[.slice A l.length c] w fun e w' => e = .returned (.tuple #[.string ⟨(Nc.print l).toArray⟩, .int .i64 0]) ∧ Below w.heap.size w w' := by
  have hlen := Nc.valid_len hv
  have HV := Lib.hid (fun W h => valid_any l A c W h (by omega))
  rw [hv] at HV
  have HOK := Lib.hid (fun m (hm : m ∈ l) => Nc.valid_ok hv hm)
  have HR := Lib.hid hr
  have HL := Lib.hid hL
  clear hr hv hL
  go_enter Tryz.func9, Tryz.ntmps9
  go_wp2_with fail
  refine (HV.out _ HR.out).mono ?_
  rintro e w1 ⟨rfl, hb1⟩
  have hbn := b_new w1 w.heap.size hb1.size
  have hb2 := hb1.alloc hb1.size (.cells #[.pointer none, .slice none 0 0] 60)
  have hbw := hb1.size
  generalize hbb : w1.heap.size = b at *
  go_wp2
  go_loopw [12] (fun t wr => ∃ k : Nat, k ≤ l.length ∧ t = .int .i64 k ∧ Lib.IsBuilder 60 5 w.heap.size b (Lib.byteCells (Nc.print (l.take k))) wr ∧ Below w.heap.size w wr) (fun t _ => l.length - (intOf t).toNat)
  case atStart => exact ⟨0, Nat.zero_le _, rfl, hbn, hb2⟩
  case round =>
    obtain ⟨k, hk, rfl, hB, hbel⟩ := hrel
    clear hbn hb2 hb1
    by_cases hlt : k < l.length
    · obtain ⟨g, off, rfl, hg, ca⟩ := row_get mv_len (by decide) HR.out (by omega)
      have a0 := (hbel.cell (p := ⟨g, _, none⟩) hg).trans (ca k hlt 0 (by decide))
      have a1 := (hbel.cell (p := ⟨g, _, none⟩) hg).trans (ca k hlt 1 (by decide))
      have a2 := (hbel.cell (p := ⟨g, _, none⟩) hg).trans (ca k hlt 2 (by decide))
      have hok := HOK.out l[k] (List.getElem_mem hlt)
      have hts := print_take l k hlt
      have hp := prints_len (l.take k) 0 (by simp; omega) fun m hm => HOK.out m (List.mem_of_mem_take hm)
      have hpl : (Nc.print (l.take k)).length ≤ 200000 := by
        have h9 : (l.take k).length ≤ 2000 := by simp; omega
        unfold Nc.print
        omega
      clear ca hp
      generalize l[k] = m at *
      generalize Nc.print (l.take k) = acc at *
      obtain ⟨mk, mx, my⟩ := m
      simp only [mvCells, List.getElem?_cons_zero, List.getElem?_cons_succ, Nat.add_zero] at a0 a1 a2
      have hbnd := Nc.ok_bound hok
      have HN := Lib.hid (fun W (h : Laid W) => number_any k W h (by omega))
      have HT := Lib.hid (fun W (h : Laid W) => text_any ⟨mk, mx, my⟩ W h (Nc.ok_kind hok) (fun _ => by unfold I64; simp only at hbnd ⊢; omega))
      have hll := line_len ⟨mk, mx, my⟩ k (by omega) hok
      have hst := Lib.hid (line_text ⟨mk, mx, my⟩ k)
      have hst2 := Lib.hid (strCells_mk (Nc.lineOf ⟨mk, mx, my⟩ k))
      generalize Nc.lineOf ⟨mk, mx, my⟩ k = ln at *
      rw [← str_size] at hll
      have hll2 := Lib.hid hll
      rw [← hst.out, ByteArray.size_append, ByteArray.size_append] at hll
      generalize (ByteArray.mk (Nc.number k).toArray) = NB at *
      generalize (ByteArray.mk (Nc.text ⟨mk, mx, my⟩).toArray) = TB at *
      have n1 : (9223372036854775807 < NB.size + TB.size) = False := eq_false (by omega)
      have n2 : (9223372036854775807 < NB.size + TB.size + 1) = False := eq_false (by omega)
      have n3 : (9223372036854775807 < (NB ++ TB).size + 1) = False := eq_false (by rw [ByteArray.size_append]; omega)
      have HTS := Lib.hid hts
      have HL1 := Lib.hid (HL.out.below hbel)
      have hB0 : Lib.IsBuilder 60 5 w.heap.size b (Lib.byteCells acc) (wr.alloc (.cells #[.int .i64 mk, .int .i64 mx, .int .i64 my] 38)) := isBuilder_below hB ((Below.refl _ _).alloc (Nat.le_refl _) _)
      have HB0 := Lib.hid hB0
      have HBE := Lib.hid (hbel.alloc hbel.size (.cells #[.int .i64 mk, .int .i64 mx, .int .i64 my] 38))
      have HLA := Lib.hid (HL1.out.below ((Below.refl _ _).alloc (Nat.le_refl _) (.cells #[.int .i64 mk, .int .i64 mx, .int .i64 my] 38)))
      have HQ := Lib.hid (cells_new3 wr (.int .i64 mk) (.int .i64 mx) (.int .i64 my) 38)
      have HLB : Hid ((Lib.byteCells acc).length + (NB ++ TB ++ ByteArray.mk #[10]).size ≤ 140737488355328) := Lib.hid (by
        have : (Lib.byteCells acc).length = acc.length := by simp [Lib.byteCells]
        have : (ByteArray.mk #[10]).size = 1 := rfl
        rw [ByteArray.size_append, ByteArray.size_append]; omega)
      clear hts hll hbnd hok hB hB0 hbel
      go_wp2
      generalize wr.alloc (.cells #[.int .i64 mk, .int .i64 mx, .int .i64 my] 38) = W0 at *
      obtain ⟨q0, q1, q2, qz⟩ := HQ.out
      go_region_with (first
        | (go_at_call 13; refine (HN.out _ (HLA.out.below (below_drew (Below.refl _ _)))).mono ?_; rintro e w4 ⟨rfl, hb4⟩; have r0 := (hb4.cell (p := ⟨wr.heap.size, 0, none⟩) qz).trans q0; have r1 := (hb4.cell (p := ⟨wr.heap.size, 1, none⟩) qz).trans q1; have r2 := (hb4.cell (p := ⟨wr.heap.size, 2, none⟩) qz).trans q2)
        | (go_at_call 18; refine (HT.out _ ((HLA.out.below (below_drew (Below.refl _ _))).below hb4)).mono ?_; rintro e w5 ⟨rfl, hb5⟩; have HW := isBuilder_below (isBuilder_below (isBuilder_below HB0.out (below_drew (Below.refl _ _))) hb4) hb5; have HWB := ((HBE.out.trans ((below_drew (Below.refl _ W0)).mono HBE.out.size)).trans (hb4.mono (by have := HBE.out.size; exact this))).trans (hb5.mono (Nat.le_trans HBE.out.size hb4.size)))
        | (go_at_call 17; refine (writeString_any w.heap.size b _ _ _ HW HLB.out HWB.size).mono ?_; rintro e w6 ⟨rfl, hB6, hb6⟩))
      all_goals (
        have hB7 : Lib.IsBuilder 60 5 w.heap.size b (Lib.byteCells (Nc.print (l.take (k + 1)))) w6 := by
          rw [hst.out, hst2.out, ← byteCells_app, ← HTS.out] at hB6
          exact .inr hB6
        have hb7 := HWB.trans (hb6.mono (Nat.le_refl _))
        clear hB6 hb6 HW HWB hb4 hb5 r0 r1 r2 q0 q1 q2
        go_wp2
        go_roundw
        case rel => exact ⟨k + 1, by omega, by go_num, hB7, hb7⟩
        case measure => simp [intOf]; omega)
    · obtain rfl : k = l.length := by omega
      rw [List.take_length] at hB
      go_wp2_with fail
      refine (Tryz.Builder_String_any w.heap.size b _ _ hB hbel.size).mono ?_
      rintro e w2 ⟨rfl, hb2⟩
      go_wp2
      go_ret2
      exact ⟨rfl, hbel.trans hb2⟩
end Go.Proofs.YtonpbomjjamphaaGreatDoor.NcW
