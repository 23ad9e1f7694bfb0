/- Walks: the program's skip and number. Conditions: the reader lies in memory; the library's variables hold what a start lays. -/
import Derived.Test.YtjjohllfidmkjaaDoorPfG
import Derived.Test.YtjjohllfidmkjaaDoorPfE
import Derived.OneCell
import Derived.Outline
namespace Go.Proofs.YtjjohllfidmkjaaDoor.PfW
open Go Go.RowKit Go.Proofs.YtjjohllfidmkjaaDoor.Mem Go.Proofs.YtjjohllfidmkjaaDoor.Pf
attribute [local go_sem ↓] Go.wp_at_zero Go.wp_at_succ

/-- The reader as an object. -/
def rdO (s : List UInt8) (n : Nat) : Obj := .cells #[.string ⟨s.toArray⟩, .int .i64 (n : Int)] 85 (0, 0)
theorem cell2 {w : World} {b : Nat} {x y : Value} {t : TypeId} (h : w.heap[b]? = some (.cells #[x, y] t (0, 0))) : w.cell? ⟨b, 0, none⟩ = some x ∧ w.cell? ⟨b, 1, none⟩ = some y := by
  refine ⟨?_, ?_⟩ <;> simp [World.cell?, h]
theorem free2 {w : World} {b : Nat} {x y : Value} {t : TypeId} (h : w.heap[b]? = some (.cells #[x, y] t (0, 0))) (j : Nat) : w.frozen? ⟨b, j, none⟩ = false := by simp [World.frozen?, h]
theorem stored2 {w : World} {b : Nat} {x y u : Value} {t : TypeId} (h : w.heap[b]? = some (.cells #[x, y] t (0, 0))) : (w.setCell ⟨b, 0, none⟩ u).heap[b]? = some (.cells #[u, y] t (0, 0)) ∧ (w.setCell ⟨b, 1, none⟩ u).heap[b]? = some (.cells #[x, u] t (0, 0)) := by
  have hlt := lt_of_block h
  have h' : w.heap[b] = .cells #[x, y] t (0, 0) := by simpa [Array.getElem?_eq_getElem hlt] using h
  constructor
  · show (w.heap.modify b _)[b]? = _
    rw [Array.getElem?_eq_getElem (by simpa using hlt), Array.getElem_modify_self, h']; rfl
  · show (w.heap.modify b _)[b]? = _
    rw [Array.getElem?_eq_getElem (by simpa using hlt), Array.getElem_modify_self, h']; rfl
theorem grown_set {w w' : World} {b : Nat} (h : w.grownBy w' (some b)) (j : Nat) (v : Value) : w.grownBy (w'.setCell ⟨b, j, none⟩ v) (some b) :=
  ⟨h.os, h.tape, h.output, by have := h.size; show w.heap.size ≤ (w'.setCell _ _).heap.size; simp [World.setCell]; exact this, fun i hi hne => by rw [Below.heap_setCell _ _ _ _ (fun e => hne (by rw [e]))]; exact h.block i hi hne⟩
theorem grown_trans {a b c : World} {r : Nat} (h : a.grownBy b (some r)) (k : b.grownBy c (some r)) : a.grownBy c (some r) :=
  ⟨k.os.trans h.os, k.tape.trans h.tape, k.output.trans h.output, Nat.le_trans h.size k.size, fun i hi hne => by rw [k.block i (Nat.lt_of_lt_of_le hi h.size) hne]; exact h.block i hi hne⟩
theorem grown_of_below {w w' : World} {r : Option Nat} (h : Below w.heap.size w w') : w.grownBy w' r := ⟨h.os, h.tape, h.output, h.size, fun i hi _ => h.block i hi⟩
set_option maxRecDepth 100000 in
theorem skip_any (s : List UInt8) (c : UInt8) (n br : Nat) (w : World) (hb : w.heap[br]? = some (rdO s n)) :
    Calls Tryd.prog 71 #[.pointer (some ⟨br, 0, none⟩), .string ⟨#[c]⟩] w fun e w' => e = .returned (.bool (hp s c)) ∧ w'.heap[br]? = some (rdO (tp s c) n) ∧ w.grownBy w' (some br) := by
  have HCP := Lib.hid (fun W => Tryd.strings_CutPrefix ⟨s.toArray⟩ ⟨#[c]⟩ W)
  rw [show (ByteArray.mk s.toArray).data.toList = s by simp, show (ByteArray.mk #[c]).data.toList = [c] by simp] at HCP
  rw [show Lib.trimPrefix s [c] = tp s c from rfl, show Lib.hasPrefix s [c] = hp s c from rfl] at HCP
  unfold rdO at hb ⊢
  have HB := Lib.hid hb
  obtain ⟨c0, c1⟩ := cell2 hb
  have f0 := free2 hb 0
  have hlt := lt_of_block hb
  have HST := Lib.hid (fun u => (stored2 (u := u) hb).1)
  generalize (ByteArray.mk (tp s c).toArray) = TB at *
  generalize hp s c = q at *
  generalize (ByteArray.mk s.toArray) = SB at *
  clear hb
  go_enter Tryd.func71, Tryd.ntmps71
  go_wp2_with fail
  refine (HCP.out _).mono ?_
  rintro e w1 ⟨rfl, rfl⟩
  go_wp2
  go_ret
  exact ⟨rfl, HST.out _, grown_set (World.grownBy.refl _ _) 0 _⟩
def NumRet (br nd : Nat) (r : Option (Int × List UInt8)) (w : World) (e : Ending) (w' : World) : Prop :=
  w.grownBy w' (some br) ∧ match r with
    | some (n, t) => e = .returned (.tuple #[.int .i64 n, .bool true]) ∧ w'.heap[br]? = some (rdO t nd)
    | none => (∃ x, e = .returned (.tuple #[.int .i64 x, .bool false])) ∧ ∃ t, w'.heap[br]? = some (rdO t nd) ∧ t.length ≤ 1000000
theorem str_take (s : List UInt8) (q : Nat) : (ByteArray.mk s.toArray).extract 0 q = ⟨(s.take q).toArray⟩ := by
  have h := Lib.extract_data ⟨s.toArray⟩ 0 q
  simp only [List.drop_zero, Nat.sub_zero] at h
  cases hx : (ByteArray.mk s.toArray).extract 0 q
  rw [hx] at h
  congr 1
  apply Array.toList_inj.1
  simpa using h
theorem str_drop (s : List UInt8) (q : Nat) : (ByteArray.mk s.toArray).extract q (ByteArray.mk s.toArray).size = ⟨(s.drop q).toArray⟩ := by
  have h := Lib.extract_to_end ⟨s.toArray⟩ q
  cases hx : (ByteArray.mk s.toArray).extract q (ByteArray.mk s.toArray).size
  rw [hx] at h
  congr 1
  apply Array.toList_inj.1
  simpa using h
theorem numLen_le (s : List UInt8) : numLen s ≤ s.length := List.Sublist.length_le (List.takeWhile_sublist _)
set_option maxRecDepth 100000 in
set_option maxHeartbeats 2000000 in
theorem number_any (s : List UInt8) (n br : Nat) (w : World) (hG : Glob w) (hs : s.length ≤ 1000000) (hb : w.heap[br]? = some (rdO s n)) :
    Calls Tryd.prog 73 #[.pointer (some ⟨br, 0, none⟩)] w (NumRet br n (pNum s) w) := by
  have HI := Lib.hid (fun W => index_any s W)
  have HG := Lib.hid hG
  have HB := Lib.hid hb
  unfold rdO at hb
  obtain ⟨c0, c1⟩ := cell2 hb
  have hlt := lt_of_block hb
  have hnl := numLen_le s
  have hbk := HB.out
  clear hb
  by_cases hq : numLen s = s.length
  · have hv : pNum s = none := by unfold pNum; rw [if_pos hq]
    rw [hv]
    rw [if_pos hq] at HI
    clear hv hq hbk hG
    go_enter Tryd.func73, Tryd.ntmps73
    go_wp2_with fail
    refine (HI.out _).mono ?_
    rintro e w1 ⟨rfl, hb1⟩
    go_wp2
    go_ret2
    exact ⟨grown_of_below hb1, ⟨0, rfl⟩, s, (hb1.block _ (lt_of_block HB.out)).trans HB.out, hs⟩
  · rw [if_neg hq] at HI
    have hv : pNum s = pNumD (s.take (numLen s)) (s.drop (numLen s)) := by unfold pNum; rw [if_neg hq]
    rw [hv]
    clear hv
    have hx1 := str_take s (numLen s)
    have hx2 := str_drop s (numLen s)
    rw [str_size] at hx2
    have hsz := str_size s
    have hdl : (s.take (numLen s)).length ≤ 1000000 := by rw [List.length_take]; omega
    have hrl : (s.drop (numLen s)).length ≤ 1000000 := by rw [List.length_drop]; omega
    have hk2 : numLen s ≤ s.length := hnl
    generalize numLen s = k at *
    generalize s.take k = d at *
    generalize s.drop k = r at *
    have HST := Lib.hid (fun (W : World) (h : W.heap[br]? = some (rdO s n)) => (stored2 (u := .string ⟨r.toArray⟩) h).1)
    cases ha : Lib.atoiAll d with
    | ok x =>
      have HA := Lib.hid (fun W => atoi_ok ha hdl W)
      have hi := atoiAll_i64 ha
      have HT := Lib.hid (fun W (h : Glob W) => itoa_any x W h hi.1 hi.2)
      have HSM := Lib.hid (fun W => psmall_any x W)
      have HSQ := Lib.hid (fun W => psmall_q x W)
      have hst := str_eql (Lib.itoa x) d
      have hv : pNumD d r = if smallB x && decide (Lib.itoa x = d) then some (x, r) else none := by unfold pNumD; rw [ha]
      rw [hv]
      clear ha hi hG hbk hv
      generalize smallB x = q1 at *
      generalize decide (Lib.itoa x = d) = q2 at *
      generalize (ByteArray.mk (Lib.itoa x).toArray) = IB at *
      generalize (ByteArray.mk d.toArray) = DB at *
      cases q1
      · rw [Bool.false_and, if_neg (by simp)]
        go_enter Tryd.func73, Tryd.ntmps73
        go_wp2_with fail
        refine (HI.out _).mono ?_
        rintro e w1 ⟨rfl, hb1⟩
        have HB1 := Lib.hid ((hb1.block _ (lt_of_block HB.out)).trans HB.out)
        have HGR := Lib.hid (grown_of_below (r := some br) hb1)
        have HG1 := Lib.hid (HG.out.below hb1)
        have hk1 := HB1.out
        unfold rdO at hk1
        obtain ⟨a0, a1⟩ := cell2 hk1
        have hz1 := lt_of_block hk1
        clear hb1 hk1 c0 c1
        go_wp2_with fail
        refine (HA.out _).mono ?_
        rintro e w2 ⟨rfl, hb2⟩
        have HG2 := Lib.hid (HG1.out.below hb2)
        have k2 := (hb2.cell (p := ⟨br, 0, none⟩) hz1).trans a0
        have hz2 := Nat.lt_of_lt_of_le hz1 hb2.size
        go_wp2_with fail
        go_quiet ((go_at_call 58; exact Calls.quiet_of_same (HSQ.out _)))
        have hb6 : Below w1.heap.size w1 (w2.drewN nq) := ⟨hb2.os, hb2.tape, hb2.output, hb2.size, hb2.block⟩
        clear hb2 k2
        have HBZ := Lib.hid ((hb6.block _ (lt_of_block HB1.out)).trans HB1.out)
        have HGZ := Lib.hid (grown_trans HGR.out (grown_of_below (r := some br) hb6))
        have hkz := HBZ.out
        unfold rdO at hkz
        obtain ⟨z0, z1⟩ := cell2 hkz
        have zf := free2 hkz 0
        have zl := lt_of_block hkz
        clear hkz hb6
        go_wp2
        go_ret2
        exact ⟨grown_set HGZ.out 0 _, ⟨x, rfl⟩, r, HST.out _ HBZ.out, hrl⟩
      · rw [Bool.true_and]
        cases q2
        · rw [if_neg (by simp)]
          go_enter Tryd.func73, Tryd.ntmps73
          go_wp2_with fail
          refine (HI.out _).mono ?_
          rintro e w1 ⟨rfl, hb1⟩
          have HB1 := Lib.hid ((hb1.block _ (lt_of_block HB.out)).trans HB.out)
          have HGR := Lib.hid (grown_of_below (r := some br) hb1)
          have HG1 := Lib.hid (HG.out.below hb1)
          have hk1 := HB1.out
          unfold rdO at hk1
          obtain ⟨a0, a1⟩ := cell2 hk1
          have hz1 := lt_of_block hk1
          clear hb1 hk1 c0 c1
          go_wp2_with fail
          refine (HA.out _).mono ?_
          rintro e w2 ⟨rfl, hb2⟩
          have HG2 := Lib.hid (HG1.out.below hb2)
          have k2 := (hb2.cell (p := ⟨br, 0, none⟩) hz1).trans a0
          have hz2 := Nat.lt_of_lt_of_le hz1 hb2.size
          go_wp2_with fail
          go_region_held3 (fun w' => w'.cell? ⟨br, 0, none⟩ = some (.string ⟨s.toArray⟩)) (first | go_keep) (first | ((go_at_call 58; refine (HSM.out _).mono ?_; rintro e w4 ⟨rfl, hb4⟩; have k4 : w4.cell? ⟨br, 0, none⟩ = some (.string ⟨s.toArray⟩) := (hb4.cell (p := ⟨br, 0, none⟩) (Nat.lt_of_lt_of_le hz1 hb2.size)).trans k2)) | ((go_at_call 84; refine (HT.out _ (HG2.out.below ((below_drew (Below.refl _ _)).trans (hb4.mono (Nat.le_of_eq rfl))))).mono ?_; rintro e w5 ⟨rfl, hb5⟩; have k5 : w5.cell? ⟨br, 0, none⟩ = some (.string ⟨s.toArray⟩) := (hb5.cell (p := ⟨br, 0, none⟩) (Nat.lt_of_lt_of_le (Nat.lt_of_lt_of_le hz1 hb2.size) hb4.size)).trans k4)))
          have hb6 : Below w1.heap.size w1 w5 := hb2.trans ((((below_drew (Below.refl _ _)).trans (hb4.mono (Nat.le_of_eq rfl))).trans (hb5.mono (by have := hb4.size; exact this))).mono hb2.size)
          clear hb4 hb2 hb5 k2 k4 k5
          have HBZ := Lib.hid ((hb6.block _ (lt_of_block HB1.out)).trans HB1.out)
          have HGZ := Lib.hid (grown_trans HGR.out (grown_of_below (r := some br) hb6))
          have hkz := HBZ.out
          unfold rdO at hkz
          obtain ⟨z0, z1⟩ := cell2 hkz
          have zf := free2 hkz 0
          have zl := lt_of_block hkz
          clear hkz hb6
          go_wp2
          go_ret2
          exact ⟨grown_set HGZ.out 0 _, ⟨x, rfl⟩, r, HST.out _ HBZ.out, hrl⟩
        · rw [if_pos rfl]
          go_enter Tryd.func73, Tryd.ntmps73
          go_wp2_with fail
          refine (HI.out _).mono ?_
          rintro e w1 ⟨rfl, hb1⟩
          have HB1 := Lib.hid ((hb1.block _ (lt_of_block HB.out)).trans HB.out)
          have HGR := Lib.hid (grown_of_below (r := some br) hb1)
          have HG1 := Lib.hid (HG.out.below hb1)
          have hk1 := HB1.out
          unfold rdO at hk1
          obtain ⟨a0, a1⟩ := cell2 hk1
          have hz1 := lt_of_block hk1
          clear hb1 hk1 c0 c1
          go_wp2_with fail
          refine (HA.out _).mono ?_
          rintro e w2 ⟨rfl, hb2⟩
          have HG2 := Lib.hid (HG1.out.below hb2)
          have k2 := (hb2.cell (p := ⟨br, 0, none⟩) hz1).trans a0
          have hz2 := Nat.lt_of_lt_of_le hz1 hb2.size
          go_wp2_with fail
          go_region_held3 (fun w' => w'.cell? ⟨br, 0, none⟩ = some (.string ⟨s.toArray⟩)) (first | go_keep) (first | ((go_at_call 58; refine (HSM.out _).mono ?_; rintro e w4 ⟨rfl, hb4⟩; have k4 : w4.cell? ⟨br, 0, none⟩ = some (.string ⟨s.toArray⟩) := (hb4.cell (p := ⟨br, 0, none⟩) (Nat.lt_of_lt_of_le hz1 hb2.size)).trans k2)) | ((go_at_call 84; refine (HT.out _ (HG2.out.below ((below_drew (Below.refl _ _)).trans (hb4.mono (Nat.le_of_eq rfl))))).mono ?_; rintro e w5 ⟨rfl, hb5⟩; have k5 : w5.cell? ⟨br, 0, none⟩ = some (.string ⟨s.toArray⟩) := (hb5.cell (p := ⟨br, 0, none⟩) (Nat.lt_of_lt_of_le (Nat.lt_of_lt_of_le hz1 hb2.size) hb4.size)).trans k4)))
          have hb6 : Below w1.heap.size w1 w5 := hb2.trans ((((below_drew (Below.refl _ _)).trans (hb4.mono (Nat.le_of_eq rfl))).trans (hb5.mono (by have := hb4.size; exact this))).mono hb2.size)
          clear hb4 hb2 hb5 k2 k4 k5
          have HBZ := Lib.hid ((hb6.block _ (lt_of_block HB1.out)).trans HB1.out)
          have HGZ := Lib.hid (grown_trans HGR.out (grown_of_below (r := some br) hb6))
          have hkz := HBZ.out
          unfold rdO at hkz
          obtain ⟨z0, z1⟩ := cell2 hkz
          have zf := free2 hkz 0
          have zl := lt_of_block hkz
          clear hkz hb6
          go_wp2
          go_ret2
          exact ⟨grown_set HGZ.out 0 _, rfl, HST.out _ HBZ.out⟩
    | range =>
      have HA := Lib.hid (fun W h => atoi_bad (d := d) (fun n e => by rw [ha] at e; cases e) hdl W h)
      have hv : pNumD d r = none := by unfold pNumD; rw [ha]
      rw [hv]
      clear ha hv hG hbk
      generalize (ByteArray.mk d.toArray) = DB at *
      go_enter Tryd.func73, Tryd.ntmps73
      go_wp2_with fail
      refine (HI.out _).mono ?_
      rintro e w1 ⟨rfl, hb1⟩
      have HB1 := Lib.hid ((hb1.block _ (lt_of_block HB.out)).trans HB.out)
      have HGR := Lib.hid (grown_of_below (r := some br) hb1)
      have HG1 := Lib.hid (HG.out.below hb1)
      have hk1 := HB1.out
      unfold rdO at hk1
      obtain ⟨a0, a1⟩ := cell2 hk1
      have hz1 := lt_of_block hk1
      clear hb1 hk1 c0 c1
      go_wp2_with fail
      refine (HA.out _ HG1.out).mono ?_
      rintro e w2 ⟨⟨x, N, rfl⟩, hb2⟩
      go_wp2_with fail
      go_quiet (fail)
      have hb4 : Below w1.heap.size w1 (w2.drewN nq) := ⟨hb2.os, hb2.tape, hb2.output, hb2.size, hb2.block⟩
      clear hb2
      have HBZ := Lib.hid ((hb4.block _ (lt_of_block HB1.out)).trans HB1.out)
      have HGZ := Lib.hid (grown_trans HGR.out (grown_of_below (r := some br) hb4))
      have hkz := HBZ.out
      unfold rdO at hkz
      obtain ⟨z0, z1⟩ := cell2 hkz
      have zf := free2 hkz 0
      have zl := lt_of_block hkz
      clear hkz hb4
      go_wp2
      go_ret2
      exact ⟨grown_set HGZ.out 0 _, ⟨x, rfl⟩, r, HST.out _ HBZ.out, hrl⟩
    | _ =>
      have HA := Lib.hid (fun W h => atoi_bad (d := d) (fun n e => by rw [ha] at e; cases e) hdl W h)
      have hv : pNumD d r = none := by unfold pNumD; rw [ha]
      rw [hv]
      clear ha hv hG hbk
      generalize (ByteArray.mk d.toArray) = DB at *
      go_enter Tryd.func73, Tryd.ntmps73
      go_wp2_with fail
      refine (HI.out _).mono ?_
      rintro e w1 ⟨rfl, hb1⟩
      have HB1 := Lib.hid ((hb1.block _ (lt_of_block HB.out)).trans HB.out)
      have HGR := Lib.hid (grown_of_below (r := some br) hb1)
      have HG1 := Lib.hid (HG.out.below hb1)
      have hk1 := HB1.out
      unfold rdO at hk1
      obtain ⟨a0, a1⟩ := cell2 hk1
      have hz1 := lt_of_block hk1
      clear hb1 hk1 c0 c1
      go_wp2_with fail
      refine (HA.out _ HG1.out).mono ?_
      rintro e w2 ⟨⟨x, N, rfl⟩, hb2⟩
      go_wp2_with fail
      go_quiet (fail)
      have hb4 : Below w1.heap.size w1 (w2.drewN nq) := ⟨hb2.os, hb2.tape, hb2.output, hb2.size, hb2.block⟩
      clear hb2
      have HBZ := Lib.hid ((hb4.block _ (lt_of_block HB1.out)).trans HB1.out)
      have HGZ := Lib.hid (grown_trans HGR.out (grown_of_below (r := some br) hb4))
      have hkz := HBZ.out
      unfold rdO at hkz
      obtain ⟨z0, z1⟩ := cell2 hkz
      have zf := free2 hkz 0
      have zl := lt_of_block hkz
      clear hkz hb4
      go_wp2
      go_ret2
      exact ⟨grown_set HGZ.out 0 _, ⟨x, rfl⟩, r, HST.out _ HBZ.out, hrl⟩
end Go.Proofs.YtjjohllfidmkjaaDoor.PfW
