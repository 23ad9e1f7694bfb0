/- Where the reference's reader of trees stands. No function is in sight. Conditions: as stated. -/
import Derived.Test.YtjjohllfidmkjaaDoorPfU2
import Derived.Test.YtjjohllfidmkjaaDoorPfH
import Derived.Deep.CutRange
import Derived.Test.YtjjohllfidmkjaaDoorPfT1

namespace Go.Proofs.YtjjohllfidmkjaaDoor.PfW
open Go Go.RowKit Go.Proofs.YtjjohllfidmkjaaDoor.Mem Go.Proofs.YtjjohllfidmkjaaDoor.Pf
attribute [local go_sem ↓] Go.wp_at_zero Go.wp_at_succ
/-- The input as an object. -/
def inO (s : List UInt8) (b : Bool) : Obj := .cells #[.string ⟨s.toArray⟩, .bool b] 90 (0, 0)
theorem str_at (s : List UInt8) (i : Nat) (h' : i < (ByteArray.mk s.toArray).size) : (ByteArray.mk s.toArray)[i] = s[i]'(by rw [← str_size]; exact h') := rfl
theorem str_from (s : List UInt8) (i : Nat) : (ByteArray.mk s.toArray).extract i s.length = ⟨(s.drop i).toArray⟩ := by
  apply ByteArray.ext
  apply Array.toList_inj.1
  rw [ByteArray.data_extract]
  simp only [Array.toList_extract, List.extract_eq_take_drop]
  rw [List.take_of_length_le (by simp)]
set_option maxRecDepth 100000 in
theorem rskip_no (s : List UInt8) (c : UInt8) (k : Int) (hk : k = (c.toNat : Int)) (hq : hp s c = false) (br : Nat) (w : World) (hb : w.heap[br]? = some (inO s false)) :
    Calls Tryd.prog 74 #[.pointer (some ⟨br, 0, none⟩), .int .u8 k] w fun e w' => e = .returned (.bool false) ∧ w' = w := by
  unfold inO at hb
  obtain ⟨c0, c1⟩ := cell2 hb
  have hlt := lt_of_block hb
  clear hb
  cases s with
  | nil =>
    have z0 : (ByteArray.mk ([] : List UInt8).toArray).size = 0 := rfl
    generalize (ByteArray.mk ([] : List UInt8).toArray) = SB at *
    clear hq hk
    go_enter Tryd.func74, Tryd.ntmps74
    go_wp2
    go_ret
    exact ⟨rfl, rfl⟩
  | cons x r =>
    have z0 : (ByteArray.mk (x :: r).toArray).size = r.length + 1 := str_size _
    have z1 : 0 < (ByteArray.mk (x :: r).toArray).size := by rw [z0]; omega
    have z2 : (ByteArray.mk (x :: r).toArray)[0] = x := rfl
    have hne : ((x.toNat : Int) != k) = true := by
      rw [hp_cons, beq_eq_false_iff_ne] at hq
      rw [bne_iff_ne, hk]
      intro e
      exact hq (UInt8.toNat_inj.1 (by omega))
    have hne2 : ((x.toNat : Int) = k) = False := eq_false (bne_iff_ne.1 hne)
    clear hq hk
    generalize (ByteArray.mk (x :: r).toArray) = SB at *
    have d0 : (SB.size : Int) = (r.length : Int) + 1 := by omega
    have d1 : (((SB.size : Nat) : Int) == 0) = false := by rw [beq_eq_false_iff_ne]; omega
    go_enter Tryd.func74, Tryd.ntmps74
    go_wp2
    go_ret
    exact ⟨rfl, rfl⟩
set_option maxRecDepth 100000 in
theorem rskip_yes (s : List UInt8) (c : UInt8) (k : Int) (hk : k = (c.toNat : Int)) (hq : hp s c = true) (br : Nat) (w : World) (hb : w.heap[br]? = some (inO s false)) :
    Calls Tryd.prog 74 #[.pointer (some ⟨br, 0, none⟩), .int .u8 k] w fun e w' => e = .returned (.bool true) ∧ w'.heap[br]? = some (inO (tp s c) false) ∧ w.grownBy w' (some br) := by
  obtain ⟨x, r, rfl⟩ : ∃ x r, s = x :: r := by
    cases s with
    | nil => cases hq
    | cons x r => exact ⟨x, r, rfl⟩
  rw [hp_cons, beq_iff_eq] at hq
  subst hq
  rw [tp_self]
  unfold inO at hb ⊢
  obtain ⟨c0, c1⟩ := cell2 hb
  have f0 := free2 hb 0
  have hlt := lt_of_block hb
  have HST := Lib.hid (fun u => (stored2 (u := u) hb).1)
  have z0 : (ByteArray.mk (c :: r).toArray).size = r.length + 1 := str_size _
  have z1 : 0 < (ByteArray.mk (c :: r).toArray).size := by rw [z0]; omega
  have z2 : (ByteArray.mk (c :: r).toArray)[0] = c := rfl
  have HX : Hid ((ByteArray.mk (c :: r).toArray).extract 1 (r.length + 1) = ⟨r.toArray⟩) := Lib.hid (str_from (c :: r) 1)
  subst hk
  clear hb
  generalize (ByteArray.mk (c :: r).toArray) = SB at *
  have d1 : (((SB.size : Nat) : Int) == 0) = false := by rw [beq_eq_false_iff_ne]; omega
  go_enter Tryd.func74, Tryd.ntmps74
  go_wp2
  go_ret
  have hx := HX.out
  exact ⟨rfl, by first | (rw [← hx]; exact HST.out _) | (rw [← hx, ← z0]; exact HST.out _), grown_set (World.grownBy.refl _ _) 0 _⟩
/-- How a number is handed back. -/
def RNumRet (br : Nat) (r : Option (Int × List UInt8)) (w : World) (e : Ending) (w' : World) : Prop :=
  w.grownBy w' (some br) ∧ match r with
    | some (n, t) => e = .returned (.int .i64 n) ∧ w'.heap[br]? = some (inO t false)
    | none => e = .returned (.int .i64 0) ∧ ∃ t, w'.heap[br]? = some (inO t true)
/-- Where the loop of digits stands. -/
structure DigSt (s : List UInt8) (m i : Nat) : Prop where
  le : i ≤ s.length
  small : m ≤ 10737418249
  run : rDig 0 s = rDig m (s.drop i)
theorem DigSt.next {s : List UInt8} {m i : Nat} (h : DigSt s m i) (hi : i < s.length) (h1 : 48 ≤ s[i].toNat) (h2 : s[i].toNat ≤ 57) (h3 : m ≤ 1073741824) : DigSt s (10 * m + (s[i].toNat - 48)) (i + 1) := by
  refine ⟨hi, by omega, ?_⟩
  rw [h.run, List.drop_eq_getElem_cons hi, rDig, if_pos]
  simp [isDig, h1, h2, h3]
theorem DigSt.stop {s : List UInt8} {m i : Nat} (h : DigSt s m i) (hn : i = s.length ∨ 1073741824 < m ∨ ∃ hi : i < s.length, ¬ (48 ≤ s[i].toNat ∧ s[i].toNat ≤ 57)) : rDig 0 s = (m, s.drop i) := by
  rw [h.run]
  by_cases hi : i < s.length
  · rw [List.drop_eq_getElem_cons hi, rDig, if_neg]
    simp only [isDig, Bool.and_eq_true, decide_eq_true_eq]
    rcases hn with h1 | h1 | ⟨_, h1⟩
    · omega
    · omega
    · exact fun h => h1 h.1
  · have e : s.drop i = [] := List.drop_eq_nil_of_le (by omega)
    rw [e]
    rfl
theorem hp_at {s : List UInt8} (c : UInt8) (h : 0 < s.length) : hp s c = ((s[0].toNat : Int) == (c.toNat : Int)) := by
  cases s with
  | nil => simp at h
  | cons x r =>
    rw [hp_cons, Bool.eq_iff_iff, beq_iff_eq, beq_iff_eq]
    simp only [List.getElem_cons_zero]
    constructor
    · rintro rfl; rfl
    · intro e; exact UInt8.toNat_inj.1 (by omega)
theorem num_len {neg : Bool} {s : List UInt8} {m i : Nat} (h : rDig 0 s = (m, s.drop i)) (hi : i ≤ s.length) : rNumD neg s = if i = 0 ∨ 1073741824 < m ∨ hp s 48 = true ∧ (1 < i ∨ neg = true) then none else some (if neg then -(m : Int) else (m : Int), s.drop i) := by
  unfold rNumD
  rw [h]
  simp only [List.length_drop]
  have e1 : (s.length - i = s.length) = (i = 0 ∨ s.length = 0) := propext (by omega)
  by_cases h0 : s.length = 0
  · rw [if_pos (.inl (by omega)), if_pos (.inl (by omega))]
  · have e2 : (s.length - i = s.length ∨ 1073741824 < m ∨ hp s 48 = true ∧ (s.length - i + 1 < s.length ∨ neg = true)) = (i = 0 ∨ 1073741824 < m ∨ hp s 48 = true ∧ (1 < i ∨ neg = true)) := by
      have a1 : (s.length - i = s.length) = (i = 0) := propext (by omega)
      have a2 : (s.length - i + 1 < s.length) = (1 < i) := propext (by omega)
      rw [a1, a2]
    simp only [e2]
end Go.Proofs.YtjjohllfidmkjaaDoor.PfW

namespace Go.Proofs.YtjjohllfidmkjaaDoor.PfW
open Go Go.RowKit Go.Proofs.YtjjohllfidmkjaaDoor.Mem Go.Proofs.YtjjohllfidmkjaaDoor.Pf
attribute [local go_sem ↓] Go.wp_at_zero Go.wp_at_succ
set_option maxRecDepth 100000 in
set_option maxHeartbeats 8000000 in
theorem rnumber_pos (s : List UInt8) (hs : s.length ≤ 1000000) (hq : hp s 45 = false) (br : Nat) (w : World) (hb : w.heap[br]? = some (inO s false)) :
    Calls Tryd.prog 75 #[.pointer (some ⟨br, 0, none⟩)] w (RNumRet br (rNum s) w) := by
  unfold rNum
  have hl := tp_le s 45
  rw [hq]
  have HSK := Lib.hid (rskip_no s 45 45 rfl hq br w hb)
  have htp := tp_no hq
  have HB := Lib.hid hb
  rw [htp]
  clear htp
  obtain ⟨t, rfl⟩ : ∃ t, t = s := ⟨_, rfl⟩
  have hlen : t.length ≤ 1000000 := by omega
  have HSIZE : Hid ((ByteArray.mk t.toArray).size = t.length) := Lib.hid (str_size t)
  obtain ⟨SB, hSB⟩ : ∃ SB, SB = ByteArray.mk t.toArray := ⟨_, rfl⟩
  have HSB := Lib.hid hSB
  rw [← hSB] at HSIZE
  clear hb hq hl hSB
  go_enter Tryd.func75, Tryd.ntmps75
  go_wp2_with fail
  refine HSK.out.mono ?_
  rintro e W ⟨rfl, hww⟩
  have HW1 : Hid (W.heap[br]? = some (inO t false)) := Lib.hid (by rw [hww]; exact HB.out)
  have HW0 : Hid (W.heap[br]? = some (.cells #[.string SB, .bool false] 90 (0, 0))) := Lib.hid (by rw [HSB.out]; exact HW1.out)
  have HGR0 := Lib.hid (show w.grownBy W (some br) by rw [hww]; exact World.grownBy.refl _ _)
  clear hww HW1 HB
  go_wp2
  go_loopw [3, 4] (fun n i wr => ∃ (m j : Nat), n = .int .i64 (m : Int) ∧ i = .int .i64 (j : Int) ∧ Hid (DigSt t m j) ∧ Hid (wr = W)) (fun _ i _ => t.length - (intOf i).toNat)
  case atStart => exact ⟨0, 0, rfl, rfl, Lib.hid ⟨Nat.zero_le _, by omega, rfl⟩, Lib.hid rfl⟩
  case round =>
    obtain ⟨m, i, rfl, rfl, HD, HWR⟩ := hrel
    have HW : Hid (wr.heap[br]? = some (.cells #[.string SB, .bool false] 90 (0, 0))) := Lib.hid (by rw [HWR.out]; exact HW0.out)
    have HGR := Lib.hid (show w.grownBy wr (some br) by rw [HWR.out]; exact HGR0.out)
    obtain ⟨c0, c1⟩ := cell2 HW.out
    have bz := lt_of_block HW.out
    have hle := HD.out.le
    have hsm := HD.out.small
    have hsz := HSIZE.out
    have HX : Hid (SB.extract i t.length = ⟨(t.drop i).toArray⟩) := Lib.hid (by rw [HSB.out]; exact str_from t i)
    by_cases hlt : i < t.length
    · have hi2 : i < SB.size := by omega
      have hcc : SB[i] = t[i] := by simp only [HSB.out]; rfl
      have e1 : decide ((i : Int) < (SB.size : Int)) = true := decide_eq_true (by omega)
      by_cases h48 : 48 ≤ t[i].toNat
      · have e2 : decide ((48 : Int) ≤ (t[i].toNat : Int)) = true := decide_eq_true (by omega)
        by_cases h57 : t[i].toNat ≤ 57
        · have e3 : decide ((t[i].toNat : Int) ≤ 57) = true := decide_eq_true (by omega)
          by_cases hmm : m ≤ 1073741824
          · have e4 : decide ((m : Int) ≤ 1073741824) = true := decide_eq_true (by omega)
            have HN := Lib.hid (HD.out.next hlt h48 h57 hmm)
            generalize t[i] = c at *
            go_wp2
            go_roundw
            case rel => exact ⟨10 * m + (c.toNat - 48), i + 1, by go_num, by go_num, HN.out, HWR⟩
            case measure => simp [intOf]; omega
          · have e4 : decide ((m : Int) ≤ 1073741824) = false := decide_eq_false (by omega)
            have HEQ := Lib.hid (num_len (neg := false) (HD.out.stop (.inr (.inl (by omega)))) hle)
            go_upto_region 6 with fail
            by_cases h0 : i = 0
            · have a0 : ((i : Int) == 0) = true := by simp; omega
              have a1 : ((i : Int) = 0) = True := eq_true (by omega)
              have HZ := Lib.hid trivial
              obtain ⟨c0, c1⟩ := cell2 HW.out
              have f1 := free2 HW.out 1
              have bz := lt_of_block HW.out
              have HST := Lib.hid (fun u => (stored2 (u := u) HW.out).2)
              go_wp2
              go_ret
              rw [HEQ.out, if_pos (by first | exact .inl (by omega) | exact .inr (.inl (by omega)) | exact .inr (.inr ⟨HZ.out, .inl (by omega)⟩) | exact .inr (.inr ⟨HZ.out, .inr rfl⟩) | exact .inr (.inr ⟨HZ.out, .inr trivial⟩))]
              exact ⟨grown_set HGR.out 1 _, rfl, _, HST.out _⟩
            have a0 : ((i : Int) == 0) = false := by rw [beq_eq_false_iff_ne]; omega
            have a1 : ((i : Int) = 0) = False := eq_false (by omega)
            by_cases hm : 1073741824 < m
            · have b0 : decide ((1073741824 : Int) < (m : Int)) = true := decide_eq_true (by omega)
              have HZ := Lib.hid trivial
              obtain ⟨c0, c1⟩ := cell2 HW.out
              have f1 := free2 HW.out 1
              have bz := lt_of_block HW.out
              have HST := Lib.hid (fun u => (stored2 (u := u) HW.out).2)
              go_wp2
              go_ret
              rw [HEQ.out, if_pos (by first | exact .inl (by omega) | exact .inr (.inl (by omega)) | exact .inr (.inr ⟨HZ.out, .inl (by omega)⟩) | exact .inr (.inr ⟨HZ.out, .inr rfl⟩) | exact .inr (.inr ⟨HZ.out, .inr trivial⟩))]
              exact ⟨grown_set HGR.out 1 _, rfl, _, HST.out _⟩
            exact absurd (Nat.lt_of_not_le hmm) hm
        · have e3 : decide ((t[i].toNat : Int) ≤ 57) = false := decide_eq_false (by omega)
          have HEQ := Lib.hid (num_len (neg := false) (HD.out.stop (.inr (.inr ⟨hlt, fun h => h57 h.2⟩))) hle)
          go_upto_region 6 with fail
          by_cases h0 : i = 0
          · have a0 : ((i : Int) == 0) = true := by simp; omega
            have a1 : ((i : Int) = 0) = True := eq_true (by omega)
            have HZ := Lib.hid trivial
            obtain ⟨c0, c1⟩ := cell2 HW.out
            have f1 := free2 HW.out 1
            have bz := lt_of_block HW.out
            have HST := Lib.hid (fun u => (stored2 (u := u) HW.out).2)
            go_wp2
            go_ret
            rw [HEQ.out, if_pos (by first | exact .inl (by omega) | exact .inr (.inl (by omega)) | exact .inr (.inr ⟨HZ.out, .inl (by omega)⟩) | exact .inr (.inr ⟨HZ.out, .inr rfl⟩) | exact .inr (.inr ⟨HZ.out, .inr trivial⟩))]
            exact ⟨grown_set HGR.out 1 _, rfl, _, HST.out _⟩
          have a0 : ((i : Int) == 0) = false := by rw [beq_eq_false_iff_ne]; omega
          have a1 : ((i : Int) = 0) = False := eq_false (by omega)
          by_cases hm : 1073741824 < m
          · have b0 : decide ((1073741824 : Int) < (m : Int)) = true := decide_eq_true (by omega)
            have HZ := Lib.hid trivial
            obtain ⟨c0, c1⟩ := cell2 HW.out
            have f1 := free2 HW.out 1
            have bz := lt_of_block HW.out
            have HST := Lib.hid (fun u => (stored2 (u := u) HW.out).2)
            go_wp2
            go_ret
            rw [HEQ.out, if_pos (by first | exact .inl (by omega) | exact .inr (.inl (by omega)) | exact .inr (.inr ⟨HZ.out, .inl (by omega)⟩) | exact .inr (.inr ⟨HZ.out, .inr rfl⟩) | exact .inr (.inr ⟨HZ.out, .inr trivial⟩))]
            exact ⟨grown_set HGR.out 1 _, rfl, _, HST.out _⟩
          have b0 : decide ((1073741824 : Int) < (m : Int)) = false := decide_eq_false (by omega)
          have hp0 : 0 < SB.size := by omega
          have hpt : 0 < t.length := by omega
          have hc : SB[0] = t[0] := by simp only [HSB.out]; rfl
          cases hz : hp t 48
          · have HZ := Lib.hid hz
            rw [hp_at 48 hpt] at hz
            have c4 : ((t[0].toNat : Int) == 48) = false := hz
            have c5 : ((t[0].toNat : Int) = 48) = False := eq_false (by rw [beq_eq_false_iff_ne] at hz; exact hz)
            clear hz
            obtain ⟨c0, c1⟩ := cell2 HW.out
            have f0 := free2 HW.out 0
            have bz := lt_of_block HW.out
            have HST := Lib.hid (fun u => (stored2 (u := u) HW.out).1)
            go_wp2
            go_ret
            rw [HEQ.out, if_neg (by rintro (h | h | ⟨h, h2⟩) <;> first | omega | exact absurd (HZ.out.symm.trans h) (by decide) | (rcases h2 with h2 | h2 <;> first | omega | exact absurd h2 (by simp)))]
            have hx := HX.out
            refine ⟨grown_set HGR.out 0 _, by simp, ?_⟩
            unfold inO
            rw [← hx]
            exact HST.out _
          · have HZ := Lib.hid hz
            rw [hp_at 48 hpt] at hz
            have c4 : ((t[0].toNat : Int) == 48) = true := hz
            have c5 : ((t[0].toNat : Int) = 48) = True := eq_true (by rw [beq_iff_eq] at hz; exact hz)
            clear hz
            by_cases h1 : 1 < i
            · have d0 : decide ((1 : Int) < (i : Int)) = true := decide_eq_true (by omega)
              obtain ⟨c0, c1⟩ := cell2 HW.out
              have f1 := free2 HW.out 1
              have bz := lt_of_block HW.out
              have HST := Lib.hid (fun u => (stored2 (u := u) HW.out).2)
              go_wp2
              go_ret
              rw [HEQ.out, if_pos (by first | exact .inl (by omega) | exact .inr (.inl (by omega)) | exact .inr (.inr ⟨HZ.out, .inl (by omega)⟩) | exact .inr (.inr ⟨HZ.out, .inr rfl⟩) | exact .inr (.inr ⟨HZ.out, .inr trivial⟩))]
              exact ⟨grown_set HGR.out 1 _, rfl, _, HST.out _⟩
            have d0 : decide ((1 : Int) < (i : Int)) = false := decide_eq_false (by omega)
            obtain ⟨c0, c1⟩ := cell2 HW.out
            have f0 := free2 HW.out 0
            have bz := lt_of_block HW.out
            have HST := Lib.hid (fun u => (stored2 (u := u) HW.out).1)
            go_wp2
            go_ret
            rw [HEQ.out, if_neg (by rintro (h | h | ⟨h, h2⟩) <;> first | omega | exact absurd (HZ.out.symm.trans h) (by decide) | (rcases h2 with h2 | h2 <;> first | omega | exact absurd h2 (by simp)))]
            have hx := HX.out
            refine ⟨grown_set HGR.out 0 _, by simp, ?_⟩
            unfold inO
            rw [← hx]
            exact HST.out _
      · have e2 : decide ((48 : Int) ≤ (t[i].toNat : Int)) = false := decide_eq_false (by omega)
        have HEQ := Lib.hid (num_len (neg := false) (HD.out.stop (.inr (.inr ⟨hlt, fun h => h48 h.1⟩))) hle)
        go_upto_region 6 with fail
        by_cases h0 : i = 0
        · have a0 : ((i : Int) == 0) = true := by simp; omega
          have a1 : ((i : Int) = 0) = True := eq_true (by omega)
          have HZ := Lib.hid trivial
          obtain ⟨c0, c1⟩ := cell2 HW.out
          have f1 := free2 HW.out 1
          have bz := lt_of_block HW.out
          have HST := Lib.hid (fun u => (stored2 (u := u) HW.out).2)
          go_wp2
          go_ret
          rw [HEQ.out, if_pos (by first | exact .inl (by omega) | exact .inr (.inl (by omega)) | exact .inr (.inr ⟨HZ.out, .inl (by omega)⟩) | exact .inr (.inr ⟨HZ.out, .inr rfl⟩) | exact .inr (.inr ⟨HZ.out, .inr trivial⟩))]
          exact ⟨grown_set HGR.out 1 _, rfl, _, HST.out _⟩
        have a0 : ((i : Int) == 0) = false := by rw [beq_eq_false_iff_ne]; omega
        have a1 : ((i : Int) = 0) = False := eq_false (by omega)
        by_cases hm : 1073741824 < m
        · have b0 : decide ((1073741824 : Int) < (m : Int)) = true := decide_eq_true (by omega)
          have HZ := Lib.hid trivial
          obtain ⟨c0, c1⟩ := cell2 HW.out
          have f1 := free2 HW.out 1
          have bz := lt_of_block HW.out
          have HST := Lib.hid (fun u => (stored2 (u := u) HW.out).2)
          go_wp2
          go_ret
          rw [HEQ.out, if_pos (by first | exact .inl (by omega) | exact .inr (.inl (by omega)) | exact .inr (.inr ⟨HZ.out, .inl (by omega)⟩) | exact .inr (.inr ⟨HZ.out, .inr rfl⟩) | exact .inr (.inr ⟨HZ.out, .inr trivial⟩))]
          exact ⟨grown_set HGR.out 1 _, rfl, _, HST.out _⟩
        have b0 : decide ((1073741824 : Int) < (m : Int)) = false := decide_eq_false (by omega)
        have hp0 : 0 < SB.size := by omega
        have hpt : 0 < t.length := by omega
        have hc : SB[0] = t[0] := by simp only [HSB.out]; rfl
        cases hz : hp t 48
        · have HZ := Lib.hid hz
          rw [hp_at 48 hpt] at hz
          have c4 : ((t[0].toNat : Int) == 48) = false := hz
          have c5 : ((t[0].toNat : Int) = 48) = False := eq_false (by rw [beq_eq_false_iff_ne] at hz; exact hz)
          clear hz
          obtain ⟨c0, c1⟩ := cell2 HW.out
          have f0 := free2 HW.out 0
          have bz := lt_of_block HW.out
          have HST := Lib.hid (fun u => (stored2 (u := u) HW.out).1)
          go_wp2
          go_ret
          rw [HEQ.out, if_neg (by rintro (h | h | ⟨h, h2⟩) <;> first | omega | exact absurd (HZ.out.symm.trans h) (by decide) | (rcases h2 with h2 | h2 <;> first | omega | exact absurd h2 (by simp)))]
          have hx := HX.out
          refine ⟨grown_set HGR.out 0 _, by simp, ?_⟩
          unfold inO
          rw [← hx]
          exact HST.out _
        · have HZ := Lib.hid hz
          rw [hp_at 48 hpt] at hz
          have c4 : ((t[0].toNat : Int) == 48) = true := hz
          have c5 : ((t[0].toNat : Int) = 48) = True := eq_true (by rw [beq_iff_eq] at hz; exact hz)
          clear hz
          by_cases h1 : 1 < i
          · have d0 : decide ((1 : Int) < (i : Int)) = true := decide_eq_true (by omega)
            obtain ⟨c0, c1⟩ := cell2 HW.out
            have f1 := free2 HW.out 1
            have bz := lt_of_block HW.out
            have HST := Lib.hid (fun u => (stored2 (u := u) HW.out).2)
            go_wp2
            go_ret
            rw [HEQ.out, if_pos (by first | exact .inl (by omega) | exact .inr (.inl (by omega)) | exact .inr (.inr ⟨HZ.out, .inl (by omega)⟩) | exact .inr (.inr ⟨HZ.out, .inr rfl⟩) | exact .inr (.inr ⟨HZ.out, .inr trivial⟩))]
            exact ⟨grown_set HGR.out 1 _, rfl, _, HST.out _⟩
          have d0 : decide ((1 : Int) < (i : Int)) = false := decide_eq_false (by omega)
          obtain ⟨c0, c1⟩ := cell2 HW.out
          have f0 := free2 HW.out 0
          have bz := lt_of_block HW.out
          have HST := Lib.hid (fun u => (stored2 (u := u) HW.out).1)
          go_wp2
          go_ret
          rw [HEQ.out, if_neg (by rintro (h | h | ⟨h, h2⟩) <;> first | omega | exact absurd (HZ.out.symm.trans h) (by decide) | (rcases h2 with h2 | h2 <;> first | omega | exact absurd h2 (by simp)))]
          have hx := HX.out
          refine ⟨grown_set HGR.out 0 _, by simp, ?_⟩
          unfold inO
          rw [← hx]
          exact HST.out _
    · have e1 : decide ((i : Int) < (SB.size : Int)) = false := decide_eq_false (by omega)
      have HEQ := Lib.hid (num_len (neg := false) (HD.out.stop (.inl (by omega))) hle)
      go_upto_region 6 with fail
      by_cases h0 : i = 0
      · have a0 : ((i : Int) == 0) = true := by simp; omega
        have a1 : ((i : Int) = 0) = True := eq_true (by omega)
        have HZ := Lib.hid trivial
        obtain ⟨c0, c1⟩ := cell2 HW.out
        have f1 := free2 HW.out 1
        have bz := lt_of_block HW.out
        have HST := Lib.hid (fun u => (stored2 (u := u) HW.out).2)
        go_wp2
        go_ret
        rw [HEQ.out, if_pos (by first | exact .inl (by omega) | exact .inr (.inl (by omega)) | exact .inr (.inr ⟨HZ.out, .inl (by omega)⟩) | exact .inr (.inr ⟨HZ.out, .inr rfl⟩) | exact .inr (.inr ⟨HZ.out, .inr trivial⟩))]
        exact ⟨grown_set HGR.out 1 _, rfl, _, HST.out _⟩
      have a0 : ((i : Int) == 0) = false := by rw [beq_eq_false_iff_ne]; omega
      have a1 : ((i : Int) = 0) = False := eq_false (by omega)
      by_cases hm : 1073741824 < m
      · have b0 : decide ((1073741824 : Int) < (m : Int)) = true := decide_eq_true (by omega)
        have HZ := Lib.hid trivial
        obtain ⟨c0, c1⟩ := cell2 HW.out
        have f1 := free2 HW.out 1
        have bz := lt_of_block HW.out
        have HST := Lib.hid (fun u => (stored2 (u := u) HW.out).2)
        go_wp2
        go_ret
        rw [HEQ.out, if_pos (by first | exact .inl (by omega) | exact .inr (.inl (by omega)) | exact .inr (.inr ⟨HZ.out, .inl (by omega)⟩) | exact .inr (.inr ⟨HZ.out, .inr rfl⟩) | exact .inr (.inr ⟨HZ.out, .inr trivial⟩))]
        exact ⟨grown_set HGR.out 1 _, rfl, _, HST.out _⟩
      have b0 : decide ((1073741824 : Int) < (m : Int)) = false := decide_eq_false (by omega)
      have hp0 : 0 < SB.size := by omega
      have hpt : 0 < t.length := by omega
      have hc : SB[0] = t[0] := by simp only [HSB.out]; rfl
      cases hz : hp t 48
      · have HZ := Lib.hid hz
        rw [hp_at 48 hpt] at hz
        have c4 : ((t[0].toNat : Int) == 48) = false := hz
        have c5 : ((t[0].toNat : Int) = 48) = False := eq_false (by rw [beq_eq_false_iff_ne] at hz; exact hz)
        clear hz
        obtain ⟨c0, c1⟩ := cell2 HW.out
        have f0 := free2 HW.out 0
        have bz := lt_of_block HW.out
        have HST := Lib.hid (fun u => (stored2 (u := u) HW.out).1)
        go_wp2
        go_ret
        rw [HEQ.out, if_neg (by rintro (h | h | ⟨h, h2⟩) <;> first | omega | exact absurd (HZ.out.symm.trans h) (by decide) | (rcases h2 with h2 | h2 <;> first | omega | exact absurd h2 (by simp)))]
        have hx := HX.out
        refine ⟨grown_set HGR.out 0 _, by simp, ?_⟩
        unfold inO
        rw [← hx]
        exact HST.out _
      · have HZ := Lib.hid hz
        rw [hp_at 48 hpt] at hz
        have c4 : ((t[0].toNat : Int) == 48) = true := hz
        have c5 : ((t[0].toNat : Int) = 48) = True := eq_true (by rw [beq_iff_eq] at hz; exact hz)
        clear hz
        by_cases h1 : 1 < i
        · have d0 : decide ((1 : Int) < (i : Int)) = true := decide_eq_true (by omega)
          obtain ⟨c0, c1⟩ := cell2 HW.out
          have f1 := free2 HW.out 1
          have bz := lt_of_block HW.out
          have HST := Lib.hid (fun u => (stored2 (u := u) HW.out).2)
          go_wp2
          go_ret
          rw [HEQ.out, if_pos (by first | exact .inl (by omega) | exact .inr (.inl (by omega)) | exact .inr (.inr ⟨HZ.out, .inl (by omega)⟩) | exact .inr (.inr ⟨HZ.out, .inr rfl⟩) | exact .inr (.inr ⟨HZ.out, .inr trivial⟩))]
          exact ⟨grown_set HGR.out 1 _, rfl, _, HST.out _⟩
        have d0 : decide ((1 : Int) < (i : Int)) = false := decide_eq_false (by omega)
        obtain ⟨c0, c1⟩ := cell2 HW.out
        have f0 := free2 HW.out 0
        have bz := lt_of_block HW.out
        have HST := Lib.hid (fun u => (stored2 (u := u) HW.out).1)
        go_wp2
        go_ret
        rw [HEQ.out, if_neg (by rintro (h | h | ⟨h, h2⟩) <;> first | omega | exact absurd (HZ.out.symm.trans h) (by decide) | (rcases h2 with h2 | h2 <;> first | omega | exact absurd h2 (by simp)))]
        have hx := HX.out
        refine ⟨grown_set HGR.out 0 _, by simp, ?_⟩
        unfold inO
        rw [← hx]
        exact HST.out _
set_option maxRecDepth 100000 in
set_option maxHeartbeats 8000000 in
theorem rnumber_neg (s : List UInt8) (hs : s.length ≤ 1000000) (hq : hp s 45 = true) (br : Nat) (w : World) (hb : w.heap[br]? = some (inO s false)) :
    Calls Tryd.prog 75 #[.pointer (some ⟨br, 0, none⟩)] w (RNumRet br (rNum s) w) := by
  unfold rNum
  have hl := tp_le s 45
  rw [hq]
  have HSK := Lib.hid (rskip_yes s 45 45 rfl hq br w hb)
  generalize tp s 45 = t at *
  have hlen : t.length ≤ 1000000 := by omega
  have HSIZE : Hid ((ByteArray.mk t.toArray).size = t.length) := Lib.hid (str_size t)
  obtain ⟨SB, hSB⟩ : ∃ SB, SB = ByteArray.mk t.toArray := ⟨_, rfl⟩
  have HSB := Lib.hid hSB
  rw [← hSB] at HSIZE
  clear hb hq hl hSB
  go_enter Tryd.func75, Tryd.ntmps75
  go_wp2_with fail
  refine HSK.out.mono ?_
  rintro e W ⟨rfl, hw0, hg0⟩
  have HW1 := Lib.hid hw0
  have HW0 : Hid (W.heap[br]? = some (.cells #[.string SB, .bool false] 90 (0, 0))) := Lib.hid (by rw [HSB.out]; exact HW1.out)
  have HGR0 := Lib.hid hg0
  clear hw0 hg0 HW1
  go_wp2
  go_loopw [3, 4] (fun n i wr => ∃ (m j : Nat), n = .int .i64 (m : Int) ∧ i = .int .i64 (j : Int) ∧ Hid (DigSt t m j) ∧ Hid (wr = W)) (fun _ i _ => t.length - (intOf i).toNat)
  case atStart => exact ⟨0, 0, rfl, rfl, Lib.hid ⟨Nat.zero_le _, by omega, rfl⟩, Lib.hid rfl⟩
  case round =>
    obtain ⟨m, i, rfl, rfl, HD, HWR⟩ := hrel
    have HW : Hid (wr.heap[br]? = some (.cells #[.string SB, .bool false] 90 (0, 0))) := Lib.hid (by rw [HWR.out]; exact HW0.out)
    have HGR := Lib.hid (show w.grownBy wr (some br) by rw [HWR.out]; exact HGR0.out)
    obtain ⟨c0, c1⟩ := cell2 HW.out
    have bz := lt_of_block HW.out
    have hle := HD.out.le
    have hsm := HD.out.small
    have hsz := HSIZE.out
    have HX : Hid (SB.extract i t.length = ⟨(t.drop i).toArray⟩) := Lib.hid (by rw [HSB.out]; exact str_from t i)
    by_cases hlt : i < t.length
    · have hi2 : i < SB.size := by omega
      have hcc : SB[i] = t[i] := by simp only [HSB.out]; rfl
      have e1 : decide ((i : Int) < (SB.size : Int)) = true := decide_eq_true (by omega)
      by_cases h48 : 48 ≤ t[i].toNat
      · have e2 : decide ((48 : Int) ≤ (t[i].toNat : Int)) = true := decide_eq_true (by omega)
        by_cases h57 : t[i].toNat ≤ 57
        · have e3 : decide ((t[i].toNat : Int) ≤ 57) = true := decide_eq_true (by omega)
          by_cases hmm : m ≤ 1073741824
          · have e4 : decide ((m : Int) ≤ 1073741824) = true := decide_eq_true (by omega)
            have HN := Lib.hid (HD.out.next hlt h48 h57 hmm)
            generalize t[i] = c at *
            go_wp2
            go_roundw
            case rel => exact ⟨10 * m + (c.toNat - 48), i + 1, by go_num, by go_num, HN.out, HWR⟩
            case measure => simp [intOf]; omega
          · have e4 : decide ((m : Int) ≤ 1073741824) = false := decide_eq_false (by omega)
            have HEQ := Lib.hid (num_len (neg := true) (HD.out.stop (.inr (.inl (by omega)))) hle)
            go_upto_region 6 with fail
            by_cases h0 : i = 0
            · have a0 : ((i : Int) == 0) = true := by simp; omega
              have a1 : ((i : Int) = 0) = True := eq_true (by omega)
              have HZ := Lib.hid trivial
              obtain ⟨c0, c1⟩ := cell2 HW.out
              have f1 := free2 HW.out 1
              have bz := lt_of_block HW.out
              have HST := Lib.hid (fun u => (stored2 (u := u) HW.out).2)
              go_wp2
              go_ret
              rw [HEQ.out, if_pos (by first | exact .inl (by omega) | exact .inr (.inl (by omega)) | exact .inr (.inr ⟨HZ.out, .inl (by omega)⟩) | exact .inr (.inr ⟨HZ.out, .inr rfl⟩) | exact .inr (.inr ⟨HZ.out, .inr trivial⟩))]
              exact ⟨grown_set HGR.out 1 _, rfl, _, HST.out _⟩
            have a0 : ((i : Int) == 0) = false := by rw [beq_eq_false_iff_ne]; omega
            have a1 : ((i : Int) = 0) = False := eq_false (by omega)
            by_cases hm : 1073741824 < m
            · have b0 : decide ((1073741824 : Int) < (m : Int)) = true := decide_eq_true (by omega)
              have HZ := Lib.hid trivial
              obtain ⟨c0, c1⟩ := cell2 HW.out
              have f1 := free2 HW.out 1
              have bz := lt_of_block HW.out
              have HST := Lib.hid (fun u => (stored2 (u := u) HW.out).2)
              go_wp2
              go_ret
              rw [HEQ.out, if_pos (by first | exact .inl (by omega) | exact .inr (.inl (by omega)) | exact .inr (.inr ⟨HZ.out, .inl (by omega)⟩) | exact .inr (.inr ⟨HZ.out, .inr rfl⟩) | exact .inr (.inr ⟨HZ.out, .inr trivial⟩))]
              exact ⟨grown_set HGR.out 1 _, rfl, _, HST.out _⟩
            exact absurd (Nat.lt_of_not_le hmm) hm
        · have e3 : decide ((t[i].toNat : Int) ≤ 57) = false := decide_eq_false (by omega)
          have HEQ := Lib.hid (num_len (neg := true) (HD.out.stop (.inr (.inr ⟨hlt, fun h => h57 h.2⟩))) hle)
          go_upto_region 6 with fail
          by_cases h0 : i = 0
          · have a0 : ((i : Int) == 0) = true := by simp; omega
            have a1 : ((i : Int) = 0) = True := eq_true (by omega)
            have HZ := Lib.hid trivial
            obtain ⟨c0, c1⟩ := cell2 HW.out
            have f1 := free2 HW.out 1
            have bz := lt_of_block HW.out
            have HST := Lib.hid (fun u => (stored2 (u := u) HW.out).2)
            go_wp2
            go_ret
            rw [HEQ.out, if_pos (by first | exact .inl (by omega) | exact .inr (.inl (by omega)) | exact .inr (.inr ⟨HZ.out, .inl (by omega)⟩) | exact .inr (.inr ⟨HZ.out, .inr rfl⟩) | exact .inr (.inr ⟨HZ.out, .inr trivial⟩))]
            exact ⟨grown_set HGR.out 1 _, rfl, _, HST.out _⟩
          have a0 : ((i : Int) == 0) = false := by rw [beq_eq_false_iff_ne]; omega
          have a1 : ((i : Int) = 0) = False := eq_false (by omega)
          by_cases hm : 1073741824 < m
          · have b0 : decide ((1073741824 : Int) < (m : Int)) = true := decide_eq_true (by omega)
            have HZ := Lib.hid trivial
            obtain ⟨c0, c1⟩ := cell2 HW.out
            have f1 := free2 HW.out 1
            have bz := lt_of_block HW.out
            have HST := Lib.hid (fun u => (stored2 (u := u) HW.out).2)
            go_wp2
            go_ret
            rw [HEQ.out, if_pos (by first | exact .inl (by omega) | exact .inr (.inl (by omega)) | exact .inr (.inr ⟨HZ.out, .inl (by omega)⟩) | exact .inr (.inr ⟨HZ.out, .inr rfl⟩) | exact .inr (.inr ⟨HZ.out, .inr trivial⟩))]
            exact ⟨grown_set HGR.out 1 _, rfl, _, HST.out _⟩
          have b0 : decide ((1073741824 : Int) < (m : Int)) = false := decide_eq_false (by omega)
          have hp0 : 0 < SB.size := by omega
          have hpt : 0 < t.length := by omega
          have hc : SB[0] = t[0] := by simp only [HSB.out]; rfl
          cases hz : hp t 48
          · have HZ := Lib.hid hz
            rw [hp_at 48 hpt] at hz
            have c4 : ((t[0].toNat : Int) == 48) = false := hz
            have c5 : ((t[0].toNat : Int) = 48) = False := eq_false (by rw [beq_eq_false_iff_ne] at hz; exact hz)
            clear hz
            obtain ⟨c0, c1⟩ := cell2 HW.out
            have f0 := free2 HW.out 0
            have bz := lt_of_block HW.out
            have HST := Lib.hid (fun u => (stored2 (u := u) HW.out).1)
            go_wp2
            go_ret
            rw [HEQ.out, if_neg (by rintro (h | h | ⟨h, h2⟩) <;> first | omega | exact absurd (HZ.out.symm.trans h) (by decide) | (rcases h2 with h2 | h2 <;> first | omega | exact absurd h2 (by simp)))]
            have hx := HX.out
            refine ⟨grown_set HGR.out 0 _, by simp, ?_⟩
            unfold inO
            rw [← hx]
            exact HST.out _
          · have HZ := Lib.hid hz
            rw [hp_at 48 hpt] at hz
            have c4 : ((t[0].toNat : Int) == 48) = true := hz
            have c5 : ((t[0].toNat : Int) = 48) = True := eq_true (by rw [beq_iff_eq] at hz; exact hz)
            clear hz
            by_cases h1 : 1 < i
            · have d0 : decide ((1 : Int) < (i : Int)) = true := decide_eq_true (by omega)
              obtain ⟨c0, c1⟩ := cell2 HW.out
              have f1 := free2 HW.out 1
              have bz := lt_of_block HW.out
              have HST := Lib.hid (fun u => (stored2 (u := u) HW.out).2)
              go_wp2
              go_ret
              rw [HEQ.out, if_pos (by first | exact .inl (by omega) | exact .inr (.inl (by omega)) | exact .inr (.inr ⟨HZ.out, .inl (by omega)⟩) | exact .inr (.inr ⟨HZ.out, .inr rfl⟩) | exact .inr (.inr ⟨HZ.out, .inr trivial⟩))]
              exact ⟨grown_set HGR.out 1 _, rfl, _, HST.out _⟩
            have d0 : decide ((1 : Int) < (i : Int)) = false := decide_eq_false (by omega)
            obtain ⟨c0, c1⟩ := cell2 HW.out
            have f1 := free2 HW.out 1
            have bz := lt_of_block HW.out
            have HST := Lib.hid (fun u => (stored2 (u := u) HW.out).2)
            go_wp2
            go_ret
            rw [HEQ.out, if_pos (by first | exact .inl (by omega) | exact .inr (.inl (by omega)) | exact .inr (.inr ⟨HZ.out, .inl (by omega)⟩) | exact .inr (.inr ⟨HZ.out, .inr rfl⟩) | exact .inr (.inr ⟨HZ.out, .inr trivial⟩))]
            exact ⟨grown_set HGR.out 1 _, rfl, _, HST.out _⟩
      · have e2 : decide ((48 : Int) ≤ (t[i].toNat : Int)) = false := decide_eq_false (by omega)
        have HEQ := Lib.hid (num_len (neg := true) (HD.out.stop (.inr (.inr ⟨hlt, fun h => h48 h.1⟩))) hle)
        go_upto_region 6 with fail
        by_cases h0 : i = 0
        · have a0 : ((i : Int) == 0) = true := by simp; omega
          have a1 : ((i : Int) = 0) = True := eq_true (by omega)
          have HZ := Lib.hid trivial
          obtain ⟨c0, c1⟩ := cell2 HW.out
          have f1 := free2 HW.out 1
          have bz := lt_of_block HW.out
          have HST := Lib.hid (fun u => (stored2 (u := u) HW.out).2)
          go_wp2
          go_ret
          rw [HEQ.out, if_pos (by first | exact .inl (by omega) | exact .inr (.inl (by omega)) | exact .inr (.inr ⟨HZ.out, .inl (by omega)⟩) | exact .inr (.inr ⟨HZ.out, .inr rfl⟩) | exact .inr (.inr ⟨HZ.out, .inr trivial⟩))]
          exact ⟨grown_set HGR.out 1 _, rfl, _, HST.out _⟩
        have a0 : ((i : Int) == 0) = false := by rw [beq_eq_false_iff_ne]; omega
        have a1 : ((i : Int) = 0) = False := eq_false (by omega)
        by_cases hm : 1073741824 < m
        · have b0 : decide ((1073741824 : Int) < (m : Int)) = true := decide_eq_true (by omega)
          have HZ := Lib.hid trivial
          obtain ⟨c0, c1⟩ := cell2 HW.out
          have f1 := free2 HW.out 1
          have bz := lt_of_block HW.out
          have HST := Lib.hid (fun u => (stored2 (u := u) HW.out).2)
          go_wp2
          go_ret
          rw [HEQ.out, if_pos (by first | exact .inl (by omega) | exact .inr (.inl (by omega)) | exact .inr (.inr ⟨HZ.out, .inl (by omega)⟩) | exact .inr (.inr ⟨HZ.out, .inr rfl⟩) | exact .inr (.inr ⟨HZ.out, .inr trivial⟩))]
          exact ⟨grown_set HGR.out 1 _, rfl, _, HST.out _⟩
        have b0 : decide ((1073741824 : Int) < (m : Int)) = false := decide_eq_false (by omega)
        have hp0 : 0 < SB.size := by omega
        have hpt : 0 < t.length := by omega
        have hc : SB[0] = t[0] := by simp only [HSB.out]; rfl
        cases hz : hp t 48
        · have HZ := Lib.hid hz
          rw [hp_at 48 hpt] at hz
          have c4 : ((t[0].toNat : Int) == 48) = false := hz
          have c5 : ((t[0].toNat : Int) = 48) = False := eq_false (by rw [beq_eq_false_iff_ne] at hz; exact hz)
          clear hz
          obtain ⟨c0, c1⟩ := cell2 HW.out
          have f0 := free2 HW.out 0
          have bz := lt_of_block HW.out
          have HST := Lib.hid (fun u => (stored2 (u := u) HW.out).1)
          go_wp2
          go_ret
          rw [HEQ.out, if_neg (by rintro (h | h | ⟨h, h2⟩) <;> first | omega | exact absurd (HZ.out.symm.trans h) (by decide) | (rcases h2 with h2 | h2 <;> first | omega | exact absurd h2 (by simp)))]
          have hx := HX.out
          refine ⟨grown_set HGR.out 0 _, by simp, ?_⟩
          unfold inO
          rw [← hx]
          exact HST.out _
        · have HZ := Lib.hid hz
          rw [hp_at 48 hpt] at hz
          have c4 : ((t[0].toNat : Int) == 48) = true := hz
          have c5 : ((t[0].toNat : Int) = 48) = True := eq_true (by rw [beq_iff_eq] at hz; exact hz)
          clear hz
          by_cases h1 : 1 < i
          · have d0 : decide ((1 : Int) < (i : Int)) = true := decide_eq_true (by omega)
            obtain ⟨c0, c1⟩ := cell2 HW.out
            have f1 := free2 HW.out 1
            have bz := lt_of_block HW.out
            have HST := Lib.hid (fun u => (stored2 (u := u) HW.out).2)
            go_wp2
            go_ret
            rw [HEQ.out, if_pos (by first | exact .inl (by omega) | exact .inr (.inl (by omega)) | exact .inr (.inr ⟨HZ.out, .inl (by omega)⟩) | exact .inr (.inr ⟨HZ.out, .inr rfl⟩) | exact .inr (.inr ⟨HZ.out, .inr trivial⟩))]
            exact ⟨grown_set HGR.out 1 _, rfl, _, HST.out _⟩
          have d0 : decide ((1 : Int) < (i : Int)) = false := decide_eq_false (by omega)
          obtain ⟨c0, c1⟩ := cell2 HW.out
          have f1 := free2 HW.out 1
          have bz := lt_of_block HW.out
          have HST := Lib.hid (fun u => (stored2 (u := u) HW.out).2)
          go_wp2
          go_ret
          rw [HEQ.out, if_pos (by first | exact .inl (by omega) | exact .inr (.inl (by omega)) | exact .inr (.inr ⟨HZ.out, .inl (by omega)⟩) | exact .inr (.inr ⟨HZ.out, .inr rfl⟩) | exact .inr (.inr ⟨HZ.out, .inr trivial⟩))]
          exact ⟨grown_set HGR.out 1 _, rfl, _, HST.out _⟩
    · have e1 : decide ((i : Int) < (SB.size : Int)) = false := decide_eq_false (by omega)
      have HEQ := Lib.hid (num_len (neg := true) (HD.out.stop (.inl (by omega))) hle)
      go_upto_region 6 with fail
      by_cases h0 : i = 0
      · have a0 : ((i : Int) == 0) = true := by simp; omega
        have a1 : ((i : Int) = 0) = True := eq_true (by omega)
        have HZ := Lib.hid trivial
        obtain ⟨c0, c1⟩ := cell2 HW.out
        have f1 := free2 HW.out 1
        have bz := lt_of_block HW.out
        have HST := Lib.hid (fun u => (stored2 (u := u) HW.out).2)
        go_wp2
        go_ret
        rw [HEQ.out, if_pos (by first | exact .inl (by omega) | exact .inr (.inl (by omega)) | exact .inr (.inr ⟨HZ.out, .inl (by omega)⟩) | exact .inr (.inr ⟨HZ.out, .inr rfl⟩) | exact .inr (.inr ⟨HZ.out, .inr trivial⟩))]
        exact ⟨grown_set HGR.out 1 _, rfl, _, HST.out _⟩
      have a0 : ((i : Int) == 0) = false := by rw [beq_eq_false_iff_ne]; omega
      have a1 : ((i : Int) = 0) = False := eq_false (by omega)
      by_cases hm : 1073741824 < m
      · have b0 : decide ((1073741824 : Int) < (m : Int)) = true := decide_eq_true (by omega)
        have HZ := Lib.hid trivial
        obtain ⟨c0, c1⟩ := cell2 HW.out
        have f1 := free2 HW.out 1
        have bz := lt_of_block HW.out
        have HST := Lib.hid (fun u => (stored2 (u := u) HW.out).2)
        go_wp2
        go_ret
        rw [HEQ.out, if_pos (by first | exact .inl (by omega) | exact .inr (.inl (by omega)) | exact .inr (.inr ⟨HZ.out, .inl (by omega)⟩) | exact .inr (.inr ⟨HZ.out, .inr rfl⟩) | exact .inr (.inr ⟨HZ.out, .inr trivial⟩))]
        exact ⟨grown_set HGR.out 1 _, rfl, _, HST.out _⟩
      have b0 : decide ((1073741824 : Int) < (m : Int)) = false := decide_eq_false (by omega)
      have hp0 : 0 < SB.size := by omega
      have hpt : 0 < t.length := by omega
      have hc : SB[0] = t[0] := by simp only [HSB.out]; rfl
      cases hz : hp t 48
      · have HZ := Lib.hid hz
        rw [hp_at 48 hpt] at hz
        have c4 : ((t[0].toNat : Int) == 48) = false := hz
        have c5 : ((t[0].toNat : Int) = 48) = False := eq_false (by rw [beq_eq_false_iff_ne] at hz; exact hz)
        clear hz
        obtain ⟨c0, c1⟩ := cell2 HW.out
        have f0 := free2 HW.out 0
        have bz := lt_of_block HW.out
        have HST := Lib.hid (fun u => (stored2 (u := u) HW.out).1)
        go_wp2
        go_ret
        rw [HEQ.out, if_neg (by rintro (h | h | ⟨h, h2⟩) <;> first | omega | exact absurd (HZ.out.symm.trans h) (by decide) | (rcases h2 with h2 | h2 <;> first | omega | exact absurd h2 (by simp)))]
        have hx := HX.out
        refine ⟨grown_set HGR.out 0 _, by simp, ?_⟩
        unfold inO
        rw [← hx]
        exact HST.out _
      · have HZ := Lib.hid hz
        rw [hp_at 48 hpt] at hz
        have c4 : ((t[0].toNat : Int) == 48) = true := hz
        have c5 : ((t[0].toNat : Int) = 48) = True := eq_true (by rw [beq_iff_eq] at hz; exact hz)
        clear hz
        by_cases h1 : 1 < i
        · have d0 : decide ((1 : Int) < (i : Int)) = true := decide_eq_true (by omega)
          obtain ⟨c0, c1⟩ := cell2 HW.out
          have f1 := free2 HW.out 1
          have bz := lt_of_block HW.out
          have HST := Lib.hid (fun u => (stored2 (u := u) HW.out).2)
          go_wp2
          go_ret
          rw [HEQ.out, if_pos (by first | exact .inl (by omega) | exact .inr (.inl (by omega)) | exact .inr (.inr ⟨HZ.out, .inl (by omega)⟩) | exact .inr (.inr ⟨HZ.out, .inr rfl⟩) | exact .inr (.inr ⟨HZ.out, .inr trivial⟩))]
          exact ⟨grown_set HGR.out 1 _, rfl, _, HST.out _⟩
        have d0 : decide ((1 : Int) < (i : Int)) = false := decide_eq_false (by omega)
        obtain ⟨c0, c1⟩ := cell2 HW.out
        have f1 := free2 HW.out 1
        have bz := lt_of_block HW.out
        have HST := Lib.hid (fun u => (stored2 (u := u) HW.out).2)
        go_wp2
        go_ret
        rw [HEQ.out, if_pos (by first | exact .inl (by omega) | exact .inr (.inl (by omega)) | exact .inr (.inr ⟨HZ.out, .inl (by omega)⟩) | exact .inr (.inr ⟨HZ.out, .inr rfl⟩) | exact .inr (.inr ⟨HZ.out, .inr trivial⟩))]
        exact ⟨grown_set HGR.out 1 _, rfl, _, HST.out _⟩
theorem rnumber_any (s : List UInt8) (hs : s.length ≤ 1000000) (br : Nat) (w : World) (hb : w.heap[br]? = some (inO s false)) :
    Calls Tryd.prog 75 #[.pointer (some ⟨br, 0, none⟩)] w (RNumRet br (rNum s) w) := by
  cases hq : hp s 45
  · exact rnumber_pos s hs hq br w hb
  · exact rnumber_neg s hs hq br w hb
end Go.Proofs.YtjjohllfidmkjaaDoor.PfW

namespace Go.Proofs.YtjjohllfidmkjaaDoor.PfW
open Go Go.RowKit Go.Proofs.YtjjohllfidmkjaaDoor.Mem Go.Proofs.YtjjohllfidmkjaaDoor.Pf

def RPRet (br : Nat) (r : Option (T × List UInt8)) (w : World) (e : Ending) (w' : World) : Prop :=
  w.grownBy w' (some br) ∧ ∃ (s : Int) (A : Option Addr) (m c : Nat) (B : Option Addr) (k d : Nat), e = .returned (.agg #[.int .i64 s, .slice A m c, .slice B k d]) ∧ match r with
    | some (t, rest) => w'.heap[br]? = some (inO rest false) ∧ TreeIn (fun g => w.heap.size ≤ g) w' t [.int .i64 s, .slice A m c, .slice B k d]
    | none => ∃ t, w'.heap[br]? = some (inO t true)
theorem grown_bad {w w' : World} {br : Nat} {s : List UInt8} {b : Bool} (hr : w'.heap[br]? = some (inO s b)) (h : w.grownBy w' (some br)) : w.grownBy (w'.setCell ⟨br, 1, none⟩ (.bool true)) (some br) ∧ (w'.setCell ⟨br, 1, none⟩ (.bool true)).heap[br]? = some (inO s true) :=
  ⟨grown_set h 1 _, by unfold inO at hr ⊢; exact (stored2 (u := .bool true) hr).2⟩

/-- Where the reader of a leaf stands. -/
structure RLSt (br : Nat) (w : World) (acc : List Int) (s : List UInt8) (b : Bool) (v : Value) (wr : World) : Prop where
  rd : wr.heap[br]? = some (inO s b)
  res : wr.heap[w.heap.size]? = some (.cells #[.int .i64 0, .slice none 0 0, .slice none 0 0] 29 (0, 0))
  box : wr.heap[w.heap.size + 1]? = some (.cells #[.int .i64 0, .slice none 0 0, v] 29 (0, 0))
  own : wr.ownsRow (w.heap.size + 2) 3 1 v acc.length (intCells acc)
  grow : w.grownBy wr (some br)
  lt : br < w.heap.size
theorem RLSt.step {br : Nat} {w wr w' : World} {acc : List Int} {s t : List UInt8} {b b' : Bool} {v : Value} (h : RLSt br w acc s b v wr) (hr : w'.heap[br]? = some (inO t b')) (hg : wr.grownBy w' (some br)) : RLSt br w acc t b' v w' := by
  have hlt := h.own.lt
  have h1 := lt_of_block h.res
  have h2 := lt_of_block h.box
  have h3 := h.lt
  refine ⟨hr, (hg.block _ h1 (by intro e; cases e; omega)).trans h.res, (hg.block _ h2 (by intro e; cases e; omega)).trans h.box, ⟨h.own.1, ?_⟩, grown_trans h.grow hg, h3⟩
  rcases h.own.2 with h0 | ⟨g, cap, cur, hv, hb, hh, r⟩
  · exact .inl h0
  · refine .inr ⟨g, cap, cur, hv, hb, ?_, r⟩
    rw [hg.block g (lt_of_block hh) (by intro e; cases e; omega)]; exact hh
theorem RLSt.push {br : Nat} {w wr w1 w2 : World} {acc : List Int} {s : List UInt8} {b : Bool} {v : Value} {x : Int} {g c : Nat} (h : RLSt br w acc s b v wr) (hb : Below wr.heap.size wr w1)
    (hown : w2.ownsRow (w.heap.size + 2) 3 1 (.slice (some ⟨g, 0, none⟩) (acc.length + 1) c) (acc.length + 1) (intCells acc ++ [.int .i64 x])) (hg : w1.grownBy w2 v.ownBlock) :
    RLSt br w (acc ++ [x]) s b (.slice (some ⟨g, 0, none⟩) (acc.length + 1) c) (w2.setCell ⟨w.heap.size + 1, 2, none⟩ (.slice (some ⟨g, 0, none⟩) (acc.length + 1) c)) := by
  have hlt := h.own.lt
  have h1 := lt_of_block h.res
  have h2 := lt_of_block h.box
  have h3 := h.lt
  have hz := hb.size
  have ne : ∀ k, k < w.heap.size + 2 → some k ≠ v.ownBlock := fun k hk e => by have := hlt k e.symm; omega
  have hgo := hown.lt g rfl
  have bx2 : w2.heap[w.heap.size + 1]? = some (.cells #[.int .i64 0, .slice none 0 0, v] 29 (0, 0)) := (hg.block _ (by omega) (ne _ (by omega))).trans ((hb.block _ h2).trans h.box)
  refine ⟨?_, ?_, ?_, ?_, ?_, h3⟩
  · rw [Below.heap_setCell _ _ _ _ (by show br ≠ w.heap.size + 1; omega), hg.block _ (by omega) (ne _ (by omega)), hb.block _ (by omega)]; exact h.rd
  · rw [Below.heap_setCell _ _ _ _ (by show w.heap.size ≠ w.heap.size + 1; omega), hg.block _ (by omega) (ne _ (by omega)), hb.block _ (by omega)]; exact h.res
  · have hlt2 := lt_of_block bx2
    have h' : w2.heap[w.heap.size + 1] = .cells #[.int .i64 0, .slice none 0 0, v] 29 (0, 0) := by simpa [Array.getElem?_eq_getElem hlt2] using bx2
    show (w2.heap.modify _ _)[w.heap.size + 1]? = _
    rw [Array.getElem?_eq_getElem (by simpa using hlt2), Array.getElem_modify_self, h']; rfl
  · rw [List.length_append]
    have e : intCells (acc ++ [x]) = intCells acc ++ [.int .i64 x] := by simp [intCells]
    rw [e]
    exact ownsRow_setCell_other hown (fun e => by have e' : some g = some (w.heap.size + 1) := e; cases e'; omega) _
  · have hg2 : w.grownBy w2 (some br) := ⟨hg.os.trans (hb.os.trans h.grow.os), hg.tape.trans (hb.tape.trans h.grow.tape), hg.output.trans (hb.output.trans h.grow.output), Nat.le_trans h.grow.size (Nat.le_trans hb.size hg.size), fun i hi hne => by
      rw [hg.block i (by have := h.grow.size; omega) (ne i (by omega)), hb.block i (by have := h.grow.size; omega)]; exact h.grow.block i hi hne⟩
    exact grown_new hg2 (by omega) 2 _

/-- Where the reader of kids stands. -/
structure RKSt (br : Nat) (w : World) (x : Int) (n : Nat) (s : List UInt8) (b : Bool) (v : Value) (ws : List Value) (wr : World) : Prop where
  rd : wr.heap[br]? = some (inO s b)
  res : wr.heap[w.heap.size]? = some (.cells #[.int .i64 0, .slice none 0 0, .slice none 0 0] 29 (0, 0))
  box : wr.heap[w.heap.size + 1]? = some (.cells #[.int .i64 x, v, .slice none 0 0] 29 (0, 0))
  own : wr.ownsRow (w.heap.size + 2) 29 3 v n ws
  grow : w.grownBy wr (some br)
  lt : br < w.heap.size
theorem RKSt.step {br n : Nat} {w wr w' : World} {x : Int} {s t : List UInt8} {b b' : Bool} {v : Value} {ws : List Value} (h : RKSt br w x n s b v ws wr) (hr : w'.heap[br]? = some (inO t b')) (hg : wr.grownBy w' (some br)) : RKSt br w x n t b' v ws w' := by
  have hlt := h.own.lt
  have h1 := lt_of_block h.res
  have h2 := lt_of_block h.box
  have h3 := h.lt
  refine ⟨hr, (hg.block _ h1 (by intro e; cases e; omega)).trans h.res, (hg.block _ h2 (by intro e; cases e; omega)).trans h.box, ⟨h.own.1, ?_⟩, grown_trans h.grow hg, h3⟩
  rcases h.own.2 with h0 | ⟨g, cap, cur, hv, hb, hh, r⟩
  · exact .inl h0
  · refine .inr ⟨g, cap, cur, hv, hb, ?_, r⟩
    rw [hg.block g (lt_of_block hh) (by intro e; cases e; omega)]; exact hh
def KidQ (w : World) (v : Value) (g : Nat) : Prop := w.heap.size + 1 < g ∧ v.ownBlock ≠ some g
theorem RKSt.kids_step {br n : Nat} {w wr w' : World} {x : Int} {s : List UInt8} {b : Bool} {v : Value} {ws : List Value} {acc : List T} (h : RKSt br w x n s b v ws wr) (hk : KidsIn (KidQ w v) wr acc ws) (hg : wr.grownBy w' (some br)) : KidsIn (KidQ w v) w' acc ws := by
  have h3 := h.lt
  exact KidsIn.stays (fun g hg1 hg2 => hg.block g hg2 (by intro e; cases e; have := hg1.1; omega)) (fun _ h _ => h) _ _ hk
theorem RKSt.push {br n : Nat} {w wr w1 w2 : World} {x : Int} {s : List UInt8} {b : Bool} {v : Value} {ws kc : List Value} {g c : Nat} (h : RKSt br w x n s b v ws wr) (hb : Below wr.heap.size wr w1)
    (hown : w2.ownsRow (w.heap.size + 2) 29 3 (.slice (some ⟨g, 0, none⟩) (n + 1) c) (n + 1) (ws ++ kc)) (hg : w1.grownBy w2 v.ownBlock) :
    RKSt br w x (n + 1) s b (.slice (some ⟨g, 0, none⟩) (n + 1) c) (ws ++ kc) (w2.setCell ⟨w.heap.size + 1, 1, none⟩ (.slice (some ⟨g, 0, none⟩) (n + 1) c)) := by
  have hlt := h.own.lt
  have h1 := lt_of_block h.res
  have h2 := lt_of_block h.box
  have h3 := h.lt
  have hz := hb.size
  have ne : ∀ k, k < w.heap.size + 2 → some k ≠ v.ownBlock := fun k hk e => by have := hlt k e.symm; omega
  have hgo := hown.lt g rfl
  have bx2 : w2.heap[w.heap.size + 1]? = some (.cells #[.int .i64 x, v, .slice none 0 0] 29 (0, 0)) := (hg.block _ (by omega) (ne _ (by omega))).trans ((hb.block _ h2).trans h.box)
  refine ⟨?_, ?_, stored3 bx2, ?_, ?_, h3⟩
  · rw [Below.heap_setCell _ _ _ _ (by show br ≠ w.heap.size + 1; omega), hg.block _ (by omega) (ne _ (by omega)), hb.block _ (by omega)]; exact h.rd
  · rw [Below.heap_setCell _ _ _ _ (by show w.heap.size ≠ w.heap.size + 1; omega), hg.block _ (by omega) (ne _ (by omega)), hb.block _ (by omega)]; exact h.res
  · exact ownsRow_setCell_other hown (fun e => by have e' : some g = some (w.heap.size + 1) := e; cases e'; omega) _
  · have hg2 : w.grownBy w2 (some br) := ⟨hg.os.trans (hb.os.trans h.grow.os), hg.tape.trans (hb.tape.trans h.grow.tape), hg.output.trans (hb.output.trans h.grow.output), Nat.le_trans h.grow.size (Nat.le_trans hb.size hg.size), fun i hi hne => by
      rw [hg.block i (by have := h.grow.size; omega) (ne i (by omega)), hb.block i (by have := h.grow.size; omega)]; exact h.grow.block i hi hne⟩
    exact grown_new hg2 (by omega) 1 _
theorem RKSt.kids_push {br n : Nat} {w wr w1 w2 : World} {x : Int} {s : List UInt8} {b : Bool} {v : Value} {ws kc : List Value} {acc : List T} {k : T} {g c B0 : Nat} (h : RKSt br w x n s b v ws wr) (hk : KidsIn (KidQ w v) wr acc ws) (hb : Below wr.heap.size wr w1)
    (hT : TreeIn (fun y => B0 ≤ y) w1 k kc) (hB0 : w.heap.size + 1 < B0) (hvB : ∀ y, v.ownBlock = some y → y < B0) (hat : v.ownBlock = some g ∨ w1.heap.size ≤ g) (hg : w1.grownBy w2 v.ownBlock) :
    KidsIn (KidQ w (.slice (some ⟨g, 0, none⟩) (n + 1) c)) (w2.setCell ⟨w.heap.size + 1, 1, none⟩ (.slice (some ⟨g, 0, none⟩) (n + 1) c)) (acc ++ [k]) (ws ++ kc) := by
  have hlt := h.own.lt
  have h2 := lt_of_block h.box
  have hz := hb.size
  have far : ∀ y, y < w1.heap.size → v.ownBlock ≠ some y → y ≠ w.heap.size + 1 → (w2.setCell ⟨w.heap.size + 1, 1, none⟩ (.slice (some ⟨g, 0, none⟩) (n + 1) c)).heap[y]? = w1.heap[y]? := fun y hy hn hne => by
    rw [Below.heap_setCell _ _ _ _ hne]; exact hg.block y hy (fun e => hn e.symm)
  have own' : ∀ y, (Value.slice (some ⟨g, 0, none⟩) (n + 1) c).ownBlock = some y → y = g := fun y e => by
    have : some g = some y := e
    cases this; rfl
  refine KidsIn.snoc ?_ ?_
  · refine TreeIn.stays (S := fun y => B0 ≤ y) (w := w1) (fun y hy hy2 => far y hy2 (fun e => by have := hvB y e; omega) (by omega)) (fun y hy hy2 => ⟨by omega, fun e => ?_⟩) _ _ hT
    have e2 := own' y e
    subst e2
    rcases hat with ha | ha
    · have := hvB _ ha; omega
    · omega
  · refine KidsIn.stays (S := fun y => KidQ w v y ∧ y < wr.heap.size) (w := w1) (fun y hy hy2 => far y hy2 hy.1.2 (by have := hy.1.1; omega)) (fun y hy hy2 => ⟨hy.1.1, fun e => ?_⟩) _ _ (KidsIn.stays (S' := fun y => KidQ w v y ∧ y < wr.heap.size) (fun y hy hy2 => hb.block y hy2) (fun y hy hy2 => ⟨hy, hy2⟩) _ _ hk)
    have e2 := own' y e
    subst e2
    rcases hat with ha | ha
    · exact hy.1.2 ha
    · omega
theorem RKSt.split {br : Nat} {w wr : World} {x : Int} {s : List UInt8} {b : Bool} (h : RKSt br w x 0 s b (.slice none 0 0) [] wr) (y : Int) : RKSt br w y 0 s b (.slice none 0 0) [] (wr.setCell ⟨w.heap.size + 1, 0, none⟩ (.int .i64 y)) := by
  have h3 := h.lt
  refine ⟨?_, ?_, ?_, World.ownsRow_nil _ _ _ _, grown_new h.grow (Nat.le_succ _) 0 _, h3⟩
  · rw [Below.heap_setCell _ _ _ _ (by show br ≠ w.heap.size + 1; omega)]; exact h.rd
  · rw [Below.heap_setCell _ _ _ _ (by show w.heap.size ≠ w.heap.size + 1; omega)]; exact h.res
  · have hlt := lt_of_block h.box
    have h' : wr.heap[w.heap.size + 1] = .cells #[.int .i64 x, .slice none 0 0, .slice none 0 0] 29 (0, 0) := by simpa [Array.getElem?_eq_getElem hlt] using h.box
    show (wr.heap.modify _ _)[w.heap.size + 1]? = _
    rw [Array.getElem?_eq_getElem (by simpa using hlt), Array.getElem_modify_self, h']; rfl
/-- The tree gathered. -/
theorem RKSt.tree {br n : Nat} {w wr : World} {x : Int} {s : List UInt8} {b : Bool} {A : Option Addr} {c : Nat} {ws : List Value} {acc : List T} (h : RKSt br w x n s b (.slice A n c) ws wr) (hn : n = acc.length) (hk : KidsIn (KidQ w (.slice A n c)) wr acc ws) (hc : n ≤ c) :
    TreeIn (fun g => w.heap.size < g) wr (.mk x acc []) [.int .i64 x, .slice A n c, .slice none 0 0] := by
  subst hn
  unfold TreeIn
  refine ⟨A, c, none, 0, ws, rfl, hc, Nat.le_refl _, ?_, KidsIn.stays (fun _ _ _ => rfl) (fun y hy _ => by have := hy.1; show w.heap.size < y; omega) _ _ hk, fun hne => absurd rfl hne⟩
  intro hne
  obtain ⟨g, off, rfl, hg, hcell⟩ := Row.of_own h.own hne
  refine ⟨g, off, rfl, ?_, hg, hcell⟩
  rcases h.own.2 with ⟨h0, _⟩ | ⟨g', cap, cur, hv, hb', _⟩
  · cases h0
  · cases hv; show w.heap.size < g; omega
theorem RLSt.tree {br : Nat} {w wr : World} {acc : List Int} {s : List UInt8} {b : Bool} {A : Option Addr} {c : Nat} (h : RLSt br w acc s b (.slice A acc.length c) wr) (hc : acc.length ≤ c) :
    TreeIn (fun g => w.heap.size < g) wr (.mk 0 [] acc) [.int .i64 0, .slice none 0 0, .slice A acc.length c] := by
  unfold TreeIn
  refine ⟨none, 0, A, c, [], rfl, Nat.le_refl _, hc, fun hne => absurd rfl hne, by unfold KidsIn; rfl, ?_⟩
  intro hne
  obtain ⟨g, off, rfl, hg, hcell⟩ := Row.of_own h.own hne
  refine ⟨g, off, rfl, ?_, hg, hcell⟩
  rcases h.own.2 with ⟨h0, _⟩ | ⟨g', cap, cur, hv, hb', _⟩
  · cases h0
  · cases hv; show w.heap.size < g; omega
theorem rleaf_end {f : Nat} {acc : List Int} {s : List UInt8} (h : hp s 41 = true) : rLeaf (f + 1) acc s = some (acc, tp s 41) := by rw [rLeaf, if_pos h]
theorem rleaf_sep {f : Nat} {acc : List Int} {s : List UInt8} (h : hp s 41 = false) (h1 : 0 < acc.length) (h2 : hp s 32 = false) : rLeaf (f + 1) acc s = none := by rw [rLeaf, if_neg (by rw [h]; simp), if_pos ⟨h1, h2⟩]
theorem rleaf_go {f : Nat} {acc : List Int} {s r : List UInt8} (h : hp s 41 = false) (h1 : (acc.length = 0 ∧ r = s) ∨ (0 < acc.length ∧ hp s 32 = true ∧ r = tp s 32)) :
    rLeaf (f + 1) acc s = match rNum r with | none => none | some (n, r2) => rLeaf f (acc ++ [n]) r2 := by
  rcases h1 with ⟨h1, rfl⟩ | ⟨h1, h2, rfl⟩
  · rw [rLeaf, if_neg (by rw [h]; simp), if_neg (by omega), if_neg (by omega)]
    cases rNum r <;> rfl
  · rw [rLeaf, if_neg (by rw [h]; simp), if_neg (by rw [h2]; simp), if_pos h1]
    cases rNum (tp s 32) <;> rfl
def rLeafT : Option (List Int × List UInt8) → Option (T × List UInt8)
  | none => none
  | some (l, r) => some (.mk 0 [] l, r)
def rNodeT (x : Int) : Option (List T × List UInt8) → Option (T × List UInt8)
  | none => none
  | some (ks, r) => if ks.length = 0 then none else some (.mk x ks [], r)
theorem rtree_bad {f d : Nat} {s : List UInt8} (h : 40 < d) : rTree (f + 1) d s = none := by rw [rTree, if_pos h]
theorem rtree_leaf {f d : Nat} {s : List UInt8} (h : ¬ 40 < d) (h1 : hp s 40 = true) : rTree (f + 1) d s = rLeafT (rLeaf f [] (tp s 40)) := by
  rw [rTree, if_neg h, if_pos h1]
  cases rLeaf f [] (tp s 40) <;> rfl
theorem rtree_no {f d : Nat} {s : List UInt8} (h : ¬ 40 < d) (h1 : hp s 40 = false) (h2 : hp s 91 = false) : rTree (f + 1) d s = none := by
  rw [rTree, if_neg h, if_neg (by rw [h1]; simp), if_neg (by rw [h2]; simp)]
theorem rtree_node {f d : Nat} {s : List UInt8} (h : ¬ 40 < d) (h1 : hp s 40 = false) (h2 : hp s 91 = true) : rTree (f + 1) d s = match rNum (tp s 91) with | none => none | some (x, r2) => rNodeT x (rKids f d [] r2) := by
  rw [rTree, if_neg h, if_neg (by rw [h1]; simp), if_pos h2]
  cases hn : rNum (tp s 91) with
  | none => rfl
  | some p =>
    obtain ⟨x, r2⟩ := p
    cases hk : rKids f d [] r2 with
    | none => simp only [hk]; rfl
    | some q => obtain ⟨ks, r3⟩ := q; simp only [hk]; rfl
theorem rkids_end {f d : Nat} {acc : List T} {s : List UInt8} (h : hp s 93 = true) : rKids (f + 1) d acc s = some (acc, tp s 93) := by rw [rKids, if_pos h]
theorem rkids_no {f d : Nat} {acc : List T} {s : List UInt8} (h : hp s 93 = false) (h1 : hp s 32 = false) : rKids (f + 1) d acc s = none := by
  rw [rKids, if_neg (by rw [h]; simp), if_pos h1]
theorem rkids_none {f d : Nat} {acc : List T} {s : List UInt8} (h : hp s 93 = false) (h2 : hp s 32 = true) (h1 : rTree f (d + 1) (tp s 32) = none) : rKids (f + 1) d acc s = none := by
  rw [rKids, if_neg (by rw [h]; simp), if_neg (by rw [h2]; simp), h1]
theorem rkids_go {f d : Nat} {acc : List T} {s r : List UInt8} {k : T} (h : hp s 93 = false) (h2 : hp s 32 = true) (h1 : rTree f (d + 1) (tp s 32) = some (k, r)) : rKids (f + 1) d acc s = rKids f d (acc ++ [k]) r := by
  rw [rKids, if_neg (by rw [h]; simp), if_neg (by rw [h2]; simp), h1]
end Go.Proofs.YtjjohllfidmkjaaDoor.PfW
