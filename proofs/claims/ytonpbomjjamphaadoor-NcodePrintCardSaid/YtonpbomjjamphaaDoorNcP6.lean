/- The law NcodeLines, walked. Conditions: the library's variables hold what a start lays. -/
import Derived.Test.YtonpbomjjamphaaDoorNcP5
import Derived.Test.YtonpbomjjamphaaDoorNcAw
namespace Go.Proofs.YtonpbomjjamphaaDoor.NcW
open Go Go.RowKit Go.Proofs.YtonpbomjjamphaaDoor.Mem

theorem str_take (s : List UInt8) (q : Nat) : (ByteArray.mk s.toArray).extract 0 q = ⟨(s.take q).toArray⟩ := by
  apply str_eq
  simp [ByteArray.data_extract]

theorem parse_run (s : List UInt8) (w : World) (hs : s.length ≤ 1000000) (hG : Glob w) :
    Calls Tryd.prog 25 #[.string ⟨s.toArray⟩] w fun e w' => (∃ A c, e = .returned (.tuple #[.slice A (runL s).1.length c, .int .i64 ((runL s).2.1 : Nat), .int .i64 (runL s).2.2])) ∧ Below w.heap.size w w' :=
  (parse_any s w hs hG).mono fun e w' ⟨⟨v, he, hrow⟩, hb⟩ => by
    obtain ⟨A, c, rfl, _⟩ := own_shape hrow
    exact ⟨⟨A, c, he⟩, hb⟩

set_option maxRecDepth 100000 in
set_option maxHeartbeats 4000000 in
theorem ncodeLines_walk (s tail : List UInt8) (w : World) (hG : Glob w) :
    Calls Tryd.prog 7 #[.string ⟨s.toArray⟩, .string ⟨tail.toArray⟩] w fun e w' => e = .returned (.bool true) ∧ Below w.heap.size w w' := by
  have hss : (ByteArray.mk s.toArray).size = s.length := str_size s
  have hst : (ByteArray.mk tail.toArray).size = tail.length := str_size tail
  have HG := Lib.hid hG
  by_cases hl : s.length ≤ 1000
  case neg =>
    clear hG
    go_enter Tryd.func7, Tryd.ntmps7
    go_wp2_with fail
    refine (awake_any _ HG.out.laid).mono ?_
    rintro e w1 ⟨rfl, hb1⟩
    go_wp2
    go_ret
    exact ⟨rfl, hb1⟩
  by_cases hlt : tail.length ≤ 1000
  case neg =>
    clear hG
    go_enter Tryd.func7, Tryd.ntmps7
    go_wp2_with fail
    refine (awake_any _ HG.out.laid).mono ?_
    rintro e w1 ⟨rfl, hb1⟩
    go_wp2
    go_ret
    exact ⟨rfl, hb1⟩
  have HP := Lib.hid (fun W h => parse_run s W (by omega) h)
  by_cases he : (runL s).2.2 = 0
  case pos =>
    have HP2 := Lib.hid (fun W h => parse_run (s ++ [71, 48, 48, 10] ++ tail) W (by simp; omega) h)
    rw [runL_more s tail he] at HP2
    rw [he] at HP
    clear hG he
    generalize runL s = rn at *
    obtain ⟨rp, rn, re⟩ := rn
    dsimp only at HP HP2
    go_enter Tryd.func7, Tryd.ntmps7
    go_wp2_with fail
    refine (awake_any _ HG.out.laid).mono ?_
    rintro e w1 ⟨rfl, hb1⟩
    have HB1 := Lib.hid hb1
    clear hb1
    go_wp2_with fail
    refine (HP.out w1 (HG.out.below HB1.out)).mono ?_
    rintro e w2 ⟨⟨A, c, rfl⟩, hb2⟩
    have HB2 := Lib.hid (HB1.out.trans (hb2.mono HB1.out.size))
    clear hb2
    go_wp2_with fail
    refine (HP2.out w2 (HG.out.below HB2.out)).mono ?_
    rintro e w3 ⟨⟨A3, c3, rfl⟩, hb3⟩
    have HB3 := Lib.hid (HB2.out.trans (hb3.mono HB2.out.size))
    clear hb3
    go_wp2
    go_ret
    exact ⟨rfl, HB3.out⟩
  have hne : ((runL s).2.2 == 0) = false := by simpa using he
  have HNONE := Lib.hid (fun k p ha hk hno => runL_none (s := s) (k := k) (p := p) he ha hk hno)
  have HSOME := Lib.hid (fun q p h1 h2 => runL_some (s := s) (q := q) (p := p) tail he h1 h2)
  have HQ := Lib.hid (fun q W h => parse_run (s.take q) W (by simp; omega) h)
  have HQT := Lib.hid (fun q W h => parse_run (s.take q ++ tail) W (by simp; omega) h)
  clear hG he
  generalize runL s = rs at *
  obtain ⟨rp, n, re⟩ := rs
  dsimp only at HP hne HNONE HSOME
  go_enter Tryd.func7, Tryd.ntmps7
  go_wp2_with fail
  refine (awake_any _ HG.out.laid).mono ?_
  rintro e w1 ⟨rfl, hb1⟩
  have HB1 := Lib.hid hb1
  clear hb1
  go_wp2_with fail
  refine (HP.out w1 (HG.out.below HB1.out)).mono ?_
  rintro e w2 ⟨⟨A, c, rfl⟩, hb2⟩
  have HB2 := Lib.hid (HB1.out.trans (hb2.mono HB1.out.size))
  clear hb2
  go_wp2_with fail
  go_loop [11, 12, 13, 14] (fun a b c d => ∃ k q p i : Nat, a = .int .i64 k ∧ b = .int .i64 q ∧ c = .int .i64 p ∧ d = .int .i64 i ∧ k ≤ n + 1 ∧ k ≤ i ∧ p ≤ i ∧ q ≤ s.length ∧ i ≤ s.length ∧ Hid (At s k p) ∧ Hid (∀ j, k = j + 1 → At s j q) ∧ Hid ((10 : UInt8) ∉ (s.drop p).take (i - p))) (fun _ _ _ d => s.length - (intOf d).toNat)
  case atStart => exact ⟨0, 0, 0, 0, rfl, rfl, rfl, rfl, by omega, by omega, by omega, by omega, by omega, Lib.hid (At.zero s), Lib.hid (fun j h => by omega), Lib.hid (by simp)⟩
  case round =>
    obtain ⟨k, q, p, i, rfl, rfl, rfl, rfl, hkn, hki, hpi, hqs, his, ha, hf, hno⟩ := hrel
    by_cases hil : i < s.length
    · by_cases hk : k ≤ n
      · by_cases h10 : s[i] = 10
        · have hv : ((((ByteArray.mk s.toArray)[i]'(by rw [hss]; exact hil)).toNat : Int) == 10) = true := by
            show ((s[i].toNat : Int) == 10) = true
            rw [h10]; rfl
          have ha2 := Lib.hid (ha.out.step hpi hil hno.out h10)
          have hfj : Hid (∀ j, k + 1 = j + 1 → At s j p) := Lib.hid (fun j h => by
            obtain rfl : k = j := by omega
            exact ha.out)
          go_wp2
          go_round
          case rel => exact ⟨k + 1, p, i + 1, i + 1, by go_num, rfl, by go_num, by go_num, by omega, by omega, by omega, by omega, by omega, ha2, hfj, Lib.hid (by simp)⟩
          case measure => simp [intOf]; omega
        · have hv : ((((ByteArray.mk s.toArray)[i]'(by rw [hss]; exact hil)).toNat : Int) == 10) = false := by
            show ((s[i].toNat : Int) == 10) = false
            have : s[i].toNat ≠ 10 := fun e => h10 (UInt8.toNat_inj.1 e)
            simp; omega
          have hno2 : Hid ((10 : UInt8) ∉ (s.drop p).take (i + 1 - p)) := Lib.hid (by
            rw [show i + 1 - p = (i - p) + 1 by omega, List.take_succ_eq_append_getElem (by simp; omega)]
            intro h
            rcases List.mem_append.1 h with h | h
            · exact hno.out h
            · simp [show p + (i - p) = i by omega] at h; exact h10 h.symm)
          go_wp2
          go_round
          case rel => exact ⟨k, q, p, i + 1, rfl, rfl, rfl, by go_num, by omega, by omega, by omega, by omega, by omega, ha, hf, hno2⟩
          case measure => simp [intOf]; omega
      · obtain rfl : k = n + 1 := by omega
        obtain ⟨b1, b2, b3, b4⟩ := HSOME.out q p (hf.out n rfl) ha.out
        have HQ1 := Lib.hid (HQ.out q)
        rw [b1, b2, ← str_take] at HQ1
        have HQ2 := Lib.hid (HQT.out p)
        rw [b3, b4, ← str_append, ← str_take] at HQ2
        clear b1 b2 b3 b4
        generalize (runL (s.take q)).2.1 = y at *
        generalize (runL (s.take p ++ tail)).1.length = z at *
        have hps : p ≤ s.length := ha.out.le
        go_wp2_with fail
        refine (HQ1.out w2 (HG.out.below HB2.out)).mono ?_
        rintro e w3 ⟨⟨A3, c3, rfl⟩, hb3⟩
        have HB3 := Lib.hid (HB2.out.trans (hb3.mono HB2.out.size))
        clear hb3
        go_wp2_with fail
        refine (HQ2.out w3 (HG.out.below HB3.out)).mono ?_
        rintro e w4 ⟨⟨A4, c4, rfl⟩, hb4⟩
        have HB4 := Lib.hid (HB3.out.trans (hb4.mono HB3.out.size))
        clear hb4
        go_wp2
        go_ret
        exact ⟨rfl, HB4.out⟩
    · by_cases hk : k ≤ n
      · have hno3 : (10 : UInt8) ∉ s.drop p := by
          have := hno.out
          rwa [List.take_of_length_le (by simp; omega)] at this
        obtain ⟨b1, b2⟩ := HNONE.out k p ha.out hk hno3
        have HQ1 := Lib.hid (HQ.out p)
        rw [b1, b2, ← str_take] at HQ1
        clear b1 b2 hno3
        generalize (runL (s.take p)).2.1 = y at *
        have hps : p ≤ s.length := ha.out.le
        go_wp2_with fail
        refine (HQ1.out w2 (HG.out.below HB2.out)).mono ?_
        rintro e w3 ⟨⟨A3, c3, rfl⟩, hb3⟩
        have HB3 := Lib.hid (HB2.out.trans (hb3.mono HB2.out.size))
        clear hb3
        go_wp2
        go_ret
        exact ⟨rfl, HB3.out⟩
      · obtain rfl : k = n + 1 := by omega
        obtain ⟨b1, b2, b3, b4⟩ := HSOME.out q p (hf.out n rfl) ha.out
        have HQ1 := Lib.hid (HQ.out q)
        rw [b1, b2, ← str_take] at HQ1
        have HQ2 := Lib.hid (HQT.out p)
        rw [b3, b4, ← str_append, ← str_take] at HQ2
        clear b1 b2 b3 b4
        generalize (runL (s.take q)).2.1 = y at *
        generalize (runL (s.take p ++ tail)).1.length = z at *
        have hps : p ≤ s.length := ha.out.le
        go_wp2_with fail
        refine (HQ1.out w2 (HG.out.below HB2.out)).mono ?_
        rintro e w3 ⟨⟨A3, c3, rfl⟩, hb3⟩
        have HB3 := Lib.hid (HB2.out.trans (hb3.mono HB2.out.size))
        clear hb3
        go_wp2_with fail
        refine (HQ2.out w3 (HG.out.below HB3.out)).mono ?_
        rintro e w4 ⟨⟨A4, c4, rfl⟩, hb4⟩
        have HB4 := Lib.hid (HB3.out.trans (hb4.mono HB3.out.size))
        clear hb4
        go_wp2
        go_ret
        exact ⟨rfl, HB4.out⟩

theorem ncodeLines_bytes (x y : ByteArray) (w : World) (hG : Glob w) :
    Calls Tryd.prog 7 #[.string x, .string y] w fun e w' => e = .returned (.bool true) ∧ Below w.heap.size w w' := by
  have h := ncodeLines_walk x.data.toList y.data.toList w hG
  rwa [show ByteArray.mk x.data.toList.toArray = x by cases x; simp, show ByteArray.mk y.data.toList.toArray = y by cases y; simp] at h
end Go.Proofs.YtonpbomjjamphaaDoor.NcW
