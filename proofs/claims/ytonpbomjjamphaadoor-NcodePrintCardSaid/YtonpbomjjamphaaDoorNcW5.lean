/- Walks: a valid program, by the reference. Conditions: the program lies in memory and has at most a million moves. -/
import Derived.Test.YtonpbomjjamphaaDoorNcW4
namespace Go.Proofs.YtonpbomjjamphaaDoor.NcW
open Go Go.RowKit Go.Proofs.YtonpbomjjamphaaDoor.Mem

theorem rwithin_any (x y m : Int) (hm : 0 ≤ m ∧ m ≤ 1000000) (w : World) : Calls Tryd.prog 28 #[.agg #[.int .i64 x, .int .i64 y], .int .i64 m] w fun e w' => e = .returned (.bool (Nc.within x y m)) ∧ Below w.heap.size w w' := by
  have hb : Below w.heap.size w (w.alloc (.cells #[.int .i64 x, .int .i64 y] 24)) := (Below.refl _ _).alloc (Nat.le_refl _) _
  have HB := Lib.hid hb
  clear hb
  have n1 : IntKind.i64.wrap (-m) = -m := by rw [IntKind.wrap_i64]; omega
  have e : Nc.within x y m = (decide (-m ≤ x) && decide (x ≤ m) && decide (-m ≤ y) && decide (y ≤ m)) := rfl
  rw [e]
  clear e
  rcases (show x < -m ∨ (-m ≤ x ∧ m < x) ∨ (-m ≤ x ∧ x ≤ m ∧ y < -m) ∨ (-m ≤ x ∧ x ≤ m ∧ -m ≤ y ∧ m < y) ∨ (-m ≤ x ∧ x ≤ m ∧ -m ≤ y ∧ y ≤ m) by omega) with h | h | h | h | h
  all_goals
    go_enter Tryd.func28, Tryd.ntmps28
    go_wp2
    go_ret
    refine ⟨ret_bool ?_, HB.out⟩
    rw [Bool.eq_iff_iff]
    simp
    omega

/-- The five ways of a move. -/
theorem ok_ways (m : Nc.Mv) : (decide (m.k < 1) = true ∧ Nc.ok m = false) ∨ (decide (m.k < 1) = false ∧ decide ((6 : Int) < m.k) = true ∧ Nc.ok m = false) ∨
    (decide (m.k < 1) = false ∧ decide ((6 : Int) < m.k) = false ∧ Nc.within m.x m.y 2000 = false ∧ Nc.ok m = false) ∨
    (decide (m.k < 1) = false ∧ decide ((6 : Int) < m.k) = false ∧ Nc.within m.x m.y 2000 = true ∧ Nc.moving m.k = true ∧ Nc.ok m = true) ∨
    (decide (m.k < 1) = false ∧ decide ((6 : Int) < m.k) = false ∧ Nc.within m.x m.y 2000 = true ∧ Nc.moving m.k = false ∧ Nc.ok m = ((m.x == 0) && (m.y == 0))) := by
  obtain ⟨k, x, y⟩ := m
  simp only [Nc.ok]
  by_cases h1 : k < 1
  · left
    have : Nc.moving k = false := by simp [Nc.moving]; omega
    rw [this]
    simp [h1]; omega
  right
  by_cases h6 : 6 < k
  · left
    have : Nc.moving k = false := by simp [Nc.moving]; omega
    rw [this]
    simp [h1, h6]; omega
  right
  have d1 : decide (k < 1) = false := by simpa using h1
  have d6 : decide ((6 : Int) < k) = false := by simpa using h6
  cases hw : Nc.within x y 2000
  · left
    refine ⟨d1, d6, rfl, ?_⟩
    split
    · rfl
    · have : ((x == 0) && (y == 0)) = false := by
        rw [Bool.eq_false_iff]
        intro h
        simp at h
        obtain ⟨rfl, rfl⟩ := h
        simp [Nc.within] at hw
      rw [this]; simp
  · right
    cases hm : Nc.moving k
    · right
      refine ⟨d1, d6, rfl, rfl, ?_⟩
      have hk : ((k == 3) || (k == 4) || (k == 6)) = true := by
        simp [Nc.moving] at hm
        simp; omega
      rw [hk]; simp
    · left
      exact ⟨d1, d6, rfl, rfl, rfl⟩

set_option maxRecDepth 100000 in
set_option maxHeartbeats 1000000 in
theorem rvalid_any (l : List Nc.Mv) (A : Option Addr) (c : Nat) (w : World) (hr : Row w A (l.flatMap mvCells)) (hl : l.length ≤ 1000000) :
    Calls Tryd.prog 10 #[.slice A l.length c] w fun e w' => e = .returned (.bool (Nc.valid l)) ∧ Below w.heap.size w w' := by
  have hm : Tryd.prog.eqGuardType Tryd.prog.depth 24 = false := by kernel_rfl
  by_cases h0 : l.length = 0
  · have : l = [] := List.eq_nil_of_length_eq_zero h0
    subst this
    clear h0
    go_enter Tryd.func10, Tryd.ntmps10
    go_wp2
    refine wp_loop_rounds 1 ?_
    rw [rounds_succ]
    go_wp2
    go_ret
    exact ⟨rfl, Below.refl _ _⟩
  · obtain ⟨g0, off, rfl, hg0, ca⟩ := row_get mv_len (by decide) hr (Nat.pos_of_ne_zero h0)
    have CA := Lib.hid ca
    clear ca hr h0
    have hst : Hid (∀ m ∈ l.take 0, Nc.ok m = true) := Lib.hid (by simp)
    go_enter Tryd.func10, Tryd.ntmps10
    go_wp2
    go_loopw [3] (fun t wr => ∃ k : Nat, k ≤ l.length ∧ t = .int .i64 k ∧ Hid (∀ m ∈ l.take k, Nc.ok m = true) ∧ Below w.heap.size w wr) (fun t _ => l.length - (intOf t).toNat)
    case atStart => exact ⟨0, Nat.zero_le _, rfl, hst, Below.refl _ _⟩
    case round =>
      obtain ⟨k, hk, rfl, hd, hbel⟩ := hrel
      by_cases hlt : k < l.length
      · have a0 := (hbel.cell (p := ⟨g0, _, none⟩) hg0).trans (CA.out k hlt 0 (by decide))
        have a1 := (hbel.cell (p := ⟨g0, _, none⟩) hg0).trans (CA.out k hlt 1 (by decide))
        have a2 := (hbel.cell (p := ⟨g0, _, none⟩) hg0).trans (CA.out k hlt 2 (by decide))
        have hbad : Hid (Nc.ok l[k] = false → Nc.valid l = false) := Lib.hid (by
          intro h
          have : l.all Nc.ok = false := by
            rw [Bool.eq_false_iff]
            intro h9
            rw [List.all_eq_true] at h9
            have := h9 _ (List.getElem_mem hlt)
            rw [h] at this; cases this
          simp [Nc.valid, this])
        have hgood : Hid (Nc.ok l[k] = true → ∀ m ∈ l.take (k + 1), Nc.ok m = true) := Lib.hid (by
          intro h m hm
          rw [take_snoc' l k hlt] at hm
          rcases List.mem_append.1 hm with h1 | h1
          · exact hd.out m h1
          · simp at h1; subst h1; exact h)
        have hways := ok_ways l[k]
        generalize l[k] = m at *
        obtain ⟨mk, mx, my⟩ := m
        simp only [mvCells, List.getElem?_cons_zero, List.getElem?_cons_succ, Nat.add_zero] at a0 a1 a2 hways
        have hne := vec_neq mx my
        have HW := Lib.hid (fun W => rwithin_any mx my 2000 (by omega) W)
        have HG := Lib.hid (fun W => goes_any mk W)
        rcases hways with ⟨h1, h9⟩ | ⟨h1, h6, h9⟩ | ⟨h1, h6, hw, h9⟩ | ⟨h1, h6, hw, hmv, h9⟩ | ⟨h1, h6, hw, hmv, h9⟩
        · have H9 := Lib.hid h9
          clear h9
          go_wp2
          go_ret
          rw [hbad.out H9.out]
          exact ⟨rfl, hbel⟩
        · have H9 := Lib.hid h9
          clear h9
          go_wp2
          go_ret
          rw [hbad.out H9.out]
          exact ⟨rfl, hbel⟩
        · have H9 := Lib.hid h9
          rw [hw] at HW
          clear h9 hw
          go_wp2_with fail
          refine (HW.out _).mono ?_
          rintro e w2 ⟨rfl, hb2⟩
          go_wp2
          go_ret
          rw [hbad.out H9.out]
          exact ⟨rfl, hbel.trans (hb2.mono hbel.size)⟩
        · have H9 := Lib.hid h9
          rw [hw] at HW
          rw [hmv] at HG
          clear h9 hw hmv
          go_wp2_with fail
          refine (HW.out _).mono ?_
          rintro e w2 ⟨rfl, hb2⟩
          rw [← hb2.cell (p := ⟨g0, _, none⟩) (Nat.lt_of_lt_of_le hg0 hbel.size)] at a0 a1 a2
          have hb12 := hbel.trans (hb2.mono hbel.size)
          clear hb2 hbel
          go_wp2_with fail
          refine (HG.out _).mono ?_
          rintro e w3 ⟨rfl, rfl⟩
          go_wp2
          go_roundw
          case rel => exact ⟨k + 1, hlt, by go_num, Lib.hid (hgood.out H9.out), hb12⟩
          case measure => simp [intOf]; omega
        · rw [hw] at HW
          rw [hmv] at HG
          clear hw hmv
          cases hz : ((mx == 0) && (my == 0))
          · rw [hz] at h9 hne
            have H9 := Lib.hid h9
            clear h9 hz
            go_wp2_with fail
            refine (HW.out _).mono ?_
            rintro e w2 ⟨rfl, hb2⟩
            rw [← hb2.cell (p := ⟨g0, _, none⟩) (Nat.lt_of_lt_of_le hg0 hbel.size)] at a0 a1 a2
            have hb12 := hbel.trans (hb2.mono hbel.size)
            clear hb2 hbel
            go_wp2_with fail
            refine (HG.out _).mono ?_
            rintro e w3 ⟨rfl, rfl⟩
            go_wp2
            go_ret
            rw [hbad.out H9.out]
            exact ⟨rfl, hb12⟩
          · rw [hz] at h9 hne
            have H9 := Lib.hid h9
            clear h9 hz
            go_wp2_with fail
            refine (HW.out _).mono ?_
            rintro e w2 ⟨rfl, hb2⟩
            rw [← hb2.cell (p := ⟨g0, _, none⟩) (Nat.lt_of_lt_of_le hg0 hbel.size)] at a0 a1 a2
            have hb12 := hbel.trans (hb2.mono hbel.size)
            clear hb2 hbel
            go_wp2_with fail
            refine (HG.out _).mono ?_
            rintro e w3 ⟨rfl, rfl⟩
            go_wp2
            go_roundw
            case rel => exact ⟨k + 1, hlt, by go_num, Lib.hid (hgood.out H9.out), hb12⟩
            case measure => simp [intOf]; omega
      · obtain rfl : k = l.length := by omega
        have hall : Hid (Nc.valid l = decide ((l.length : Int) ≤ 2000)) := Lib.hid (by
          have h := hd.out
          rw [List.take_length] at h
          have h2 : l.all Nc.ok = true := List.all_eq_true.2 h
          unfold Nc.valid
          rw [h2, Bool.and_true, Bool.eq_iff_iff]; simp; omega)
        go_wp2
        go_ret
        rw [hall.out]
        exact ⟨rfl, hbel⟩
end Go.Proofs.YtonpbomjjamphaaDoor.NcW
