/- Walks: the reference's Parse. Conditions: the text has at most a million bytes. -/
import Derived.Test.YtonpbomjjamphaaGreatDoorNcX2
import Derived.Test.YtonpbomjjamphaaGreatDoorNcO
namespace Go.Proofs.YtonpbomjjamphaaGreatDoor.NcW
open Go Go.RowKit Go.Proofs.YtonpbomjjamphaaGreatDoor.Mem
attribute [local go_sem ↓] Go.wp_at_zero Go.wp_at_succ

theorem str_piece (s : List UInt8) (p i : Nat) : (ByteArray.mk s.toArray).extract p i = ⟨((s.drop p).take (i - p)).toArray⟩ := by
  apply str_eq
  simp [ByteArray.data_extract]
def ParsePost (R : List Nc.Mv × Nat × Int) (w : World) (e : Ending) (w' : World) : Prop :=
  (∃ v, e = .returned (.tuple #[v, .int .i64 (R.2.1 : Nat), .int .i64 R.2.2]) ∧ w'.ownsRow w.heap.size 53 3 v R.1.length (R.1.flatMap mvCells)) ∧ Below w.heap.size w w'
theorem post_nil {R : List Nc.Mv × Nat × Int} {n : Nat} {j : Int} (h : R = ([], n, j)) {w w' : World} (hb : Below w.heap.size w w') : ParsePost R w (.returned (.tuple #[.slice none 0 0, .int .i64 (n : Nat), .int .i64 j])) w' := by
  subst h
  exact ⟨⟨_, rfl, World.ownsRow_nil _ _ _ _⟩, hb⟩

set_option maxRecDepth 100000 in
set_option maxHeartbeats 4000000 in
theorem rparse_any (s : List UInt8) (w : World) (hs : s.length ≤ 1000000) :
    Calls Tryz.prog 6 #[.string ⟨s.toArray⟩] w (ParsePost (runL s) w) := by
  have hss : (ByteArray.mk s.toArray).size = s.length := str_size s
  have HR0 : Hid (runL s = parseL (linesOf (s.drop 0)) []) := Lib.hid (by rw [List.drop_zero]; rfl)
  generalize runL s = R at *
  obtain ⟨i0, ia, ib, ic, id⟩ := info_parts info_theirs_any
  go_enter Tryz.func6, Tryz.ntmps6
  go_wp2
  go_loopw [5, 6, 7] (fun v f t wr => ∃ (p i : Nat) (acc : List Nc.Mv), f = .int .i64 p ∧ t = .int .i64 i ∧ p ≤ i ∧ i ≤ s.length ∧ acc.length ≤ 2000 ∧ Hid (R = parseL (linesOf (s.drop p)) acc) ∧ Hid ((10 : UInt8) ∉ (s.drop p).take (i - p)) ∧ Hid (wr.ownsRow w.heap.size 53 3 v acc.length (acc.flatMap mvCells)) ∧ Below w.heap.size w wr) (fun _ _ t _ => s.length - (intOf t).toNat)
  case atStart => exact ⟨0, 0, [], rfl, rfl, by omega, by omega, by simp, HR0, Lib.hid (by simp), Lib.hid (World.ownsRow_nil _ _ _ _), Below.refl _ _⟩
  case round =>
    obtain ⟨p, i, acc, rfl, rfl, hpi, his, hal, hR, hno, hown, hbel⟩ := hrel
    clear HR0
    by_cases hil : i < s.length
    · by_cases h10 : s[i] = 10
      · have hv : ((((ByteArray.mk s.toArray)[i]'(by rw [hss]; exact hil)).toNat : Int) == 10) = true := by
          show ((s[i].toNat : Int) == 10) = true
          rw [h10]; rfl
        have HRR := Lib.hid (hR.out.trans (run_round (acc := acc) hpi hil hno.out h10))
        have hll : ((s.drop p).take (i - p)).length ≤ 1000000 := by simp; omega
        have HRD := Lib.hid (fun W => rread_any ((s.drop p).take (i - p)) acc.length W hll (by omega))
        rw [← str_piece] at HRD
        generalize lnR ((s.drop p).take (i - p)) acc.length = res at *
        obtain ⟨⟨mk, mx, my⟩, me⟩ := res
        simp only at HRD HRR
        obtain ⟨A, c, rfl, _⟩ := own_shape hown.out
        clear hll h10
        go_wp2_with fail
        refine (HRD.out _).mono ?_
        rintro e w2 ⟨rfl, hb2⟩
        have hown2 := own_below hown.out hb2
        have HO2 := Lib.hid hown2
        have hbe2 := hbel.trans (hb2.mono hbel.size)
        clear hb2 hown hown2 hbel HRD
        by_cases hme : me = 0
        · subst hme
          rw [if_neg (by simp)] at HRR
          by_cases h2000 : acc.length = 2000
          · rw [if_pos h2000] at HRR
            have HV : Hid (R = ([], 2000, 9)) := Lib.hid (by rw [HRR.out, h2000])
            have hlb : ((acc.length : Int) == 2000) = true := by simp; omega
            clear HRR
            go_wp2
            go_ret3
            exact post_nil HV.out (hbe2.alloc hbe2.size _)
          · rw [if_neg h2000] at HRR
            have hlb : ((acc.length : Int) == 2000) = false := by simp; omega
            have hz2 := hbe2.size
            go_wp2_with (at_builtin; refine wpList_append_own _ rfl _ _ 27 rfl w.heap.size 53 i0 _ 3 24 Tryz.underlying27 ia ib ic id rfl (by omega) _ _ _ rfl ((HO2.out.alloc _).alloc _) ⟨w2.heap.size + 1, 0, none⟩ 1 1 [.int .i64 mk, .int .i64 mx, .int .i64 my] rfl rfl ?c1 ?c2 ?c3 ?c4 ?c5 ?_)
            case c1 =>
              have := cells_newl3 (w2.alloc (.cells #[.int .i64 mk, .int .i64 mx, .int .i64 my] 53)) (.int .i64 mk) (.int .i64 mx) (.int .i64 my) 53
              simpa using this
            case c2 => intro u hu; simp at hu; rcases hu with rfl | rfl | rfl <;> rfl
            case c3 => unfold maxLen; omega
            case c4 => omega
            case c5 => simp; omega
            · intro v' w3 hown3 hg3 _
              have hb3 : Below w.heap.size w w3 := below_append ((hbe2.alloc (by omega) _).alloc (by simp; omega) _) (by simp; omega) ((HO2.out.alloc _).alloc _) hg3 (Nat.le_refl _)
              have HO3 : Hid (w3.ownsRow w.heap.size 53 3 v' (acc ++ [(⟨mk, mx, my⟩ : Nc.Mv)]).length ((acc ++ [(⟨mk, mx, my⟩ : Nc.Mv)]).flatMap mvCells)) := Lib.hid (by
                rw [flatMap_snoc, List.length_append]
                exact hown3)
              clear hg3 hown3 hbe2 HO2
              go_wp2
              go_roundw
              case rel => exact ⟨i + 1, i + 1, acc ++ [(⟨mk, mx, my⟩ : Nc.Mv)], by go_num, by go_num, by omega, by omega, by simp; omega, HRR, Lib.hid (by simp), HO3, hb3⟩
              case measure => simp [intOf]; omega
        · rw [if_pos hme] at HRR
          have HV := HRR
          have hmb : (me == 0) = false := by simpa using hme
          clear HRR
          go_wp2
          go_ret3
          exact post_nil HV.out (hbe2.alloc hbe2.size _)
      · have hv : ((((ByteArray.mk s.toArray)[i]'(by rw [hss]; exact hil)).toNat : Int) == 10) = false := by
          show ((s[i].toNat : Int) == 10) = false
          have : s[i].toNat ≠ 10 := fun e => h10 (UInt8.toNat_inj.1 e)
          simp; omega
        have hno2 : Hid ((10 : UInt8) ∉ (s.drop p).take (i + 1 - p)) := Lib.hid (by
          rw [show i + 1 - p = (i - p) + 1 by omega, List.take_succ_eq_append_getElem (by simp; omega)]
          intro h
          rcases List.mem_append.1 h with h | h
          · exact hno.out h
          · simp [show p + (i - p) = i by omega] at h; exact h10 h.symm)
        go_wp2
        go_roundw
        case rel => exact ⟨p, i + 1, acc, rfl, by go_num, by omega, by omega, hal, hR, hno2, hown, hbel⟩
        case measure => simp [intOf]; omega
    · obtain rfl : i = s.length := by omega
      obtain ⟨A, c, rfl, _⟩ := own_shape hown.out
      by_cases hp : p < s.length
      · have HV := Lib.hid (hR.out.trans (run_last hp (by
          have := hno.out
          rwa [List.take_of_length_le (by simp)] at this)))
        have hpb : decide ((p : Int) < (s.length : Int)) = true := by simp; omega
        go_wp2
        go_ret3
        exact post_nil HV.out hbel
      · obtain rfl : p = s.length := by omega
        have HV := Lib.hid (hR.out.trans run_over)
        have hpb : decide ((s.length : Int) < (s.length : Int)) = false := by simp
        go_wp2
        go_ret3
        unfold ParsePost
        rw [HV.out]
        exact ⟨⟨_, rfl, hown.out⟩, hbel⟩
end Go.Proofs.YtonpbomjjamphaaGreatDoor.NcW
