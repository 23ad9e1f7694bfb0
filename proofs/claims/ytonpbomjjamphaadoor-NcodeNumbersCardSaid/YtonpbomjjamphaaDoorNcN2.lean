/- The law NcodeNumbers, walked. Conditions: the library's variables hold what a start lays. -/
import Derived.Test.YtonpbomjjamphaaDoorNcN1
import Derived.Test.YtonpbomjjamphaaDoorNcP6
import Derived.Test.YtonpbomjjamphaaDoorNcRV
import Derived.Test.YtonpbomjjamphaaDoorNcE
import Derived.Deep.RegionHeld3
import Derived.Deep.QuietTactic
import Derived.BigQuiet
namespace Go.Proofs.YtonpbomjjamphaaDoor.NcW
open Go Go.RowKit Go.Proofs.YtonpbomjjamphaaDoor.Mem

theorem cells_new2 (w : World) (a b : Value) (T : TypeId) : (w.alloc (.cells #[a, b] T)).cell? ⟨w.heap.size, 0, none⟩ = some a ∧ (w.alloc (.cells #[a, b] T)).cell? ⟨w.heap.size, 1, none⟩ = some b ∧ w.heap.size < (w.alloc (.cells #[a, b] T)).heap.size := by
  refine ⟨?_, ?_, ?_⟩ <;> simp
theorem held2 {wr w0 w' : World} {a b : Addr} {va vb : Value} (h : w0.cell? a = some va ∧ w0.cell? b = some vb ∧ Below wr.heap.size wr w0) (hb : Below w0.heap.size w0 w')
    (ha : a.block < wr.heap.size) (eb : b.block = a.block) :
    w'.cell? a = some va ∧ w'.cell? b = some vb ∧ Below wr.heap.size wr w' := by
  obtain ⟨h1, h2, h9⟩ := h
  have hz := h9.size
  exact ⟨(hb.cell (by omega)).trans h1, (hb.cell (by omega)).trans h2, h9.trans (hb.mono hz)⟩
theorem own_neq (k x y : Int) (w : World) : (binOp .neq 62 (.agg #[.int .i64 k, .int .i64 x, .int .i64 y]) (.agg #[.int .i64 k, .int .i64 x, .int .i64 y])).run Tryd.prog w = .ok (.bool false) w := by
  have u3 := Tryd.underlying3
  have a3 := Tryd.isAgg3
  have z3 := Tryd.sizeOf3
  have a24 := Tryd.isAgg24
  have z24 := Tryd.sizeOf24
  have hS : Tryd.prog.underlying 62 = some (.struct (Tryd.prog.fieldsOf 62)) := by kernel_rfl
  have hp : Tryd.prog.stoodInHeld 62 = false := by kernel_rfl
  have hS2 : Tryd.prog.underlying 24 = some (.struct (Tryd.prog.fieldsOf 24)) := by kernel_rfl
  have hp2 : Tryd.prog.stoodInHeld 24 = false := by kernel_rfl
  have hv : ∀ W : World, (Op.equalIn 9999 24 (.agg #[.int .i64 x, .int .i64 y]) (.agg #[.int .i64 x, .int .i64 y])).run Tryd.prog W = .ok true W := by
    intro W
    rw [show (9999 : Nat) = 9998 + 1 from rfl, run_equalIn_agg W 9998 24 _ _ hS2 hp2]
    simp only [Program.fieldsOf, Tryd.underlying24]
    go_simp
  rw [run_neq_struct, show (10000 : Nat) = 9999 + 1 from rfl, run_equalIn_agg w 9999 62 _ _ hS hp]
  simp only [Program.fieldsOf, Tryd.underlying62]
  go_simp

/-- Parse of a text of one good line: the program's row. -/
theorem parse_one (s : List UInt8) (m : Nc.Mv) (w : World) (hs : s.length ≤ 1000000) (hG : Glob w) (hr : runL s = ([m], 0, 0)) :
    Calls Tryd.prog 25 #[.string ⟨s.toArray⟩] w fun e w' => (∃ g c, e = .returned (.tuple #[.slice (some ⟨g, 0, none⟩) 1 c, .int .i64 0, .int .i64 0]) ∧ g < w'.heap.size ∧ w'.cell? ⟨g, 0, none⟩ = some (.int .i64 m.k) ∧ w'.cell? ⟨g, 1, none⟩ = some (.int .i64 m.x) ∧ w'.cell? ⟨g, 2, none⟩ = some (.int .i64 m.y)) ∧ Below w.heap.size w w' :=
  (parse_any s w hs hG).mono fun e w' ⟨⟨v, he, hrow⟩, hb⟩ => by
    unfold runL at hr
    rw [hr] at he hrow
    obtain ⟨g, c, rfl, _, _, hg, ca⟩ := own_get mv_len rfl hrow (by simp)
    exact ⟨⟨g, c, he, hg, by simpa [mvCells] using ca 0 (by simp) 0 (by decide), by simpa [mvCells] using ca 0 (by simp) 1 (by decide), by simpa [mvCells] using ca 0 (by simp) 2 (by decide)⟩, hb⟩
theorem parse_end (s : List UInt8) (n : Nat) (j : Int) (w : World) (hs : s.length ≤ 1000000) (hG : Glob w) (hr : runL s = ([], n, j)) :
    Calls Tryd.prog 25 #[.string ⟨s.toArray⟩] w fun e w' => (∃ A c, e = .returned (.tuple #[.slice A 0 c, .int .i64 n, .int .i64 j])) ∧ Below w.heap.size w w' :=
  (parse_run s w hs hG).mono fun e w' h => by
    rw [hr] at h
    exact h
theorem small_rem (x : Int) : small (x.tmod 2001) := by
  unfold small
  have h1 := Int.tmod_lt_of_pos x (b := 2001) (by decide)
  have h2 := Int.lt_tmod_of_pos x (b := 2001) (by decide)
  omega

set_option maxRecDepth 100000 in
set_option maxHeartbeats 4000000 in
theorem ncodeNumbers_walk (x y n : Int) (w : World) (_ : (Lit.int .i16 x).wf = true) (_ : (Lit.int .i16 y).wf = true) (hn : (Lit.int .u8 n).wf = true) (hG : Glob w) :
    Calls Tryd.prog 8 #[.int .i16 x, .int .i16 y, .int .u8 n] w fun e w' => e = .returned (.bool true) ∧ Below w.heap.size w w' := by
  have HG := Lib.hid hG
  clear hG
  have hvx := small_rem (wrap64 x)
  have hvy := small_rem (wrap64 y)
  have hn2 : 0 ≤ n ∧ n ≤ 255 := by
    simp [Lit.wf, IntKind.min, IntKind.max, IntKind.bits, IntKind.signed] at hn
    omega
  generalize hgx : (wrap64 x).tmod 2001 = vx at *
  generalize hgy : (wrap64 y).tmod 2001 = vy at *
  have HGX := Lib.hid hgx
  have HGY := Lib.hid hgy
  clear hgx hgy hn
  have hab : 0 ≤ Nc.ab vx ∧ Nc.ab vx ≤ 2000 := by unfold Nc.ab; unfold small at hvx; split <;> omega
  have hix : I64 vx := by unfold small at hvx; unfold I64; omega
  have hiy : I64 vy := by unfold small at hvy; unfold I64; omega
  have hin : I64 n := by unfold I64; omega
  have hia : I64 (Nc.ab vx) := by unfold I64; omega
  have HIX := Lib.hid (fun W => ritoa_any vx W hix.1 hix.2)
  have HIY := Lib.hid (fun W => ritoa_any vy W hiy.1 hiy.2)
  have HIN := Lib.hid (fun W => ritoa_any n W hin.1 hin.2)
  have HIA := Lib.hid (fun W => ritoa_any (Nc.ab vx) W hia.1 hia.2)
  have HAB := Lib.hid (fun W => rabs_any vx W (by unfold small at hvx; omega))
  have lx := itoa_len vx hix
  have ly := itoa_len vy hiy
  have ln := itoa_len n hin
  have la := itoa_len (Nc.ab vx) hia
  have HP1 := Lib.hid (fun W h => parse_one _ _ W (by simp; omega) h (num_one hvx hvy))
  have HP3 := Lib.hid (fun W h => parse_end _ _ _ W (by simp; omega) h (num_three hab))
  have HP4 := Lib.hid (fun W h => parse_end _ _ _ W (by simp; omega) h (num_four hvy))
  have HP5 := Lib.hid (fun W h => parse_end _ _ _ W (by decide) h num_five)
  have s1 : (ByteArray.mk ([78, 49, 48, 32] ++ ([71, 48, 49, 32, 88] ++ Lib.itoa vx ++ [32, 89] ++ Lib.itoa vy) ++ [10]).toArray) = ByteArray.mk #[78, 49, 48] ++ (ByteArray.mk #[32, 71, 48, 49, 32, 88] ++ ByteArray.mk (Lib.itoa vx).toArray ++ ByteArray.mk #[32, 89] ++ ByteArray.mk (Lib.itoa vy).toArray ++ ByteArray.mk #[10]) := by
    symm; apply str_eq; simp
  have s3 : (ByteArray.mk ([78, 49, 48, 32] ++ ([71, 48, 49] ++ [32, 88] ++ (48 :: Lib.itoa (Nc.ab vx)) ++ [32, 89] ++ [48]) ++ [10]).toArray) = ByteArray.mk #[78, 49, 48, 32, 71, 48, 49, 32, 88, 48] ++ ByteArray.mk (Lib.itoa (Nc.ab vx)).toArray ++ ByteArray.mk #[32, 89, 48, 10] := by
    symm; apply str_eq; simp
  have s4 : (ByteArray.mk ([78, 49, 48, 32] ++ ([71, 48, 49] ++ [32, 88] ++ [50, 48, 48, 49] ++ [32, 89] ++ Lib.itoa vy) ++ [10]).toArray) = ByteArray.mk #[78, 49, 48, 32, 71, 48, 49, 32, 88, 50, 48, 48, 49, 32, 89] ++ ByteArray.mk (Lib.itoa vy).toArray ++ ByteArray.mk #[10] := by
    symm; apply str_eq; simp
  have s5 : (ByteArray.mk (([78, 49, 48, 32] : List UInt8) ++ ([71, 48, 48] ++ [32, 88] ++ [43, 49] ++ [32, 89] ++ [48]) ++ [10]).toArray) = ByteArray.mk #[78, 49, 48, 32, 71, 48, 48, 32, 88, 43, 49, 32, 89, 48, 10] := rfl
  have s2 : (ByteArray.mk ((78 :: (Lib.itoa n ++ 32 :: ([71, 48, 49, 32, 88] ++ Lib.itoa vx ++ [32, 89] ++ Lib.itoa vy))) ++ [10]).toArray) = ByteArray.mk #[78] ++ ByteArray.mk (Lib.itoa n).toArray ++ (ByteArray.mk #[32, 71, 48, 49, 32, 88] ++ ByteArray.mk (Lib.itoa vx).toArray ++ ByteArray.mk #[32, 89] ++ ByteArray.mk (Lib.itoa vy).toArray ++ ByteArray.mk #[10]) := by
    symm; apply str_eq; simp
  have HP2 : Hid (∀ W, Glob W → Calls Tryd.prog 25 #[.string (ByteArray.mk #[78] ++ ByteArray.mk (Lib.itoa n).toArray ++ (ByteArray.mk #[32, 71, 48, 49, 32, 88] ++ ByteArray.mk (Lib.itoa vx).toArray ++ ByteArray.mk #[32, 89] ++ ByteArray.mk (Lib.itoa vy).toArray ++ ByteArray.mk #[10]))] W fun e w' => (∃ A k c, e = .returned (.tuple #[.slice A k c, .int .i64 0, .int .i64 (if n = 10 then 0 else 3)])) ∧ Below W.heap.size W w') := Lib.hid (fun W h => by
    rw [← s2]
    have hl : ((78 :: (Lib.itoa n ++ 32 :: ([71, 48, 49, 32, 88] ++ Lib.itoa vx ++ [32, 89] ++ Lib.itoa vy))) ++ [10]).length ≤ 1000000 := by simp; omega
    refine (parse_run _ W hl h).mono ?_
    rintro e w' ⟨⟨A, c, he⟩, hb⟩
    rw [num_two hvx hvy hn2] at he
    by_cases h10 : n = 10
    · rw [if_pos h10] at he ⊢
      exact ⟨⟨A, _, c, he⟩, hb⟩
    · rw [if_neg h10] at he ⊢
      exact ⟨⟨A, _, c, he⟩, hb⟩)
  rw [s1] at HP1
  rw [s3] at HP3
  rw [s4] at HP4
  rw [s5] at HP5
  clear s1 s2 s3 s4 s5 hix hiy hin hia hab
  rw [← str_size] at lx ly ln la
  generalize (ByteArray.mk (Lib.itoa vx).toArray) = XB at *
  generalize (ByteArray.mk (Lib.itoa vy).toArray) = YB at *
  generalize (ByteArray.mk (Lib.itoa n).toArray) = NB at *
  generalize (ByteArray.mk (Lib.itoa (Nc.ab vx)).toArray) = AB at *
  generalize Nc.ab vx = ax at *
  have m1 : (9223372036854775807 < 6 + XB.size) = False := eq_false (by omega)
  have m2 : (9223372036854775807 < 6 + XB.size + 2) = False := eq_false (by omega)
  have m3 : (9223372036854775807 < 6 + XB.size + 2 + YB.size) = False := eq_false (by omega)
  have m4 : (9223372036854775807 < 6 + XB.size + 2 + YB.size + 1) = False := eq_false (by omega)
  have m5 : (9223372036854775807 < 3 + (6 + XB.size + 2 + YB.size + 1)) = False := eq_false (by omega)
  have m6 : (9223372036854775807 < 1 + NB.size) = False := eq_false (by omega)
  have m7 : (9223372036854775807 < 1 + NB.size + (6 + XB.size + 2 + YB.size + 1)) = False := eq_false (by omega)
  have m8 : (9223372036854775807 < 10 + AB.size) = False := eq_false (by omega)
  have m9 : (9223372036854775807 < 10 + AB.size + 4) = False := eq_false (by omega)
  have ma : (9223372036854775807 < 15 + YB.size) = False := eq_false (by omega)
  have mb : (9223372036854775807 < 15 + YB.size + 1) = False := eq_false (by omega)
  clear lx ly ln la hvx hvy
  go_enter Tryd.func8, Tryd.ntmps8
  go_wp2_with fail
  refine (awake_any _ HG.out.laid).mono ?_
  rintro e w1 ⟨rfl, hb1⟩
  have HB1 := Lib.hid hb1
  clear hb1
  go_wp2_with fail
  rw [HGX.out, HGY.out]
  have HQ := Lib.hid (cells_new2 w1 (.int .i64 vx) (.int .i64 vy) 24)
  have HBW := Lib.hid (HB1.out.trans ((Below.refl w1.heap.size w1).alloc (Nat.le_refl _) (.cells #[.int .i64 vx, .int .i64 vy] 24) |>.mono HB1.out.size))
  have HG1 := Lib.hid (HG.out.below HBW.out)
  generalize w1.alloc (.cells #[.int .i64 vx, .int .i64 vy] 24) = W0 at *
  generalize hbb : w1.heap.size = b at *
  obtain ⟨q0, q1, qz⟩ := HQ.out
  clear hbb HB1
  go_region_held3 (fun w' => w'.cell? ⟨b, 0, none⟩ = some (.int .i64 vx) ∧ w'.cell? ⟨b, 1, none⟩ = some (.int .i64 vy) ∧ Below W0.heap.size W0 w')
    (first | assumption | exact ⟨q0, q1, below_drew (Below.refl _ _)⟩ | (refine held2 ?_ hb4 qz rfl; assumption))
    (first | (go_at_call_of 26 (Value.int .i64 vx); refine (HIX.out _).mono ?_; rintro e w4 ⟨rfl, hb4⟩) | (go_at_call_of 26 (Value.int .i64 vy); refine (HIY.out _).mono ?_; rintro e w4 ⟨rfl, hb4⟩))
  all_goals (
    obtain ⟨p0, p1, hbF⟩ := ‹_ ∧ _ ∧ Below _ _ _›
    have HK4 := Lib.hid hbF
    have hz4 := Nat.lt_of_lt_of_le qz hbF.size
    clear q0 q1 hbF
    clear ‹_ ∧ _ ∧ Below _ _ _›
    go_wp2_with fail
    refine (HP1.out w4 (HG1.out.below HK4.out)).mono ?_
    rintro e w5 ⟨⟨g, c, rfl, hg, c0, c1, c2⟩, hb5⟩
    have d0 := (hb5.cell (p := ⟨b, 0, none⟩) hz4).trans p0
    have d1 := (hb5.cell (p := ⟨b, 1, none⟩) hz4).trans p1
    have HK5 := Lib.hid (HK4.out.trans (hb5.mono HK4.out.size))
    have hz5 := Nat.lt_of_lt_of_le hz4 hb5.size
    clear hb5 p0 p1 HK4
    have hneq := own_neq 2 vx vy
    go_wp2_with fail
    go_quiet (fail)
    go_wp2_with fail
    have d0_6 : (w5.drewN nq).cell? ⟨b, 0, none⟩ = some (.int .i64 vx) := d0
    have d1_6 : (w5.drewN nq).cell? ⟨b, 1, none⟩ = some (.int .i64 vy) := d1
    have HK6 := Lib.hid (below_drewN HK5.out nq)
    have hz6 : b < (w5.drewN nq).heap.size := hz5
    generalize w5.drewN nq = W6 at *
    clear d0 d1 c0 c1 c2 hg HK5 hz5 hneq
    refine (HIN.out _).mono ?_
    rintro e w7 ⟨rfl, hb7⟩
    have d0_7 := (hb7.cell (p := ⟨b, 0, none⟩) hz6).trans d0_6
    have d1_7 := (hb7.cell (p := ⟨b, 1, none⟩) hz6).trans d1_6
    have HK7 := Lib.hid (HK6.out.trans (hb7.mono HK6.out.size))
    have hz7 := Nat.lt_of_lt_of_le hz6 hb7.size
    clear hb7 d0_6 d1_6 HK6
    go_wp2_with fail
    refine (HP2.out _ (HG1.out.below HK7.out)).mono ?_
    rintro e w8 ⟨⟨A8, k8, c8, rfl⟩, hb8⟩
    have d0_8 := (hb8.cell (p := ⟨b, 0, none⟩) hz7).trans d0_7
    have d1_8 := (hb8.cell (p := ⟨b, 1, none⟩) hz7).trans d1_7
    have HK8 := Lib.hid (HK7.out.trans (hb8.mono HK7.out.size))
    have hz8 := Nat.lt_of_lt_of_le hz7 hb8.size
    clear hb8 d0_7 d1_7 HK7
    by_cases h10 : n = 10
    all_goals (
      first
      | (rw [if_pos h10]; subst h10)
      | (rw [if_neg h10]; have hne : (n == 10) = false := by simpa using h10)
      go_wp2_with fail
      refine (HAB.out _).mono ?_
      rintro e w8' ⟨rfl, rfl⟩
      go_wp2_with fail
      refine (HIA.out _).mono ?_
      rintro e w9 ⟨rfl, hb9⟩
      have d0_9 := (hb9.cell (p := ⟨b, 0, none⟩) hz8).trans d0_8
      have d1_9 := (hb9.cell (p := ⟨b, 1, none⟩) hz8).trans d1_8
      have HK9 := Lib.hid (HK8.out.trans (hb9.mono HK8.out.size))
      have hz9 := Nat.lt_of_lt_of_le hz8 hb9.size
      clear hb9 d0_8 d1_8 HK8
      go_wp2_with fail
      refine (HP3.out _ (HG1.out.below HK9.out)).mono ?_
      rintro e w10 ⟨⟨A10, c10, rfl⟩, hb10⟩
      have d0_10 := (hb10.cell (p := ⟨b, 0, none⟩) hz9).trans d0_9
      have d1_10 := (hb10.cell (p := ⟨b, 1, none⟩) hz9).trans d1_9
      have HK10 := Lib.hid (HK9.out.trans (hb10.mono HK9.out.size))
      have hz10 := Nat.lt_of_lt_of_le hz9 hb10.size
      clear hb10 d0_9 d1_9 HK9
      go_wp2_with fail
      refine (HIY.out _).mono ?_
      rintro e w11 ⟨rfl, hb11⟩
      have d0_11 := (hb11.cell (p := ⟨b, 0, none⟩) hz10).trans d0_10
      have d1_11 := (hb11.cell (p := ⟨b, 1, none⟩) hz10).trans d1_10
      have HK11 := Lib.hid (HK10.out.trans (hb11.mono HK10.out.size))
      have hz11 := Nat.lt_of_lt_of_le hz10 hb11.size
      clear hb11 d0_10 d1_10 HK10
      go_wp2_with fail
      refine (HP4.out _ (HG1.out.below HK11.out)).mono ?_
      rintro e w12 ⟨⟨A12, c12, rfl⟩, hb12⟩
      have d0_12 := (hb12.cell (p := ⟨b, 0, none⟩) hz11).trans d0_11
      have d1_12 := (hb12.cell (p := ⟨b, 1, none⟩) hz11).trans d1_11
      have HK12 := Lib.hid (HK11.out.trans (hb12.mono HK11.out.size))
      have hz12 := Nat.lt_of_lt_of_le hz11 hb12.size
      clear hb12 d0_11 d1_11 HK11
      go_wp2_with fail
      refine (HP5.out _ (HG1.out.below HK12.out)).mono ?_
      rintro e w13 ⟨⟨A13, c13, rfl⟩, hb13⟩
      have d0_13 := (hb13.cell (p := ⟨b, 0, none⟩) hz12).trans d0_12
      have d1_13 := (hb13.cell (p := ⟨b, 1, none⟩) hz12).trans d1_12
      have HK13 := Lib.hid (HK12.out.trans (hb13.mono HK12.out.size))
      have hz13 := Nat.lt_of_lt_of_le hz12 hb13.size
      clear hb13 d0_12 d1_12 HK12
      go_wp2_with fail
      go_ret
      exact ⟨rfl, HBW.out.trans (HK13.out.mono HBW.out.size)⟩))
end Go.Proofs.YtonpbomjjamphaaDoor.NcW
