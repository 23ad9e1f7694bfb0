/- Walk: the reference's notation of a number. Conditions: at most 2^30 in absolute value. -/
import Derived.Test.YtjjohllfidmkjaaDoorPfX6
namespace Go.Proofs.YtjjohllfidmkjaaDoor.PfW
open Go Go.RowKit Go.Proofs.YtjjohllfidmkjaaDoor.Mem Go.Proofs.YtjjohllfidmkjaaDoor.Pf
theorem str_append (a b : List UInt8) : (ByteArray.mk a.toArray) ++ (ByteArray.mk b.toArray) = ⟨(a ++ b).toArray⟩ := by
  apply ByteArray.ext
  simp [ByteArray.data_append]
theorem dec_small (k : Nat) (h : k < 10) : Lib.decDigits k = [UInt8.ofNat (48 + k)] := by
  rw [Lib.decDigits, dif_pos h]
theorem dec_step (k : Nat) (h : ¬ k < 10) : Lib.decDigits k = Lib.decDigits (k / 10) ++ [UInt8.ofNat (48 + k % 10)] := by
  rw [Lib.decDigits, dif_neg h]
theorem conv_rune (w : World) (r : Int) (h0 : 0 ≤ r) (h : r < 10) : (convert 21 9 (.int .i32 (48 + r))).run Tryd.prog w = .ok (.string ⟨#[UInt8.ofNat (48 + r.toNat)]⟩) w := by
  rcases (show r = 0 ∨ r = 1 ∨ r = 2 ∨ r = 3 ∨ r = 4 ∨ r = 5 ∨ r = 6 ∨ r = 7 ∨ r = 8 ∨ r = 9 by omega) with rfl | rfl | rfl | rfl | rfl | rfl | rfl | rfl | rfl | rfl <;> (go_simp; rfl)
set_option maxRecDepth 100000 in
set_option maxHeartbeats 1000000 in
theorem digits_leaf (k : Nat) (hlt : k < 10) (w : World) : Calls Tryd.prog 68 #[.int .i64 (k : Int)] w fun e w' => e = .returned (.string ⟨#[UInt8.ofNat (48 + k)]⟩) ∧ w' = w := by
  have hcv := conv_rune w (k : Int) (by omega) (by omega)
  go_enter Tryd.func68, Tryd.ntmps68
  go_wp2
  go_ret
  rw [UInt8.ofNat_add]
  exact ⟨rfl, rfl⟩
set_option maxRecDepth 100000 in
set_option maxHeartbeats 4000000 in
theorem digits_nat : ∀ (m k : Nat) (w : World), k ≤ m → k ≤ 4000000000 → Calls Tryd.prog 68 #[.int .i64 (k : Int)] w fun e w' => e = .returned (.string ⟨(Lib.decDigits k).toArray⟩) ∧ w' = w := by
  intro m
  induction m with
  | zero =>
    intro k w h _
    rw [dec_small k (by omega)]
    exact digits_leaf k (by omega) w
  | succ m ih =>
    intro k w h hk
    by_cases hlt : k < 10
    · rw [dec_small k hlt]
      exact digits_leaf k hlt w
    · have HI : Hid (∀ w, Calls Tryd.prog 68 #[.int .i64 ((k : Int) / 10)] w fun e w' => e = .returned (.string ⟨(Lib.decDigits (k / 10)).toArray⟩) ∧ w' = w) := Lib.hid (fun w => ih (k / 10) w (by omega) (by omega))
      rw [dec_step k hlt]
      have hd := dec_len 9 (k / 10) (by omega)
      have e0 : decide ((k : Int) < 0) = false := decide_eq_false (by omega)
      have e1 : decide ((k : Int) < 10) = false := decide_eq_false (by omega)
      rw [← str_size] at hd
      rw [← str_append]
      have HCV := Lib.hid (conv_rune w ((k : Int) % 10) (by omega) (by omega))
      have hr : Hid (((k : Int) % 10).toNat = k % 10) := Lib.hid (by omega)
      clear h ih
      generalize (ByteArray.mk (Lib.decDigits (k / 10)).toArray) = DB at *
      have n1 : (9223372036854775807 < DB.size + 1) = False := eq_false (by omega)
      clear hd
      go_enter Tryd.func68, Tryd.ntmps68
      go_wp2_with fail
      refine (HI.out _).mono ?_
      rintro e w1 ⟨rfl, rfl⟩
      have hcv := HCV.out
      rw [hr.out] at hcv
      have z1 : (ByteArray.mk #[UInt8.ofNat (48 + k % 10)]).size = 1 := rfl
      go_wp2
      go_ret
      rw [UInt8.ofNat_add]
      exact ⟨rfl, rfl⟩
set_option maxRecDepth 100000 in
set_option maxHeartbeats 1000000 in
theorem digits_any (n : Int) (h : smallB n = true) (w : World) : Calls Tryd.prog 68 #[.int .i64 n] w fun e w' => e = .returned (.string ⟨(Lib.itoa n).toArray⟩) ∧ w' = w := by
  simp only [smallB, Bool.and_eq_true, decide_eq_true_eq] at h
  unfold Lib.itoa
  by_cases hn : n < 0
  · rw [if_pos hn]
    obtain ⟨k, hk⟩ : ∃ k : Nat, -n = (k : Int) := ⟨n.natAbs, by omega⟩
    have hk2 : n.natAbs = k := by omega
    have hd := dec_len 9 k (by omega)
    rw [hk2]
    have HI := Lib.hid (fun w => digits_nat k k w (Nat.le_refl _) (by omega))
    rw [← str_size] at hd
    rw [show (45 :: Lib.decDigits k) = [45] ++ Lib.decDigits k from rfl, ← str_append]
    generalize (ByteArray.mk (Lib.decDigits k).toArray) = DB at *
    have n1 : (9223372036854775807 < 1 + DB.size) = False := eq_false (by omega)
    have HK := Lib.hid hk
    clear hd hk hk2
    go_enter Tryd.func68, Tryd.ntmps68
    go_wp2_with fail
    rw [HK.out]
    refine (HI.out _).mono ?_
    rintro e w1 ⟨rfl, rfl⟩
    have z1 : (ByteArray.mk #[45]).size = 1 := rfl
    go_wp2
    go_ret
    exact ⟨rfl, rfl⟩
  · rw [if_neg hn]
    obtain ⟨k, rfl⟩ := Int.eq_ofNat_of_zero_le (by omega : 0 ≤ n)
    exact digits_nat k k w (Nat.le_refl _) (by omega)
end Go.Proofs.YtjjohllfidmkjaaDoor.PfW
