/- Walks: common divisors; whether a whole point is a valid rational one: of both. Conditions: as stated. -/
import Derived.Test.YtnmmhcchpcbeeaaGreatGeL
import Derived.Test.YtnmmhcchpcbeeaaGreatGeM
import Derived.Test.YtnmmhcchpcbeeaaGreatLater
import Derived.Test.YtnmmhcchpcbeeaaGreatApR
import Derived.Deep.CutRange
namespace Go.Proofs.YtnmmhcchpcbeeaaGreat.Ge
def gcdI (a b : Int) : Int := (Nat.gcd a.natAbs b.natAbs : Nat)
theorem gcdI_zero (x : Int) : gcdI x 0 = (x.natAbs : Int) := by simp [gcdI]
theorem gcdI_step (x y : Int) (_ : y ≠ 0) : gcdI x y = gcdI y (x.tmod y) := by
  unfold gcdI
  rw [Int.natAbs_tmod, Nat.gcd_comm x.natAbs, Nat.gcd_rec y.natAbs x.natAbs, Nat.gcd_comm]
theorem gcdI_one (x : Int) : gcdI x 1 = 1 := by simp [gcdI]
theorem gcdI_le {x y : Int} {m : Nat} (hx : x.natAbs ≤ m) (hy : y.natAbs ≤ m) : (gcdI x y).natAbs ≤ m := by
  unfold gcdI
  rw [Int.natAbs_natCast]
  rcases Nat.eq_zero_or_pos x.natAbs with h | h
  · rw [h, Nat.gcd_zero_left]; exact hy
  · exact Nat.le_trans (Nat.gcd_le_left _ h) hx
end Go.Proofs.YtnmmhcchpcbeeaaGreat.Ge
namespace Go.Proofs.YtnmmhcchpcbeeaaGreat.GeW
open Go Go.RowKit Go.Proofs.YtnmmhcchpcbeeaaGreat.Mem Go.Proofs.YtnmmhcchpcbeeaaGreat.Ge
attribute [local go_sem ↓] Go.wp_at_zero Go.wp_at_succ
set_option maxRecDepth 100000 in
set_option maxHeartbeats 1000000 in
theorem gcd_any (a b : Int) (w : World) (ha : a.natAbs ≤ 1000000000000000) (hb : b.natAbs ≤ 1000000000000000) :
    Calls Tryz.prog 199 #[.int .i64 a, .int .i64 b] w fun e w' => e = .returned (.int .i64 (gcdI a b)) ∧ Below w.heap.size w w' := by
  go_enter Tryz.func199, Tryz.ntmps199
  go_wp2
  go_loopw [0, 1] (fun u v wr => ∃ x y : Int, u = .int .i64 x ∧ v = .int .i64 y ∧ Hid (x.natAbs ≤ 1000000000000000 ∧ y.natAbs ≤ 1000000000000000 ∧ gcdI a b = gcdI x y) ∧ Hid (Below w.heap.size w wr)) (fun _ v _ => (intOf v).natAbs)
  case atStart => exact ⟨a, b, rfl, rfl, Lib.hid ⟨ha, hb, rfl⟩, Lib.hid (Below.refl _ _)⟩
  case round =>
    obtain ⟨x, y, rfl, rfl, HX, HB⟩ := hrel
    clear ha hb
    by_cases hy : y = 0
    · subst hy
      obtain ⟨h1, _, h3⟩ := HX.out
      have h2 := gcdI_zero x
      have HG : Hid (gcdI a b = (x.natAbs : Int)) := Lib.hid (by rw [h3, h2])
      have hxb : -1000000000000000 ≤ x ∧ x ≤ 1000000000000000 := by omega
      clear HX h1 h2 h3
      go_wp2
      go_ret
      rw [HG.out]
      refine ⟨?_, HB.out⟩
      show Ending.returned (.int .i64 (max x (-x))) = _
      rw [show max x (-x) = (x.natAbs : Int) by omega]
    · have HM := Lib.hid (tmod_abs x y hy)
      have HT := Lib.hid (gcdI_step x y hy)
      obtain ⟨h1, h2, h3⟩ := HX.out
      have H3 := Lib.hid h3
      have hy1 : (y != 0) = true := bne_iff_ne.2 hy
      have hy2 : (y = 0) = False := eq_false hy
      
      clear h3 
      go_wp2
      go_region
      all_goals
        go_roundw
        case rel => exact ⟨_, _, _, _, _, _, _, _, ⟨y, x.tmod y, rfl, rfl, Lib.hid ⟨h2, by have := HM.out; omega, by rw [H3.out, HT.out]⟩, Lib.hid (below_drew HB.out)⟩, rfl⟩
        case measure => simpa [intOf] using HM.out
set_option maxRecDepth 100000 in
set_option maxHeartbeats 1000000 in
theorem rgcd_any (a b : Int) (w : World) (ha : a.natAbs ≤ 1000000000000000) (hb : b.natAbs ≤ 1000000000000000) (h0 : 0 ≤ a ∧ 0 ≤ b) :
    Calls Tryz.prog 205 #[.int .i64 a, .int .i64 b] w fun e w' => e = .returned (.int .i64 (gcdI a b)) ∧ Below w.heap.size w w' := by
  go_enter Tryz.func205, Tryz.ntmps205
  go_wp2
  go_loopw [0, 1] (fun u v wr => ∃ x y : Int, u = .int .i64 x ∧ v = .int .i64 y ∧ Hid (x.natAbs ≤ 1000000000000000 ∧ y.natAbs ≤ 1000000000000000 ∧ gcdI a b = gcdI x y ∧ 0 ≤ x ∧ 0 ≤ y) ∧ Hid (Below w.heap.size w wr)) (fun _ v _ => (intOf v).natAbs)
  case atStart => exact ⟨a, b, rfl, rfl, Lib.hid ⟨ha, hb, rfl, h0⟩, Lib.hid (Below.refl _ _)⟩
  case round =>
    obtain ⟨x, y, rfl, rfl, HX, HB⟩ := hrel
    clear ha hb
    by_cases hy : y = 0
    · subst hy
      obtain ⟨h1, _, h3, h4, _⟩ := HX.out
      have h2 := gcdI_zero x
      have HG : Hid (gcdI a b = (x.natAbs : Int)) := Lib.hid (by rw [h3, h2])
      have hxb : -1000000000000000 ≤ x ∧ x ≤ 1000000000000000 := by omega
      clear HX h1 h2 h3
      go_wp2
      go_ret
      rw [HG.out]
      refine ⟨?_, HB.out⟩
      show Ending.returned (.int .i64 x) = _
      rw [show (x.natAbs : Int) = x by omega]
    · have HM := Lib.hid (tmod_abs x y hy)
      have HT := Lib.hid (gcdI_step x y hy)
      obtain ⟨h1, h2, h3, h4, h5⟩ := HX.out
      have H3 := Lib.hid h3
      have hy1 : (y != 0) = true := bne_iff_ne.2 hy
      have hy2 : (y = 0) = False := eq_false hy
      have HN : Hid (0 ≤ y ∧ 0 ≤ x.tmod y) := Lib.hid ⟨h5, by rw [Int.tmod_eq_emod_of_nonneg h4]; exact Int.emod_nonneg _ hy⟩
      clear h3 h4 h5
      go_wp2
      go_region
      all_goals
        go_roundw
        case rel => exact ⟨_, _, _, _, _, _, _, _, ⟨y, x.tmod y, rfl, rfl, Lib.hid ⟨h2, by have := HM.out; omega, by rw [H3.out, HT.out], HN.out⟩, Lib.hid (below_drew HB.out)⟩, rfl⟩
        case measure => simpa [intOf] using HM.out
theorem rpointOf_any (x y : Int) (w : World) :
    Calls Tryz.prog 128 #[.agg #[.int .i64 x, .int .i64 y]] w fun e w' => e = .returned (.agg #[.int .i64 x, .int .i64 y, .int .i64 1]) ∧ Below w.heap.size w w' := by
  go_enter Tryz.func128, Tryz.ntmps128
  go_wp2
  refine bodyPost_ret (v := .agg #[.int .i64 x, .int .i64 y, .int .i64 1]) (by simp [results, Tryz.results128, go_sem]) rfl ⟨rfl, ?_⟩
  exact ((Below.refl _ _).alloc (Nat.le_refl _) _).alloc (by simp) _
theorem three_at {w w' : World} {b : Nat} {x y z : Value} {t : TypeId} (h : w.heap[b]? = some (.cells #[x, y, z] t (0, 0))) (hb : Below w.heap.size w w') : w'.cell? ⟨b, 0, none⟩ = some x ∧ w'.cell? ⟨b, 1, none⟩ = some y ∧ w'.cell? ⟨b, 2, none⟩ = some z := by
  have h' := (hb.block b (lt_of_block h)).trans h
  refine ⟨?_, ?_, ?_⟩ <;> simp [World.cell?, h']
theorem rabs_any (x : Int) (w : World) (hx : x.natAbs ≤ 1000000000000000) :
    Calls Tryz.prog 92 #[.int .i64 x] w fun e w' => e = .returned (.int .i64 (x.natAbs : Int)) ∧ Below w.heap.size w w' := by
  by_cases h : 0 ≤ x
  · have d : decide (0 ≤ x) = true := decide_eq_true h
    have e : (x.natAbs : Int) = x := by omega
    rw [e]
    clear h e hx
    go_enter Tryz.func92, Tryz.ntmps92
    go_wp2
    go_ret
    exact ⟨rfl, Below.refl _ _⟩
  · have d : decide (0 ≤ x) = false := decide_eq_false h
    have e : (x.natAbs : Int) = -x := by omega
    have n : IntKind.i64.wrap (-x) = -x := by rw [IntKind.wrap_i64]; omega
    rw [e]
    clear h e hx
    go_enter Tryz.func92, Tryz.ntmps92
    go_wp2
    go_ret
    exact ⟨rfl, Below.refl _ _⟩
set_option maxRecDepth 100000 in
theorem bounded_any (x y : Int) (w : World) (hx : -4000 ≤ x ∧ x ≤ 4000) (hy : -4000 ≤ y ∧ y ≤ 4000) :
    Calls Tryz.prog 198 #[.agg #[.int .i64 x, .int .i64 y, .int .i64 1], .int .i64 4000] w fun e w' => e = .returned (.bool true) ∧ Below w.heap.size w w' := by
  have HO := Lib.hid (one_vec w (.cells #[.int .i64 x, .int .i64 y, .int .i64 1] 138))
  have HW := Lib.hid (fun W => within_any x y 4000 W (by omega))
  rw [show within (x, y) 4000 = true from Ge.within_iff.2 (by simp only; omega)] at HW
  obtain ⟨a0, a1, a2⟩ := three_at HO.out.2 (Below.refl _ _)
  clear hx hy
  go_enter Tryz.func198, Tryz.ntmps198
  go_wp2_with fail
  refine (HW.out _).mono ?_
  rintro e w1 ⟨rfl, hb1⟩
  go_wp2
  go_ret
  exact ⟨rfl, HO.out.1.trans (hb1.mono HO.out.1.size)⟩
set_option maxRecDepth 100000 in
theorem validPoint_any (x y : Int) (w : World) (hx : -4000 ≤ x ∧ x ≤ 4000) (hy : -4000 ≤ y ∧ y ≤ 4000) :
    Calls Tryz.prog 159 #[.agg #[.int .i64 x, .int .i64 y, .int .i64 1]] w fun e w' => e = .returned (.bool true) ∧ Below w.heap.size w w' := by
  have HO := Lib.hid (one_vec w (.cells #[.int .i64 x, .int .i64 y, .int .i64 1] 138))
  have HBO := Lib.hid (fun W => bounded_any x y W hx hy)
  have HG1 := Lib.hid (fun W => gcd_any x y W (by omega) (by omega))
  have hgl : (gcdI x y).natAbs ≤ 1000000000000000 := gcdI_le (by omega) (by omega)
  have HG2 := Lib.hid (fun W => gcd_any (gcdI x y) 1 W hgl (by decide))
  rw [gcdI_one] at HG2
  clear hgl
  generalize gcdI x y = g at *
  obtain ⟨a0, a1, a2⟩ := three_at HO.out.2 (Below.refl _ _)
  have hz3 := lt_of_block HO.out.2
  clear hx hy
  go_enter Tryz.func159, Tryz.ntmps159
  go_upto_region 1 with fail
  generalize w.alloc (.cells #[.int .i64 x, .int .i64 y, .int .i64 1] 138) = wr at *
  have X0 : ∀ p : Later wr, p.w.cell? ⟨w.heap.size, 0, none⟩ = some (.int .i64 x) := later_cell hz3 a0
  have X1 : ∀ p : Later wr, p.w.cell? ⟨w.heap.size, 1, none⟩ = some (.int .i64 y) := later_cell hz3 a1
  have X2 : ∀ p : Later wr, p.w.cell? ⟨w.heap.size, 2, none⟩ = some (.int .i64 1) := later_cell hz3 a2
  clear a0 a1 a2
  refine wp_region_later wr (by kernel_rfl) (by kernel_rfl) (Below.refl _ _) ?_
  repeat (go_big_quiet_step (first | (go_at_call 198; with_reducible exact Calls.later (HBO.out _)) | (go_at_call 199; with_reducible exact Calls.later (HG1.out _)) | (go_at_call 199; with_reducible exact Calls.later (HG2.out _))))
  refine wpQuiet_nil ?_
  rintro w9 hex; have hb9 := later_of hex; clear hex
  have HB9 := Lib.hid (HO.out.1.trans (hb9.mono HO.out.1.size))
  clear X0 X1 X2 hb9
  go_wp2
  go_ret
  exact ⟨rfl, HB9.out⟩
set_option maxRecDepth 100000 in
theorem rvalidPoint_any (x y : Int) (w : World) (hx : -4000 ≤ x ∧ x ≤ 4000) (hy : -4000 ≤ y ∧ y ≤ 4000) :
    Calls Tryz.prog 176 #[.agg #[.int .i64 x, .int .i64 y, .int .i64 1]] w fun e w' => e = .returned (.bool true) ∧ Below w.heap.size w w' := by
  have HO := Lib.hid (one_vec w (.cells #[.int .i64 x, .int .i64 y, .int .i64 1] 138))
  have HA1 := Lib.hid (fun W => rabs_any x W (by omega))
  have HA2 := Lib.hid (fun W => rabs_any y W (by omega))
  have HG1 := Lib.hid (fun W => rgcd_any (x.natAbs : Int) (y.natAbs : Int) W (by omega) (by omega) (by omega))
  have hgl : (gcdI (x.natAbs : Int) (y.natAbs : Int)).natAbs ≤ 1000000000000000 := gcdI_le (by omega) (by omega)
  have hg0 : 0 ≤ gcdI (x.natAbs : Int) (y.natAbs : Int) := by unfold gcdI; omega
  have HG2 := Lib.hid (fun W => rgcd_any (gcdI (x.natAbs : Int) (y.natAbs : Int)) 1 W hgl (by decide) ⟨hg0, by decide⟩)
  rw [gcdI_one] at HG2
  clear hgl hg0
  generalize gcdI (x.natAbs : Int) (y.natAbs : Int) = g at *
  generalize (x.natAbs : Int) = xa at *
  generalize (y.natAbs : Int) = ya at *
  obtain ⟨a0, a1, a2⟩ := three_at HO.out.2 (Below.refl _ _)
  have hz3 := lt_of_block HO.out.2
  have d1 : decide (x < -4000) = false := decide_eq_false (by omega)
  have d2 : decide (4000 < x) = false := decide_eq_false (by omega)
  have d3 : decide (y < -4000) = false := decide_eq_false (by omega)
  have d4 : decide (4000 < y) = false := decide_eq_false (by omega)
  clear hx hy
  go_enter Tryz.func176, Tryz.ntmps176
  go_upto_region 3 with fail
  generalize w.alloc (.cells #[.int .i64 x, .int .i64 y, .int .i64 1] 138) = wr at *
  have X0 : ∀ p : Later wr, p.w.cell? ⟨w.heap.size, 0, none⟩ = some (.int .i64 x) := later_cell hz3 a0
  have X1 : ∀ p : Later wr, p.w.cell? ⟨w.heap.size, 1, none⟩ = some (.int .i64 y) := later_cell hz3 a1
  have X2 : ∀ p : Later wr, p.w.cell? ⟨w.heap.size, 2, none⟩ = some (.int .i64 1) := later_cell hz3 a2
  clear a0 a1 a2
  refine wp_region_later wr (by kernel_rfl) (by kernel_rfl) (Below.refl _ _) ?_
  repeat (go_big_quiet_step (first | (go_at_call 92; with_reducible exact Calls.later (HA1.out _)) | (go_at_call 92; with_reducible exact Calls.later (HA2.out _)) | (go_at_call 205; with_reducible exact Calls.later (HG1.out _)) | (go_at_call 205; with_reducible exact Calls.later (HG2.out _))))
  refine wpQuiet_nil ?_
  rintro w9 hex; have hb9 := later_of hex; clear hex
  have HB9 := Lib.hid (HO.out.1.trans (hb9.mono HO.out.1.size))
  clear X0 X1 X2 hb9
  go_wp2
  go_ret
  exact ⟨rfl, HB9.out⟩
end Go.Proofs.YtnmmhcchpcbeeaaGreat.GeW
