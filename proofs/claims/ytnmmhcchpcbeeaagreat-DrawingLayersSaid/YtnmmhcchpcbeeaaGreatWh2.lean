/- Walks: where a whole point lies with regard to a ring. Conditions: the ring is valid; the point is near. -/
import Derived.Test.YtnmmhcchpcbeeaaGreatGeL
import Derived.Test.YtnmmhcchpcbeeaaGreatGeM
import Derived.Test.YtnmmhcchpcbeeaaGreatLater
import Derived.Test.YtnmmhcchpcbeeaaGreatApR
import Derived.Deep.CutRange
import Derived.Test.YtnmmhcchpcbeeaaGreatGeR

namespace Go.Proofs.YtnmmhcchpcbeeaaGreat.Ge
def gcdI (a b : Int) : Int := (Nat.gcd a.natAbs b.natAbs : Nat)
theorem gcdI_zero (x : Int) : gcdI x 0 = (x.natAbs : Int) := by simp [gcdI]
theorem gcdI_step (x y : Int) (_ : y ≠ 0) : gcdI x y = gcdI y (x.tmod y) := by
  unfold gcdI
  rw [Int.natAbs_tmod, Nat.gcd_comm x.natAbs, Nat.gcd_rec y.natAbs x.natAbs, Nat.gcd_comm]
theorem gcdI_one (x : Int) : gcdI x 1 = 1 := by simp [gcdI]
theorem gcdI_le {x y : Int} {m : Nat} (hx : x.natAbs ≤ m) (hy : y.natAbs ≤ m) : (gcdI x y).natAbs ≤ m := by
  unfold gcdI
  rw [Int.natAbs_natCast]
  rcases Nat.eq_zero_or_pos x.natAbs with h | h
  · rw [h, Nat.gcd_zero_left]; exact hy
  · exact Nat.le_trans (Nat.gcd_le_left _ h) hx
end Go.Proofs.YtnmmhcchpcbeeaaGreat.Ge
namespace Go.Proofs.YtnmmhcchpcbeeaaGreat.GeW
open Go Go.RowKit Go.Proofs.YtnmmhcchpcbeeaaGreat.Mem Go.Proofs.YtnmmhcchpcbeeaaGreat.Ge
attribute [local go_sem ↓] Go.wp_at_zero Go.wp_at_succ
set_option maxRecDepth 100000 in
set_option maxHeartbeats 1000000 in
theorem gcd_any (a b : Int) (w : World) (ha : a.natAbs ≤ 1000000000000000) (hb : b.natAbs ≤ 1000000000000000) :
    Calls Tryz.prog 199 #[.int .i64 a, .int .i64 b] w fun e w' => e = .returned (.int .i64 (gcdI a b)) ∧ Below w.heap.size w w' := by
  go_enter Tryz.func199, Tryz.ntmps199
  go_wp2
  go_loopw [0, 1] (fun u v wr => ∃ x y : Int, u = .int .i64 x ∧ v = .int .i64 y ∧ Hid (x.natAbs ≤ 1000000000000000 ∧ y.natAbs ≤ 1000000000000000 ∧ gcdI a b = gcdI x y) ∧ Hid (Below w.heap.size w wr)) (fun _ v _ => (intOf v).natAbs)
  case atStart => exact ⟨a, b, rfl, rfl, Lib.hid ⟨ha, hb, rfl⟩, Lib.hid (Below.refl _ _)⟩
  case round =>
    obtain ⟨x, y, rfl, rfl, HX, HB⟩ := hrel
    clear ha hb
    by_cases hy : y = 0
    · subst hy
      obtain ⟨h1, _, h3⟩ := HX.out
      have h2 := gcdI_zero x
      have HG : Hid (gcdI a b = (x.natAbs : Int)) := Lib.hid (by rw [h3, h2])
      have hxb : -1000000000000000 ≤ x ∧ x ≤ 1000000000000000 := by omega
      clear HX h1 h2 h3
      go_wp2
      go_ret
      rw [HG.out]
      refine ⟨?_, HB.out⟩
      show Ending.returned (.int .i64 (max x (-x))) = _
      rw [show max x (-x) = (x.natAbs : Int) by omega]
    · have HM := Lib.hid (tmod_abs x y hy)
      have HT := Lib.hid (gcdI_step x y hy)
      obtain ⟨h1, h2, h3⟩ := HX.out
      have H3 := Lib.hid h3
      have hy1 : (y != 0) = true := bne_iff_ne.2 hy
      have hy2 : (y = 0) = False := eq_false hy
      
      clear h3 
      go_wp2
      go_region
      all_goals
        go_roundw
        case rel => exact ⟨_, _, _, _, _, _, _, _, ⟨y, x.tmod y, rfl, rfl, Lib.hid ⟨h2, by have := HM.out; omega, by rw [H3.out, HT.out]⟩, Lib.hid (below_drew HB.out)⟩, rfl⟩
        case measure => simpa [intOf] using HM.out
set_option maxRecDepth 100000 in
set_option maxHeartbeats 1000000 in
theorem rgcd_any (a b : Int) (w : World) (ha : a.natAbs ≤ 1000000000000000) (hb : b.natAbs ≤ 1000000000000000) (h0 : 0 ≤ a ∧ 0 ≤ b) :
    Calls Tryz.prog 205 #[.int .i64 a, .int .i64 b] w fun e w' => e = .returned (.int .i64 (gcdI a b)) ∧ Below w.heap.size w w' := by
  go_enter Tryz.func205, Tryz.ntmps205
  go_wp2
  go_loopw [0, 1] (fun u v wr => ∃ x y : Int, u = .int .i64 x ∧ v = .int .i64 y ∧ Hid (x.natAbs ≤ 1000000000000000 ∧ y.natAbs ≤ 1000000000000000 ∧ gcdI a b = gcdI x y ∧ 0 ≤ x ∧ 0 ≤ y) ∧ Hid (Below w.heap.size w wr)) (fun _ v _ => (intOf v).natAbs)
  case atStart => exact ⟨a, b, rfl, rfl, Lib.hid ⟨ha, hb, rfl, h0⟩, Lib.hid (Below.refl _ _)⟩
  case round =>
    obtain ⟨x, y, rfl, rfl, HX, HB⟩ := hrel
    clear ha hb
    by_cases hy : y = 0
    · subst hy
      obtain ⟨h1, _, h3, h4, _⟩ := HX.out
      have h2 := gcdI_zero x
      have HG : Hid (gcdI a b = (x.natAbs : Int)) := Lib.hid (by rw [h3, h2])
      have hxb : -1000000000000000 ≤ x ∧ x ≤ 1000000000000000 := by omega
      clear HX h1 h2 h3
      go_wp2
      go_ret
      rw [HG.out]
      refine ⟨?_, HB.out⟩
      show Ending.returned (.int .i64 x) = _
      rw [show (x.natAbs : Int) = x by omega]
    · have HM := Lib.hid (tmod_abs x y hy)
      have HT := Lib.hid (gcdI_step x y hy)
      obtain ⟨h1, h2, h3, h4, h5⟩ := HX.out
      have H3 := Lib.hid h3
      have hy1 : (y != 0) = true := bne_iff_ne.2 hy
      have hy2 : (y = 0) = False := eq_false hy
      have HN : Hid (0 ≤ y ∧ 0 ≤ x.tmod y) := Lib.hid ⟨h5, by rw [Int.tmod_eq_emod_of_nonneg h4]; exact Int.emod_nonneg _ hy⟩
      clear h3 h4 h5
      go_wp2
      go_region
      all_goals
        go_roundw
        case rel => exact ⟨_, _, _, _, _, _, _, _, ⟨y, x.tmod y, rfl, rfl, Lib.hid ⟨h2, by have := HM.out; omega, by rw [H3.out, HT.out], HN.out⟩, Lib.hid (below_drew HB.out)⟩, rfl⟩
        case measure => simpa [intOf] using HM.out
theorem rpointOf_any (x y : Int) (w : World) :
    Calls Tryz.prog 128 #[.agg #[.int .i64 x, .int .i64 y]] w fun e w' => e = .returned (.agg #[.int .i64 x, .int .i64 y, .int .i64 1]) ∧ Below w.heap.size w w' := by
  go_enter Tryz.func128, Tryz.ntmps128
  go_wp2
  refine bodyPost_ret (v := .agg #[.int .i64 x, .int .i64 y, .int .i64 1]) (by simp [results, Tryz.results128, go_sem]) rfl ⟨rfl, ?_⟩
  exact ((Below.refl _ _).alloc (Nat.le_refl _) _).alloc (by simp) _
theorem three_at {w w' : World} {b : Nat} {x y z : Value} {t : TypeId} (h : w.heap[b]? = some (.cells #[x, y, z] t (0, 0))) (hb : Below w.heap.size w w') : w'.cell? ⟨b, 0, none⟩ = some x ∧ w'.cell? ⟨b, 1, none⟩ = some y ∧ w'.cell? ⟨b, 2, none⟩ = some z := by
  have h' := (hb.block b (lt_of_block h)).trans h
  refine ⟨?_, ?_, ?_⟩ <;> simp [World.cell?, h']
theorem rabs_any (x : Int) (w : World) (hx : x.natAbs ≤ 1000000000000000) :
    Calls Tryz.prog 92 #[.int .i64 x] w fun e w' => e = .returned (.int .i64 (x.natAbs : Int)) ∧ Below w.heap.size w w' := by
  by_cases h : 0 ≤ x
  · have d : decide (0 ≤ x) = true := decide_eq_true h
    have e : (x.natAbs : Int) = x := by omega
    rw [e]
    clear h e hx
    go_enter Tryz.func92, Tryz.ntmps92
    go_wp2
    go_ret
    exact ⟨rfl, Below.refl _ _⟩
  · have d : decide (0 ≤ x) = false := decide_eq_false h
    have e : (x.natAbs : Int) = -x := by omega
    have n : IntKind.i64.wrap (-x) = -x := by rw [IntKind.wrap_i64]; omega
    rw [e]
    clear h e hx
    go_enter Tryz.func92, Tryz.ntmps92
    go_wp2
    go_ret
    exact ⟨rfl, Below.refl _ _⟩
set_option maxRecDepth 100000 in
theorem bounded_any (x y : Int) (w : World) (hx : -4000 ≤ x ∧ x ≤ 4000) (hy : -4000 ≤ y ∧ y ≤ 4000) :
    Calls Tryz.prog 198 #[.agg #[.int .i64 x, .int .i64 y, .int .i64 1], .int .i64 4000] w fun e w' => e = .returned (.bool true) ∧ Below w.heap.size w w' := by
  have HO := Lib.hid (one_vec w (.cells #[.int .i64 x, .int .i64 y, .int .i64 1] 138))
  have HW := Lib.hid (fun W => within_any x y 4000 W (by omega))
  rw [show within (x, y) 4000 = true from Ge.within_iff.2 (by simp only; omega)] at HW
  obtain ⟨a0, a1, a2⟩ := three_at HO.out.2 (Below.refl _ _)
  clear hx hy
  go_enter Tryz.func198, Tryz.ntmps198
  go_wp2_with fail
  refine (HW.out _).mono ?_
  rintro e w1 ⟨rfl, hb1⟩
  go_wp2
  go_ret
  exact ⟨rfl, HO.out.1.trans (hb1.mono HO.out.1.size)⟩
set_option maxRecDepth 100000 in
theorem validPoint_any (x y : Int) (w : World) (hx : -4000 ≤ x ∧ x ≤ 4000) (hy : -4000 ≤ y ∧ y ≤ 4000) :
    Calls Tryz.prog 159 #[.agg #[.int .i64 x, .int .i64 y, .int .i64 1]] w fun e w' => e = .returned (.bool true) ∧ Below w.heap.size w w' := by
  have HO := Lib.hid (one_vec w (.cells #[.int .i64 x, .int .i64 y, .int .i64 1] 138))
  have HBO := Lib.hid (fun W => bounded_any x y W hx hy)
  have HG1 := Lib.hid (fun W => gcd_any x y W (by omega) (by omega))
  have hgl : (gcdI x y).natAbs ≤ 1000000000000000 := gcdI_le (by omega) (by omega)
  have HG2 := Lib.hid (fun W => gcd_any (gcdI x y) 1 W hgl (by decide))
  rw [gcdI_one] at HG2
  clear hgl
  generalize gcdI x y = g at *
  obtain ⟨a0, a1, a2⟩ := three_at HO.out.2 (Below.refl _ _)
  have hz3 := lt_of_block HO.out.2
  clear hx hy
  go_enter Tryz.func159, Tryz.ntmps159
  go_upto_region 1 with fail
  generalize w.alloc (.cells #[.int .i64 x, .int .i64 y, .int .i64 1] 138) = wr at *
  have X0 : ∀ p : Later wr, p.w.cell? ⟨w.heap.size, 0, none⟩ = some (.int .i64 x) := later_cell hz3 a0
  have X1 : ∀ p : Later wr, p.w.cell? ⟨w.heap.size, 1, none⟩ = some (.int .i64 y) := later_cell hz3 a1
  have X2 : ∀ p : Later wr, p.w.cell? ⟨w.heap.size, 2, none⟩ = some (.int .i64 1) := later_cell hz3 a2
  clear a0 a1 a2
  refine wp_region_later wr (by kernel_rfl) (by kernel_rfl) (Below.refl _ _) ?_
  repeat (go_big_quiet_step (first | (go_at_call 198; with_reducible exact Calls.later (HBO.out _)) | (go_at_call 199; with_reducible exact Calls.later (HG1.out _)) | (go_at_call 199; with_reducible exact Calls.later (HG2.out _))))
  refine wpQuiet_nil ?_
  rintro w9 hex; have hb9 := later_of hex; clear hex
  have HB9 := Lib.hid (HO.out.1.trans (hb9.mono HO.out.1.size))
  clear X0 X1 X2 hb9
  go_wp2
  go_ret
  exact ⟨rfl, HB9.out⟩
set_option maxRecDepth 100000 in
theorem rvalidPoint_any (x y : Int) (w : World) (hx : -4000 ≤ x ∧ x ≤ 4000) (hy : -4000 ≤ y ∧ y ≤ 4000) :
    Calls Tryz.prog 176 #[.agg #[.int .i64 x, .int .i64 y, .int .i64 1]] w fun e w' => e = .returned (.bool true) ∧ Below w.heap.size w w' := by
  have HO := Lib.hid (one_vec w (.cells #[.int .i64 x, .int .i64 y, .int .i64 1] 138))
  have HA1 := Lib.hid (fun W => rabs_any x W (by omega))
  have HA2 := Lib.hid (fun W => rabs_any y W (by omega))
  have HG1 := Lib.hid (fun W => rgcd_any (x.natAbs : Int) (y.natAbs : Int) W (by omega) (by omega) (by omega))
  have hgl : (gcdI (x.natAbs : Int) (y.natAbs : Int)).natAbs ≤ 1000000000000000 := gcdI_le (by omega) (by omega)
  have hg0 : 0 ≤ gcdI (x.natAbs : Int) (y.natAbs : Int) := by unfold gcdI; omega
  have HG2 := Lib.hid (fun W => rgcd_any (gcdI (x.natAbs : Int) (y.natAbs : Int)) 1 W hgl (by decide) ⟨hg0, by decide⟩)
  rw [gcdI_one] at HG2
  clear hgl hg0
  generalize gcdI (x.natAbs : Int) (y.natAbs : Int) = g at *
  generalize (x.natAbs : Int) = xa at *
  generalize (y.natAbs : Int) = ya at *
  obtain ⟨a0, a1, a2⟩ := three_at HO.out.2 (Below.refl _ _)
  have hz3 := lt_of_block HO.out.2
  have d1 : decide (x < -4000) = false := decide_eq_false (by omega)
  have d2 : decide (4000 < x) = false := decide_eq_false (by omega)
  have d3 : decide (y < -4000) = false := decide_eq_false (by omega)
  have d4 : decide (4000 < y) = false := decide_eq_false (by omega)
  clear hx hy
  go_enter Tryz.func176, Tryz.ntmps176
  go_upto_region 3 with fail
  generalize w.alloc (.cells #[.int .i64 x, .int .i64 y, .int .i64 1] 138) = wr at *
  have X0 : ∀ p : Later wr, p.w.cell? ⟨w.heap.size, 0, none⟩ = some (.int .i64 x) := later_cell hz3 a0
  have X1 : ∀ p : Later wr, p.w.cell? ⟨w.heap.size, 1, none⟩ = some (.int .i64 y) := later_cell hz3 a1
  have X2 : ∀ p : Later wr, p.w.cell? ⟨w.heap.size, 2, none⟩ = some (.int .i64 1) := later_cell hz3 a2
  clear a0 a1 a2
  refine wp_region_later wr (by kernel_rfl) (by kernel_rfl) (Below.refl _ _) ?_
  repeat (go_big_quiet_step (first | (go_at_call 92; with_reducible exact Calls.later (HA1.out _)) | (go_at_call 92; with_reducible exact Calls.later (HA2.out _)) | (go_at_call 205; with_reducible exact Calls.later (HG1.out _)) | (go_at_call 205; with_reducible exact Calls.later (HG2.out _))))
  refine wpQuiet_nil ?_
  rintro w9 hex; have hb9 := later_of hex; clear hex
  have HB9 := Lib.hid (HO.out.1.trans (hb9.mono HO.out.1.size))
  clear X0 X1 X2 hb9
  go_wp2
  go_ret
  exact ⟨rfl, HB9.out⟩
end Go.Proofs.YtnmmhcchpcbeeaaGreat.GeW

namespace Go.Proofs.YtnmmhcchpcbeeaaGreat.GeW
open Go Go.RowKit Go.Proofs.YtnmmhcchpcbeeaaGreat.Mem Go.Proofs.YtnmmhcchpcbeeaaGreat.Ge
attribute [local go_sem ↓] Go.wp_at_zero Go.wp_at_succ
theorem to_any (x y u v : Int) (b : Nat) (w : World) (h : w.heap[b]? = some (.cells #[.int .i64 x, .int .i64 y, .int .i64 1] 138 (0, 0))) (hx : -2000 ≤ x ∧ x ≤ 2000) (hy : -2000 ≤ y ∧ y ≤ 2000) (hu : -2000 ≤ u ∧ u ≤ 2000) (hv : -2000 ≤ v ∧ v ≤ 2000) :
    Calls Tryz.prog 160 #[.agg #[.int .i64 u, .int .i64 v], .pointer (some ⟨b, 0, none⟩)] w fun e w' => e = .returned (.agg #[.int .i64 (x - u), .int .i64 (y - v)]) ∧ Below w.heap.size w w' := by
  have HB := Lib.hid ((bel1 w (.cells #[.int .i64 u, .int .i64 v] 53)).alloc (by simp) (.cells #[.int .i64 0, .int .i64 0] 53))
  obtain ⟨a0, a1, a2⟩ := three_at h HB.out
  have w1 : IntKind.i64.wrap u = u := by rw [IntKind.wrap_i64]; omega
  have w2 : IntKind.i64.wrap v = v := by rw [IntKind.wrap_i64]; omega
  have w3 : IntKind.i64.wrap (x - u) = x - u := by rw [IntKind.wrap_i64]; omega
  have w4 : IntKind.i64.wrap (y - v) = y - v := by rw [IntKind.wrap_i64]; omega
  clear h hx hy hu hv
  go_enter Tryz.func160, Tryz.ntmps160
  go_wp2
  refine bodyPost_ret (v := .agg #[.int .i64 (x - u), .int .i64 (y - v)]) (by simp [results, Tryz.results160, go_sem]) rfl ⟨rfl, ?_⟩
  exact (bel1 w _).alloc (by simp) _
set_option maxRecDepth 100000 in
set_option maxHeartbeats 8000000 in
theorem wherePoint_any (l : List V) (x y : Int) (A : Option Addr) (c : Nat) (w : World) (hr : Row w A (l.flatMap ptCells)) (hv : ringB l = true) (hp : within (x, y) 2000 = true) :
    Calls Tryz.prog 114 #[.slice A l.length c, .agg #[.int .i64 x, .int .i64 y, .int .i64 1]] w fun e w' => e = .returned (.int .i64 (whereL (edges l) (x, y) false)) ∧ Below w.heap.size w w' := by
  have HR := Lib.hid hr
  have HP := Lib.hid hp
  have hn := (ring_near hv).1
  have hl3 := (ring_near hv).2.1
  have hl40 := (ring_near hv).2.2
  have HN := Lib.hid hn
  have HVR := Lib.hid (fun W (hW : Below w.heap.size w W) => ring_any l A c W (HR.out.below hW) (by omega))
  rw [hv] at HVR
  have HED := Lib.hid (fun W (hW : Below w.heap.size w W) => edges_any l A c W (HR.out.below hW) (by omega) (by omega))
  obtain ⟨⟨px1, px2⟩, py1, py2⟩ := within_in hp
  simp only at px1 px2 py1 py2
  have HVP := Lib.hid (fun W => validPoint_any x y W (by omega) (by omega))
  have HO := Lib.hid (one_vec w (.cells #[.int .i64 x, .int .i64 y, .int .i64 1] 138))
  have HCL := Lib.hid (fun (u v : Int) (hu : -2000 ≤ u ∧ u ≤ 2000) (hv : -2000 ≤ v ∧ v ≤ 2000) (W : World) (hW : Below (w.alloc (.cells #[.int .i64 x, .int .i64 y, .int .i64 1] 138)).heap.size (w.alloc (.cells #[.int .i64 x, .int .i64 y, .int .i64 1] 138)) W) => to_any x y u v w.heap.size W ((hW.block _ (lt_of_block HO.out.2)).trans HO.out.2) ⟨px1, px2⟩ ⟨py1, py2⟩ hu hv)
  have HEL : Hid (whereL (edges l) (x, y) false = whereL (edgesN l l.length) (x, y) false) := Lib.hid (by rw [edges_get (by omega)]; rfl)
  obtain ⟨rv, HRV⟩ : ∃ rv, Hid (rv = whereL (edges l) (x, y) false) := ⟨_, Lib.hid rfl⟩
  rw [← HRV.out]
  rw [HEL.out] at HRV
  clear HEL
  have HES := Lib.hid (edgesN_len l l.length)
  have HSG : Hid (∀ e ∈ edgesN l l.length, within e.1 2000 = true ∧ within e.2 2000 = true) := Lib.hid (fun e he => by
    unfold edgesN at he
    obtain ⟨i, hi, rfl⟩ := List.mem_map.1 he
    exact ⟨near_at hn i, near_at hn ((i + 1) % l.length)⟩)
  clear hr hn hv px1 px2 py1 py2 hp
  obtain ⟨a0, a1, a2⟩ := three_at HO.out.2 (Below.refl _ _)
  go_enter Tryz.func114, Tryz.ntmps114
  go_upto_region 1 with fail
  generalize w.alloc (.cells #[.int .i64 x, .int .i64 y, .int .i64 1] 138) = W0 at *
  clear a0 a1 a2
  go_wp2_with fail
  refine (HVR.out _ HO.out.1).mono ?_
  rintro e w1 ⟨rfl, hb1⟩
  obtain ⟨a0, a1, a2⟩ := three_at HO.out.2 hb1
  go_wp2_with fail
  refine (HVP.out _).mono ?_
  rintro e w2 ⟨rfl, hb20⟩
  have hb2 := hb1.trans (hb20.mono hb1.size)
  have HB2 := Lib.hid (HO.out.1.trans (hb2.mono HO.out.1.size))
  clear a0 a1 a2
  go_wp2_with fail
  refine (HED.out _ HB2.out).mono ?_
  rintro e w3 ⟨v, rfl, hown, hb30⟩
  have HB3 := Lib.hid (hb2.trans (hb30.mono hb2.size))
  clear hb1 hb20 hb2 hb30 HB2 HVR HVP HED
  obtain ⟨ge, ce, rfl, hce, hge, hgw, hcell⟩ := own_get seg_len HES.out.symm hown (by omega)
  have HCE := Lib.hid hcell
  clear hcell hown hge
  generalize edgesN l l.length = es at *
  have hlen := HES.out
  rw [← hlen] at hl3 hl40
  generalize hL : l.length = n at *
  subst hlen
  go_wp2
  go_loopw [6, 8, 9, 10, 11, 12, 25] (fun b _ _ _ _ _ i wr => ∃ (k : Nat) (ins : Bool), i = .int .i64 (k : Int) ∧ b = .bool ins ∧ k ≤ es.length ∧ Hid (whereL es (x, y) false = whereL (es.drop k) (x, y) ins) ∧ Hid (Below w3.heap.size w3 wr)) (fun _ _ _ _ _ _ i _ => es.length - (intOf i).toNat)
  case atStart => exact ⟨0, false, rfl, rfl, Nat.zero_le _, Lib.hid rfl, Lib.hid (Below.refl _ _)⟩
  case round =>
    obtain ⟨k, ins, rfl, rfl, hk, HD, HB⟩ := hrel
    by_cases hlt : k < es.length
    · have HD1 : Hid (whereL es (x, y) false = if edgeOn es[k] (x, y) then 1 else whereL (es.drop (k + 1)) (x, y) (if edgeTurns es[k] (x, y) then !ins else ins)) := Lib.hid (by rw [HD.out, List.drop_eq_getElem_cons hlt]; rfl)
      have HM := HSG.out es[k] (List.getElem_mem hlt)
      have c0 := (HB.out.cell (p := ⟨ge, k * 4 + 0, none⟩) hgw).trans (HCE.out k hlt 0 (by decide))
      have c1 := (HB.out.cell (p := ⟨ge, k * 4 + 1, none⟩) hgw).trans (HCE.out k hlt 1 (by decide))
      have c2 := (HB.out.cell (p := ⟨ge, k * 4 + 2, none⟩) hgw).trans (HCE.out k hlt 2 (by decide))
      have c3 := (HB.out.cell (p := ⟨ge, k * 4 + 3, none⟩) hgw).trans (HCE.out k hlt 3 (by decide))
      generalize es[k] = e at *
      obtain ⟨⟨ax, ay⟩, bx, b_y⟩ := e
      simp only [segCells, List.getElem?_cons_zero, List.getElem?_cons_succ, Nat.add_zero] at c0 c1 c2 c3
      obtain ⟨⟨s1, s2⟩, s3, s4⟩ := within_in HM.1
      obtain ⟨⟨t1, t2⟩, t3, t4⟩ := within_in HM.2
      obtain ⟨⟨px1, px2⟩, py1, py2⟩ := within_in HP.out
      simp only at s1 s2 s3 s4 t1 t2 t3 t4 px1 px2 py1 py2
      have HBE := Lib.hid (HB3.out.trans (HB.out.mono HB3.out.size))
      have HOE := Lib.hid (one_vec wr (.cells #[.int .i64 ax, .int .i64 ay, .int .i64 bx, .int .i64 b_y] 74))
      have HBW := Lib.hid (HBE.out.trans (HOE.out.1.mono HBE.out.size))
      have HU := Lib.hid (fun W' (hW : Below (wr.alloc (.cells #[.int .i64 ax, .int .i64 ay, .int .i64 bx, .int .i64 b_y] 74)).heap.size (wr.alloc (.cells #[.int .i64 ax, .int .i64 ay, .int .i64 bx, .int .i64 b_y] 74)) W') => HCL.out ax ay ⟨s1, s2⟩ ⟨s3, s4⟩ W' (HBW.out.trans (hW.mono HBW.out.size)))
      have HV := Lib.hid (fun W' (hW : Below (wr.alloc (.cells #[.int .i64 ax, .int .i64 ay, .int .i64 bx, .int .i64 b_y] 74)).heap.size (wr.alloc (.cells #[.int .i64 ax, .int .i64 ay, .int .i64 bx, .int .i64 b_y] 74)) W') => HCL.out bx b_y ⟨t1, t2⟩ ⟨t3, t4⟩ W' (HBW.out.trans (hW.mono HBW.out.size)))
      have HSU := Lib.hid (fun W => sub_any bx b_y ax ay W (by omega) (by omega) (by omega) (by omega))
      have HCR := Lib.hid (fun W => cross_any8 (bx - ax) (b_y - ay) (x - ax) (y - ay) W (by omega) (by omega) (by omega) (by omega))
      have HON : Hid (edgeOn ((ax, ay), bx, b_y) (x, y) = (decide (cross (bx - ax, b_y - ay) (x - ax, y - ay) = 0) && (decide (min (x - ax) (x - bx) ≤ 0) && (decide (0 ≤ max (x - ax) (x - bx)) && (decide (min (y - ay) (y - b_y) ≤ 0) && decide (0 ≤ max (y - ay) (y - b_y))))))) := Lib.hid rfl
      have HTU : Hid (edgeTurns ((ax, ay), bx, b_y) (x, y) = ((decide (0 ≤ y - ay) != decide (0 ≤ y - b_y)) && (decide (0 ≤ y - ay) == decide (0 < cross (bx - ax, b_y - ay) (x - ax, y - ay))))) := Lib.hid rfl
      clear s1 s2 s3 s4 t1 t2 t3 t4 px1 px2 py1 py2 HM
      generalize edgeOn ((ax, ay), bx, b_y) (x, y) = eo at *
      generalize edgeTurns ((ax, ay), bx, b_y) (x, y) = et at *
      generalize cross (bx - ax, b_y - ay) (x - ax, y - ay) = cr at *
      have hk1 : (0 : Int) ≤ (k : Int) := by omega
      go_upto_region 8 with fail
      clear c0 c1 c2 c3
      generalize wr.alloc (.cells #[.int .i64 ax, .int .i64 ay, .int .i64 bx, .int .i64 b_y] 74) = W at *
      have CS : Hid (∀ w', Below W.heap.size W w' → w'.cell? ⟨wr.heap.size, 0, none⟩ = some (.int .i64 ax) ∧ w'.cell? ⟨wr.heap.size, 1, none⟩ = some (.int .i64 ay) ∧ w'.cell? ⟨wr.heap.size, 2, none⟩ = some (.int .i64 bx) ∧ w'.cell? ⟨wr.heap.size, 3, none⟩ = some (.int .i64 b_y) ∧ Below W.heap.size W w') := Lib.hid (fun w' hb => by
        obtain ⟨a0, a1, a2, a3⟩ := quad_at HOE.out.2 hb
        exact ⟨a0, a1, a2, a3, hb⟩)
      obtain ⟨q0, q1, q2, q3, q4⟩ := CS.out W (Below.refl _ _)
      go_cut [9, 10] from 29 to 36 (fun p q wc => ∃ b1 b2, p = .pointer (some ⟨b1, 0, none⟩) ∧ q = .pointer (some ⟨b2, 0, none⟩) ∧ (wc.cell? ⟨b1, 0, none⟩ = some (.int .i64 (x - ax)) ∧ wc.cell? ⟨b1, 1, none⟩ = some (.int .i64 (y - ay)) ∧ b1 < wc.heap.size) ∧ (wc.cell? ⟨b2, 0, none⟩ = some (.int .i64 (x - bx)) ∧ wc.cell? ⟨b2, 1, none⟩ = some (.int .i64 (y - b_y)) ∧ b2 < wc.heap.size) ∧ Below W.heap.size W wc)
      case first =>
        go_wp2_with fail
        have tok1 := Lib.hid trivial
        go_region_held3 (fun w' => w'.cell? ⟨wr.heap.size, 0, none⟩ = some (.int .i64 ax) ∧ w'.cell? ⟨wr.heap.size, 1, none⟩ = some (.int .i64 ay) ∧ w'.cell? ⟨wr.heap.size, 2, none⟩ = some (.int .i64 bx) ∧ w'.cell? ⟨wr.heap.size, 3, none⟩ = some (.int .i64 b_y) ∧ Below W.heap.size W w')
          (first | assumption | exact CS.out _ (by (repeat (with_reducible first | assumption | exact Below.refl _ _ | refine below_drew ?_ | refine bel_alloc ?_ _ | (refine bel_set ?_ (by simp <;> omega) _)))))
          (first
           | (go_at_call 160; clear tok1; obtain ⟨_, _, _, _, hbx⟩ := ‹_ ∧ _ ∧ _ ∧ _ ∧ Below _ _ _›; refine (HU.out _ hbx).mono ?_; rintro e w6 ⟨rfl, hb60⟩; have hb6 : Below W.heap.size W w6 := hbx.trans (hb60.mono (Below.size hbx)); have hz6 := Below.size hb6; (first | (have n12 := fresh2 hb60; obtain ⟨n1, n2⟩ := n12; have k1 := lt_of_block n1; have k2 := lt_of_block n2) | (have n1 := fresh1 hb60; have k1 := lt_of_block n1) | skip))
           | (go_at_call 160; obtain ⟨_, _, _, _, hbx⟩ := ‹_ ∧ _ ∧ _ ∧ _ ∧ Below _ _ _›; refine (HV.out _ hbx).mono ?_; rintro e w7 ⟨rfl, hb70⟩; have hb7 : Below W.heap.size W w7 := hbx.trans (hb70.mono (Below.size hbx)); have hz7 := Below.size hb7; (first | (have l12 := fresh2' hb70; obtain ⟨l1, l2⟩ := l12; have l1f := two_facts l1; obtain ⟨d0, d1, d2, d3, d4⟩ := l1f; have l2f := two_facts l2; obtain ⟨d0', d1', d2', d3', d4'⟩ := l2f) | (have l1 := fresh1' hb70; have l1f := two_facts l1; obtain ⟨d0, d1, d2, d3, d4⟩ := l1f) | skip); (first | (have o1 := two_facts (older n1 hb70); obtain ⟨c0, c1, c2, c3, c4⟩ := o1) | (have o1 := two_facts (older n1 (below_of_alloc hb70)); obtain ⟨c0, c1, c2, c3, c4⟩ := o1) | skip); (first | (have o2 := two_facts (older n2 hb70); obtain ⟨e0, e1, e2, e3, e4⟩ := o2) | skip)))
        all_goals
          go_wp2_with fail
          go_meet
        all_goals
          refine ⟨_, _, rfl, rfl, ⟨?_, ?_, ?_⟩, ⟨?_, ?_, ?_⟩, ?_⟩
          all_goals first | (repeat (with_reducible first | assumption | exact Below.refl _ _ | refine below_drew ?_ | refine bel_alloc ?_ _ | (refine bel_set ?_ (by simp <;> omega) _))) | skip
        all_goals try (go_simp; done)
      case rest =>
        obtain ⟨g1, g2, rfl, rfl, ua, va, HBC0⟩ := hcut
        have HBC := Lib.hid (HBE.out.trans ((HOE.out.1.trans (HBC0.mono HOE.out.1.size)).mono HBE.out.size))
        have HEC := Lib.hid ((HBC0.block _ (lt_of_block HOE.out.2)).trans HOE.out.2)
        have UV := Lib.hid (And.intro ua va)
        have HBWC := Lib.hid (HB.out.trans ((HOE.out.1.trans (HBC0.mono HOE.out.1.size)).mono HB.out.size))
        clear HBC0 ua va q0 q1 q2 q3 q4 CS HU HV HBW HBE HOE
        have E0 := fun p : Later wc => (quad_at HEC.out p.h).1
        have E1 := fun p : Later wc => (quad_at HEC.out p.h).2.1
        have E2 := fun p : Later wc => (quad_at HEC.out p.h).2.2.1
        have E3 := fun p : Later wc => (quad_at HEC.out p.h).2.2.2
        have G0 := fun p : Later wc => (pairs_on UV.out p.h).1.1
        have G1 := fun p : Later wc => (pairs_on UV.out p.h).1.2.1
        generalize x - ax = a1 at *
        generalize y - ay = a2 at *
        generalize x - bx = c1 at *
        generalize y - b_y = c2 at *
        go_wp2_with fail
        refine wp_region_later wc (by kernel_rfl) (by kernel_rfl) (Below.refl _ _) ?_
        repeat (go_big_quiet_step (first | (go_at_call 94; with_reducible exact Calls.later (HSU.out _)) | (go_at_call 149; with_reducible exact Calls.later (HCR.out _))))
        refine wpQuiet_nil ?_
        rintro w9 hex; have hb9 := later_of hex; clear hex
        have HB9 := Lib.hid (HBWC.out.trans (hb9.mono HBWC.out.size))
        have UV9 := Lib.hid (pairs_on UV.out hb9)
        clear E0 E1 E2 E3 G0 G1 HBC HEC UV HBWC hb9
        obtain ⟨⟨k0, k1, _⟩, k2, k3, _⟩ := UV9.out
        go_upto_region 10 with fail
        go_cut [77] from 44 to 76 (fun t wx => t = .bool eo ∧ wx = w9)
        case first =>
          clear HTU
          generalize hm1 : min a1 c1 = m1 at *
          generalize hm2 : max a1 c1 = m2 at *
          generalize hm3 : min a2 c2 = m3 at *
          generalize hm4 : max a2 c2 = m4 at *
          cases d0 : decide (cr = 0)
          · skip
            have t0 : (cr == 0) = false := by simpa using d0
            go_wp2_with fail
            go_meet
            exact ⟨by rw [HON.out, d0]; rfl, rfl⟩
          · skip
            have t0 : (cr == 0) = true := by simpa using d0
            cases d1 : decide (m1 ≤ 0)
            · skip
              go_wp2_with fail
              go_meet
              exact ⟨by rw [HON.out, d0, d1]; rfl, rfl⟩
            · skip
              cases d2 : decide (0 ≤ m2)
              · skip
                go_wp2_with fail
                go_meet
                exact ⟨by rw [HON.out, d0, d1, d2]; rfl, rfl⟩
              · skip
                cases d3 : decide (m3 ≤ 0)
                · skip
                  go_wp2_with fail
                  go_meet
                  exact ⟨by rw [HON.out, d0, d1, d2, d3]; rfl, rfl⟩
                · skip
                  cases d4 : decide (0 ≤ m4)
                  · skip
                    go_wp2_with fail
                    go_meet
                    exact ⟨by rw [HON.out, d0, d1, d2, d3, d4]; rfl, rfl⟩
                  · skip
                    go_wp2_with fail
                    go_meet
                    exact ⟨by rw [HON.out, d0, d1, d2, d3, d4]; rfl, rfl⟩
        case rest =>
          obtain ⟨rfl, rfl⟩ := hcut
          cases eo
          · have HD2 := HD1.out
            rw [if_neg Bool.false_ne_true] at HD2
            have HD3 := Lib.hid HD2
            clear HD2 HON HD1
            cases e1 : decide (0 ≤ a2)
            · skip
              cases e2 : decide (0 ≤ c2)
              · skip
                cases e3 : decide (0 < cr)
                · skip
                  have HET : Hid (et = false) := Lib.hid (by rw [HTU.out, e1, e2, e3]; rfl)
                  rw [HET.out] at HD3
                  clear HET HTU
                  go_wp2
                  go_roundw
                  case rel => exact ⟨k + 1, ins, by go_num, rfl, by omega, Lib.hid HD3.out, HB9⟩
                  case measure => simp [intOf]; omega
                · skip
                  have HET : Hid (et = false) := Lib.hid (by rw [HTU.out, e1, e2, e3]; rfl)
                  rw [HET.out] at HD3
                  clear HET HTU
                  go_wp2
                  go_roundw
                  case rel => exact ⟨k + 1, ins, by go_num, rfl, by omega, Lib.hid HD3.out, HB9⟩
                  case measure => simp [intOf]; omega
              · skip
                cases e3 : decide (0 < cr)
                · skip
                  have HET : Hid (et = true) := Lib.hid (by rw [HTU.out, e1, e2, e3]; rfl)
                  rw [HET.out] at HD3
                  clear HET HTU
                  go_wp2
                  go_roundw
                  case rel => exact ⟨k + 1, !ins, by go_num, rfl, by omega, Lib.hid HD3.out, HB9⟩
                  case measure => simp [intOf]; omega
                · skip
                  have HET : Hid (et = false) := Lib.hid (by rw [HTU.out, e1, e2, e3]; rfl)
                  rw [HET.out] at HD3
                  clear HET HTU
                  go_wp2
                  go_roundw
                  case rel => exact ⟨k + 1, ins, by go_num, rfl, by omega, Lib.hid HD3.out, HB9⟩
                  case measure => simp [intOf]; omega
            · skip
              cases e2 : decide (0 ≤ c2)
              · skip
                cases e3 : decide (0 < cr)
                · skip
                  have HET : Hid (et = false) := Lib.hid (by rw [HTU.out, e1, e2, e3]; rfl)
                  rw [HET.out] at HD3
                  clear HET HTU
                  go_wp2
                  go_roundw
                  case rel => exact ⟨k + 1, ins, by go_num, rfl, by omega, Lib.hid HD3.out, HB9⟩
                  case measure => simp [intOf]; omega
                · skip
                  have HET : Hid (et = true) := Lib.hid (by rw [HTU.out, e1, e2, e3]; rfl)
                  rw [HET.out] at HD3
                  clear HET HTU
                  go_wp2
                  go_roundw
                  case rel => exact ⟨k + 1, !ins, by go_num, rfl, by omega, Lib.hid HD3.out, HB9⟩
                  case measure => simp [intOf]; omega
              · skip
                cases e3 : decide (0 < cr)
                · skip
                  have HET : Hid (et = false) := Lib.hid (by rw [HTU.out, e1, e2, e3]; rfl)
                  rw [HET.out] at HD3
                  clear HET HTU
                  go_wp2
                  go_roundw
                  case rel => exact ⟨k + 1, ins, by go_num, rfl, by omega, Lib.hid HD3.out, HB9⟩
                  case measure => simp [intOf]; omega
                · skip
                  have HET : Hid (et = false) := Lib.hid (by rw [HTU.out, e1, e2, e3]; rfl)
                  rw [HET.out] at HD3
                  clear HET HTU
                  go_wp2
                  go_roundw
                  case rel => exact ⟨k + 1, ins, by go_num, rfl, by omega, Lib.hid HD3.out, HB9⟩
                  case measure => simp [intOf]; omega
          · have HD2 : Hid (whereL es (x, y) false = 1) := Lib.hid (by rw [HD1.out, if_pos rfl])
            go_wp2
            go_ret
            rw [HRV.out, HD2.out]
            exact ⟨rfl, HO.out.1.trans ((HB3.out.trans (HB9.out.mono HB3.out.size)).mono HO.out.1.size)⟩
    · obtain rfl : k = es.length := by omega
      rw [List.drop_length] at HD
      have HBF := Lib.hid (HO.out.1.trans ((HB3.out.trans (HB.out.mono HB3.out.size)).mono HO.out.1.size))
      cases ins
      · go_wp2
        go_ret
        rw [HRV.out, HD.out]
        exact ⟨rfl, HBF.out⟩
      · go_wp2
        go_ret
        rw [HRV.out, HD.out]
        exact ⟨rfl, HBF.out⟩
set_option maxRecDepth 100000 in
theorem where_any (l : List V) (x y : Int) (A : Option Addr) (c : Nat) (w : World) (hr : Row w A (l.flatMap ptCells)) (hv : ringB l = true) (hp : within (x, y) 2000 = true) :
    Calls Tryz.prog 55 #[.slice A l.length c, .agg #[.int .i64 x, .int .i64 y]] w fun e w' => e = .returned (.int .i64 (whereL (edges l) (x, y) false)) ∧ Below w.heap.size w w' := by
  have HO := Lib.hid (one_vec w (.cells #[.int .i64 x, .int .i64 y] 53))
  have HWI := Lib.hid (fun W => within_any x y 4000 W (by omega))
  rw [within_more hp (by omega)] at HWI
  have HPO := Lib.hid (fun W => pointOf_any x y W)
  have HWP := Lib.hid (fun W (hW : Below w.heap.size w W) => wherePoint_any l x y A c W (hr.below hW) hv hp)
  obtain ⟨a0, a1⟩ := pair_at HO.out.2 (Below.refl _ _)
  generalize whereL (edges l) (x, y) false = rv at *
  clear hr hv hp
  go_enter Tryz.func55, Tryz.ntmps55
  go_wp2_with fail
  generalize w.alloc (.cells #[.int .i64 x, .int .i64 y] 53) = W0 at *
  refine (HWI.out _).mono ?_
  rintro e w1 ⟨rfl, hb1⟩
  clear a0 a1
  obtain ⟨a0, a1⟩ := pair_at HO.out.2 hb1
  go_wp2_with fail
  refine (HPO.out _).mono ?_
  rintro e w2 ⟨rfl, hb20⟩
  have HB2 := Lib.hid (HO.out.1.trans ((hb1.trans (hb20.mono hb1.size)).mono HO.out.1.size))
  clear a0 a1 hb1 hb20
  go_wp2_with fail
  refine (HWP.out _ HB2.out).mono ?_
  rintro e w3 ⟨rfl, hb3⟩
  go_wp2
  go_ret
  exact ⟨rfl, HB2.out.trans (hb3.mono HB2.out.size)⟩
end Go.Proofs.YtnmmhcchpcbeeaaGreat.GeW
