/- Walks: the program's divisor, and single points. Conditions: the numbers are at most 10^15. -/
import Derived.Test.YtnmmhcchpcbeeaaGreatGeO

namespace Go.Proofs.YtnmmhcchpcbeeaaGreat.GeW
open Go Go.RowKit Go.Proofs.YtnmmhcchpcbeeaaGreat.Mem Go.Proofs.YtnmmhcchpcbeeaaGreat.Ge
attribute [local go_sem ↓] Go.wp_at_zero Go.wp_at_succ
theorem tmod_abs (a b : Int) (h : b ≠ 0) : (a.tmod b).natAbs < b.natAbs := by
  rw [Int.natAbs_tmod]
  exact Nat.mod_lt _ (by omega)
set_option maxRecDepth 100000 in
set_option maxHeartbeats 1000000 in
theorem divisor_any (a b : Int) (w : World) (ha : a.natAbs ≤ 1000000000000000) (hb : b.natAbs ≤ 1000000000000000) (hne : a ≠ 0 ∨ b ≠ 0) :
    Calls Tryz.prog 199 #[.int .i64 a, .int .i64 b] w fun e w' => (∃ g : Int, e = .returned (.int .i64 g) ∧ 1 ≤ g ∧ g ≤ 1000000000000000) ∧ Below w.heap.size w w' := by
  go_enter Tryz.func199, Tryz.ntmps199
  go_wp2
  go_loopw [0, 1] (fun u v wr => ∃ x y : Int, u = .int .i64 x ∧ v = .int .i64 y ∧ Hid (x.natAbs ≤ 1000000000000000 ∧ y.natAbs ≤ 1000000000000000 ∧ (x ≠ 0 ∨ y ≠ 0)) ∧ Hid (Below w.heap.size w wr)) (fun _ v _ => (intOf v).natAbs)
  case atStart => exact ⟨a, b, rfl, rfl, Lib.hid ⟨ha, hb, hne⟩, Lib.hid (Below.refl _ _)⟩
  case round =>
    obtain ⟨x, y, rfl, rfl, HX, HB⟩ := hrel
    clear ha hb hne
    by_cases hy : y = 0
    · subst hy
      have hx0 : x ≠ 0 := by
        rcases HX.out.2.2 with h | h
        · exact h
        · exact absurd rfl h
      obtain ⟨h1, _, _⟩ := HX.out
      have hxb : -1000000000000000 ≤ x ∧ x ≤ 1000000000000000 := by omega
      go_wp2
      go_ret
      exact ⟨⟨_, rfl, by omega, by omega⟩, HB.out⟩
    · have HM := Lib.hid (tmod_abs x y hy)
      obtain ⟨h1, h2, _⟩ := HX.out
      have hy1 : (y != 0) = true := bne_iff_ne.2 hy
      have hy2 : (y = 0) = False := eq_false hy
      go_wp2
      go_region
      all_goals
        go_roundw
        case rel => exact ⟨_, _, _, _, _, _, _, _, ⟨y, x.tmod y, rfl, rfl, Lib.hid ⟨h2, by have := HM.out; omega, .inl hy⟩, Lib.hid (below_drew HB.out)⟩, rfl⟩
        case measure => simpa [intOf] using HM.out
theorem pointOf_any (x y : Int) (w : World) :
    Calls Tryz.prog 115 #[.agg #[.int .i64 x, .int .i64 y]] w fun e w' => e = .returned (.agg #[.int .i64 x, .int .i64 y, .int .i64 1]) ∧ Below w.heap.size w w' := by
  go_enter Tryz.func115, Tryz.ntmps115
  go_wp2
  refine bodyPost_ret (v := .agg #[.int .i64 x, .int .i64 y, .int .i64 1]) (by simp [results, Tryz.results115, go_sem]) rfl ⟨rfl, ?_⟩
  exact ((Below.refl _ _).alloc (Nat.le_refl _) _).alloc (by simp) _
theorem oct_at {w w' : World} {b : Nat} {a0 a1 a2 a3 a4 a5 a6 a7 : Value} {t : TypeId} (h : w.heap[b]? = some (.cells #[a0, a1, a2, a3, a4, a5, a6, a7] t (0, 0))) (hb : Below w.heap.size w w') :
    (w'.cell? ⟨b, 0, none⟩ = some a0 ∧ w'.cell? ⟨b, 1, none⟩ = some a1 ∧ w'.cell? ⟨b, 2, none⟩ = some a2 ∧ w'.cell? ⟨b, 3, none⟩ = some a3 ∧ w'.cell? ⟨b, 4, none⟩ = some a4 ∧ w'.cell? ⟨b, 5, none⟩ = some a5 ∧ w'.cell? ⟨b, 6, none⟩ = some a6 ∧ w'.cell? ⟨b, 7, none⟩ = some a7) ∧ (∀ j, w'.frozen? ⟨b, j, none⟩ = false) ∧ b < w'.heap.size := by
  have h' := (hb.block b (lt_of_block h)).trans h
  refine ⟨⟨?_, ?_, ?_, ?_, ?_, ?_, ?_, ?_⟩, fun j => by simp [World.frozen?, h'], lt_of_block h'⟩ <;> simp [World.cell?, h']
/-- What two segments have in common, of a kind. -/
def Common (k : Int) (v : Value) : Prop := ∃ a b c d e f g : Int, v = .agg #[.int .i64 k, .int .i64 a, .int .i64 b, .int .i64 c, .int .i64 d, .int .i64 e, .int .i64 f, .int .i64 g]
set_option maxRecDepth 100000 in
theorem single_any (x y : Int) (w : World) :
    Calls Tryz.prog 196 #[.agg #[.int .i64 x, .int .i64 y]] w fun e w' => (∃ v, e = .returned v ∧ Common 1 v) ∧ Below w.heap.size w w' := by
  have HP := Lib.hid (fun W => pointOf_any x y W)
  have HX := Lib.hid (two_vecs w (.cells #[.int .i64 x, .int .i64 y] 53) (.cells #[.int .i64 0, .int .i64 0, .int .i64 0, .int .i64 0, .int .i64 0, .int .i64 0, .int .i64 0, .int .i64 0] 160))
  have HB := Lib.hid (((Below.refl w.heap.size w).alloc (Nat.le_refl _) (.cells #[.int .i64 x, .int .i64 y] 53)).alloc (by simp) (.cells #[.int .i64 0, .int .i64 0, .int .i64 0, .int .i64 0, .int .i64 0, .int .i64 0, .int .i64 0, .int .i64 0] 160))
  go_enter Tryz.func196, Tryz.ntmps196
  go_wp2_with fail
  refine (HP.out _).mono ?_
  rintro e w1 ⟨rfl, hb1⟩
  obtain ⟨⟨c0, c1, c2, c3, c4, c5, c6, c7⟩, hf, hz⟩ := oct_at HX.out.2 hb1
  have f0 := hf 0
  have f1 := hf 1
  have f2 := hf 2
  have f3 := hf 3
  have f4 := hf 4
  have f5 := hf 5
  have f6 := hf 6
  have f7 := hf 7
  have HB1 := Lib.hid (HB.out.trans (hb1.mono (Below.size HB.out)))
  clear hf hb1
  go_wp2
  refine bodyPost_ret (v := .agg #[.int .i64 1, .int .i64 x, .int .i64 y, .int .i64 1, .int .i64 0, .int .i64 0, .int .i64 0, .int .i64 0]) (by simp [results, Tryz.results196, go_sem, c0, c1, c2, c3, c4, c5, c6, c7]) rfl ⟨⟨_, rfl, _, _, _, _, _, _, _, rfl⟩, ?_⟩
  exact (((((((HB1.out.setCell (by simp) _).setCell (by simp) _).setCell (by simp) _).setCell (by simp) _).setCell (by simp) _).setCell (by simp) _).setCell (by simp) _).setCell (by simp) _
end Go.Proofs.YtnmmhcchpcbeeaaGreat.GeW
