/- Walks: points joined: room made, rows put one behind the other. Conditions: the points lie in memory; at most ten thousand each. -/
import Derived.Test.YtnmmhcchpcbeeaaGreatGeDe
import Derived.Lib.AppendZerosOnto
import Derived.Lib.Builder

namespace Go.Proofs.YtnmmhcchpcbeeaaGreat.GeW
open Go Go.RowKit Go.Proofs.YtnmmhcchpcbeeaaGreat.Mem Go.Proofs.YtnmmhcchpcbeeaaGreat.Ge

set_option maxRecDepth 100000 in
set_option maxHeartbeats 1000000 in
theorem grow_any (n : Nat) (hn : n ≤ 1000000) (w : World) :
    Calls Tryz.prog 180 #[.slice none 0 0, .int .i64 n] w fun e w' => (∃ v, e = .returned v ∧ w'.ownsRow w.heap.size 53 2 v 0 []) ∧ Below w.heap.size w w' := by
  by_cases h0 : n = 0
  · subst h0
    go_enter Tryz.func180, Tryz.ntmps180
    go_wp2
    go_ret
    exact ⟨⟨_, rfl, World.ownsRow_nil _ _ _ _⟩, Below.refl _ _⟩
  · obtain ⟨i0, ia, ib, ic, id⟩ := info_parts info_vec
    have hold := run_firstCells_none (P := Tryz.prog) w.drew i0.size 0 0 0
    have hrz : ∀ ty, (Builtin.append_ #[26, 3] ty #[.slice none 0 0, .int .i64 (n : Int)]).run Tryz.prog w = _ := fun ty =>
      Lib.run_append_grow_zeros (P := Tryz.prog) w 26 3 ty 53 i0 _ .i64 .i64 Tryz.underlying26 Tryz.underlying3 ia ib none 0 0 [] hold n (by omega) (by omega) (by omega) (by omega) (by rw [id]; omega) (by rw [id]; exact growslice_fits (by omega) (by omega))
    rw [Nat.zero_add] at hrz
    have hge := grownCap_ge w n 0 53
    have hle := grownCap_le_maxLen w n 0 53 (by unfold maxLen; omega)
    generalize grownCap w n 0 53 = G at *
    have hown : Hid ((w.drew.alloc (.cells (#[] ++ Builtin.zeroCells (Value.agg #[.int .i64 0, .int .i64 0]).cells n ++ Builtin.zeroCells (Value.agg #[.int .i64 0, .int .i64 0]).cells (G - n)) 53)).ownsRow w.heap.size 53 2 (.slice (some ⟨w.heap.size, 0, none⟩) 0 G) 0 []) := Lib.hid (by
      refine ⟨rfl, .inr ⟨w.heap.size, G, _, rfl, Nat.le_refl _, heap_alloc_new w.drew _, Nat.zero_le _, hle, ?_, by simp⟩⟩
      rw [Array.size_append, Array.size_append, size_zeroCells, size_zeroCells]
      simp [Value.cells]
      omega)
    have hbel : Hid (Below w.heap.size w (w.drew.alloc (.cells (#[] ++ Builtin.zeroCells (Value.agg #[.int .i64 0, .int .i64 0]).cells n ++ Builtin.zeroCells (Value.agg #[.int .i64 0, .int .i64 0]).cells (G - n)) 53))) := Lib.hid ((below_drew (Below.refl _ _)).alloc (Nat.le_refl _) _)
    unfold maxLen at hle
    have hlt : (0 : Int) < (n : Int) := by omega
    clear hold
    generalize hW : w.drew.alloc (.cells (#[] ++ Builtin.zeroCells (Value.agg #[.int .i64 0, .int .i64 0]).cells n ++ Builtin.zeroCells (Value.agg #[.int .i64 0, .int .i64 0]).cells (G - n)) 53) = W at *
    have HW := Lib.hid hW
    clear hW
    go_enter Tryz.func180, Tryz.ntmps180
    go_wp2_with (at_builtin; refine Lib.wpList_append_run _ rfl _ _ _ _ rfl _ _ rfl rfl _ _ (hrz _) ?_)
    go_ret
    exact ⟨⟨_, rfl, hown.out⟩, hbel.out⟩

def szAt (l r : List V) (k : Nat) : Nat := if k = 0 then 0 else if k = 1 then l.length else l.length + r.length
def rowsAt (l r : List V) (k : Nat) : List V := if k = 0 then [] else if k = 1 then l else l ++ r
set_option maxRecDepth 100000 in
set_option maxHeartbeats 1000000 in
theorem concat_any (l r : List V) (A B : Option Addr) (c d b : Nat) (w : World) (hb : w.heap[b]? = some (.cells #[.slice A l.length c, .slice B r.length d] 26 (0, 0))) (hr : Row w A (l.flatMap ptCells)) (hs : Row w B (r.flatMap ptCells)) (hl : l.length ≤ 10000) (hl2 : r.length ≤ 10000) :
    Calls Tryz.prog 138 #[.slice (some ⟨b, 0, none⟩) 2 2] w fun e w' => (∃ v, e = .returned v ∧ w'.ownsRow w.heap.size 53 2 v (l.length + r.length) ((l ++ r).flatMap ptCells)) ∧ Below w.heap.size w w' := by
  have HR := Lib.hid hr
  have HS := Lib.hid hs
  have HB := Lib.hid hb
  have HG := Lib.hid (fun W => grow_any (l.length + r.length) (by omega) W)
  have HL1 := Lib.hid (flatMap_len pt_len l)
  have HL2 := Lib.hid (flatMap_len pt_len r)
  have HO1 := Lib.hid (pt_one l)
  have HO2 := Lib.hid (pt_one r)
  have c0 : w.cell? ⟨b, 0, none⟩ = some (.slice A l.length c) := by rw [Lib.cell_of_heap hb]; rfl
  have c1 : w.cell? ⟨b, 1, none⟩ = some (.slice B r.length d) := by rw [Lib.cell_of_heap hb]; rfl
  have hbz := lt_of_block hb
  obtain ⟨i0, ia, ib, ic, id⟩ := info_parts info_vec
  clear hb hr hs
  go_enter Tryz.func138, Tryz.ntmps138
  go_wp2
  go_loop [3, 11] (fun s t => ∃ k : Nat, k ≤ 2 ∧ t = .int .i64 k ∧ s = .int .i64 (szAt l r k)) (fun _ t => 2 - (intOf t).toNat)
  case atStart => exact ⟨0, by omega, rfl, rfl⟩
  case round =>
    obtain ⟨k, hk, rfl, rfl⟩ := hrel
    rcases (show k = 0 ∨ k = 1 ∨ k = 2 by omega) with rfl | rfl | rfl
    · have e0 : szAt l r 0 = 0 := rfl
      rw [e0]
      clear e0
      go_wp2
      go_round
      case rel => exact ⟨1, by omega, rfl, rfl⟩
      case measure => simp [intOf]
    · have e0 : szAt l r 1 = l.length := rfl
      rw [e0]
      clear e0
      go_wp2
      go_round
      case rel => exact ⟨2, by omega, rfl, rfl⟩
      case measure => simp [intOf]
    · have e0 : szAt l r 2 = l.length + r.length := rfl
      rw [e0]
      clear e0
      go_wp2_with fail
      refine (HG.out _).mono ?_
      rintro e w1 ⟨⟨v1, rfl, hown1⟩, hb1⟩
      have HOWN1 := Lib.hid hown1
      clear hown1
      go_wp2
      go_loopw [6, 27] (fun v t wr => ∃ k : Nat, k ≤ 2 ∧ t = .int .i64 k ∧ wr.ownsRow w.heap.size 53 2 v (szAt l r k) ((rowsAt l r k).flatMap ptCells) ∧ Below w.heap.size w wr) (fun _ t _ => 2 - (intOf t).toNat)
      case atStart => exact ⟨0, by omega, rfl, HOWN1.out, hb1⟩
      case round =>
        obtain ⟨k, hk, rfl, hown, hbel⟩ := hrel
        have d0 := (hbel.cell (p := ⟨b, 0, none⟩) hbz).trans c0
        have d1 := (hbel.cell (p := ⟨b, 1, none⟩) hbz).trans c1
        have hbz2 := Nat.lt_of_lt_of_le hbz hbel.size
        have HRr := Lib.hid (HR.out.below hbel)
        have HSr := Lib.hid (HS.out.below hbel)
        rcases (show k = 0 ∨ k = 1 ∨ k = 2 by omega) with rfl | rfl | rfl
        · have hown0 : wr.ownsRow w.heap.size 53 2 u6 0 [] := hown
          clear hown
          have HO := Lib.hid hown0
          clear hown0
          go_wp2_with (at_builtin; refine wpList_append_row _ rfl _ _ 26 rfl w.heap.size 53 i0 _ 2 16 Tryz.underlying26 ia ib ic id rfl (by omega) _ _ _ rfl HO.out A l.length c (l.flatMap ptCells) rfl HRr.out HL1.out HO1.out ?c3 ?c4 ?c5 ?_)
          case c3 => unfold maxLen; omega
          case c4 => omega
          case c5 => exact hbel.size
          · intro v' w2 hown2 hg2
            have hb2 : Below w.heap.size w w2 := below_append hbel hbel.size HO.out hg2 (Nat.le_refl _)
            have HO2 : Hid (w2.ownsRow w.heap.size 53 2 v' (szAt l r 1) ((rowsAt l r 1).flatMap ptCells)) := Lib.hid (by simpa [szAt, rowsAt] using hown2)
            clear hown2 hg2
            go_wp2
            go_roundw
            case rel => exact ⟨1, by omega, rfl, HO2.out, hb2⟩
            case measure => simp [intOf]
        · have hown0 : wr.ownsRow w.heap.size 53 2 u6 l.length (l.flatMap ptCells) := hown
          clear hown
          have HO := Lib.hid hown0
          clear hown0
          go_wp2_with (at_builtin; refine wpList_append_row _ rfl _ _ 26 rfl w.heap.size 53 i0 _ 2 16 Tryz.underlying26 ia ib ic id rfl (by omega) _ _ _ rfl HO.out B r.length d (r.flatMap ptCells) rfl HSr.out HL2.out HO2.out ?c3 ?c4 ?c5 ?_)
          case c3 => unfold maxLen; omega
          case c4 => omega
          case c5 => exact hbel.size
          · intro v' w2 hown2 hg2
            have hb2 : Below w.heap.size w w2 := below_append hbel hbel.size HO.out hg2 (Nat.le_refl _)
            have HO2 : Hid (w2.ownsRow w.heap.size 53 2 v' (szAt l r 2) ((rowsAt l r 2).flatMap ptCells)) := Lib.hid (by simpa [szAt, rowsAt] using hown2)
            clear hown2 hg2
            go_wp2
            go_roundw
            case rel => exact ⟨2, by omega, rfl, HO2.out, hb2⟩
            case measure => simp [intOf]
        · have HO := Lib.hid hown
          clear hown
          go_wp2
          go_ret
          exact ⟨⟨_, rfl, HO.out⟩, hbel⟩
end Go.Proofs.YtnmmhcchpcbeeaaGreat.GeW
