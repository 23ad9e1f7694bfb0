/- Walk: the points of a passage from one of its ends. Conditions: the passage lies in memory. -/
import Derived.Test.YtnmmhcchpcbeeaaGreatRgK
import Derived.Test.YtnmmhcchpcbeeaaGreatGeSl
namespace Go.Proofs.YtnmmhcchpcbeeaaGreat.GeW
open Go Go.RowKit Go.Proofs.YtnmmhcchpcbeeaaGreat.Mem Go.Proofs.YtnmmhcchpcbeeaaGreat.Ge
attribute [local go_sem ↓] Go.wp_at_zero Go.wp_at_succ
theorem passPts_len (p : Pass) (k : Nat) : (passPts p k).length = p.pts.length := by
  unfold passPts
  split <;> simp
theorem cellIn {w : World} {g : Nat} {cs : Array Value} {t : TypeId} (h : w.heap[g]? = some (.cells cs t (0, 0))) (i : Nat) (hi : i < cs.size) : w.cell? ⟨g, i, none⟩ = some cs[i] := by
  simp [World.cell?, h, Array.getElem?_eq_getElem hi]
set_option maxRecDepth 100000 in
set_option maxHeartbeats 1000000 in
theorem pass_any (base : Nat) (q : PassV) (u : Bool) (k : Nat) (hk : k ≤ 1) (w : World) (h : PassIn base w q u) :
    Calls Tryz.prog 98 #[.pointer (some ⟨q.g, 0, none⟩), .int .i64 (k : Int)] w fun e w' => (∃ v, e = .returned v ∧ w'.ownsRow w.heap.size 53 2 v q.p.pts.length ((passPts q.p k).flatMap ptCells)) ∧ Below w.heap.size w w' := by
  have c4 : w.cell? ⟨q.g, 4, none⟩ = some (.slice q.A q.p.pts.length q.k) := cellIn h.cells 4 (by simp [passCells])
  have HC := Lib.hid (clone_any q.p.pts q.A q.k w h.pts.1 (by have := h.two.2; omega))
  rcases (show k = 0 ∨ k = 1 by omega) with rfl | rfl
  · have HP : Hid (passPts q.p 0 = q.p.pts) := Lib.hid rfl
    rw [HP.out]
    have s1 : ((0 : Int) == 1) = false := rfl
    clear h HP
    go_enter Tryz.func98, Tryz.ntmps98
    go_wp2_with fail
    refine HC.out.mono ?_
    rintro e w1 ⟨⟨v, rfl, hown⟩, hb1⟩
    have HO := Lib.hid hown
    clear hown
    go_wp2
    go_ret
    exact ⟨⟨_, rfl, HO.out⟩, hb1⟩
  · have HP : Hid (passPts q.p 1 = q.p.pts.reverse) := Lib.hid rfl
    rw [HP.out]
    have s1 : ((1 : Int) == 1) = true := rfl
    clear h HP
    go_enter Tryz.func98, Tryz.ntmps98
    go_wp2_with fail
    refine HC.out.mono ?_
    rintro e w1 ⟨⟨v, rfl, hown⟩, hb1⟩
    have HRV := Lib.hid (revV_any q.p.pts w.heap.size q.p.pts.length v w1 rfl hown)
    clear hown
    go_wp2_with fail
    refine HRV.out.mono ?_
    rintro e w2 ⟨rfl, hown2, hb2⟩
    have HO := Lib.hid hown2
    clear hown2
    go_wp2
    go_ret
    exact ⟨⟨_, rfl, HO.out⟩, hb1.trans hb2⟩
end Go.Proofs.YtnmmhcchpcbeeaaGreat.GeW
