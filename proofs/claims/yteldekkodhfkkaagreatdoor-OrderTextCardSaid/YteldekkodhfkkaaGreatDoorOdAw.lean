/- Walks: the example that every statement checks first. Conditions: none. -/
import Derived.Test.YteldekkodhfkkaaGreatDoorOdV
namespace Go.Proofs.YteldekkodhfkkaaGreatDoor.OdW
open Go Go.RowKit Go.Proofs.YteldekkodhfkkaaGreatDoor.Mem

theorem nd_eql (x : Nd) (w : World) : (binOp .eql 38 (.agg #[.string ⟨x.1.toArray⟩, .int .i64 x.2]) (.agg #[.string ⟨x.1.toArray⟩, .int .i64 x.2])).run Tryz.prog w = .ok (.bool true) w := by
  have u3 := Tryz.underlying3
  have a3 := Tryz.isAgg3
  have z3 := Tryz.sizeOf3
  have u9 := Tryz.underlying9
  have a9 := Tryz.isAgg9
  have z9 := Tryz.sizeOf9
  have hS : Tryz.prog.underlying 38 = some (.struct (Tryz.prog.fieldsOf 38)) := by kernel_rfl
  have hp : Tryz.prog.stoodInHeld 38 = false := by kernel_rfl
  have e1 := text_eq x.1 x.1
  rw [run_eql_struct, show (10000 : Nat) = 9999 + 1 from rfl, run_equalIn_agg w 9999 38 _ _ hS hp]
  simp only [Program.fieldsOf, Tryz.underlying38]
  go_simp
theorem it_eql (x : Od.It) (w : World) : (binOp .eql 33 (.agg #[.string ⟨x.o.toArray⟩, .string ⟨x.p.toArray⟩, .int .i64 x.q, .int .i64 x.d]) (.agg #[.string ⟨x.o.toArray⟩, .string ⟨x.p.toArray⟩, .int .i64 x.q, .int .i64 x.d])).run Tryz.prog w = .ok (.bool true) w := by
  have u3 := Tryz.underlying3
  have a3 := Tryz.isAgg3
  have z3 := Tryz.sizeOf3
  have u9 := Tryz.underlying9
  have a9 := Tryz.isAgg9
  have z9 := Tryz.sizeOf9
  have hS : Tryz.prog.underlying 33 = some (.struct (Tryz.prog.fieldsOf 33)) := by kernel_rfl
  have hp : Tryz.prog.stoodInHeld 33 = false := by kernel_rfl
  have e1 := text_eq x.o x.o
  have e2 := text_eq x.p x.p
  rw [run_eql_struct, show (10000 : Nat) = 9999 + 1 from rfl, run_equalIn_agg w 9999 33 _ _ hS hp]
  simp only [Program.fieldsOf, Tryz.underlying33]
  go_simp
def ex : List Od.It := [⟨[111, 49], [97], 3, 20⟩, ⟨[111, 50], [97], 4, 10⟩]
theorem ex_demand : demand ex = [([97], 7)] := by decide
theorem ex_deliver : deliver ex [97] 5 = ([⟨[111, 49], [97], 2, 20⟩], 0, 0) := by decide
theorem ex_short : ∀ m ∈ ex, Od.Short m := by
  intro m hm
  unfold ex at hm
  simp only [List.mem_cons, List.not_mem_nil, or_false] at hm
  rcases hm with rfl | rfl <;> exact ⟨by decide, by decide⟩
theorem row_of_block {w : World} {b : Nat} {xs : List Value} {T : TypeId} (h : w.heap[b]? = some (.cells xs.toArray T (0, 0))) : Row w (some ⟨b, 0, none⟩) xs := by
  intro _
  refine ⟨b, 0, rfl, (Array.getElem?_eq_some_iff.1 h).1, fun j hj => ?_⟩
  rw [Nat.zero_add, Lib.cell_of_heap h]
  simp

set_option maxRecDepth 100000 in
set_option maxHeartbeats 1000000 in
theorem awake_any (w : World) : Calls Tryz.prog 4 #[] w fun e w' => e = .returned (.bool true) ∧ Below w.heap.size w w' := by
  have HD := Lib.hid (fun A c W h => demand_any ex A c W h (by decide) ex_short)
  have HV := Lib.hid (fun A c W h => deliver_any ex [97] 5 A c W h (by decide) ex_short (by decide))
  rw [ex_demand] at HD
  rw [ex_deliver] at HV
  have HW := Lib.hid (heap_alloc_new w (.cells #[.string ⟨#[111, 49]⟩, .string ⟨#[97]⟩, .int .i64 3, .int .i64 20, .string ⟨#[111, 50]⟩, .string ⟨#[97]⟩, .int .i64 4, .int .i64 10] 33))
  have HB := Lib.hid ((Below.refl w.heap.size w).alloc (Nat.le_refl _) (.cells #[.string ⟨#[111, 49]⟩, .string ⟨#[97]⟩, .int .i64 3, .int .i64 20, .string ⟨#[111, 50]⟩, .string ⟨#[97]⟩, .int .i64 4, .int .i64 10] 33))
  rw [show ex.length = 2 from rfl] at HD HV
  go_enter Tryz.func4, Tryz.ntmps4
  go_wp2_with fail
  generalize w.alloc (.cells #[.string ⟨#[111, 49]⟩, .string ⟨#[97]⟩, .int .i64 3, .int .i64 20, .string ⟨#[111, 50]⟩, .string ⟨#[97]⟩, .int .i64 4, .int .i64 10] 33) = W0 at *
  refine (HD.out _ _ _ (row_of_block HW.out)).mono ?_
  rintro e w1 ⟨B1, d1, rfl, hr1, hb1⟩
  go_wp2_with fail
  refine (HV.out _ _ _ ((row_of_block HW.out).below hb1)).mono ?_
  rintro e w2 ⟨B2, d2, rfl, hr2, hb2⟩
  have hr3 := hr1.below hb2
  obtain ⟨g1, o1, rfl, hg1, c1⟩ := row_get nd_len (by decide) hr3 (by decide)
  obtain ⟨g2, o2, rfl, hg2, c2⟩ := row_get it_len (by decide) hr2 (by decide)
  have z0 : w2.cell? ⟨g1, o1, none⟩ = some (.string ⟨#[97]⟩) := c1 0 (by decide) 0 (by decide)
  have z1 : w2.cell? ⟨g1, o1 + 1, none⟩ = some (.int .i64 7) := c1 0 (by decide) 1 (by decide)
  have y0 : w2.cell? ⟨g2, o2, none⟩ = some (.string ⟨#[111, 49]⟩) := c2 0 (by decide) 0 (by decide)
  have y1 : w2.cell? ⟨g2, o2 + 1, none⟩ = some (.string ⟨#[97]⟩) := c2 0 (by decide) 1 (by decide)
  have y2 : w2.cell? ⟨g2, o2 + 2, none⟩ = some (.int .i64 2) := c2 0 (by decide) 2 (by decide)
  have y3 : w2.cell? ⟨g2, o2 + 3, none⟩ = some (.int .i64 20) := c2 0 (by decide) 3 (by decide)
  have e1 : ∀ W : World, (binOp .eql 38 (.agg #[.string ⟨#[97]⟩, .int .i64 7]) (.agg #[.string ⟨#[97]⟩, .int .i64 7])).run Tryz.prog W = .ok (.bool true) W := nd_eql ([97], 7)
  have e2 : ∀ W : World, (binOp .eql 33 (.agg #[.string ⟨#[111, 49]⟩, .string ⟨#[97]⟩, .int .i64 2, .int .i64 20]) (.agg #[.string ⟨#[111, 49]⟩, .string ⟨#[97]⟩, .int .i64 2, .int .i64 20])).run Tryz.prog W = .ok (.bool true) W := it_eql ⟨[111, 49], [97], 2, 20⟩
  have HF := Lib.hid ((HB.out.trans (hb1.mono HB.out.size)).trans (hb2.mono (Nat.le_trans HB.out.size hb1.size)))
  clear c1 c2 hr1 hr2 hr3 hb1 hb2
  go_wp2
  go_ret
  exact ⟨rfl, HF.out⟩
end Go.Proofs.YteldekkodhfkkaaGreatDoor.OdW
