/- Walk: awake. Conditions: the library's variables hold what a start lays. -/
import Derived.Test.YtjjohllfidmkjaaDoorPfP
import Derived.Test.YtjjohllfidmkjaaDoorPfC3
import Derived.Test.YtjjohllfidmkjaaDoorPfM2
import Derived.KernelRfl
import Derived.Deep.CutRange
namespace Go.Proofs.YtjjohllfidmkjaaDoor.Pf
def tA : T := .mk 0 [.mk 0 [] [], .mk 0 [] [5]] []
def yA : Syst := ⟨0, 0, 0, 1, 0, 0, [⟨2, 0, 0, 1⟩, ⟨-2, 0, 0, -1⟩]⟩
def tB (b : Int) : T := .mk 0 [.mk 0 [] [0], .mk 0 [] [b]] []
theorem awake_parse : pParse [91, 48, 32, 40, 41, 32, 40, 53, 41, 93] = some tA := by kernel_rfl
theorem awake_nodes : nW tA = 3 ∧ dW tA = 2 ∧ leaves tA = 2 ∧ nodes tA = 3 := ⟨by kernel_rfl, by kernel_rfl, by kernel_rfl, by kernel_rfl⟩
theorem awake_little : Little yA := little_of (by decide)
theorem awake_fit (b : Int) : Fit (tB b) ∧ Fit tA := by
  constructor <;> simp [tB, tA, Fit, FitL]
end Go.Proofs.YtjjohllfidmkjaaDoor.Pf
namespace Go.Proofs.YtjjohllfidmkjaaDoor.PfW
open Go Go.RowKit Go.Proofs.YtjjohllfidmkjaaDoor.Mem Go.Proofs.YtjjohllfidmkjaaDoor.Pf
theorem awake_check0 : checkP yA (tB 0) = ([1], 21) := by kernel_rfl
theorem awake_check1 : checkP yA (tB 1) = ([], 0) := by kernel_rfl

theorem leaf_tree {w : World} {b : Nat} {a : Int} {t : TypeId} (h : w.heap[b]? = some (.cells #[.int .i64 a] t (0, 0))) : TreeIn (fun _ => True) w (.mk 0 [] [a]) [.int .i64 0, .slice none 0 0, .slice (some ⟨b, 0, none⟩) 1 1] := by
  unfold TreeIn
  refine ⟨none, 0, some ⟨b, 0, none⟩, 1, [], rfl, Nat.le_refl _, Nat.le_refl _, fun hne => absurd rfl hne, by unfold KidsIn; rfl, fun _ => ⟨b, 0, rfl, trivial, lt_of_block h, fun j hj => ?_⟩⟩
  obtain rfl : j = 0 := by simpa [intCells] using hj
  simp [World.cell?, h, intCells]
theorem two_tree {w : World} {b1 b2 b3 : Nat} {a c : Int} {t t' : TypeId} (h1 : w.heap[b1]? = some (.cells #[.int .i64 a] t (0, 0))) (h2 : w.heap[b2]? = some (.cells #[.int .i64 c] t (0, 0)))
    (h3 : w.heap[b3]? = some (.cells #[.int .i64 0, .slice none 0 0, .slice (some ⟨b1, 0, none⟩) 1 1, .int .i64 0, .slice none 0 0, .slice (some ⟨b2, 0, none⟩) 1 1] t' (0, 0))) :
    TreeIn (fun _ => True) w (.mk 0 [.mk 0 [] [a], .mk 0 [] [c]] []) [.int .i64 0, .slice (some ⟨b3, 0, none⟩) 2 2, .slice none 0 0] := by
  unfold TreeIn
  refine ⟨some ⟨b3, 0, none⟩, 2, none, 0, [.int .i64 0, .slice none 0 0, .slice (some ⟨b1, 0, none⟩) 1 1] ++ ([.int .i64 0, .slice none 0 0, .slice (some ⟨b2, 0, none⟩) 1 1] ++ []), rfl, Nat.le_refl _, Nat.le_refl _, fun _ => ⟨b3, 0, rfl, trivial, lt_of_block h3, fun j hj => ?_⟩, ?_, fun hne => absurd rfl hne⟩
  · have : j = 0 ∨ j = 1 ∨ j = 2 ∨ j = 3 ∨ j = 4 ∨ j = 5 := by simp at hj; omega
    rcases this with rfl | rfl | rfl | rfl | rfl | rfl <;> simp [World.cell?, h3]
  · unfold KidsIn
    refine ⟨_, _, rfl, leaf_tree h1, ?_⟩
    unfold KidsIn
    refine ⟨_, _, rfl, leaf_tree h2, ?_⟩
    unfold KidsIn
    rfl
theorem three_blocks (W : World) (o1 o2 o3 : Obj) : (((W.alloc o1).alloc o2).alloc o3).heap[W.heap.size]? = some o1 ∧ (((W.alloc o1).alloc o2).alloc o3).heap[W.heap.size + 1]? = some o2 ∧ (((W.alloc o1).alloc o2).alloc o3).heap[W.heap.size + 1 + 1]? = some o3 ∧ Below W.heap.size W (((W.alloc o1).alloc o2).alloc o3) := by
  have h := two_boxes W o1 o2
  have h3 := one_box ((W.alloc o1).alloc o2) o3
  refine ⟨(h3.1.block _ (lt_of_block h.2.1)).trans h.2.1, (h3.1.block _ (lt_of_block h.2.2)).trans h.2.2, (three_new W o1 o2 o3).1, (three_new W o1 o2 o3).2⟩
set_option maxRecDepth 100000 in
set_option maxHeartbeats 4000000 in
theorem awake_any (w : World) (hG : Glob w) : Calls Tryd.prog 11 #[] w fun e w' => e = .returned (.bool true) ∧ Below w.heap.size w w' := by
  have HP := Lib.hid (parse_any [91, 48, 32, 40, 41, 32, 40, 53, 41, 93] w hG (by decide))
  rw [awake_parse] at HP
  go_enter Tryd.func11, Tryd.ntmps11
  go_wp2_with fail
  refine HP.out.mono ?_
  rintro e w1 ⟨hb1, s1, A1, m1, c1, B1, k1, d1, rfl, hT1⟩
  have HB1 := Lib.hid hb1
  have HT1 := Lib.hid hT1
  clear hb1 hT1 HP
  have HO := Lib.hid (one_box w1 (.cells #[.int .i64 s1, .slice A1 m1 c1, .slice B1 k1 d1] 38))
  go_upto_region 2 with fail
  have HTA := Lib.hid (HT1.out.below HO.out.1)
  have HBW1 := Lib.hid (HB1.out.trans (HO.out.1.mono HB1.out.size))
  have HOB := Lib.hid HO.out.2
  clear HT1 HO
  generalize w1.alloc (.cells #[.int .i64 s1, .slice A1 m1 c1, .slice B1 k1 d1] 38) = W1 at *
  have HR := Lib.hid (two_boxes W1 (.cells #[.int .i64 2, .int .i64 0, .int .i64 0, .int .i64 1, .int .i64 (-2), .int .i64 0, .int .i64 0, .int .i64 (-1)] 74) (.cells #[.int .i64 0, .int .i64 0, .int .i64 0, .int .i64 1, .int .i64 0, .int .i64 0, .slice (some ⟨W1.heap.size, 0, none⟩) 2 2] 25))
  go_upto_region 3 with fail
  have HROW : Hid (Row ((W1.alloc (.cells #[.int .i64 2, .int .i64 0, .int .i64 0, .int .i64 1, .int .i64 (-2), .int .i64 0, .int .i64 0, .int .i64 (-1)] 74)).alloc (.cells #[.int .i64 0, .int .i64 0, .int .i64 0, .int .i64 1, .int .i64 0, .int .i64 0, .slice (some ⟨W1.heap.size, 0, none⟩) 2 2] 25)) (some ⟨W1.heap.size, 0, none⟩) (yA.rows.flatMap r4Cells)) := Lib.hid (fun _ => ⟨W1.heap.size, 0, rfl, lt_of_block HR.out.2.1, fun j hj => by
    have h1 := HR.out.2.1
    have : j = 0 ∨ j = 1 ∨ j = 2 ∨ j = 3 ∨ j = 4 ∨ j = 5 ∨ j = 6 ∨ j = 7 := by simp [yA, r4Cells] at hj; omega
    rcases this with rfl | rfl | rfl | rfl | rfl | rfl | rfl | rfl <;> simp [World.cell?, h1, yA, r4Cells]⟩)
  have HSB := Lib.hid HR.out.2.2
  have HBW2 := Lib.hid HR.out.1
  clear HR
  generalize (W1.alloc (.cells #[.int .i64 2, .int .i64 0, .int .i64 0, .int .i64 1, .int .i64 (-2), .int .i64 0, .int .i64 0, .int .i64 (-1)] 74)).alloc (.cells #[.int .i64 0, .int .i64 0, .int .i64 0, .int .i64 1, .int .i64 0, .int .i64 0, .slice (some ⟨W1.heap.size, 0, none⟩) 2 2] 25) = W2 at *
  obtain ⟨y0, y1, y2, y3, y4, y5, y6⟩ := cell7 HSB.out
  have HX := Lib.hid (three_blocks W2 (.cells #[.int .i64 0] 3) (.cells #[.int .i64 0] 3) (.cells #[.int .i64 0, .slice none 0 0, .slice (some ⟨W2.heap.size, 0, none⟩) 1 1, .int .i64 0, .slice none 0 0, .slice (some ⟨W2.heap.size + 1, 0, none⟩) 1 1] 38))
  have HT2 := Lib.hid (two_tree HX.out.1 HX.out.2.1 HX.out.2.2.1)
  have HC2 := Lib.hid (check_any yA (tB 0) awake_little (awake_fit 0).1 _ _ _ _ _ _ _ _ (some ⟨W1.heap.size, 0, none⟩) 2 _ HT2.out (HROW.out.below HX.out.2.2.2))
  rw [awake_check0] at HC2
  unfold sysV yA at HC2
  go_wp2_with fail
  refine HC2.out.mono ?_
  rintro e w3 ⟨B3, d3, rfl, hr3, hb3⟩
  have HB3 := Lib.hid (HX.out.2.2.2.trans (hb3.mono HX.out.2.2.2.size))
  have HR3 := Lib.hid hr3
  have HROW3 := Lib.hid (HROW.out.below HB3.out)
  have HSB3 := Lib.hid ((HB3.out.block _ (lt_of_block HSB.out)).trans HSB.out)
  clear hb3 hr3 HC2 HT2 HX y0 y1 y2 y3 y4 y5 y6
  obtain ⟨y0, y1, y2, y3, y4, y5, y6⟩ := cell7 HSB3.out
  have HX := Lib.hid (three_blocks w3 (.cells #[.int .i64 0] 3) (.cells #[.int .i64 1] 3) (.cells #[.int .i64 0, .slice none 0 0, .slice (some ⟨w3.heap.size, 0, none⟩) 1 1, .int .i64 0, .slice none 0 0, .slice (some ⟨w3.heap.size + 1, 0, none⟩) 1 1] 38))
  have HT2 := Lib.hid (two_tree HX.out.1 HX.out.2.1 HX.out.2.2.1)
  have HC2 := Lib.hid (check_any yA (tB 1) awake_little (awake_fit 1).1 _ _ _ _ _ _ _ _ (some ⟨W1.heap.size, 0, none⟩) 2 _ HT2.out (HROW3.out.below HX.out.2.2.2))
  rw [awake_check1] at HC2
  unfold sysV yA at HC2
  go_wp2_with fail
  refine HC2.out.mono ?_
  rintro e w4 ⟨B4, d4, rfl, hr4, hb4⟩
  have HB4 := Lib.hid (HX.out.2.2.2.trans (hb4.mono HX.out.2.2.2.size))
  have HR4 := Lib.hid (HR3.out.below HB4.out)
  have HBA := Lib.hid (HBW2.out.trans ((HB3.out.trans (HB4.out.mono HB3.out.size)).mono HBW2.out.size))
  have HOB4 := Lib.hid ((HBA.out.block _ (lt_of_block HOB.out)).trans HOB.out)
  have HTA4 := Lib.hid (HTA.out.below HBA.out)
  have HBE := Lib.hid (HBW1.out.trans (HBA.out.mono HBW1.out.size))
  clear hb4 hr4 HC2 HT2 HX y0 y1 y2 y3 y4 y5 y6 HB3 HB4 HBA HTA HSB HSB3 HR3 HROW HROW3 HBW1 HBW2 HOB HB1
  obtain ⟨n1, n2, n3, n4⟩ := awake_nodes
  have HFT := Lib.hid (awake_fit 0).2
  have HN4 := Lib.hid (show nodes tA ≤ 1000000000000 by rw [n4]; decide)
  obtain ⟨x0, x1, x2⟩ := cell3 HOB4.out
  have hz := lt_of_block HOB4.out
  have HN := Lib.hid (nodes_any _ (nodes tA) tA (Nat.le_refl _) HFT.out _ w4 HTA4.out)
  rw [n1] at HN
  go_wp2_with fail
  refine HN.out.mono ?_
  rintro e w5 ⟨rfl, hb5⟩
  have HB5 := Lib.hid hb5
  have HOB5 := Lib.hid ((hb5.block _ (lt_of_block HOB4.out)).trans HOB4.out)
  have HLV := Lib.hid (pleaves_le _ (nodes tA) tA (Nat.le_refl _) HN4.out _ w5 (HTA4.out.below hb5))
  rw [n3] at HLV
  clear hb5 x0 x1 x2 hz HN
  obtain ⟨x0, x1, x2⟩ := cell3 HOB5.out
  go_wp2_with fail
  refine HLV.out.mono ?_
  rintro e w6 ⟨rfl, hb6⟩
  have HB6 := Lib.hid (HB5.out.trans (hb6.mono HB5.out.size))
  have HOB6 := Lib.hid ((hb6.block _ (lt_of_block HOB5.out)).trans HOB5.out)
  have HDP := Lib.hid (depth_any _ (nodes tA) tA (Nat.le_refl _) HFT.out _ w6 (HTA4.out.below HB6.out))
  rw [n2] at HDP
  clear hb6 x0 x1 x2 HLV
  obtain ⟨x0, x1, x2⟩ := cell3 HOB6.out
  go_wp2_with fail
  refine HDP.out.mono ?_
  rintro e w7 ⟨rfl, hb7⟩
  have HB7 := Lib.hid (HB6.out.trans (hb7.mono HB6.out.size))
  have HI := Lib.hid (one_box w7 (.cells #[.int .i64 1] 3))
  have HEQ := Lib.hid (requal_any [1] [1] B3 (some ⟨w7.heap.size, 0, none⟩) d3 1 _ ((HR4.out.below HB7.out).below HI.out.1) (fun _ => ⟨w7.heap.size, 0, rfl, lt_of_block HI.out.2, fun j hj => by
    have h1 := HI.out.2
    obtain rfl : j = 0 := by simpa [intCells] using hj
    unfold World.cell?
    rw [h1]
    rfl⟩) (by decide))
  rw [decide_eq_true rfl] at HEQ
  clear hb7 x0 x1 x2 HDP
  go_wp2_with fail
  refine HEQ.out.mono ?_
  rintro e w8 ⟨rfl, hb8⟩
  have HB8 := Lib.hid ((HB7.out.trans (HI.out.1.mono HB7.out.size)).trans (hb8.mono (Nat.le_trans HB7.out.size HI.out.1.size)))
  clear hb8 HEQ
  go_wp2
  go_ret
  exact ⟨rfl, HBE.out.trans (HB8.out.mono HBE.out.size)⟩
end Go.Proofs.YtjjohllfidmkjaaDoor.PfW
