/- Walks: Valid of both; the reference's Few. Conditions: the tree lies in memory; its rows fit. -/
import Derived.Test.YtjjohllfidmkjaaDoorPfF2
namespace Go.Proofs.YtjjohllfidmkjaaDoor.PfW
open Go Go.RowKit Go.Proofs.YtjjohllfidmkjaaDoor.Mem Go.Proofs.YtjjohllfidmkjaaDoor.Pf

set_option maxRecDepth 100000 in
set_option maxHeartbeats 2000000 in
theorem valid_any (t : T) (hf : Fit t) (S : Nat → Prop) (s : Int) (A B : Option Addr) (m c k d : Nat) (w : World) (ht : TreeIn S w t [.int .i64 s, .slice A m c, .slice B k d]) :
    Calls Tryd.prog 24 #[.agg #[.int .i64 s, .slice A m c, .slice B k d]] w fun e w' => e = .returned (.bool (validB t)) ∧ Below w.heap.size w w' := by
  have HBB := Lib.hid (one_box w (.cells #[.int .i64 s, .slice A m c, .slice B k d] 38))
  have HQ := Lib.hid HBB.out.1
  have HX := Lib.hid HBB.out.2
  obtain ⟨x0, x1, x2⟩ := cell3 HX.out
  have HN := Lib.hid (fun W (hb : Below w.heap.size w W) => nodes_any S (nodes t) t (Nat.le_refl _) hf [.int .i64 s, .slice A m c, .slice B k d] W (ht.below hb))
  have HD := Lib.hid (fun W (hb : Below w.heap.size w W) => depth_any S (nodes t) t (Nat.le_refl _) hf [.int .i64 s, .slice A m c, .slice B k d] W (ht.below hb))
  have HA := Lib.hid (fun W (hb : Below w.heap.size w W) => all_any (nodes t) S t (Nat.le_refl _) hf [.int .i64 s, .slice A m c, .slice B k d] W (ht.below hb))
  have HV : Hid (validB t = (decide (nW t ≤ 2000) && decide (dW t ≤ 40) && allB t)) := Lib.hid (by rfl)
  rw [HV.out]
  clear HV ht hf HBB
  generalize nW t = n1 at *
  generalize dW t = n2 at *
  generalize allB t = b at *
  by_cases h1 : n1 ≤ 2000
  · have d1 : decide (n1 ≤ 2000) = true := decide_eq_true h1
    rw [d1]
    by_cases h2 : n2 ≤ 40
    · have d2 : decide (n2 ≤ 40) = true := decide_eq_true h2
      rw [d2]
      simp only [Bool.true_and]
      go_enter Tryd.func24, Tryd.ntmps24
      go_wp2_with fail
      refine (HN.out _ HQ.out).mono ?_
      rintro e w2 ⟨rfl, hb2⟩
      have HXN := Lib.hid ((hb2.block _ (lt_of_block HX.out)).trans HX.out)
      have HQN := Lib.hid (HQ.out.trans (hb2.mono HQ.out.size))
      clear hb2 HX HQ
      have HX := HXN
      have HQ := HQN
      clear HXN HQN
      try clear x0 x1 x2
      obtain ⟨x0, x1, x2⟩ := cell3 HX.out
      go_wp2_with fail
      refine (HD.out _ HQ.out).mono ?_
      rintro e w2 ⟨rfl, hb2⟩
      have HXN := Lib.hid ((hb2.block _ (lt_of_block HX.out)).trans HX.out)
      have HQN := Lib.hid (HQ.out.trans (hb2.mono HQ.out.size))
      clear hb2 HX HQ
      have HX := HXN
      have HQ := HQN
      clear HXN HQN
      try clear x0 x1 x2
      obtain ⟨x0, x1, x2⟩ := cell3 HX.out
      go_wp2_with fail
      refine (HA.out _ HQ.out).mono ?_
      rintro e w2 ⟨rfl, hb2⟩
      have HXN := Lib.hid ((hb2.block _ (lt_of_block HX.out)).trans HX.out)
      have HQN := Lib.hid (HQ.out.trans (hb2.mono HQ.out.size))
      clear hb2 HX HQ
      have HX := HXN
      have HQ := HQN
      clear HXN HQN
      try clear x0 x1 x2
      obtain ⟨x0, x1, x2⟩ := cell3 HX.out
      go_wp2
      go_ret
      exact ⟨by simp, HQ.out⟩
    · have d2 : decide (n2 ≤ 40) = false := decide_eq_false h2
      rw [d2]
      simp only [Bool.true_and, Bool.false_and]
      go_enter Tryd.func24, Tryd.ntmps24
      go_wp2_with fail
      refine (HN.out _ HQ.out).mono ?_
      rintro e w2 ⟨rfl, hb2⟩
      have HXN := Lib.hid ((hb2.block _ (lt_of_block HX.out)).trans HX.out)
      have HQN := Lib.hid (HQ.out.trans (hb2.mono HQ.out.size))
      clear hb2 HX HQ
      have HX := HXN
      have HQ := HQN
      clear HXN HQN
      try clear x0 x1 x2
      obtain ⟨x0, x1, x2⟩ := cell3 HX.out
      go_wp2_with fail
      refine (HD.out _ HQ.out).mono ?_
      rintro e w2 ⟨rfl, hb2⟩
      have HXN := Lib.hid ((hb2.block _ (lt_of_block HX.out)).trans HX.out)
      have HQN := Lib.hid (HQ.out.trans (hb2.mono HQ.out.size))
      clear hb2 HX HQ
      have HX := HXN
      have HQ := HQN
      clear HXN HQN
      try clear x0 x1 x2
      obtain ⟨x0, x1, x2⟩ := cell3 HX.out
      go_wp2
      go_ret
      exact ⟨by simp, HQ.out⟩
  · have d1 : decide (n1 ≤ 2000) = false := decide_eq_false h1
    rw [d1]
    simp only [Bool.false_and]
    go_enter Tryd.func24, Tryd.ntmps24
    go_wp2_with fail
    refine (HN.out _ HQ.out).mono ?_
    rintro e w2 ⟨rfl, hb2⟩
    have HXN := Lib.hid ((hb2.block _ (lt_of_block HX.out)).trans HX.out)
    have HQN := Lib.hid (HQ.out.trans (hb2.mono HQ.out.size))
    clear hb2 HX HQ
    have HX := HXN
    have HQ := HQN
    clear HXN HQN
    try clear x0 x1 x2
    obtain ⟨x0, x1, x2⟩ := cell3 HX.out
    go_wp2
    go_ret
    exact ⟨by simp, HQ.out⟩
set_option maxRecDepth 100000 in
set_option maxHeartbeats 2000000 in
theorem rvalid_any (t : T) (hf : Fit t) (S : Nat → Prop) (s : Int) (A B : Option Addr) (m c k d : Nat) (w : World) (ht : TreeIn S w t [.int .i64 s, .slice A m c, .slice B k d]) :
    Calls Tryd.prog 16 #[.agg #[.int .i64 s, .slice A m c, .slice B k d]] w fun e w' => e = .returned (.bool (validB t)) ∧ Below w.heap.size w w' := by
  have HBB := Lib.hid (one_box w (.cells #[.int .i64 s, .slice A m c, .slice B k d] 29))
  have HQ := Lib.hid HBB.out.1
  have HX := Lib.hid HBB.out.2
  obtain ⟨x0, x1, x2⟩ := cell3 HX.out
  have HN := Lib.hid (fun W (hb : Below w.heap.size w W) => rnodes_any S (nodes t) t (Nat.le_refl _) hf [.int .i64 s, .slice A m c, .slice B k d] W (ht.below hb))
  have HD := Lib.hid (fun W (hb : Below w.heap.size w W) => rdepth_any S (nodes t) t (Nat.le_refl _) hf [.int .i64 s, .slice A m c, .slice B k d] W (ht.below hb))
  have HA := Lib.hid (fun W (hb : Below w.heap.size w W) => formed_any S (nodes t) t (Nat.le_refl _) hf [.int .i64 s, .slice A m c, .slice B k d] W (ht.below hb))
  have HV : Hid (validB t = (allB t && decide (nW t ≤ 2000) && decide (dW t ≤ 40))) := Lib.hid (by unfold validB; cases allB t <;> simp)
  rw [HV.out]
  clear HV ht hf HBB
  generalize nW t = n1 at *
  generalize dW t = n2 at *
  generalize allB t = b at *
  cases b
  · simp only [Bool.false_and]
    go_enter Tryd.func16, Tryd.ntmps16
    go_wp2_with fail
    refine (HA.out _ HQ.out).mono ?_
    rintro e w2 ⟨rfl, hb2⟩
    have HXN := Lib.hid ((hb2.block _ (lt_of_block HX.out)).trans HX.out)
    have HQN := Lib.hid (HQ.out.trans (hb2.mono HQ.out.size))
    clear hb2 HX HQ
    have HX := HXN
    have HQ := HQN
    clear HXN HQN
    try clear x0 x1 x2
    obtain ⟨x0, x1, x2⟩ := cell3 HX.out
    go_wp2
    go_ret
    exact ⟨by simp, HQ.out⟩
  · simp only [Bool.true_and]
    by_cases h1 : n1 ≤ 2000
    · have d1 : decide (n1 ≤ 2000) = true := decide_eq_true h1
      rw [d1]
      simp only [Bool.true_and]
      go_enter Tryd.func16, Tryd.ntmps16
      go_wp2_with fail
      refine (HA.out _ HQ.out).mono ?_
      rintro e w2 ⟨rfl, hb2⟩
      have HXN := Lib.hid ((hb2.block _ (lt_of_block HX.out)).trans HX.out)
      have HQN := Lib.hid (HQ.out.trans (hb2.mono HQ.out.size))
      clear hb2 HX HQ
      have HX := HXN
      have HQ := HQN
      clear HXN HQN
      try clear x0 x1 x2
      obtain ⟨x0, x1, x2⟩ := cell3 HX.out
      go_wp2_with fail
      refine (HN.out _ HQ.out).mono ?_
      rintro e w2 ⟨rfl, hb2⟩
      have HXN := Lib.hid ((hb2.block _ (lt_of_block HX.out)).trans HX.out)
      have HQN := Lib.hid (HQ.out.trans (hb2.mono HQ.out.size))
      clear hb2 HX HQ
      have HX := HXN
      have HQ := HQN
      clear HXN HQN
      try clear x0 x1 x2
      obtain ⟨x0, x1, x2⟩ := cell3 HX.out
      go_wp2_with fail
      refine (HD.out _ HQ.out).mono ?_
      rintro e w2 ⟨rfl, hb2⟩
      have HXN := Lib.hid ((hb2.block _ (lt_of_block HX.out)).trans HX.out)
      have HQN := Lib.hid (HQ.out.trans (hb2.mono HQ.out.size))
      clear hb2 HX HQ
      have HX := HXN
      have HQ := HQN
      clear HXN HQN
      try clear x0 x1 x2
      obtain ⟨x0, x1, x2⟩ := cell3 HX.out
      go_wp2
      go_ret
      exact ⟨by simp, HQ.out⟩
    · have d1 : decide (n1 ≤ 2000) = false := decide_eq_false h1
      rw [d1]
      simp only [Bool.false_and]
      go_enter Tryd.func16, Tryd.ntmps16
      go_wp2_with fail
      refine (HA.out _ HQ.out).mono ?_
      rintro e w2 ⟨rfl, hb2⟩
      have HXN := Lib.hid ((hb2.block _ (lt_of_block HX.out)).trans HX.out)
      have HQN := Lib.hid (HQ.out.trans (hb2.mono HQ.out.size))
      clear hb2 HX HQ
      have HX := HXN
      have HQ := HQN
      clear HXN HQN
      try clear x0 x1 x2
      obtain ⟨x0, x1, x2⟩ := cell3 HX.out
      go_wp2_with fail
      refine (HN.out _ HQ.out).mono ?_
      rintro e w2 ⟨rfl, hb2⟩
      have HXN := Lib.hid ((hb2.block _ (lt_of_block HX.out)).trans HX.out)
      have HQN := Lib.hid (HQ.out.trans (hb2.mono HQ.out.size))
      clear hb2 HX HQ
      have HX := HXN
      have HQ := HQN
      clear HXN HQN
      try clear x0 x1 x2
      obtain ⟨x0, x1, x2⟩ := cell3 HX.out
      go_wp2
      go_ret
      exact ⟨by simp, HQ.out⟩
def fewB (t : T) : Bool := decide (nW t ≤ 300)
set_option maxRecDepth 100000 in
theorem few_any (t : T) (hf : Fit t) (S : Nat → Prop) (s : Int) (A B : Option Addr) (m c k d : Nat) (w : World) (ht : TreeIn S w t [.int .i64 s, .slice A m c, .slice B k d]) :
    Calls Tryd.prog 12 #[.agg #[.int .i64 s, .slice A m c, .slice B k d]] w fun e w' => e = .returned (.bool (fewB t)) ∧ Below w.heap.size w w' := by
  have HBB := Lib.hid (one_box w (.cells #[.int .i64 s, .slice A m c, .slice B k d] 29))
  have HQ := Lib.hid HBB.out.1
  have HX := Lib.hid HBB.out.2
  obtain ⟨x0, x1, x2⟩ := cell3 HX.out
  have HN := Lib.hid (fun W (hb : Below w.heap.size w W) => rnodes_any S (nodes t) t (Nat.le_refl _) hf [.int .i64 s, .slice A m c, .slice B k d] W (ht.below hb))
  unfold fewB
  clear ht hf HBB
  generalize nW t = n1 at *
  go_enter Tryd.func12, Tryd.ntmps12
  go_wp2_with fail
  refine (HN.out _ HQ.out).mono ?_
  rintro e w2 ⟨rfl, hb2⟩
  have HXN := Lib.hid ((hb2.block _ (lt_of_block HX.out)).trans HX.out)
  have HQN := Lib.hid (HQ.out.trans (hb2.mono HQ.out.size))
  clear hb2 HX HQ
  have HX := HXN
  have HQ := HQN
  clear HXN HQN
  try clear x0 x1 x2
  obtain ⟨x0, x1, x2⟩ := cell3 HX.out
  go_wp2
  go_ret
  exact ⟨by simp, HQ.out⟩
end Go.Proofs.YtjjohllfidmkjaaDoor.PfW
