/- Walks: Print of both. Conditions: the tree lies in memory; its rows fit. -/
import Derived.Test.YtjjohllfidmkjaaDoorPfX8
import Derived.Laws.IdiomStrings
namespace Go.Proofs.YtjjohllfidmkjaaDoor.Pf
def prT (t : T) : List UInt8 := if validB t then text t else []
def prE (t : T) : Int := if validB t then 0 else 1
theorem valid_all {t : T} (h : validB t = true) : allB t = true := by
  unfold validB at h
  simp only [Bool.and_eq_true] at h
  exact h.2
theorem text_ne (t : T) : text t ≠ [] := by
  obtain ⟨s, ks, lf⟩ := t
  unfold text
  split <;> simp
end Go.Proofs.YtjjohllfidmkjaaDoor.Pf
namespace Go.Proofs.YtjjohllfidmkjaaDoor.PfW
open Go Go.RowKit Go.Proofs.YtjjohllfidmkjaaDoor.Mem Go.Proofs.YtjjohllfidmkjaaDoor.Pf
theorem conv_own {w : World} {B n : Nat} {v : Value} {l : List UInt8} (h : w.ownsRow B 5 1 v n ([] ++ Lib.byteCells l)) (hne : l ≠ []) : (convert 80 9 v).run Tryd.prog w = .ok (.string ⟨l.toArray⟩) w := by
  have hn : n = l.length := by
    have := h.1
    simp [Lib.byteCells] at this
    omega
  rcases h.2 with ⟨rfl, h0⟩ | ⟨g, cap, cur, rfl, _⟩
  · subst h0
    exact absurd (List.eq_nil_of_length_eq_zero hn.symm) hne
  · subst hn
    refine run_convert_bytes_back w _ _ 5 ⟨g, 0, none⟩ cap l Tryd.underlying80 Tryd.underlying5 Tryd.underlying9 ?_
    intro j hj
    exact h.cells rfl j _ (by simp [Lib.byteCells, hj])
set_option maxRecDepth 100000 in
set_option maxHeartbeats 2000000 in
theorem pprint_any (t : T) (hf : Fit t) (hn : nodes t ≤ 100000000000) (S : Nat → Prop) (s : Int) (A B : Option Addr) (m c k d : Nat) (w : World) (ht : TreeIn S w t [.int .i64 s, .slice A m c, .slice B k d]) (hG : Glob w) :
    Calls Tryd.prog 22 #[.agg #[.int .i64 s, .slice A m c, .slice B k d]] w fun e w' => e = .returned (.tuple #[.string ⟨(prT t).toArray⟩, .int .i64 (prE t)]) ∧ Below w.heap.size w w' := by
  have HBB := Lib.hid (one_box w (.cells #[.int .i64 s, .slice A m c, .slice B k d] 38))
  have HQ := Lib.hid HBB.out.1
  have HX := Lib.hid HBB.out.2
  obtain ⟨x0, x1, x2⟩ := cell3 HX.out
  have HV := Lib.hid (fun W (hb : Below w.heap.size w W) => valid_any t hf S s A B m c k d W (ht.below hb))
  cases hv : validB t
  · have HP : Hid (prT t = [] ∧ prE t = 1) := Lib.hid (by unfold prT prE; rw [hv]; exact ⟨rfl, rfl⟩)
    rw [HP.out.1, HP.out.2]
    rw [hv] at HV
    clear ht hf HBB hG
    go_enter Tryd.func22, Tryd.ntmps22
    go_wp2_with fail
    refine (HV.out _ HQ.out).mono ?_
    rintro e w2 ⟨rfl, hb2⟩
    go_wp2
    go_ret2
    exact ⟨rfl, HQ.out.trans (hb2.mono HQ.out.size)⟩
  · have HP : Hid (prT t = text t ∧ prE t = 0) := Lib.hid (by unfold prT prE; rw [hv]; exact ⟨rfl, rfl⟩)
    rw [HP.out.1, HP.out.2]
    have hall := valid_all hv
    have hv0 := hv
    rw [hv] at HV
    clear hv hv0
    have HW := Lib.hid (fun W (hb : Below w.heap.size w W) => write_any (nodes t) t (Nat.le_refl _) hall [.int .i64 s, .slice A m c, .slice B k d] W.heap.size 0 (.slice none 0 0) [] W (TreeIn.stays (fun x _ hlt => hb.block x hlt) (fun x _ hlt => Nat.lt_of_lt_of_le hlt hb.size) t _ ht) (World.ownsRow_nil _ _ _ _) (by have := hG.lt; have := hb.size; omega) (Nat.le_refl _) (by omega) (hG.below hb))
    have HNE := Lib.hid (text_ne t)
    generalize text t = tx at *
    clear ht hf HBB HP hG
    go_enter Tryd.func22, Tryd.ntmps22
    go_wp2_with fail
    refine (HV.out _ HQ.out).mono ?_
    rintro e w2 ⟨rfl, hb2⟩
    have HB2 := Lib.hid (HQ.out.trans (hb2.mono HQ.out.size))
    obtain ⟨x0, x1, x2⟩ := cell3 ((hb2.block _ (lt_of_block HX.out)).trans HX.out)
    clear hb2
    go_wp2_with fail
    refine (HW.out _ HB2.out).mono ?_
    rintro e w3 ⟨v3, rfl, ho3, hb3, hk3⟩
    have hcv := conv_own ho3 HNE.out
    obtain ⟨A3, c3, rfl, _⟩ := own_shape ho3
    rw [Nat.zero_add] at hcv
    simp only [Nat.zero_add]
    clear ho3 hk3
    go_wp2
    go_ret2
    exact ⟨rfl, HB2.out.trans (hb3.mono HB2.out.size)⟩
set_option maxRecDepth 100000 in
set_option maxHeartbeats 2000000 in
theorem rprint_any (t : T) (hf : Fit t) (hn : nodes t ≤ 100000000000) (S : Nat → Prop) (s : Int) (A B : Option Addr) (m c k d : Nat) (w : World) (ht : TreeIn S w t [.int .i64 s, .slice A m c, .slice B k d]) :
    Calls Tryd.prog 23 #[.agg #[.int .i64 s, .slice A m c, .slice B k d]] w fun e w' => e = .returned (.tuple #[.string ⟨(prT t).toArray⟩, .int .i64 (prE t)]) ∧ Below w.heap.size w w' := by
  have HBB := Lib.hid (one_box w (.cells #[.int .i64 s, .slice A m c, .slice B k d] 29))
  have HQ := Lib.hid HBB.out.1
  have HX := Lib.hid HBB.out.2
  obtain ⟨x0, x1, x2⟩ := cell3 HX.out
  have HV := Lib.hid (fun W (hb : Below w.heap.size w W) => rvalid_any t hf S s A B m c k d W (ht.below hb))
  cases hv : validB t
  · have HP : Hid (prT t = [] ∧ prE t = 1) := Lib.hid (by unfold prT prE; rw [hv]; exact ⟨rfl, rfl⟩)
    rw [HP.out.1, HP.out.2]
    rw [hv] at HV
    clear ht hf HBB
    go_enter Tryd.func23, Tryd.ntmps23
    go_wp2_with fail
    refine (HV.out _ HQ.out).mono ?_
    rintro e w2 ⟨rfl, hb2⟩
    go_wp2
    go_ret2
    exact ⟨rfl, HQ.out.trans (hb2.mono HQ.out.size)⟩
  · have HP : Hid (prT t = text t ∧ prE t = 0) := Lib.hid (by unfold prT prE; rw [hv]; exact ⟨rfl, rfl⟩)
    rw [HP.out.1, HP.out.2]
    have hall := valid_all hv
    have hv0 := hv
    rw [hv] at HV
    clear hv hv0
    have HW := Lib.hid (fun W (hb : Below w.heap.size w W) => rtext_any S (nodes t) t (Nat.le_refl _) (by omega) hall [.int .i64 s, .slice A m c, .slice B k d] W (ht.below hb))
    generalize text t = tx at *
    clear ht hf HBB HP
    go_enter Tryd.func23, Tryd.ntmps23
    go_wp2_with fail
    refine (HV.out _ HQ.out).mono ?_
    rintro e w2 ⟨rfl, hb2⟩
    have HB2 := Lib.hid (HQ.out.trans (hb2.mono HQ.out.size))
    obtain ⟨x0, x1, x2⟩ := cell3 ((hb2.block _ (lt_of_block HX.out)).trans HX.out)
    clear hb2
    go_wp2_with fail
    refine (HW.out _ HB2.out).mono ?_
    rintro e w3 ⟨rfl, hb3⟩
    go_wp2
    go_ret2
    exact ⟨rfl, HB2.out.trans (hb3.mono HB2.out.size)⟩
end Go.Proofs.YtjjohllfidmkjaaDoor.PfW
