/- Walk: the ring that begins with its least vertex. Conditions: the points lie in memory. -/
import Derived.Test.YtnmmhcchpcbeeaaGreatGeJ

namespace Go.Proofs.YtnmmhcchpcbeeaaGreat.Ge
open Go
theorem minUp_mem {l : List V} : ∀ k, 0 < k → k ≤ l.length → ∃ i, i < k ∧ GeW.minUp l k = l.getD i (0, 0)
  | 0, h, _ => absurd h (Nat.lt_irrefl _)
  | k + 1, _, h => by
    unfold GeW.minUp
    by_cases h0 : k = 0
    · subst h0; exact ⟨0, by omega, by simp⟩
    · rw [if_neg h0]
      split
      · exact ⟨k, by omega, rfl⟩
      · obtain ⟨i, hi, he⟩ := minUp_mem (l := l) k (by omega) (by omega)
        exact ⟨i, by omega, he⟩
theorem idx_found {α : Type} (p : α → Bool) : ∀ (l : List α) (i : Nat), (∃ x ∈ l, p x = true) → ∃ k, GeW.idx p l i = ((i + k : Nat) : Int) ∧ k < l.length
  | [], i, h => by obtain ⟨x, hx, _⟩ := h; cases hx
  | x :: r, i, h => by
    unfold GeW.idx
    cases hp : p x
    · obtain ⟨y, hy, hy2⟩ := h
      rcases List.mem_cons.1 hy with rfl | hy
      · rw [hp] at hy2; cases hy2
      · obtain ⟨k, hk, hk2⟩ := idx_found p r (i + 1) ⟨y, hy, hy2⟩
        exact ⟨k + 1, by simp only [Bool.false_eq_true, if_false]; rw [hk]; congr 1; omega, by simpa using hk2⟩
    · exact ⟨0, by simp, by simp⟩
/-- Where the least point stands. -/
def leastAt (l : List V) : Nat := (GeW.idx (fun v => decide (GeW.minV l = v)) l 0).toNat
theorem leastAt_eq {l : List V} (h : 0 < l.length) : GeW.idx (fun v => decide (GeW.minV l = v)) l 0 = (leastAt l : Int) ∧ leastAt l < l.length := by
  obtain ⟨i, hi, he⟩ := minUp_mem l.length h (Nat.le_refl _)
  obtain ⟨k, hk, hk2⟩ := idx_found (fun v => decide (GeW.minV l = v)) l 0 ⟨l[i], List.getElem_mem hi, by
    have : GeW.minV l = l[i] := by
      unfold GeW.minV
      rw [he, List.getD_eq_getElem?_getD, List.getElem?_eq_getElem hi]; rfl
    rw [this]; simp⟩
  rw [Nat.zero_add] at hk
  unfold leastAt
  rw [hk]
  exact ⟨by simp, by simpa using hk2⟩
def canonL (l : List V) : List V := l.drop (leastAt l) ++ l.take (leastAt l)
def canonR (l : List V) : List V := if ringB l then canonL l else []
end Go.Proofs.YtnmmhcchpcbeeaaGreat.Ge
namespace Go.Proofs.YtnmmhcchpcbeeaaGreat.GeW
open Go Go.RowKit Go.Proofs.YtnmmhcchpcbeeaaGreat.Mem Go.Proofs.YtnmmhcchpcbeeaaGreat.Ge
attribute [local go_sem ↓] Go.wp_at_zero Go.wp_at_succ
set_option maxRecDepth 100000 in
set_option maxHeartbeats 2000000 in
theorem canon_any (l : List V) (A : Option Addr) (c : Nat) (w : World) (hr : Row w A (l.flatMap ptCells)) (hl : l.length ≤ 10000) (hlc : l.length ≤ c) :
    Calls Tryz.prog 76 #[.slice A l.length c] w fun e w' => (∃ v, e = .returned v ∧ w'.ownsRow w.heap.size 53 2 v (canonR l).length ((canonR l).flatMap ptCells)) ∧ Below w.heap.size w w' := by
  have HR := Lib.hid hr
  have HV := Lib.hid (ring_any l A c w hr (by omega))
  cases hv : ringB l
  · have hq : canonR l = [] := by unfold canonR; rw [hv]; rfl
    rw [hq]
    rw [hv] at HV
    clear hq hr hv
    go_enter Tryz.func76, Tryz.ntmps76
    go_wp2_with fail
    refine HV.out.mono ?_
    rintro e w1 ⟨rfl, hb1⟩
    go_wp2
    go_ret
    exact ⟨⟨_, rfl, World.ownsRow_nil _ _ _ _⟩, hb1⟩
  · have HQ : Hid (canonR l = l.drop (leastAt l) ++ l.take (leastAt l)) := Lib.hid (by unfold canonR; rw [hv]; rfl)
    rw [hv] at HV
    have h3 : 0 < l.length := by
      unfold ringB at hv
      simp only [Bool.and_eq_true, decide_eq_true_eq] at hv
      omega
    have HI := leastAt_eq h3
    have HMN := Lib.hid (fun W (hW : Below w.heap.size w W) => min_any l A c W (HR.out.below hW) h3 (by omega))
    have HIX := Lib.hid (fun W (hW : Below w.heap.size w W) => indexV_any l (minV l).1 (minV l).2 A c W (HR.out.below hW) (by omega))
    have hkk := HI.2
    have HIE := Lib.hid HI.1
    obtain ⟨g, off, rfl, hg, hcell⟩ := row_get pt_len (by decide) hr h3
    clear hr hv hcell HI
    have HIX2 : Hid (∀ W, Below w.heap.size w W → Calls Tryz.prog 137 #[.slice (some ⟨g, off, none⟩) l.length c, .agg #[.int .i64 (minV l).1, .int .i64 (minV l).2]] W fun e w' => e = .returned (.int .i64 (leastAt l : Int)) ∧ Below W.heap.size W w') := by
      have h := HIX.out
      rw [show idx (fun v => decide (((minV l).1, (minV l).2) = v)) l 0 = (leastAt l : Int) from HIE.out] at h
      exact h
    clear HIX HIE
    have HDT : Hid (∀ W, Below w.heap.size w W → Row W (some ⟨g, off + leastAt l * 2, none⟩) ((l.drop (leastAt l)).flatMap ptCells) ∧ Row W (some ⟨g, off, none⟩) ((l.take (leastAt l)).flatMap ptCells)) := Lib.hid (fun W hW => by
      obtain ⟨g', off', e, hg', hc'⟩ := (HR.out.below hW) (by intro h0; have := flatMap_len pt_len l; rw [h0] at this; simp at this; omega)
      cases e
      rw [← fm_drop pt_len, ← fm_take pt_len]
      have hfl := flatMap_len pt_len l
      constructor
      · refine fun _ => ⟨g, _, rfl, hg', fun j hj => ?_⟩
        rw [List.length_drop] at hj
        rw [List.getElem?_drop, Nat.add_assoc]
        exact hc' _ (by omega)
      · refine fun _ => ⟨g, _, rfl, hg', fun j hj => ?_⟩
        rw [List.length_take] at hj
        rw [List.getElem?_take_of_lt (by omega)]
        exact hc' _ (by omega))
    have hld : (l.drop (leastAt l)).length = l.length - leastAt l := List.length_drop
    have hlt : (l.take (leastAt l)).length = leastAt l := by rw [List.length_take]; omega
    have HCC := Lib.hid (fun W b (hW : Below w.heap.size w W) hb => concat_any (l.drop (leastAt l)) (l.take (leastAt l)) (some ⟨g, off + leastAt l * 2, none⟩) (some ⟨g, off, none⟩) (c - leastAt l) c b W hb (HDT.out W hW).1 (HDT.out W hW).2 (by rw [hld]; omega) (by rw [hlt]; omega))
    rw [hld, hlt] at HCC
    have HLN : Hid ((canonR l).length = l.length - leastAt l + leastAt l) := Lib.hid (by rw [HQ.out, List.length_append, hld, hlt])
    have HFM : Hid ((canonR l).flatMap ptCells = (l.drop (leastAt l)).flatMap ptCells ++ (l.take (leastAt l)).flatMap ptCells) := Lib.hid (by rw [HQ.out, List.flatMap_append])
    clear hld hlt HQ
    generalize leastAt l = k at *
    have mx : ∃ mx my, minV l = (mx, my) := ⟨_, _, rfl⟩
    obtain ⟨mx, my, hm⟩ := mx
    rw [hm] at HMN HIX2
    clear hm
    simp only at HMN HIX2
    go_enter Tryz.func76, Tryz.ntmps76
    go_wp2_with fail
    refine HV.out.mono ?_
    rintro e w1 ⟨rfl, hb1⟩
    go_wp2_with fail
    refine (HMN.out _ hb1).mono ?_
    rintro e w2 ⟨rfl, hb20⟩
    have HB2 := Lib.hid (hb1.trans (hb20.mono hb1.size))
    have HO := Lib.hid (one_vec w2 (.cells #[.int .i64 mx, .int .i64 my] 53))
    have HB3 := Lib.hid (HB2.out.trans (HO.out.1.mono HB2.out.size))
    clear hb1 hb20
    go_upto_region 4 with fail
    generalize w2.alloc (.cells #[.int .i64 mx, .int .i64 my] 53) = W at *
    obtain ⟨m0, m1⟩ := pair_at HO.out.2 (Below.refl _ _)
    go_wp2_with fail
    refine (HIX2.out _ HB3.out).mono ?_
    rintro e w4 ⟨rfl, hb40⟩
    have HB4 := Lib.hid (HB3.out.trans (hb40.mono HB3.out.size))
    clear hb40 m0 m1
    go_upto_region 5 with fail
    have q1 : k ≤ l.length := by omega
    have q2 : (k : Int) ≤ (l.length : Int) := by omega
    have q3 : ¬ c = k := by omega
    have q4 : k ≤ c := by omega
    have HOB := Lib.hid (one_vec w4 (.cells #[.slice (some ⟨g, off + k * 2, none⟩) (l.length - k) (c - k), .slice (some ⟨g, off, none⟩) k c] 26))
    have HOW := Lib.hid (HB4.out.trans (HOB.out.1.mono HB4.out.size))
    go_region_law (go_simp; go_at_call 138; refine (HCC.out _ _ (below_drew HOW.out) HOB.out.2).mono ?_; rintro e w5 ⟨⟨v, rfl, hown⟩, hb5⟩)
    all_goals
      have HO5 := Lib.hid (own_more hown HOW.out.size)
      have HB5 := Lib.hid ((below_drew HOW.out).trans (hb5.mono HOW.out.size))
      clear hown hb5
      go_wp2
      go_ret
      rw [HLN.out, HFM.out, ← List.flatMap_append]
      exact ⟨⟨_, rfl, HO5.out⟩, HB5.out⟩
end Go.Proofs.YtnmmhcchpcbeeaaGreat.GeW
