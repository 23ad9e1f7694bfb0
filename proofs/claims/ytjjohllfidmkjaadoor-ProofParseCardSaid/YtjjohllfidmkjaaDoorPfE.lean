/- Walks: the reference's Equal. Conditions: the rows lie in memory. -/
import Derived.Test.YtjjohllfidmkjaaDoorPfM1
namespace Go.Proofs.YtjjohllfidmkjaaDoor.PfW
open Go Go.RowKit Go.Proofs.YtjjohllfidmkjaaDoor.Mem Go.Proofs.YtjjohllfidmkjaaDoor.Pf

section
variable {α : Type} [DecidableEq α]
theorem same_no {a b : List α} (k : Nat) (ha : k < a.length) (hb : k < b.length) (h : decide (a[k] = b[k]) = false) : decide (a = b) = false := by
  rw [decide_eq_false_iff_not] at h ⊢
  rintro rfl
  exact h rfl
theorem same_drop {a b : List α} (k : Nat) (ha : k < a.length) (hb : k < b.length) (h : decide (a[k] = b[k]) = true) : decide (a.drop k = b.drop k) = decide (a.drop (k + 1) = b.drop (k + 1)) := by
  rw [decide_eq_true_eq] at h
  refine decide_eq_decide.2 ?_
  rw [List.drop_eq_getElem_cons ha, List.drop_eq_getElem_cons hb, h]
  exact ⟨fun e => (List.cons.inj e).2, fun e => by rw [e]⟩
theorem same_end {a b : List α} (h : a.length = b.length) : decide (a.drop a.length = b.drop a.length) = true := by
  rw [List.drop_length, h, List.drop_length]
  simp
theorem same_len {a b : List α} (h : a.length ≠ b.length) : decide (a = b) = false := by
  rw [decide_eq_false_iff_not]
  rintro rfl
  exact h rfl
end
theorem below_drew {B : Nat} {a w : World} (h : Below B a w) : Below B a w.drew := ⟨h.os, h.tape, h.output, h.size, h.block⟩
theorem ints_len (l : List Int) : (intCells l).length = l.length := by simp [intCells]
theorem ints_ne {l : List Int} {k : Nat} (h : k < l.length) : intCells l ≠ [] := by
  intro h0
  have := ints_len l
  rw [h0] at this
  simp at this
  omega
theorem ints_get {l : List Int} {k : Nat} (h : k < l.length) : (intCells l)[k]? = some (.int .i64 l[k]) := by
  simp [intCells, List.getElem?_eq_getElem h]
set_option maxRecDepth 100000 in
set_option maxHeartbeats 1000000 in
theorem requal_any (l r : List Int) (A B : Option Addr) (c d : Nat) (w : World) (hr : Row w A (intCells l)) (hs : Row w B (intCells r)) (hl : l.length ≤ 17592186043904) :
    Calls Tryd.prog 18 #[.slice A l.length c, .slice B r.length d] w fun e w' => e = .returned (.bool (decide (l = r))) ∧ Below w.heap.size w w' := by
  have HA := Lib.hid hr
  have HB := Lib.hid hs
  clear hr hs
  by_cases hlen : l.length = r.length
  · have hst : Hid (decide (l = r) = decide (l.drop 0 = r.drop 0)) := Lib.hid rfl
    have hn : ((l.length : Int) != (l.length : Int)) = false := by simp
    have hend := Lib.hid (same_end hlen)
    have HLEN := Lib.hid hlen
    rw [← hlen]
    clear hlen
    go_enter Tryd.func18, Tryd.ntmps18
    go_wp2
    go_loopw [5] (fun t wr => ∃ k : Nat, k ≤ l.length ∧ t = .int .i64 k ∧ Hid (decide (l = r) = decide (l.drop k = r.drop k)) ∧ Below w.heap.size w wr) (fun t _ => l.length - (intOf t).toNat)
    case atStart => exact ⟨0, Nat.zero_le _, rfl, hst, Below.refl _ _⟩
    case round =>
      obtain ⟨k, hk, rfl, hd, hbel⟩ := hrel
      by_cases hlt : k < l.length
      · have hlt2 : k < r.length := by have := HLEN.out; omega
        obtain ⟨g, off, rfl, hg, ca⟩ := HA.out (ints_ne hlt)
        obtain ⟨g2, off2, rfl, hg2, cb⟩ := HB.out (ints_ne hlt2)
        have a0 := (hbel.cell (p := ⟨g, off + k, none⟩) hg).trans ((ca k (by rw [ints_len]; exact hlt)).trans (ints_get hlt))
        have b0 := (hbel.cell (p := ⟨g2, off2 + k, none⟩) hg2).trans ((cb k (by rw [ints_len]; exact hlt2)).trans (ints_get hlt2))
        have hno := Lib.hid (same_no k hlt hlt2)
        have hyes := Lib.hid (same_drop k hlt hlt2)
        have hk1 : (0 : Int) ≤ (k : Int) := by omega
        have hk2 : (k : Int) < (l.length : Int) := by omega
        clear ca cb
        generalize l[k] = m at *
        generalize r[k] = n at *
        clear hlt2
        cases hq : decide (m = n)
        · have HQ := Lib.hid (hno.out hq)
          have hne : (m != n) = true := by have := of_decide_eq_false hq; simpa using this
          clear hq
          go_wp2
          go_region
          as_aux_lemma =>
            go_wp2
            go_ret
            rw [HQ.out]
            exact ⟨rfl, below_drew hbel⟩
        · have HQ := Lib.hid (hyes.out hq)
          have hne : (m != n) = false := by have := of_decide_eq_true hq; simpa using this
          clear hq
          go_wp2
          go_region
          as_aux_lemma =>
            go_wp2
            go_roundw
            case rel => exact ⟨k + 1, by omega, by go_num, Lib.hid (hd.out.trans HQ.out), below_drew hbel⟩
            case measure => simp [intOf]; omega
      · obtain rfl : k = l.length := by omega
        go_wp2
        go_ret
        rw [hd.out, hend.out]
        exact ⟨rfl, hbel⟩
  · have hn : ((l.length : Int) != (r.length : Int)) = true := by simp; omega
    have hno := Lib.hid (same_len hlen)
    clear hlen
    go_enter Tryd.func18, Tryd.ntmps18
    go_wp2
    go_ret
    rw [hno.out]
    exact ⟨rfl, Below.refl _ _⟩
end Go.Proofs.YtjjohllfidmkjaaDoor.PfW
