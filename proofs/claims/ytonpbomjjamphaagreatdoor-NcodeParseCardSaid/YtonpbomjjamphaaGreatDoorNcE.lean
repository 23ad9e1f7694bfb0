/- Walks: two programs held against each other. Conditions: the programs lie in memory and have at most a million moves. -/
import Derived.Test.YtonpbomjjamphaaGreatDoorNcW7
import Derived.BigRegion
namespace Go.Proofs.YtonpbomjjamphaaGreatDoor.NcW
open Go Go.RowKit Go.Proofs.YtonpbomjjamphaaGreatDoor.Mem

def mvEq (a b : Nc.Mv) : Bool := (a.k == b.k) && ((a.x == b.x) && (a.y == b.y))
theorem mvEq_iff {a b : Nc.Mv} : mvEq a b = true ↔ a = b := by
  obtain ⟨a1, a2, a3⟩ := a
  obtain ⟨b1, b2, b3⟩ := b
  simp [mvEq]
def same : List Nc.Mv → List Nc.Mv → Bool
  | [], [] => true
  | a :: r, b :: t => mvEq a b && same r t
  | _, _ => false
theorem same_iff : ∀ {a b : List Nc.Mv}, same a b = true ↔ a = b
  | [], [] => by simp [same]
  | [], b :: t => by simp [same]
  | a :: r, [] => by simp [same]
  | a :: r, b :: t => by simp [same, mvEq_iff, same_iff (a := r) (b := t)]
theorem same_len {a b : List Nc.Mv} (h : a.length ≠ b.length) : same a b = false := by
  rw [Bool.eq_false_iff]
  intro h2
  rw [same_iff] at h2
  subst h2
  exact h rfl
theorem same_no {a b : List Nc.Mv} (k : Nat) (ha : k < a.length) (hb : k < b.length) (h : mvEq a[k] b[k] = false) : same a b = false := by
  rw [Bool.eq_false_iff]
  intro h2
  rw [same_iff] at h2
  subst h2
  rw [mvEq_iff.2 rfl] at h
  cases h
theorem same_drop {a b : List Nc.Mv} (k : Nat) (ha : k < a.length) (hb : k < b.length) (h : mvEq a[k] b[k] = true) : same (a.drop k) (b.drop k) = same (a.drop (k + 1)) (b.drop (k + 1)) := by
  rw [List.drop_eq_getElem_cons ha, List.drop_eq_getElem_cons hb, same, h, Bool.true_and]
theorem same_end {a b : List Nc.Mv} (h : a.length = b.length) : same (a.drop a.length) (b.drop a.length) = true := by
  rw [h, List.drop_length, ← h, List.drop_length]; rfl

theorem mv_neq (a b : Nc.Mv) (w : World) : (binOp .neq 53 (.agg #[.int .i64 a.k, .int .i64 a.x, .int .i64 a.y]) (.agg #[.int .i64 b.k, .int .i64 b.x, .int .i64 b.y])).run Tryz.prog w = .ok (.bool (!(mvEq a b))) w := by
  have u3 := Tryz.underlying3
  have a3 := Tryz.isAgg3
  have z3 := Tryz.sizeOf3
  have a24 := Tryz.isAgg36
  have z24 := Tryz.sizeOf36
  have hS : Tryz.prog.underlying 53 = some (.struct (Tryz.prog.fieldsOf 53)) := by kernel_rfl
  have hp : Tryz.prog.stoodInHeld 53 = false := by kernel_rfl
  have hS2 : Tryz.prog.underlying 36 = some (.struct (Tryz.prog.fieldsOf 36)) := by kernel_rfl
  have hp2 : Tryz.prog.stoodInHeld 36 = false := by kernel_rfl
  have hv : ∀ W : World, (Op.equalIn 9999 36 (.agg #[.int .i64 a.x, .int .i64 a.y]) (.agg #[.int .i64 b.x, .int .i64 b.y])).run Tryz.prog W = .ok ((a.x == b.x) && (a.y == b.y)) W := by
    intro W
    rw [show (9999 : Nat) = 9998 + 1 from rfl, run_equalIn_agg W 9998 36 _ _ hS2 hp2]
    simp only [Program.fieldsOf, Tryz.underlying36]
    go_simp
    by_cases h1 : a.x = b.x <;> by_cases h2 : a.y = b.y <;> simp [h1, h2]
  rw [run_neq_struct, show (10000 : Nat) = 9999 + 1 from rfl, run_equalIn_agg w 9999 53 _ _ hS hp]
  simp only [Program.fieldsOf, Tryz.underlying53]
  go_simp
  by_cases h1 : a.k = b.k <;> by_cases h2 : a.x = b.x <;> by_cases h3 : a.y = b.y <;> simp [h1, h2, h3, mvEq]

set_option maxRecDepth 100000 in
set_option maxHeartbeats 1000000 in
theorem rsame_any (l r : List Nc.Mv) (A B : Option Addr) (c d : Nat) (w : World) (hr : Row w A (l.flatMap mvCells)) (hs : Row w B (r.flatMap mvCells)) (hl : l.length ≤ 1000000) (hl2 : r.length ≤ 1000000) :
    Calls Tryz.prog 7 #[.slice A l.length c, .slice B r.length d] w fun e w' => e = .returned (.bool (same l r)) ∧ Below w.heap.size w w' := by
  have HA := Lib.hid hr
  have HB := Lib.hid hs
  clear hr hs
  by_cases hlen : l.length = r.length
  · have hst : Hid (same l r = same (l.drop 0) (r.drop 0)) := Lib.hid rfl
    have hn : ((l.length : Int) != (l.length : Int)) = false := by simp
    have hend := Lib.hid (same_end hlen)
    have HLEN := Lib.hid hlen
    rw [← hlen]
    clear hlen
    have hm : Tryz.prog.eqGuardType Tryz.prog.depth 53 = false := by kernel_rfl
    go_enter Tryz.func7, Tryz.ntmps7
    go_wp2
    go_loopw [5] (fun t wr => ∃ k : Nat, k ≤ l.length ∧ t = .int .i64 k ∧ Hid (same l r = same (l.drop k) (r.drop k)) ∧ Below w.heap.size w wr) (fun t _ => l.length - (intOf t).toNat)
    case atStart => exact ⟨0, Nat.zero_le _, rfl, hst, Below.refl _ _⟩
    case round =>
      obtain ⟨k, hk, rfl, hd, hbel⟩ := hrel
      by_cases hlt : k < l.length
      · have hlt2 : k < r.length := by have := HLEN.out; omega
        obtain ⟨g, off, rfl, hg, ca⟩ := row_get mv_len (by decide) HA.out (by omega)
        obtain ⟨g2, off2, rfl, hg2, cb⟩ := row_get mv_len (by decide) HB.out (by omega)
        have a0 := (hbel.cell (p := ⟨g, _, none⟩) hg).trans (ca k hlt 0 (by decide))
        have a1 := (hbel.cell (p := ⟨g, _, none⟩) hg).trans (ca k hlt 1 (by decide))
        have a2 := (hbel.cell (p := ⟨g, _, none⟩) hg).trans (ca k hlt 2 (by decide))
        have b0 := (hbel.cell (p := ⟨g2, _, none⟩) hg2).trans (cb k hlt2 0 (by decide))
        have b1 := (hbel.cell (p := ⟨g2, _, none⟩) hg2).trans (cb k hlt2 1 (by decide))
        have b2 := (hbel.cell (p := ⟨g2, _, none⟩) hg2).trans (cb k hlt2 2 (by decide))
        have hno := Lib.hid (same_no k hlt hlt2)
        have hyes := Lib.hid (same_drop k hlt hlt2)
        have hk1 : (0 : Int) ≤ (k : Int) := by omega
        have hk2 : (k : Int) < (l.length : Int) := by omega
        clear ca cb
        generalize l[k] = m at *
        generalize r[k] = n at *
        clear hlt2
        have hne := fun W => mv_neq m n W
        obtain ⟨mk, mx, my⟩ := m
        obtain ⟨nk, nx, ny⟩ := n
        simp only [mvCells, List.getElem?_cons_zero, List.getElem?_cons_succ, Nat.add_zero] at a0 a1 a2 b0 b1 b2
        simp only at hne
        cases hq : mvEq ⟨mk, mx, my⟩ ⟨nk, nx, ny⟩
        · have HQ := Lib.hid (hno.out hq)
          rw [hq] at hne
          simp only [Bool.not_false] at hne
          clear hq
          go_wp2
          go_region
          as_aux_lemma =>
            go_wp2
            go_ret
            rw [HQ.out]
            exact ⟨rfl, below_drew hbel⟩
        · have HQ := Lib.hid (hyes.out hq)
          rw [hq] at hne
          simp only [Bool.not_true] at hne
          clear hq
          go_wp2
          go_region
          as_aux_lemma =>
            go_wp2
            go_roundw
            case rel => exact ⟨k + 1, by omega, by go_num, Lib.hid (hd.out.trans HQ.out), below_drew hbel⟩
            case measure => simp [intOf]; omega
      · obtain rfl : k = l.length := by omega
        go_wp2
        go_ret
        rw [hd.out, hend.out]
        exact ⟨rfl, hbel⟩
  · have hn : ((l.length : Int) != (r.length : Int)) = true := by simp; omega
    have hno := Lib.hid (same_len hlen)
    clear hlen
    go_enter Tryz.func7, Tryz.ntmps7
    go_wp2
    go_ret
    rw [hno.out]
    exact ⟨rfl, Below.refl _ _⟩
end Go.Proofs.YtonpbomjjamphaaGreatDoor.NcW
