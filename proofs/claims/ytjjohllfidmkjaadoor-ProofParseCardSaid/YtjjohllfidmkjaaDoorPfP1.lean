/- Walk: Parts. Conditions: the coordinates are small. -/
import Derived.Test.YtjjohllfidmkjaaDoorPfV
import Derived.Test.YtjjohllfidmkjaaDoorPfY
import Derived.RegionTactic
import Derived.BigRegion
import Derived.ChangeAlike
namespace Go.Proofs.YtjjohllfidmkjaaDoor.PfW
open Go Go.RowKit Go.Proofs.YtjjohllfidmkjaaDoor.Mem Go.Proofs.YtjjohllfidmkjaaDoor.Pf

theorem cell7 {w : World} {b : Nat} {x0 x1 x2 x3 x4 x5 x6 : Value} {t : TypeId} (h : w.heap[b]? = some (.cells #[x0, x1, x2, x3, x4, x5, x6] t (0, 0))) : w.cell? ⟨b, 0, none⟩ = some x0 ∧ w.cell? ⟨b, 1, none⟩ = some x1 ∧ w.cell? ⟨b, 2, none⟩ = some x2 ∧ w.cell? ⟨b, 3, none⟩ = some x3 ∧ w.cell? ⟨b, 4, none⟩ = some x4 ∧ w.cell? ⟨b, 5, none⟩ = some x5 ∧ w.cell? ⟨b, 6, none⟩ = some x6 := by
  refine ⟨?_, ?_, ?_, ?_, ?_, ?_, ?_⟩ <;> simp [World.cell?, h]
theorem three_new (W : World) (o1 o2 o3 : Obj) : (((W.alloc o1).alloc o2).alloc o3).heap[W.heap.size + 1 + 1]? = some o3 ∧ Below W.heap.size W (((W.alloc o1).alloc o2).alloc o3) := by
  have e2 : ((W.alloc o1).alloc o2).heap.size = W.heap.size + 1 + 1 := by simp
  refine ⟨?_, (((Below.refl _ _).alloc (Nat.le_refl _) _).alloc (by simp) _).alloc (by simp; omega) _⟩
  rw [← e2]
  exact heap_alloc_new _ _
/-- Two systems handed back in a new block. -/
def PartsRet (cs : List Value) (w : World) (e : Ending) (w' : World) : Prop :=
  ∃ g, e = .returned (.tuple #[.slice (some ⟨g, 0, none⟩) 2 2, .bool true]) ∧ w'.heap[g]? = some (.cells cs.toArray 25 (0, 0)) ∧ w.heap.size ≤ g ∧ Below w.heap.size w w'
set_option maxRecDepth 100000 in
set_option maxHeartbeats 1000000 in
theorem parts_yes0 (l0 l1 l2 h0 h1 h2 at_ m : Int) (A : Option Addr) (n cp : Nat) (w : World) (h0' : 0 ≤ at_) (h1' : at_ ≤ 4611686018427387904) (e1 : at_ % 3 = 0) (e2 : at_ / 3 = m) (q1 : l0 ≤ m) (q2 : m < h0) :
    Calls Tryd.prog 35 #[.agg #[.int .i64 l0, .int .i64 l1, .int .i64 l2, .int .i64 h0, .int .i64 h1, .int .i64 h2, .slice A n cp], .int .i64 at_] w (PartsRet [.int .i64 l0, .int .i64 l1, .int .i64 l2, .int .i64 m, .int .i64 h1, .int .i64 h2, .slice A n cp, .int .i64 (m + 1), .int .i64 l1, .int .i64 l2, .int .i64 h0, .int .i64 h1, .int .i64 h2, .slice A n cp] w) := by
  have d1 : decide (m < l0) = false := decide_eq_false (by omega)
  have d2 : decide (h0 ≤ m) = false := decide_eq_false (by omega)
  go_enter Tryd.func35, Tryd.ntmps35
  go_wp2
  have HBB := Lib.hid (one_box w (.cells #[.int .i64 l0, .int .i64 l1, .int .i64 l2, .int .i64 h0, .int .i64 h1, .int .i64 h2, .slice A n cp] 25))
  have HSZ : Hid ((w.alloc (.cells #[.int .i64 l0, .int .i64 l1, .int .i64 l2, .int .i64 h0, .int .i64 h1, .int .i64 h2, .slice A n cp] 25)).heap.size = w.heap.size + 1) := Lib.hid (by simp)
  obtain ⟨x0, x1, x2, x3, x4, x5, x6⟩ := cell7 HBB.out.2
  have hz : w.heap.size < (w.alloc (.cells #[.int .i64 l0, .int .i64 l1, .int .i64 l2, .int .i64 h0, .int .i64 h1, .int .i64 h2, .slice A n cp] 25)).heap.size := by rw [HSZ.out]; omega
  generalize w.alloc (.cells #[.int .i64 l0, .int .i64 l1, .int .i64 l2, .int .i64 h0, .int .i64 h1, .int .i64 h2, .slice A n cp] 25) = W at *
  go_region_held3 (fun w' => w'.cell? ⟨w.heap.size, 0, none⟩ = some (.int .i64 l0) ∧ w'.cell? ⟨w.heap.size, 1, none⟩ = some (.int .i64 l1) ∧ w'.cell? ⟨w.heap.size, 2, none⟩ = some (.int .i64 l2) ∧ w'.cell? ⟨w.heap.size, 3, none⟩ = some (.int .i64 h0) ∧ w'.cell? ⟨w.heap.size, 4, none⟩ = some (.int .i64 h1) ∧ w'.cell? ⟨w.heap.size, 5, none⟩ = some (.int .i64 h2) ∧ w'.cell? ⟨w.heap.size, 6, none⟩ = some (.slice A n cp)) (go_keep) (fail)
  all_goals
    go_wp2
    go_ret2
    exact ⟨W.heap.size + 1 + 1, rfl, (three_new W _ _ _).1, Nat.le_trans (Nat.le_of_lt hz) (Nat.le_trans (Nat.le_succ _) (Nat.le_succ _)), HBB.out.1.trans ((below_drew (three_new W _ _ _).2).mono (Nat.le_of_lt hz))⟩
theorem parts_low0 (l0 l1 l2 h0 h1 h2 at_ m : Int) (A : Option Addr) (n cp : Nat) (w : World) (h0' : 0 ≤ at_) (h1' : at_ ≤ 4611686018427387904) (e1 : at_ % 3 = 0) (e2 : at_ / 3 = m) (q1 : m < l0) :
    Calls Tryd.prog 35 #[.agg #[.int .i64 l0, .int .i64 l1, .int .i64 l2, .int .i64 h0, .int .i64 h1, .int .i64 h2, .slice A n cp], .int .i64 at_] w fun e w' => e = .returned (.tuple #[.slice none 0 0, .bool false]) ∧ Below w.heap.size w w' := by
  have HBB := Lib.hid (one_box w (.cells #[.int .i64 l0, .int .i64 l1, .int .i64 l2, .int .i64 h0, .int .i64 h1, .int .i64 h2, .slice A n cp] 25))
  have d1 : decide (m < l0) = true := decide_eq_true q1
  go_enter Tryd.func35, Tryd.ntmps35
  go_wp2
  go_ret2
  exact ⟨rfl, HBB.out.1⟩
theorem parts_high0 (l0 l1 l2 h0 h1 h2 at_ m : Int) (A : Option Addr) (n cp : Nat) (w : World) (h0' : 0 ≤ at_) (h1' : at_ ≤ 4611686018427387904) (e1 : at_ % 3 = 0) (e2 : at_ / 3 = m) (q1 : l0 ≤ m) (q2 : h0 ≤ m) :
    Calls Tryd.prog 35 #[.agg #[.int .i64 l0, .int .i64 l1, .int .i64 l2, .int .i64 h0, .int .i64 h1, .int .i64 h2, .slice A n cp], .int .i64 at_] w fun e w' => e = .returned (.tuple #[.slice none 0 0, .bool false]) ∧ Below w.heap.size w w' := by
  have HBB := Lib.hid (one_box w (.cells #[.int .i64 l0, .int .i64 l1, .int .i64 l2, .int .i64 h0, .int .i64 h1, .int .i64 h2, .slice A n cp] 25))
  have d1 : decide (m < l0) = false := decide_eq_false (by omega)
  have d2 : decide (h0 ≤ m) = true := decide_eq_true q2
  go_enter Tryd.func35, Tryd.ntmps35
  go_wp2
  go_ret2
  exact ⟨rfl, HBB.out.1⟩
set_option maxRecDepth 100000 in
set_option maxHeartbeats 1000000 in
theorem parts_yes1 (l0 l1 l2 h0 h1 h2 at_ m : Int) (A : Option Addr) (n cp : Nat) (w : World) (h0' : 0 ≤ at_) (h1' : at_ ≤ 4611686018427387904) (e1 : at_ % 3 = 1) (e2 : at_ / 3 = m) (q1 : l1 ≤ m) (q2 : m < h1) :
    Calls Tryd.prog 35 #[.agg #[.int .i64 l0, .int .i64 l1, .int .i64 l2, .int .i64 h0, .int .i64 h1, .int .i64 h2, .slice A n cp], .int .i64 at_] w (PartsRet [.int .i64 l0, .int .i64 l1, .int .i64 l2, .int .i64 h0, .int .i64 m, .int .i64 h2, .slice A n cp, .int .i64 l0, .int .i64 (m + 1), .int .i64 l2, .int .i64 h0, .int .i64 h1, .int .i64 h2, .slice A n cp] w) := by
  have d1 : decide (m < l1) = false := decide_eq_false (by omega)
  have d2 : decide (h1 ≤ m) = false := decide_eq_false (by omega)
  go_enter Tryd.func35, Tryd.ntmps35
  go_wp2
  have HBB := Lib.hid (one_box w (.cells #[.int .i64 l0, .int .i64 l1, .int .i64 l2, .int .i64 h0, .int .i64 h1, .int .i64 h2, .slice A n cp] 25))
  have HSZ : Hid ((w.alloc (.cells #[.int .i64 l0, .int .i64 l1, .int .i64 l2, .int .i64 h0, .int .i64 h1, .int .i64 h2, .slice A n cp] 25)).heap.size = w.heap.size + 1) := Lib.hid (by simp)
  obtain ⟨x0, x1, x2, x3, x4, x5, x6⟩ := cell7 HBB.out.2
  have hz : w.heap.size < (w.alloc (.cells #[.int .i64 l0, .int .i64 l1, .int .i64 l2, .int .i64 h0, .int .i64 h1, .int .i64 h2, .slice A n cp] 25)).heap.size := by rw [HSZ.out]; omega
  generalize w.alloc (.cells #[.int .i64 l0, .int .i64 l1, .int .i64 l2, .int .i64 h0, .int .i64 h1, .int .i64 h2, .slice A n cp] 25) = W at *
  go_region_held3 (fun w' => w'.cell? ⟨w.heap.size, 0, none⟩ = some (.int .i64 l0) ∧ w'.cell? ⟨w.heap.size, 1, none⟩ = some (.int .i64 l1) ∧ w'.cell? ⟨w.heap.size, 2, none⟩ = some (.int .i64 l2) ∧ w'.cell? ⟨w.heap.size, 3, none⟩ = some (.int .i64 h0) ∧ w'.cell? ⟨w.heap.size, 4, none⟩ = some (.int .i64 h1) ∧ w'.cell? ⟨w.heap.size, 5, none⟩ = some (.int .i64 h2) ∧ w'.cell? ⟨w.heap.size, 6, none⟩ = some (.slice A n cp)) (go_keep) (fail)
  all_goals
    go_wp2
    go_ret2
    exact ⟨W.heap.size + 1 + 1, rfl, (three_new W _ _ _).1, Nat.le_trans (Nat.le_of_lt hz) (Nat.le_trans (Nat.le_succ _) (Nat.le_succ _)), HBB.out.1.trans ((below_drew (three_new W _ _ _).2).mono (Nat.le_of_lt hz))⟩
theorem parts_low1 (l0 l1 l2 h0 h1 h2 at_ m : Int) (A : Option Addr) (n cp : Nat) (w : World) (h0' : 0 ≤ at_) (h1' : at_ ≤ 4611686018427387904) (e1 : at_ % 3 = 1) (e2 : at_ / 3 = m) (q1 : m < l1) :
    Calls Tryd.prog 35 #[.agg #[.int .i64 l0, .int .i64 l1, .int .i64 l2, .int .i64 h0, .int .i64 h1, .int .i64 h2, .slice A n cp], .int .i64 at_] w fun e w' => e = .returned (.tuple #[.slice none 0 0, .bool false]) ∧ Below w.heap.size w w' := by
  have HBB := Lib.hid (one_box w (.cells #[.int .i64 l0, .int .i64 l1, .int .i64 l2, .int .i64 h0, .int .i64 h1, .int .i64 h2, .slice A n cp] 25))
  have d1 : decide (m < l1) = true := decide_eq_true q1
  go_enter Tryd.func35, Tryd.ntmps35
  go_wp2
  go_ret2
  exact ⟨rfl, HBB.out.1⟩
theorem parts_high1 (l0 l1 l2 h0 h1 h2 at_ m : Int) (A : Option Addr) (n cp : Nat) (w : World) (h0' : 0 ≤ at_) (h1' : at_ ≤ 4611686018427387904) (e1 : at_ % 3 = 1) (e2 : at_ / 3 = m) (q1 : l1 ≤ m) (q2 : h1 ≤ m) :
    Calls Tryd.prog 35 #[.agg #[.int .i64 l0, .int .i64 l1, .int .i64 l2, .int .i64 h0, .int .i64 h1, .int .i64 h2, .slice A n cp], .int .i64 at_] w fun e w' => e = .returned (.tuple #[.slice none 0 0, .bool false]) ∧ Below w.heap.size w w' := by
  have HBB := Lib.hid (one_box w (.cells #[.int .i64 l0, .int .i64 l1, .int .i64 l2, .int .i64 h0, .int .i64 h1, .int .i64 h2, .slice A n cp] 25))
  have d1 : decide (m < l1) = false := decide_eq_false (by omega)
  have d2 : decide (h1 ≤ m) = true := decide_eq_true q2
  go_enter Tryd.func35, Tryd.ntmps35
  go_wp2
  go_ret2
  exact ⟨rfl, HBB.out.1⟩
set_option maxRecDepth 100000 in
set_option maxHeartbeats 1000000 in
theorem parts_yes2 (l0 l1 l2 h0 h1 h2 at_ m : Int) (A : Option Addr) (n cp : Nat) (w : World) (h0' : 0 ≤ at_) (h1' : at_ ≤ 4611686018427387904) (e1 : at_ % 3 = 2) (e2 : at_ / 3 = m) (q1 : l2 ≤ m) (q2 : m < h2) :
    Calls Tryd.prog 35 #[.agg #[.int .i64 l0, .int .i64 l1, .int .i64 l2, .int .i64 h0, .int .i64 h1, .int .i64 h2, .slice A n cp], .int .i64 at_] w (PartsRet [.int .i64 l0, .int .i64 l1, .int .i64 l2, .int .i64 h0, .int .i64 h1, .int .i64 m, .slice A n cp, .int .i64 l0, .int .i64 l1, .int .i64 (m + 1), .int .i64 h0, .int .i64 h1, .int .i64 h2, .slice A n cp] w) := by
  have d1 : decide (m < l2) = false := decide_eq_false (by omega)
  have d2 : decide (h2 ≤ m) = false := decide_eq_false (by omega)
  go_enter Tryd.func35, Tryd.ntmps35
  go_wp2
  have HBB := Lib.hid (one_box w (.cells #[.int .i64 l0, .int .i64 l1, .int .i64 l2, .int .i64 h0, .int .i64 h1, .int .i64 h2, .slice A n cp] 25))
  have HSZ : Hid ((w.alloc (.cells #[.int .i64 l0, .int .i64 l1, .int .i64 l2, .int .i64 h0, .int .i64 h1, .int .i64 h2, .slice A n cp] 25)).heap.size = w.heap.size + 1) := Lib.hid (by simp)
  obtain ⟨x0, x1, x2, x3, x4, x5, x6⟩ := cell7 HBB.out.2
  have hz : w.heap.size < (w.alloc (.cells #[.int .i64 l0, .int .i64 l1, .int .i64 l2, .int .i64 h0, .int .i64 h1, .int .i64 h2, .slice A n cp] 25)).heap.size := by rw [HSZ.out]; omega
  generalize w.alloc (.cells #[.int .i64 l0, .int .i64 l1, .int .i64 l2, .int .i64 h0, .int .i64 h1, .int .i64 h2, .slice A n cp] 25) = W at *
  go_region_held3 (fun w' => w'.cell? ⟨w.heap.size, 0, none⟩ = some (.int .i64 l0) ∧ w'.cell? ⟨w.heap.size, 1, none⟩ = some (.int .i64 l1) ∧ w'.cell? ⟨w.heap.size, 2, none⟩ = some (.int .i64 l2) ∧ w'.cell? ⟨w.heap.size, 3, none⟩ = some (.int .i64 h0) ∧ w'.cell? ⟨w.heap.size, 4, none⟩ = some (.int .i64 h1) ∧ w'.cell? ⟨w.heap.size, 5, none⟩ = some (.int .i64 h2) ∧ w'.cell? ⟨w.heap.size, 6, none⟩ = some (.slice A n cp)) (go_keep) (fail)
  all_goals
    go_wp2
    go_ret2
    exact ⟨W.heap.size + 1 + 1, rfl, (three_new W _ _ _).1, Nat.le_trans (Nat.le_of_lt hz) (Nat.le_trans (Nat.le_succ _) (Nat.le_succ _)), HBB.out.1.trans ((below_drew (three_new W _ _ _).2).mono (Nat.le_of_lt hz))⟩
theorem parts_low2 (l0 l1 l2 h0 h1 h2 at_ m : Int) (A : Option Addr) (n cp : Nat) (w : World) (h0' : 0 ≤ at_) (h1' : at_ ≤ 4611686018427387904) (e1 : at_ % 3 = 2) (e2 : at_ / 3 = m) (q1 : m < l2) :
    Calls Tryd.prog 35 #[.agg #[.int .i64 l0, .int .i64 l1, .int .i64 l2, .int .i64 h0, .int .i64 h1, .int .i64 h2, .slice A n cp], .int .i64 at_] w fun e w' => e = .returned (.tuple #[.slice none 0 0, .bool false]) ∧ Below w.heap.size w w' := by
  have HBB := Lib.hid (one_box w (.cells #[.int .i64 l0, .int .i64 l1, .int .i64 l2, .int .i64 h0, .int .i64 h1, .int .i64 h2, .slice A n cp] 25))
  have d1 : decide (m < l2) = true := decide_eq_true q1
  go_enter Tryd.func35, Tryd.ntmps35
  go_wp2
  go_ret2
  exact ⟨rfl, HBB.out.1⟩
theorem parts_high2 (l0 l1 l2 h0 h1 h2 at_ m : Int) (A : Option Addr) (n cp : Nat) (w : World) (h0' : 0 ≤ at_) (h1' : at_ ≤ 4611686018427387904) (e1 : at_ % 3 = 2) (e2 : at_ / 3 = m) (q1 : l2 ≤ m) (q2 : h2 ≤ m) :
    Calls Tryd.prog 35 #[.agg #[.int .i64 l0, .int .i64 l1, .int .i64 l2, .int .i64 h0, .int .i64 h1, .int .i64 h2, .slice A n cp], .int .i64 at_] w fun e w' => e = .returned (.tuple #[.slice none 0 0, .bool false]) ∧ Below w.heap.size w w' := by
  have HBB := Lib.hid (one_box w (.cells #[.int .i64 l0, .int .i64 l1, .int .i64 l2, .int .i64 h0, .int .i64 h1, .int .i64 h2, .slice A n cp] 25))
  have d1 : decide (m < l2) = false := decide_eq_false (by omega)
  have d2 : decide (h2 ≤ m) = true := decide_eq_true q2
  go_enter Tryd.func35, Tryd.ntmps35
  go_wp2
  go_ret2
  exact ⟨rfl, HBB.out.1⟩
theorem parts_neg (l0 l1 l2 h0 h1 h2 at_ : Int) (A : Option Addr) (n cp : Nat) (w : World) (h0' : at_ < 0) :
    Calls Tryd.prog 35 #[.agg #[.int .i64 l0, .int .i64 l1, .int .i64 l2, .int .i64 h0, .int .i64 h1, .int .i64 h2, .slice A n cp], .int .i64 at_] w fun e w' => e = .returned (.tuple #[.slice none 0 0, .bool false]) ∧ Below w.heap.size w w' := by
  have HBB := Lib.hid (one_box w (.cells #[.int .i64 l0, .int .i64 l1, .int .i64 l2, .int .i64 h0, .int .i64 h1, .int .i64 h2, .slice A n cp] 25))
  go_enter Tryd.func35, Tryd.ntmps35
  go_wp2
  go_ret2
  exact ⟨rfl, HBB.out.1⟩
open Pf in
theorem parts_any (s : Syst) (at_ : Int) (A : Option Addr) (cp : Nat) (w : World) (h1 : -4611686018427387904 ≤ at_) (h2 : at_ ≤ 4611686018427387904) (hb : Box s) :
    Calls Tryd.prog 35 #[sysV s A cp, .int .i64 at_] w fun e w' => match parts s at_ with
      | none => e = .returned (.tuple #[.slice none 0 0, .bool false]) ∧ Below w.heap.size w w'
      | some (a, b) => PartsRet (sysCells a A cp ++ sysCells b A cp) w e w' := by
  obtain ⟨l0, l1, l2, h0, h1', h2', rows⟩ := s
  unfold parts
  by_cases hn : at_ < 0
  · rw [if_pos hn]
    exact parts_neg _ _ _ _ _ _ _ _ _ _ w hn
  · rw [if_neg hn]
    have hb2 := hb.b0; have hb3 := hb.b1; have hb4 := hb.b2
    simp only at hb2 hb3 hb4
    rcases mod3 at_ with e | e | e
    · rw [e]
      show Calls _ _ _ w fun e w' => match (if at_ / 3 < l0 ∨ h0 ≤ at_ / 3 then none else some (setHi ⟨l0, l1, l2, h0, h1', h2', rows⟩ (at_ / 3) 0, setLo ⟨l0, l1, l2, h0, h1', h2', rows⟩ (at_ / 3 + 1) 0)) with
        | none => e = .returned (.tuple #[.slice none 0 0, .bool false]) ∧ Below w.heap.size w w'
        | some (a, b) => PartsRet (sysCells a A cp ++ sysCells b A cp) w e w'
      by_cases hlow : at_ / 3 < l0
      · rw [if_pos (.inl hlow)]
        exact parts_low0 _ _ _ _ _ _ _ _ _ _ _ w (by omega) h2 e rfl hlow
      · by_cases hhi : h0 ≤ at_ / 3
        · rw [if_pos (.inr hhi)]
          exact parts_high0 _ _ _ _ _ _ _ _ _ _ _ w (by omega) h2 e rfl (Int.not_lt.1 hlow) hhi
        · rw [if_neg (by omega)]
          exact parts_yes0 _ _ _ _ _ _ _ _ _ _ _ w (by omega) h2 e rfl (Int.not_lt.1 hlow) (Int.not_le.1 hhi)
    · rw [e]
      show Calls _ _ _ w fun e w' => match (if at_ / 3 < l1 ∨ h1' ≤ at_ / 3 then none else some (setHi ⟨l0, l1, l2, h0, h1', h2', rows⟩ (at_ / 3) 1, setLo ⟨l0, l1, l2, h0, h1', h2', rows⟩ (at_ / 3 + 1) 1)) with
        | none => e = .returned (.tuple #[.slice none 0 0, .bool false]) ∧ Below w.heap.size w w'
        | some (a, b) => PartsRet (sysCells a A cp ++ sysCells b A cp) w e w'
      by_cases hlow : at_ / 3 < l1
      · rw [if_pos (.inl hlow)]
        exact parts_low1 _ _ _ _ _ _ _ _ _ _ _ w (by omega) h2 e rfl hlow
      · by_cases hhi : h1' ≤ at_ / 3
        · rw [if_pos (.inr hhi)]
          exact parts_high1 _ _ _ _ _ _ _ _ _ _ _ w (by omega) h2 e rfl (Int.not_lt.1 hlow) hhi
        · rw [if_neg (by omega)]
          exact parts_yes1 _ _ _ _ _ _ _ _ _ _ _ w (by omega) h2 e rfl (Int.not_lt.1 hlow) (Int.not_le.1 hhi)
    · rw [e]
      show Calls _ _ _ w fun e w' => match (if at_ / 3 < l2 ∨ h2' ≤ at_ / 3 then none else some (setHi ⟨l0, l1, l2, h0, h1', h2', rows⟩ (at_ / 3) 2, setLo ⟨l0, l1, l2, h0, h1', h2', rows⟩ (at_ / 3 + 1) 2)) with
        | none => e = .returned (.tuple #[.slice none 0 0, .bool false]) ∧ Below w.heap.size w w'
        | some (a, b) => PartsRet (sysCells a A cp ++ sysCells b A cp) w e w'
      by_cases hlow : at_ / 3 < l2
      · rw [if_pos (.inl hlow)]
        exact parts_low2 _ _ _ _ _ _ _ _ _ _ _ w (by omega) h2 e rfl hlow
      · by_cases hhi : h2' ≤ at_ / 3
        · rw [if_pos (.inr hhi)]
          exact parts_high2 _ _ _ _ _ _ _ _ _ _ _ w (by omega) h2 e rfl (Int.not_lt.1 hlow) hhi
        · rw [if_neg (by omega)]
          exact parts_yes2 _ _ _ _ _ _ _ _ _ _ _ w (by omega) h2 e rfl (Int.not_lt.1 hlow) (Int.not_le.1 hhi)
end Go.Proofs.YtjjohllfidmkjaaDoor.PfW
