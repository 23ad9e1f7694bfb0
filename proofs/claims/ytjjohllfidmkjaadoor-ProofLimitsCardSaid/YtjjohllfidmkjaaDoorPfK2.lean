/- Walks: parts, divide, down and zero of counts. Conditions: the numbers are small. -/
import Derived.Test.YtjjohllfidmkjaaDoorPfK1
import Derived.Test.YtjjohllfidmkjaaDoorPfB4
namespace Go.Proofs.YtjjohllfidmkjaaDoor.PfW
open Go Go.RowKit Go.Proofs.YtjjohllfidmkjaaDoor.Mem Go.Proofs.YtjjohllfidmkjaaDoor.Pf
attribute [local go_sem ↓] Go.wp_at_zero Go.wp_at_succ
def ccells (c : Int × Int) : List Value := [.int .i64 c.1, .int .i64 c.2]
theorem cc_len (c : Int × Int) : (ccells c).length = 2 := rfl
/-- The parts of a count. -/
def cparts (l k j : Nat) : List Value := (List.replicate j (((l : Int) - 1), (k : Int))).flatMap ccells
theorem cparts_len (l k j : Nat) : (cparts l k j).length = j * 2 := by
  unfold cparts
  rw [flatMap_len cc_len, List.length_replicate]
theorem cparts_snoc (l k j : Nat) : cparts l k (j + 1) = cparts l k j ++ [.int .i64 ((l : Int) - 1), .int .i64 (k : Int)] := by
  unfold cparts
  rw [List.replicate_succ', flatMap_snoc]
  rfl
theorem info_count : (Tryd.prog.info? 64).map (fun i => (i.zero, i.size, i.bytes)) = some (some (.agg #[.int .i64 0, .int .i64 0]), 2, 16) := by kernel_rfl
theorem cell2c {w : World} {b : Nat} {x y : Value} {t : TypeId} (h : w.heap[b]? = some (.cells #[x, y] t (0, 0))) : w.cell? ⟨b, 0, none⟩ = some x ∧ w.cell? ⟨b, 1, none⟩ = some y := by
  refine ⟨?_, ?_⟩ <;> simp [World.cell?, h]
set_option maxRecDepth 100000 in
set_option maxHeartbeats 2000000 in
theorem cparts_any (l k : Nat) (w : World) (hl : l ≤ 1000) (hk : k ≤ 1000) :
    Calls Tryd.prog 62 #[.agg #[.int .i64 (l : Int), .int .i64 (k : Int)], .int .i64 (l : Int)] w fun e w' => ∃ v, e = .returned (.tuple #[v, .bool true]) ∧ w'.ownsRow (w.heap.size + 1) 64 2 v k (cparts l k k) ∧ Below w.heap.size w w' := by
  have HBB := Lib.hid (one_box w (.cells #[.int .i64 (l : Int), .int .i64 (k : Int)] 64))
  obtain ⟨i0, ia, ib, ic, id⟩ := info_parts info_count
  have HB := Lib.hid HBB.out.1
  have HX := Lib.hid HBB.out.2
  have hz := lt_of_block HBB.out.2
  clear HBB
  go_enter Tryd.func62, Tryd.ntmps62
  go_wp2
  generalize w.alloc (.cells #[.int .i64 (l : Int), .int .i64 (k : Int)] 64) = W at *
  have CX : Hid (∀ w', Below (w.heap.size + 1) W w' → w'.heap[w.heap.size]? = some (.cells #[.int .i64 (l : Int), .int .i64 (k : Int)] 64)) := Lib.hid (fun w' hb => (hb.block _ (Nat.lt_succ_self _)).trans HX.out)
  go_loopw [6, 7] (fun t i wr => ∃ j : Nat, i = .int .i64 j ∧ j ≤ k ∧ Hid (wr.ownsRow (w.heap.size + 1) 64 2 t j (cparts l k j)) ∧ Below (w.heap.size + 1) W wr) (fun _ i _ => k - (intOf i).toNat)
  case atStart => exact ⟨0, rfl, Nat.zero_le _, Lib.hid (World.ownsRow_nil _ _ _ _), Below.refl _ _⟩
  case round =>
    obtain ⟨j, rfl, hj, HOWN, hbel⟩ := hrel
    obtain ⟨x0, x1⟩ := cell2c (CX.out _ hbel)
    have hzr := lt_of_block (CX.out _ hbel)
    by_cases hlt : j < k
    · have e1 : (j : Int) < (k : Int) := by omega
      have hsz : w.heap.size + 1 ≤ wr.heap.size := hzr
      obtain ⟨vA, vc, rfl, hvc⟩ := own_shape HOWN.out
      go_wp2_with (at_builtin; refine wpList_append_lies _ rfl _ _ 99 rfl (w.heap.size + 1) 64 i0 _ 2 16 Tryd.underlying99 ia ib ic id rfl (by omega) (.slice vA j vc) j (cparts l k j) rfl (HOWN.out.alloc _) ⟨wr.heap.size, 0, none⟩ 1 1 [.int .i64 ((l : Int) - 1), .int .i64 (k : Int)] rfl rfl (World.news_of_block (cs := #[.int .i64 ((l : Int) - 1), .int .i64 (k : Int)]) (t := 64) (fr := (0, 0)) (heap_alloc_new wr _)) (by simp [Value.oneCell']) (by omega) (by unfold maxLen; omega) (by omega) (by simp; omega) (wr.heap.size + 1) (by simp) ?_)
      intro gq cq w5 hown5 hgrow5 _ _
      have HO5 := Lib.hid hown5
      have hlt5 := HOWN.out.lt
      have HB5 : Hid (Below (w.heap.size + 1) W w5) := Lib.hid (((hbel.alloc hsz (.cells #[.int .i64 ((l : Int) - 1), .int .i64 (k : Int)] 64))).grown hgrow5 (by simp; omega) (fun x hx => (hlt5 x hx).1))
      clear hgrow5 hown5
      go_wp2
      go_roundw
      case rel => exact ⟨j + 1, by go_num, by omega, Lib.hid (by rw [cparts_snoc]; exact HO5.out), HB5.out⟩
      case measure => simp [intOf]; omega
    · obtain rfl : j = k := by omega
      have e1 : decide ((j : Int) < (j : Int)) = false := decide_eq_false (by omega)
      go_wp2
      go_quiet (fail)
      go_wp2
      go_ret2
      exact ⟨_, rfl, HOWN.out, HB.out.trans (Go.Proofs.YtjjohllfidmkjaaDoor.Mem.below_drewN (hbel.mono (Nat.le_succ _)) _)⟩
set_option maxRecDepth 100000 in
theorem divide_any (l k : Nat) (w : World) (hl : l ≤ 1000) (hk : k ≤ 1000) :
    Calls Tryd.prog 39 #[.agg #[.int .i64 (l : Int), .int .i64 (k : Int)], .int .i64 (l : Int)] w fun e w' => ∃ A c, e = .returned (.tuple #[.slice A k c, .bool true]) ∧ k ≤ c ∧ RowS (fun g => w.heap.size ≤ g) w' A (cparts l k k) ∧ Below w.heap.size w w' := by
  have HBB := Lib.hid (one_box w (.cells #[.int .i64 (l : Int), .int .i64 (k : Int)] 64))
  have HP := Lib.hid (cparts_any l k (w.alloc (.cells #[.int .i64 (l : Int), .int .i64 (k : Int)] 64)) hl hk)
  obtain ⟨x0, x1⟩ := cell2c HBB.out.2
  have HZ : Hid ((w.alloc (.cells #[.int .i64 (l : Int), .int .i64 (k : Int)] 64)).heap.size = w.heap.size + 1) := Lib.hid (by simp)
  go_enter Tryd.func39, Tryd.ntmps39
  go_wp2_with fail
  refine HP.out.mono ?_
  rintro e w2 ⟨v, rfl, ho, hb⟩
  obtain ⟨A, c, rfl, hc⟩ := own_shape ho
  have HO := Lib.hid ho
  have HB := Lib.hid (HBB.out.1.trans (hb.mono HBB.out.1.size))
  clear ho hb
  go_wp2
  go_ret2
  refine ⟨A, c, rfl, hc, fun hne => ?_, HB.out⟩
  obtain ⟨g, off, e, hg, hcell⟩ := Row.of_own HO.out hne
  subst e
  refine ⟨g, off, rfl, ?_, hg, hcell⟩
  rcases HO.out.2 with ⟨h0, _⟩ | ⟨g', cap, cur, hv, hb', _⟩
  · cases h0
  · cases hv
    have := HZ.out
    omega
/-- The plan of a count. -/
def DownRet (l k : Nat) (w : World) (e : Ending) (w' : World) : Prop :=
  Below w.heap.size w w' ∧ match l with
    | 0 => ∃ g, e = .returned (.agg #[.int .i64 2, .int .i64 0, .slice (some ⟨g, 0, none⟩) 1 1]) ∧ w'.heap[g]? = some (.cells #[.int .i64 (k : Int)] 3 (0, 0)) ∧ w.heap.size ≤ g
    | l + 1 => e = .returned (.agg #[.int .i64 1, .int .i64 ((l + 1 : Nat) : Int), .slice none 0 0])
set_option maxRecDepth 100000 in
theorem down_any (l k : Nat) (w : World) : Calls Tryd.prog 40 #[.agg #[.int .i64 (l : Int), .int .i64 (k : Int)]] w (DownRet l k w) := by
  have HBB := Lib.hid (two_boxes w (.cells #[.int .i64 (l : Int), .int .i64 (k : Int)] 64) (.cells #[.int .i64 0, .int .i64 0, .slice none 0 0] 94))
  obtain ⟨x0, x1⟩ := cell2c HBB.out.2.1
  have hz := lt_of_block HBB.out.2.1
  cases l with
  | zero =>
    obtain ⟨r0, r1, r2⟩ := cell3 HBB.out.2.2
    have q0 := free3 HBB.out.2.2 0
    have q1 := free3 HBB.out.2.2 1
    have q2 := free3 HBB.out.2.2 2
    have qz := lt_of_block HBB.out.2.2
    go_enter Tryd.func40, Tryd.ntmps40
    go_upto_region 1 with fail
    generalize (w.alloc (.cells #[.int .i64 ((0 : Nat) : Int), .int .i64 (k : Int)] 64)).alloc (.cells #[.int .i64 0, .int .i64 0, .slice none 0 0] 94) = W at *
    go_wp2
    have KK := Lib.hid (cell3 ((heap_alloc_old (((W.setCell ⟨w.heap.size + 1, 0, none⟩ (.int .i64 2)).setCell ⟨w.heap.size + 1, 1, none⟩ (.int .i64 0)).setCell ⟨w.heap.size + 1, 2, none⟩ (.slice (some ⟨W.heap.size, 0, none⟩) 1 1)) (.cells #[.int .i64 (k : Int)] 3) (by simpa [World.setCell] using qz)).trans (set3 HBB.out.2.2 _ _ _)))
    obtain ⟨k0, k1, k2⟩ := KK.out
    refine bodyPost_ret (v := .agg #[.int .i64 2, .int .i64 0, .slice (some ⟨W.heap.size, 0, none⟩) 1 1]) (by simp [results, Tryd.results40, go_sem, k0, k1, k2]) rfl ?_
    refine ⟨((((HBB.out.1.setCell (by simp) _).setCell (by simp) _).setCell (by simp) _).alloc (by have := HBB.out.1.size; simpa [World.setCell] using this) _), W.heap.size, rfl, ?_, HBB.out.1.size⟩
    have h9 := heap_alloc_new (((W.setCell ⟨w.heap.size + 1, 0, none⟩ (.int .i64 2)).setCell ⟨w.heap.size + 1, 1, none⟩ (.int .i64 0)).setCell ⟨w.heap.size + 1, 2, none⟩ (.slice (some ⟨W.heap.size, 0, none⟩) 1 1)) (.cells #[.int .i64 (k : Int)] 3)
    have hsz : (((W.setCell ⟨w.heap.size + 1, 0, none⟩ (.int .i64 2)).setCell ⟨w.heap.size + 1, 1, none⟩ (.int .i64 0)).setCell ⟨w.heap.size + 1, 2, none⟩ (.slice (some ⟨W.heap.size, 0, none⟩) 1 1)).heap.size = W.heap.size := by simp [World.setCell]
    rw [hsz] at h9
    exact h9
  | succ l =>
    have e0 : ((((l + 1 : Nat) : Int)) == 0) = false := by rw [beq_eq_false_iff_ne]; omega
    go_enter Tryd.func40, Tryd.ntmps40
    go_upto_region 1 with fail
    go_wp2
    refine bodyPost_ret (v := .agg #[.int .i64 1, .int .i64 ((l + 1 : Nat) : Int), .slice none 0 0]) (by simp [results, Tryd.results40, go_sem]) rfl ?_
    exact ⟨(two_boxes w _ _).1, rfl⟩
set_option maxRecDepth 100000 in
theorem zero_any (k : Nat) (B : Option Addr) (d : Nat) (w : World) (hr : Row w B [.int .i64 (k : Int)]) : Calls Tryd.prog 42 #[.agg #[.int .i64 0, .int .i64 (k : Int)], .slice B 1 d] w fun e w' => e = .returned (.bool true) ∧ Below w.heap.size w w' := by
  have HBB := Lib.hid (one_box w (.cells #[.int .i64 0, .int .i64 (k : Int)] 64))
  obtain ⟨x0, x1⟩ := cell2c HBB.out.2
  obtain ⟨g, off, rfl, hg, hc⟩ := hr (by simp)
  have c0 : w.cell? ⟨g, off, none⟩ = some (.int .i64 (k : Int)) := hc 0 (by simp)
  have c1 := (HBB.out.1.cell (p := ⟨g, off, none⟩) hg).trans c0
  clear hr hc
  go_enter Tryd.func42, Tryd.ntmps42
  go_wp2
  go_quiet (fail)
  go_wp2
  go_ret
  exact ⟨rfl, Go.Proofs.YtjjohllfidmkjaaDoor.Mem.below_drewN HBB.out.1 _⟩
end Go.Proofs.YtjjohllfidmkjaaDoor.PfW
