/- Walk: write at a leaf. Conditions: as stated. -/
import Derived.Test.YtjjohllfidmkjaaDoorPfX4
import Derived.Test.YtjjohllfidmkjaaDoorPfO
import Derived.Test.YtjjohllfidmkjaaDoorPfV
import Derived.Deep.AppendLies
import Derived.Deep.CutRange
namespace Go.Proofs.YtjjohllfidmkjaaDoor.PfW
open Go Go.RowKit Go.Proofs.YtjjohllfidmkjaaDoor.Mem Go.Proofs.YtjjohllfidmkjaaDoor.Pf
theorem own_cells {w : World} {B n sz : Nat} {e : TypeId} {v : Value} {xs : List Value} (h : w.ownsRow B e sz v n xs) : ∀ g, v.ownBlock = some g → ∃ c fz, w.heap[g]? = some (.cells c e fz) := fun g hg => by
  rcases h.2 with ⟨h0, _⟩ | ⟨g', cap, cur, hv, _, hh, _⟩
  · subst h0; cases hg
  · subst hv; cases hg; exact ⟨cur, (0, 0), hh⟩
theorem all_take {l : List Int} (h : l.all smallB = true) (j : Nat) : (l.take j).all smallB = true := List.all_eq_true.2 fun x hx => List.all_eq_true.1 h x (List.mem_of_mem_take hx)
theorem info_u8 : (Tryd.prog.info? 5).map (fun i => (i.zero, i.size, i.bytes)) = some (some (.int .u8 0), 1, 1) := by kernel_rfl
set_option maxRecDepth 100000 in
set_option maxHeartbeats 4000000 in
theorem write_leaf (s : Int) (lf : List Int) (hs : lf.all smallB = true) (hl : lf.length ≤ 40) (K : Option Addr) (kc : Nat) (Bf : Option Addr) (d : Nat) (B n : Nat) (sv : Value) (xs : List Value) (w : World)
    (hown : w.ownsRow B 5 1 sv n xs) (hB : 3 ≤ B) (hBw : B ≤ w.heap.size) (hlim : n + 600 ≤ 140737488355328) (hG : Glob w) (hr : RowS (fun g => g < B) w Bf (intCells lf)) :
    Calls Tryd.prog 50 #[sv, .agg #[.int .i64 s, .slice K 0 kc, .slice Bf lf.length d]] w fun e w' => ∃ v', e = .returned v' ∧ w'.ownsRow B 5 1 v' (n + (text (.mk s [] lf)).length) (xs ++ Lib.byteCells (text (.mk s [] lf))) ∧ Below B w w' ∧ Lib.OthersKept 5 none w w' := by
  have HBB := Lib.hid (one_box w (.cells #[.int .i64 s, .slice K 0 kc, .slice Bf lf.length d] 38))
  have HOWN := Lib.hid (own_below hown HBB.out.1)
  obtain ⟨i0, ia, ib, ic, id⟩ := info_parts info_u8
  have hz := lt_of_block HBB.out.2
  obtain ⟨x0, x1, x2⟩ := cell3 HBB.out.2
  go_enter Tryd.func50, Tryd.ntmps50
  go_upto_region 2 with fail
  generalize w.alloc (.cells #[.int .i64 s, .slice K 0 kc, .slice Bf lf.length d] 38) = W at *
  go_wp2_with (at_builtin; refine wpList_append_lies _ rfl _ _ 80 rfl B 5 i0 _ 1 1 Tryd.underlying80 ia ib ic id rfl (by omega) sv n xs rfl (HOWN.out.alloc _) ⟨W.heap.size, 0, none⟩ 1 1 [.int .u8 40] rfl rfl (World.news_of_block (cs := #[.int .u8 40]) (t := 5) (fr := (0, 0)) (heap_alloc_new W _)) (by simp [Value.oneCell']) (by omega) (by unfold maxLen; omega) (by omega) (by simp; omega) (W.heap.size + 1) (by simp) ?_)
  intro gq cq w3 hown3 hgrow _ _
  have HO3 := Lib.hid hown3
  have HK3 : Hid (Lib.OthersKept 5 none W w3) := Lib.hid (((Lib.OthersKept.refl 5 none W).alloc _).grown hgrow (own_cells (HOWN.out.alloc _)))
  have HB3 : Hid (Below B W w3) := Lib.hid (((Below.refl B W).alloc (Nat.le_trans hBw HBB.out.1.size) _).grown hgrow (by have := HBB.out.1.size; simp; omega) (fun x hx => (HOWN.out.lt x hx).1))
  clear hgrow hown3
  have HBW : Hid (Below B w W) := Lib.hid (HBB.out.1.mono hBw)
  have HSZ : Hid (B ≤ W.heap.size) := Lib.hid (Nat.le_trans hBw HBB.out.1.size)
  have HX := Lib.hid HBB.out.2
  have HKW : Hid (Lib.OthersKept 5 none w W) := Lib.hid (fun k o h _ _ => (HBB.out.1.block k (lt_of_block h)).trans h)
  clear HBB hown x0 x1 x2
  obtain ⟨x0, x1, x2⟩ := cell3 (HK3.out _ _ HX.out (by simp) (fun c fz e => by cases e))
  go_wp2
  go_loopw [0, 5, 6, 19] (fun t0 _ _ i wr => ∃ j : Nat, i = .int .i64 (j : Int) ∧ j ≤ lf.length ∧ Hid (wr.ownsRow B 5 1 t0 (n + 1 + (leafText (lf.take j)).length) (xs ++ (Value.int .u8 40 :: Lib.byteCells (leafText (lf.take j))))) ∧ Hid (Below B W wr) ∧ Hid (Lib.OthersKept 5 none W wr)) (fun _ _ _ i _ => lf.length - (intOf i).toNat)
  case atStart => exact ⟨0, rfl, Nat.zero_le _, Lib.hid (by simpa [leafText, Lib.byteCells] using HO3.out), HB3, HK3⟩
  case round =>
    obtain ⟨j, rfl, hj, HO, HB1, HK⟩ := hrel
    have hlb := leafText_len (lf.take j) (all_take hs j)
    have hlj : (lf.take j).length ≤ 40 := by rw [List.length_take]; omega
    have hbz : B ≤ wr.heap.size := Nat.le_trans HSZ.out (Below.size HB1.out)
    by_cases hlt : j < lf.length
    · have e1 : (j : Int) < (lf.length : Int) := by omega
      have e0 : (0 : Int) ≤ (j : Int) := by omega
      have hsm : smallB lf[j] = true := List.all_eq_true.1 hs _ (List.getElem_mem hlt)
      obtain ⟨gf, of, rfl, hgB, hgf, hcf⟩ := hr (by intro h0; have := congrArg List.length h0; simp [intCells] at this; rw [this] at hlt; simp at hlt)
      have y0 : wr.cell? ⟨gf, of + j, none⟩ = some (.int .i64 lf[j]) := ((HBW.out.trans HB1.out).cell (p := ⟨gf, of + j, none⟩) hgB).trans ((hcf j (by simp [intCells]; omega)).trans (by simp [intCells, hlt]))
      obtain ⟨vA, vc, rfl, hvc⟩ := own_shape HO.out
      clear hcf
      by_cases h0 : 0 < j
      · have d0 : decide ((0 : Int) < (j : Int)) = true := decide_eq_true (by omega)
        go_wp2_with (at_builtin; refine wpList_append_lies _ rfl _ _ 80 rfl B 5 i0 _ 1 1 Tryd.underlying80 ia ib ic id rfl (by omega) (.slice vA (n + 1 + (leafText (lf.take j)).length) vc) (n + 1 + (leafText (lf.take j)).length) (xs ++ (Value.int .u8 40 :: Lib.byteCells (leafText (lf.take j)))) rfl (HO.out.alloc _) ⟨wr.heap.size, 0, none⟩ 1 1 [.int .u8 32] rfl rfl (World.news_of_block (cs := #[.int .u8 32]) (t := 5) (fr := (0, 0)) (heap_alloc_new wr _)) (by simp [Value.oneCell']) (by omega) (by unfold maxLen; omega) (by omega) (by simp; omega) (wr.heap.size + 1) (by simp) ?_)
        intro gq2 cq2 w5 hown5 hgrow5 _ _
        have HO5 := Lib.hid hown5
        have HK5 : Hid (Lib.OthersKept 5 none W w5) := Lib.hid ((HK.out.alloc _).grown hgrow5 (own_cells (HO.out.alloc _)))
        have HB5 : Hid (Below B W w5) := Lib.hid ((HB1.out.alloc (Nat.le_trans HSZ.out HB1.out.size) _).grown hgrow5 (by have := HB1.out.size; have := HSZ.out; simp; omega) (fun x hx => (HO.out.lt x hx).1))
        clear hgrow5 hown5
        have HN := Lib.hid (append_num B ((n + 1 + (leafText (lf.take j)).length) + 1) lf[j] (by have := hsm; simp only [smallB, Bool.and_eq_true, decide_eq_true_eq] at this; omega) _ _ w5 HO5.out hB (Nat.le_trans HSZ.out (Below.size HB5.out)) (by omega) (hG.below3 ((HBW.out.trans HB5.out).mono hB)))
        go_wp2_with fail
        refine HN.out.mono ?_
        rintro e w6 ⟨v6, rfl, ho6, hb6, hk6⟩
        have HO6 := Lib.hid ho6
        have HB6 := Lib.hid (HB5.out.trans hb6)
        have HK6 := Lib.hid (HK5.out.trans hk6)
        clear ho6 hb6 hk6
        go_wp2
        go_roundw
        case rel => exact ⟨j + 1, by go_num, by omega, Lib.hid (by have h9 := HO6.out; rw [leafText_take lf j hlt, if_pos h0]; simpa [Lib.byteCells, Nat.add_assoc, Nat.add_comm, Nat.add_left_comm] using h9), HB6, HK6⟩
        case measure => simp [intOf]; omega
      · have d0 : decide ((0 : Int) < (j : Int)) = false := decide_eq_false (by omega)
        have HN := Lib.hid (append_num B (n + 1 + (leafText (lf.take j)).length) lf[j] (by have := hsm; simp only [smallB, Bool.and_eq_true, decide_eq_true_eq] at this; omega) _ (xs ++ (Value.int .u8 40 :: Lib.byteCells (leafText (lf.take j)))) wr HO.out hB (Nat.le_trans HSZ.out (Below.size HB1.out)) (by omega) (hG.below3 ((HBW.out.trans HB1.out).mono hB)))
        go_wp2_with fail
        refine HN.out.mono ?_
        rintro e w6 ⟨v6, rfl, ho6, hb6, hk6⟩
        have HO6 := Lib.hid ho6
        have HB6 := Lib.hid (HB1.out.trans hb6)
        have HK6 := Lib.hid (HK.out.trans hk6)
        clear ho6 hb6 hk6
        go_wp2
        go_roundw
        case rel => exact ⟨j + 1, by go_num, by omega, Lib.hid (by have h9 := HO6.out; rw [leafText_take lf j hlt, if_neg h0]; simpa [Lib.byteCells, Nat.add_assoc, Nat.add_comm, Nat.add_left_comm] using h9), HB6, HK6⟩
        case measure => simp [intOf]; omega
    · have hje : j = lf.length := by omega
      have e1 : decide ((j : Int) < (lf.length : Int)) = false := decide_eq_false (by omega)
      have hoe := HO.out
      rw [List.take_of_length_le (by omega)] at hoe
      have HOE := Lib.hid hoe
      clear hoe
      rw [List.take_of_length_le (by omega)] at hlb
      obtain ⟨vA, vc, rfl, hvc⟩ := own_shape HOE.out
      go_wp2_with (at_builtin; refine wpList_append_lies _ rfl _ _ 80 rfl B 5 i0 _ 1 1 Tryd.underlying80 ia ib ic id rfl (by omega) (.slice vA (n + 1 + (leafText lf).length) vc) (n + 1 + (leafText lf).length) (xs ++ (Value.int .u8 40 :: Lib.byteCells (leafText lf))) rfl (HOE.out.alloc _) ⟨wr.heap.size, 0, none⟩ 1 1 [.int .u8 41] rfl rfl (World.news_of_block (cs := #[.int .u8 41]) (t := 5) (fr := (0, 0)) (heap_alloc_new wr _)) (by simp [Value.oneCell']) (by omega) (by unfold maxLen; omega) (by omega) (by simp; omega) (wr.heap.size + 1) (by simp) ?_)
      intro gq2 cq2 w5 hown5 hgrow5 _ _
      have HO5 := Lib.hid hown5
      have HK5 : Hid (Lib.OthersKept 5 none W w5) := Lib.hid ((HK.out.alloc _).grown hgrow5 (own_cells (HOE.out.alloc _)))
      have HB5 : Hid (Below B W w5) := Lib.hid ((HB1.out.alloc (Nat.le_trans HSZ.out HB1.out.size) _).grown hgrow5 (by have := HB1.out.size; have := HSZ.out; simp; omega) (fun x hx => (HOE.out.lt x hx).1))
      clear hgrow5 hown5
      go_wp2
      go_ret
      refine ⟨_, rfl, ?_, HBW.out.trans HB5.out, HKW.out.trans HK5.out⟩
      have ht : text (.mk s [] lf) = 40 :: leafText lf ++ [41] := by unfold text; exact if_pos rfl
      have h9 := HO5.out
      rw [ht]
      simpa [Lib.byteCells, Nat.add_assoc, Nat.add_comm, Nat.add_left_comm] using h9
end Go.Proofs.YtjjohllfidmkjaaDoor.PfW
