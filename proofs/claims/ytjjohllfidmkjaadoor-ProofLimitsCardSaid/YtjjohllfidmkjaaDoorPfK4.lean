/- Walk: Build over counts. Conditions: the numbers are small. -/
import Derived.Test.YtjjohllfidmkjaaDoorPfK3
namespace Go.Proofs.YtjjohllfidmkjaaDoor.PfW
open Go Go.RowKit Go.Proofs.YtjjohllfidmkjaaDoor.Mem Go.Proofs.YtjjohllfidmkjaaDoor.Pf
set_option maxRecDepth 100000 in
set_option maxHeartbeats 4000000 in
theorem builtC_any (k l : Nat) (w : World) (hk : 0 < k) (hk2 : k ≤ 1000) (hl : l ≤ 1000) :
    Calls Tryd.prog 38 #[.agg #[.int .i64 (l : Int), .int .i64 (k : Int)], .func (.func 39) #[] #[], .func (.func 40) #[] #[]] w (BuildRet (bldC k l 1 0) w) := by
  have HBB := Lib.hid (five_boxes w (.cells #[.int .i64 (l : Int), .int .i64 (k : Int)] 64) (.cells #[.func (.func 39) #[] #[]] 66) (.cells #[.func (.func 40) #[] #[]] 67) (.cells #[.int .i64 0, .slice none 0 0, .slice none 0 0] 38) (.cells #[.int .i64 0] 3))
  have esz : Hid ((((((w.alloc (.cells #[.int .i64 (l : Int), .int .i64 (k : Int)] 64)).alloc (.cells #[.func (.func 39) #[] #[]] 66)).alloc (.cells #[.func (.func 40) #[] #[]] 67)).alloc (.cells #[.int .i64 0, .slice none 0 0, .slice none 0 0] 38)).alloc (.cells #[.int .i64 0] 3)).heap.size = w.heap.size + 1 + 1 + 1 + 1 + 1) := Lib.hid (by simp)
  have HFN := Lib.hid (one_box (((((w.alloc (.cells #[.int .i64 (l : Int), .int .i64 (k : Int)] 64)).alloc (.cells #[.func (.func 39) #[] #[]] 66)).alloc (.cells #[.func (.func 40) #[] #[]] 67)).alloc (.cells #[.int .i64 0, .slice none 0 0, .slice none 0 0] 38)).alloc (.cells #[.int .i64 0] 3)) (.cells #[.func (.func 61) #[] #[.pointer (some ⟨w.heap.size + 1 + 1 + 1 + 1, 0, none⟩), .pointer (some ⟨w.heap.size + 1 + 1, 0, none⟩), .pointer (some ⟨w.heap.size + 1, 0, none⟩), .pointer (some ⟨w.heap.size + 1 + 1 + 1 + 1 + 1, 0, none⟩)]] 98))
  rw [esz.out] at HFN
  have HBX := Lib.hid (HBB.out.1.trans (HFN.out.1.mono (by omega)))
  have hold : ∀ (b : Nat) (o : Obj), (((((w.alloc (.cells #[.int .i64 (l : Int), .int .i64 (k : Int)] 64)).alloc (.cells #[.func (.func 39) #[] #[]] 66)).alloc (.cells #[.func (.func 40) #[] #[]] 67)).alloc (.cells #[.int .i64 0, .slice none 0 0, .slice none 0 0] 38)).alloc (.cells #[.int .i64 0] 3)).heap[b]? = some o → ((((((w.alloc (.cells #[.int .i64 (l : Int), .int .i64 (k : Int)] 64)).alloc (.cells #[.func (.func 39) #[] #[]] 66)).alloc (.cells #[.func (.func 40) #[] #[]] 67)).alloc (.cells #[.int .i64 0, .slice none 0 0, .slice none 0 0] 38)).alloc (.cells #[.int .i64 0] 3)).alloc (.cells #[.func (.func 61) #[] #[.pointer (some ⟨w.heap.size + 1 + 1 + 1 + 1, 0, none⟩), .pointer (some ⟨w.heap.size + 1 + 1, 0, none⟩), .pointer (some ⟨w.heap.size + 1, 0, none⟩), .pointer (some ⟨w.heap.size + 1 + 1 + 1 + 1 + 1, 0, none⟩)]] 98)).heap[b]? = some o := fun b o h => (HFN.out.1.block b (by rw [← esz.out]; exact lt_of_block h)).trans h
  have B1 := Lib.hid (hold _ _ HBB.out.2.1)
  have B2 := Lib.hid (hold _ _ HBB.out.2.2.1)
  have B3 := Lib.hid (hold _ _ HBB.out.2.2.2.1)
  have B4 := Lib.hid (hold _ _ HBB.out.2.2.2.2.1)
  have B5 := Lib.hid (hold _ _ HBB.out.2.2.2.2.2)
  have B6 := Lib.hid HFN.out.2
  have HCAP : Hid (CapC (w.heap.size + 1 + 1 + 1 + 1) (w.heap.size + 1 + 1) (w.heap.size + 1) (w.heap.size + 1 + 1 + 1 + 1 + 1) ((((((w.alloc (.cells #[.int .i64 (l : Int), .int .i64 (k : Int)] 64)).alloc (.cells #[.func (.func 39) #[] #[]] 66)).alloc (.cells #[.func (.func 40) #[] #[]] 67)).alloc (.cells #[.int .i64 0, .slice none 0 0, .slice none 0 0] 38)).alloc (.cells #[.int .i64 0] 3)).alloc (.cells #[.func (.func 61) #[] #[.pointer (some ⟨w.heap.size + 1 + 1 + 1 + 1, 0, none⟩), .pointer (some ⟨w.heap.size + 1 + 1, 0, none⟩), .pointer (some ⟨w.heap.size + 1, 0, none⟩), .pointer (some ⟨w.heap.size + 1 + 1 + 1 + 1 + 1, 0, none⟩)]] 98))) := Lib.hid ⟨B3.out, B2.out, B6.out, by omega, by omega, by omega⟩
  have HC := Lib.hid (fun X h1 h2 => buildC_any k hk hk2 l hl 0 1 (w.heap.size + 1 + 1 + 1 + 1) (w.heap.size + 1 + 1) (w.heap.size + 1) (w.heap.size + 1 + 1 + 1 + 1 + 1) X (by omega) (by omega) h1 h2)
  clear hold HBB HFN esz
  cases hb : bldC k l 1 0 with
  | error x =>
    unfold BuildRet
    simp only
    go_enter Tryd.func38, Tryd.ntmps38
    go_upto_region 4 with fail
    generalize ((((((w.alloc (.cells #[.int .i64 (l : Int), .int .i64 (k : Int)] 64)).alloc (.cells #[.func (.func 39) #[] #[]] 66)).alloc (.cells #[.func (.func 40) #[] #[]] 67)).alloc (.cells #[.int .i64 0, .slice none 0 0, .slice none 0 0] 38)).alloc (.cells #[.int .i64 0] 3)).alloc (.cells #[.func (.func 61) #[] #[.pointer (some ⟨w.heap.size + 1 + 1 + 1 + 1, 0, none⟩), .pointer (some ⟨w.heap.size + 1 + 1, 0, none⟩), .pointer (some ⟨w.heap.size + 1, 0, none⟩), .pointer (some ⟨w.heap.size + 1 + 1 + 1 + 1 + 1, 0, none⟩)]] 98)) = X at *
    obtain ⟨a0, a1⟩ := cell2c B1.out
    have f0 := cell_of_one B6.out
    have z1 := lt_of_block B1.out
    have z6 := lt_of_block B6.out
    go_wp2_with fail
    refine (HC.out X HCAP.out B5.out).mono ?_
    rw [hb]
    rintro e w4 ⟨hg4, rfl⟩
    have hz4 := hg4.size
    have HB4 : Hid (Below w.heap.size w w4) := Lib.hid ⟨hg4.os.trans HBX.out.os, hg4.tape.trans HBX.out.tape, hg4.output.trans HBX.out.output, Nat.le_trans HBX.out.size hz4, fun i hi => (hg4.block i (by omega) (fun e => by cases e; omega)).trans (HBX.out.block i hi)⟩
    have Z4 := Lib.hid ((hg4.block _ (lt_of_block B4.out) (fun e => by have e' := Option.some.inj e; omega)).trans B4.out)
    clear hg4 a0 a1 f0
    obtain ⟨r0, r1, r2⟩ := cell3 Z4.out
    have q0 := free3 Z4.out 0
    have q1 := free3 Z4.out 1
    have q2 := free3 Z4.out 2
    have qz := lt_of_block Z4.out
    go_wp2
    refine bodyPost_ret (v := .tuple #[.agg #[.int .i64 0, .slice none 0 0, .slice none 0 0], .int .i64 x]) (by simp [results, Tryd.results38, go_sem, r0, r1, r2]) rfl ?_
    have hbl : Below w.heap.size w (((w4.setCell ⟨w.heap.size + 1 + 1 + 1, 0, none⟩ (.int .i64 0)).setCell ⟨w.heap.size + 1 + 1 + 1, 1, none⟩ (.slice none 0 0)).setCell ⟨w.heap.size + 1 + 1 + 1, 2, none⟩ (.slice none 0 0)) := ((HB4.out.setCell (by show w.heap.size ≤ w.heap.size + 1 + 1 + 1; omega) _).setCell (by show w.heap.size ≤ w.heap.size + 1 + 1 + 1; omega) _).setCell (by show w.heap.size ≤ w.heap.size + 1 + 1 + 1; omega) _
    exact ⟨hbl, rfl⟩
  | ok p =>
    obtain ⟨t, n⟩ := p
    unfold BuildRet
    simp only
    go_enter Tryd.func38, Tryd.ntmps38
    go_upto_region 4 with fail
    generalize ((((((w.alloc (.cells #[.int .i64 (l : Int), .int .i64 (k : Int)] 64)).alloc (.cells #[.func (.func 39) #[] #[]] 66)).alloc (.cells #[.func (.func 40) #[] #[]] 67)).alloc (.cells #[.int .i64 0, .slice none 0 0, .slice none 0 0] 38)).alloc (.cells #[.int .i64 0] 3)).alloc (.cells #[.func (.func 61) #[] #[.pointer (some ⟨w.heap.size + 1 + 1 + 1 + 1, 0, none⟩), .pointer (some ⟨w.heap.size + 1 + 1, 0, none⟩), .pointer (some ⟨w.heap.size + 1, 0, none⟩), .pointer (some ⟨w.heap.size + 1 + 1 + 1 + 1 + 1, 0, none⟩)]] 98)) = X at *
    obtain ⟨a0, a1⟩ := cell2c B1.out
    have f0 := cell_of_one B6.out
    have z1 := lt_of_block B1.out
    have z6 := lt_of_block B6.out
    go_wp2_with fail
    refine (HC.out X HCAP.out B5.out).mono ?_
    rw [hb]
    rintro e w4 ⟨hg4, s4, A4, m4, c4, K4, k4, d4, rfl, _, hT4⟩
    have hz4 := hg4.size
    have HB4 : Hid (Below w.heap.size w w4) := Lib.hid ⟨hg4.os.trans HBX.out.os, hg4.tape.trans HBX.out.tape, hg4.output.trans HBX.out.output, Nat.le_trans HBX.out.size hz4, fun i hi => (hg4.block i (by omega) (fun e => by cases e; omega)).trans (HBX.out.block i hi)⟩
    have Z4 := Lib.hid ((hg4.block _ (lt_of_block B4.out) (fun e => by have e' := Option.some.inj e; omega)).trans B4.out)
    have HT4 := Lib.hid hT4
    clear hg4 a0 a1 f0
    obtain ⟨r0, r1, r2⟩ := cell3 Z4.out
    have q0 := free3 Z4.out 0
    have q1 := free3 Z4.out 1
    have q2 := free3 Z4.out 2
    have qz := lt_of_block Z4.out
    go_wp2
    refine bodyPost_ret (v := .tuple #[.agg #[.int .i64 s4, .slice A4 m4 c4, .slice K4 k4 d4], .int .i64 0]) (by simp [results, Tryd.results38, go_sem, r0, r1, r2]) rfl ?_
    have hbl : Below w.heap.size w (((w4.setCell ⟨w.heap.size + 1 + 1 + 1, 0, none⟩ (.int .i64 s4)).setCell ⟨w.heap.size + 1 + 1 + 1, 1, none⟩ (.slice A4 m4 c4)).setCell ⟨w.heap.size + 1 + 1 + 1, 2, none⟩ (.slice K4 k4 d4)) := ((HB4.out.setCell (by show w.heap.size ≤ w.heap.size + 1 + 1 + 1; omega) _).setCell (by show w.heap.size ≤ w.heap.size + 1 + 1 + 1; omega) _).setCell (by show w.heap.size ≤ w.heap.size + 1 + 1 + 1; omega) _
    refine ⟨hbl, _, _, _, _, _, _, _, rfl, ?_⟩
    exact TreeIn.stays (fun g hg _ => three_far _ _ _ _ _ _ (by omega)) (fun g hg _ => by omega) _ _ HT4.out
end Go.Proofs.YtjjohllfidmkjaaDoor.PfW
