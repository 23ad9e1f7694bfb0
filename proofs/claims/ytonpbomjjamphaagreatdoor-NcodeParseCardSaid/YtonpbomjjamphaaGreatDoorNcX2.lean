/- Walks: the reference's reader of a line. Conditions: the line has at most a million bytes. -/
import Derived.Test.YtonpbomjjamphaaGreatDoorNcX1
import Derived.Test.YtonpbomjjamphaaGreatDoorNcV2
import Derived.Test.YtonpbomjjamphaaGreatDoorNcW5
namespace Go.Proofs.YtonpbomjjamphaaGreatDoor.NcW
open Go Go.RowKit Go.Proofs.YtonpbomjjamphaaGreatDoor.Mem
attribute [local go_sem ↓] Go.wp_at_zero Go.wp_at_succ

/-- The result's block and the move at hand. -/
structure RdAt (w : World) (xb : Nat) (k a b : Int) (W : World) : Prop where
  res : W.heap[w.heap.size]? = some (.cells #[.int .i64 0, .int .i64 0, .int .i64 0] 53 (0, 0))
  mv : W.heap[xb]? = some (.cells #[.int .i64 k, .int .i64 a, .int .i64 b] 53 (0, 0))
  bel : Below w.heap.size w W
  lt : w.heap.size < xb
theorem RdAt.below {w W W' : World} {xb : Nat} {k a b : Int} (h : RdAt w xb k a b W) (hb : Below W.heap.size W W') : RdAt w xb k a b W' :=
  ⟨(hb.block _ (block_lt h.res)).trans h.res, (hb.block _ (block_lt h.mv)).trans h.mv, h.bel.trans (hb.mono h.bel.size), h.lt⟩
theorem RdAt.setx {w W : World} {xb : Nat} {k a b : Int} (h : RdAt w xb k a b W) (x : Int) : RdAt w xb k x b (W.setCell ⟨xb, 1, none⟩ (.int .i64 x)) :=
  ⟨(block_other W xb 1 (.int .i64 x) (by have := h.lt; omega)).trans h.res, block_set h.mv 1 (.int .i64 x), h.bel.setCell (p := ⟨xb, 1, none⟩) (by have := h.lt; simp; omega) _, h.lt⟩
theorem RdAt.sety {w W : World} {xb : Nat} {k a b : Int} (h : RdAt w xb k a b W) (y : Int) : RdAt w xb k a y (W.setCell ⟨xb, 2, none⟩ (.int .i64 y)) :=
  ⟨(block_other W xb 2 (.int .i64 y) (by have := h.lt; omega)).trans h.res, block_set h.mv 2 (.int .i64 y), h.bel.setCell (p := ⟨xb, 2, none⟩) (by have := h.lt; simp; omega) _, h.lt⟩
theorem empty_eq (t : List UInt8) : ((ByteArray.mk t.toArray).toList == (ByteArray.mk #[]).toList) = decide (t = []) := str_eql t []
theorem empty_is (t : List UInt8) : (ByteArray.mk t.toArray).toList.isEmpty = decide (t = []) := by
  rw [Go.ByteArray.toList_eq]
  cases t <;> simp
theorem code_eq {k : Nat} (h : 1 ≤ k ∧ k ≤ 6) (w : World) : Calls Tryz.prog 35 #[.int .i64 (k : Int)] w (Returns w (.string ⟨(Nc.code k).toArray⟩)) := code_any k w (by omega)

set_option maxRecDepth 100000 in
set_option maxHeartbeats 8000000 in
theorem rread_any (s : List UInt8) (i : Nat) (w : World) (hs : s.length ≤ 1000000) (hi : i ≤ 100000) :
    Calls Tryz.prog 15 #[.string ⟨s.toArray⟩, .int .i64 (i : Int)] w fun e w' => e = .returned (.tuple #[.agg #[.int .i64 (lnR s i).1.k, .int .i64 (lnR s i).1.x, .int .i64 (lnR s i).1.y], .int .i64 (lnR s i).2]) ∧ Below w.heap.size w w' := by
  have WW1 : IntKind.i64.wrap ((i : Int) + 1) = (i : Int) + 1 := by rw [IntKind.wrap_i64]; omega
  have WW2 : IntKind.i64.wrap (10 * ((i : Int) + 1)) = 10 * ((i : Int) + 1) := by rw [IntKind.wrap_i64]; omega
  have HIT := Lib.hid (fun W => ritoa_any (10 * ((i : Int) + 1)) W (by omega) (by omega))
  have li := itoa_len (10 * ((i : Int) + 1)) (by unfold I64; omega)
  have hnum : ByteArray.mk #[78] ++ ByteArray.mk (Lib.itoa (10 * ((i : Int) + 1))).toArray ++ ByteArray.mk #[32] = ⟨(Nc.number i).toArray⟩ := by
    apply str_eq; simp [Nc.number]
  have HPN := Lib.hid (fun W => prefix_any s (Nc.number i) W)
  rw [← hnum] at HPN
  have hres : lnR s i = if Lib.hasPrefix s (Nc.number i) = true then kindR (s.drop (Nc.number i).length) else bad := rfl
  generalize lnR s i = res at *
  have hul : (s.drop (Nc.number i).length).length ≤ 1000000 := by simp; omega
  generalize s.drop (Nc.number i).length = u at *
  generalize Lib.hasPrefix s (Nc.number i) = hp at *
  rw [← str_size] at li
  generalize (ByteArray.mk (Lib.itoa (10 * ((i : Int) + 1))).toArray) = IB at *
  have m6 : (9223372036854775807 < 1 + IB.size) = False := eq_false (by omega)
  have m7 : (9223372036854775807 < 1 + IB.size + 1) = False := eq_false (by omega)
  have HB0 := Lib.hid ((Below.refl w.heap.size w).alloc (Nat.le_refl _) (.cells #[.int .i64 0, .int .i64 0, .int .i64 0] 53))
  have HR0 := Lib.hid (heap_alloc_new w (.cells #[.int .i64 0, .int .i64 0, .int .i64 0] 53))
  clear hnum li
  have HI := Lib.hid hi
  clear hi
  cases hp
  · simp only [Bool.false_eq_true, if_false] at hres HPN
    have HV := Lib.hid hres
    clear hres hul
    go_enter Tryz.func15, Tryz.ntmps15
    go_wp2_with fail
    generalize w.alloc (.cells #[.int .i64 0, .int .i64 0, .int .i64 0] 53) = W0 at *
    refine (HIT.out _).mono ?_
    rintro e w1 ⟨rfl, hb1⟩
    go_wp2_with fail
    refine (HPN.out _).mono ?_
    rintro e wx ⟨rfl, rfl⟩
    have HR := Lib.hid ((hb1.block _ (block_lt HR0.out)).trans HR0.out)
    have HE := Lib.hid (HB0.out.trans (hb1.mono HB0.out.size))
    clear hb1 HPN HIT HB0 HR0
    go_wp2
    go_loop [8] (fun t => t = .int .i64 1) (fun _ => 0)
    case atStart => rfl
    case round =>
      subst hrel
      have r0 : w1.cell? ⟨w.heap.size, 0, none⟩ = some (.int .i64 0) := by rw [Lib.cell_of_heap HR.out]; rfl
      have r1 : w1.cell? ⟨w.heap.size, 1, none⟩ = some (.int .i64 0) := by rw [Lib.cell_of_heap HR.out]; rfl
      have r2 : w1.cell? ⟨w.heap.size, 2, none⟩ = some (.int .i64 0) := by rw [Lib.cell_of_heap HR.out]; rfl
      have g0 : w1.frozen? ⟨w.heap.size, 0, none⟩ = false := Lib.frozen_of_heap HR.out 0
      have g1 : w1.frozen? ⟨w.heap.size, 1, none⟩ = false := Lib.frozen_of_heap HR.out 1
      have g2 : w1.frozen? ⟨w.heap.size, 2, none⟩ = false := Lib.frozen_of_heap HR.out 2
      have hrz := block_lt HR.out
      go_wp2
      have hR8 := block_set (block_set (block_set HR.out 0 (.int .i64 0)) 1 (.int .i64 0)) 2 (.int .i64 0)
      have hE8 := ((HE.out.setCell (p := ⟨w.heap.size, 0, none⟩) (by simp) (.int .i64 0)).setCell (p := ⟨w.heap.size, 1, none⟩) (by simp) (.int .i64 0)).setCell (p := ⟨w.heap.size, 2, none⟩) (by simp) (.int .i64 0)
      generalize (((w1.setCell ⟨w.heap.size, 0, none⟩ (.int .i64 0)).setCell ⟨w.heap.size, 1, none⟩ (.int .i64 0)).setCell ⟨w.heap.size, 2, none⟩ (.int .i64 0)) = W8 at *
      have s0 : W8.cell? ⟨w.heap.size, 0, none⟩ = some (.int .i64 0) := by rw [Lib.cell_of_heap hR8]; rfl
      have s1 : W8.cell? ⟨w.heap.size, 1, none⟩ = some (.int .i64 0) := by rw [Lib.cell_of_heap hR8]; rfl
      have s2 : W8.cell? ⟨w.heap.size, 2, none⟩ = some (.int .i64 0) := by rw [Lib.cell_of_heap hR8]; rfl
      exact bodyPost_ret (v := .tuple #[.agg #[.int .i64 0, .int .i64 0, .int .i64 0], .int .i64 3]) (by simp [results, Tryz.results15, go_sem, s0, s1, s2]) rfl ⟨by have h := HV.out; subst h; rfl, hE8⟩
  · simp only [if_true] at hres HPN
    have HRES := Lib.hid hres
    clear hres
    have HPC := Lib.hid (fun (k : Nat) W => prefix_any u (Nc.code k) W)
    have HCD := Lib.hid (fun (k : Nat) (h : 1 ≤ k ∧ k ≤ 6) W => code_eq h W)
    go_enter Tryz.func15, Tryz.ntmps15
    go_wp2_with fail
    generalize w.alloc (.cells #[.int .i64 0, .int .i64 0, .int .i64 0] 53) = W0 at *
    refine (HIT.out _).mono ?_
    rintro e w1 ⟨rfl, hb1⟩
    go_wp2_with fail
    refine (HPN.out _).mono ?_
    rintro e wx ⟨rfl, rfl⟩
    have HR := Lib.hid ((hb1.block _ (block_lt HR0.out)).trans HR0.out)
    have HE := Lib.hid (HB0.out.trans (hb1.mono HB0.out.size))
    clear hb1 HPN HIT HB0 HR0
    go_wp2
    go_loop [8] (fun t => ∃ k : Nat, t = .int .i64 (k : Int) ∧ 1 ≤ k ∧ k ≤ 7 ∧ Hid (∀ j : Nat, 1 ≤ j → j < k → Lib.hasPrefix u (Nc.code j) = false)) (fun t => 7 - (intOf t).toNat)
    case atStart => exact ⟨1, rfl, by decide, by decide, Lib.hid (fun j h1 h2 => by omega)⟩
    case round =>
      obtain ⟨k, rfl, hk1, hk2, hno⟩ := hrel
      by_cases hlt : k ≤ 6
      · have HPK := Lib.hid (HPC.out k)
        have HCK := Lib.hid (HCD.out k ⟨hk1, hlt⟩)
        cases hhit : Lib.hasPrefix u (Nc.code k)
        · rw [hhit] at HPK
          have hno2 : Hid (∀ j : Nat, 1 ≤ j → j < k + 1 → Lib.hasPrefix u (Nc.code j) = false) := Lib.hid (fun j h1 h2 => by
            by_cases hj : j = k
            · rw [hj]; exact hhit
            · exact hno.out j h1 (by omega))
          simp only [Bool.false_eq_true, if_false] at HPK
          clear hhit
          generalize (ByteArray.mk (Nc.code k).toArray) = CB at *
          go_wp2_with fail
          refine (HCK.out _).mono ?_
          rintro e wx ⟨rfl, rfl⟩
          go_wp2_with fail
          refine (HPK.out _).mono ?_
          rintro e wx ⟨rfl, rfl⟩
          go_wp2
          go_round
          case rel => exact ⟨k + 1, by go_num, by omega, by omega, hno2⟩
          case measure => simp [intOf]; omega
        · rw [hhit] at HPK
          have hkr := kindR_hit ⟨hk1, hlt⟩ hno.out hhit
          simp only [if_true] at HPK
          rw [Nc.code_len] at HPK
          rw [hkr] at HRES
          have htl : (u.drop 3).length ≤ 1000000 := by simp; omega
          clear hkr hhit hno HPC
          generalize u.drop 3 = t at *
          have HGO := Lib.hid (fun W => goes_any (k : Int) W)
          generalize (ByteArray.mk (Nc.code k).toArray) = CB at *
          cases hm : Nc.moving (k : Int)
          · rw [hm] at HGO
            by_cases ht : t = []
            · subst ht
              have HV : Hid (res = (⟨k, 0, 0⟩, 0)) := Lib.hid (by rw [HRES.out]; unfold oneR; rw [hm]; rfl)
              clear HRES hm
              go_wp2_with fail
              refine (HCK.out _).mono ?_
              rintro e wx ⟨rfl, rfl⟩
              go_wp2_with fail
              refine (HPK.out _).mono ?_
              rintro e wx ⟨rfl, rfl⟩
              go_wp2_with fail
              refine (HGO.out _).mono ?_
              rintro e wx ⟨rfl, rfl⟩
              have r0 : w1.cell? ⟨w.heap.size, 0, none⟩ = some (.int .i64 0) := by rw [Lib.cell_of_heap HR.out]; rfl
              have r1 : w1.cell? ⟨w.heap.size, 1, none⟩ = some (.int .i64 0) := by rw [Lib.cell_of_heap HR.out]; rfl
              have r2 : w1.cell? ⟨w.heap.size, 2, none⟩ = some (.int .i64 0) := by rw [Lib.cell_of_heap HR.out]; rfl
              have g0 : w1.frozen? ⟨w.heap.size, 0, none⟩ = false := Lib.frozen_of_heap HR.out 0
              have g1 : w1.frozen? ⟨w.heap.size, 1, none⟩ = false := Lib.frozen_of_heap HR.out 1
              have g2 : w1.frozen? ⟨w.heap.size, 2, none⟩ = false := Lib.frozen_of_heap HR.out 2
              have hrz := block_lt HR.out
              go_wp2
              have hR8 := block_set (block_set (block_set HR.out 0 (.int .i64 (k : Int))) 1 (.int .i64 0)) 2 (.int .i64 0)
              have hE8 := ((HE.out.setCell (p := ⟨w.heap.size, 0, none⟩) (by simp) (.int .i64 (k : Int))).setCell (p := ⟨w.heap.size, 1, none⟩) (by simp) (.int .i64 0)).setCell (p := ⟨w.heap.size, 2, none⟩) (by simp) (.int .i64 0)
              generalize (((w1.setCell ⟨w.heap.size, 0, none⟩ (.int .i64 (k : Int))).setCell ⟨w.heap.size, 1, none⟩ (.int .i64 0)).setCell ⟨w.heap.size, 2, none⟩ (.int .i64 0)) = W8 at *
              have s0 : W8.cell? ⟨w.heap.size, 0, none⟩ = some (.int .i64 (k : Int)) := by rw [Lib.cell_of_heap hR8]; rfl
              have s1 : W8.cell? ⟨w.heap.size, 1, none⟩ = some (.int .i64 0) := by rw [Lib.cell_of_heap hR8]; rfl
              have s2 : W8.cell? ⟨w.heap.size, 2, none⟩ = some (.int .i64 0) := by rw [Lib.cell_of_heap hR8]; rfl
              exact bodyPost_ret (v := .tuple #[.agg #[.int .i64 (k : Int), .int .i64 0, .int .i64 0], .int .i64 0]) (by simp [results, Tryz.results15, go_sem, s0, s1, s2]) rfl ⟨by have h := HV.out; subst h; rfl, hE8⟩
            · have HV : Hid (res = bad) := Lib.hid (by rw [HRES.out]; unfold oneR; rw [hm, if_neg (by simp), if_neg ht])
              have he1 := empty_eq t
              have he2 := empty_is t
              rw [decide_eq_false ht] at he1 he2
              clear HRES hm ht
              generalize (ByteArray.mk t.toArray) = TB at *
              go_wp2_with fail
              refine (HCK.out _).mono ?_
              rintro e wx ⟨rfl, rfl⟩
              go_wp2_with fail
              refine (HPK.out _).mono ?_
              rintro e wx ⟨rfl, rfl⟩
              go_wp2_with fail
              refine (HGO.out _).mono ?_
              rintro e wx ⟨rfl, rfl⟩
              have r0 : w1.cell? ⟨w.heap.size, 0, none⟩ = some (.int .i64 0) := by rw [Lib.cell_of_heap HR.out]; rfl
              have r1 : w1.cell? ⟨w.heap.size, 1, none⟩ = some (.int .i64 0) := by rw [Lib.cell_of_heap HR.out]; rfl
              have r2 : w1.cell? ⟨w.heap.size, 2, none⟩ = some (.int .i64 0) := by rw [Lib.cell_of_heap HR.out]; rfl
              have g0 : w1.frozen? ⟨w.heap.size, 0, none⟩ = false := Lib.frozen_of_heap HR.out 0
              have g1 : w1.frozen? ⟨w.heap.size, 1, none⟩ = false := Lib.frozen_of_heap HR.out 1
              have g2 : w1.frozen? ⟨w.heap.size, 2, none⟩ = false := Lib.frozen_of_heap HR.out 2
              have hrz := block_lt HR.out
              go_wp2
              have hR8 := block_set (block_set (block_set HR.out 0 (.int .i64 0)) 1 (.int .i64 0)) 2 (.int .i64 0)
              have hE8 := ((HE.out.setCell (p := ⟨w.heap.size, 0, none⟩) (by simp) (.int .i64 0)).setCell (p := ⟨w.heap.size, 1, none⟩) (by simp) (.int .i64 0)).setCell (p := ⟨w.heap.size, 2, none⟩) (by simp) (.int .i64 0)
              generalize (((w1.setCell ⟨w.heap.size, 0, none⟩ (.int .i64 0)).setCell ⟨w.heap.size, 1, none⟩ (.int .i64 0)).setCell ⟨w.heap.size, 2, none⟩ (.int .i64 0)) = W8 at *
              have s0 : W8.cell? ⟨w.heap.size, 0, none⟩ = some (.int .i64 0) := by rw [Lib.cell_of_heap hR8]; rfl
              have s1 : W8.cell? ⟨w.heap.size, 1, none⟩ = some (.int .i64 0) := by rw [Lib.cell_of_heap hR8]; rfl
              have s2 : W8.cell? ⟨w.heap.size, 2, none⟩ = some (.int .i64 0) := by rw [Lib.cell_of_heap hR8]; rfl
              exact bodyPost_ret (v := .tuple #[.agg #[.int .i64 0, .int .i64 0, .int .i64 0], .int .i64 3]) (by simp [results, Tryz.results15, go_sem, s0, s1, s2]) rfl ⟨by have h := HV.out; subst h; rfl, hE8⟩
          · rw [hm] at HGO
            have HM := Lib.hid hm
            have HX := Lib.hid (show res = xR k t by rw [HRES.out]; unfold oneR; rw [if_pos hm])
            clear HRES hm
            have HPX := Lib.hid (fun W => prefix_any t [32, 88] W)
            have hrz := block_lt HR.out
            have HA := Lib.hid (show RdAt w w1.heap.size k 0 0 (w1.alloc (.cells #[.int .i64 (k : Int), .int .i64 0, .int .i64 0] 53)) from ⟨block_old HR.out, heap_alloc_new w1 _, HE.out.alloc HE.out.size _, hrz⟩)
            go_wp2_with fail
            refine (HCK.out _).mono ?_
            rintro e wx ⟨rfl, rfl⟩
            go_wp2_with fail
            refine (HPK.out _).mono ?_
            rintro e wx ⟨rfl, rfl⟩
            go_wp2_with fail
            refine (HGO.out _).mono ?_
            rintro e wx ⟨rfl, rfl⟩
            go_wp2_with fail
            generalize w1.alloc (.cells #[.int .i64 (k : Int), .int .i64 0, .int .i64 0] 53) = W1 at *
            generalize hxb : w1.heap.size = xb at *
            have HXB := Lib.hid hxb
            clear hxb HR HE hrz HPK HCK HGO
            refine (HPX.out _).mono ?_
            rintro e wx ⟨rfl, rfl⟩
            unfold xR at HX
            cases h1 : Lib.hasPrefix t [32, 88]
            · rw [if_pos h1] at HX
              have HR := Lib.hid HA.out.res
              have HE := Lib.hid HA.out.bel
              have HV := HX
              clear HA HX
              have r0 : W1.cell? ⟨w.heap.size, 0, none⟩ = some (.int .i64 0) := by rw [Lib.cell_of_heap HR.out]; rfl
              have r1 : W1.cell? ⟨w.heap.size, 1, none⟩ = some (.int .i64 0) := by rw [Lib.cell_of_heap HR.out]; rfl
              have r2 : W1.cell? ⟨w.heap.size, 2, none⟩ = some (.int .i64 0) := by rw [Lib.cell_of_heap HR.out]; rfl
              have g0 : W1.frozen? ⟨w.heap.size, 0, none⟩ = false := Lib.frozen_of_heap HR.out 0
              have g1 : W1.frozen? ⟨w.heap.size, 1, none⟩ = false := Lib.frozen_of_heap HR.out 1
              have g2 : W1.frozen? ⟨w.heap.size, 2, none⟩ = false := Lib.frozen_of_heap HR.out 2
              have hrz := block_lt HR.out
              go_wp2
              have hR8 := block_set (block_set (block_set HR.out 0 (.int .i64 0)) 1 (.int .i64 0)) 2 (.int .i64 0)
              have hE8 := ((HE.out.setCell (p := ⟨w.heap.size, 0, none⟩) (by simp) (.int .i64 0)).setCell (p := ⟨w.heap.size, 1, none⟩) (by simp) (.int .i64 0)).setCell (p := ⟨w.heap.size, 2, none⟩) (by simp) (.int .i64 0)
              generalize (((W1.setCell ⟨w.heap.size, 0, none⟩ (.int .i64 0)).setCell ⟨w.heap.size, 1, none⟩ (.int .i64 0)).setCell ⟨w.heap.size, 2, none⟩ (.int .i64 0)) = W8 at *
              have s0 : W8.cell? ⟨w.heap.size, 0, none⟩ = some (.int .i64 0) := by rw [Lib.cell_of_heap hR8]; rfl
              have s1 : W8.cell? ⟨w.heap.size, 1, none⟩ = some (.int .i64 0) := by rw [Lib.cell_of_heap hR8]; rfl
              have s2 : W8.cell? ⟨w.heap.size, 2, none⟩ = some (.int .i64 0) := by rw [Lib.cell_of_heap hR8]; rfl
              exact bodyPost_ret (v := .tuple #[.agg #[.int .i64 0, .int .i64 0, .int .i64 0], .int .i64 3]) (by simp [results, Tryz.results15, go_sem, s0, s1, s2]) rfl ⟨by have h := HV.out; subst h; rfl, hE8⟩
            · rw [if_neg (by rw [h1]; simp)] at HX
              have htl2 : (t.drop 2).length ≤ 1000000 := by simp; omega
              have HN1 := Lib.hid (fun W => rnumber_any (t.drop 2) W htl2)
              have htl3 : ((t.drop 2).drop (span (t.drop 2)).length).length ≤ 1000000 := by simp; omega
              simp only [if_true, List.length_cons, List.length_nil, Nat.zero_add, Nat.reduceAdd]
              clear htl h1 HPX
              generalize t.drop 2 = t1 at *
              cases h2 : canon (span t1)
              · rw [if_pos h2] at HX
                rw [h2] at HN1
                simp only [Bool.false_eq_true, if_false] at HN1
                have HV := HX
                clear h2 HX htl3
                go_wp2_with fail
                refine (HN1.out _).mono ?_
                rintro e w2 ⟨rfl, hbn⟩
                have HA2 := Lib.hid (HA.out.below hbn)
                have cn : w2.cell? ⟨xb, 1, none⟩ = some (.int .i64 0) := by rw [Lib.cell_of_heap HA2.out.mv]; rfl
                have fn : w2.frozen? ⟨xb, 1, none⟩ = false := Lib.frozen_of_heap HA2.out.mv 1
                have hxn := block_lt HA2.out.mv
                go_upto_region 16 with (fail)
                have HA3 := Lib.hid (HA2.out.setx 0)
                generalize w2.setCell ⟨xb, 1, none⟩ (.int .i64 0) = W3 at *
                clear hbn cn fn hxn HA2 HA HN1
                have HR := Lib.hid HA3.out.res
                have HE := Lib.hid HA3.out.bel
                have r0 : W3.cell? ⟨w.heap.size, 0, none⟩ = some (.int .i64 0) := by rw [Lib.cell_of_heap HR.out]; rfl
                have r1 : W3.cell? ⟨w.heap.size, 1, none⟩ = some (.int .i64 0) := by rw [Lib.cell_of_heap HR.out]; rfl
                have r2 : W3.cell? ⟨w.heap.size, 2, none⟩ = some (.int .i64 0) := by rw [Lib.cell_of_heap HR.out]; rfl
                have g0 : W3.frozen? ⟨w.heap.size, 0, none⟩ = false := Lib.frozen_of_heap HR.out 0
                have g1 : W3.frozen? ⟨w.heap.size, 1, none⟩ = false := Lib.frozen_of_heap HR.out 1
                have g2 : W3.frozen? ⟨w.heap.size, 2, none⟩ = false := Lib.frozen_of_heap HR.out 2
                have hrz := block_lt HR.out
                go_wp2
                have hR8 := block_set (block_set (block_set HR.out 0 (.int .i64 0)) 1 (.int .i64 0)) 2 (.int .i64 0)
                have hE8 := ((HE.out.setCell (p := ⟨w.heap.size, 0, none⟩) (by simp) (.int .i64 0)).setCell (p := ⟨w.heap.size, 1, none⟩) (by simp) (.int .i64 0)).setCell (p := ⟨w.heap.size, 2, none⟩) (by simp) (.int .i64 0)
                generalize (((W3.setCell ⟨w.heap.size, 0, none⟩ (.int .i64 0)).setCell ⟨w.heap.size, 1, none⟩ (.int .i64 0)).setCell ⟨w.heap.size, 2, none⟩ (.int .i64 0)) = W8 at *
                have s0 : W8.cell? ⟨w.heap.size, 0, none⟩ = some (.int .i64 0) := by rw [Lib.cell_of_heap hR8]; rfl
                have s1 : W8.cell? ⟨w.heap.size, 1, none⟩ = some (.int .i64 0) := by rw [Lib.cell_of_heap hR8]; rfl
                have s2 : W8.cell? ⟨w.heap.size, 2, none⟩ = some (.int .i64 0) := by rw [Lib.cell_of_heap hR8]; rfl
                exact bodyPost_ret (v := .tuple #[.agg #[.int .i64 0, .int .i64 0, .int .i64 0], .int .i64 3]) (by simp [results, Tryz.results15, go_sem, s0, s1, s2]) rfl ⟨by have h := HV.out; subst h; rfl, hE8⟩
              · rw [if_neg (by rw [h2]; simp)] at HX
                rw [h2] at HN1
                simp only [if_true] at HN1
                generalize t1.drop (span t1).length = t2 at *
                generalize span t1 = a at *
                have HPY := Lib.hid (fun W => prefix_any t2 [32, 89] W)
                clear h2 htl2
                go_wp2_with fail
                refine (HN1.out _).mono ?_
                rintro e w2 ⟨rfl, hbn⟩
                have HA2 := Lib.hid (HA.out.below hbn)
                have cn : w2.cell? ⟨xb, 1, none⟩ = some (.int .i64 0) := by rw [Lib.cell_of_heap HA2.out.mv]; rfl
                have fn : w2.frozen? ⟨xb, 1, none⟩ = false := Lib.frozen_of_heap HA2.out.mv 1
                have hxn := block_lt HA2.out.mv
                go_upto_region 16 with (fail)
                have HA3 := Lib.hid (HA2.out.setx (cval a))
                generalize w2.setCell ⟨xb, 1, none⟩ (.int .i64 (cval a)) = W3 at *
                clear hbn cn fn hxn HA2 HA HN1
                go_wp2_with fail
                refine (HPY.out _).mono ?_
                rintro e wx ⟨rfl, rfl⟩
                unfold yR at HX
                cases h3 : Lib.hasPrefix t2 [32, 89]
                · rw [if_pos h3] at HX
                  have HR := Lib.hid HA3.out.res
                  have HE := Lib.hid HA3.out.bel
                  have HV := HX
                  clear HX htl3
                  have r0 : W3.cell? ⟨w.heap.size, 0, none⟩ = some (.int .i64 0) := by rw [Lib.cell_of_heap HR.out]; rfl
                  have r1 : W3.cell? ⟨w.heap.size, 1, none⟩ = some (.int .i64 0) := by rw [Lib.cell_of_heap HR.out]; rfl
                  have r2 : W3.cell? ⟨w.heap.size, 2, none⟩ = some (.int .i64 0) := by rw [Lib.cell_of_heap HR.out]; rfl
                  have g0 : W3.frozen? ⟨w.heap.size, 0, none⟩ = false := Lib.frozen_of_heap HR.out 0
                  have g1 : W3.frozen? ⟨w.heap.size, 1, none⟩ = false := Lib.frozen_of_heap HR.out 1
                  have g2 : W3.frozen? ⟨w.heap.size, 2, none⟩ = false := Lib.frozen_of_heap HR.out 2
                  have hrz := block_lt HR.out
                  go_wp2
                  have hR8 := block_set (block_set (block_set HR.out 0 (.int .i64 0)) 1 (.int .i64 0)) 2 (.int .i64 0)
                  have hE8 := ((HE.out.setCell (p := ⟨w.heap.size, 0, none⟩) (by simp) (.int .i64 0)).setCell (p := ⟨w.heap.size, 1, none⟩) (by simp) (.int .i64 0)).setCell (p := ⟨w.heap.size, 2, none⟩) (by simp) (.int .i64 0)
                  generalize (((W3.setCell ⟨w.heap.size, 0, none⟩ (.int .i64 0)).setCell ⟨w.heap.size, 1, none⟩ (.int .i64 0)).setCell ⟨w.heap.size, 2, none⟩ (.int .i64 0)) = W8 at *
                  have s0 : W8.cell? ⟨w.heap.size, 0, none⟩ = some (.int .i64 0) := by rw [Lib.cell_of_heap hR8]; rfl
                  have s1 : W8.cell? ⟨w.heap.size, 1, none⟩ = some (.int .i64 0) := by rw [Lib.cell_of_heap hR8]; rfl
                  have s2 : W8.cell? ⟨w.heap.size, 2, none⟩ = some (.int .i64 0) := by rw [Lib.cell_of_heap hR8]; rfl
                  exact bodyPost_ret (v := .tuple #[.agg #[.int .i64 0, .int .i64 0, .int .i64 0], .int .i64 3]) (by simp [results, Tryz.results15, go_sem, s0, s1, s2]) rfl ⟨by have h := HV.out; subst h; rfl, hE8⟩
                · rw [if_neg (by rw [h3]; simp)] at HX
                  have htl4 : (t2.drop 2).length ≤ 1000000 := by simp; omega
                  have HN2 := Lib.hid (fun W => rnumber_any (t2.drop 2) W htl4)
                  simp only [if_true, List.length_cons, List.length_nil, Nat.zero_add, Nat.reduceAdd]
                  clear h3 HPY htl3
                  generalize t2.drop 2 = t3 at *
                  cases h4 : canon (span t3)
                  · rw [if_pos h4] at HX
                    rw [h4] at HN2
                    simp only [Bool.false_eq_true, if_false] at HN2
                    have HV := HX
                    clear h4 HX htl4
                    go_wp2_with fail
                    refine (HN2.out _).mono ?_
                    rintro e w5 ⟨rfl, hbn⟩
                    have HA5 := Lib.hid (HA3.out.below hbn)
                    have cn : w5.cell? ⟨xb, 2, none⟩ = some (.int .i64 0) := by rw [Lib.cell_of_heap HA5.out.mv]; rfl
                    have fn : w5.frozen? ⟨xb, 2, none⟩ = false := Lib.frozen_of_heap HA5.out.mv 2
                    have hxn := block_lt HA5.out.mv
                    go_upto_region 22 with (fail)
                    have HA6 := Lib.hid (HA5.out.sety 0)
                    generalize w5.setCell ⟨xb, 2, none⟩ (.int .i64 0) = W6 at *
                    clear hbn cn fn hxn HA5 HA3 HN2
                    have HR := Lib.hid HA6.out.res
                    have HE := Lib.hid HA6.out.bel
                    have r0 : W6.cell? ⟨w.heap.size, 0, none⟩ = some (.int .i64 0) := by rw [Lib.cell_of_heap HR.out]; rfl
                    have r1 : W6.cell? ⟨w.heap.size, 1, none⟩ = some (.int .i64 0) := by rw [Lib.cell_of_heap HR.out]; rfl
                    have r2 : W6.cell? ⟨w.heap.size, 2, none⟩ = some (.int .i64 0) := by rw [Lib.cell_of_heap HR.out]; rfl
                    have g0 : W6.frozen? ⟨w.heap.size, 0, none⟩ = false := Lib.frozen_of_heap HR.out 0
                    have g1 : W6.frozen? ⟨w.heap.size, 1, none⟩ = false := Lib.frozen_of_heap HR.out 1
                    have g2 : W6.frozen? ⟨w.heap.size, 2, none⟩ = false := Lib.frozen_of_heap HR.out 2
                    have hrz := block_lt HR.out
                    go_wp2
                    have hR8 := block_set (block_set (block_set HR.out 0 (.int .i64 0)) 1 (.int .i64 0)) 2 (.int .i64 0)
                    have hE8 := ((HE.out.setCell (p := ⟨w.heap.size, 0, none⟩) (by simp) (.int .i64 0)).setCell (p := ⟨w.heap.size, 1, none⟩) (by simp) (.int .i64 0)).setCell (p := ⟨w.heap.size, 2, none⟩) (by simp) (.int .i64 0)
                    generalize (((W6.setCell ⟨w.heap.size, 0, none⟩ (.int .i64 0)).setCell ⟨w.heap.size, 1, none⟩ (.int .i64 0)).setCell ⟨w.heap.size, 2, none⟩ (.int .i64 0)) = W8 at *
                    have s0 : W8.cell? ⟨w.heap.size, 0, none⟩ = some (.int .i64 0) := by rw [Lib.cell_of_heap hR8]; rfl
                    have s1 : W8.cell? ⟨w.heap.size, 1, none⟩ = some (.int .i64 0) := by rw [Lib.cell_of_heap hR8]; rfl
                    have s2 : W8.cell? ⟨w.heap.size, 2, none⟩ = some (.int .i64 0) := by rw [Lib.cell_of_heap hR8]; rfl
                    exact bodyPost_ret (v := .tuple #[.agg #[.int .i64 0, .int .i64 0, .int .i64 0], .int .i64 3]) (by simp [results, Tryz.results15, go_sem, s0, s1, s2]) rfl ⟨by have h := HV.out; subst h; rfl, hE8⟩
                  · rw [if_neg (by rw [h4]; simp)] at HX
                    rw [h4] at HN2
                    simp only [if_true] at HN2
                    generalize t3.drop (span t3).length = t4 at *
                    generalize span t3 = b at *
                    clear h4 htl4
                    by_cases h5 : t4 = []
                    · rw [if_neg (by rw [h5]; simp)] at HX
                      subst h5
                      have hok : Nc.ok ⟨(k : Int), cval a, cval b⟩ = Nc.within (cval a) (cval b) 2000 := by
                        unfold Nc.ok
                        simp only
                        rw [if_pos HM.out]
                      unfold both at HX
                      rw [hok] at HX
                      clear hok
                      have HW := Lib.hid (fun W => rwithin_any (cval a) (cval b) 2000 (by decide) W)
                      generalize Nc.within (cval a) (cval b) 2000 = wi at *
                      generalize cval a = v1 at *
                      generalize cval b = v2 at *
                      go_wp2_with fail
                      refine (HN2.out _).mono ?_
                      rintro e w5 ⟨rfl, hbn⟩
                      have HA5 := Lib.hid (HA3.out.below hbn)
                      have cn : w5.cell? ⟨xb, 2, none⟩ = some (.int .i64 0) := by rw [Lib.cell_of_heap HA5.out.mv]; rfl
                      have fn : w5.frozen? ⟨xb, 2, none⟩ = false := Lib.frozen_of_heap HA5.out.mv 2
                      have hxn := block_lt HA5.out.mv
                      go_upto_region 22 with (fail)
                      have HA6 := Lib.hid (HA5.out.sety v2)
                      generalize w5.setCell ⟨xb, 2, none⟩ (.int .i64 v2) = W6 at *
                      clear hbn cn fn hxn HA5 HA3 HN2
                      have x1 : W6.cell? ⟨xb, 1, none⟩ = some (.int .i64 v1) := by rw [Lib.cell_of_heap HA6.out.mv]; rfl
                      have x2 : W6.cell? ⟨xb, 2, none⟩ = some (.int .i64 v2) := by rw [Lib.cell_of_heap HA6.out.mv]; rfl
                      have hxz := block_lt HA6.out.mv
                      go_wp2_with fail
                      refine (HW.out _).mono ?_
                      rintro e w7 ⟨rfl, hb7⟩
                      have HA7 := Lib.hid (HA6.out.below hb7)
                      have HR := Lib.hid HA7.out.res
                      have HE := Lib.hid HA7.out.bel
                      clear hb7 HA6 x1 x2 hxz
                      cases wi
                      · have HV := HX
                        simp only [Bool.false_eq_true, if_false] at HV
                        clear HX
                        have r0 : w7.cell? ⟨w.heap.size, 0, none⟩ = some (.int .i64 0) := by rw [Lib.cell_of_heap HR.out]; rfl
                        have r1 : w7.cell? ⟨w.heap.size, 1, none⟩ = some (.int .i64 0) := by rw [Lib.cell_of_heap HR.out]; rfl
                        have r2 : w7.cell? ⟨w.heap.size, 2, none⟩ = some (.int .i64 0) := by rw [Lib.cell_of_heap HR.out]; rfl
                        have g0 : w7.frozen? ⟨w.heap.size, 0, none⟩ = false := Lib.frozen_of_heap HR.out 0
                        have g1 : w7.frozen? ⟨w.heap.size, 1, none⟩ = false := Lib.frozen_of_heap HR.out 1
                        have g2 : w7.frozen? ⟨w.heap.size, 2, none⟩ = false := Lib.frozen_of_heap HR.out 2
                        have hrz := block_lt HR.out
                        go_wp2
                        have hR8 := block_set (block_set (block_set HR.out 0 (.int .i64 0)) 1 (.int .i64 0)) 2 (.int .i64 0)
                        have hE8 := ((HE.out.setCell (p := ⟨w.heap.size, 0, none⟩) (by simp) (.int .i64 0)).setCell (p := ⟨w.heap.size, 1, none⟩) (by simp) (.int .i64 0)).setCell (p := ⟨w.heap.size, 2, none⟩) (by simp) (.int .i64 0)
                        generalize (((w7.setCell ⟨w.heap.size, 0, none⟩ (.int .i64 0)).setCell ⟨w.heap.size, 1, none⟩ (.int .i64 0)).setCell ⟨w.heap.size, 2, none⟩ (.int .i64 0)) = W8 at *
                        have s0 : W8.cell? ⟨w.heap.size, 0, none⟩ = some (.int .i64 0) := by rw [Lib.cell_of_heap hR8]; rfl
                        have s1 : W8.cell? ⟨w.heap.size, 1, none⟩ = some (.int .i64 0) := by rw [Lib.cell_of_heap hR8]; rfl
                        have s2 : W8.cell? ⟨w.heap.size, 2, none⟩ = some (.int .i64 0) := by rw [Lib.cell_of_heap hR8]; rfl
                        exact bodyPost_ret (v := .tuple #[.agg #[.int .i64 0, .int .i64 0, .int .i64 0], .int .i64 2]) (by simp [results, Tryz.results15, go_sem, s0, s1, s2]) rfl ⟨by have h := HV.out; subst h; rfl, hE8⟩
                      · have HV := HX
                        simp only [if_true] at HV
                        clear HX
                        have x0 : w7.cell? ⟨xb, 0, none⟩ = some (.int .i64 (k : Int)) := by rw [Lib.cell_of_heap HA7.out.mv]; rfl
                        have x1 : w7.cell? ⟨xb, 1, none⟩ = some (.int .i64 v1) := by rw [Lib.cell_of_heap HA7.out.mv]; rfl
                        have x2 : w7.cell? ⟨xb, 2, none⟩ = some (.int .i64 v2) := by rw [Lib.cell_of_heap HA7.out.mv]; rfl
                        have hxz := block_lt HA7.out.mv
                        have hne : xb ≠ w.heap.size := by have := HA7.out.lt; omega
                        have r0 : w7.cell? ⟨w.heap.size, 0, none⟩ = some (.int .i64 0) := by rw [Lib.cell_of_heap HR.out]; rfl
                        have r1 : w7.cell? ⟨w.heap.size, 1, none⟩ = some (.int .i64 0) := by rw [Lib.cell_of_heap HR.out]; rfl
                        have r2 : w7.cell? ⟨w.heap.size, 2, none⟩ = some (.int .i64 0) := by rw [Lib.cell_of_heap HR.out]; rfl
                        have g0 : w7.frozen? ⟨w.heap.size, 0, none⟩ = false := Lib.frozen_of_heap HR.out 0
                        have g1 : w7.frozen? ⟨w.heap.size, 1, none⟩ = false := Lib.frozen_of_heap HR.out 1
                        have g2 : w7.frozen? ⟨w.heap.size, 2, none⟩ = false := Lib.frozen_of_heap HR.out 2
                        have hrz := block_lt HR.out
                        go_wp2
                        have hR8 := block_set (block_set (block_set HR.out 0 (.int .i64 (k : Int))) 1 (.int .i64 v1)) 2 (.int .i64 v2)
                        have hE8 := ((HE.out.setCell (p := ⟨w.heap.size, 0, none⟩) (by simp) (.int .i64 (k : Int))).setCell (p := ⟨w.heap.size, 1, none⟩) (by simp) (.int .i64 v1)).setCell (p := ⟨w.heap.size, 2, none⟩) (by simp) (.int .i64 v2)
                        generalize (((w7.setCell ⟨w.heap.size, 0, none⟩ (.int .i64 (k : Int))).setCell ⟨w.heap.size, 1, none⟩ (.int .i64 v1)).setCell ⟨w.heap.size, 2, none⟩ (.int .i64 v2)) = W8 at *
                        have s0 : W8.cell? ⟨w.heap.size, 0, none⟩ = some (.int .i64 (k : Int)) := by rw [Lib.cell_of_heap hR8]; rfl
                        have s1 : W8.cell? ⟨w.heap.size, 1, none⟩ = some (.int .i64 v1) := by rw [Lib.cell_of_heap hR8]; rfl
                        have s2 : W8.cell? ⟨w.heap.size, 2, none⟩ = some (.int .i64 v2) := by rw [Lib.cell_of_heap hR8]; rfl
                        exact bodyPost_ret (v := .tuple #[.agg #[.int .i64 (k : Int), .int .i64 v1, .int .i64 v2], .int .i64 0]) (by simp [results, Tryz.results15, go_sem, s0, s1, s2]) rfl ⟨by have h := HV.out; subst h; rfl, hE8⟩
                    · rw [if_pos h5] at HX
                      have he1 := empty_eq t4
                      have he2 := empty_is t4
                      rw [decide_eq_false h5] at he1 he2
                      have HV := HX
                      clear h5 HX
                      generalize (ByteArray.mk t4.toArray) = TB at *
                      go_wp2_with fail
                      refine (HN2.out _).mono ?_
                      rintro e w5 ⟨rfl, hbn⟩
                      have HA5 := Lib.hid (HA3.out.below hbn)
                      have cn : w5.cell? ⟨xb, 2, none⟩ = some (.int .i64 0) := by rw [Lib.cell_of_heap HA5.out.mv]; rfl
                      have fn : w5.frozen? ⟨xb, 2, none⟩ = false := Lib.frozen_of_heap HA5.out.mv 2
                      have hxn := block_lt HA5.out.mv
                      go_upto_region 22 with (fail)
                      have HA6 := Lib.hid (HA5.out.sety (cval b))
                      generalize w5.setCell ⟨xb, 2, none⟩ (.int .i64 (cval b)) = W6 at *
                      clear hbn cn fn hxn HA5 HA3 HN2
                      have HR := Lib.hid HA6.out.res
                      have HE := Lib.hid HA6.out.bel
                      have r0 : W6.cell? ⟨w.heap.size, 0, none⟩ = some (.int .i64 0) := by rw [Lib.cell_of_heap HR.out]; rfl
                      have r1 : W6.cell? ⟨w.heap.size, 1, none⟩ = some (.int .i64 0) := by rw [Lib.cell_of_heap HR.out]; rfl
                      have r2 : W6.cell? ⟨w.heap.size, 2, none⟩ = some (.int .i64 0) := by rw [Lib.cell_of_heap HR.out]; rfl
                      have g0 : W6.frozen? ⟨w.heap.size, 0, none⟩ = false := Lib.frozen_of_heap HR.out 0
                      have g1 : W6.frozen? ⟨w.heap.size, 1, none⟩ = false := Lib.frozen_of_heap HR.out 1
                      have g2 : W6.frozen? ⟨w.heap.size, 2, none⟩ = false := Lib.frozen_of_heap HR.out 2
                      have hrz := block_lt HR.out
                      go_wp2
                      have hR8 := block_set (block_set (block_set HR.out 0 (.int .i64 0)) 1 (.int .i64 0)) 2 (.int .i64 0)
                      have hE8 := ((HE.out.setCell (p := ⟨w.heap.size, 0, none⟩) (by simp) (.int .i64 0)).setCell (p := ⟨w.heap.size, 1, none⟩) (by simp) (.int .i64 0)).setCell (p := ⟨w.heap.size, 2, none⟩) (by simp) (.int .i64 0)
                      generalize (((W6.setCell ⟨w.heap.size, 0, none⟩ (.int .i64 0)).setCell ⟨w.heap.size, 1, none⟩ (.int .i64 0)).setCell ⟨w.heap.size, 2, none⟩ (.int .i64 0)) = W8 at *
                      have s0 : W8.cell? ⟨w.heap.size, 0, none⟩ = some (.int .i64 0) := by rw [Lib.cell_of_heap hR8]; rfl
                      have s1 : W8.cell? ⟨w.heap.size, 1, none⟩ = some (.int .i64 0) := by rw [Lib.cell_of_heap hR8]; rfl
                      have s2 : W8.cell? ⟨w.heap.size, 2, none⟩ = some (.int .i64 0) := by rw [Lib.cell_of_heap hR8]; rfl
                      exact bodyPost_ret (v := .tuple #[.agg #[.int .i64 0, .int .i64 0, .int .i64 0], .int .i64 3]) (by simp [results, Tryz.results15, go_sem, s0, s1, s2]) rfl ⟨by have h := HV.out; subst h; rfl, hE8⟩
      · obtain rfl : k = 7 := by omega
        have HV := Lib.hid (HRES.out.trans (kindR_none hno.out))
        clear HRES hno HPC HCD
        have r0 : w1.cell? ⟨w.heap.size, 0, none⟩ = some (.int .i64 0) := by rw [Lib.cell_of_heap HR.out]; rfl
        have r1 : w1.cell? ⟨w.heap.size, 1, none⟩ = some (.int .i64 0) := by rw [Lib.cell_of_heap HR.out]; rfl
        have r2 : w1.cell? ⟨w.heap.size, 2, none⟩ = some (.int .i64 0) := by rw [Lib.cell_of_heap HR.out]; rfl
        have g0 : w1.frozen? ⟨w.heap.size, 0, none⟩ = false := Lib.frozen_of_heap HR.out 0
        have g1 : w1.frozen? ⟨w.heap.size, 1, none⟩ = false := Lib.frozen_of_heap HR.out 1
        have g2 : w1.frozen? ⟨w.heap.size, 2, none⟩ = false := Lib.frozen_of_heap HR.out 2
        have hrz := block_lt HR.out
        go_wp2
        have hR8 := block_set (block_set (block_set HR.out 0 (.int .i64 0)) 1 (.int .i64 0)) 2 (.int .i64 0)
        have hE8 := ((HE.out.setCell (p := ⟨w.heap.size, 0, none⟩) (by simp) (.int .i64 0)).setCell (p := ⟨w.heap.size, 1, none⟩) (by simp) (.int .i64 0)).setCell (p := ⟨w.heap.size, 2, none⟩) (by simp) (.int .i64 0)
        generalize (((w1.setCell ⟨w.heap.size, 0, none⟩ (.int .i64 0)).setCell ⟨w.heap.size, 1, none⟩ (.int .i64 0)).setCell ⟨w.heap.size, 2, none⟩ (.int .i64 0)) = W8 at *
        have s0 : W8.cell? ⟨w.heap.size, 0, none⟩ = some (.int .i64 0) := by rw [Lib.cell_of_heap hR8]; rfl
        have s1 : W8.cell? ⟨w.heap.size, 1, none⟩ = some (.int .i64 0) := by rw [Lib.cell_of_heap hR8]; rfl
        have s2 : W8.cell? ⟨w.heap.size, 2, none⟩ = some (.int .i64 0) := by rw [Lib.cell_of_heap hR8]; rfl
        exact bodyPost_ret (v := .tuple #[.agg #[.int .i64 0, .int .i64 0, .int .i64 0], .int .i64 3]) (by simp [results, Tryz.results15, go_sem, s0, s1, s2]) rfl ⟨by have h := HV.out; subst h; rfl, hE8⟩

end Go.Proofs.YtonpbomjjamphaaGreatDoor.NcW
