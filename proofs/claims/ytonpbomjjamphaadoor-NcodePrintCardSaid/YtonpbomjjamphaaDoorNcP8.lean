/- The law NcodePrint, walked. Conditions: the library's variables hold what a start lays; the program lies in memory. -/
import Derived.Test.YtonpbomjjamphaaDoorNcPB
import Derived.Test.YtonpbomjjamphaaDoorNcP6
import Derived.Test.YtonpbomjjamphaaDoorNcP7
import Derived.Test.YtonpbomjjamphaaDoorNcE
import Derived.Test.YtonpbomjjamphaaDoorKept
namespace Go.Proofs.YtonpbomjjamphaaDoor.NcW
open Go Go.RowKit Go.Proofs.YtonpbomjjamphaaDoor.Mem
attribute [local go_sem ↓] Go.wp_at_zero Go.wp_at_succ

theorem stat_neq (a b c d e f g h : Int) (k : Bool) (w : World) : (binOp .neq 53 (.agg #[.int .i64 a, .int .i64 b, .int .i64 c, .int .i64 d, .int .i64 e, .int .i64 f, .int .i64 g, .int .i64 h, .bool k]) (.agg #[.int .i64 a, .int .i64 b, .int .i64 c, .int .i64 d, .int .i64 e, .int .i64 f, .int .i64 g, .int .i64 h, .bool k])).run Tryd.prog w = .ok (.bool false) w := by
  have u3 := Tryd.underlying3
  have a3 := Tryd.isAgg3
  have z3 := Tryd.sizeOf3
  have u4 := Tryd.underlying4
  have a4 := Tryd.isAgg4
  have z4 := Tryd.sizeOf4
  have a24 := Tryd.isAgg24
  have z24 := Tryd.sizeOf24
  have a34 := Tryd.isAgg34
  have z34 := Tryd.sizeOf34
  have hS : Tryd.prog.underlying 53 = some (.struct (Tryd.prog.fieldsOf 53)) := by kernel_rfl
  have hp : Tryd.prog.stoodInHeld 53 = false := by kernel_rfl
  have hS2 : Tryd.prog.underlying 34 = some (.struct (Tryd.prog.fieldsOf 34)) := by kernel_rfl
  have hp2 : Tryd.prog.stoodInHeld 34 = false := by kernel_rfl
  have hS3 : Tryd.prog.underlying 24 = some (.struct (Tryd.prog.fieldsOf 24)) := by kernel_rfl
  have hp3 : Tryd.prog.stoodInHeld 24 = false := by kernel_rfl
  have hv : ∀ (x y : Int) (W : World), (Op.equalIn 9998 24 (.agg #[.int .i64 x, .int .i64 y]) (.agg #[.int .i64 x, .int .i64 y])).run Tryd.prog W = .ok true W := by
    intro x y W
    rw [show (9998 : Nat) = 9997 + 1 from rfl, run_equalIn_agg W 9997 24 _ _ hS3 hp3]
    simp only [Program.fieldsOf, Tryd.underlying24]
    go_simp
  have hb : ∀ W : World, (Op.equalIn 9999 34 (.agg #[.int .i64 e, .int .i64 f, .int .i64 g, .int .i64 h]) (.agg #[.int .i64 e, .int .i64 f, .int .i64 g, .int .i64 h])).run Tryd.prog W = .ok true W := by
    intro W
    rw [show (9999 : Nat) = 9998 + 1 from rfl, run_equalIn_agg W 9998 34 _ _ hS2 hp2]
    simp only [Program.fieldsOf, Tryd.underlying34]
    go_simp
  rw [run_neq_struct, show (10000 : Nat) = 9999 + 1 from rfl, run_equalIn_agg w 9999 53 _ _ hS hp]
  simp only [Program.fieldsOf, Tryd.underlying53]
  go_simp

def bkR (l : List Nc.Mv) : List Nc.Mv := if Nc.valid l then l else []
theorem back_run (l : List Nc.Mv) : runL (prR l).1 = (bkR l, 0, 0) ∧ (prR l).1.length ≤ 1000000 ∧ ((prR l).2 = 0 ∧ bkR l = l ∨ (prR l).2 = 1) ∧ (bkR l).length ≤ l.length := by
  unfold prR bkR
  cases hv : Nc.valid l
  · refine ⟨?_, by simp, .inr rfl, by simp⟩
    simp [runL, linesOf_nil, parseL]
  · refine ⟨runL_print hv, ?_, .inl ⟨rfl, rfl⟩, by simp⟩
    have h1 := Nc.valid_len hv
    have h2 := prints_len l 0 (by omega) (fun m hm => Nc.valid_ok hv hm)
    simp only [if_true]
    unfold Nc.print
    omega
set_option maxRecDepth 100000 in
set_option maxHeartbeats 4000000 in
theorem ncodePrint_few (l : List Nc.Mv) (A : Option Addr) (cl : Nat) (w : World) (hr : Row w A (l.flatMap mvCells)) (hf : Nc.few l = true) (hG : Glob w) :
    Calls Tryd.prog 6 #[.slice A l.length cl] w fun e w' => e = .returned (.bool true) ∧ Below w.heap.size w w' := by
  have hl : l.length ≤ 2002 := by simp [Nc.few] at hf; omega
  have HF := Lib.hid (fun A k W => few_is l A k W)
  rw [hf] at HF
  have HOA := Lib.hid (fun A k W h => own_any l A k W h (by omega))
  have HPP := Lib.hid (fun A k W h1 h2 => print_both l A k W h1 h2 (by omega))
  have HPR := Lib.hid (fun A k W h => rprint_both l A k W h (by omega))
  have HSP := Lib.hid (fun A k W h => summary_both l A k W h (by omega))
  have HSR := Lib.hid (fun A k W h => rsummary_both l A k W h (by omega))
  have HVP := Lib.hid (fun A k W h => valid_any l A k W h (by omega))
  have HVR := Lib.hid (fun A k W h => rvalid_any l A k W h (by omega))
  obtain ⟨hb1, hb2, hb3, hb4⟩ := back_run l
  have HPA := Lib.hid (fun W h => parse_any (prR l).1 W hb2 h)
  unfold runL at hb1
  rw [hb1] at HPA
  obtain ⟨a, b, c, d, e, f, g, h, k, se, hsu⟩ := suR_cells l
  rw [hsu] at HSP HSR
  clear hb1 hb2 hsu
  generalize bkR l = q at *
  generalize prR l = P at *
  obtain ⟨pt, pe⟩ := P
  simp only at HPP HPR HSP HSR HPA hb3
  generalize (ByteArray.mk pt.toArray) = PB at *
  generalize Nc.valid l = vb at *
  have HT := Lib.hid (fun A k W h => theirs_any q A k W h (by omega))
  have HSM := Lib.hid (fun A B k j W h1 h2 => rsame_any q l A B k j W h1 h2 (by omega) (by omega))
  have HB3 := Lib.hid hb3
  have hneq := stat_neq a b c d e f g h k
  have HNEQ := Lib.hid hneq
  have HG := Lib.hid hG
  have HK0 := Lib.hid ((Kept.start w).add hr)
  clear hr hf hG hb3 hb4 hneq
  go_enter Tryd.func6, Tryd.ntmps6
  go_wp2_with fail
  refine (awake_any _ HG.out.laid).mono ?_
  rintro e w1 ⟨rfl, hb⟩
  have HK1 := Lib.hid (HK0.out.below hb)
  clear hb
  go_wp2_with fail
  refine (HF.out _ _ _).mono ?_
  rintro e wx ⟨rfl, rfl⟩
  go_wp2_with fail
  refine (HOA.out _ _ _ (HK1.out.r 0 rfl)).mono ?_
  rintro e w2 ⟨⟨v, rfl, hown⟩, hb⟩
  obtain ⟨Ao1, co1, rfl, hco1⟩ := own_shape hown
  have HK2 := Lib.hid ((HK1.out.below hb).add (Row.of_own hown))
  clear hown hb
  go_wp2_with fail
  refine (HPP.out _ _ _ (HG.out.below HK2.out.bel).laid (HK2.out.r 1 rfl)).mono ?_
  rintro e w3 ⟨rfl, hb⟩
  have HK3 := Lib.hid (HK2.out.below hb)
  clear hb
  go_wp2_with fail
  refine (HPR.out _ _ _ (HK3.out.r 0 rfl)).mono ?_
  rintro e w4 ⟨rfl, hb⟩
  have HK4 := Lib.hid (HK3.out.below hb)
  clear hb
  go_wp2_with fail
  refine (HOA.out _ _ _ (HK4.out.r 0 rfl)).mono ?_
  rintro e w5 ⟨⟨v, rfl, hown⟩, hb⟩
  obtain ⟨Ao2, co2, rfl, hco2⟩ := own_shape hown
  have HK5 := Lib.hid ((HK4.out.below hb).add (Row.of_own hown))
  clear hown hb
  go_wp2_with fail
  refine (HSP.out _ _ _ (HK5.out.r 2 rfl)).mono ?_
  rintro e w6 ⟨rfl, hb⟩
  have hba := hb.alloc hb.size (.cells #[.int .i64 a, .int .i64 b, .int .i64 c, .int .i64 d, .int .i64 e, .int .i64 f, .int .i64 g, .int .i64 h, .bool k] 36)
  have HK6 := Lib.hid ((HK5.out.below hba).addB (heap_alloc_new w6 (.cells #[.int .i64 a, .int .i64 b, .int .i64 c, .int .i64 d, .int .i64 e, .int .i64 f, .int .i64 g, .int .i64 h, .bool k] 36)))
  clear hb hba
  go_wp2_with fail
  generalize w6.alloc (.cells #[.int .i64 a, .int .i64 b, .int .i64 c, .int .i64 d, .int .i64 e, .int .i64 f, .int .i64 g, .int .i64 h, .bool k] 36) = W6 at *
  generalize hxp : w6.heap.size = xp at *
  have HXp := Lib.hid hxp
  clear hxp
  go_wp2_with fail
  refine (HSR.out _ _ _ (HK6.out.r 0 rfl)).mono ?_
  rintro e w7 ⟨rfl, hb⟩
  have hba := hb.alloc hb.size (.cells #[.int .i64 a, .int .i64 b, .int .i64 c, .int .i64 d, .int .i64 e, .int .i64 f, .int .i64 g, .int .i64 h, .bool k] 53)
  have HK7 := Lib.hid ((HK6.out.below hba).addB (heap_alloc_new w7 (.cells #[.int .i64 a, .int .i64 b, .int .i64 c, .int .i64 d, .int .i64 e, .int .i64 f, .int .i64 g, .int .i64 h, .bool k] 53)))
  clear hb hba
  go_upto_region 9 with (fail)
  generalize w7.alloc (.cells #[.int .i64 a, .int .i64 b, .int .i64 c, .int .i64 d, .int .i64 e, .int .i64 f, .int .i64 g, .int .i64 h, .bool k] 53) = W7 at *
  generalize hxq : w7.heap.size = xq at *
  have HXq := Lib.hid hxq
  clear hxq
  have p0 : W7.cell? ⟨xp, 0, none⟩ = some (.int .i64 a) := by rw [Lib.cell_of_heap (HK7.out.b 0 rfl)]; rfl
  have p1 : W7.cell? ⟨xp, 1, none⟩ = some (.int .i64 b) := by rw [Lib.cell_of_heap (HK7.out.b 0 rfl)]; rfl
  have p2 : W7.cell? ⟨xp, 2, none⟩ = some (.int .i64 c) := by rw [Lib.cell_of_heap (HK7.out.b 0 rfl)]; rfl
  have p3 : W7.cell? ⟨xp, 3, none⟩ = some (.int .i64 d) := by rw [Lib.cell_of_heap (HK7.out.b 0 rfl)]; rfl
  have p4 : W7.cell? ⟨xp, 4, none⟩ = some (.int .i64 e) := by rw [Lib.cell_of_heap (HK7.out.b 0 rfl)]; rfl
  have p5 : W7.cell? ⟨xp, 5, none⟩ = some (.int .i64 f) := by rw [Lib.cell_of_heap (HK7.out.b 0 rfl)]; rfl
  have p6 : W7.cell? ⟨xp, 6, none⟩ = some (.int .i64 g) := by rw [Lib.cell_of_heap (HK7.out.b 0 rfl)]; rfl
  have p7 : W7.cell? ⟨xp, 7, none⟩ = some (.int .i64 h) := by rw [Lib.cell_of_heap (HK7.out.b 0 rfl)]; rfl
  have p8 : W7.cell? ⟨xp, 8, none⟩ = some (.bool k) := by rw [Lib.cell_of_heap (HK7.out.b 0 rfl)]; rfl
  have pz := block_lt (HK7.out.b 0 rfl)
  have q0 : W7.cell? ⟨xq, 0, none⟩ = some (.int .i64 a) := by rw [Lib.cell_of_heap (HK7.out.b 1 rfl)]; rfl
  have q1 : W7.cell? ⟨xq, 1, none⟩ = some (.int .i64 b) := by rw [Lib.cell_of_heap (HK7.out.b 1 rfl)]; rfl
  have q2 : W7.cell? ⟨xq, 2, none⟩ = some (.int .i64 c) := by rw [Lib.cell_of_heap (HK7.out.b 1 rfl)]; rfl
  have q3 : W7.cell? ⟨xq, 3, none⟩ = some (.int .i64 d) := by rw [Lib.cell_of_heap (HK7.out.b 1 rfl)]; rfl
  have q4 : W7.cell? ⟨xq, 4, none⟩ = some (.int .i64 e) := by rw [Lib.cell_of_heap (HK7.out.b 1 rfl)]; rfl
  have q5 : W7.cell? ⟨xq, 5, none⟩ = some (.int .i64 f) := by rw [Lib.cell_of_heap (HK7.out.b 1 rfl)]; rfl
  have q6 : W7.cell? ⟨xq, 6, none⟩ = some (.int .i64 g) := by rw [Lib.cell_of_heap (HK7.out.b 1 rfl)]; rfl
  have q7 : W7.cell? ⟨xq, 7, none⟩ = some (.int .i64 h) := by rw [Lib.cell_of_heap (HK7.out.b 1 rfl)]; rfl
  have q8 : W7.cell? ⟨xq, 8, none⟩ = some (.bool k) := by rw [Lib.cell_of_heap (HK7.out.b 1 rfl)]; rfl
  have qz := block_lt (HK7.out.b 1 rfl)
  have hneq := HNEQ.out
  go_wp2_with fail
  refine (HOA.out _ _ _ (HK7.out.r 0 rfl)).mono ?_
  rintro e w8 ⟨⟨v, rfl, hown⟩, hb⟩
  obtain ⟨Ao3, co3, rfl, hco3⟩ := own_shape hown
  have HK8 := Lib.hid ((HK7.out.below hb).add (Row.of_own hown))
  clear hown hb
  go_wp2_with fail
  refine (HVP.out _ _ _ (HK8.out.r 3 rfl)).mono ?_
  rintro e w9 ⟨rfl, hb⟩
  have HK9 := Lib.hid (HK8.out.below hb)
  clear hb
  go_wp2_with fail
  refine (HVR.out _ _ _ (HK9.out.r 0 rfl)).mono ?_
  rintro e w10 ⟨rfl, hb⟩
  have HK10 := Lib.hid (HK9.out.below hb)
  clear hb
  clear p0 p1 p2 p3 p4 p5 p6 p7 p8 pz q0 q1 q2 q3 q4 q5 q6 q7 q8 qz hneq
  go_wp2_with fail
  refine (HPA.out _ (HG.out.below HK10.out.bel)).mono ?_
  rintro e w11 ⟨⟨v, rfl, hown⟩, hb⟩
  obtain ⟨Abk, cbk, rfl, hcbk⟩ := own_shape hown
  have HK11 := Lib.hid ((HK10.out.below hb).add (Row.of_own hown))
  clear hown hb
  rcases HB3.out with ⟨hpe, hq⟩ | hpe
  · subst hpe
    subst hq
    go_wp2_with fail
    refine (HT.out _ _ _ (HK11.out.r 4 rfl)).mono ?_
    rintro e w12 ⟨⟨v, rfl, hown⟩, hb⟩
    obtain ⟨Ath, cth, rfl, hcth⟩ := own_shape hown
    have HK12 := Lib.hid ((HK11.out.below hb).add (Row.of_own hown))
    clear hown hb
    go_wp2_with fail
    refine (HSM.out _ _ _ _ _ (HK12.out.r 5 rfl) (HK12.out.r 0 rfl)).mono ?_
    rintro e w13 ⟨rfl, hb⟩
    have HK13 := Lib.hid (HK12.out.below hb)
    clear hb
    rw [same_iff.2 rfl]
    go_wp2
    go_ret
    exact ⟨rfl, HK13.out.bel⟩
  · subst hpe
    go_wp2
    go_ret
    exact ⟨rfl, HK11.out.bel⟩
theorem ncodePrint_walk (A : Option Addr) (len cap : Nat) (l : List Nc.Mv) (w : World) (h : l.length = len ∧ (∀ m ∈ l, True) ∧ Row w A (l.flatMap mvCells) ∧ len ≤ maxLen ∧ len ≤ cap) (hG : Glob w) :
    Calls Tryd.prog 6 #[.slice A len cap] w fun e w' => e = .returned (.bool true) ∧ Below w.heap.size w w' := by
  obtain ⟨rfl, _, hr, _, _⟩ := h
  cases hf : Nc.few l
  · have HF := Lib.hid (fun A k W => few_is l A k W)
    rw [hf] at HF
    have HG := Lib.hid hG
    clear hf hr hG
    go_enter Tryd.func6, Tryd.ntmps6
    go_wp2_with fail
    refine (awake_any _ HG.out.laid).mono ?_
    rintro e w1 ⟨rfl, hb1⟩
    go_wp2_with fail
    refine (HF.out _ _ _).mono ?_
    rintro e wx ⟨rfl, rfl⟩
    go_wp2
    go_ret
    exact ⟨rfl, hb1⟩
  · exact ncodePrint_few l A cap w hr hf hG
end Go.Proofs.YtonpbomjjamphaaDoor.NcW
