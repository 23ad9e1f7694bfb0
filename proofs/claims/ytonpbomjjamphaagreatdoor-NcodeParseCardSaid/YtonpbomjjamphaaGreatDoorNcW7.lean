/- Walks: the texts of moves, by the program: the codes, the text of a move. Conditions: the library's table of powers of ten holds what its text lays; the move is valid. -/
import Derived.Test.YtonpbomjjamphaaGreatDoorNcW6
namespace Go.Proofs.YtonpbomjjamphaaGreatDoor.NcW
open Go Go.RowKit Go.Proofs.YtonpbomjjamphaaGreatDoor.Mem

def codesV : Value := .agg #[.string ⟨#[]⟩, .string ⟨#[71, 48, 48]⟩, .string ⟨#[71, 48, 49]⟩, .string ⟨#[77, 48, 51]⟩, .string ⟨#[77, 48, 53]⟩, .string ⟨#[77, 48, 55]⟩, .string ⟨#[77, 51, 48]⟩]
theorem codes_any (w : World) : Calls Tryz.prog 28 #[] w fun e w' => e = .returned codesV ∧ Below w.heap.size w w' := by
  go_enter Tryz.func28, Tryz.ntmps28
  go_wp2
  exact bodyPost_ret (v := codesV) (by simp [results, Tryz.results28, go_sem, codesV]) rfl ⟨rfl, (Below.refl _ _).alloc (Nat.le_refl _) _⟩

theorem below_drew {B : Nat} {a w : World} (h : Below B a w) : Below B a w.drew := ⟨h.os, h.tape, h.output, h.size, h.block⟩
/-- The cells of a new block of three. -/
theorem cells_new3 (w : World) (a b c : Value) (T : TypeId) : (w.alloc (.cells #[a, b, c] T)).cell? ⟨w.heap.size, 0, none⟩ = some a ∧ (w.alloc (.cells #[a, b, c] T)).cell? ⟨w.heap.size, 1, none⟩ = some b ∧ (w.alloc (.cells #[a, b, c] T)).cell? ⟨w.heap.size, 2, none⟩ = some c ∧ w.heap.size < (w.alloc (.cells #[a, b, c] T)).heap.size := by
  refine ⟨?_, ?_, ?_, ?_⟩ <;> simp
/-- Three cells stand behind what was made since. -/
theorem held3 {wr w0 w' : World} {a b c : Addr} {va vb vc : Value} (h : w0.cell? a = some va ∧ w0.cell? b = some vb ∧ w0.cell? c = some vc ∧ Below wr.heap.size wr w0) (hb : Below w0.heap.size w0 w')
    (ha : a.block < wr.heap.size) (eb : b.block = a.block) (ec : c.block = a.block) :
    w'.cell? a = some va ∧ w'.cell? b = some vb ∧ w'.cell? c = some vc ∧ Below wr.heap.size wr w' := by
  obtain ⟨h1, h2, h3, h9⟩ := h
  have hz := h9.size
  exact ⟨(hb.cell (by omega)).trans h1, (hb.cell (by omega)).trans h2, (hb.cell (by omega)).trans h3, h9.trans (hb.mono hz)⟩
theorem laid3 {wr w0 : World} {a b c : Addr} {va vb vc : Value} (hL : Laid wr) (h : w0.cell? a = some va ∧ w0.cell? b = some vb ∧ w0.cell? c = some vc ∧ Below wr.heap.size wr w0) : Laid w0 := hL.below h.2.2.2
theorem index_code (k : Int) (h : 1 ≤ k ∧ k ≤ 6) (w : World) : (Instr.index 77 codesV (.int .i64 k)).run Tryz.prog w = .ok (.string ⟨(Nc.code k).toArray⟩) w := by
  rcases (show k = 1 ∨ k = 2 ∨ k = 3 ∨ k = 4 ∨ k = 5 ∨ k = 6 by omega) with rfl | rfl | rfl | rfl | rfl | rfl <;> kernel_rfl

theorem str_append3 (a b c d e : List UInt8) : (ByteArray.mk a.toArray) ++ (((ByteArray.mk b.toArray) ++ (ByteArray.mk c.toArray) ++ (ByteArray.mk d.toArray)) ++ (ByteArray.mk e.toArray)) = ⟨(a ++ (b ++ c ++ d ++ e)).toArray⟩ := by
  rw [str_append, str_append, str_append, str_append]

set_option maxRecDepth 100000 in
set_option maxHeartbeats 1000000 in
theorem text_any (m : Nc.Mv) (w : World) (hL : Laid w) (hk : 1 ≤ m.k ∧ m.k ≤ 6) (hm : Nc.moving m.k = true → I64 m.x ∧ I64 m.y) :
    Calls Tryz.prog 18 #[.agg #[.int .i64 m.k, .int .i64 m.x, .int .i64 m.y]] w fun e w' => e = .returned (.string ⟨(Nc.text m).toArray⟩) ∧ Below w.heap.size w w' := by
  obtain ⟨k, x, y⟩ := m
  simp only at hk hm
  have hidx := index_code k hk
  have e : Nc.text ⟨k, x, y⟩ = Nc.code k ++ if Nc.moving k then [32, 88] ++ Lib.itoa x ++ [32, 89] ++ Lib.itoa y else [] := rfl
  rw [e]
  clear e
  have hcl := Nc.code_len k
  generalize Nc.code k = ck at *
  have HMV := Lib.hid (fun W => moving_any k W)
  have hb0 : Below w.heap.size w (w.alloc (.cells #[.int .i64 k, .int .i64 x, .int .i64 y] 38)) := (Below.refl _ _).alloc (Nat.le_refl _) _
  have HB0 := Lib.hid hb0
  have HL := Lib.hid (hL.below hb0)
  have HQ := Lib.hid (cells_new3 w (.int .i64 k) (.int .i64 x) (.int .i64 y) 38)
  clear hb0 hL
  have HCV := Lib.hid (fun W => codes_any W)
  generalize codesV = cv at *
  cases hmv : Nc.moving k
  · rw [hmv] at HMV
    simp only [Bool.false_eq_true, if_false, List.append_nil]
    clear hmv hm hcl
    generalize (ByteArray.mk ck.toArray) = CB at *
    go_enter Tryz.func18, Tryz.ntmps18
    go_wp2
    generalize w.alloc (.cells #[.int .i64 k, .int .i64 x, .int .i64 y] 38) = W0 at *
    obtain ⟨q0, q1, q2, qz⟩ := HQ.out
    go_region_held3 (fun w' => w'.cell? ⟨w.heap.size, 0, none⟩ = some (.int .i64 k) ∧ w'.cell? ⟨w.heap.size, 1, none⟩ = some (.int .i64 x) ∧ w'.cell? ⟨w.heap.size, 2, none⟩ = some (.int .i64 y) ∧ Below W0.heap.size W0 w')
      (first | assumption | exact ⟨q0, q1, q2, below_drew (Below.refl _ _)⟩ | (refine held3 ?_ hb4 qz rfl rfl; assumption))
      (first | (go_at_call 28; refine (HCV.out _).mono ?_; rintro e w4 ⟨rfl, hb4⟩))
    all_goals (
      obtain ⟨p0, p1, p2, hbF⟩ := ‹_ ∧ _ ∧ _ ∧ Below _ _ _›
      go_wp2_with fail
      refine (HMV.out _).mono ?_
      rintro e w5 ⟨rfl, rfl⟩
      go_wp2
      go_ret
      exact ⟨rfl, HB0.out.trans (hbF.mono HB0.out.size)⟩)
  · rw [hmv] at HMV
    have hi := hm hmv
    clear hmv hm
    simp only [if_true]
    have HX := Lib.hid (fun W (h : Laid W) => itoa_any x W h hi.1.1 hi.1.2)
    have HY := Lib.hid (fun W (h : Laid W) => itoa_any y W h hi.2.1 hi.2.2)
    have hlx := itoa_len x hi.1
    have hly := itoa_len y hi.2
    generalize Lib.itoa x = tx at *
    generalize Lib.itoa y = ty at *
    have hst := Lib.hid (str_append3 ck [32, 88] tx [32, 89] ty)
    rw [← str_size] at hlx hly hcl
    rw [← hst.out]
    clear hst
    generalize (ByteArray.mk ck.toArray) = CB at *
    generalize (ByteArray.mk tx.toArray) = XB at *
    generalize (ByteArray.mk ty.toArray) = YB at *
    have z1 : (ByteArray.mk [32, 88].toArray).size = 2 := rfl
    have z2 : (ByteArray.mk [32, 89].toArray).size = 2 := rfl
    have n1 : (9223372036854775807 < (ByteArray.mk #[32, 88]).size + XB.size) = False := eq_false (by have : (ByteArray.mk #[32, 88]).size = 2 := rfl; omega)
    have n2 : (9223372036854775807 < (ByteArray.mk #[32, 88] ++ XB).size + (ByteArray.mk #[32, 89]).size) = False := eq_false (by have : (ByteArray.mk #[32, 88]).size = 2 := rfl; have : (ByteArray.mk #[32, 89]).size = 2 := rfl; rw [ByteArray.size_append]; omega)
    have n3 : (9223372036854775807 < (ByteArray.mk #[32, 88] ++ XB ++ ByteArray.mk #[32, 89]).size + YB.size) = False := eq_false (by have : (ByteArray.mk #[32, 88]).size = 2 := rfl; have : (ByteArray.mk #[32, 89]).size = 2 := rfl; rw [ByteArray.size_append, ByteArray.size_append]; omega)
    have n4 : (9223372036854775807 < CB.size + (ByteArray.mk #[32, 88] ++ XB ++ ByteArray.mk #[32, 89] ++ YB).size) = False := eq_false (by have : (ByteArray.mk #[32, 88]).size = 2 := rfl; have : (ByteArray.mk #[32, 89]).size = 2 := rfl; rw [ByteArray.size_append, ByteArray.size_append, ByteArray.size_append]; omega)
    have m1 : (9223372036854775807 < 2 + XB.size) = False := eq_false (by omega)
    have m2 : (9223372036854775807 < 2 + XB.size + 2) = False := eq_false (by omega)
    have m3 : (9223372036854775807 < 2 + XB.size + 2 + YB.size) = False := eq_false (by omega)
    have m4 : (9223372036854775807 < CB.size + (2 + XB.size + 2 + YB.size)) = False := eq_false (by omega)
    clear z1 z2 hlx hly hcl
    go_enter Tryz.func18, Tryz.ntmps18
    go_wp2
    generalize w.alloc (.cells #[.int .i64 k, .int .i64 x, .int .i64 y] 38) = W0 at *
    obtain ⟨q0, q1, q2, qz⟩ := HQ.out
    go_region_held3 (fun w' => w'.cell? ⟨w.heap.size, 0, none⟩ = some (.int .i64 k) ∧ w'.cell? ⟨w.heap.size, 1, none⟩ = some (.int .i64 x) ∧ w'.cell? ⟨w.heap.size, 2, none⟩ = some (.int .i64 y) ∧ Below W0.heap.size W0 w')
      (first | assumption | exact ⟨q0, q1, q2, below_drew (Below.refl _ _)⟩ | (refine held3 ?_ hb4 qz rfl rfl; assumption))
      (first | (go_at_call 28; refine (HCV.out _).mono ?_; rintro e w4 ⟨rfl, hb4⟩))
    all_goals (
      obtain ⟨p0, p1, p2, hbF⟩ := ‹_ ∧ _ ∧ _ ∧ Below _ _ _›
      go_wp2_with fail
      refine (HMV.out _).mono ?_
      rintro e w5 ⟨rfl, rfl⟩
      have hL4 := Lib.hid (HL.out.below hbF)
      have hz4 := Nat.lt_of_lt_of_le qz hbF.size
      clear q0 q1 q2 hb4
      clear ‹_ ∧ _ ∧ _ ∧ Below _ _ _›
      go_wp2
      go_region_held3 (fun w' => w'.cell? ⟨w.heap.size, 0, none⟩ = some (.int .i64 k) ∧ w'.cell? ⟨w.heap.size, 1, none⟩ = some (.int .i64 x) ∧ w'.cell? ⟨w.heap.size, 2, none⟩ = some (.int .i64 y) ∧ Below W0.heap.size W0 w')
        (first | assumption | exact ⟨p0, p1, p2, below_drew hbF⟩ | (refine held3 ?_ hb4 qz rfl rfl; assumption))
        (first | (go_at_call_of 26 (Value.int .i64 x); refine (HX.out _ (laid3 HL.out (by assumption))).mono ?_; rintro e w4 ⟨rfl, hb4⟩) | (go_at_call_of 26 (Value.int .i64 y); refine (HY.out _ (laid3 HL.out (by assumption))).mono ?_; rintro e w4 ⟨rfl, hb4⟩)))
    all_goals (
      obtain ⟨_, _, _, hbG⟩ := ‹_ ∧ _ ∧ _ ∧ Below _ _ _›
      go_wp2
      go_ret
      exact ⟨rfl, HB0.out.trans (hbG.mono HB0.out.size)⟩)
end Go.Proofs.YtonpbomjjamphaaGreatDoor.NcW
