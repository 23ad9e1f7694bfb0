/- Walks: a program printed, by the reference. Conditions: the program lies in memory. -/
import Derived.Test.YtonpbomjjamphaaDoorNcW8
import Derived.Test.YtonpbomjjamphaaDoorNcW5
namespace Go.Proofs.YtonpbomjjamphaaDoor.NcW
open Go Go.RowKit Go.Proofs.YtonpbomjjamphaaDoor.Mem

theorem code_any (k : Int) (w : World) (h : 1 ≤ k ∧ k ≤ 6) : Calls Tryd.prog 59 #[.int .i64 k] w (Returns w (.string ⟨(Nc.code k).toArray⟩)) := by
  rcases (show k = 1 ∨ k = 2 ∨ k = 3 ∨ k = 4 ∨ k = 5 ∨ k = 6 by omega) with rfl | rfl | rfl | rfl | rfl | rfl
  all_goals
    go_enter Tryd.func59, Tryd.ntmps59
    go_wp2
    go_ret
    exact ⟨rfl, rfl⟩

def rlineOf (m : Nc.Mv) (i : Nat) : List UInt8 := Nc.number i ++ Nc.text m
theorem rline_short (n c : List UInt8) : (ByteArray.mk #[78] ++ ByteArray.mk n.toArray ++ ByteArray.mk #[32]) ++ ByteArray.mk c.toArray = ⟨((78 :: (n ++ [32])) ++ c).toArray⟩ := by
  rw [show (ByteArray.mk #[78]) = ⟨[78].toArray⟩ from rfl, show (ByteArray.mk #[32]) = ⟨[32].toArray⟩ from rfl, str_append, str_append, str_append]
  rfl
theorem rline_long (a x y : List UInt8) : ByteArray.mk a.toArray ++ ByteArray.mk #[32, 88] ++ ByteArray.mk x.toArray ++ ByteArray.mk #[32, 89] ++ ByteArray.mk y.toArray = ⟨(a ++ ([32, 88] ++ x ++ [32, 89] ++ y)).toArray⟩ := by
  rw [show (ByteArray.mk #[32, 88]) = ⟨[32, 88].toArray⟩ from rfl, show (ByteArray.mk #[32, 89]) = ⟨[32, 89].toArray⟩ from rfl, str_append, str_append, str_append, str_append]
  simp

set_option maxRecDepth 100000 in
set_option maxHeartbeats 1000000 in
theorem rline_any (m : Nc.Mv) (i : Nat) (w : World) (hi : i ≤ 100000) (hk : 1 ≤ m.k ∧ m.k ≤ 6) (hm : Nc.moving m.k = true → I64 m.x ∧ I64 m.y) :
    Calls Tryd.prog 44 #[.agg #[.int .i64 m.k, .int .i64 m.x, .int .i64 m.y], .int .i64 (i : Int)] w fun e w' => e = .returned (.string ⟨(rlineOf m i).toArray⟩) ∧ Below w.heap.size w w' := by
  obtain ⟨k, x, y⟩ := m
  simp only at hk hm
  have e : rlineOf ⟨k, x, y⟩ i = ((78 :: (Lib.itoa (10 * ((i : Int) + 1)) ++ [32])) ++ Nc.code k) ++ if Nc.moving k then [32, 88] ++ Lib.itoa x ++ [32, 89] ++ Lib.itoa y else [] := by
    unfold rlineOf Nc.number Nc.text
    simp
  rw [e]
  clear e
  have hcl := Nc.code_len k
  have HC := Lib.hid (fun W => code_any k W hk)
  have HN := Lib.hid (fun W => ritoa_any (10 * ((i : Int) + 1)) W (by omega) (by omega))
  have hnl := itoa_len (10 * ((i : Int) + 1)) (by unfold I64; omega)
  rw [← str_size] at hcl hnl
  generalize Nc.code k = ck at *
  generalize Lib.itoa (10 * ((i : Int) + 1)) = tn at *
  have HMV := Lib.hid (fun W => goes_any k W)
  have hb0 : Below w.heap.size w (w.alloc (.cells #[.int .i64 k, .int .i64 x, .int .i64 y] 42)) := (Below.refl _ _).alloc (Nat.le_refl _) _
  have HB0 := Lib.hid hb0
  have HQ := Lib.hid (cells_new3 w (.int .i64 k) (.int .i64 x) (.int .i64 y) 42)
  clear hb0
  have s1 : (ByteArray.mk #[78]).size = 1 := rfl
  have s2 : (ByteArray.mk #[32]).size = 1 := rfl
  cases hmv : Nc.moving k
  · rw [hmv] at HMV
    simp only [Bool.false_eq_true, if_false, List.append_nil]
    rw [← rline_short]
    clear hmv hm
    generalize (ByteArray.mk ck.toArray) = CB at *
    generalize (ByteArray.mk tn.toArray) = NB at *
    have n1 : (9223372036854775807 < 1 + NB.size) = False := eq_false (by omega)
    have n2 : (9223372036854775807 < 1 + NB.size + 1) = False := eq_false (by omega)
    have n3 : (9223372036854775807 < 1 + NB.size + 1 + CB.size) = False := eq_false (by omega)
    have WW1 : IntKind.i64.wrap ((i : Int) + 1) = (i : Int) + 1 := by rw [IntKind.wrap_i64]; omega
    have WW2 : IntKind.i64.wrap (10 * ((i : Int) + 1)) = 10 * ((i : Int) + 1) := by rw [IntKind.wrap_i64]; omega
    clear hcl hnl s1 s2
    go_enter Tryd.func44, Tryd.ntmps44
    go_wp2
    generalize w.alloc (.cells #[.int .i64 k, .int .i64 x, .int .i64 y] 42) = W0 at *
    obtain ⟨q0, q1, q2, qz⟩ := HQ.out
    go_region_held3 (fun w' => w'.cell? ⟨w.heap.size, 0, none⟩ = some (.int .i64 k) ∧ w'.cell? ⟨w.heap.size, 1, none⟩ = some (.int .i64 x) ∧ w'.cell? ⟨w.heap.size, 2, none⟩ = some (.int .i64 y) ∧ Below W0.heap.size W0 w')
      (first | assumption | exact ⟨q0, q1, q2, below_drew (Below.refl _ _)⟩ | (refine held3 ?_ hb4 qz rfl rfl; assumption))
      (first | (go_at_call 59; refine (HC.out _).mono ?_; rintro e w4 ⟨rfl, rfl⟩) | (go_at_call 26; refine (HN.out _).mono ?_; rintro e w4 ⟨rfl, hb4⟩))
    all_goals (
      as_aux_lemma =>
        obtain ⟨p0, p1, p2, hbF⟩ := ‹_ ∧ _ ∧ _ ∧ Below _ _ _›
        clear WW1 WW2
        go_wp2_with fail
        refine (HMV.out _).mono ?_
        rintro e w5 ⟨rfl, rfl⟩
        go_wp2
        go_ret
        exact ⟨rfl, HB0.out.trans (hbF.mono HB0.out.size)⟩)
  · rw [hmv] at HMV
    have hi2 := hm hmv
    clear hmv hm
    simp only [if_true]
    rw [← rline_long, ← rline_short]
    have HX := Lib.hid (fun W => ritoa_any x W hi2.1.1 hi2.1.2)
    have HY := Lib.hid (fun W => ritoa_any y W hi2.2.1 hi2.2.2)
    have hlx := itoa_len x hi2.1
    have hly := itoa_len y hi2.2
    rw [← str_size] at hlx hly
    generalize Lib.itoa x = tx at *
    generalize Lib.itoa y = ty at *
    generalize (ByteArray.mk ck.toArray) = CB at *
    generalize (ByteArray.mk tn.toArray) = NB at *
    generalize (ByteArray.mk tx.toArray) = XB at *
    generalize (ByteArray.mk ty.toArray) = YB at *
    have n1 : (9223372036854775807 < 1 + NB.size) = False := eq_false (by omega)
    have n2 : (9223372036854775807 < 1 + NB.size + 1) = False := eq_false (by omega)
    have n3 : (9223372036854775807 < 1 + NB.size + 1 + CB.size) = False := eq_false (by omega)
    have hne : ∀ v, Value.int .i64 (10 * ((i : Int) + 1)) = v → True := fun _ _ => trivial
    clear hne
    obtain ⟨LB, hLB⟩ : ∃ LB, LB = ByteArray.mk #[78] ++ NB ++ ByteArray.mk #[32] ++ CB := ⟨_, rfl⟩
    have hls : LB.size ≤ 100 := by rw [hLB, ByteArray.size_append, ByteArray.size_append, ByteArray.size_append]; omega
    have m1 : (9223372036854775807 < LB.size + 2) = False := eq_false (by omega)
    have m2 : (9223372036854775807 < LB.size + 2 + XB.size) = False := eq_false (by omega)
    have m3 : (9223372036854775807 < LB.size + 2 + XB.size + 2) = False := eq_false (by omega)
    have m4 : (9223372036854775807 < LB.size + 2 + XB.size + 2 + YB.size) = False := eq_false (by omega)
    have HLB := Lib.hid hLB
    have WW1 : IntKind.i64.wrap ((i : Int) + 1) = (i : Int) + 1 := by rw [IntKind.wrap_i64]; omega
    have WW2 : IntKind.i64.wrap (10 * ((i : Int) + 1)) = 10 * ((i : Int) + 1) := by rw [IntKind.wrap_i64]; omega
    clear hcl hnl s1 s2 hLB hlx hly hls
    go_enter Tryd.func44, Tryd.ntmps44
    go_wp2
    generalize w.alloc (.cells #[.int .i64 k, .int .i64 x, .int .i64 y] 42) = W0 at *
    obtain ⟨q0, q1, q2, qz⟩ := HQ.out
    go_region_held3 (fun w' => w'.cell? ⟨w.heap.size, 0, none⟩ = some (.int .i64 k) ∧ w'.cell? ⟨w.heap.size, 1, none⟩ = some (.int .i64 x) ∧ w'.cell? ⟨w.heap.size, 2, none⟩ = some (.int .i64 y) ∧ Below W0.heap.size W0 w')
      (first | assumption | exact ⟨q0, q1, q2, below_drew (Below.refl _ _)⟩ | (refine held3 ?_ hb4 qz rfl rfl; assumption))
      (first | (go_at_call 59; refine (HC.out _).mono ?_; rintro e w4 ⟨rfl, rfl⟩) | (go_at_call 26; refine (HN.out _).mono ?_; rintro e w4 ⟨rfl, hb4⟩))
    all_goals (
      as_aux_lemma =>
        obtain ⟨p0, p1, p2, hbF⟩ := ‹_ ∧ _ ∧ _ ∧ Below _ _ _›
        clear q0 q1 q2 n1 n2 n3 WW1 WW2
        clear ‹_ ∧ _ ∧ _ ∧ Below _ _ _›
        rw [← HLB.out]
        go_wp2_with fail
        refine (HMV.out _).mono ?_
        rintro e w5 ⟨rfl, rfl⟩
        go_wp2
        go_region_held3 (fun w' => w'.cell? ⟨w.heap.size, 0, none⟩ = some (.int .i64 k) ∧ w'.cell? ⟨w.heap.size, 1, none⟩ = some (.int .i64 x) ∧ w'.cell? ⟨w.heap.size, 2, none⟩ = some (.int .i64 y) ∧ Below W0.heap.size W0 w')
          (first | assumption | exact ⟨p0, p1, p2, below_drew hbF⟩ | (refine held3 ?_ hb4 qz rfl rfl; assumption))
          (first | (go_at_call_of 26 (Value.int .i64 x); refine (HX.out _).mono ?_; rintro e w4 ⟨rfl, hb4⟩) | (go_at_call_of 26 (Value.int .i64 y); refine (HY.out _).mono ?_; rintro e w4 ⟨rfl, hb4⟩))
        all_goals (
          obtain ⟨_, _, _, hbG⟩ := ‹_ ∧ _ ∧ _ ∧ Below _ _ _›
          go_wp2
          go_ret
          rw [← HLB.out]
          exact ⟨rfl, HB0.out.trans (hbG.mono HB0.out.size)⟩))

theorem rprint_take (l : List Nc.Mv) (k : Nat) (h : k < l.length) : Nc.print (l.take (k + 1)) = Nc.print (l.take k) ++ rlineOf l[k] k ++ [10] := by
  rw [print_take l k h]
  unfold Nc.lineOf rlineOf
  simp

set_option maxRecDepth 100000 in
set_option maxHeartbeats 1000000 in
theorem rprint_any (l : List Nc.Mv) (A : Option Addr) (c : Nat) (w : World) (hr : Row w A (l.flatMap mvCells)) (hv : Nc.valid l = true) :
    Calls Tryd.prog 22 #[.slice A l.length c] w fun e w' => e = .returned (.tuple #[.string ⟨(Nc.print l).toArray⟩, .int .i64 0]) ∧ Below w.heap.size w w' := by
  have hlen := Nc.valid_len hv
  have HV := Lib.hid (fun W h => rvalid_any l A c W h (by omega))
  rw [hv] at HV
  have HOK := Lib.hid (fun m (hm : m ∈ l) => Nc.valid_ok hv hm)
  have HR := Lib.hid hr
  clear hr hv
  go_enter Tryd.func22, Tryd.ntmps22
  go_wp2_with fail
  refine (HV.out _ HR.out).mono ?_
  rintro e w1 ⟨rfl, hb1⟩
  go_wp2
  go_loopw [4, 5] (fun v t wr => ∃ k : Nat, k ≤ l.length ∧ t = .int .i64 k ∧ v = .string ⟨(Nc.print (l.take k)).toArray⟩ ∧ Below w.heap.size w wr) (fun _ t _ => l.length - (intOf t).toNat)
  case atStart => exact ⟨0, Nat.zero_le _, rfl, rfl, hb1⟩
  case round =>
    obtain ⟨k, hk, rfl, rfl, hbel⟩ := hrel
    by_cases hlt : k < l.length
    · obtain ⟨g, off, rfl, hg, ca⟩ := row_get mv_len (by decide) HR.out (by omega)
      have a0 := (hbel.cell (p := ⟨g, _, none⟩) hg).trans (ca k hlt 0 (by decide))
      have a1 := (hbel.cell (p := ⟨g, _, none⟩) hg).trans (ca k hlt 1 (by decide))
      have a2 := (hbel.cell (p := ⟨g, _, none⟩) hg).trans (ca k hlt 2 (by decide))
      have hok := HOK.out l[k] (List.getElem_mem hlt)
      have hts := Lib.hid (rprint_take l k hlt)
      have hll := line_len l[k] k (by omega) hok
      have hp := prints_len (l.take k) 0 (by simp; omega) fun m hm => HOK.out m (List.mem_of_mem_take hm)
      have hpl : (Nc.print (l.take k)).length ≤ 200000 := by
        have h9 : (l.take k).length ≤ 2000 := by simp; omega
        unfold Nc.print
        omega
      clear ca hp
      generalize l[k] = m at *
      generalize Nc.print (l.take k) = acc at *
      have hrl : (rlineOf m k).length ≤ 100 := by
        have : (Nc.lineOf m k).length = (rlineOf m k).length + 1 := by unfold Nc.lineOf rlineOf; simp; omega
        omega
      obtain ⟨mk, mx, my⟩ := m
      simp only [mvCells, List.getElem?_cons_zero, List.getElem?_cons_succ, Nat.add_zero] at a0 a1 a2
      have hbnd := Nc.ok_bound hok
      simp only at hbnd
      have HT := Lib.hid (fun W => rline_any ⟨mk, mx, my⟩ k W (by omega) (Nc.ok_kind hok) (fun _ => by unfold I64; simp only; omega))
      generalize rlineOf ⟨mk, mx, my⟩ k = ln at *
      have hst : Hid (ByteArray.mk acc.toArray ++ ByteArray.mk ln.toArray ++ ByteArray.mk #[10] = ⟨(acc ++ ln ++ [10]).toArray⟩) := Lib.hid (by rw [str_append]; exact str_append (acc ++ ln) [10])
      rw [← str_size] at hpl hrl
      have hts2 : Hid (Value.string ⟨(Nc.print (l.take (k + 1))).toArray⟩ = .string (ByteArray.mk acc.toArray ++ ByteArray.mk ln.toArray ++ ByteArray.mk #[10])) := Lib.hid (by rw [hts.out, hst.out])
      clear hll hok hbnd hst hts
      generalize (ByteArray.mk acc.toArray) = AB at *
      generalize (ByteArray.mk ln.toArray) = NB at *
      have z6 : (AB ++ NB).size = AB.size + NB.size := by rw [ByteArray.size_append]
      have z7 : (ByteArray.mk #[10]).size = 1 := rfl
      go_wp2_with fail
      refine (HT.out _).mono ?_
      rintro e w2 ⟨rfl, hb2⟩
      have hb12 := hbel.trans (hb2.mono hbel.size)
      clear hbel hb2 a0 a1 a2
      go_wp2
      go_roundw
      case rel => exact ⟨k + 1, by omega, by go_num, hts2.out.symm, hb12⟩
      case measure => simp [intOf]; omega
    · obtain rfl : k = l.length := by omega
      have htk := Lib.hid (show l.take l.length = l from List.take_length)
      rw [htk.out]
      go_wp2
      go_ret2
      exact ⟨rfl, hbel⟩
end Go.Proofs.YtonpbomjjamphaaDoor.NcW
