/- The law LexLimits, walked: long names and numbers are refused with ErrLimit, shorter ones are not. Conditions: the two numbers fit their kinds. -/
import Derived.Test.YthcfkfehcmkhnaaDoorLexL2
import Derived.OpenShut
namespace Go.Proofs.YthcfkfehcmkhnaaDoor.LexW
open Go Go.RowKit Go.Proofs.YthcfkfehcmkhnaaDoor.Mem

theorem isName_quiet (s : ByteArray) (hs : s.size ≤ 1000000) (w : World) : Calls Tryd.prog 15 #[.string s] w fun e w' => e = .returned (.bool (Lex.isName s.data.toList)) ∧ w' = w :=
  (isName_any s w hs).mono fun _ _ ⟨h1, h2⟩ => ⟨h1, h2.symm⟩

def chr (c : Nat) : UInt8 := UInt8.ofNat (97 + c % 26)
theorem chr_eq (c : Nat) (hc : c < 256) : 97 + UInt8.ofNat c % 26 = UInt8.ofNat (97 + c % 26) := by
  apply UInt8.toNat_inj.1
  simp only [UInt8.toNat_add, UInt8.toNat_mod, UInt8.toNat_ofNat', UInt8.reduceToNat]
  omega
theorem chr_letter (c : Nat) : Lex.letter (chr c) = true := by
  have h : (chr c).toNat = 97 + c % 26 := by
    unfold chr
    rw [UInt8.toNat_ofNat']; omega
  unfold Lex.letter
  rw [h]
  have : 97 + c % 26 ≤ 122 := by omega
  simp [this]
theorem rep_snoc (k : Nat) (c : UInt8) : List.replicate k c ++ [c] = List.replicate (k + 1) c := by
  rw [List.replicate_succ']
theorem isName_rep (k : Nat) (c : UInt8) (hc : Lex.letter c = true) (h0 : 1 ≤ k) : Lex.isName (List.replicate k c) = decide (k ≤ 16) := by
  obtain ⟨m, rfl⟩ : ∃ m, k = m + 1 := ⟨k - 1, by omega⟩
  have ha : (List.replicate (m + 1) c).all Lex.inner = true := by
    rw [List.all_eq_true]; intro x hx; rw [List.eq_of_mem_replicate hx]; exact Lex.inner_of_letter hc
  unfold Lex.isName
  rw [ha, List.length_replicate]
  simp [List.replicate_succ, hc]

/-- What the lexer gives for the two texts of the law. -/
theorem limits_ways (k : Nat) (c : UInt8) (hc : Lex.letter c = true) (h0 : 1 ≤ k) :
    (k ≤ 9 ∧ Lex.lex (List.replicate k c) 0 = ⟨[⟨1, List.replicate k c, 0, 0⟩], 0, 0⟩ ∧ ∃ v : Int, v < 0 ∧ Lex.lex ([120, 32, 45] ++ List.replicate k 55) 0 = ⟨[⟨1, [120], 0, 0⟩, ⟨2, [], v, 2⟩], 0, 0⟩) ∨
    (9 < k ∧ k ≤ 16 ∧ Lex.lex (List.replicate k c) 0 = ⟨[⟨1, List.replicate k c, 0, 0⟩], 0, 0⟩ ∧ Lex.lex ([120, 32, 45] ++ List.replicate k 55) 0 = ⟨[], 2, 9⟩) ∨
    (16 < k ∧ Lex.lex (List.replicate k c) 0 = ⟨[], 0, 9⟩ ∧ Lex.lex ([120, 32, 45] ++ List.replicate k 55) 0 = ⟨[], 2, 9⟩) := by
  have h1 := Lex.lex_name hc k h0 0
  have h2 := Lex.lex_sevens k h0
  by_cases h9 : k ≤ 9
  · rw [if_pos (by omega)] at h1
    rw [if_pos h9] at h2
    obtain ⟨he, v, hv, ht⟩ := h2
    refine .inl ⟨h9, h1, v, hv, ?_⟩
    have hp := (Lex.lex_ok (120 :: 32 :: 45 :: List.replicate k 55) 0).1 he
    show Lex.lex (120 :: 32 :: 45 :: List.replicate k 55) 0 = _
    generalize Lex.lex (120 :: 32 :: 45 :: List.replicate k 55) 0 = r at *
    obtain ⟨t, p, e⟩ := r
    simp only at he ht hp
    rw [he, ht, hp]
  · rw [if_neg h9] at h2
    by_cases h16 : k ≤ 16
    · rw [if_pos h16] at h1
      exact .inr (.inl ⟨by omega, h16, h1, h2⟩)
    · rw [if_neg h16] at h1
      exact .inr (.inr ⟨by omega, h1, h2⟩)

set_option maxRecDepth 100000 in
set_option maxHeartbeats 1000000 in
theorem lexLimits_nat (n c : Nat) (w : World) (hn : n < 65536) (hc : c < 256) : Calls Tryd.prog 5 #[.int .u16 (n : Int), .int .u8 (c : Int)] w fun e w' => e = .returned (.bool true) ∧ Below w.heap.size w w' := by
  obtain ⟨k, hk⟩ : ∃ k, n % 40 + 1 = k := ⟨_, rfl⟩
  have hk1 : 1 ≤ k := by omega
  have hk40 : k ≤ 40 := by omega
  have hl := chr_letter c
  obtain ⟨ch, hch⟩ : ∃ ch, chr c = ch := ⟨_, rfl⟩
  have HC := Lib.hid (show UInt8.ofNat (97 + c % 26) = ch from hch)
  rw [hch] at hl
  clear hch
  have hA := fun W => lexed ⟨(List.replicate k ch).toArray⟩ (by rw [str_size, List.length_replicate]; omega) W
  have hB := fun W => lexed ((⟨#[120, 32, 45]⟩ : ByteArray) ++ ⟨(List.replicate k 55).toArray⟩) (by rw [str_append [120, 32, 45], str_size, List.length_append, List.length_replicate]; simp; omega) W
  have eB : ((⟨#[120, 32, 45]⟩ : ByteArray) ++ ⟨(List.replicate k 55).toArray⟩).data.toList = [120, 32, 45] ++ List.replicate k 55 := by rw [str_append [120, 32, 45]]
  have eA : (⟨(List.replicate k ch).toArray⟩ : ByteArray).data.toList = List.replicate k ch := by simp
  rw [eB] at hB
  rw [eA] at hA
  have hI := fun W => isName_quiet ⟨(List.replicate k ch).toArray⟩ (by rw [str_size, List.length_replicate]; omega) W
  rw [eA, isName_rep k _ hl hk1] at hI
  have hw := limits_ways k ch hl hk1
  have hk' : ((n : Int) % 40 + 1) = (k : Int) := by omega
  have HK := Lib.hid hk'
  have HA := Lib.hid hA
  have HB := Lib.hid hB
  have HI := Lib.hid hI
  have HW := Lib.hid hw
  clear eB eA hk hl hk' hA hB hI hw
  go_enter Tryd.func5, Tryd.ntmps5
  go_wp2_with fail
  refine (awake_any _).mono ?_
  rintro e w1 ⟨rfl, hb1⟩
  go_wp2_with fail
  rw [HK.out]
  go_loopw [6, 7, 8] (fun a b i wr => ∃ j : Nat, j ≤ k ∧ i = .int .i64 j ∧ a = .string ⟨(List.replicate j ch).toArray⟩ ∧ b = .string ⟨(List.replicate j 55).toArray⟩ ∧ Below w.heap.size w wr) (fun _ _ i _ => k - (intOf i).toNat)
  case atStart => exact ⟨0, Nat.zero_le _, rfl, rfl, rfl, hb1⟩
  case round =>
    obtain ⟨j, hj, rfl, rfl, rfl, hbel⟩ := hrel
    by_cases hlt : j < k
    · have hcv := conv_byte wr (97 + (c : Int) % 26)
      have hz1 : (ByteArray.mk #[UInt8.ofNat (97 + (c : Int) % 26).toNat]).size = 1 := rfl
      have hz2 : (ByteArray.mk (List.replicate j ch).toArray).size ≤ 40 := by rw [str_size, List.length_replicate]; omega
      have hz3 : (ByteArray.mk (List.replicate j (55 : UInt8)).toArray).size ≤ 40 := by rw [str_size, List.length_replicate]; omega
      have hz4 : (ByteArray.mk #[55]).size = 1 := rfl
      generalize hX : ByteArray.mk (List.replicate j ch).toArray = X at *
      generalize hY : ByteArray.mk (List.replicate j (55 : UInt8)).toArray = Y at *
      have HX := Lib.hid hX
      have HY := Lib.hid hY
      clear hX hY
      go_wp2
      go_roundw
      case rel =>
        refine ⟨j + 1, by omega, by go_num, ?_, ?_, hbel.alloc hbel.size _⟩
        · rw [chr_eq c hc, HC.out, ← HX.out]
          exact congrArg Value.string ((str_append _ [ch]).trans (by rw [rep_snoc]))
        · rw [← HY.out]
          exact congrArg Value.string ((str_append _ [55]).trans (by rw [rep_snoc]))
      case measure => simp [intOf]; omega
    · obtain rfl : j = k := by omega
      have hz3 : (ByteArray.mk (List.replicate j (55 : UInt8)).toArray).size ≤ 40 := by rw [str_size, List.length_replicate]; omega
      have hz4 : (ByteArray.mk #[120, 32, 45]).size = 3 := rfl
      have hA := HA.out
      have hB := HB.out
      have hI := HI.out
      have hT : (ByteArray.mk (List.replicate j ch).toArray).toList = List.replicate j ch := Go.ByteArray.toList_mk _
      have hXt := Lib.hid hT
      clear HA HB HI hT
      rcases HW.out with ⟨h9, h1, v, hv, h2⟩ | ⟨h9, h16, h1, h2⟩ | ⟨h16, h1, h2⟩
      · rw [h1] at hA
        rw [h2] at hB
        have d16 : decide (j ≤ 16) = true := by simp; omega
        rw [d16] at hI
        have k16 : decide ((j : Int) ≤ 16) = true := by simp; omega
        have k9 : decide ((j : Int) ≤ 9) = true := by simp; omega
        have HA := Lib.hid hA
        have HB := Lib.hid hB
        have HI := Lib.hid hI
        clear hA hB hI h1 h2 d16
        generalize hX : ByteArray.mk (List.replicate j ch).toArray = X at *
        generalize hY : ByteArray.mk (List.replicate j (55 : UInt8)).toArray = Y at *
        have HX := Lib.hid hX
        clear hX hY
        go_wp2_with fail
        refine (HA.out _).mono ?_
        rintro e w2 ⟨⟨A2, c2, rfl, r2⟩, hb2⟩
        have hb12 := hbel.trans (hb2.mono hbel.size)
        clear hbel
        go_wp2_with fail
        refine (HB.out _).mono ?_
        rintro e w3 ⟨⟨A3, c3, rfl, r3⟩, hb3⟩
        have hb13 := hb12.trans (hb3.mono hb12.size)
        obtain ⟨g2, o2, rfl, l2, q2⟩ := (r2.below hb3) (by simp [toksCells, tokCells])
        obtain ⟨g3, o3, rfl, l3, q3⟩ := r3 (by simp [toksCells, tokCells])
        have a1 := (q2 1 (by simp [toksCells, tokCells])).trans (show _ = some (Value.string X) by rw [← HX.out]; rfl)
        have a2 := (q3 6 (by simp [toksCells, tokCells])).trans (show _ = some (Value.int .i64 v) from rfl)
        clear q2 q3
        clear hb12 hb2 hb3 r2 r3
        go_wp2_with (go_at_call 15; refine (HI.out _).mono ?_; rintro e w4 ⟨rfl, rfl⟩)
        go_ret
        exact ⟨rfl, hb13⟩
      · rw [h1] at hA
        rw [h2] at hB
        have d16 : decide (j ≤ 16) = true := by simp; omega
        rw [d16] at hI
        have k16 : decide ((j : Int) ≤ 16) = true := by simp; omega
        have k9 : decide ((j : Int) ≤ 9) = false := by simp; omega
        have HA := Lib.hid hA
        have HB := Lib.hid hB
        have HI := Lib.hid hI
        clear hA hB hI h1 h2 d16
        generalize hX : ByteArray.mk (List.replicate j ch).toArray = X at *
        generalize hY : ByteArray.mk (List.replicate j (55 : UInt8)).toArray = Y at *
        have HX := Lib.hid hX
        clear hX hY
        go_wp2_with fail
        refine (HA.out _).mono ?_
        rintro e w2 ⟨⟨A2, c2, rfl, r2⟩, hb2⟩
        have hb12 := hbel.trans (hb2.mono hbel.size)
        clear hbel
        go_wp2_with fail
        refine (HB.out _).mono ?_
        rintro e w3 ⟨⟨A3, c3, rfl, r3⟩, hb3⟩
        have hb13 := hb12.trans (hb3.mono hb12.size)
        obtain ⟨g2, o2, rfl, l2, q2⟩ := (r2.below hb3) (by simp [toksCells, tokCells])
        have a1 := (q2 1 (by simp [toksCells, tokCells])).trans (show _ = some (Value.string X) by rw [← HX.out]; rfl)
        clear q2
        clear hb12 hb2 hb3 r2 r3
        go_wp2_with (go_at_call 15; refine (HI.out _).mono ?_; rintro e w4 ⟨rfl, rfl⟩)
        go_ret
        exact ⟨rfl, hb13⟩
      · rw [h1] at hA
        rw [h2] at hB
        have d16 : decide (j ≤ 16) = false := by simp; omega
        rw [d16] at hI
        have k16 : decide ((j : Int) ≤ 16) = false := by simp; omega
        have k9 : decide ((j : Int) ≤ 9) = false := by simp; omega
        have HA := Lib.hid hA
        have HB := Lib.hid hB
        have HI := Lib.hid hI
        clear hA hB hI h1 h2 d16
        generalize hX : ByteArray.mk (List.replicate j ch).toArray = X at *
        generalize hY : ByteArray.mk (List.replicate j (55 : UInt8)).toArray = Y at *
        have HX := Lib.hid hX
        clear hX hY
        go_wp2_with fail
        refine (HA.out _).mono ?_
        rintro e w2 ⟨⟨A2, c2, rfl, r2⟩, hb2⟩
        have hb12 := hbel.trans (hb2.mono hbel.size)
        clear hbel
        go_wp2_with fail
        refine (HB.out _).mono ?_
        rintro e w3 ⟨⟨A3, c3, rfl, r3⟩, hb3⟩
        have hb13 := hb12.trans (hb3.mono hb12.size)
        clear hb12 hb2 hb3 r2 r3
        go_wp2_with (go_at_call 15; refine (HI.out _).mono ?_; rintro e w4 ⟨rfl, rfl⟩)
        go_ret
        exact ⟨rfl, hb13⟩
theorem lexLimits_walk (n c : Int) (w : World) (hn : (Lit.int .u16 n).wf = true) (hc : (Lit.int .u8 c).wf = true) : Calls Tryd.prog 5 #[.int .u16 n, .int .u8 c] w fun e w' => e = .returned (.bool true) ∧ Below w.heap.size w w' := by
  have h1 := bounds_u16 hn
  have h2 := bounds_u8 hc
  obtain ⟨a, rfl⟩ := Int.eq_ofNat_of_zero_le h1.1
  obtain ⟨b, rfl⟩ := Int.eq_ofNat_of_zero_le h2.1
  exact lexLimits_nat a b w (by omega) (by omega)
end Go.Proofs.YthcfkfehcmkhnaaDoor.LexW
