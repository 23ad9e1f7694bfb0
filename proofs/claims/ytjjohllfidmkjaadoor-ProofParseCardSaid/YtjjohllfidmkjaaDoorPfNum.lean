/- Numerals, in plain Lean: what a number's text holds, and that it is read back. No program is in sight. Conditions: as stated. -/
import Derived.Lib.AtoiAll
import Derived.Lib.ItoaNum
import Derived.Test.YtjjohllfidmkjaaDoorPfR
namespace Go.Proofs.YtjjohllfidmkjaaDoor.Pf
open Go

theorem dig_byte : ∀ (u : Nat) (b : UInt8), b ∈ Lib.decDigits u → 48 ≤ b.toNat ∧ b.toNat ≤ 57 := by
  intro u
  induction u using Nat.strongRecOn with
  | ind u ih =>
    intro b hb
    rw [Lib.decDigits] at hb
    split at hb
    · rename_i h
      simp only [List.mem_cons, List.not_mem_nil, or_false] at hb
      subst hb
      rw [UInt8.toNat_ofNat']
      omega
    · rename_i h
      rcases List.mem_append.1 hb with h1 | h1
      · exact ih (u / 10) (by omega) b h1
      · simp only [List.mem_cons, List.not_mem_nil, or_false] at h1
        subst h1
        rw [UInt8.toNat_ofNat']
        omega
theorem dig_ne (u : Nat) : Lib.decDigits u ≠ [] := by
  rw [Lib.decDigits]
  split <;> simp
theorem itoa_byte (n : Int) (b : UInt8) (hb : b ∈ Lib.itoa n) : b = 45 ∨ (48 ≤ b.toNat ∧ b.toNat ≤ 57) := by
  unfold Lib.itoa at hb
  split at hb
  · rcases List.mem_cons.1 hb with h | h
    · exact .inl h
    · exact .inr (dig_byte _ _ h)
  · exact .inr (dig_byte _ _ hb)
theorem itoa_no (n : Int) (c : UInt8) (h45 : c ≠ 45) (hc : c.toNat < 48) : c ∉ Lib.itoa n := fun h => by
  rcases itoa_byte n c h with h | h
  · exact h45 h
  · omega
theorem parse10_snoc : ∀ (l : List UInt8) (acc : Nat) (c : UInt8) (m : Nat), Lib.parseUint10 acc l = .ok m → Lib.parseUint10 acc (l ++ [c]) = Lib.parseUint10 m [c]
  | [], acc, c, m, h => by
    simp only [Lib.parseUint10] at h
    injection h with h
    subst h
    rfl
  | b :: r, acc, c, m, h => by
    rw [List.cons_append, Lib.parseUint10]
    rw [Lib.parseUint10] at h
    split at h
    · rename_i h1
      rw [if_pos h1]
      split at h
      · cases h
      · rename_i h2
        rw [if_neg h2]
        split at h
        · cases h
        · rename_i h3
          rw [if_neg h3]
          exact parse10_snoc r _ c m h
    · cases h
theorem parse10_dec : ∀ (u : Nat), u < 1000000000000000000 → Lib.parseUint10 0 (Lib.decDigits u) = .ok u := by
  intro u
  induction u using Nat.strongRecOn with
  | ind u ih =>
    intro hu
    rw [Lib.decDigits]
    split
    · rename_i h
      have e : (UInt8.ofNat (48 + u)).toNat = 48 + u := by rw [UInt8.toNat_ofNat']; omega
      rw [Lib.parseUint10, e, if_pos (by omega), if_neg (by omega), if_neg (by omega), Lib.parseUint10]
      congr 1
      omega
    · rename_i h
      have e : (UInt8.ofNat (48 + u % 10)).toNat = 48 + u % 10 := by rw [UInt8.toNat_ofNat']; omega
      rw [parse10_snoc _ _ _ _ (ih (u / 10) (by omega) (by omega)), Lib.parseUint10, e, if_pos (by omega), if_neg (by omega), if_neg (by omega), Lib.parseUint10]
      congr 1
      omega
theorem mag_dec (u : Nat) (h : u < 1000000000000000000) : Lib.parseMag (Lib.decDigits u) = .ok u := by
  rw [Lib.parseMag, if_neg (dig_ne u), parse10_dec u h]
theorem atoi_pos {l : List UInt8} (hne : l ≠ []) (hd : ∀ b ∈ l, 48 ≤ b.toNat) {u : Nat} (hu : u < 1000000000000000000) (h : Lib.parseMag l = .ok u) : Lib.atoiAll l = .ok u := by
  cases l with
  | nil => exact absurd rfl hne
  | cons c r =>
    have hc := hd c List.mem_cons_self
    rw [Lib.atoiAll]
    rw [if_neg (by omega), h]
    simp only
    rw [if_neg (by omega), if_neg (by omega), if_neg (by omega)]
theorem atoi_itoa (n : Int) (h : -2147483648 ≤ n ∧ n ≤ 2147483648) : Lib.atoiAll (Lib.itoa n) = .ok n := by
  unfold Lib.itoa
  split
  · rename_i h0
    rw [Lib.atoiAll]
    rw [if_pos (by decide), mag_dec _ (by omega)]
    simp only
    rw [if_neg (by simp), if_neg (by simp; omega), if_pos (by decide)]
    congr 1
    omega
  · have := atoi_pos (dig_ne n.toNat) (fun b hb => (dig_byte _ _ hb).1) (u := n.toNat) (by omega) (mag_dec _ (by omega))
    rw [this]
    congr 1
    omega
theorem itoa_inj {a b : Int} (ha : -2147483648 ≤ a ∧ a ≤ 2147483648) (hb : -2147483648 ≤ b ∧ b ≤ 2147483648) (h : Lib.itoa a = Lib.itoa b) : a = b := by
  have h1 := atoi_itoa a ha
  rw [h, atoi_itoa b hb] at h1
  injection h1 with h1
  exact h1.symm

theorem dec_len : ∀ (k u : Nat), u < 10 ^ (k + 1) → (Lib.decDigits u).length ≤ k + 1
  | 0, u, h => by
    rw [Lib.decDigits, dif_pos (by simpa using h)]; simp
  | k + 1, u, h => by
    rw [Lib.decDigits]
    split
    · simp
    · have : u / 10 < 10 ^ (k + 1) := by rw [Nat.pow_succ] at h; omega
      have := dec_len k (u / 10) this
      rw [List.length_append]; simp; omega
theorem itoa_len {n : Int} (h : smallB n = true) : 1 ≤ (Lib.itoa n).length ∧ (Lib.itoa n).length ≤ 11 := by
  unfold smallB at h
  simp only [Bool.and_eq_true, decide_eq_true_eq] at h
  have h1 : ∀ u : Nat, 1 ≤ (Lib.decDigits u).length := fun u => by
    have := dig_ne u
    cases hx : Lib.decDigits u with
    | nil => exact absurd hx this
    | cons _ _ => simp
  unfold Lib.itoa
  split
  · have := dec_len 9 n.natAbs (by omega)
    have := h1 n.natAbs
    simp only [List.length_cons]; omega
  · have := dec_len 9 n.toNat (by omega)
    have := h1 n.toNat
    omega
theorem byte_num {b : UInt8} (h : b = 45 ∨ (48 ≤ b.toNat ∧ b.toNat ≤ 57)) : isNum b = true := by
  unfold isNum
  rcases h with rfl | h
  · rfl
  · have h1 : (48 : UInt8) ≤ b := by rw [UInt8.le_iff_toNat_le]; simpa using h.1
    have h2 : b ≤ (57 : UInt8) := by rw [UInt8.le_iff_toNat_le]; simpa using h.2
    simp [h1, h2]
theorem itoa_num (n : Int) : ∀ b ∈ Lib.itoa n, isNum b = true := fun b hb => byte_num (itoa_byte n b hb)
theorem take_num : ∀ (l r : List UInt8), (∀ b ∈ l, isNum b = true) → (∀ c r', r = c :: r' → isNum c = false) → (l ++ r).takeWhile isNum = l
  | [], r, _, hr => by
    cases r with
    | nil => rfl
    | cons c r' => rw [List.nil_append, List.takeWhile_cons, hr c r' rfl]; rfl
  | c :: l, r, hl, hr => by
    rw [List.cons_append, List.takeWhile_cons, hl c List.mem_cons_self, if_pos rfl, take_num l r (fun b hb => hl b (List.mem_cons_of_mem _ hb)) hr]
/-- A number is read back, if something follows that is no part of one. -/
theorem pNum_back {n : Int} (h : smallB n = true) {c : UInt8} {r : List UInt8} (hc : isNum c = false) : pNum (Lib.itoa n ++ c :: r) = some (n, c :: r) := by
  have ht := take_num (Lib.itoa n) (c :: r) (itoa_num n) (fun c' r' e => by cases e; exact hc)
  have hl : numLen (Lib.itoa n ++ c :: r) = (Lib.itoa n).length := by unfold numLen; rw [ht]
  have hs := h
  unfold smallB at hs
  simp only [Bool.and_eq_true, decide_eq_true_eq] at hs
  unfold pNum
  rw [hl, if_neg (by simp), List.take_left, List.drop_left]
  unfold pNumD
  rw [atoi_itoa n (by omega)]
  simp [h]
theorem pNum_some {s : List UInt8} {n : Int} {r : List UInt8} (h : pNum s = some (n, r)) : s = Lib.itoa n ++ r ∧ smallB n = true ∧ ∃ c r', r = c :: r' ∧ isNum c = false := by
  unfold pNum at h
  split at h
  · cases h
  · rename_i h1
    unfold pNumD at h
    split at h
    · split at h
      · rename_i h2
        simp only [Bool.and_eq_true, decide_eq_true_eq] at h2
        cases h
        refine ⟨by rw [h2.2, List.take_append_drop], h2.1, ?_⟩
        have hd : s.drop (numLen s) = s.dropWhile isNum := by
          clear h2 h1
          have e := List.takeWhile_append_dropWhile (p := isNum) (l := s)
          unfold numLen
          generalize s.takeWhile isNum = a at *
          generalize s.dropWhile isNum = b at *
          rw [← e, List.drop_left]
        rw [hd]
        cases hx : s.dropWhile isNum with
        | nil =>
          exfalso
          have e := List.takeWhile_append_dropWhile (p := isNum) (l := s)
          rw [hx, List.append_nil] at e
          exact h1 (by unfold numLen; rw [e])
        | cons c r' =>
          refine ⟨c, r', rfl, ?_⟩
          have := List.head?_dropWhile_not isNum s
          rw [hx] at this
          simpa using this
      · cases h
    · cases h
theorem pNum_len {s : List UInt8} {n : Int} {r : List UInt8} (h : pNum s = some (n, r)) : r.length < s.length := by
  obtain ⟨h1, h2, _⟩ := pNum_some h
  have := itoa_len h2
  rw [h1, List.length_append]; omega
end Go.Proofs.YtjjohllfidmkjaaDoor.Pf
