/- The plain law of printed lines: a line that is printed is read back. Conditions: none. -/
import Derived.Test.YtonpbomjjamphaaGreatDoorNcP5
namespace Go.Proofs.YtonpbomjjamphaaGreatDoor.NcW
open Go Go.RowKit Go.Proofs.YtonpbomjjamphaaGreatDoor.Mem

theorem dig_byte : ∀ (u : Nat) (b : UInt8), b ∈ Lib.decDigits u → 48 ≤ b.toNat ∧ b.toNat ≤ 57 := by
  intro u
  induction u using Nat.strongRecOn with
  | ind u ih =>
    intro b hb
    rw [Lib.decDigits] at hb
    split at hb
    · rename_i h
      simp only [List.mem_cons, List.not_mem_nil, or_false] at hb
      subst hb
      rw [UInt8.toNat_ofNat']
      omega
    · rename_i h
      rcases List.mem_append.1 hb with h1 | h1
      · exact ih (u / 10) (by omega) b h1
      · simp only [List.mem_cons, List.not_mem_nil, or_false] at h1
        subst h1
        rw [UInt8.toNat_ofNat']
        omega
theorem dig_ne (u : Nat) : Lib.decDigits u ≠ [] := by
  rw [Lib.decDigits]
  split <;> simp
theorem itoa_byte (n : Int) (b : UInt8) (hb : b ∈ Lib.itoa n) : b = 45 ∨ (48 ≤ b.toNat ∧ b.toNat ≤ 57) := by
  unfold Lib.itoa at hb
  split at hb
  · rcases List.mem_cons.1 hb with h | h
    · exact .inl h
    · exact .inr (dig_byte _ _ h)
  · exact .inr (dig_byte _ _ hb)
theorem itoa_no (n : Int) (c : UInt8) (h45 : c ≠ 45) (hc : c.toNat < 48) : c ∉ Lib.itoa n := fun h => by
  rcases itoa_byte n c h with h | h
  · exact h45 h
  · omega
theorem parse10_snoc : ∀ (l : List UInt8) (acc : Nat) (c : UInt8) (m : Nat), Lib.parseUint10 acc l = .ok m → Lib.parseUint10 acc (l ++ [c]) = Lib.parseUint10 m [c]
  | [], acc, c, m, h => by
    simp only [Lib.parseUint10] at h
    injection h with h
    subst h
    rfl
  | b :: r, acc, c, m, h => by
    rw [List.cons_append, Lib.parseUint10]
    rw [Lib.parseUint10] at h
    split at h
    · rename_i h1
      rw [if_pos h1]
      split at h
      · cases h
      · rename_i h2
        rw [if_neg h2]
        split at h
        · cases h
        · rename_i h3
          rw [if_neg h3]
          exact parse10_snoc r _ c m h
    · cases h
theorem parse10_dec : ∀ (u : Nat), u < 1000000000000000000 → Lib.parseUint10 0 (Lib.decDigits u) = .ok u := by
  intro u
  induction u using Nat.strongRecOn with
  | ind u ih =>
    intro hu
    rw [Lib.decDigits]
    split
    · rename_i h
      have e : (UInt8.ofNat (48 + u)).toNat = 48 + u := by rw [UInt8.toNat_ofNat']; omega
      rw [Lib.parseUint10, e, if_pos (by omega), if_neg (by omega), if_neg (by omega), Lib.parseUint10]
      congr 1
      omega
    · rename_i h
      have e : (UInt8.ofNat (48 + u % 10)).toNat = 48 + u % 10 := by rw [UInt8.toNat_ofNat']; omega
      rw [parse10_snoc _ _ _ _ (ih (u / 10) (by omega) (by omega)), Lib.parseUint10, e, if_pos (by omega), if_neg (by omega), if_neg (by omega), Lib.parseUint10]
      congr 1
      omega
theorem mag_dec (u : Nat) (h : u < 1000000000000000000) : Lib.parseMag (Lib.decDigits u) = .ok u := by
  rw [Lib.parseMag, if_neg (dig_ne u), parse10_dec u h]
theorem atoi_pos {l : List UInt8} (hne : l ≠ []) (hd : ∀ b ∈ l, 48 ≤ b.toNat) {u : Nat} (hu : u < 1000000000000000000) (h : Lib.parseMag l = .ok u) : Lib.atoiAll l = .ok u := by
  cases l with
  | nil => exact absurd rfl hne
  | cons c r =>
    have hc := hd c List.mem_cons_self
    rw [Lib.atoiAll]
    rw [if_neg (by omega), h]
    simp only
    rw [if_neg (by omega), if_neg (by omega), if_neg (by omega)]
theorem atoi_itoa (n : Int) (h : -999999999 ≤ n ∧ n ≤ 999999999) : Lib.atoiAll (Lib.itoa n) = .ok n := by
  unfold Lib.itoa
  split
  · rename_i h0
    rw [Lib.atoiAll]
    rw [if_pos (by decide), mag_dec _ (by omega)]
    simp only
    rw [if_neg (by simp), if_neg (by simp; omega), if_pos (by decide)]
    congr 1
    omega
  · have := atoi_pos (dig_ne n.toNat) (fun b hb => (dig_byte _ _ hb).1) (u := n.toNat) (by omega) (mag_dec _ (by omega))
    rw [this]
    congr 1
    omega
theorem trim_len (n : Int) (h : -999999999 ≤ n ∧ n ≤ 999999999) : (Lib.trimPrefix (Lib.itoa n) [45]).length ≤ 9 := by
  have hd (u : Nat) (hu : u < 1000000000) : (Lib.decDigits u).length ≤ 9 := dec_len 8 u (by omega)
  unfold Lib.itoa
  split
  · have := hd n.natAbs (by omega)
    simp [Lib.trimPrefix, Lib.hasPrefix, List.isPrefixOf]
    omega
  · have := hd n.toNat (by omega)
    unfold Lib.trimPrefix
    split
    · simp; omega
    · exact this
theorem canon_itoa (n : Int) (h : -999999999 ≤ n ∧ n ≤ 999999999) : canon (Lib.itoa n) = true ∧ cval (Lib.itoa n) = n := by
  unfold canon cval
  rw [atoi_itoa n h]
  have := trim_len n h
  simpa using this
theorem itoa_inj {a b : Int} (ha : -999999999 ≤ a ∧ a ≤ 999999999) (hb : -999999999 ≤ b ∧ b ≤ 999999999) (h : Lib.itoa a = Lib.itoa b) : a = b := by
  have h1 := atoi_itoa a ha
  rw [h, atoi_itoa b hb] at h1
  injection h1 with h1
  exact h1.symm

/- Words. -/
theorem idx_none : ∀ (a : List UInt8), (32 : UInt8) ∉ a → Lib.indexByte a 32 = -1
  | [], _ => rfl
  | c :: l, h => by
    have := idx_none l (fun e => h (by simp [e]))
    unfold Lib.indexByte
    rw [this]
    have hc : (c == 32) = false := by simp; intro e; subst e; exact h (by simp)
    first | simp [hc] | (split <;> simp_all)
theorem idx_mid : ∀ (a r : List UInt8), (32 : UInt8) ∉ a → Lib.indexByte (a ++ 32 :: r) 32 = a.length
  | [], r, _ => by simp [Lib.indexByte]
  | c :: l, r, h => by
    have := idx_mid l r (fun e => h (by simp [e]))
    rw [List.cons_append]
    unfold Lib.indexByte
    rw [this]
    have hc : (c == 32) = false := by simp; intro e; subst e; exact h (by simp)
    first | (simp [hc]; omega) | (split <;> simp_all <;> omega)
theorem count_no (a : List UInt8) (h : (32 : UInt8) ∉ a) : a.count 32 = 0 := List.count_eq_zero.2 h
theorem words_none {a : List UInt8} (h : (32 : UInt8) ∉ a) : words a = [⟨a.toArray⟩] := by
  unfold words
  exact Lib.splitB_miss _ _ _ _ (by
    show Lib.index (ByteArray.mk a.toArray).data.toList [32] = -1
    rw [Lib.index_one]
    exact idx_none a h)
theorem words_cons {a r : List UInt8} (h : (32 : UInt8) ∉ a) : words (a ++ 32 :: r) = ⟨a.toArray⟩ :: words r := by
  have hc : Lib.countB ⟨(a ++ 32 :: r).toArray⟩ ⟨#[32]⟩ = Lib.countB ⟨r.toArray⟩ ⟨#[32]⟩ + 1 := by
    show Lib.count (a ++ 32 :: r) [32] = Lib.count r [32] + 1
    rw [Lib.count_one, Lib.count_one, List.count_append, count_no a h, List.count_cons_self]
    omega
  unfold words
  rw [hc, Lib.splitB_hit _ _ _ _ a.length (by
    show Lib.index (a ++ 32 :: r) [32] = _
    rw [Lib.index_one]
    exact idx_mid a r h)]
  congr 1
  · apply str_eq
    simp [ByteArray.data_extract]
  · congr 1
    apply str_eq
    have hz : (ByteArray.mk (a ++ 32 :: r).toArray).size = a.length + (r.length + 1) := by rw [str_size]; simp
    have hz2 : (ByteArray.mk #[32]).size = 1 := rfl
    rw [ByteArray.data_extract, hz, hz2]
    simp
    exact List.take_of_length_le (by omega)
theorem split_32 : ∀ {a b r t : List UInt8}, (32 : UInt8) ∉ a → (32 : UInt8) ∉ b → a ++ 32 :: r = b ++ 32 :: t → a = b ∧ r = t
  | [], [], r, t, _, _, h => by simpa using h
  | [], c :: b, r, t, _, hb, h => by
    simp only [List.nil_append, List.cons_append] at h
    injection h with h1 h2
    exact absurd (by simp [h1]) hb
  | c :: a, [], r, t, ha, _, h => by
    simp only [List.nil_append, List.cons_append] at h
    injection h with h1 h2
    exact absurd (by simp [h1]) ha
  | c :: a, d :: b, r, t, ha, hb, h => by
    simp only [List.cons_append] at h
    injection h with h1 h2
    obtain ⟨e1, e2⟩ := split_32 (fun e => ha (by simp [e])) (fun e => hb (by simp [e])) h2
    exact ⟨by rw [h1, e1], e2⟩

theorem code_no (k : Int) (c : UInt8) (hc : c.toNat < 48) : c ∉ Nc.code k := by
  have h : ∀ l : List UInt8, (∀ b ∈ l, 48 ≤ b.toNat) → c ∉ l := fun l hl e => by have := hl c e; omega
  unfold Nc.code
  repeat' split
  all_goals exact h _ (by decide)
theorem kind_code {k : Int} (h : 1 ≤ k ∧ k ≤ 6) (r : List ByteArray) : kindW (⟨(Nc.code k).toArray⟩ :: r) = k := by
  obtain h | h | h | h | h | h : k = 1 ∨ k = 2 ∨ k = 3 ∨ k = 4 ∨ k = 5 ∨ k = 6 := by omega
  all_goals
    subst h
    unfold kindW
    rw [List.getD_cons_zero]
    decide +kernel
theorem words_text (k x y : Int) : words (Nc.code k ++ ([32, 88] ++ Lib.itoa x ++ [32, 89] ++ Lib.itoa y)) = [⟨(Nc.code k).toArray⟩, ⟨(88 :: Lib.itoa x).toArray⟩, ⟨(89 :: Lib.itoa y).toArray⟩] := by
  rw [show Nc.code k ++ ([32, 88] ++ Lib.itoa x ++ [32, 89] ++ Lib.itoa y) = Nc.code k ++ 32 :: ((88 :: Lib.itoa x) ++ 32 :: (89 :: Lib.itoa y)) by simp]
  have hx := itoa_no x 32 (by decide) (by decide)
  have hy := itoa_no y 32 (by decide) (by decide)
  rw [words_cons (code_no k 32 (by decide)), words_cons (by simp [hx]), words_none (by simp [hy])]
theorem ok_word {c : UInt8} {d : List UInt8} (hc : canon d = true) : (Lib.hasPrefix (c :: d) [c] && canon (Lib.trimPrefix (c :: d) [c])) = true ∧ Lib.trimPrefix (c :: d) [c] = d := by
  have e : Lib.trimPrefix (c :: d) [c] = d := by simp [Lib.trimPrefix, Lib.hasPrefix, List.isPrefixOf]
  rw [e, hc]
  simp [Lib.hasPrefix, List.isPrefixOf]
theorem rd_coords {k : Int} {a b : List UInt8} (hm : Nc.moving k = true) (ha : canon a = true) (hb : canon b = true) :
    rdW [⟨(Nc.code k).toArray⟩, ⟨(88 :: a).toArray⟩, ⟨(89 :: b).toArray⟩] = if Nc.ok ⟨k, cval a, cval b⟩ then (⟨k, cval a, cval b⟩, 0) else (⟨0, 0, 0⟩, 2) := by
  have hk : 1 ≤ k ∧ k ≤ 6 := by
    simp only [Nc.moving, Bool.or_eq_true, beq_iff_eq] at hm
    omega
  have h1 : okW [⟨(Nc.code k).toArray⟩, ⟨(88 :: a).toArray⟩, ⟨(89 :: b).toArray⟩] 1 88 = true := (ok_word ha).1
  have h2 : okW [⟨(Nc.code k).toArray⟩, ⟨(88 :: a).toArray⟩, ⟨(89 :: b).toArray⟩] 2 89 = true := (ok_word hb).1
  have v1 : valW [⟨(Nc.code k).toArray⟩, ⟨(88 :: a).toArray⟩, ⟨(89 :: b).toArray⟩] 1 88 = cval a := congrArg cval (ok_word ha).2
  have v2 : valW [⟨(Nc.code k).toArray⟩, ⟨(88 :: a).toArray⟩, ⟨(89 :: b).toArray⟩] 2 89 = cval b := congrArg cval (ok_word hb).2
  unfold rdW
  rw [kind_code hk, h1, h2, v1, v2, hm, if_neg (by omega), if_neg (by simp), if_neg (by simp), if_neg (by simp)]
  cases Nc.ok ⟨k, cval a, cval b⟩ <;> simp
theorem rd_text {m : Nc.Mv} (h : Nc.ok m = true) : rdW (words (Nc.text m)) = (m, 0) := by
  obtain ⟨k, x, y⟩ := m
  have hk := Nc.ok_kind h
  have hb := Nc.ok_bound h
  simp only at hk hb
  unfold Nc.text
  simp only
  cases hm : Nc.moving k
  · rw [if_neg (by simp), List.append_nil, words_none (code_no k 32 (by decide))]
    unfold rdW
    rw [kind_code hk, hm, if_neg (by omega), if_pos (by simp)]
    unfold Nc.ok at h
    rw [hm] at h
    simp only [Bool.false_eq_true, if_false, Bool.and_eq_true, beq_iff_eq] at h
    rw [h.2.1, h.2.2]
  · rw [if_pos rfl, words_text, rd_coords hm (canon_itoa x (by omega)).1 (canon_itoa y (by omega)).1, (canon_itoa x (by omega)).2, (canon_itoa y (by omega)).2, if_pos h]
theorem pre_app (a b : List UInt8) : Lib.hasPrefix (a ++ b) a = true ∧ Lib.trimPrefix (a ++ b) a = b := by
  have h : Lib.hasPrefix (a ++ b) a = true := by unfold Lib.hasPrefix; rw [List.isPrefixOf_iff_prefix]; exact List.prefix_append a b
  exact ⟨h, by unfold Lib.trimPrefix; rw [if_pos h, List.drop_left]⟩
theorem line_no (m : Nc.Mv) (i : Nat) : (10 : UInt8) ∉ Nc.number i ++ Nc.text m := by
  have h1 := code_no m.k 10 (by decide)
  have h2 := itoa_no m.x 10 (by decide) (by decide)
  have h3 := itoa_no m.y 10 (by decide) (by decide)
  have h4 := itoa_no (10 * ((i : Int) + 1)) 10 (by decide) (by decide)
  unfold Nc.number Nc.text
  split <;> simp [h1, h2, h3, h4]
/-- A printed program is read back. -/
theorem parseL_prints : ∀ (l acc : List Nc.Mv), (∀ m ∈ l, Nc.ok m = true) → acc.length + l.length ≤ 2000 → parseL (linesOf (Nc.prints l acc.length)) acc = (acc ++ l, 0, 0)
  | [], acc, _, _ => by rw [Nc.prints, linesOf_nil, parseL]; simp
  | m :: r, acc, h, hl => by
    simp only [List.length_cons] at hl
    have ih := parseL_prints r (acc ++ [m]) (fun a ha => h a (by simp [ha])) (by simp; omega)
    have e : Nc.prints (m :: r) acc.length = (Nc.number acc.length ++ Nc.text m) ++ 10 :: Nc.prints r (acc.length + 1) := by
      rw [Nc.prints, Nc.lineOf]; simp
    rw [e, linesOf_cons (by simp), cutLF_mid _ _ (line_no m _)]
    simp only
    rw [parseL_true (pre_app _ _).1, (pre_app _ _).2, rd_text (h m (by simp)), if_neg (by simp), if_neg (by omega)]
    rw [show acc.length + 1 = (acc ++ [m]).length by simp, ih]
    simp
theorem runL_print {l : List Nc.Mv} (h : Nc.valid l = true) : runL (Nc.print l) = (l, 0, 0) := by
  have := parseL_prints l [] (fun m hm => Nc.valid_ok h hm) (by simpa using Nc.valid_len h)
  unfold runL Nc.print
  simpa using this
end Go.Proofs.YtonpbomjjamphaaGreatDoor.NcW
