/- The plain law of NcodeNumbers: what Parse says of the law's five texts. Conditions: none. -/
import Derived.Test.YtonpbomjjamphaaDoorNcP7
namespace Go.Proofs.YtonpbomjjamphaaDoor.NcW
open Go Go.RowKit Go.Proofs.YtonpbomjjamphaaDoor.Mem

theorem run_line {ln : List UInt8} (h : (10 : UInt8) ∉ ln) : runL (ln ++ [10]) = parseL [(ln, true)] [] := by
  unfold runL
  rw [linesOf_cons (by simp), show ln ++ [10] = ln ++ 10 :: [] from rfl, cutLF_mid _ _ h]
  simp only
  rw [linesOf_nil]
theorem itoa_ten : Lib.itoa 10 = [49, 48] := by
  unfold Lib.itoa
  rw [if_neg (by decide), show (10 : Int).toNat = 10 from rfl, Lib.decDigits_two (by decide) (by decide)]
  rfl
theorem number_zero : Nc.number 0 = [78, 49, 48, 32] := by
  unfold Nc.number
  rw [show (10 * (((0 : Nat) : Int) + 1)) = 10 from rfl, itoa_ten]
  rfl
theorem run_ten {t : List UInt8} (h : (10 : UInt8) ∉ t) : runL ([78, 49, 48, 32] ++ t ++ [10]) = if (rdW (words t)).2 ≠ 0 then ([], 0, (rdW (words t)).2) else ([(rdW (words t)).1], 0, 0) := by
  have hp := pre_app [78, 49, 48, 32] t
  rw [run_line (by simpa using h), parseL_true (by rw [List.length_nil, number_zero]; exact hp.1), List.length_nil, number_zero, hp.2]
  split
  · rfl
  · rw [if_neg (by decide)]
    rfl
theorem run_other {n : Int} {t : List UInt8} (hn : 0 ≤ n ∧ n ≤ 255) (h : (10 : UInt8) ∉ t) (hne : n ≠ 10) : runL ((78 :: (Lib.itoa n ++ 32 :: t)) ++ [10]) = ([], 0, 3) := by
  have h4 := itoa_no n 10 (by decide) (by decide)
  rw [run_line (by simp [h, h4]), parseL, if_pos (Or.inl ?_)]
  · rfl
  rw [List.length_nil, number_zero]
  cases hp : Lib.hasPrefix (78 :: (Lib.itoa n ++ 32 :: t)) [78, 49, 48, 32]
  · rfl
  · exfalso
    unfold Lib.hasPrefix at hp
    rw [List.isPrefixOf_iff_prefix] at hp
    obtain ⟨r, hr⟩ := hp
    have h32 := itoa_no n 32 (by decide) (by decide)
    simp only [List.cons_append, List.nil_append] at hr
    injection hr with _ hr
    have e := (split_32 (a := [49, 48]) (by decide) h32 hr).1
    rw [← itoa_ten] at e
    exact hne (itoa_inj (by omega) (by omega) e).symm
theorem rd_bad {k : Int} {a b : List UInt8} (hm : Nc.moving k = true) (ha : canon a = false) :
    (rdW [⟨(Nc.code k).toArray⟩, ⟨(88 :: a).toArray⟩, ⟨(89 :: b).toArray⟩]).2 = 3 := by
  have hk : 1 ≤ k ∧ k ≤ 6 := by
    simp only [Nc.moving, Bool.or_eq_true, beq_iff_eq] at hm
    omega
  have e : Lib.trimPrefix (88 :: a) [88] = a := by simp [Lib.trimPrefix, Lib.hasPrefix, List.isPrefixOf]
  have h1 : okW [⟨(Nc.code k).toArray⟩, ⟨(88 :: a).toArray⟩, ⟨(89 :: b).toArray⟩] 1 88 = false := by
    show (Lib.hasPrefix (88 :: a) [88] && canon (Lib.trimPrefix (88 :: a) [88])) = false
    rw [e, ha, Bool.and_false]
  unfold rdW
  rw [kind_code hk, h1, hm, if_neg (by omega), if_neg (by simp), if_neg (by simp), if_pos (by simp)]
theorem words_coords {c a b : List UInt8} (hc : (32 : UInt8) ∉ c) (ha : (32 : UInt8) ∉ a) (hb : (32 : UInt8) ∉ b) : words (c ++ [32, 88] ++ a ++ [32, 89] ++ b) = [⟨c.toArray⟩, ⟨(88 :: a).toArray⟩, ⟨(89 :: b).toArray⟩] := by
  rw [show c ++ [32, 88] ++ a ++ [32, 89] ++ b = c ++ 32 :: ((88 :: a) ++ 32 :: (89 :: b)) by simp]
  rw [words_cons hc, words_cons (by simp [ha]), words_none (by simp [hb])]
theorem canon_zero (a : Int) (h : 0 ≤ a ∧ a ≤ 999999999) : canon (48 :: Lib.itoa a) = false := by
  have hi : Lib.itoa a = Lib.decDigits a.toNat := by unfold Lib.itoa; rw [if_neg (by omega)]
  have hm : Lib.parseMag (48 :: Lib.itoa a) = .ok a.toNat := by
    rw [Lib.parseMag, if_neg (by simp), Lib.parseUint10, if_pos (by decide), if_neg (by decide), if_neg (by decide), hi]
    exact parse10_dec _ (by omega)
  have := atoi_pos (l := 48 :: Lib.itoa a) (by simp) (fun b hb => by
    rcases List.mem_cons.1 hb with rfl | hb
    · decide
    · rw [hi] at hb; exact (dig_byte _ _ hb).1) (by omega) hm
  unfold canon
  rw [this]
  simp only [Bool.and_eq_false_imp, decide_eq_true_eq]
  intro e
  rw [show ((a.toNat : Nat) : Int) = a by omega] at e
  have := congrArg List.length e
  simp at this
theorem itoa_one : Lib.itoa 1 = [49] := by
  unfold Lib.itoa
  rw [if_neg (by decide), show (1 : Int).toNat = 1 from rfl, Lib.decDigits_one (by decide)]
  rfl
theorem canon_plus : canon [43, 49] = false := by
  have : Lib.atoiAll [43, 49] = .ok 1 := by decide
  unfold canon
  rw [this]
  simp only [itoa_one]
  decide
theorem itoa_small (n : Nat) (h : n < 10) : Lib.itoa n = [UInt8.ofNat (48 + n)] := by
  unfold Lib.itoa
  rw [if_neg (by omega), show ((n : Nat) : Int).toNat = n by omega, Lib.decDigits_one h]
theorem itoa_2001 : Lib.itoa 2001 = [50, 48, 48, 49] := by
  unfold Lib.itoa
  rw [if_neg (by decide), show (2001 : Int).toNat = 2001 from rfl, Lib.decDigits, dif_neg (by decide), Lib.decDigits, dif_neg (by decide), Lib.decDigits_two (by decide) (by decide)]
  rfl

def small (n : Int) : Prop := -2000 ≤ n ∧ n ≤ 2000
theorem small_ok {x y : Int} (hx : small x) (hy : small y) : Nc.ok ⟨2, x, y⟩ = true := by
  unfold small at hx hy
  unfold Nc.ok
  simp only
  rw [if_pos (by decide), Nc.within_iff]
  omega
theorem text_two (x y : Int) : Nc.text ⟨2, x, y⟩ = [71, 48, 49, 32, 88] ++ Lib.itoa x ++ [32, 89] ++ Lib.itoa y := by
  unfold Nc.text
  simp only
  rw [if_pos (by decide), show Nc.code 2 = [71, 48, 49] by decide]
  simp
theorem text_no (x y : Int) : (10 : UInt8) ∉ [71, 48, 49, 32, 88] ++ Lib.itoa x ++ [32, 89] ++ Lib.itoa y := by
  have h2 := itoa_no x 10 (by decide) (by decide)
  have h3 := itoa_no y 10 (by decide) (by decide)
  simp [h2, h3]
theorem num_one {x y : Int} (hx : small x) (hy : small y) : runL ([78, 49, 48, 32] ++ ([71, 48, 49, 32, 88] ++ Lib.itoa x ++ [32, 89] ++ Lib.itoa y) ++ [10]) = ([⟨2, x, y⟩], 0, 0) := by
  rw [run_ten (text_no x y), ← text_two, rd_text (small_ok hx hy)]
  simp
theorem num_two {x y n : Int} (hx : small x) (hy : small y) (hn : 0 ≤ n ∧ n ≤ 255) : runL ((78 :: (Lib.itoa n ++ 32 :: ([71, 48, 49, 32, 88] ++ Lib.itoa x ++ [32, 89] ++ Lib.itoa y))) ++ [10]) = if n = 10 then ([⟨2, x, y⟩], 0, 0) else ([], 0, 3) := by
  split
  · rename_i h
    subst h
    rw [itoa_ten]
    exact num_one hx hy
  · rename_i h
    exact run_other hn (text_no x y) h
theorem num_three {a : Int} (h : 0 ≤ a ∧ a ≤ 2000) : runL ([78, 49, 48, 32] ++ ([71, 48, 49] ++ [32, 88] ++ (48 :: Lib.itoa a) ++ [32, 89] ++ [48]) ++ [10]) = ([], 0, 3) := by
  have h1 := itoa_no a 10 (by decide) (by decide)
  have h2 := itoa_no a 32 (by decide) (by decide)
  rw [run_ten (by simp [h1]), words_coords (by decide) (by simp [h2]) (by decide)]
  have hb := rd_bad (k := 2) (b := [48]) (by decide) (canon_zero a (by omega))
  rw [show Nc.code 2 = [71, 48, 49] by decide] at hb
  rw [hb]
  simp
theorem num_four {y : Int} (hy : small y) : runL ([78, 49, 48, 32] ++ ([71, 48, 49] ++ [32, 88] ++ [50, 48, 48, 49] ++ [32, 89] ++ Lib.itoa y) ++ [10]) = ([], 0, 2) := by
  have h1 := itoa_no y 10 (by decide) (by decide)
  have h2 := itoa_no y 32 (by decide) (by decide)
  unfold small at hy
  rw [run_ten (by simp [h1]), words_coords (by decide) (by decide) h2]
  have hc := canon_itoa 2001 (by decide)
  rw [itoa_2001] at hc
  have hb := rd_coords (k := 2) (by decide) hc.1 (canon_itoa y (by omega)).1
  rw [show Nc.code 2 = [71, 48, 49] by decide, hc.2, if_neg (by unfold Nc.ok; simp only; rw [if_pos (by decide), Nc.within_iff]; omega)] at hb
  rw [hb]
  simp
theorem num_five : runL ([78, 49, 48, 32] ++ ([71, 48, 48] ++ [32, 88] ++ [43, 49] ++ [32, 89] ++ [48]) ++ [10]) = ([], 0, 3) := by
  rw [run_ten (by decide), words_coords (by decide) (by decide) (by decide)]
  have hb := rd_bad (k := 1) (b := [48]) (by decide) canon_plus
  rw [show Nc.code 1 = [71, 48, 48] by decide] at hb
  rw [hb]
  simp
end Go.Proofs.YtonpbomjjamphaaDoor.NcW
