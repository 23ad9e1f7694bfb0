/- Walks: names, of the program and of the reference. Conditions: as stated. -/
import Derived.Test.YtnmmhcchpcbeeaaGreatProg
import Derived.Test.YtnmmhcchpcbeeaaGreatLexLaws
import Derived.Test.YtnmmhcchpcbeeaaGreatMem
import Derived.Lib.Strings
import Derived.Lib.Bytealg
import Derived.Shelf.Abstract
import Derived.WalkKit
import Derived.WalkLawsBesides
import Derived.WalkSpells
import Derived.Lib.Hide
import Derived.BigQuiet
import Derived.Deep.QuietTactic

namespace Go.Proofs.YtnmmhcchpcbeeaaGreat.LexW
open Go Go.RowKit Go.Proofs.YtnmmhcchpcbeeaaGreat.Mem

abbrev Returns (w : World) (v : Value) : Ending → World → Prop := fun e w' => e = .returned v ∧ w = w'

theorem ret_bool {a b : Bool} (h : a = b) : Ending.returned (.bool a) = .returned (.bool b) := by rw [h]
theorem ret_int {k : IntKind} {a b : Int} (h : a = b) : Ending.returned (.int k a) = .returned (.int k b) := by rw [h]
theorem byte_lt (c : UInt8) : (c.toNat : Int) < 256 := by have := c.toNat_lt; omega

theorem letter_any (c : UInt8) (w : World) : Calls Tryz.prog 86 #[.int .u8 (c.toNat : Int)] w (Returns w (.bool (Lex.letter c))) := by
  rcases (show (97 ≤ c.toNat ∧ c.toNat ≤ 122) ∨ (122 < c.toNat) ∨ (c.toNat < 97 ∧ 65 ≤ c.toNat ∧ c.toNat ≤ 90) ∨ (90 < c.toNat ∧ c.toNat < 97) ∨ c.toNat < 65 by omega) with h | h | h | h | h
  all_goals
    go_enter Tryz.func86, Tryz.ntmps86
    go_wp2
    go_ret
    refine ⟨ret_bool ?_, rfl⟩
    rw [Bool.eq_iff_iff]
    simp [Lex.letter]
    omega
theorem digit_any (c : UInt8) (w : World) : Calls Tryz.prog 144 #[.int .u8 (c.toNat : Int)] w (Returns w (.bool (Lex.digit c))) := by
  rcases (show (48 ≤ c.toNat ∧ c.toNat ≤ 57) ∨ (57 < c.toNat) ∨ c.toNat < 48 by omega) with h | h | h
  all_goals
    go_enter Tryz.func144, Tryz.ntmps144
    go_wp2
    go_ret
    refine ⟨ret_bool ?_, rfl⟩
    rw [Bool.eq_iff_iff]
    simp [Lex.digit]
    omega
theorem letter_yes (c : UInt8) (h : Lex.letter c = true) (w : World) : Calls Tryz.prog 86 #[.int .u8 (c.toNat : Int)] w (Returns w (.bool true)) := by
  have := letter_any c w; rwa [h] at this
theorem letter_no (c : UInt8) (h : Lex.letter c = false) (w : World) : Calls Tryz.prog 86 #[.int .u8 (c.toNat : Int)] w (Returns w (.bool false)) := by
  have := letter_any c w; rwa [h] at this
theorem digit_yes (c : UInt8) (h : Lex.digit c = true) (w : World) : Calls Tryz.prog 144 #[.int .u8 (c.toNat : Int)] w (Returns w (.bool true)) := by
  have := digit_any c w; rwa [h] at this
theorem digit_no (c : UInt8) (h : Lex.digit c = false) (w : World) : Calls Tryz.prog 144 #[.int .u8 (c.toNat : Int)] w (Returns w (.bool false)) := by
  have := digit_any c w; rwa [h] at this
theorem inner_any (c : UInt8) (w : World) : Calls Tryz.prog 88 #[.int .u8 (c.toNat : Int)] w (Returns w (.bool (Lex.inner c))) := by
  cases h1 : Lex.letter c
  · cases h2 : Lex.digit c
    · have H1 := Lib.hid h1
      have H2 := Lib.hid h2
      have hI : Lex.inner c = ((c.toNat : Int) == 95) := by
        rw [Bool.eq_iff_iff]; simp [Lex.inner, h1, h2]; omega
      rw [hI]
      clear h1 h2 hI
      cases h3 : ((c.toNat : Int) == 95)
      all_goals
        go_enter Tryz.func88, Tryz.ntmps88
        go_wp2_with (first | (go_at_call 86; refine (letter_no _ H1.out _).mono ?_; rintro e w' ⟨rfl, rfl⟩) | (go_at_call 144; refine (digit_no _ H2.out _).mono ?_; rintro e w' ⟨rfl, rfl⟩))
        go_ret
        exact ⟨rfl, rfl⟩
    · have H1 := Lib.hid h1
      have H2 := Lib.hid h2
      have hI : Lex.inner c = true := by simp [Lex.inner, h2]
      rw [hI]
      clear h1 h2 hI
      go_enter Tryz.func88, Tryz.ntmps88
      go_wp2_with (first | (go_at_call 86; refine (letter_no _ H1.out _).mono ?_; rintro e w' ⟨rfl, rfl⟩) | (go_at_call 144; refine (digit_yes _ H2.out _).mono ?_; rintro e w' ⟨rfl, rfl⟩))
      go_ret
      exact ⟨rfl, rfl⟩
  · have H1 := Lib.hid h1
    have hI : Lex.inner c = true := by simp [Lex.inner, h1]
    rw [hI]
    clear h1 hI
    go_enter Tryz.func88, Tryz.ntmps88
    go_wp2_with (go_at_call 86; refine (letter_yes _ H1.out _).mono ?_; rintro e w' ⟨rfl, rfl⟩)
    go_ret
    exact ⟨rfl, rfl⟩
theorem inner_yes (c : UInt8) (h : Lex.inner c = true) (w : World) : Calls Tryz.prog 88 #[.int .u8 (c.toNat : Int)] w (Returns w (.bool true)) := by
  have := inner_any c w; rwa [h] at this
theorem inner_no (c : UInt8) (h : Lex.inner c = false) (w : World) : Calls Tryz.prog 88 #[.int .u8 (c.toNat : Int)] w (Returns w (.bool false)) := by
  have := inner_any c w; rwa [h] at this
/-! ### The reference -/
theorem rletter_any (c : UInt8) (w : World) : Calls Tryz.prog 90 #[.int .u8 (c.toNat : Int)] w (Returns w (.bool (Lex.letter c))) := by
  rcases (show (97 ≤ c.toNat ∧ c.toNat ≤ 122) ∨ (122 < c.toNat) ∨ (c.toNat < 97 ∧ 65 ≤ c.toNat ∧ c.toNat ≤ 90) ∨ (90 < c.toNat ∧ c.toNat < 97) ∨ c.toNat < 65 by omega) with h | h | h | h | h
  all_goals
    go_enter Tryz.func90, Tryz.ntmps90
    go_wp2
    go_ret
    refine ⟨ret_bool ?_, rfl⟩
    rw [Bool.eq_iff_iff]
    simp [Lex.letter]
    omega
theorem rdigit_any (c : UInt8) (w : World) : Calls Tryz.prog 145 #[.int .u8 (c.toNat : Int)] w (Returns w (.bool (Lex.digit c))) := by
  rcases (show (48 ≤ c.toNat ∧ c.toNat ≤ 57) ∨ (57 < c.toNat) ∨ c.toNat < 48 by omega) with h | h | h
  all_goals
    go_enter Tryz.func145, Tryz.ntmps145
    go_wp2
    go_ret
    refine ⟨ret_bool ?_, rfl⟩
    rw [Bool.eq_iff_iff]
    simp [Lex.digit]
    omega
theorem rletter_yes (c : UInt8) (h : Lex.letter c = true) (w : World) : Calls Tryz.prog 90 #[.int .u8 (c.toNat : Int)] w (Returns w (.bool true)) := by
  have := rletter_any c w; rwa [h] at this
theorem rletter_no (c : UInt8) (h : Lex.letter c = false) (w : World) : Calls Tryz.prog 90 #[.int .u8 (c.toNat : Int)] w (Returns w (.bool false)) := by
  have := rletter_any c w; rwa [h] at this
theorem rdigit_yes (c : UInt8) (h : Lex.digit c = true) (w : World) : Calls Tryz.prog 145 #[.int .u8 (c.toNat : Int)] w (Returns w (.bool true)) := by
  have := rdigit_any c w; rwa [h] at this
theorem rdigit_no (c : UInt8) (h : Lex.digit c = false) (w : World) : Calls Tryz.prog 145 #[.int .u8 (c.toNat : Int)] w (Returns w (.bool false)) := by
  have := rdigit_any c w; rwa [h] at this


/-- How many bytes of a kind stand from an offset on. -/
def run (p : UInt8 → Bool) (s : ByteArray) (k : Nat) : Nat := ((s.data.toList.drop k).takeWhile p).length
theorem size_list (s : ByteArray) : s.data.toList.length = s.size := Array.length_toList
theorem drop_at (s : ByteArray) (k : Nat) (h : k < s.size) : s.data.toList.drop k = s[k] :: s.data.toList.drop (k + 1) := by
  rw [List.drop_eq_getElem_cons (by rw [size_list]; exact h)]
  rfl
theorem run_yes {p : UInt8 → Bool} {s : ByteArray} {k : Nat} (h : k < s.size) (hp : p s[k] = true) : run p s k = run p s (k + 1) + 1 := by
  unfold run
  rw [drop_at s k h, List.takeWhile_cons, if_pos hp, List.length_cons]
theorem run_no {p : UInt8 → Bool} {s : ByteArray} {k : Nat} (h : k < s.size) (hp : p s[k] = false) : run p s k = 0 := by
  unfold run
  rw [drop_at s k h, List.takeWhile_cons, if_neg (by simp [hp]), List.length_nil]
theorem run_end {p : UInt8 → Bool} {s : ByteArray} {k : Nat} (h : s.size ≤ k) : run p s k = 0 := by
  unfold run
  rw [List.drop_of_length_le (by rw [size_list]; exact h)]; rfl
theorem run_le (p : UInt8 → Bool) (s : ByteArray) (k : Nat) (h : k ≤ s.size) : k + run p s k ≤ s.size := by
  have h1 := (List.takeWhile_prefix p (l := s.data.toList.drop k)).length_le
  rw [List.length_drop, size_list] at h1
  unfold run; omega

theorem while_any (g : FuncId) (p : UInt8 → Bool) (eg : Enters Tryz.prog g) (hg : Hid (∀ (c : UInt8) (w : World), Calls Tryz.prog g #[.int .u8 (c.toNat : Int)] w (Returns w (.bool (p c)))))
    (s : ByteArray) (i : Nat) (w : World) (hi : i ≤ s.size) (hs : s.size ≤ 1000000) :
    Calls Tryz.prog 87 #[.string s, .int .i64 (i : Int), .func (.func g) #[] #[]] w (Returns w (.int .i64 ((i + run p s i : Nat) : Int))) := by
  unfold Enters at eg
  go_enter Tryz.func87, Tryz.ntmps87
  go_wp2
  go_loop [1] (fun t => ∃ k : Nat, k ≤ s.size ∧ t = .int .i64 k ∧ i + run p s i = k + run p s k) (fun t => s.size - (intOf t).toNat)
  case atStart => exact ⟨i, hi, rfl, rfl⟩
  case round =>
    obtain ⟨k, hk, rfl, he⟩ := hrel
    have HE := Lib.hid he
    clear he
    by_cases hlt : k < s.size
    · cases hp : p s[k]
      · have hc : ∀ w, Calls Tryz.prog g #[.int .u8 (s[k].toNat : Int)] w (Returns w (.bool false)) := fun w => by have := hg.out s[k] w; rwa [hp] at this
        have HC := Lib.hid hc
        have hz := Lib.hid (run_no hlt hp)
        clear hc hp
        go_wp2_with ((with_reducible refine (HC.out _).mono ?_); rintro e w' ⟨rfl, rfl⟩)
        go_ret
        refine ⟨ret_int ?_, rfl⟩
        have e1 := HE.out
        have e2 := hz.out
        omega
      · have hc : ∀ w, Calls Tryz.prog g #[.int .u8 (s[k].toNat : Int)] w (Returns w (.bool true)) := fun w => by have := hg.out s[k] w; rwa [hp] at this
        have HC := Lib.hid hc
        have hz := Lib.hid (run_yes hlt hp)
        clear hc hp
        go_wp2_with ((with_reducible refine (HC.out _).mono ?_); rintro e w' ⟨rfl, rfl⟩)
        go_round
        case rel => exact ⟨k + 1, by omega, by go_num, by rw [HE.out, hz.out]; omega⟩
        case measure => simp [intOf]; omega
    · have hz := Lib.hid (run_end (p := p) (s := s) (k := k) (by omega))
      go_wp2
      go_ret
      refine ⟨ret_int ?_, rfl⟩
      have e1 := HE.out
      have e2 := hz.out
      omega
theorem while_inner (s : ByteArray) (i : Nat) (w : World) (hi : i ≤ s.size) (hs : s.size ≤ 1000000) :
    Calls Tryz.prog 87 #[.string s, .int .i64 (i : Int), .func (.func 88) #[] #[]] w (Returns w (.int .i64 ((i + run Lex.inner s i : Nat) : Int))) :=
  while_any _ _ (enters_of Tryz.func88 (by kernel_rfl) rfl) inner_any s i w hi hs
theorem while_digit (s : ByteArray) (i : Nat) (w : World) (hi : i ≤ s.size) (hs : s.size ≤ 1000000) :
    Calls Tryz.prog 87 #[.string s, .int .i64 (i : Int), .func (.func 144) #[] #[]] w (Returns w (.int .i64 ((i + run Lex.digit s i : Nat) : Int))) :=
  while_any _ _ (enters_of Tryz.func144 (by kernel_rfl) rfl) digit_any s i w hi hs


def zeroTok : Value := .agg #[.int .i64 0, .string ⟨#[]⟩, .int .i64 0, .int .i64 0]
def okTok (t : Lex.TR) (i : Nat) : Value := .agg #[.int .i64 t.kind, .string ⟨t.text.toArray⟩, .int .i64 t.n, .int .i64 (i : Int)]
/-- What a reader of one token hands back, 'end' being the offset behind it or its length. -/
def trV (t : Lex.TR) (i j : Nat) : Value := if t.err = 0 then .tuple #[okTok t i, .int .i64 (j : Int), .int .i64 0] else .tuple #[zeroTok, .int .i64 0, .int .i64 t.err]

theorem extract_list (s : ByteArray) (a b : Nat) : (s.extract a b).data.toList = (s.data.toList.drop a).take (b - a) := by
  simp only [ByteArray.data_extract, Array.toList_extract, List.extract_eq_take_drop]
theorem toList_isEmpty (b : ByteArray) : b.toList.isEmpty = b.data.toList.isEmpty := by rw [Go.ByteArray.toList_eq]
theorem get_list (b : ByteArray) (h : 0 < b.size) : b.data.toList = b[0] :: b.data.toList.drop 1 := by
  have := drop_at b 0 h
  simpa using this

theorem text_list (s : ByteArray) (i : Nat) (hi : i < s.size) : (s.extract i (i + 1 + run Lex.digit s (i + 1))).data.toList = s[i] :: Lex.numRun (s.data.toList.drop (i + 1)) := by
  rw [extract_list, drop_at s i hi, show i + 1 + run Lex.digit s (i + 1) - i = run Lex.digit s (i + 1) + 1 by omega, List.take_succ_cons]
  congr 1
  unfold run Lex.numRun
  exact Lex.takeWhile_len _ _
theorem trim_list (c : UInt8) (r : List UInt8) : Lib.trimPrefix (c :: Lex.numRun r) [45] = Lex.numDigs c r := by
  unfold Lib.trimPrefix Lib.hasPrefix Lex.numDigs
  by_cases h : c = 45
  · subst h; simp [List.isPrefixOf]
  · rw [if_neg h, if_neg (by simpa [List.isPrefixOf] using Ne.symm h)]
theorem next_inner (s : ByteArray) (i : Nat) (h : i + 1 + run Lex.digit s (i + 1) < s.size) :
    (((s.data.toList.drop (i + 1)).drop (Lex.numRun (s.data.toList.drop (i + 1))).length).head?.any Lex.inner) = Lex.inner (s[i + 1 + run Lex.digit s (i + 1)]'h) := by
  rw [List.drop_drop]
  show ((s.data.toList.drop (i + 1 + run Lex.digit s (i + 1))).head?.any Lex.inner) = _
  rw [drop_at s _ h]; rfl
theorem next_none (s : ByteArray) (i : Nat) (h : s.size ≤ i + 1 + run Lex.digit s (i + 1)) :
    (((s.data.toList.drop (i + 1)).drop (Lex.numRun (s.data.toList.drop (i + 1))).length).head?.any Lex.inner) = false := by
  rw [List.drop_drop]
  show ((s.data.toList.drop (i + 1 + run Lex.digit s (i + 1))).head?.any Lex.inner) = _
  rw [List.drop_of_length_le (by rw [size_list]; exact h)]; rfl

theorem atoi_some {c : UInt8} {r : List UInt8} (hc : (Lex.digit c || decide (c = 45)) = true) (hb : Lex.numBad c r = false) : Lib.atoi (c :: Lex.numRun r) = some (Lex.numVal c r) := by
  obtain ⟨h1, h2⟩ := Lex.itoa_num hc hb
  unfold Lex.numVal at *
  cases h : Lib.atoi (c :: Lex.numRun r) with
  | some v => rfl
  | none =>
    rw [h] at h1
    simp only [Option.getD_none] at h1
    have : Lib.itoa 0 = [48] := by
      unfold Lib.itoa
      rw [if_neg (by decide), Lib.decDigits, dif_pos (by decide)]; rfl
    rw [this] at h1
    rw [← h1] at h
    exact absurd h (by decide)

def bad3 : Lex.TR := ⟨0, [], 0, 0, 3⟩
def bad9 : Lex.TR := ⟨0, [], 0, 0, 9⟩
def okN (c : UInt8) (r : List UInt8) : Lex.TR := ⟨2, [], Lex.numVal c r, Lex.numLen r, 0⟩

/-- The five ways of a number whose next byte is none of a name's. -/
theorem num_cases (c : UInt8) (r : List UInt8) (hc : (Lex.digit c || decide (c = 45)) = true) (tb db : ByteArray) (ht : tb.data.toList = c :: Lex.numRun r) (hd : db.data.toList = Lex.numDigs c r)
    (hn : ((r.drop (Lex.numRun r).length).head?.any Lex.inner) = false) :
    (db.toList.isEmpty = true ∧ Lex.numL c r = bad3) ∨
    (∃ h : 0 < db.size, db.toList.isEmpty = false ∧ ((db[0].toNat : Int) == 48) = true ∧ (!tb.toList == [48]) = true ∧ Lex.numL c r = bad3) ∨
    (∃ h : 0 < db.size, db.toList.isEmpty = false ∧ ((db[0].toNat : Int) == 48) = true ∧ (!tb.toList == [48]) = false ∧ db.size ≤ 9 ∧ Lex.numL c r = okN c r ∧ Lib.atoi tb.data.toList = some (Lex.numVal c r)) ∨
    (∃ h : 0 < db.size, db.toList.isEmpty = false ∧ ((db[0].toNat : Int) == 48) = false ∧ 9 < db.size ∧ Lex.numL c r = bad9) ∨
    (∃ h : 0 < db.size, db.toList.isEmpty = false ∧ ((db[0].toNat : Int) == 48) = false ∧ db.size ≤ 9 ∧ Lex.numL c r = okN c r ∧ Lib.atoi tb.data.toList = some (Lex.numVal c r)) := by
  have hlen : (Lex.numDigs c r).length = db.size := by rw [← hd, size_list]
  rw [toList_isEmpty, hd, Go.ByteArray.toList_eq, ht]
  by_cases h0 : db.size = 0
  · left
    have he : Lex.numDigs c r = [] := List.eq_nil_of_length_eq_zero (by omega)
    refine ⟨by rw [he]; rfl, ?_⟩
    unfold Lex.numL
    rw [if_pos (by unfold Lex.numBad; rw [he]; simp)]; rfl
  · right
    have hp : 0 < db.size := by omega
    have hl := get_list db hp
    rw [hd] at hl
    have hemp : (Lex.numDigs c r).isEmpty = false := by rw [hl]; rfl
    have hhd : (Lex.numDigs c r).headD 0 = db[0] := by rw [hl]; rfl
    have h48 : (db[0] = 48) ↔ ((db[0].toNat : Int) == 48) = true := by
      rw [beq_iff_eq]
      refine ⟨fun h => by rw [h]; rfl, fun h => Lex.byte_eq (k := 48) (by decide) (by omega)⟩
    have hbad : Lex.numBad c r = (decide (db[0] = 48) && decide (c :: Lex.numRun r ≠ [48])) := by
      unfold Lex.numBad
      rw [hn, hemp, hhd]; simp
    cases hb : ((db[0].toNat : Int) == 48)
    · right; right
      have hne : ¬ db[0] = 48 := fun h => by rw [h48.1 h] at hb; cases hb
      have hbf : Lex.numBad c r = false := by rw [hbad]; simp [hne]
      by_cases h9 : 9 < db.size
      · left
        refine ⟨hp, hemp, hb, h9, ?_⟩
        unfold Lex.numL
        rw [if_neg (by simp [hbf]), if_pos (by omega)]; rfl
      · right
        refine ⟨hp, hemp, hb, by omega, ?_, atoi_some hc hbf⟩
        unfold Lex.numL
        rw [if_neg (by simp [hbf]), if_neg (by omega)]; rfl
    · have he : db[0] = 48 := h48.2 hb
      by_cases hz : c :: Lex.numRun r = [48]
      · right; left
        have hbf : Lex.numBad c r = false := by rw [hbad]; simp [hz]
        have hsz : db.size ≤ 9 := by
          rw [← hlen]
          have h1 := congrArg List.length hz
          unfold Lex.numDigs
          simp only [List.length_cons, List.length_nil] at h1
          split
          · omega
          · simp only [List.length_cons]; omega
        refine ⟨hp, hemp, hb, by rw [hz]; rfl, hsz, ?_, atoi_some hc hbf⟩
        unfold Lex.numL
        rw [if_neg (by simp [hbf]), if_neg (by omega)]; rfl
      · left
        refine ⟨hp, hemp, hb, by rw [Bool.not_eq_true', beq_eq_false_iff_ne]; exact hz, ?_⟩
        unfold Lex.numL
        rw [if_pos (by rw [hbad]; simp [he, hz])]; rfl

theorem trV_bad3 (i j : Nat) : trV bad3 i j = .tuple #[zeroTok, .int .i64 0, .int .i64 3] := rfl
theorem trV_bad9 (i j : Nat) : trV bad9 i j = .tuple #[zeroTok, .int .i64 0, .int .i64 9] := rfl
theorem trV_okN (c : UInt8) (r : List UInt8) (i j : Nat) : trV (okN c r) i j = .tuple #[.agg #[.int .i64 2, .string ⟨#[]⟩, .int .i64 (Lex.numVal c r), .int .i64 (i : Int)], .int .i64 (j : Int), .int .i64 0] := rfl

/-- What a world above a new block of four cells still reads there. -/
theorem tok_cells {w w1 : World} {a b c d : Value} {T : TypeId} (hb : Below (w.alloc (.cells #[a, b, c, d] T)).heap.size (w.alloc (.cells #[a, b, c, d] T)) w1) :
    w1.cell? ⟨w.heap.size, 0, none⟩ = some a ∧ w1.cell? ⟨w.heap.size, 1, none⟩ = some b ∧ w1.cell? ⟨w.heap.size, 2, none⟩ = some c ∧ w1.cell? ⟨w.heap.size, 3, none⟩ = some d := by
  have h : ∀ j, w1.cell? ⟨w.heap.size, j, none⟩ = (w.alloc (.cells #[a, b, c, d] T)).cell? ⟨w.heap.size, j, none⟩ := fun j => hb.cell (p := ⟨w.heap.size, j, none⟩) (by simp)
  refine ⟨?_, ?_, ?_, ?_⟩ <;> rw [h] <;> simp
theorem tok_frozen {w w1 : World} {a b c d : Value} {T : TypeId} (hb : Below (w.alloc (.cells #[a, b, c, d] T)).heap.size (w.alloc (.cells #[a, b, c, d] T)) w1) (j : Nat) :
    w1.frozen? ⟨w.heap.size, j, none⟩ = false := by
  have h : w1.frozen? ⟨w.heap.size, j, none⟩ = (w.alloc (.cells #[a, b, c, d] T)).frozen? ⟨w.heap.size, j, none⟩ := hb.frozen (p := ⟨w.heap.size, j, none⟩) (by simp)
  rw [h]; simp


theorem trV_ok {t : Lex.TR} (h : t.err = 0) (i j : Nat) : trV t i j = .tuple #[okTok t i, .int .i64 (j : Int), .int .i64 0] := by unfold trV; rw [if_pos h]
theorem trV_bad {t : Lex.TR} (h : t.err ≠ 0) (i j : Nat) : trV t i j = .tuple #[zeroTok, .int .i64 0, .int .i64 t.err] := by unfold trV; rw [if_neg h]

theorem str_eq {b : ByteArray} {l : List UInt8} (h : b.data.toList = l) : b = ⟨l.toArray⟩ := by
  cases b; subst h; simp
theorem name_text (s : ByteArray) (i : Nat) : s.extract i (i + run Lex.inner s i) = ⟨((s.data.toList.drop i).takeWhile Lex.inner).toArray⟩ := by
  apply str_eq
  rw [extract_list, show i + run Lex.inner s i - i = run Lex.inner s i by omega]
  exact Lex.takeWhile_len _ _
theorem one_text (s : ByteArray) (i : Nat) (hi : i < s.size) : s.extract i (i + 1) = ⟨[s[i]].toArray⟩ := by
  apply str_eq
  rw [extract_list, drop_at s i hi, show i + 1 - i = 1 by omega]; rfl

theorem index_mark (l : List UInt8) (c : UInt8) : (l.contains c = true → 0 ≤ Lib.indexByte l c) ∧ (l.contains c = false → Lib.indexByte l c = -1) := by
  induction l with
  | nil => exact ⟨fun h => by simp at h, fun _ => rfl⟩
  | cons b t ih =>
    simp only [Lib.indexByte, List.contains_cons]
    by_cases hb : b = c
    · subst hb; simp
    · have h1 : (b == c) = false := by simpa using hb
      have h2 : (c == b) = false := by simpa using Ne.symm hb
      rw [h1, h2]
      simp only [Bool.false_or, Bool.false_eq_true, if_false]
      refine ⟨fun h => ?_, fun h => ?_⟩
      · have := ih.1 h
        split <;> rename_i hx
        · simp only [beq_iff_eq] at hx; omega
        · omega
      · rw [ih.2 h]; rfl
def marks : ByteArray := ⟨#[123, 125, 40, 41, 44, 59, 58, 61]⟩
theorem digit_45 (c : UInt8) (h : Lex.digit c = false) : (Lex.digit c || decide (c = 45)) = ((c.toNat : Int) == 45) := by
  rw [h, Bool.false_or, Bool.eq_iff_iff, decide_eq_true_eq, beq_iff_eq]
  exact ⟨fun h => by rw [h]; rfl, fun h => Lex.byte_eq (k := 45) (by decide) (by omega)⟩



def tokCells (t : Lex.Tok) : List Value := [.int .i64 t.kind, .string ⟨t.text.toArray⟩, .int .i64 t.n, .int .i64 (t.pos : Int)]
def toksCells (l : List Lex.Tok) : List Value := l.flatMap tokCells
theorem toksCells_snoc (l : List Lex.Tok) (t : Lex.Tok) : toksCells (l ++ [t]) = toksCells l ++ tokCells t := by simp [toksCells]
theorem toksCells_length (l : List Lex.Tok) : (toksCells l).length = l.length * 4 := by
  induction l with
  | nil => rfl
  | cons t r ih =>
    show (tokCells t ++ toksCells r).length = (r.length + 1) * 4
    rw [List.length_append, ih]
    show 4 + r.length * 4 = _
    omega

/-- Where a round of the lexer stands: what is read so far, and what is still to come, give the whole. -/
def At (S : List UInt8) (k : Nat) (acc : List Lex.Tok) : Prop := Lex.LR.fin acc (Lex.lex (S.drop k) k) = Lex.lex S 0
theorem At.start (S : List UInt8) : At S 0 [] := by
  unfold At
  rw [List.drop_zero, Lex.LR.fin_nil (Lex.lex_ok _ _)]
theorem At.blank {s : ByteArray} {k : Nat} {acc : List Lex.Tok} (h : At s.data.toList k acc) (hk : k < s.size) (hb : Lex.blank s[k] = true) : At s.data.toList (k + 1) acc := by
  unfold At at *
  rw [drop_at s k hk, Lex.lex_blank _ _ hb] at h
  exact h
theorem At.note {s : ByteArray} {k : Nat} {acc : List Lex.Tok} (h : At s.data.toList k acc) (hk : k < s.size) (hb : s[k] = 35) : At s.data.toList (k + run Lex.notFeed s k) acc := by
  unfold At at *
  rw [drop_at s k hk, Lex.lex_comment _ _ hb, ← drop_at s k hk] at h
  have hd := List.drop_left (l₁ := (s.data.toList.drop k).takeWhile Lex.notFeed) (l₂ := (s.data.toList.drop k).dropWhile Lex.notFeed)
  rw [List.takeWhile_append_dropWhile, List.drop_drop] at hd
  rw [← hd] at h
  exact h
theorem At.tok {s : ByteArray} {k : Nat} {acc : List Lex.Tok} (h : At s.data.toList k acc) (hk : k < s.size) (h0 : (Lex.tokL (s.data.toList.drop k)).err = 0) :
    At s.data.toList (k + (Lex.tokL (s.data.toList.drop k)).len) (acc ++ [⟨(Lex.tokL (s.data.toList.drop k)).kind, (Lex.tokL (s.data.toList.drop k)).text, (Lex.tokL (s.data.toList.drop k)).n, k⟩]) := by
  unfold At at *
  have hd := drop_at s k hk
  have h1 : (Lex.tokL (s[k] :: s.data.toList.drop (k + 1))).err = 0 := by rw [← hd]; exact h0
  have hh := Lex.tok_head h1
  have e := Lex.lex_tok _ k hh.1 hh.2 h1
  rw [← hd, List.drop_drop] at e
  rw [e, Lex.LR.fin_cons] at h
  exact h
theorem At.bad {s : ByteArray} {k : Nat} {acc : List Lex.Tok} (h : At s.data.toList k acc) (hk : k < s.size) (hb : Lex.blank s[k] = false) (hc : s[k] ≠ 35) (h0 : (Lex.tokL (s.data.toList.drop k)).err ≠ 0) :
    Lex.lex s.data.toList 0 = ⟨[], k, (Lex.tokL (s.data.toList.drop k)).err⟩ := by
  unfold At at *
  have hd := drop_at s k hk
  have e := Lex.lex_bad (c := s[k]) (s.data.toList.drop (k + 1)) k hb hc (by rw [← hd]; exact h0)
  rw [← hd] at e
  rw [e] at h
  rw [← h]
  unfold Lex.LR.fin
  rw [if_neg h0]
theorem At.done {s : ByteArray} {k : Nat} {acc : List Lex.Tok} (h : At s.data.toList k acc) (hk : s.size ≤ k) : Lex.lex s.data.toList 0 = ⟨acc, 0, 0⟩ := by
  unfold At at h
  rw [List.drop_of_length_le (by rw [size_list]; exact hk), Lex.lex_nil] at h
  rw [← h]
  simp [Lex.LR.fin]

theorem byte_test (c : UInt8) (k : Nat) (hk : k < 256) : ((c.toNat : Int) == (k : Int)) = decide (c = UInt8.ofNat k) := by
  rw [Bool.eq_iff_iff, beq_iff_eq, decide_eq_true_eq]
  exact ⟨fun h => Lex.byte_eq hk (by omega), fun h => by rw [h, UInt8.toNat_ofNat', Nat.mod_eq_of_lt hk]⟩
/-- The ways of a byte at a token's beginning. -/
theorem byte_ways (c : UInt8) :
    (Lex.blank c = true ∧ ((c.toNat : Int) == 32) = true) ∨
    (Lex.blank c = true ∧ ((c.toNat : Int) == 32) = false ∧ ((c.toNat : Int) == 9) = true) ∨
    (Lex.blank c = true ∧ ((c.toNat : Int) == 32) = false ∧ ((c.toNat : Int) == 9) = false ∧ ((c.toNat : Int) == 10) = true) ∨
    (Lex.blank c = false ∧ c = 35 ∧ ((c.toNat : Int) == 32) = false ∧ ((c.toNat : Int) == 9) = false ∧ ((c.toNat : Int) == 10) = false ∧ ((c.toNat : Int) == 35) = true) ∨
    (Lex.blank c = false ∧ c ≠ 35 ∧ ((c.toNat : Int) == 32) = false ∧ ((c.toNat : Int) == 9) = false ∧ ((c.toNat : Int) == 10) = false ∧ ((c.toNat : Int) == 35) = false) := by
  have e1 : ((c.toNat : Int) == 32) = decide (c.toNat = 32) := by rw [Bool.eq_iff_iff]; simp; omega
  have e2 : ((c.toNat : Int) == 9) = decide (c.toNat = 9) := by rw [Bool.eq_iff_iff]; simp; omega
  have e3 : ((c.toNat : Int) == 10) = decide (c.toNat = 10) := by rw [Bool.eq_iff_iff]; simp; omega
  have e4 : ((c.toNat : Int) == 35) = decide (c.toNat = 35) := by rw [Bool.eq_iff_iff]; simp; omega
  have e5 : c = 35 ↔ c.toNat = 35 := ⟨fun h => by rw [h]; rfl, fun h => Lex.byte_eq (k := 35) (by decide) h⟩
  rw [e1, e2, e3, e4]
  unfold Lex.blank
  rw [Ne, e5]
  by_cases h1 : c.toNat = 32
  · simp [h1]
  · by_cases h2 : c.toNat = 9
    · simp [h2]
    · by_cases h3 : c.toNat = 10
      · simp [h3]
      · by_cases h4 : c.toNat = 35
        · simp [h4]
        · simp [h1, h2, h3, h4]

/-- What the lexer hands back. -/
def TokensPost (T : TypeId) (w : World) (r : Lex.LR) (e : Ending) (w' : World) : Prop :=
  ∃ v, e = .returned (.tuple #[v, .int .i64 (r.pos : Int), .int .i64 r.err]) ∧ w'.ownsRow w.heap.size T 4 v r.toks.length (toksCells r.toks) ∧ Below w.heap.size w w'



theorem run_hit {p : UInt8 → Bool} {s : ByteArray} : ∀ {q k : Nat}, q < run p s k → ∃ h : k + q < s.size, p (s[k + q]'h) = true
  | 0, k, hq => by
    by_cases h : k < s.size
    · cases hp : p s[k]
      · rw [run_no h hp] at hq; omega
      · exact ⟨h, hp⟩
    · rw [run_end (by omega)] at hq; omega
  | q + 1, k, hq => by
    by_cases h : k < s.size
    · cases hp : p s[k]
      · rw [run_no h hp] at hq; omega
      · rw [run_yes h hp] at hq
        obtain ⟨h1, h2⟩ := run_hit (p := p) (s := s) (q := q) (k := k + 1) (by omega)
        have e : k + 1 + q = k + (q + 1) := by omega
        simp only [e] at h1 h2
        exact ⟨h1, h2⟩
    · rw [run_end (by omega)] at hq; omega
theorem run_stop {p : UInt8 → Bool} {s : ByteArray} {k : Nat} : ∀ {q : Nat}, q = run p s k → ∀ h : k + q < s.size, p (s[k + q]'h) = false := by
  intro q
  induction q generalizing k with
  | zero =>
    intro hq h
    cases hp : p s[k]
    · rfl
    · have := run_yes (k := k) h hp; omega
  | succ q ih =>
    intro hq h
    have hk : k < s.size := by omega
    cases hp : p s[k]
    · rw [run_no hk hp] at hq; omega
    · rw [run_yes hk hp] at hq
      have e : k + 1 + q = k + (q + 1) := by omega
      have := ih (k := k + 1) (by omega) (by omega)
      simp only [e] at this
      exact this

theorem rnamed_any (s : ByteArray) (i : Nat) (w : World) (hi : i ≤ s.size) (hs : s.size ≤ 1000000) :
    Calls Tryz.prog 91 #[.string s, .int .i64 (i : Int)] w (Returns w (.int .i64 ((run Lex.inner s i : Nat) : Int))) := by
  have hr := run_le Lex.inner s i hi
  have hin := fun q => run_hit (p := Lex.inner) (s := s) (q := q) (k := i)
  have hst := run_stop (p := Lex.inner) (s := s) (k := i) (q := run Lex.inner s i) rfl
  generalize hR : run Lex.inner s i = R at *
  have HIN := Lib.hid hin
  have HST := Lib.hid hst
  clear hin hst hR
  go_enter Tryz.func91, Tryz.ntmps91
  go_wp2
  go_loop [5] (fun t => ∃ q : Nat, q ≤ R ∧ t = .int .i64 q) (fun t => R - (intOf t).toNat)
  case atStart => exact ⟨0, Nat.zero_le _, rfl⟩
  case round =>
    obtain ⟨q, hq, rfl⟩ := hrel
    by_cases hlt : q < R
    · obtain ⟨hsz, hp⟩ := HIN.out q hlt
      cases h1 : Lex.letter (s[i + q]'hsz)
      · cases h2 : Lex.digit (s[i + q]'hsz)
        · have h3 : (((s[i + q]'hsz).toNat : Int) == 95) = true := by
            unfold Lex.inner at hp; rw [h1, h2] at hp
            simp at hp
            simp; omega
          have H1 := Lib.hid h1
          have H2 := Lib.hid h2
          clear h1 h2 hp
          go_wp2_with (first | (go_at_call 90; refine (rletter_no _ H1.out _).mono ?_; rintro e w' ⟨rfl, rfl⟩) | (go_at_call 145; refine (rdigit_no _ H2.out _).mono ?_; rintro e w' ⟨rfl, rfl⟩))
          go_round
          case rel => exact ⟨q + 1, by omega, by go_num⟩
          case measure => simp [intOf]; omega
        · have H1 := Lib.hid h1
          have H2 := Lib.hid h2
          clear h1 h2 hp
          go_wp2_with (first | (go_at_call 90; refine (rletter_no _ H1.out _).mono ?_; rintro e w' ⟨rfl, rfl⟩) | (go_at_call 145; refine (rdigit_yes _ H2.out _).mono ?_; rintro e w' ⟨rfl, rfl⟩))
          go_round
          case rel => exact ⟨q + 1, by omega, by go_num⟩
          case measure => simp [intOf]; omega
      · have H1 := Lib.hid h1
        clear h1 hp
        go_wp2_with (go_at_call 90; refine (rletter_yes _ H1.out _).mono ?_; rintro e w' ⟨rfl, rfl⟩)
        go_round
        case rel => exact ⟨q + 1, by omega, by go_num⟩
        case measure => simp [intOf]; omega
    · obtain rfl : q = R := by omega
      by_cases hsz : i + q < s.size
      · have hp := HST.out hsz
        have h1 : Lex.letter (s[i + q]'hsz) = false := by
          cases h : Lex.letter (s[i + q]'hsz)
          · rfl
          · rw [Lex.inner_of_letter h] at hp; cases hp
        have h2 : Lex.digit (s[i + q]'hsz) = false := by
          cases h : Lex.digit (s[i + q]'hsz)
          · rfl
          · rw [Lex.inner_of_digit h] at hp; cases hp
        have h3 : (((s[i + q]'hsz).toNat : Int) == 95) = false := by
          unfold Lex.inner at hp; rw [h1, h2] at hp
          rw [beq_eq_false_iff_ne]
          simp at hp; omega
        have H1 := Lib.hid h1
        have H2 := Lib.hid h2
        clear h1 h2 hp
        go_wp2_with (first | (go_at_call 90; refine (rletter_no _ H1.out _).mono ?_; rintro e w' ⟨rfl, rfl⟩) | (go_at_call 145; refine (rdigit_no _ H2.out _).mono ?_; rintro e w' ⟨rfl, rfl⟩))
        go_ret
        exact ⟨rfl, rfl⟩
      · go_wp2
        go_ret
        exact ⟨rfl, rfl⟩



def I64 (n : Int) : Prop := -9223372036854775808 ≤ n ∧ n ≤ 9223372036854775807
def tokV (t : Lex.Tok) : Value := .agg #[.int .i64 t.kind, .string ⟨t.text.toArray⟩, .int .i64 t.n, .int .i64 (t.pos : Int)]

theorem isName_eq (s : ByteArray) (h0 : 0 < s.size) : Lex.isName s.data.toList = (decide (s.size ≤ 16) && Lex.letter s[0] && decide (run Lex.inner s 0 = s.size)) := by
  have hl := get_list s h0
  have ha : s.data.toList.all Lex.inner = decide (run Lex.inner s 0 = s.size) := by
    rw [Bool.eq_iff_iff, decide_eq_true_eq]
    unfold run
    rw [List.drop_zero, ← size_list]
    constructor
    · intro h
      have := Lex.takeWhile_stop (p := Lex.inner) (fun _ h => h) (w := s.data.toList) (rest := []) h rfl
      rw [List.append_nil] at this
      rw [this]
    · intro h
      have h1 := Lex.takeWhile_len Lex.inner s.data.toList
      rw [h, List.take_length] at h1
      have h2 := Lex.takeWhile_all Lex.inner s.data.toList
      rw [← h1] at h2
      exact h2
  unfold Lex.isName
  rw [ha, size_list]
  have h1 : s.data.toList.headD 0 = s[0] := by rw [hl]; rfl
  rw [h1]
  have : decide (1 ≤ s.size) = true := decide_eq_true (by omega)
  rw [this, Bool.true_and]

theorem toList_empty (s : ByteArray) : s.toList.isEmpty = decide (s.size = 0) := by
  rw [Go.ByteArray.toList_eq, Bool.eq_iff_iff, decide_eq_true_eq, List.isEmpty_iff, ← size_list]
  exact ⟨fun h => by rw [h]; rfl, fun h => List.eq_nil_of_length_eq_zero h⟩

set_option maxRecDepth 100000 in
theorem isName_any (s : ByteArray) (w : World) (hs : s.size ≤ 1000000) : Calls Tryz.prog 35 #[.string s] w (Returns w (.bool (Lex.isName s.data.toList))) := by
  have he := toList_empty s
  by_cases h0 : s.size = 0
  · have hF : Lex.isName s.data.toList = false := by unfold Lex.isName; rw [size_list, h0]; rfl
    rw [hF]
    have h1 : s.toList.isEmpty = true := by rw [he]; simpa using h0
    clear he h0 hF
    go_enter Tryz.func35, Tryz.ntmps35
    go_wp2
    go_ret
    exact ⟨rfl, rfl⟩
  · have h1 : s.toList.isEmpty = false := by rw [he]; simpa using h0
    have hp : 0 < s.size := by omega
    have hI := isName_eq s hp
    by_cases h16 : s.size ≤ 16
    · cases hl : Lex.letter s[0]
      · have hF : Lex.isName s.data.toList = false := by rw [hI, hl]; simp
        rw [hF]
        have HL := Lib.hid hl
        clear he h0 hF hI hl
        go_enter Tryz.func35, Tryz.ntmps35
        go_wp2_with (go_at_call 86; refine (letter_no _ HL.out _).mono ?_; rintro e w' ⟨rfl, rfl⟩)
        go_ret
        exact ⟨rfl, rfl⟩
      · have hF : Lex.isName s.data.toList = ((run Lex.inner s 0 : Int) == (s.size : Int)) := by
          rw [hI, hl, Bool.eq_iff_iff]; simp [h16]; omega
        rw [hF]
        have HL := Lib.hid hl
        have hW := fun w => while_inner s 0 w (Nat.zero_le _) hs
        rw [Nat.zero_add] at hW
        have HW := Lib.hid hW
        clear he h0 hF hI hl hW
        generalize run Lex.inner s 0 = r at *
        cases hr : ((r : Int) == (s.size : Int))
        all_goals
          go_enter Tryz.func35, Tryz.ntmps35
          go_wp2_with (first | (go_at_call 86; refine (letter_yes _ HL.out _).mono ?_; rintro e w' ⟨rfl, rfl⟩) | (go_at_call 87; refine (HW.out _).mono ?_; rintro e w' ⟨rfl, rfl⟩))
          go_ret
          exact ⟨rfl, rfl⟩
    · have hF : Lex.isName s.data.toList = false := by rw [hI]; simp [h16]
      rw [hF]
      clear he h0 hF hI
      go_enter Tryz.func35, Tryz.ntmps35
      go_wp2
      go_ret
      exact ⟨rfl, rfl⟩

set_option maxRecDepth 100000 in
theorem risName_any (s : ByteArray) (w : World) (hs : s.size ≤ 1000000) : Calls Tryz.prog 38 #[.string s] w (Returns w (.bool (Lex.isName s.data.toList))) := by
  by_cases h0 : s.size = 0
  · have hF : Lex.isName s.data.toList = false := by unfold Lex.isName; rw [size_list, h0]; rfl
    rw [hF]
    have h1 : s.size ≤ 0 := by omega
    clear h0 hF
    go_enter Tryz.func38, Tryz.ntmps38
    go_wp2
    go_ret
    exact ⟨rfl, rfl⟩
  · have hp : 0 < s.size := by omega
    have hp1 : 1 ≤ s.size := by omega
    have hI := isName_eq s hp
    by_cases h16 : s.size ≤ 16
    · cases hl : Lex.letter s[0]
      · have hF : Lex.isName s.data.toList = false := by rw [hI, hl]; simp
        rw [hF]
        have HL := Lib.hid hl
        clear h0 hF hI hl
        go_enter Tryz.func38, Tryz.ntmps38
        go_wp2_with (go_at_call 90; refine (rletter_no _ HL.out _).mono ?_; rintro e w' ⟨rfl, rfl⟩)
        go_ret
        exact ⟨rfl, rfl⟩
      · have hF : Lex.isName s.data.toList = ((run Lex.inner s 0 : Int) == (s.size : Int)) := by
          rw [hI, hl, Bool.eq_iff_iff]; simp [h16]; omega
        rw [hF]
        have HL := Lib.hid hl
        have hW := fun w => rnamed_any s 0 w (Nat.zero_le _) hs
        have HW := Lib.hid hW
        clear h0 hF hI hl hW
        generalize run Lex.inner s 0 = r at *
        cases hr : ((r : Int) == (s.size : Int))
        all_goals
          go_enter Tryz.func38, Tryz.ntmps38
          go_wp2_with (first | (go_at_call 90; refine (rletter_yes _ HL.out _).mono ?_; rintro e w' ⟨rfl, rfl⟩) | (go_at_call 91; refine (HW.out _).mono ?_; rintro e w' ⟨rfl, rfl⟩))
          go_ret
          exact ⟨rfl, rfl⟩
    · have hF : Lex.isName s.data.toList = false := by rw [hI]; simp [h16]
      rw [hF]
      clear h0 hF hI
      go_enter Tryz.func38, Tryz.ntmps38
      go_wp2
      go_ret
      exact ⟨rfl, rfl⟩

end Go.Proofs.YtnmmhcchpcbeeaaGreat.LexW
