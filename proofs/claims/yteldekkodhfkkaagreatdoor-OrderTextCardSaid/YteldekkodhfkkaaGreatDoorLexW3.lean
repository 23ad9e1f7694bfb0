/- Walks: the program's reader of a number. Conditions: the offset lies in the text; the text has at most a million bytes. -/
import Derived.Test.YteldekkodhfkkaaGreatDoorLexW2
import Derived.Test.YteldekkodhfkkaaGreatDoorShelf
import Derived.Lib.AtoiErrMem
namespace Go.Proofs.YteldekkodhfkkaaGreatDoor.LexW
open Go Go.RowKit

def zeroTok : Value := .agg #[.int .i64 0, .string ⟨#[]⟩, .int .i64 0, .int .i64 0]
def okTok (t : Lex.TR) (i : Nat) : Value := .agg #[.int .i64 t.kind, .string ⟨t.text.toArray⟩, .int .i64 t.n, .int .i64 (i : Int)]
/-- What a reader of one token hands back, 'end' being the offset behind it or its length. -/
def trV (t : Lex.TR) (i j : Nat) : Value := if t.err = 0 then .tuple #[okTok t i, .int .i64 (j : Int), .int .i64 0] else .tuple #[zeroTok, .int .i64 0, .int .i64 t.err]

theorem extract_list (s : ByteArray) (a b : Nat) : (s.extract a b).data.toList = (s.data.toList.drop a).take (b - a) := by
  simp only [ByteArray.data_extract, Array.toList_extract, List.extract_eq_take_drop]
theorem toList_isEmpty (b : ByteArray) : b.toList.isEmpty = b.data.toList.isEmpty := by rw [Go.ByteArray.toList_eq]
theorem get_list (b : ByteArray) (h : 0 < b.size) : b.data.toList = b[0] :: b.data.toList.drop 1 := by
  have := drop_at b 0 h
  simpa using this

theorem text_list (s : ByteArray) (i : Nat) (hi : i < s.size) : (s.extract i (i + 1 + run Lex.digit s (i + 1))).data.toList = s[i] :: Lex.numRun (s.data.toList.drop (i + 1)) := by
  rw [extract_list, drop_at s i hi, show i + 1 + run Lex.digit s (i + 1) - i = run Lex.digit s (i + 1) + 1 by omega, List.take_succ_cons]
  congr 1
  unfold run Lex.numRun
  exact Lex.takeWhile_len _ _
theorem trim_list (c : UInt8) (r : List UInt8) : Lib.trimPrefix (c :: Lex.numRun r) [45] = Lex.numDigs c r := by
  unfold Lib.trimPrefix Lib.hasPrefix Lex.numDigs
  by_cases h : c = 45
  · subst h; simp [List.isPrefixOf]
  · rw [if_neg h, if_neg (by simpa [List.isPrefixOf] using Ne.symm h)]
theorem next_inner (s : ByteArray) (i : Nat) (h : i + 1 + run Lex.digit s (i + 1) < s.size) :
    (((s.data.toList.drop (i + 1)).drop (Lex.numRun (s.data.toList.drop (i + 1))).length).head?.any Lex.inner) = Lex.inner (s[i + 1 + run Lex.digit s (i + 1)]'h) := by
  rw [List.drop_drop]
  show ((s.data.toList.drop (i + 1 + run Lex.digit s (i + 1))).head?.any Lex.inner) = _
  rw [drop_at s _ h]; rfl
theorem next_none (s : ByteArray) (i : Nat) (h : s.size ≤ i + 1 + run Lex.digit s (i + 1)) :
    (((s.data.toList.drop (i + 1)).drop (Lex.numRun (s.data.toList.drop (i + 1))).length).head?.any Lex.inner) = false := by
  rw [List.drop_drop]
  show ((s.data.toList.drop (i + 1 + run Lex.digit s (i + 1))).head?.any Lex.inner) = _
  rw [List.drop_of_length_le (by rw [size_list]; exact h)]; rfl

theorem atoi_some {c : UInt8} {r : List UInt8} (hc : (Lex.digit c || decide (c = 45)) = true) (hb : Lex.numBad c r = false) : Lib.atoi (c :: Lex.numRun r) = some (Lex.numVal c r) := by
  obtain ⟨h1, h2⟩ := Lex.itoa_num hc hb
  unfold Lex.numVal at *
  cases h : Lib.atoi (c :: Lex.numRun r) with
  | some v => rfl
  | none =>
    rw [h] at h1
    simp only [Option.getD_none] at h1
    have : Lib.itoa 0 = [48] := by
      unfold Lib.itoa
      rw [if_neg (by decide), Lib.decDigits, dif_pos (by decide)]; rfl
    rw [this] at h1
    rw [← h1] at h
    exact absurd h (by decide)

def bad3 : Lex.TR := ⟨0, [], 0, 0, 3⟩
def bad9 : Lex.TR := ⟨0, [], 0, 0, 9⟩
def okN (c : UInt8) (r : List UInt8) : Lex.TR := ⟨2, [], Lex.numVal c r, Lex.numLen r, 0⟩

/-- The five ways of a number whose next byte is none of a name's. -/
theorem num_cases (c : UInt8) (r : List UInt8) (hc : (Lex.digit c || decide (c = 45)) = true) (tb db : ByteArray) (ht : tb.data.toList = c :: Lex.numRun r) (hd : db.data.toList = Lex.numDigs c r)
    (hn : ((r.drop (Lex.numRun r).length).head?.any Lex.inner) = false) :
    (db.toList.isEmpty = true ∧ Lex.numL c r = bad3) ∨
    (∃ h : 0 < db.size, db.toList.isEmpty = false ∧ ((db[0].toNat : Int) == 48) = true ∧ (!tb.toList == [48]) = true ∧ Lex.numL c r = bad3) ∨
    (∃ h : 0 < db.size, db.toList.isEmpty = false ∧ ((db[0].toNat : Int) == 48) = true ∧ (!tb.toList == [48]) = false ∧ db.size ≤ 9 ∧ Lex.numL c r = okN c r ∧ Lib.atoi tb.data.toList = some (Lex.numVal c r)) ∨
    (∃ h : 0 < db.size, db.toList.isEmpty = false ∧ ((db[0].toNat : Int) == 48) = false ∧ 9 < db.size ∧ Lex.numL c r = bad9) ∨
    (∃ h : 0 < db.size, db.toList.isEmpty = false ∧ ((db[0].toNat : Int) == 48) = false ∧ db.size ≤ 9 ∧ Lex.numL c r = okN c r ∧ Lib.atoi tb.data.toList = some (Lex.numVal c r)) := by
  have hlen : (Lex.numDigs c r).length = db.size := by rw [← hd, size_list]
  rw [toList_isEmpty, hd, Go.ByteArray.toList_eq, ht]
  by_cases h0 : db.size = 0
  · left
    have he : Lex.numDigs c r = [] := List.eq_nil_of_length_eq_zero (by omega)
    refine ⟨by rw [he]; rfl, ?_⟩
    unfold Lex.numL
    rw [if_pos (by unfold Lex.numBad; rw [he]; simp)]; rfl
  · right
    have hp : 0 < db.size := by omega
    have hl := get_list db hp
    rw [hd] at hl
    have hemp : (Lex.numDigs c r).isEmpty = false := by rw [hl]; rfl
    have hhd : (Lex.numDigs c r).headD 0 = db[0] := by rw [hl]; rfl
    have h48 : (db[0] = 48) ↔ ((db[0].toNat : Int) == 48) = true := by
      rw [beq_iff_eq]
      refine ⟨fun h => by rw [h]; rfl, fun h => Lex.byte_eq (k := 48) (by decide) (by omega)⟩
    have hbad : Lex.numBad c r = (decide (db[0] = 48) && decide (c :: Lex.numRun r ≠ [48])) := by
      unfold Lex.numBad
      rw [hn, hemp, hhd]; simp
    cases hb : ((db[0].toNat : Int) == 48)
    · right; right
      have hne : ¬ db[0] = 48 := fun h => by rw [h48.1 h] at hb; cases hb
      have hbf : Lex.numBad c r = false := by rw [hbad]; simp [hne]
      by_cases h9 : 9 < db.size
      · left
        refine ⟨hp, hemp, hb, h9, ?_⟩
        unfold Lex.numL
        rw [if_neg (by simp [hbf]), if_pos (by omega)]; rfl
      · right
        refine ⟨hp, hemp, hb, by omega, ?_, atoi_some hc hbf⟩
        unfold Lex.numL
        rw [if_neg (by simp [hbf]), if_neg (by omega)]; rfl
    · have he : db[0] = 48 := h48.2 hb
      by_cases hz : c :: Lex.numRun r = [48]
      · right; left
        have hbf : Lex.numBad c r = false := by rw [hbad]; simp [hz]
        have hsz : db.size ≤ 9 := by
          rw [← hlen]
          have h1 := congrArg List.length hz
          unfold Lex.numDigs
          simp only [List.length_cons, List.length_nil] at h1
          split
          · omega
          · simp only [List.length_cons]; omega
        refine ⟨hp, hemp, hb, by rw [hz]; rfl, hsz, ?_, atoi_some hc hbf⟩
        unfold Lex.numL
        rw [if_neg (by simp [hbf]), if_neg (by omega)]; rfl
      · left
        refine ⟨hp, hemp, hb, by rw [Bool.not_eq_true', beq_eq_false_iff_ne]; exact hz, ?_⟩
        unfold Lex.numL
        rw [if_pos (by rw [hbad]; simp [he, hz])]; rfl

theorem trV_bad3 (i j : Nat) : trV bad3 i j = .tuple #[zeroTok, .int .i64 0, .int .i64 3] := rfl
theorem trV_bad9 (i j : Nat) : trV bad9 i j = .tuple #[zeroTok, .int .i64 0, .int .i64 9] := rfl
theorem trV_okN (c : UInt8) (r : List UInt8) (i j : Nat) : trV (okN c r) i j = .tuple #[.agg #[.int .i64 2, .string ⟨#[]⟩, .int .i64 (Lex.numVal c r), .int .i64 (i : Int)], .int .i64 (j : Int), .int .i64 0] := rfl

theorem atoi_text (tb : ByteArray) (v : Int) (hl : tb.size ≤ 18) (h : Lib.atoi tb.data.toList = some v) (w : World) :
    Calls Tryz.prog 85 #[.string tb] w fun e w' => e = .returned (.tuple #[.int .i64 v, .nilIface]) ∧ Below w.heap.size w w' :=
  (Tryz.strconv_Atoi tb v hl h w).mono fun e w' ⟨he, t, ht⟩ => ⟨he, by subst ht; exact Lib.bytesWorld_below _ _ _⟩
set_option maxRecDepth 100000 in
/-- The next byte is one of a name's: refused. -/
theorem number_glued (s : ByteArray) (i : Nat) (w : World) (hi : i < s.size) (hs : s.size ≤ 1000000) (hend : i + 1 + run Lex.digit s (i + 1) < s.size) (hin : Lex.inner (s[i + 1 + run Lex.digit s (i + 1)]'hend) = true) :
    Calls Tryz.prog 61 #[.string s, .int .i64 (i : Int)] w fun e w' => e = .returned (.tuple #[zeroTok, .int .i64 0, .int .i64 3]) ∧ Below w.heap.size w w' := by
  have hr := run_le Lex.digit s (i + 1) (by omega)
  generalize hk : run Lex.digit s (i + 1) = k at *
  have HK := Lib.hid hk
  have HN := Lib.hid hin
  clear hk hin
  go_enter Tryz.func61, Tryz.ntmps61
  go_wp2_with fail
  refine (while_digit s (i + 1) _ (by omega) hs).mono ?_
  rintro e w' ⟨rfl, rfl⟩
  rw [HK.out]
  go_wp2_with fail
  refine (Tryz.strings_TrimPrefix _ _ _).mono ?_
  rintro e w' ⟨rfl, rfl⟩
  go_wp2_with (go_at_call 59; refine (inner_yes _ HN.out _).mono ?_; rintro e w' ⟨rfl, rfl⟩)
  exact bodyPost_ret (v := .tuple #[zeroTok, .int .i64 0, .int .i64 3]) (by simp [results, Tryz.results61, go_sem, zeroTok]) rfl ⟨rfl, (Below.refl _ _).alloc (Nat.le_refl _) _⟩
/-- What a world above a new block of four cells still reads there. -/
theorem tok_cells {w w1 : World} {a b c d : Value} {T : TypeId} (hb : Below (w.alloc (.cells #[a, b, c, d] T)).heap.size (w.alloc (.cells #[a, b, c, d] T)) w1) :
    w1.cell? ⟨w.heap.size, 0, none⟩ = some a ∧ w1.cell? ⟨w.heap.size, 1, none⟩ = some b ∧ w1.cell? ⟨w.heap.size, 2, none⟩ = some c ∧ w1.cell? ⟨w.heap.size, 3, none⟩ = some d := by
  have h : ∀ j, w1.cell? ⟨w.heap.size, j, none⟩ = (w.alloc (.cells #[a, b, c, d] T)).cell? ⟨w.heap.size, j, none⟩ := fun j => hb.cell (p := ⟨w.heap.size, j, none⟩) (by simp)
  refine ⟨?_, ?_, ?_, ?_⟩ <;> rw [h] <;> simp
theorem tok_frozen {w w1 : World} {a b c d : Value} {T : TypeId} (hb : Below (w.alloc (.cells #[a, b, c, d] T)).heap.size (w.alloc (.cells #[a, b, c, d] T)) w1) (j : Nat) :
    w1.frozen? ⟨w.heap.size, j, none⟩ = false := by
  have h : w1.frozen? ⟨w.heap.size, j, none⟩ = (w.alloc (.cells #[a, b, c, d] T)).frozen? ⟨w.heap.size, j, none⟩ := hb.frozen (p := ⟨w.heap.size, j, none⟩) (by simp)
  rw [h]; simp
end Go.Proofs.YteldekkodhfkkaaGreatDoor.LexW
