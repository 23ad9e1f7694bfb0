/- Walks: the library's readers and printers of numbers at this seat; the program's skip and number. Conditions: the library's variables hold what a start lays; the text has at most a million bytes. -/
import Derived.Test.YtjjohllfidmkjaaDoorShelf
import Derived.Test.YtjjohllfidmkjaaDoorPfNum
import Derived.Test.YtjjohllfidmkjaaDoorPfS
import Derived.Test.YtjjohllfidmkjaaDoorPfO1
import Derived.Lib.LaidTab
import Derived.Laws.RangeAny
import Derived.Laws.RangeString
import Derived.Laws.Concat
import Derived.WalkSpells
import Derived.Deep.QuietTactic
import Derived.Deep.RegionHeld3
import Derived.Deep.DrawnRows
import Derived.BigQuiet
import Derived.Shelf.Vars
import Derived.WalkSmall
import Derived.Outline
namespace Go.Proofs.YtjjohllfidmkjaaDoor.PfW
open Go Go.RowKit Go.Proofs.YtjjohllfidmkjaaDoor.Mem Go.Proofs.YtjjohllfidmkjaaDoor.Pf
attribute [local go_sem ↓] Go.wp_at_zero Go.wp_at_succ

theorem gPow : Tryd.prog.globalNamed "internal/strconv.uint64pow10" = some 0 := by kernel_rfl
/-- What the library's variables hold: its table, two errors. -/
structure Glob (w : World) : Prop where
  tab : Lib.TabIs Tryd.prog w "internal/strconv.uint64pow10" .u64 Lib.pow10Tab
  syn : ∃ ev, w.cell? ⟨1, 0, none⟩ = some ev ∧ (ev = .nilIface ∨ ∃ te pe, ev = .iface te pe)
  rng : ∃ ev, w.cell? ⟨2, 0, none⟩ = some ev ∧ (ev = .nilIface ∨ ∃ te pe, ev = .iface te pe)
  lt : 2 < w.heap.size
theorem Glob.below3 {w w' : World} (h : Glob w) (hb : Below 3 w w') : Glob w' := by
  obtain ⟨h1, ⟨e3, h3, g3⟩, ⟨e4, h4, g4⟩, h5⟩ := h
  exact ⟨var?_below hb gPow (by decide) h1, ⟨e3, (hb.cell (p := ⟨1, 0, none⟩) (by decide)).trans h3, g3⟩, ⟨e4, (hb.cell (p := ⟨2, 0, none⟩) (by decide)).trans h4, g4⟩, Nat.lt_of_lt_of_le h5 hb.size⟩
theorem Glob.below {w w' : World} (h : Glob w) (hb : Below w.heap.size w w') : Glob w' := h.below3 (hb.mono h.lt)
theorem Glob.grown {w w' : World} {b : Nat} (h : Glob w) (hg : w.grownBy w' (some b)) (hb : 3 ≤ b) : Glob w' :=
  h.below3 ⟨hg.os, hg.tape, hg.output, hg.size, fun k hk => hg.block k (by have := h.lt; omega) (fun e => by cases e; omega)⟩
theorem atoiAll_i64 {d : List UInt8} {n : Int} (h : Lib.atoiAll d = .ok n) : (-9223372036854775808 ≤ n ∧ n ≤ 9223372036854775807) := by
  unfold Lib.atoiAll at h
  split at h
  · cases h
  · simp only at h
    split at h
    · cases h
    · cases h
    · rename_i u hu
      have := Lib.parseMag_lt hu
      split at h
      · cases h
      · split at h
        · cases h
        · injection h with h
          subst h
          split <;> omega


theorem str_size (a : List UInt8) : (ByteArray.mk a.toArray).size = a.length := by
  show a.toArray.size = _; simp
theorem str_eql (a b : List UInt8) : ((ByteArray.mk a.toArray).toList == (ByteArray.mk b.toArray).toList) = decide (a = b) := by
  rw [Go.ByteArray.toList_eq, Go.ByteArray.toList_eq, Bool.eq_iff_iff]
  simp

theorem atoi_ok {d : List UInt8} {n : Int} (h : Lib.atoiAll d = .ok n) (hd : d.length ≤ 1000000) (w : World) :
    Calls Tryd.prog 83 #[.string ⟨d.toArray⟩] w fun e w' => e = .returned (.tuple #[.int .i64 n, .nilIface]) ∧ Below w.heap.size w w' :=
  (Tryd.strconv_Atoi_ok ⟨d.toArray⟩ (by rw [str_size]; omega) n (by simpa using h) w).mono fun e w' ⟨he, hw⟩ => ⟨he, by
    rcases hw with rfl | ⟨t, rfl⟩
    · exact Below.refl _ _
    · exact Lib.bytesWorld_below _ _ _⟩
theorem atoi_bad {d : List UInt8} (h : ∀ n, Lib.atoiAll d ≠ .ok n) (hd : d.length ≤ 1000000) (w : World) (hG : Glob w) :
    Calls Tryd.prog 83 #[.string ⟨d.toArray⟩] w fun e w' => (∃ x N, e = .returned (.tuple #[.int .i64 x, .iface 137 (.pointer (some ⟨N, 0, none⟩))])) ∧ Below w.heap.size w w' := by
  obtain ⟨_, ⟨e3, h3, g3⟩, ⟨e4, h4, g4⟩, _⟩ := hG
  by_cases hr : Lib.atoiAll d = .range
  · exact (Tryd.strconv_Atoi_range ⟨d.toArray⟩ (by rw [str_size]; omega) (by simpa using hr) e4 w h4 g4).mono fun e w' ⟨N, he, _, _, hb⟩ => ⟨⟨_, N, he⟩, hb⟩
  · exact (Tryd.strconv_Atoi_wrong ⟨d.toArray⟩ (by rw [str_size]; omega) (by simpa using h) (by simpa using hr) e3 w h3 g3).mono fun e w' ⟨N, he, _, _, hb⟩ => ⟨⟨_, N, he⟩, hb⟩
theorem itoa_any (n : Int) (w : World) (hL : Glob w) (h0 : -9223372036854775808 ≤ n) (h1 : n ≤ 9223372036854775807) :
    Calls Tryd.prog 84 #[.int .i64 n] w fun e w' => e = .returned (.string ⟨(Lib.itoa n).toArray⟩) ∧ Below w.heap.size w w' :=
  (Tryd.strconv_Itoa n h0 h1 w hL.tab).mono fun e w' ⟨he, k, os, hw⟩ => ⟨he, by subst hw; exact Lib.below_grow _ _ (Nat.le_refl _) _ _⟩

/-! ### The first byte that is no part of a number -/
def noNum (x : Nat) : Bool := decide (x ≠ 45) && (decide (x < 48) || decide (57 < x))
theorem noNum_byte (b : UInt8) : noNum b.toNat = !isNum b := by
  unfold noNum isNum
  rw [Bool.eq_iff_iff]
  simp only [Bool.and_eq_true, Bool.or_eq_true, decide_eq_true_eq, Bool.not_eq_true', Bool.or_eq_false_iff, beq_eq_false_iff_ne, Bool.and_eq_false_iff, decide_eq_false_iff_not, UInt8.le_iff_toNat_le, ne_eq, ← UInt8.toNat_inj]
  simp <;> omega
theorem idx_from (s : ByteArray) : ∀ (f pos : Nat), s.size ≤ f + pos → pos ≤ s.size →
    Lib.idxFuncFrom noNum true s f pos = if numLen (s.data.toList.drop pos) = (s.data.toList.drop pos).length then -1 else ((pos + numLen (s.data.toList.drop pos) : Nat) : Int)
  | 0, pos, h, h2 => by
    have e : s.data.toList.drop pos = [] := List.drop_of_length_le (by simp [Array.length_toList]; show s.size ≤ pos; omega)
    rw [e]
    rfl
  | f + 1, pos, h, h2 => by
    by_cases hlt : pos < s.size
    · have hd : s.data.toList.drop pos = s[pos] :: s.data.toList.drop (pos + 1) := List.drop_eq_getElem_cons (by simpa using hlt)
      unfold Lib.idxFuncFrom
      rw [if_pos hlt]
      by_cases ha : s[pos].toNat < 128
      · rw [decode_ascii s pos hlt ha]
        simp only
        rw [noNum_byte]
        cases hn : isNum s[pos]
        · have e0 : numLen (s.data.toList.drop pos) = 0 := by unfold numLen; rw [hd, List.takeWhile_cons, hn]; rfl
          rw [if_pos (by rfl), e0, if_neg (by rw [hd]; simp)]
          rfl
        · have e0 : numLen (s.data.toList.drop pos) = numLen (s.data.toList.drop (pos + 1)) + 1 := by unfold numLen; rw [hd, List.takeWhile_cons, hn]; rfl
          rw [if_neg (by simp), idx_from s f (pos + 1) (by omega) (by omega), e0]
          have e1 : (s.data.toList.drop pos).length = (s.data.toList.drop (pos + 1)).length + 1 := by rw [hd]; rfl
          rw [e1]
          by_cases hq : numLen (s.data.toList.drop (pos + 1)) = (s.data.toList.drop (pos + 1)).length
          · rw [if_pos hq, if_pos (by omega)]
          · rw [if_neg hq, if_neg (by omega)]
            congr 1; omega
      · have hh := decode_high s pos hlt (by omega)
        have hn : isNum s[pos] = false := by
          unfold isNum
          have h1 : ¬ s[pos] ≤ 57 := by rw [UInt8.le_iff_toNat_le]; simp; omega
          have h2 : (s[pos] == 45) = false := by
            rw [beq_eq_false_iff_ne]; intro e; rw [e] at ha; exact ha (by decide)
          simp [h1, h2]
        have hp : noNum (Utf8.decode s pos).1 = true := by
          unfold noNum
          simp; omega
        have e0 : numLen (s.data.toList.drop pos) = 0 := by unfold numLen; rw [hd, List.takeWhile_cons, hn]; rfl
        rw [if_pos hp, e0, if_neg (by rw [hd]; simp)]
        rfl
    · have e : s.data.toList.drop pos = [] := List.drop_of_length_le (by simp [Array.length_toList]; show s.size ≤ pos; omega)
      unfold Lib.idxFuncFrom
      rw [if_neg hlt, e]
      rfl
theorem idx_num (s : List UInt8) : Lib.idxFunc noNum true ⟨s.toArray⟩ = if numLen s = s.length then -1 else (numLen s : Int) := by
  have := idx_from ⟨s.toArray⟩ s.length 0 (by rw [str_size]; omega) (Nat.zero_le _)
  unfold Lib.idxFunc
  rw [str_size]
  simpa using this
set_option maxRecDepth 100000 in
theorem number1_any (x : Nat) (w : World) : Calls Tryd.prog 82 #[.int .i32 (x : Int)] w fun e w' => e = .returned (.bool (noNum x)) ∧ w = w' := by
  unfold noNum
  by_cases h1 : x = 45
  · subst h1
    go_enter Tryd.func82, Tryd.ntmps82
    go_wp2
    go_ret
    exact ⟨rfl, rfl⟩
  · have q1 : ((x : Int) != 45) = true := by simp; omega
    by_cases h2 : x < 48
    · have q2 : decide ((x : Int) < 48) = true := by simp; omega
      go_enter Tryd.func82, Tryd.ntmps82
      go_wp2
      go_ret
      exact ⟨by simp [h1, h2], rfl⟩
    · have q2 : decide ((x : Int) < 48) = false := by simp; omega
      by_cases h3 : 57 < x
      · have q3 : decide ((57 : Int) < (x : Int)) = true := by simp; omega
        go_enter Tryd.func82, Tryd.ntmps82
        go_wp2
        go_ret
        exact ⟨by simp [h1, h2, h3], rfl⟩
      · have q3 : decide ((57 : Int) < (x : Int)) = false := by simp; omega
        go_enter Tryd.func82, Tryd.ntmps82
        go_wp2
        go_ret
        exact ⟨by simp [h1, h2, h3], rfl⟩
theorem index_any (s : List UInt8) (w : World) : Calls Tryd.prog 81 #[.string ⟨s.toArray⟩, .func (.func 82) #[] #[]] w fun e w' => e = .returned (.int .i64 (if numLen s = s.length then -1 else (numLen s : Int))) ∧ Below w.heap.size w w' := by
  have := Tryd.strings_IndexFunc 82 #[] (enters_of Tryd.func82 (by kernel_rfl) rfl) noNum ⟨s.toArray⟩ w (fun W x _ => (number1_any x W).mono fun e w' ⟨he, hw⟩ => ⟨he, 0, by rw [← hw]; rfl⟩)
  rw [idx_num] at this
  exact this
end Go.Proofs.YtjjohllfidmkjaaDoor.PfW
