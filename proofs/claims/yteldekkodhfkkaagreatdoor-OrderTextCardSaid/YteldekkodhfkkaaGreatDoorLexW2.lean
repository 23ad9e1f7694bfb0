/- Walks: the loops that pass bytes of a kind, of the program and of the reference. Conditions: the offset lies in the text. -/
import Derived.Test.YteldekkodhfkkaaGreatDoorLexW1
import Derived.Test.YteldekkodhfkkaaGreatDoorLexLaws
import Derived.Shelf.Abstract
namespace Go.Proofs.YteldekkodhfkkaaGreatDoor.LexW
open Go Go.RowKit

/-- How many bytes of a kind stand from an offset on. -/
def run (p : UInt8 → Bool) (s : ByteArray) (k : Nat) : Nat := ((s.data.toList.drop k).takeWhile p).length
theorem size_list (s : ByteArray) : s.data.toList.length = s.size := Array.length_toList
theorem drop_at (s : ByteArray) (k : Nat) (h : k < s.size) : s.data.toList.drop k = s[k] :: s.data.toList.drop (k + 1) := by
  rw [List.drop_eq_getElem_cons (by rw [size_list]; exact h)]
  rfl
theorem run_yes {p : UInt8 → Bool} {s : ByteArray} {k : Nat} (h : k < s.size) (hp : p s[k] = true) : run p s k = run p s (k + 1) + 1 := by
  unfold run
  rw [drop_at s k h, List.takeWhile_cons, if_pos hp, List.length_cons]
theorem run_no {p : UInt8 → Bool} {s : ByteArray} {k : Nat} (h : k < s.size) (hp : p s[k] = false) : run p s k = 0 := by
  unfold run
  rw [drop_at s k h, List.takeWhile_cons, if_neg (by simp [hp]), List.length_nil]
theorem run_end {p : UInt8 → Bool} {s : ByteArray} {k : Nat} (h : s.size ≤ k) : run p s k = 0 := by
  unfold run
  rw [List.drop_of_length_le (by rw [size_list]; exact h)]; rfl
theorem run_le (p : UInt8 → Bool) (s : ByteArray) (k : Nat) (h : k ≤ s.size) : k + run p s k ≤ s.size := by
  have h1 := (List.takeWhile_prefix p (l := s.data.toList.drop k)).length_le
  rw [List.length_drop, size_list] at h1
  unfold run; omega

theorem while_any (g : FuncId) (p : UInt8 → Bool) (eg : Enters Tryz.prog g) (hg : Hid (∀ (c : UInt8) (w : World), Calls Tryz.prog g #[.int .u8 (c.toNat : Int)] w (Returns w (.bool (p c)))))
    (s : ByteArray) (i : Nat) (w : World) (hi : i ≤ s.size) (hs : s.size ≤ 1000000) :
    Calls Tryz.prog 33 #[.string s, .int .i64 (i : Int), .func (.func g) #[] #[]] w (Returns w (.int .i64 ((i + run p s i : Nat) : Int))) := by
  unfold Enters at eg
  go_enter Tryz.func33, Tryz.ntmps33
  go_wp2
  go_loop [1] (fun t => ∃ k : Nat, k ≤ s.size ∧ t = .int .i64 k ∧ i + run p s i = k + run p s k) (fun t => s.size - (intOf t).toNat)
  case atStart => exact ⟨i, hi, rfl, rfl⟩
  case round =>
    obtain ⟨k, hk, rfl, he⟩ := hrel
    have HE := Lib.hid he
    clear he
    by_cases hlt : k < s.size
    · cases hp : p s[k]
      · have hc : ∀ w, Calls Tryz.prog g #[.int .u8 (s[k].toNat : Int)] w (Returns w (.bool false)) := fun w => by have := hg.out s[k] w; rwa [hp] at this
        have HC := Lib.hid hc
        have hz := Lib.hid (run_no hlt hp)
        clear hc hp
        go_wp2_with ((with_reducible refine (HC.out _).mono ?_); rintro e w' ⟨rfl, rfl⟩)
        go_ret
        refine ⟨ret_int ?_, rfl⟩
        have e1 := HE.out
        have e2 := hz.out
        omega
      · have hc : ∀ w, Calls Tryz.prog g #[.int .u8 (s[k].toNat : Int)] w (Returns w (.bool true)) := fun w => by have := hg.out s[k] w; rwa [hp] at this
        have HC := Lib.hid hc
        have hz := Lib.hid (run_yes hlt hp)
        clear hc hp
        go_wp2_with ((with_reducible refine (HC.out _).mono ?_); rintro e w' ⟨rfl, rfl⟩)
        go_round
        case rel => exact ⟨k + 1, by omega, by go_num, by rw [HE.out, hz.out]; omega⟩
        case measure => simp [intOf]; omega
    · have hz := Lib.hid (run_end (p := p) (s := s) (k := k) (by omega))
      go_wp2
      go_ret
      refine ⟨ret_int ?_, rfl⟩
      have e1 := HE.out
      have e2 := hz.out
      omega
theorem while_inner (s : ByteArray) (i : Nat) (w : World) (hi : i ≤ s.size) (hs : s.size ≤ 1000000) :
    Calls Tryz.prog 33 #[.string s, .int .i64 (i : Int), .func (.func 59) #[] #[]] w (Returns w (.int .i64 ((i + run Lex.inner s i : Nat) : Int))) :=
  while_any _ _ (enters_of Tryz.func59 (by kernel_rfl) rfl) inner_any s i w hi hs
theorem while_digit (s : ByteArray) (i : Nat) (w : World) (hi : i ≤ s.size) (hs : s.size ≤ 1000000) :
    Calls Tryz.prog 33 #[.string s, .int .i64 (i : Int), .func (.func 60) #[] #[]] w (Returns w (.int .i64 ((i + run Lex.digit s i : Nat) : Int))) :=
  while_any _ _ (enters_of Tryz.func60 (by kernel_rfl) rfl) digit_any s i w hi hs
theorem while_feed (s : ByteArray) (i : Nat) (w : World) (hi : i ≤ s.size) (hs : s.size ≤ 1000000) :
    Calls Tryz.prog 33 #[.string s, .int .i64 (i : Int), .func (.func 34) #[] #[]] w (Returns w (.int .i64 ((i + run Lex.notFeed s i : Nat) : Int))) :=
  while_any _ _ (enters_of Tryz.func34 (by kernel_rfl) rfl) feed_any s i w hi hs
end Go.Proofs.YteldekkodhfkkaaGreatDoor.LexW
