/- Walks: the iterator over the lines of a text. Conditions: the library's bound is laid; the text is short of 2^32. -/
import Derived.Test.YtonpbomjjamphaaGreatDoorNcP2
import Derived.Test.YtonpbomjjamphaaGreatDoorNcRF
namespace Go.Proofs.YtonpbomjjamphaaGreatDoor.NcW
open Go Go.RowKit Go.Proofs.YtonpbomjjamphaaGreatDoor.Mem

/-- A text cut at its first line feed. -/
def cutLF : List UInt8 → List UInt8 × List UInt8 × Bool
  | [] => ([], [], false)
  | c :: l => if c = 10 then ([], l, true) else (c :: (cutLF l).1, (cutLF l).2.1, (cutLF l).2.2)

theorem index_nn (s : List UInt8) : -1 ≤ Lib.index s [10] := Lib.index_ge s [10]

theorem cut_lf : ∀ s : List UInt8, Lib.cut s [10] = cutLF s
  | [] => rfl
  | c :: l => by
    have ih := cut_lf l
    have hn := index_nn l
    have hp : List.isPrefixOf [10] (c :: l) = (10 == c) := by simp [List.isPrefixOf]
    unfold cutLF
    unfold Lib.cut at ih ⊢
    by_cases hc : c = 10
    · subst hc
      simp [Lib.index]
    · have h10 : ((10 : UInt8) == c) = false := by simp; exact fun e => hc e.symm
      simp only [Lib.index, hp, h10, if_neg hc, Bool.false_eq_true, if_false]
      by_cases hi : Lib.index l [10] = -1
      · simp only [hi] at ih ⊢
        simp at ih ⊢
        rw [← ih]; simp
      · have h0 : 0 ≤ Lib.index l [10] := by omega
        have h1 : (Lib.index l [10] == -1) = false := by simpa using hi
        have ht : (Lib.index l [10] + 1).toNat = (Lib.index l [10]).toNat + 1 := by omega
        rw [if_pos h0] at ih
        simp only [h1, Bool.false_eq_true, if_false]
        rw [if_pos (by omega), ← ih, ht]
        simp

theorem cutLF_short : ∀ s : List UInt8, s ≠ [] → (cutLF s).2.1.length < s.length
  | [], h => absurd rfl h
  | c :: l, _ => by
    unfold cutLF
    split
    · simp
    · by_cases hl : l = []
      · subst hl; simp [cutLF]
      · have := cutLF_short l hl; simp; omega

def linesOf (s : List UInt8) : List (List UInt8 × Bool) :=
  if _h : s = [] then [] else ((cutLF s).1, (cutLF s).2.2) :: linesOf (cutLF s).2.1
termination_by s.length
decreasing_by exact cutLF_short s (by assumption)

theorem linesOf_nil : linesOf [] = [] := by unfold linesOf; simp
theorem linesOf_cons {s : List UInt8} (h : s ≠ []) : linesOf s = ((cutLF s).1, (cutLF s).2.2) :: linesOf (cutLF s).2.1 := by
  rw [linesOf]; simp [h]

def encLine (x : List UInt8 × Bool) : Array Value := #[.string ⟨x.1.toArray⟩, .bool x.2]

def leftOf (b : Nat) (w : World) : Nat := match w.cell? ⟨b, 0, none⟩ with | some (.string s) => s.size | _ => 0

attribute [local go_sem] Oper.semAt_some

set_option maxRecDepth 100000 in
set_option maxHeartbeats 2000000 in
theorem lines1_gives (n b : Nat) (s : List UInt8) (m : Int) (w : World) (hb : w.heap[b]? = some (.cells #[.string ⟨s.toArray⟩] 9)) (hm : w.cell? ⟨0, 0, none⟩ = some (.int .i64 m)) (hb0 : 0 < b) (hs : s.length < 4294967281) (hn : 1 ≤ n) :
    GivesAll Fence.wide n Tryz.prog 23 #[.pointer (some ⟨b, 0, none⟩)] encLine b (linesOf s) w := by
  intro l J Jx W hW hJ hJx hY h0
  have hbw := block_lt' hb
  have hbW : W.heap[b]? = some (.cells #[.string ⟨s.toArray⟩] 9) := (hW.block b hbw).trans hb
  have hmW : W.cell? ⟨0, 0, none⟩ = some (.int .i64 m) := (hW.cell (p := ⟨0, 0, none⟩) (by show 0 < w.heap.size; omega)).trans hm
  have HBW := Lib.hid hbW
  have HMW := Lib.hid hmW
  have HS := Lib.hid hs
  clear hb hm hW hbW hmW hs
  refine callsIn_of_wp Tryz.func23 rfl trivial ?_ rfl
  simp only [Tryz.ntmps23, List.size_toArray, List.length_cons, List.length_nil, Nat.reduceAdd, Nat.reduceSub, Array.replicate_succ, Array.replicate_zero, List.push_toArray, List.append_toArray, List.nil_append, List.cons_append]
  gi_wp2
  gi_loopw [] (fun wr => ∃ pre rest, Hid (linesOf s = pre ++ linesOf rest) ∧ rest.length ≤ s.length ∧ Hid (wr.heap[b]? = some (.cells #[.string ⟨rest.toArray⟩] 9)) ∧ Hid (wr.cell? ⟨0, 0, none⟩ = some (.int .i64 m)) ∧ J pre wr) (fun wr => leftOf b wr)
  case atStart =>
    exact ⟨[], s, Lib.hid rfl, Nat.le_refl _, HBW, HMW, h0⟩
  case round =>
    obtain ⟨pre, rest, he, hle, hbx, hmx, hJs⟩ := hrel
    have c0 : wr.cell? ⟨b, 0, none⟩ = some (.string ⟨rest.toArray⟩) := by rw [Lib.cell_of_heap hbx.out]; rfl
    by_cases hr : rest = []
    · subst hr
      gi_wp2
      go_end0
      exact ⟨⟨_, rfl⟩, .inl (by rw [he.out, linesOf_nil, List.append_nil]; exact hJs)⟩
    · have hemp : rest.isEmpty = false := by cases rest <;> simp at hr ⊢
      have HCUT := Lib.hid (fun W h => Tryz.strings_Cut ⟨rest.toArray⟩ ⟨#[10]⟩ m W (by have h1 : (ByteArray.mk rest.toArray).size = rest.length := str_size rest; have := HS.out; omega) h)
      rw [show (ByteArray.mk rest.toArray).data.toList = rest by simp, show (ByteArray.mk #[10]).data.toList = [10] by simp, cut_lf] at HCUT
      have hsh := cutLF_short rest hr
      have HY := Lib.hid (fun W h => hY pre ((cutLF rest).1, (cutLF rest).2.2) W h (by rw [he.out, linesOf_cons hr]; simp))
      have HE : Hid (linesOf s = (pre ++ [((cutLF rest).1, (cutLF rest).2.2)]) ++ linesOf (cutLF rest).2.1) := Lib.hid (by rw [he.out, linesOf_cons hr]; simp)
      clear he
      generalize cutLF rest = cc at *
      obtain ⟨ln, rs, en⟩ := cc
      dsimp only at HCUT HY HE hsh
      have HSH := Lib.hid hsh
      clear hsh hr
      gi_wp2
      refine ⟨trivial, ?_⟩
      refine (callsIn_wide.2 (HCUT.out wr hmx.out)).mono ?_
      rintro e w1 ⟨rfl, q, rfl⟩
      obtain ⟨fn, tmps, assign, body, hy, hR⟩ := HY.out (wr.drewN q) (hJ _ _ _ hJs (Turn.of_below (below_drewN (Below.refl _ _) q)))
      dsimp only [encLine] at hy
      have HR := Lib.hid hR
      gi_wp2
      refine HR.out.mono ?_
      rintro e W3 (⟨rfl, hJ3, hk3⟩ | ⟨rfl, hJx3⟩)
      · have hb3 : W3.heap[b]? = some (.cells #[.string ⟨rest.toArray⟩] 9) := hk3.own.trans hbx.out
        have hm3 : W3.cell? ⟨0, 0, none⟩ = some (.int .i64 m) := by have h := hmx.out; unfold World.cell? at h ⊢; rw [show W3.heap[0]? = _ from hk3.first]; exact h
        have c3 : W3.cell? ⟨b, 0, none⟩ = some (.string ⟨rest.toArray⟩) := by rw [Lib.cell_of_heap hb3]; rfl
        have f3 : W3.frozen? ⟨b, 0, none⟩ = false := Lib.frozen_of_heap hb3 0
        have HJ3 := Lib.hid hJ3
        gi_wp2
        go_roundw
        case rel => exact ⟨_, rs, HE, by have := HSH.out; omega, Lib.hid (block_set hb3 0 _), Lib.hid ((((Below.refl b W3).setCell (p := ⟨b, 0, none⟩) (Nat.le_refl _) _).cell (p := ⟨0, 0, none⟩) hb0).trans hm3), hJ _ _ _ HJ3.out (Turn.put _ _)⟩
        case measure =>
          have := HSH.out
          have e1 : leftOf b wr = rest.length := by unfold leftOf; rw [c0]; exact str_size rest
          have e2 : leftOf b (W3.setCell ⟨b, 0, none⟩ (.string ⟨rs.toArray⟩)) = rs.length := by unfold leftOf; rw [Lib.cell_of_heap (block_set hb3 0 (.string ⟨rs.toArray⟩))]; exact str_size rs
          rw [e1, e2]; exact this
      · have HJX := Lib.hid hJx3
        gi_wp2
        refine bodyPost_ret (results_none rfl _ _ _) rfl ?_
        exact ⟨⟨_, rfl⟩, .inr ⟨_, ⟨linesOf rs, HE.out.symm⟩, HJX.out⟩⟩
end Go.Proofs.YtonpbomjjamphaaGreatDoor.NcW
