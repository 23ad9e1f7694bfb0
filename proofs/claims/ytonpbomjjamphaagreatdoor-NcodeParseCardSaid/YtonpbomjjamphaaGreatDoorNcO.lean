/- Walks: a program copied from one package's moves to the other's. Conditions: the program lies in memory and has at most a million moves. -/
import Derived.Test.YtonpbomjjamphaaGreatDoorNcW2
import Derived.Test.YtonpbomjjamphaaGreatDoorMem2
namespace Go.Proofs.YtonpbomjjamphaaGreatDoor.NcW
open Go Go.RowKit Go.Proofs.YtonpbomjjamphaaGreatDoor.Mem

theorem cells_newl3 (w : World) (a b c : Value) (T : TypeId) : ∀ (j : Nat) (u : Value), [a, b, c][j]? = some u → (w.alloc (.cells #[a, b, c] T)).cell? ((⟨w.heap.size, 0, none⟩ : Addr).add j) = some u := by
  intro j u hj
  match j, hj with
  | 0, hj => simp at hj; subst hj; simp [Addr.add]
  | 1, hj => simp at hj; subst hj; simp [Addr.add]
  | 2, hj => simp at hj; subst hj; simp [Addr.add]
  | j + 3, hj => simp at hj
theorem info_own_any : (Tryz.prog.info? 38).map (fun i => (i.zero, i.size, i.bytes)) = some (some (.agg #[.int .i64 0, .int .i64 0, .int .i64 0]), 3, 24) := by kernel_rfl
theorem info_theirs_any : (Tryz.prog.info? 53).map (fun i => (i.zero, i.size, i.bytes)) = some (some (.agg #[.int .i64 0, .int .i64 0, .int .i64 0]), 3, 24) := by kernel_rfl
set_option maxRecDepth 100000 in
set_option maxHeartbeats 1000000 in
theorem theirs_any (l : List Nc.Mv) (A : Option Addr) (c : Nat) (w : World) (hr : Row w A (l.flatMap mvCells)) (hl : l.length ≤ 1000000) :
    Calls Tryz.prog 8 #[.slice A l.length c] w fun e w' => (∃ v, e = .returned v ∧ w'.ownsRow w.heap.size 53 3 v l.length (l.flatMap mvCells)) ∧ Below w.heap.size w w' := by
  have HR := Lib.hid hr
  clear hr
  obtain ⟨i0, ia, ib, ic, id⟩ := info_parts info_theirs_any
  go_enter Tryz.func8, Tryz.ntmps8
  go_wp2
  go_loopw [3, 4] (fun v t wr => ∃ k : Nat, k ≤ l.length ∧ t = .int .i64 k ∧ wr.ownsRow w.heap.size 53 3 v k ((l.take k).flatMap mvCells) ∧ Below w.heap.size w wr) (fun _ t _ => l.length - (intOf t).toNat)
  case atStart => exact ⟨0, Nat.zero_le _, rfl, World.ownsRow_nil _ _ _ _, Below.refl _ _⟩
  case round =>
    obtain ⟨k, hk, rfl, hown, hbel⟩ := hrel
    by_cases hlt : k < l.length
    · obtain ⟨g, off, rfl, hg, ca⟩ := row_get mv_len (by decide) HR.out (by omega)
      have a0 := (hbel.cell (p := ⟨g, _, none⟩) hg).trans (ca k hlt 0 (by decide))
      have a1 := (hbel.cell (p := ⟨g, _, none⟩) hg).trans (ca k hlt 1 (by decide))
      have a2 := (hbel.cell (p := ⟨g, _, none⟩) hg).trans (ca k hlt 2 (by decide))
      have hts := Lib.hid (flatMap_take mvCells l k hlt)
      clear ca
      generalize l[k] = m at *
      obtain ⟨mk, mx, my⟩ := m
      simp only [mvCells, List.getElem?_cons_zero, List.getElem?_cons_succ, Nat.add_zero] at a0 a1 a2
      have hz0 := hbel.size
      go_wp2_with (at_builtin; refine wpList_append_own _ rfl _ _ 27 rfl w.heap.size 53 i0 _ 3 24 Tryz.underlying27 ia ib ic id rfl (by omega) _ _ _ rfl (hown.alloc _) ⟨wr.heap.size, 0, none⟩ 1 1 [.int .i64 mk, .int .i64 mx, .int .i64 my] rfl rfl ?c1 ?c2 ?c3 ?c4 ?c5 ?_)
      case c1 => exact cells_newl3 wr _ _ _ _
      case c2 => intro u hu; simp at hu; rcases hu with rfl | rfl | rfl <;> rfl
      case c3 => unfold maxLen; omega
      case c4 => omega
      case c5 => simp; omega
      · intro v' w2 hown2 hg2 _
        have hb2 : Below w.heap.size w w2 := below_append (hbel.alloc (by omega) _) (by simp; omega) (hown.alloc _) hg2 (Nat.le_refl _)
        have HO2 : Hid (w2.ownsRow w.heap.size 53 3 v' (k + 1) ((l.take (k + 1)).flatMap mvCells)) := Lib.hid (by rw [hts.out]; exact hown2)
        clear hg2 hown2 hbel hown a0 a1 a2
        go_wp2
        go_roundw
        case rel => exact ⟨k + 1, by omega, by go_num, HO2.out, hb2⟩
        case measure => simp [intOf]; omega
    · obtain rfl : k = l.length := by omega
      have htk := Lib.hid (show l.take l.length = l from List.take_length)
      rw [htk.out] at hown
      have HO := Lib.hid hown
      clear hown
      go_wp2
      go_ret
      exact ⟨⟨_, rfl, HO.out⟩, hbel⟩
end Go.Proofs.YtonpbomjjamphaaGreatDoor.NcW
