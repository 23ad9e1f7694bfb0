/- Walks: sums and opposites of vectors, whatever they are; a program cloned. Conditions: the program lies in memory and has at most a million moves. -/
import Derived.Test.YtonpbomjjamphaaDoorNcV2
import Derived.Test.YtonpbomjjamphaaDoorNcO
import Derived.WalkSpells
import Derived.Lib.SliceRun
namespace Go.Proofs.YtonpbomjjamphaaDoor.NcW
open Go Go.RowKit Go.Proofs.YtonpbomjjamphaaDoor.Mem

theorem add_any (x y u v : Int) (w : World) :
    Calls Tryd.prog 32 #[.agg #[.int .i64 x, .int .i64 y], .agg #[.int .i64 u, .int .i64 v]] w fun e w' => e = .returned (.agg #[.int .i64 (wrap64 (x + u)), .int .i64 (wrap64 (y + v))]) ∧ Below w.heap.size w w' := by
  go_enter Tryd.func32, Tryd.ntmps32
  go_wp2
  refine bodyPost_ret (v := .agg #[.int .i64 (wrap64 (x + u)), .int .i64 (wrap64 (y + v))]) (by simp [results, Tryd.results32, go_sem]) rfl ⟨rfl, ?_⟩
  exact (((Below.refl _ _).alloc (Nat.le_refl _) _).alloc (by simp) _).alloc (by simp; omega) _
theorem radd_any (x y u v : Int) (w : World) :
    Calls Tryd.prog 39 #[.agg #[.int .i64 x, .int .i64 y], .agg #[.int .i64 u, .int .i64 v]] w fun e w' => e = .returned (.agg #[.int .i64 (wrap64 (x + u)), .int .i64 (wrap64 (y + v))]) ∧ Below w.heap.size w w' := by
  go_enter Tryd.func39, Tryd.ntmps39
  go_wp2
  refine bodyPost_ret (v := .agg #[.int .i64 (wrap64 (x + u)), .int .i64 (wrap64 (y + v))]) (by simp [results, Tryd.results39, go_sem]) rfl ⟨rfl, ?_⟩
  exact (((Below.refl _ _).alloc (Nat.le_refl _) _).alloc (by simp) _).alloc (by simp; omega) _
theorem neg_any (x y : Int) (w : World) :
    Calls Tryd.prog 13 #[.agg #[.int .i64 x, .int .i64 y]] w fun e w' => e = .returned (.agg #[.int .i64 (wrap64 (-x)), .int .i64 (wrap64 (-y))]) ∧ Below w.heap.size w w' := by
  go_enter Tryd.func13, Tryd.ntmps13
  go_wp2
  refine bodyPost_ret (v := .agg #[.int .i64 (wrap64 (-x)), .int .i64 (wrap64 (-y))]) (by simp [results, Tryd.results13, go_sem]) rfl ⟨rfl, ?_⟩
  exact ((Below.refl _ _).alloc (Nat.le_refl _) _).alloc (by simp) _

set_option maxRecDepth 100000 in
theorem clone_any (l : List Nc.Mv) (A : Option Addr) (c : Nat) (w : World) (hr : Row w A (l.flatMap mvCells)) (hl : l.length ≤ 1000000) :
    Calls Tryd.prog 30 #[.slice A l.length c] w fun e w' => (∃ v, e = .returned v ∧ w'.ownsRow w.heap.size 62 3 v l.length (l.flatMap mvCells)) ∧ Below w.heap.size w w' := by
  have HR := Lib.hid hr
  obtain ⟨i0, ia, ib, ic, id⟩ := info_parts info_own_any
  have hnil := fun (W : World) => Lib.run_eql_slice_nil (P := Tryd.prog) W 27 62 A l.length c 0 0 Tryd.underlying27
  rcases A with _ | ad
  · have h0 : l = [] := by
      rcases l with _ | ⟨a, r⟩
      · rfl
      · obtain ⟨g, off, hg, _⟩ := row_get mv_len (by decide) hr (by simp)
        cases hg
    subst h0
    simp only [Option.isNone_none, List.length_nil] at hnil
    clear hr HR
    go_enter Tryd.func30, Tryd.ntmps30
    go_wp2
    go_ret
    exact ⟨⟨_, rfl, World.ownsRow_nil _ _ _ _⟩, Below.refl _ _⟩
  · simp only [Option.isNone_some] at hnil
    have hlen := flatMap_len mv_len l
    have HLEN := Lib.hid hlen
    have hone : ∀ u ∈ l.flatMap mvCells, u.oneCell' = true := by
      intro u hu
      obtain ⟨m, _, hm⟩ := List.mem_flatMap.1 hu
      simp only [mvCells, List.mem_cons, List.not_mem_nil, or_false] at hm
      rcases hm with rfl | rfl | rfl <;> rfl
    have HONE := Lib.hid hone
    have HO0 : Hid ((w.alloc (.cells #[] 62)).ownsRow w.heap.size 62 3 (.slice (some ⟨w.heap.size, 0, none⟩) 0 0) 0 []) := Lib.hid ⟨rfl, .inr ⟨w.heap.size, 0, #[], rfl, Nat.le_refl _, heap_alloc_new w _, Nat.le_refl _, by unfold maxLen; omega, rfl, rfl⟩⟩
    clear hr hlen hone
    go_enter Tryd.func30, Tryd.ntmps30
    go_wp2_with (at_builtin; refine wpList_append_row _ rfl _ _ 27 rfl w.heap.size 62 i0 _ 3 24 Tryd.underlying27 ia ib ic id rfl (by omega) _ _ _ rfl HO0.out (some ad) l.length c (l.flatMap mvCells) rfl (HR.out.below ((Below.refl _ _).alloc (Nat.le_refl _) _)) HLEN.out HONE.out ?c3 ?c4 ?c5 ?_)
    case c3 => unfold maxLen; omega
    case c4 => omega
    case c5 => simp
    · intro v' w2 hown2 hg2
      have hb2 : Below w.heap.size w w2 := below_append ((Below.refl w.heap.size w).alloc (Nat.le_refl _) _) (by simp) HO0.out hg2 (Nat.le_refl _)
      have HO := Lib.hid hown2
      clear hown2 hg2 hnil
      go_wp2
      go_ret
      exact ⟨⟨_, rfl, HO.out⟩, hb2⟩
end Go.Proofs.YtonpbomjjamphaaDoor.NcW
