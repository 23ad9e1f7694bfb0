/- Walks: tokens are copied; the examples of the chapter. Conditions: the list lies in memory and has at most a million elements. -/
import Derived.Test.YthcfkfehcmkhnaaDoorLexW12
import Derived.Laws.StructEq
namespace Go.Proofs.YthcfkfehcmkhnaaDoor.LexW
open Go Go.RowKit Go.Proofs.YthcfkfehcmkhnaaDoor.Mem

theorem take_snoc {α : Type} (l : List α) (k : Nat) (h : k < l.length) : l.take (k + 1) = l.take k ++ [l[k]] := by
  rw [List.take_succ_eq_append_getElem h]

set_option maxRecDepth 100000 in
set_option maxHeartbeats 1000000 in
theorem theirs_any (l : List Lex.Tok) (A : Option Addr) (c : Nat) (w : World) (hr : Row w A (toksCells l)) (hl : l.length ≤ 1000000) :
    Calls Tryd.prog 14 #[.slice A l.length c] w fun e w' => (∃ v, e = .returned v ∧ w'.ownsRow w.heap.size 43 4 v l.length (toksCells l)) ∧ Below w.heap.size w w' := by
  by_cases h0 : l = []
  · subst h0
    go_enter Tryd.func14, Tryd.ntmps14
    go_wp2
    refine wp_loop_rounds 1 ?_
    rw [rounds_succ]
    go_wp2
    go_ret
    exact ⟨⟨_, rfl, World.ownsRow_nil _ _ _ _⟩, Below.refl _ _⟩
  · obtain ⟨g, off, rfl, hg, ca⟩ := row_tok hr h0
    have CA := Lib.hid ca
    clear ca hr h0
    obtain ⟨i0, ia, ib, ic, id⟩ := info_parts rtok_info
    go_enter Tryd.func14, Tryd.ntmps14
    go_wp2
    go_loopw [3, 4] (fun v t wr => ∃ k : Nat, k ≤ l.length ∧ t = .int .i64 k ∧ wr.ownsRow w.heap.size 43 4 v k (toksCells (l.take k)) ∧ Below w.heap.size w wr) (fun _ t _ => l.length - (intOf t).toNat)
    case atStart => exact ⟨0, Nat.zero_le _, rfl, World.ownsRow_nil _ _ _ _, Below.refl _ _⟩
    case round =>
      obtain ⟨k, hk, rfl, hown, hbel⟩ := hrel
      by_cases hlt : k < l.length
      · obtain ⟨a0, a1, a2, a3⟩ := CA.out k hlt
        rw [← hbel.cell (p := ⟨g, _, none⟩) hg] at a0 a1 a2 a3
        have hts := Lib.hid (show toksCells (l.take (k + 1)) = toksCells (l.take k) ++ tokCells l[k] by rw [take_snoc l k hlt, toksCells_snoc])
        generalize l[k] = t at *
        obtain ⟨tk, tt, tn, tp⟩ := t
        simp only [tokCells] at hts a0 a1 a2 a3
        have hz0 := hbel.size
        go_wp2_with (at_builtin; refine wpList_append_own _ rfl _ _ 27 rfl w.heap.size 43 i0 _ 4 40 Tryd.underlying27 ia ib ic id rfl (by omega) _ _ _ rfl (hown.alloc _) ⟨wr.heap.size, 0, none⟩ 1 1 [.int .i64 tk, .string ⟨tt.toArray⟩, .int .i64 tn, .int .i64 (tp : Int)] rfl rfl ?c1 ?c2 ?c3 ?c4 ?c5 ?_)
        case c1 => exact cells_new4 wr _ _ _ _ _
        case c2 => intro u hu; simp at hu; rcases hu with rfl | rfl | rfl | rfl <;> rfl
        case c3 => unfold maxLen; omega
        case c4 => omega
        case c5 => simp; omega
        · intro v' w2 hown2 hg2 _
          have hb2 : Below w.heap.size w w2 := below_append (hbel.alloc (by omega) _) (by simp; omega) (hown.alloc _) hg2 (Nat.le_refl _)
          rw [← hts.out] at hown2
          clear hg2 hown hbel
          go_wp2
          go_roundw
          case rel => exact ⟨k + 1, by omega, by go_num, hown2, hb2⟩
          case measure => simp [intOf]; omega
      · obtain rfl : k = l.length := by omega
        have e := Lib.hid (show l.take l.length = l from List.take_length)
        go_wp2
        go_ret
        rw [e.out] at hown
        exact ⟨⟨_, rfl, hown⟩, hbel⟩

/-- A row that the call owns, with its address. -/
theorem own_at {w : World} {base : Nat} {e : TypeId} {n : Nat} {v : Value} {xs : List Value} {size : Nat} (h : w.ownsRow base e size v n xs) (hn : 0 < n) : ∃ g c, v = .slice (some ⟨g, 0, none⟩) n c ∧ g < w.heap.size ∧ ∀ j, j < n * size → w.cell? ⟨g, j, none⟩ = xs[j]? := by
  rcases h.2 with ⟨h0, h1⟩ | ⟨g, cap, cur, hv, hb, hh, hn', hc, hs, ht⟩
  · omega
  · subst hv
    refine ⟨g, cap, rfl, ?_, fun j hj => h.cellAt j hj⟩
    rcases Nat.lt_or_ge g w.heap.size with hlt | hge
    · exact hlt
    · rw [Array.getElem?_eq_none hge] at hh; cases hh

def ex1 : List UInt8 := [112, 97, 114, 116, 32, 97, 32, 123, 32, 45, 49, 50, 32, 125]
def ex2 : List UInt8 := [97, 32, 49, 98]
theorem ex1_lex : Lex.tokens ex1 = ⟨[⟨1, [112, 97, 114, 116], 0, 0⟩, ⟨1, [97], 0, 5⟩, ⟨3, [123], 0, 7⟩, ⟨2, [], -12, 9⟩, ⟨3, [125], 0, 13⟩], 0, 0⟩ := by rfl
theorem ex2_lex : Lex.tokens ex2 = ⟨[], 2, 3⟩ := by rfl

set_option maxRecDepth 100000 in
set_option maxHeartbeats 1000000 in
theorem awake_any (w : World) : Calls Tryd.prog 10 #[] w fun e w' => e = .returned (.bool true) ∧ Below w.heap.size w w' := by
  have hm : Tryd.prog.eqGuardType Tryd.prog.depth 37 = false := by kernel_rfl
  have heq : ∀ W : World, (binOp .eql 37 (.agg #[.int .i64 2, .string ⟨#[]⟩, .int .i64 (-12), .int .i64 9]) (.agg #[.int .i64 2, .string ⟨#[]⟩, .int .i64 (-12), .int .i64 9])).run Tryd.prog W = .ok (.bool true) W := fun W => by kernel_rfl
  go_enter Tryd.func10, Tryd.ntmps10
  go_wp2_with fail
  refine (tokens_any _ _).mono ?_
  rintro e w1 ⟨v1, rfl, hown1, hb1⟩
  rw [show (⟨#[112, 97, 114, 116, 32, 97, 32, 123, 32, 45, 49, 50, 32, 125]⟩ : ByteArray).data.toList = ex1 from rfl, ex1_lex] at *
  obtain ⟨g, cc, rfl, hg, hcell⟩ := own_at hown1 (by decide)
  have a0 := hcell 12 (by decide)
  have a1 := hcell 13 (by decide)
  have a2 := hcell 14 (by decide)
  have a3 := hcell 15 (by decide)
  have a4 := hcell 19 (by decide)
  simp only [toksCells, tokCells, List.flatMap_cons, List.flatMap_nil, List.cons_append, List.nil_append, List.getElem?_cons_succ, List.getElem?_cons_zero] at a0 a1 a2 a3 a4
  clear hcell hown1
  go_wp2_with fail
  refine (tokens_any _ _).mono ?_
  rintro e w2 ⟨v2, rfl, hown2, hb2⟩
  rw [show (⟨#[97, 32, 49, 98]⟩ : ByteArray).data.toList = ex2 from rfl, ex2_lex] at *
  rw [← hb2.cell (p := ⟨g, _, none⟩) hg] at a0 a1 a2 a3 a4
  have hb3 := hb1.trans (hb2.mono hb1.size)
  clear hown2 hb1 hb2
  go_wp2
  go_ret
  exact ⟨rfl, hb3⟩
end Go.Proofs.YthcfkfehcmkhnaaDoor.LexW
