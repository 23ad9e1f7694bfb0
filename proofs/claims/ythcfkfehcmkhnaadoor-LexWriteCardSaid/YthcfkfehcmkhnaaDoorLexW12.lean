/- Walks: two lists of tokens are compared; tokens are copied. Conditions: the lists lie in memory and have at most a million elements. -/
import Derived.Test.YthcfkfehcmkhnaaDoorLexW11
namespace Go.Proofs.YthcfkfehcmkhnaaDoor.LexW
open Go Go.RowKit Go.Proofs.YthcfkfehcmkhnaaDoor.Mem

theorem toks_get : ∀ (l : List Lex.Tok) (k f : Nat) (h : k < l.length), f < 4 → (toksCells l)[k * 4 + f]? = (tokCells l[k])[f]?
  | [], k, f, h, _ => by simp at h
  | t :: r, 0, f, _, hf => by
    show (tokCells t ++ toksCells r)[0 * 4 + f]? = _
    rw [Nat.zero_mul, Nat.zero_add, List.getElem?_append_left (by simpa [tokCells] using hf)]; rfl
  | t :: r, k + 1, f, h, hf => by
    show (tokCells t ++ toksCells r)[(k + 1) * 4 + f]? = _
    have e : (k + 1) * 4 + f - (tokCells t).length = k * 4 + f := by simp [tokCells]; omega
    rw [List.getElem?_append_right (by simp [tokCells]; omega), e, toks_get r k f (by simpa using h) hf]; rfl

/-- The four cells of an element. -/
theorem row_tok {w : World} {A : Option Addr} {l : List Lex.Tok} (h : Row w A (toksCells l)) (hl : l ≠ []) : ∃ g off, A = some ⟨g, off, none⟩ ∧ g < w.heap.size ∧ ∀ (k : Nat) (hk : k < l.length),
    w.cell? ⟨g, off + k * 4, none⟩ = some (.int .i64 l[k].kind) ∧ w.cell? ⟨g, off + k * 4 + 1, none⟩ = some (.string ⟨l[k].text.toArray⟩) ∧ w.cell? ⟨g, off + k * 4 + 2, none⟩ = some (.int .i64 l[k].n) ∧ w.cell? ⟨g, off + k * 4 + 3, none⟩ = some (.int .i64 (l[k].pos : Int)) := by
  obtain ⟨g, off, e, hg, hc⟩ := h (by
    intro h0
    have := toksCells_length l
    rw [h0] at this
    cases l with
    | nil => exact hl rfl
    | cons _ _ => simp at this)
  refine ⟨g, off, e, hg, fun k hk => ?_⟩
  have hlen := toksCells_length l
  have c := fun f (hf : f < 4) => (hc (k * 4 + f) (by rw [hlen]; omega)).trans (toks_get l k f hk hf)
  exact ⟨c 0 (by decide), c 1 (by decide), c 2 (by decide), c 3 (by decide)⟩

def tokEq (offs : Bool) (x y : Lex.Tok) : Bool := decide (x.kind = y.kind) && decide (x.text = y.text) && decide (x.n = y.n) && (!offs || decide (x.pos = y.pos))
def same (offs : Bool) : List Lex.Tok → List Lex.Tok → Bool
  | [], [] => true
  | x :: a, y :: b => tokEq offs x y && same offs a b
  | _, _ => false
theorem same_iff (offs : Bool) : ∀ (a b : List Lex.Tok), same offs a b = true ↔ a.length = b.length ∧ ∀ (k : Nat) (h : k < a.length) (h' : k < b.length), tokEq offs a[k] b[k] = true
  | [], [] => by simp [same]
  | [], y :: b => by simp [same]
  | x :: a, [] => by simp [same]
  | x :: a, y :: b => by
    simp only [same, Bool.and_eq_true, same_iff offs a b, List.length_cons, Nat.add_right_cancel_iff]
    constructor
    · rintro ⟨h1, h2, h3⟩
      refine ⟨h2, fun k => ?_⟩
      cases k with
      | zero => intro _ _; exact h1
      | succ k => intro h h'; exact h3 k (by omega) (by omega)
    · rintro ⟨h1, h2⟩
      exact ⟨h2 0 (by omega) (by omega), h1, fun k h h' => h2 (k + 1) (by omega) (by omega)⟩

theorem str_beq (a b : List UInt8) : ((ByteArray.mk a.toArray).toList == (ByteArray.mk b.toArray).toList) = decide (a = b) := by
  rw [Go.ByteArray.toList_mk, Go.ByteArray.toList_mk, Bool.eq_iff_iff]; simp

/-- The ways in which two tokens are compared. -/
theorem tok_ways (offs : Bool) (x y : Lex.Tok) :
    (tokEq offs x y = false ∧ (x.kind != y.kind) = true) ∨
    (tokEq offs x y = false ∧ (x.kind != y.kind) = false ∧ (!x.text == y.text) = true) ∨
    (tokEq offs x y = false ∧ (x.kind != y.kind) = false ∧ (!x.text == y.text) = false ∧ (x.n != y.n) = true) ∨
    (tokEq offs x y = true ∧ (x.kind != y.kind) = false ∧ (!x.text == y.text) = false ∧ (x.n != y.n) = false ∧ offs = false) ∨
    (tokEq offs x y = false ∧ (x.kind != y.kind) = false ∧ (!x.text == y.text) = false ∧ (x.n != y.n) = false ∧ offs = true ∧ ((x.pos : Int) != (y.pos : Int)) = true) ∨
    (tokEq offs x y = true ∧ (x.kind != y.kind) = false ∧ (!x.text == y.text) = false ∧ (x.n != y.n) = false ∧ offs = true ∧ ((x.pos : Int) != (y.pos : Int)) = false) := by
  unfold tokEq
  by_cases h1 : x.kind = y.kind
  · by_cases h2 : x.text = y.text
    · by_cases h3 : x.n = y.n
      · cases offs
        · simp [h1, h2, h3]
        · by_cases h4 : x.pos = y.pos
          · simp [h1, h2, h3, h4]
          · have : (x.pos : Int) ≠ (y.pos : Int) := by omega
            simp [h1, h2, h3, h4, this]
      · simp [h1, h2, h3]
    · simp [h1, h2]
  · simp [h1]

set_option maxRecDepth 100000 in
set_option maxHeartbeats 2000000 in
theorem rsame_any (a b : List Lex.Tok) (A A' : Option Addr) (c c' : Nat) (offs : Bool) (w : World) (ha : Row w A (toksCells a)) (hb : Row w A' (toksCells b)) (la : a.length ≤ 1000000) (lb : b.length ≤ 1000000) :
    Calls Tryd.prog 13 #[.slice A a.length c, .slice A' b.length c', .bool offs] w fun e w' => e = .returned (.bool (same offs a b)) ∧ Below w.heap.size w w' := by
  by_cases hl : a.length = b.length
  · by_cases h0 : a = []
    · subst h0
      have hb0 : b = [] := List.eq_nil_of_length_eq_zero hl.symm
      subst hb0
      go_enter Tryd.func13, Tryd.ntmps13
      go_wp2
      refine wp_loop_rounds 1 ?_
      rw [rounds_succ]
      go_wp2
      go_ret
      exact ⟨rfl, Below.refl _ _⟩
    · have h0' : b ≠ [] := by rintro rfl; exact h0 (List.eq_nil_of_length_eq_zero hl)
      obtain ⟨g, off, rfl, hg, ca⟩ := row_tok ha h0
      obtain ⟨g', off', rfl, hg', cb⟩ := row_tok hb h0'
      have CA := Lib.hid ca
      have CB := Lib.hid cb
      have hsame := Lib.hid (same_iff offs a b)
      clear ca cb ha hb h0 h0'
      have hne : ((a.length : Int) != (b.length : Int)) = false := by simp; omega
      have HL := Lib.hid hl
      have hl1 : a.length ≤ b.length := by omega
      have hl2 : b.length ≤ a.length := by omega
      clear hl
      go_enter Tryd.func13, Tryd.ntmps13
      go_wp2
      go_loopw [7] (fun t wr => ∃ k : Nat, k ≤ a.length ∧ t = .int .i64 k ∧ Below w.heap.size w wr ∧ Hid (∀ (j : Nat) (h : j < a.length) (h' : j < b.length), j < k → tokEq offs a[j] b[j] = true)) (fun t _ => a.length - (intOf t).toNat)
      case atStart => exact ⟨0, Nat.zero_le _, rfl, Below.refl _ _, Lib.hid fun j _ _ h => absurd h (Nat.not_lt_zero _)⟩
      case round =>
        obtain ⟨k, hk, rfl, hbel, hall⟩ := hrel
        by_cases hlt : k < a.length
        · obtain ⟨a0, a1, a2, a3⟩ := CA.out k hlt
          obtain ⟨b0, b1, b2, b3⟩ := CB.out k (by omega)
          rw [← hbel.cell (p := ⟨g, _, none⟩) hg] at a0 a1 a2 a3
          rw [← hbel.cell (p := ⟨g', _, none⟩) hg'] at b0 b1 b2 b3
          have hkb : k < b.length := by omega
          have hw := tok_ways offs a[k] b[k]
          have hx := Lib.hid (rfl : a[k] = a[k])
          generalize hX : a[k] = x at *
          generalize hY : b[k]'hkb = y at *
          obtain ⟨xk, xt, xn, xp⟩ := x
          obtain ⟨yk, yt, yn, yp⟩ := y
          have HX := Lib.hid hX
          have HY := Lib.hid hY
          clear hX hY hx
          simp only at hw a0 a1 a2 a3 b0 b1 b2 b3
          rcases hw with ⟨hE, e1⟩ | ⟨hE, e1, e2⟩ | ⟨hE, e1, e2, e3⟩ | ⟨hE, e1, e2, e3, rfl⟩ | ⟨hE, e1, e2, e3, rfl, e4⟩ | ⟨hE, e1, e2, e3, rfl, e4⟩
          · have hF : same offs a b = false := by
              cases h : same offs a b
              · rfl
              · have h2 := (hsame.out.1 h).2 k hlt hkb
                rw [HX.out, HY.out, hE] at h2; cases h2
            have HF := Lib.hid hF
            clear hE hF
            go_wp2
            go_quiet (fail)
            go_wp2
            go_ret
            exact ⟨ret_bool HF.out.symm, below_drewN hbel _⟩
          · have hF : same offs a b = false := by
              cases h : same offs a b
              · rfl
              · have h2 := (hsame.out.1 h).2 k hlt hkb
                rw [HX.out, HY.out, hE] at h2; cases h2
            have HF := Lib.hid hF
            clear hE hF
            go_wp2
            go_quiet (fail)
            go_wp2
            go_ret
            exact ⟨ret_bool HF.out.symm, below_drewN hbel _⟩
          · have hF : same offs a b = false := by
              cases h : same offs a b
              · rfl
              · have h2 := (hsame.out.1 h).2 k hlt hkb
                rw [HX.out, HY.out, hE] at h2; cases h2
            have HF := Lib.hid hF
            clear hE hF
            go_wp2
            go_quiet (fail)
            go_wp2
            go_ret
            exact ⟨ret_bool HF.out.symm, below_drewN hbel _⟩
          · have hn : ∀ (j : Nat) (h : j < a.length) (h' : j < b.length), j < k + 1 → tokEq false a[j] b[j] = true := fun j h h' hj => by
              by_cases hjk : j < k
              · exact hall.out j h h' hjk
              · obtain rfl : j = k := by omega
                rw [HX.out, HY.out]; exact hE
            have HN := Lib.hid hn
            clear hE hn
            go_wp2
            go_quiet (fail)
            go_wp2
            go_roundw
            case rel => exact ⟨k + 1, by omega, by go_num, below_drewN hbel _, HN⟩
            case measure => simp [intOf]; omega
          · have hF : same true a b = false := by
              cases h : same true a b
              · rfl
              · have h2 := (hsame.out.1 h).2 k hlt hkb
                rw [HX.out, HY.out, hE] at h2; cases h2
            have HF := Lib.hid hF
            clear hE hF
            go_wp2
            go_quiet (fail)
            go_wp2
            go_ret
            exact ⟨ret_bool HF.out.symm, below_drewN hbel _⟩
          · have hn : ∀ (j : Nat) (h : j < a.length) (h' : j < b.length), j < k + 1 → tokEq true a[j] b[j] = true := fun j h h' hj => by
              by_cases hjk : j < k
              · exact hall.out j h h' hjk
              · obtain rfl : j = k := by omega
                rw [HX.out, HY.out]; exact hE
            have HN := Lib.hid hn
            clear hE hn
            go_wp2
            go_quiet (fail)
            go_wp2
            go_roundw
            case rel => exact ⟨k + 1, by omega, by go_num, below_drewN hbel _, HN⟩
            case measure => simp [intOf]; omega
        · have hT : same offs a b = true := hsame.out.2 ⟨HL.out, fun j h h' => hall.out j h h' (by omega)⟩
          have HT := Lib.hid hT
          clear hT
          go_wp2
          go_ret
          exact ⟨ret_bool HT.out.symm, hbel⟩
  · have hF : same offs a b = false := by
      cases h : same offs a b
      · rfl
      · exact absurd ((same_iff offs a b).1 h).1 hl
    have HF := Lib.hid hF
    have hne : ((a.length : Int) != (b.length : Int)) = true := by simp; omega
    clear hF hl
    go_enter Tryd.func13, Tryd.ntmps13
    go_wp2
    go_ret
    exact ⟨ret_bool HF.out.symm, Below.refl _ _⟩
end Go.Proofs.YthcfkfehcmkhnaaDoor.LexW
