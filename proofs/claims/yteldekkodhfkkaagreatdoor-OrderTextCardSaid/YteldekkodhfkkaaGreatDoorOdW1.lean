/- Walks: items; valid lists, by the program. Conditions: the items lie in memory; their texts are short; at most a million of them. -/
import Derived.Test.YteldekkodhfkkaaGreatDoorOdPlain
import Derived.Test.YteldekkodhfkkaaGreatDoorOdLex
import Derived.Test.YteldekkodhfkkaaGreatDoorRowK
import Derived.Lib.Hide
import Derived.Shelf.Abstract
namespace Go.Proofs.YteldekkodhfkkaaGreatDoor.Od
/-- An item. -/
structure It where
  o : List UInt8
  p : List UInt8
  q : Int
  d : Int
  deriving DecidableEq
def ok (x : It) : Bool := Lex.isName x.o && Lex.isName x.p && decide (1 ≤ x.q) && decide (x.q ≤ 1000) && decide (0 ≤ x.d) && decide (x.d ≤ 1000000)
def valid (l : List It) : Bool := decide (l.length ≤ 100) && l.all ok
def Short (x : It) : Prop := x.o.length ≤ 1000 ∧ x.p.length ≤ 1000
theorem ok_parts {x : It} (h : ok x = true) : 1 ≤ x.q ∧ x.q ≤ 1000 ∧ 0 ≤ x.d ∧ x.d ≤ 1000000 := by
  simp only [ok, Bool.and_eq_true, decide_eq_true_eq] at h
  omega
theorem valid_len {l : List It} (h : valid l = true) : l.length ≤ 100 := by
  simp only [valid, Bool.and_eq_true, decide_eq_true_eq] at h
  exact h.1
theorem valid_ok {l : List It} (h : valid l = true) {x : It} (hx : x ∈ l) : ok x = true := by
  simp only [valid, Bool.and_eq_true, List.all_eq_true] at h
  exact h.2 x hx
theorem ok_ways (x : It) : (Lex.isName x.o = false ∧ ok x = false) ∨ (Lex.isName x.o = true ∧ Lex.isName x.p = false ∧ ok x = false) ∨
    (Lex.isName x.o = true ∧ Lex.isName x.p = true ∧ ((x.q < 1 ∧ ok x = false) ∨ (1 ≤ x.q ∧ 1000 < x.q ∧ ok x = false) ∨ (1 ≤ x.q ∧ x.q ≤ 1000 ∧ x.d < 0 ∧ ok x = false) ∨ (1 ≤ x.q ∧ x.q ≤ 1000 ∧ 0 ≤ x.d ∧ 1000000 < x.d ∧ ok x = false) ∨ (1 ≤ x.q ∧ x.q ≤ 1000 ∧ 0 ≤ x.d ∧ x.d ≤ 1000000 ∧ ok x = true))) := by
  unfold ok
  cases Lex.isName x.o
  · exact .inl ⟨rfl, rfl⟩
  · cases Lex.isName x.p
    · exact .inr (.inl ⟨rfl, rfl, rfl⟩)
    · refine .inr (.inr ⟨rfl, rfl, ?_⟩)
      simp only [Bool.true_and, Bool.and_eq_false_imp, Bool.and_eq_true, decide_eq_true_eq, decide_eq_false_iff_not]
      omega
end Go.Proofs.YteldekkodhfkkaaGreatDoor.Od
namespace Go.Proofs.YteldekkodhfkkaaGreatDoor.OdW
open Go Go.RowKit Go.Proofs.YteldekkodhfkkaaGreatDoor.Mem
open Go.Proofs.YteldekkodhfkkaaGreatDoor.LexW (ret_bool isName_any risName_any)
abbrev Returns (w : World) (v : Value) : Ending → World → Prop := fun e w' => e = .returned v ∧ w = w'

def itCells (x : Od.It) : List Value := [.string ⟨x.o.toArray⟩, .string ⟨x.p.toArray⟩, .int .i64 x.q, .int .i64 x.d]
theorem it_len (x : Od.It) : (itCells x).length = 4 := rfl
theorem text_size (a : List UInt8) : (ByteArray.mk a.toArray).size = a.length := by simp [ByteArray.size]
theorem name_any (s : List UInt8) (w : World) (hs : s.length ≤ 1000000) : Calls Tryz.prog 69 #[.string ⟨s.toArray⟩] w (Returns w (.bool (Lex.isName s))) := by
  have := isName_any ⟨s.toArray⟩ w (by rw [text_size]; exact hs)
  simpa using this
theorem rname_any (s : List UInt8) (w : World) (hs : s.length ≤ 1000000) : Calls Tryz.prog 49 #[.string ⟨s.toArray⟩] w (Returns w (.bool (Lex.isName s))) := by
  have := risName_any ⟨s.toArray⟩ w (by rw [text_size]; exact hs)
  simpa using this

set_option maxRecDepth 100000 in
set_option maxHeartbeats 1000000 in
theorem valid1_any (m : Od.It) (hs : Od.Short m) (w : World) : Calls Tryz.prog 46 #[.agg #[.string ⟨m.o.toArray⟩, .string ⟨m.p.toArray⟩, .int .i64 m.q, .int .i64 m.d]] w fun e w' => e = .returned (.bool (Od.ok m)) ∧ Below w.heap.size w w' := by
  have hb : Below w.heap.size w (w.alloc (.cells #[.string ⟨m.o.toArray⟩, .string ⟨m.p.toArray⟩, .int .i64 m.q, .int .i64 m.d] 33)) := (Below.refl _ _).alloc (Nat.le_refl _) _
  have HB := Lib.hid hb
  have hw := Od.ok_ways m
  unfold Od.Short at hs
  have HO := Lib.hid (fun W => name_any m.o W (by omega))
  have HP := Lib.hid (fun W => name_any m.p W (by omega))
  clear hb
  obtain ⟨o, p, q, d⟩ := m
  simp only at HO HP hw hs
  clear hs
  generalize Od.ok ⟨o, p, q, d⟩ = r at *
  rcases hw with ⟨h1, h2⟩ | ⟨h1, h2, h3⟩ | ⟨h1, h2, h3⟩
  · subst h2
    rw [h1] at HO
    clear h1
    generalize (ByteArray.mk o.toArray) = OB at *
    generalize (ByteArray.mk p.toArray) = PB at *
    go_enter Tryz.func46, Tryz.ntmps46
    go_wp2_with fail
    refine (HO.out _).mono ?_
    rintro e w1 ⟨rfl, rfl⟩
    go_wp2
    go_ret
    exact ⟨rfl, HB.out⟩
  · subst h3
    rw [h1] at HO
    rw [h2] at HP
    clear h1 h2
    generalize (ByteArray.mk o.toArray) = OB at *
    generalize (ByteArray.mk p.toArray) = PB at *
    go_enter Tryz.func46, Tryz.ntmps46
    go_wp2_with fail
    refine (HO.out _).mono ?_
    rintro e w1 ⟨rfl, rfl⟩
    go_wp2_with fail
    refine (HP.out _).mono ?_
    rintro e w1 ⟨rfl, rfl⟩
    go_wp2
    go_ret
    exact ⟨rfl, HB.out⟩
  · rw [h1] at HO
    rw [h2] at HP
    clear h1 h2
    generalize (ByteArray.mk o.toArray) = OB at *
    generalize (ByteArray.mk p.toArray) = PB at *
    rcases h3 with ⟨c1, c9⟩ | ⟨c1, c2, c9⟩ | ⟨c1, c2, c3, c9⟩ | ⟨c1, c2, c3, c4, c9⟩ | ⟨c1, c2, c3, c4, c9⟩
    all_goals
      subst c9
      go_enter Tryz.func46, Tryz.ntmps46
      go_wp2_with fail
      refine (HO.out _).mono ?_
      rintro e w1 ⟨rfl, rfl⟩
      go_wp2_with fail
      refine (HP.out _).mono ?_
      rintro e w1 ⟨rfl, rfl⟩
      go_wp2
      go_ret
      refine ⟨ret_bool ?_, HB.out⟩
      simp
      try omega
theorem notvalid_any (m : Od.It) (hs : Od.Short m) (w : World) : Calls Tryz.prog 45 #[.agg #[.string ⟨m.o.toArray⟩, .string ⟨m.p.toArray⟩, .int .i64 m.q, .int .i64 m.d]] w fun e w' => e = .returned (.bool (!Od.ok m)) ∧ Below w.heap.size w w' := by
  have hb : Below w.heap.size w (w.alloc (.cells #[.string ⟨m.o.toArray⟩, .string ⟨m.p.toArray⟩, .int .i64 m.q, .int .i64 m.d] 33)) := (Below.refl _ _).alloc (Nat.le_refl _) _
  have HB := Lib.hid hb
  have HV := Lib.hid (fun W => valid1_any m hs W)
  clear hb hs
  go_enter Tryz.func45, Tryz.ntmps45
  go_wp2_with fail
  refine (HV.out _).mono ?_
  rintro e w1 ⟨rfl, hb1⟩
  go_wp2
  go_ret
  exact ⟨rfl, HB.out.trans (hb1.mono HB.out.size)⟩

def idx {α : Type} (p : α → Bool) : List α → Nat → Int
  | [], _ => -1
  | x :: r, i => if p x then (i : Int) else idx p r (i + 1)
theorem idx_ge {α : Type} (p : α → Bool) : ∀ (l : List α) (i : Nat), decide ((0 : Int) ≤ idx p l i) = l.any p
  | [], _ => rfl
  | x :: r, i => by
    unfold idx
    rw [List.any_cons]
    cases hp : p x
    · simp only [Bool.false_eq_true, if_false, Bool.false_or]; exact idx_ge p r (i + 1)
    · simp
theorem idx_lt {α : Type} (p : α → Bool) : ∀ (l : List α) (i : Nat), idx p l i < ((i + l.length : Nat) : Int) + (if l.length = 0 then 1 else 0) ∧ (idx p l i = -1 ∨ ((i : Int) ≤ idx p l i ∧ idx p l i < ((i + l.length : Nat) : Int)))
  | [], i => by simp [idx]; omega
  | x :: r, i => by
    have := (idx_lt p r (i + 1)).2
    unfold idx
    simp only [List.length_cons]
    cases hp : p x
    · simp only [Bool.false_eq_true, if_false]
      omega
    · simp only [if_true]
      omega

theorem idx_no {α : Type} (p : α → Bool) (l : List α) (k : Nat) (h : k < l.length) (hp : p l[k] = false) : idx p (l.drop k) k = idx p (l.drop (k + 1)) (k + 1) := by
  rw [List.drop_eq_getElem_cons h, idx, hp]; rfl
theorem idx_yes {α : Type} (p : α → Bool) (l : List α) (k : Nat) (h : k < l.length) (hp : p l[k] = true) : idx p (l.drop k) k = (k : Int) := by
  rw [List.drop_eq_getElem_cons h, idx, hp]; rfl

set_option maxRecDepth 100000 in
theorem indexFunc_any (g : FuncId) (p : Od.It → Bool) (eg : Enters Tryz.prog g)
    (hg : Hid (∀ (m : Od.It), Od.Short m → ∀ (w : World), Calls Tryz.prog g #[.agg #[.string ⟨m.o.toArray⟩, .string ⟨m.p.toArray⟩, .int .i64 m.q, .int .i64 m.d]] w fun e w' => e = .returned (.bool (p m)) ∧ Below w.heap.size w w'))
    (l : List Od.It) (A : Option Addr) (c : Nat) (w : World) (hr : Row w A (l.flatMap itCells)) (hl : l.length ≤ 1000000) (hsh : ∀ m ∈ l, Od.Short m) :
    Calls Tryz.prog 68 #[.slice A l.length c, .func (.func g) #[] #[]] w fun e w' => e = .returned (.int .i64 (idx p l 0)) ∧ Below w.heap.size w w' := by
  unfold Enters at eg
  by_cases h0 : l.length = 0
  · have : l = [] := List.eq_nil_of_length_eq_zero h0
    subst this
    clear h0
    go_enter Tryz.func68, Tryz.ntmps68
    go_wp2
    refine wp_loop_rounds 1 ?_
    rw [rounds_succ]
    go_wp2
    go_ret
    exact ⟨rfl, Below.refl _ _⟩
  · obtain ⟨g0, off, rfl, hg0, ca⟩ := row_get it_len (by decide) hr (Nat.pos_of_ne_zero h0)
    have CA := Lib.hid ca
    clear ca hr h0
    have hst := Lib.hid (show idx p l 0 = idx p (l.drop 0) 0 by simp)
    go_enter Tryz.func68, Tryz.ntmps68
    go_wp2
    go_loopw [8] (fun t wr => ∃ k : Nat, k ≤ l.length ∧ t = .int .i64 k ∧ Hid (idx p l 0 = idx p (l.drop k) k) ∧ Below w.heap.size w wr) (fun t _ => l.length - (intOf t).toNat)
    case atStart => exact ⟨0, Nat.zero_le _, rfl, hst, Below.refl _ _⟩
    case round =>
      obtain ⟨k, hk, rfl, hd, hbel⟩ := hrel
      by_cases hlt : k < l.length
      · have a0 := (hbel.cell (p := ⟨g0, _, none⟩) hg0).trans (CA.out k hlt 0 (by decide))
        have a1 := (hbel.cell (p := ⟨g0, _, none⟩) hg0).trans (CA.out k hlt 1 (by decide))
        have a2 := (hbel.cell (p := ⟨g0, _, none⟩) hg0).trans (CA.out k hlt 2 (by decide))
        have a3 := (hbel.cell (p := ⟨g0, _, none⟩) hg0).trans (CA.out k hlt 3 (by decide))
        have hsm := hsh l[k] (List.getElem_mem hlt)
        have hno := Lib.hid (idx_no p l k hlt)
        have hyes := Lib.hid (idx_yes p l k hlt)
        generalize l[k] = m at *
        simp only [itCells, List.getElem?_cons_zero, List.getElem?_cons_succ, Nat.add_zero] at a0 a1 a2 a3
        have HSM := Lib.hid hsm
        clear hsm
        cases hp : p m
        · have HP := Lib.hid hp
          clear hp
          go_wp2_with fail
          refine (hg.out m HSM.out _).mono ?_
          rintro e w2 ⟨rfl, hb2⟩
          rw [HP.out]
          go_wp2
          go_roundw
          case rel => exact ⟨k + 1, hlt, by go_num, Lib.hid (hd.out.trans (hno.out HP.out)), hbel.trans (hb2.mono hbel.size)⟩
          case measure => simp [intOf]; omega
        · have HP := Lib.hid hp
          clear hp
          go_wp2_with fail
          refine (hg.out m HSM.out _).mono ?_
          rintro e w2 ⟨rfl, hb2⟩
          rw [HP.out]
          go_wp2
          go_ret
          rw [hd.out, hyes.out HP.out]
          exact ⟨rfl, hbel.trans (hb2.mono hbel.size)⟩
      · obtain rfl : k = l.length := by omega
        go_wp2
        go_ret
        rw [hd.out, List.drop_length]
        exact ⟨rfl, hbel⟩
theorem containsFunc_any (g : FuncId) (p : Od.It → Bool) (eg : Enters Tryz.prog g)
    (hg : Hid (∀ (m : Od.It), Od.Short m → ∀ (w : World), Calls Tryz.prog g #[.agg #[.string ⟨m.o.toArray⟩, .string ⟨m.p.toArray⟩, .int .i64 m.q, .int .i64 m.d]] w fun e w' => e = .returned (.bool (p m)) ∧ Below w.heap.size w w'))
    (l : List Od.It) (A : Option Addr) (c : Nat) (w : World) (hr : Row w A (l.flatMap itCells)) (hl : l.length ≤ 1000000) (hsh : ∀ m ∈ l, Od.Short m) :
    Calls Tryz.prog 44 #[.slice A l.length c, .func (.func g) #[] #[]] w fun e w' => e = .returned (.bool (l.any p)) ∧ Below w.heap.size w w' := by
  have hi := Lib.hid (indexFunc_any g p eg hg l A c w hr hl hsh)
  have hq := Lib.hid (idx_ge p l 0)
  clear hr hsh
  go_enter Tryz.func44, Tryz.ntmps44
  go_wp2_with fail
  refine hi.out.mono ?_
  rintro e w1 ⟨rfl, hb1⟩
  go_wp2
  go_ret
  rw [hq.out]
  exact ⟨rfl, hb1⟩

set_option maxRecDepth 100000 in
theorem valid_any (l : List Od.It) (A : Option Addr) (c : Nat) (w : World) (hr : Row w A (l.flatMap itCells)) (hl : l.length ≤ 1000000) (hsh : ∀ m ∈ l, Od.Short m) :
    Calls Tryz.prog 23 #[.slice A l.length c] w fun e w' => e = .returned (.bool (Od.valid l)) ∧ Below w.heap.size w w' := by
  have hi := Lib.hid (fun W h => containsFunc_any 45 (fun m => !Od.ok m) (enters_of Tryz.func45 (by kernel_rfl) rfl) (Lib.hid notvalid_any) l A c W h hl hsh)
  have hR := Lib.hid hr
  have hq : Hid (Od.valid l = (decide ((l.length : Int) ≤ 100) && !(l.any fun m => !Od.ok m))) := Lib.hid (by
    unfold Od.valid
    rw [show (decide ((l.length : Int) ≤ 100)) = decide (l.length ≤ 100) by rw [Bool.eq_iff_iff]; simp; omega]
    simp [List.all_eq_not_any_not])
  clear hr hsh
  rw [hq.out]
  clear hq
  generalize (l.any fun m => !Od.ok m) = b at hi ⊢
  by_cases h2 : l.length ≤ 100
  · go_enter Tryz.func23, Tryz.ntmps23
    go_wp2_with fail
    refine (hi.out _ hR.out).mono ?_
    rintro e w1 ⟨rfl, hb1⟩
    go_wp2
    go_ret
    refine ⟨ret_bool ?_, hb1⟩
    rw [Bool.eq_iff_iff]
    simp
    omega
  · go_enter Tryz.func23, Tryz.ntmps23
    go_wp2
    go_ret
    refine ⟨ret_bool ?_, Below.refl _ _⟩
    rw [Bool.eq_iff_iff]
    simp
    omega
end Go.Proofs.YteldekkodhfkkaaGreatDoor.OdW
