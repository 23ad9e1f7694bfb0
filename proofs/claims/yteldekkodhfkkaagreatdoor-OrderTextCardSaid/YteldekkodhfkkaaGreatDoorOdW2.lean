/- Walks: lists held against each other; the reference's Valid, Less and Few. Conditions: the items lie in memory; their texts are short; at most a million of them. -/
import Derived.Test.YteldekkodhfkkaaGreatDoorOdW1
import Derived.BigRegion
import Derived.Laws.StructEq
namespace Go.Proofs.YteldekkodhfkkaaGreatDoor.OdW
open Go Go.RowKit Go.Proofs.YteldekkodhfkkaaGreatDoor.Mem
open Go.Proofs.YteldekkodhfkkaaGreatDoor.LexW (ret_bool)

theorem below_drew {B : Nat} {a w : World} (h : Below B a w) : Below B a w.drew := ⟨h.os, h.tape, h.output, h.size, h.block⟩
theorem text_eq (a b : List UInt8) : ((ByteArray.mk a.toArray).toList == (ByteArray.mk b.toArray).toList) = decide (a = b) := by
  rw [Go.ByteArray.toList_eq, Go.ByteArray.toList_eq, Bool.eq_iff_iff]
  simp
theorem text_less (a b : List UInt8) : Op.bytesLess (ByteArray.mk a.toArray).toList (ByteArray.mk b.toArray).toList = Od.sl a b := by
  rw [Go.ByteArray.toList_eq, Go.ByteArray.toList_eq]
  rfl
section
variable {α : Type} [DecidableEq α]
theorem same_no {a b : List α} (k : Nat) (ha : k < a.length) (hb : k < b.length) (h : decide (a[k] = b[k]) = false) : decide (a = b) = false := by
  rw [decide_eq_false_iff_not] at h ⊢
  rintro rfl
  exact h rfl
theorem same_drop {a b : List α} (k : Nat) (ha : k < a.length) (hb : k < b.length) (h : decide (a[k] = b[k]) = true) : decide (a.drop k = b.drop k) = decide (a.drop (k + 1) = b.drop (k + 1)) := by
  rw [decide_eq_true_eq] at h
  refine decide_eq_decide.2 ?_
  rw [List.drop_eq_getElem_cons ha, List.drop_eq_getElem_cons hb, h]
  exact ⟨fun e => (List.cons.inj e).2, fun e => by rw [e]⟩
theorem same_end {a b : List α} (h : a.length = b.length) : decide (a.drop a.length = b.drop a.length) = true := by
  rw [List.drop_length, h, List.drop_length]
  simp
theorem same_len {a b : List α} (h : a.length ≠ b.length) : decide (a = b) = false := by
  rw [decide_eq_false_iff_not]
  rintro rfl
  exact h rfl
end
/-- A need: its part, its quantity. -/
abbrev Nd : Type := List UInt8 × Int
def ndCells (x : Nd) : List Value := [.string ⟨x.1.toArray⟩, .int .i64 x.2]
theorem nd_len (x : Nd) : (ndCells x).length = 2 := rfl
theorem it_neq (a b : Od.It) (w : World) : (binOp .neq 33 (.agg #[.string ⟨a.o.toArray⟩, .string ⟨a.p.toArray⟩, .int .i64 a.q, .int .i64 a.d]) (.agg #[.string ⟨b.o.toArray⟩, .string ⟨b.p.toArray⟩, .int .i64 b.q, .int .i64 b.d])).run Tryz.prog w = .ok (.bool (!(decide (a = b)))) w := by
  have u3 := Tryz.underlying3
  have a3 := Tryz.isAgg3
  have z3 := Tryz.sizeOf3
  have u9 := Tryz.underlying9
  have a9 := Tryz.isAgg9
  have z9 := Tryz.sizeOf9
  have hS : Tryz.prog.underlying 33 = some (.struct (Tryz.prog.fieldsOf 33)) := by kernel_rfl
  have hp : Tryz.prog.stoodInHeld 33 = false := by kernel_rfl
  have e1 := text_eq a.o b.o
  have e2 := text_eq a.p b.p
  rw [run_neq_struct, show (10000 : Nat) = 9999 + 1 from rfl, run_equalIn_agg w 9999 33 _ _ hS hp]
  simp only [Program.fieldsOf, Tryz.underlying33]
  go_simp
  obtain ⟨o, p, q, d⟩ := a
  obtain ⟨o2, p2, q2, d2⟩ := b
  simp only at e1 e2 ⊢
  by_cases h1 : o = o2 <;> by_cases h2 : p = p2 <;> by_cases h3 : q = q2 <;> by_cases h4 : d = d2 <;> simp [h1, h2, h3, h4]
set_option maxRecDepth 100000 in
set_option maxHeartbeats 1000000 in
theorem rsame_any (l r : List Od.It) (A B : Option Addr) (c d : Nat) (w : World) (hr : Row w A (l.flatMap itCells)) (hs : Row w B (r.flatMap itCells)) (hl : l.length ≤ 1000000) (hl2 : r.length ≤ 1000000) :
    Calls Tryz.prog 10 #[.slice A l.length c, .slice B r.length d] w fun e w' => e = .returned (.bool (decide (l = r))) ∧ Below w.heap.size w w' := by
  have HA := Lib.hid hr
  have HB := Lib.hid hs
  clear hr hs
  by_cases hlen : l.length = r.length
  · have hst : Hid (decide (l = r) = decide (l.drop 0 = r.drop 0)) := Lib.hid rfl
    have hn : ((l.length : Int) != (l.length : Int)) = false := by simp
    have hend := Lib.hid (same_end hlen)
    have HLEN := Lib.hid hlen
    rw [← hlen]
    clear hlen
    have hm : Tryz.prog.eqGuardType Tryz.prog.depth 33 = false := by kernel_rfl
    go_enter Tryz.func10, Tryz.ntmps10
    go_wp2
    go_loopw [5] (fun t wr => ∃ k : Nat, k ≤ l.length ∧ t = .int .i64 k ∧ Hid (decide (l = r) = decide (l.drop k = r.drop k)) ∧ Below w.heap.size w wr) (fun t _ => l.length - (intOf t).toNat)
    case atStart => exact ⟨0, Nat.zero_le _, rfl, hst, Below.refl _ _⟩
    case round =>
      obtain ⟨k, hk, rfl, hd, hbel⟩ := hrel
      by_cases hlt : k < l.length
      · have hlt2 : k < r.length := by have := HLEN.out; omega
        obtain ⟨g, off, rfl, hg, ca⟩ := row_get it_len (by decide) HA.out (by omega)
        obtain ⟨g2, off2, rfl, hg2, cb⟩ := row_get it_len (by decide) HB.out (by omega)
        have a0 := (hbel.cell (p := ⟨g, _, none⟩) hg).trans (ca k hlt 0 (by decide))
        have a1 := (hbel.cell (p := ⟨g, _, none⟩) hg).trans (ca k hlt 1 (by decide))
        have a2 := (hbel.cell (p := ⟨g, _, none⟩) hg).trans (ca k hlt 2 (by decide))
        have a3 := (hbel.cell (p := ⟨g, _, none⟩) hg).trans (ca k hlt 3 (by decide))
        have b0 := (hbel.cell (p := ⟨g2, _, none⟩) hg2).trans (cb k hlt2 0 (by decide))
        have b1 := (hbel.cell (p := ⟨g2, _, none⟩) hg2).trans (cb k hlt2 1 (by decide))
        have b2 := (hbel.cell (p := ⟨g2, _, none⟩) hg2).trans (cb k hlt2 2 (by decide))
        have b3 := (hbel.cell (p := ⟨g2, _, none⟩) hg2).trans (cb k hlt2 3 (by decide))
        have hno := Lib.hid (same_no k hlt hlt2)
        have hyes := Lib.hid (same_drop k hlt hlt2)
        have hk1 : (0 : Int) ≤ (k : Int) := by omega
        have hk2 : (k : Int) < (l.length : Int) := by omega
        clear ca cb
        generalize l[k] = m at *
        generalize r[k] = n at *
        clear hlt2
        have hne := fun W => it_neq m n W
        simp only [itCells, List.getElem?_cons_zero, List.getElem?_cons_succ, Nat.add_zero] at a0 a1 a2 a3 b0 b1 b2 b3
        cases hq : decide (m = n)
        · have HQ := Lib.hid (hno.out hq)
          rw [hq] at hne
          simp only [Bool.not_false] at hne
          clear hq
          go_wp2
          go_region
          as_aux_lemma =>
            go_wp2
            go_ret
            rw [HQ.out]
            exact ⟨rfl, below_drew hbel⟩
        · have HQ := Lib.hid (hyes.out hq)
          rw [hq] at hne
          simp only [Bool.not_true] at hne
          clear hq
          go_wp2
          go_region
          as_aux_lemma =>
            go_wp2
            go_roundw
            case rel => exact ⟨k + 1, by omega, by go_num, Lib.hid (hd.out.trans HQ.out), below_drew hbel⟩
            case measure => simp [intOf]; omega
      · obtain rfl : k = l.length := by omega
        go_wp2
        go_ret
        rw [hd.out, hend.out]
        exact ⟨rfl, hbel⟩
  · have hn : ((l.length : Int) != (r.length : Int)) = true := by simp; omega
    have hno := Lib.hid (same_len hlen)
    clear hlen
    go_enter Tryz.func10, Tryz.ntmps10
    go_wp2
    go_ret
    rw [hno.out]
    exact ⟨rfl, Below.refl _ _⟩
def key (x : Od.It) : Od.Ky := ⟨x.d, x.o, x.p⟩
def few (l : List Od.It) : Bool := l.all (fun x => decide (x.o.length ≤ 40) && decide (x.p.length ≤ 40)) && (decide (l.length ≤ 30) || (decide (100 ≤ l.length) && decide (l.length ≤ 102)))
theorem few_short {l : List Od.It} (h : few l = true) : l.length ≤ 102 ∧ ∀ x ∈ l, x.o.length ≤ 40 ∧ x.p.length ≤ 40 := by
  simp only [few, Bool.and_eq_true, List.all_eq_true, Bool.or_eq_true, decide_eq_true_eq] at h
  exact ⟨by omega, h.1⟩
set_option maxRecDepth 100000 in
set_option maxHeartbeats 1000000 in
theorem few_any (l : List Od.It) (A : Option Addr) (c : Nat) (w : World) (hr : Row w A (l.flatMap itCells)) (hl : l.length ≤ 9223372036854775807) :
    Calls Tryz.prog 5 #[.slice A l.length c] w (Returns w (.bool (few l))) := by
  have HA := Lib.hid hr
  clear hr
  go_enter Tryz.func5, Tryz.ntmps5
  go_wp2
  go_loop [3] (fun t => ∃ k : Nat, k ≤ l.length ∧ t = .int .i64 k ∧ Hid (∀ x ∈ l.take k, x.o.length ≤ 40 ∧ x.p.length ≤ 40)) (fun t => l.length - (intOf t).toNat)
  case atStart => exact ⟨0, Nat.zero_le _, rfl, Lib.hid (by simp)⟩
  case round =>
    obtain ⟨k, hk, rfl, hd⟩ := hrel
    by_cases hlt : k < l.length
    · obtain ⟨g, off, rfl, hg, ca⟩ := row_get it_len (by decide) HA.out (by omega)
      have a0 := ca k hlt 0 (by decide)
      have a1 := ca k hlt 1 (by decide)
      have hbad : Hid (¬ (l[k].o.length ≤ 40 ∧ l[k].p.length ≤ 40) → few l = false) := Lib.hid (by
        intro h
        rw [Bool.eq_false_iff]
        intro h9
        exact h ((few_short h9).2 _ (List.getElem_mem hlt)))
      have hgood : Hid (l[k].o.length ≤ 40 ∧ l[k].p.length ≤ 40 → ∀ x ∈ l.take (k + 1), x.o.length ≤ 40 ∧ x.p.length ≤ 40) := Lib.hid (by
        intro h m hm
        rw [take_snoc' l k hlt] at hm
        rcases List.mem_append.1 hm with h1 | h1
        · exact hd.out m h1
        · simp at h1; subst h1; exact h)
      clear ca
      generalize l[k] = m at *
      simp only [itCells, List.getElem?_cons_zero, List.getElem?_cons_succ, Nat.add_zero] at a0 a1
      have zo := text_size m.o
      have zp := text_size m.p
      rw [← zo, ← zp] at hbad hgood
      clear zo zp
      generalize (ByteArray.mk m.o.toArray) = OB at *
      generalize (ByteArray.mk m.p.toArray) = PB at *
      by_cases h1 : OB.size ≤ 40
      · by_cases h2 : PB.size ≤ 40
        · have d1 : decide ((40 : Int) < (OB.size : Int)) = false := by simp; omega
          have d2 : decide ((40 : Int) < (PB.size : Int)) = false := by simp; omega
          go_wp2
          go_round
          case rel => exact ⟨k + 1, by omega, by go_num, Lib.hid (hgood.out ⟨h1, h2⟩)⟩
          case measure => simp [intOf]; omega
        · have d1 : decide ((40 : Int) < (OB.size : Int)) = false := by simp; omega
          have d2 : decide ((40 : Int) < (PB.size : Int)) = true := by simp; omega
          go_wp2
          go_ret
          rw [hbad.out (fun h => h2 h.2)]
          exact ⟨rfl, rfl⟩
      · have d1 : decide ((40 : Int) < (OB.size : Int)) = true := by simp; omega
        go_wp2
        go_ret
        rw [hbad.out (fun h => h1 h.1)]
        exact ⟨rfl, rfl⟩
    · obtain rfl : k = l.length := by omega
      have hall := hd.out
      rw [List.take_length] at hall
      have e : few l = (decide (l.length ≤ 30) || (decide (100 ≤ l.length) && decide (l.length ≤ 102))) := by
        have h0 : l.all (fun x => decide (x.o.length ≤ 40) && decide (x.p.length ≤ 40)) = true := by
          rw [List.all_eq_true]
          intro x hx
          have := hall x hx
          simp [this.1, this.2]
        unfold few
        rw [h0, Bool.true_and]
      have E := Lib.hid e
      clear e hall hd
      rcases (show (l.length : Int) ≤ 30 ∨ (30 < (l.length : Int) ∧ (l.length : Int) < 100) ∨ (100 ≤ (l.length : Int) ∧ (l.length : Int) ≤ 102) ∨ 102 < (l.length : Int) by omega) with h | h | h | h
      all_goals
        go_wp2
        go_ret
        rw [E.out]
        refine ⟨ret_bool ?_, rfl⟩
        rw [Bool.eq_iff_iff]
        simp
        omega

set_option maxRecDepth 100000 in
set_option maxHeartbeats 2000000 in
theorem rvalid_any (l : List Od.It) (A : Option Addr) (c : Nat) (w : World) (hr : Row w A (l.flatMap itCells)) (hl : l.length ≤ 1000000) (hsh : ∀ m ∈ l, Od.Short m) :
    Calls Tryz.prog 27 #[.slice A l.length c] w fun e w' => e = .returned (.bool (Od.valid l)) ∧ Below w.heap.size w w' := by
  have HA := Lib.hid hr
  have HSH := Lib.hid hsh
  clear hr hsh
  go_enter Tryz.func27, Tryz.ntmps27
  go_wp2
  go_loopw [3] (fun t wr => ∃ k : Nat, k ≤ l.length ∧ t = .int .i64 k ∧ Hid (∀ m ∈ l.take k, Od.ok m = true) ∧ Below w.heap.size w wr) (fun t _ => l.length - (intOf t).toNat)
  case atStart => exact ⟨0, Nat.zero_le _, rfl, Lib.hid (by simp), Below.refl _ _⟩
  case round =>
    obtain ⟨k, hk, rfl, hd, hbel⟩ := hrel
    by_cases hlt : k < l.length
    · obtain ⟨g, off, rfl, hg, ca⟩ := row_get it_len (by decide) HA.out (by omega)
      have a0 := (hbel.cell (p := ⟨g, _, none⟩) hg).trans (ca k hlt 0 (by decide))
      have a1 := (hbel.cell (p := ⟨g, _, none⟩) hg).trans (ca k hlt 1 (by decide))
      have a2 := (hbel.cell (p := ⟨g, _, none⟩) hg).trans (ca k hlt 2 (by decide))
      have a3 := (hbel.cell (p := ⟨g, _, none⟩) hg).trans (ca k hlt 3 (by decide))
      have hbad : Hid (Od.ok l[k] = false → Od.valid l = false) := Lib.hid (by
        intro h
        rw [Bool.eq_false_iff]
        intro h9
        have := Od.valid_ok h9 (List.getElem_mem hlt)
        rw [h] at this; cases this)
      have hgood : Hid (Od.ok l[k] = true → ∀ m ∈ l.take (k + 1), Od.ok m = true) := Lib.hid (by
        intro h m hm
        rw [take_snoc' l k hlt] at hm
        rcases List.mem_append.1 hm with h1 | h1
        · exact hd.out m h1
        · simp at h1; subst h1; exact h)
      have hw := Od.ok_ways l[k]
      have hs := HSH.out l[k] (List.getElem_mem hlt)
      clear ca
      generalize l[k] = m at *
      unfold Od.Short at hs
      have HO := Lib.hid (fun W => rname_any m.o W (by omega))
      have HP := Lib.hid (fun W => rname_any m.p W (by omega))
      have HBA := Lib.hid (hbel.alloc hbel.size (.cells #[.string ⟨m.o.toArray⟩, .string ⟨m.p.toArray⟩, .int .i64 m.q, .int .i64 m.d] 33))
      simp only [itCells, List.getElem?_cons_zero, List.getElem?_cons_succ, Nat.add_zero] at a0 a1 a2 a3
      clear hs hbel
      generalize Od.ok m = r at *
      rcases hw with ⟨h1, h2⟩ | ⟨h1, h2, h3⟩ | ⟨h1, h2, h3⟩
      · rw [h1] at HO
        have H9 := Lib.hid h2
        clear h1 h2
        generalize (ByteArray.mk m.o.toArray) = OB at *
        generalize (ByteArray.mk m.p.toArray) = PB at *
        go_wp2_with fail
        refine (HO.out _).mono ?_
        rintro e w1 ⟨rfl, rfl⟩
        go_wp2
        go_ret
        rw [hbad.out H9.out]
        exact ⟨rfl, HBA.out⟩
      · rw [h1] at HO
        rw [h2] at HP
        have H9 := Lib.hid h3
        clear h1 h2 h3
        generalize (ByteArray.mk m.o.toArray) = OB at *
        generalize (ByteArray.mk m.p.toArray) = PB at *
        go_wp2_with fail
        refine (HO.out _).mono ?_
        rintro e w1 ⟨rfl, rfl⟩
        go_wp2_with fail
        refine (HP.out _).mono ?_
        rintro e w1 ⟨rfl, rfl⟩
        go_wp2
        go_ret
        rw [hbad.out H9.out]
        exact ⟨rfl, HBA.out⟩
      · rw [h1] at HO
        rw [h2] at HP
        clear h1 h2
        generalize (ByteArray.mk m.o.toArray) = OB at *
        generalize (ByteArray.mk m.p.toArray) = PB at *
        rcases h3 with ⟨c1, c9⟩ | ⟨c1, c2, c9⟩ | ⟨c1, c2, c3, c9⟩ | ⟨c1, c2, c3, c4, c9⟩ | ⟨c1, c2, c3, c4, c9⟩
        iterate 4
          · have H9 := Lib.hid c9
            clear c9
            go_wp2_with fail
            refine (HO.out _).mono ?_
            rintro e w1 ⟨rfl, rfl⟩
            go_wp2_with fail
            refine (HP.out _).mono ?_
            rintro e w1 ⟨rfl, rfl⟩
            go_wp2
            go_ret
            rw [hbad.out H9.out]
            exact ⟨rfl, HBA.out⟩
        · have H9 := Lib.hid c9
          clear c9
          go_wp2_with fail
          refine (HO.out _).mono ?_
          rintro e w1 ⟨rfl, rfl⟩
          go_wp2_with fail
          refine (HP.out _).mono ?_
          rintro e w1 ⟨rfl, rfl⟩
          go_wp2
          go_roundw
          case rel => exact ⟨k + 1, hlt, by go_num, Lib.hid (hgood.out H9.out), HBA.out⟩
          case measure => simp [intOf]; omega
    · obtain rfl : k = l.length := by omega
      have hall := hd.out
      rw [List.take_length] at hall
      have E : Hid (Od.valid l = decide ((l.length : Int) ≤ 100)) := Lib.hid (by
        have h0 : l.all Od.ok = true := by rw [List.all_eq_true]; exact hall
        unfold Od.valid
        rw [h0, Bool.and_true, Bool.eq_iff_iff]
        simp
        omega)
      clear hall hd
      go_wp2
      go_ret
      rw [E.out]
      exact ⟨rfl, hbel⟩
end Go.Proofs.YteldekkodhfkkaaGreatDoor.OdW
