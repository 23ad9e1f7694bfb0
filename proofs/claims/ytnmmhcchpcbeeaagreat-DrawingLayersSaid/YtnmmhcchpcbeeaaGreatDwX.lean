/- Walks: whether a drawing is valid. Conditions: its entities lie in memory. -/
import Derived.Test.YtnmmhcchpcbeeaaGreatDwV

namespace Go.Proofs.YtnmmhcchpcbeeaaGreat.GeW
open Go Go.RowKit Go.Proofs.YtnmmhcchpcbeeaaGreat.Mem Go.Proofs.YtnmmhcchpcbeeaaGreat.Ge
attribute [local go_sem ↓] Go.wp_at_zero Go.wp_at_succ
def ents (l : List EntV) : List Ent := l.map EntV.e
def Ents (w : World) (A : Option Addr) (l : List EntV) : Prop := Row w A (l.flatMap entVals) ∧ (∀ x ∈ l, PtsIn w x) ∧ l.length ≤ 1000000
theorem Ents.below {w w' : World} {A : Option Addr} {l : List EntV} (h : Ents w A l) (hb : Below w.heap.size w w') : Ents w' A l := ⟨h.1.below hb, fun x hx => (h.2.1 x hx).below hb, h.2.2⟩
set_option maxRecDepth 100000 in
theorem bad_any (m : EntV) (w : World) (hp : PtsIn w m) : Calls Tryz.prog 83 #[.agg #[.int .i64 m.e.kind, .string ⟨m.e.layer.toArray⟩, .int .i64 m.e.a.1, .int .i64 m.e.a.2, .int .i64 m.e.b.1, .int .i64 m.e.b.2, .int .i64 m.e.f.1, .int .i64 m.e.f.2, .int .i64 m.e.t.1, .int .i64 m.e.t.2, .int .i64 m.e.c.1, .int .i64 m.e.c.2, .bool m.e.cw, .slice m.A m.e.pts.length m.k]] w fun e w' => e = .returned (.bool (!entOk m.e)) ∧ Below w.heap.size w w' := by
  have HO := Lib.hid (one_vec w (.cells #[.int .i64 m.e.kind, .string ⟨m.e.layer.toArray⟩, .int .i64 m.e.a.1, .int .i64 m.e.a.2, .int .i64 m.e.b.1, .int .i64 m.e.b.2, .int .i64 m.e.f.1, .int .i64 m.e.f.2, .int .i64 m.e.t.1, .int .i64 m.e.t.2, .int .i64 m.e.c.1, .int .i64 m.e.c.2, .bool m.e.cw, .slice m.A m.e.pts.length m.k] 66))
  have HW := Lib.hid (fun W (hW : Below w.heap.size w W) => entOk_any m W (hp.below hW))
  obtain ⟨e, A, k⟩ := m
  obtain ⟨kd, lay, a, b, f, t, c, cw, pts⟩ := e
  clear hp
  simp only [entVals] at HW HO
  generalize entOk _ = ok at *
  have q0 := cellAt14 HO.out.2 0 (by simp)
  have q1 := cellAt14 HO.out.2 1 (by simp)
  have q2 := cellAt14 HO.out.2 2 (by simp)
  have q3 := cellAt14 HO.out.2 3 (by simp)
  have q4 := cellAt14 HO.out.2 4 (by simp)
  have q5 := cellAt14 HO.out.2 5 (by simp)
  have q6 := cellAt14 HO.out.2 6 (by simp)
  have q7 := cellAt14 HO.out.2 7 (by simp)
  have q8 := cellAt14 HO.out.2 8 (by simp)
  have q9 := cellAt14 HO.out.2 9 (by simp)
  have q10 := cellAt14 HO.out.2 10 (by simp)
  have q11 := cellAt14 HO.out.2 11 (by simp)
  have q12 := cellAt14 HO.out.2 12 (by simp)
  have q13 := cellAt14 HO.out.2 13 (by simp)
  simp only [List.getElem_toArray, List.getElem_cons_zero, List.getElem_cons_succ] at q0 q1 q2 q3 q4 q5 q6 q7 q8 q9 q10 q11 q12 q13
  go_enter Tryz.func83, Tryz.ntmps83
  go_wp2_with fail
  refine (HW.out _ HO.out.1).mono ?_
  rintro r w2 ⟨rfl, hb2⟩
  go_wp2
  go_ret
  exact ⟨rfl, HO.out.1.trans (hb2.mono (Below.size HO.out.1))⟩
set_option maxRecDepth 100000 in
set_option maxHeartbeats 1000000 in
theorem entIdx_any (l : List EntV) (A : Option Addr) (c : Nat) (w : World) (hr : Ents w A l) :
    Calls Tryz.prog 140 #[.slice A l.length c, .func (.func 83) #[] #[]] w fun e w' => e = .returned (.int .i64 (idx (fun x => !entOk x.e) l 0)) ∧ Below w.heap.size w w' := by
  have HR := Lib.hid hr
  have hl := hr.2.2
  clear hr
  have hst := Lib.hid (show idx (fun x : EntV => !entOk x.e) l 0 = idx (fun x => !entOk x.e) (l.drop 0) 0 by simp)
  go_enter Tryz.func140, Tryz.ntmps140
  go_wp2
  go_loopw [5, 8] (fun _ t wr => ∃ k : Nat, k ≤ l.length ∧ t = .int .i64 k ∧ Hid (idx (fun x : EntV => !entOk x.e) l 0 = idx (fun x => !entOk x.e) (l.drop k) k) ∧ Below w.heap.size w wr) (fun _ t _ => l.length - (intOf t).toNat)
  case atStart => exact ⟨0, Nat.zero_le _, rfl, hst, Below.refl _ _⟩
  case round =>
    obtain ⟨k, hk, rfl, hd, hbel⟩ := hrel
    by_cases hlt : k < l.length
    · obtain ⟨g, off, rfl, hg, ca⟩ := row_get ent_len (by decide) HR.out.1 (by omega)
      have a0 := (hbel.cell (p := ⟨g, off + k * 14, none⟩) hg).trans (ca k hlt 0 (by decide))
      have a1 := (hbel.cell (p := ⟨g, off + k * 14 + 1, none⟩) hg).trans (ca k hlt 1 (by decide))
      have a2 := (hbel.cell (p := ⟨g, off + k * 14 + 2, none⟩) hg).trans (ca k hlt 2 (by decide))
      have a3 := (hbel.cell (p := ⟨g, off + k * 14 + 3, none⟩) hg).trans (ca k hlt 3 (by decide))
      have a4 := (hbel.cell (p := ⟨g, off + k * 14 + 4, none⟩) hg).trans (ca k hlt 4 (by decide))
      have a5 := (hbel.cell (p := ⟨g, off + k * 14 + 5, none⟩) hg).trans (ca k hlt 5 (by decide))
      have a6 := (hbel.cell (p := ⟨g, off + k * 14 + 6, none⟩) hg).trans (ca k hlt 6 (by decide))
      have a7 := (hbel.cell (p := ⟨g, off + k * 14 + 7, none⟩) hg).trans (ca k hlt 7 (by decide))
      have a8 := (hbel.cell (p := ⟨g, off + k * 14 + 8, none⟩) hg).trans (ca k hlt 8 (by decide))
      have a9 := (hbel.cell (p := ⟨g, off + k * 14 + 9, none⟩) hg).trans (ca k hlt 9 (by decide))
      have a10 := (hbel.cell (p := ⟨g, off + k * 14 + 10, none⟩) hg).trans (ca k hlt 10 (by decide))
      have a11 := (hbel.cell (p := ⟨g, off + k * 14 + 11, none⟩) hg).trans (ca k hlt 11 (by decide))
      have a12 := (hbel.cell (p := ⟨g, off + k * 14 + 12, none⟩) hg).trans (ca k hlt 12 (by decide))
      have a13 := (hbel.cell (p := ⟨g, off + k * 14 + 13, none⟩) hg).trans (ca k hlt 13 (by decide))
      have hno := Lib.hid (idx_no (fun x : EntV => !entOk x.e) l k hlt)
      have hyes := Lib.hid (idx_yes (fun x : EntV => !entOk x.e) l k hlt)
      have HM := Lib.hid (fun W (hW : Below w.heap.size w W) => bad_any l[k] W ((HR.out.2.1 _ (List.getElem_mem hlt)).below hW))
      have hk1 : (0 : Int) ≤ (k : Int) := by omega
      have hk2 : (k : Int) < (l.length : Int) := by omega
      clear ca
      generalize l[k] = m at *
      simp only [entVals, List.getElem?_cons_zero, List.getElem?_cons_succ] at a0 a1 a2 a3 a4 a5 a6 a7 a8 a9 a10 a11 a12 a13
      generalize (!entOk m.e) = b at *
      cases b
      · go_wp2_with fail
        refine (HM.out _ hbel).mono ?_
        rintro e w2 ⟨rfl, hb2⟩
        have HB2 := Lib.hid (hbel.trans (hb2.mono hbel.size))
        clear hb2
        go_wp2
        go_roundw
        case rel => exact ⟨k + 1, hlt, by go_num, Lib.hid (hd.out.trans (hno.out trivial)), HB2.out⟩
        case measure => simp [intOf]; omega
      · go_wp2_with fail
        refine (HM.out _ hbel).mono ?_
        rintro e w2 ⟨rfl, hb2⟩
        have HB2 := Lib.hid (hbel.trans (hb2.mono hbel.size))
        clear hb2
        go_wp2
        go_ret
        rw [hd.out, hyes.out trivial]
        exact ⟨rfl, HB2.out⟩
    · obtain rfl : k = l.length := by omega
      go_wp2
      go_ret
      rw [hd.out, List.drop_length]
      exact ⟨rfl, hbel⟩
theorem entBad_any (l : List EntV) (A : Option Addr) (c : Nat) (w : World) (hr : Ents w A l) :
    Calls Tryz.prog 82 #[.slice A l.length c, .func (.func 83) #[] #[]] w fun e w' => e = .returned (.bool (!((ents l).all entOk))) ∧ Below w.heap.size w w' := by
  have hi := Lib.hid (entIdx_any l A c w hr)
  have hq := Lib.hid (idx_ge (fun x : EntV => !entOk x.e) l 0)
  have hz : Hid ((l.any fun x => !entOk x.e) = !((ents l).all entOk)) := Lib.hid (by unfold ents; simp [List.all_eq_not_any_not]; rfl)
  clear hr
  go_enter Tryz.func82, Tryz.ntmps82
  go_wp2_with fail
  refine hi.out.mono ?_
  rintro e w1 ⟨rfl, hb1⟩
  go_wp2
  go_ret
  rw [hq.out, hz.out]
  exact ⟨rfl, hb1⟩
set_option maxRecDepth 100000 in
theorem drawOk_any (l : List EntV) (A : Option Addr) (c : Nat) (w : World) (hr : Ents w A l) :
    Calls Tryz.prog 32 #[.slice A l.length c] w fun e w' => e = .returned (.bool (drawOk (ents l))) ∧ Below w.heap.size w w' := by
  have HC := Lib.hid (entBad_any l A c w hr)
  have hlen : (ents l).length = l.length := by unfold ents; simp
  by_cases h200 : l.length ≤ 200
  · have HV : Hid (drawOk (ents l) = (ents l).all entOk) := Lib.hid (by unfold drawOk; rw [hlen, decide_eq_true h200]; rfl)
    have d1 : decide ((l.length : Int) ≤ 200) = true := decide_eq_true (by omega)
    clear h200 hlen hr
    generalize (ents l).all entOk = b at *
    go_enter Tryz.func32, Tryz.ntmps32
    go_wp2_with fail
    refine HC.out.mono ?_
    rintro e w1 ⟨rfl, hb1⟩
    go_wp2
    go_ret
    rw [HV.out]
    exact ⟨by simp, hb1⟩
  · have HV : Hid (drawOk (ents l) = false) := Lib.hid (by unfold drawOk; rw [hlen, decide_eq_false h200]; rfl)
    have d1 : decide ((l.length : Int) ≤ 200) = false := decide_eq_false (by omega)
    clear h200 hlen hr HC
    go_enter Tryz.func32, Tryz.ntmps32
    go_wp2
    go_ret
    rw [HV.out]
    exact ⟨rfl, Below.refl _ _⟩
end Go.Proofs.YtnmmhcchpcbeeaaGreat.GeW
