/- Walk: the program's Parse. Conditions: the library's variables hold what a start lays; the text has at most a million bytes. -/
import Derived.Test.YtjjohllfidmkjaaDoorPfT2
namespace Go.Proofs.YtjjohllfidmkjaaDoor.PfW
open Go Go.RowKit Go.Proofs.YtjjohllfidmkjaaDoor.Mem Go.Proofs.YtjjohllfidmkjaaDoor.Pf

def ParseRet (r : Option T) (w : World) (e : Ending) (w' : World) : Prop :=
  Below w.heap.size w w' ∧ match r with
    | some t => ∃ (s : Int) (A : Option Addr) (m c : Nat) (B : Option Addr) (k d : Nat), e = .returned (.tuple #[.agg #[.int .i64 s, .slice A m c, .slice B k d], .int .i64 0]) ∧ TreeIn (fun g => w.heap.size ≤ g) w' t [.int .i64 s, .slice A m c, .slice B k d]
    | none => e = .returned (.tuple #[.agg #[.int .i64 0, .slice none 0 0, .slice none 0 0], .int .i64 3])
theorem below_of_grown {B b : Nat} {a w w' : World} (h : Below B a w) (hg : w.grownBy w' (some b)) (hB : B ≤ w.heap.size) (hb : B ≤ b) : Below B a w' := h.grown hg hB (fun k hk => by cases hk; exact hb)
theorem empty_no {r : List UInt8} (h : r ≠ []) : r.isEmpty = false := by cases r with | nil => exact absurd rfl h | cons _ _ => rfl
set_option maxRecDepth 100000 in
set_option maxHeartbeats 2000000 in
theorem parse_any (s : List UInt8) (w : World) (hG : Glob w) (hs : s.length ≤ 1000000) :
    Calls Tryd.prog 31 #[.string ⟨s.toArray⟩] w (ParseRet (pParse s) w) := by
  have HBB := Lib.hid (two_boxes w (.cells #[.int .i64 0, .slice none 0 0, .slice none 0 0] 38) (.cells #[.string ⟨s.toArray⟩, .int .i64 0] 85))
  have HT := Lib.hid (tree_any (s.length + 1) (s.length + 1) (Nat.le_refl _) 1 0 s (w.heap.size + 1) _ (hG.below HBB.out.1) (by have := hG.lt; omega) hs (by omega) (by omega) (by omega) HBB.out.2.2)
  have hlt := lt_of_block HBB.out.2.2
  unfold pParse
  clear hG
  cases hp : pTree (s.length + 1) 1 0 s with
  | none =>
    rw [hp] at HT
    clear hp
    go_enter Tryd.func31, Tryd.ntmps31
    go_wp2_with fail
    refine HT.out.mono ?_
    rintro e w2 ⟨hg2, s2, A2, m2, c2, B2, k2, d2, rfl, t2, n2, hr2, hl2⟩
    have HB2 := Lib.hid (below_of_grown (B := w.heap.size) HBB.out.1 hg2 HBB.out.1.size (by omega))
    have hres := (hg2.block w.heap.size (by omega) (by intro e; have := Option.some.inj e; omega)).trans HBB.out.2.1
    obtain ⟨r0, r1, r2⟩ := cell3 hres
    have q0 := free3 hres 0
    have q1 := free3 hres 1
    have q2 := free3 hres 2
    have qz := lt_of_block hres
    clear hres hg2 hr2
    go_upto_region 4 with fail
    have HB3 := Lib.hid (HB2.out.alloc HB2.out.size (.cells #[.int .i64 s2, .slice A2 m2 c2, .slice B2 k2 d2] 38))
    have h9 := (Below.refl w2.heap.size w2).alloc (Nat.le_refl _) (.cells #[.int .i64 s2, .slice A2 m2 c2, .slice B2 k2 d2] 38)
    have e0 := (h9.cell (p := ⟨w.heap.size, 0, none⟩) qz).trans r0
    have e1 := (h9.cell (p := ⟨w.heap.size, 1, none⟩) qz).trans r1
    have e2 := (h9.cell (p := ⟨w.heap.size, 2, none⟩) qz).trans r2
    have f0 := (h9.frozen (p := ⟨w.heap.size, 0, none⟩) qz).trans q0
    have f1 := (h9.frozen (p := ⟨w.heap.size, 1, none⟩) qz).trans q1
    have f2 := (h9.frozen (p := ⟨w.heap.size, 2, none⟩) qz).trans q2
    have ez := Nat.lt_of_lt_of_le qz h9.size
    clear h9 r0 r1 r2 q0 q1 q2 qz
    generalize w2.alloc (.cells #[.int .i64 s2, .slice A2 m2 c2, .slice B2 k2 d2] 38) = W3 at *
    go_wp2
    refine bodyPost_ret (v := .tuple #[.agg #[.int .i64 0, .slice none 0 0, .slice none 0 0], .int .i64 3]) (by simp [results, Tryd.results31, go_sem, e0, e1, e2]) rfl ⟨?_, rfl⟩
    exact ((HB3.out.setCell (Nat.le_refl _) _).setCell (Nat.le_refl _) _).setCell (Nat.le_refl _) _
  | some p =>
    obtain ⟨t, n, r⟩ := p
    rw [hp] at HT
    clear hp
    by_cases hr : r = []
    · subst hr
      simp only [if_true]
      go_enter Tryd.func31, Tryd.ntmps31
      go_wp2_with fail
      refine HT.out.mono ?_
      rintro e w2 ⟨hg2, s2, A2, m2, c2, B2, k2, d2, rfl, hr2, hT2⟩
      have HT2 := Lib.hid hT2
      have HB2 := Lib.hid (below_of_grown (B := w.heap.size) HBB.out.1 hg2 HBB.out.1.size (by omega))
      have hres := (hg2.block w.heap.size (by omega) (by intro e; have := Option.some.inj e; omega)).trans HBB.out.2.1
      have hz2 := hg2.size
      obtain ⟨r0, r1, r2⟩ := cell3 hres
      have q0 := free3 hres 0
      have q1 := free3 hres 1
      have q2 := free3 hres 2
      have qz := lt_of_block hres
      unfold rdO at hr2
      obtain ⟨u0, u1⟩ := cell2 hr2
      have uz := lt_of_block hr2
      clear hres hg2 hr2 hT2
      go_upto_region 5 with fail
      have HB3 := Lib.hid (HB2.out.alloc HB2.out.size (.cells #[.int .i64 s2, .slice A2 m2 c2, .slice B2 k2 d2] 38))
      have h9 := (Below.refl w2.heap.size w2).alloc (Nat.le_refl _) (.cells #[.int .i64 s2, .slice A2 m2 c2, .slice B2 k2 d2] 38)
      have HT3 := Lib.hid (HT2.out.below h9)
      have e0 := (h9.cell (p := ⟨w.heap.size, 0, none⟩) qz).trans r0
      have e1 := (h9.cell (p := ⟨w.heap.size, 1, none⟩) qz).trans r1
      have e2 := (h9.cell (p := ⟨w.heap.size, 2, none⟩) qz).trans r2
      have f0 := (h9.frozen (p := ⟨w.heap.size, 0, none⟩) qz).trans q0
      have f1 := (h9.frozen (p := ⟨w.heap.size, 1, none⟩) qz).trans q1
      have f2 := (h9.frozen (p := ⟨w.heap.size, 2, none⟩) qz).trans q2
      have ez := Nat.lt_of_lt_of_le qz h9.size
      obtain ⟨g0, g1, g2⟩ := cell3 (heap_alloc_new w2 (.cells #[.int .i64 s2, .slice A2 m2 c2, .slice B2 k2 d2] 38))
      clear h9 r0 r1 r2 q0 q1 q2 u0 u1 HT2
      generalize w2.alloc (.cells #[.int .i64 s2, .slice A2 m2 c2, .slice B2 k2 d2] 38) = W3 at *
      go_wp2
      refine bodyPost_ret (v := .tuple #[.agg #[.int .i64 s2, .slice A2 m2 c2, .slice B2 k2 d2], .int .i64 0]) (by simp [results, Tryd.results31, go_sem, e0, e1, e2]) rfl ⟨?_, s2, A2, m2, c2, B2, k2, d2, rfl, ?_⟩
      · exact ((HB3.out.setCell (Nat.le_refl _) _).setCell (Nat.le_refl _) _).setCell (Nat.le_refl _) _
      · have hsz := HBB.out.1.size
        exact TreeIn.stays (fun g hg _ => three_far _ _ _ _ _ _ (by omega)) (fun g hg _ => Nat.le_trans hsz hg) _ _ HT3.out
    · simp only
      rw [if_neg hr]
      have hm1 := empty_no hr
      clear hr
      go_enter Tryd.func31, Tryd.ntmps31
      go_wp2_with fail
      refine HT.out.mono ?_
      rintro e w2 ⟨hg2, s2, A2, m2, c2, B2, k2, d2, rfl, hr2, hT2⟩
      have HB2 := Lib.hid (below_of_grown (B := w.heap.size) HBB.out.1 hg2 HBB.out.1.size (by omega))
      have hres := (hg2.block w.heap.size (by omega) (by intro e; have := Option.some.inj e; omega)).trans HBB.out.2.1
      obtain ⟨r0, r1, r2⟩ := cell3 hres
      have q0 := free3 hres 0
      have q1 := free3 hres 1
      have q2 := free3 hres 2
      have qz := lt_of_block hres
      unfold rdO at hr2
      obtain ⟨u0, u1⟩ := cell2 hr2
      have uz := lt_of_block hr2
      clear hres hg2 hr2 hT2
      go_upto_region 4 with fail
      have HB3 := Lib.hid (HB2.out.alloc HB2.out.size (.cells #[.int .i64 s2, .slice A2 m2 c2, .slice B2 k2 d2] 38))
      have h9 := (Below.refl w2.heap.size w2).alloc (Nat.le_refl _) (.cells #[.int .i64 s2, .slice A2 m2 c2, .slice B2 k2 d2] 38)
      have e0 := (h9.cell (p := ⟨w.heap.size, 0, none⟩) qz).trans r0
      have e1 := (h9.cell (p := ⟨w.heap.size, 1, none⟩) qz).trans r1
      have e2 := (h9.cell (p := ⟨w.heap.size, 2, none⟩) qz).trans r2
      have f0 := (h9.frozen (p := ⟨w.heap.size, 0, none⟩) qz).trans q0
      have f1 := (h9.frozen (p := ⟨w.heap.size, 1, none⟩) qz).trans q1
      have f2 := (h9.frozen (p := ⟨w.heap.size, 2, none⟩) qz).trans q2
      have ez := Nat.lt_of_lt_of_le qz h9.size
      clear h9 r0 r1 r2 q0 q1 q2 qz u0 u1
      generalize w2.alloc (.cells #[.int .i64 s2, .slice A2 m2 c2, .slice B2 k2 d2] 38) = W3 at *
      go_wp2
      refine bodyPost_ret (v := .tuple #[.agg #[.int .i64 0, .slice none 0 0, .slice none 0 0], .int .i64 3]) (by simp [results, Tryd.results31, go_sem, e0, e1, e2]) rfl ⟨?_, rfl⟩
      exact ((HB3.out.setCell (Nat.le_refl _) _).setCell (Nat.le_refl _) _).setCell (Nat.le_refl _) _
end Go.Proofs.YtjjohllfidmkjaaDoor.PfW
