/- Walks: the library's functions on rows of points: Clone, Delete, Reverse, MinFunc, Index. Conditions: the points lie in memory. -/
import Derived.Test.YtnmmhcchpcbeeaaGreatGeR
import Derived.Test.YtnmmhcchpcbeeaaGreatMem2
import Derived.Test.YtnmmhcchpcbeeaaGreatOwnP
import Derived.Test.YtnmmhcchpcbeeaaGreatShelfR

namespace Go.Proofs.YtnmmhcchpcbeeaaGreat.GeW
open Go Go.RowKit Go.Proofs.YtnmmhcchpcbeeaaGreat.Mem Go.Proofs.YtnmmhcchpcbeeaaGreat.Ge
attribute [local go_sem ↓] Go.wp_at_zero Go.wp_at_succ
def minUp (l : List V) : Nat → V
  | 0 => (0, 0)
  | k + 1 => if k = 0 then l.getD 0 (0, 0) else if vcmp (l.getD k (0, 0)) (minUp l k) < 0 then l.getD k (0, 0) else minUp l k
def minV (l : List V) : V := minUp l l.length
theorem frozen_pair {w : World} {g : Nat} {x y : Value} {t : TypeId} (h : w.heap[g]? = some (.cells #[x, y] t (0, 0))) : w.frozen? ⟨g, 0, none⟩ = false ∧ w.frozen? ⟨g, 1, none⟩ = false := by
  constructor <;> (unfold World.frozen?; rw [h]; simp)
theorem info_vec : (Tryz.prog.info? 53).map (fun i => (i.zero, i.size, i.bytes)) = some (some (.agg #[.int .i64 0, .int .i64 0]), 2, 16) := by kernel_rfl
theorem pt_one (l : List V) : ∀ u ∈ l.flatMap ptCells, u.oneCell' = true := by
  intro u hu
  obtain ⟨m, _, hm⟩ := List.mem_flatMap.1 hu
  simp only [ptCells, List.mem_cons, List.not_mem_nil, or_false] at hm
  rcases hm with rfl | rfl <;> rfl
set_option maxRecDepth 100000 in
theorem clone_any (l : List V) (A : Option Addr) (c : Nat) (w : World) (hr : Row w A (l.flatMap ptCells)) (hl : l.length ≤ 1000000) :
    Calls Tryz.prog 100 #[.slice A l.length c] w fun e w' => (∃ v, e = .returned v ∧ w'.ownsRow w.heap.size 53 2 v l.length (l.flatMap ptCells)) ∧ Below w.heap.size w w' := by
  have HR := Lib.hid hr
  obtain ⟨i0, ia, ib, ic, id⟩ := info_parts info_vec
  have hnil := fun (W : World) => Lib.run_eql_slice_nil (P := Tryz.prog) W 25 53 A l.length c 0 0 Tryz.underlying25
  rcases A with _ | ad
  · have h0 : l = [] := by
      rcases l with _ | ⟨a, r⟩
      · rfl
      · obtain ⟨g, off, hg, _⟩ := row_get pt_len (by decide) hr (by simp)
        cases hg
    subst h0
    simp only [Option.isNone_none, List.length_nil] at hnil
    clear hr HR
    go_enter Tryz.func100, Tryz.ntmps100
    go_wp2
    go_ret
    exact ⟨⟨_, rfl, World.ownsRow_nil _ _ _ _⟩, Below.refl _ _⟩
  · simp only [Option.isNone_some] at hnil
    have hlen := flatMap_len pt_len l
    have HLEN := Lib.hid hlen
    have HONE := Lib.hid (pt_one l)
    have HO0 : Hid ((w.alloc (.cells #[] 53)).ownsRow w.heap.size 53 2 (.slice (some ⟨w.heap.size, 0, none⟩) 0 0) 0 []) := Lib.hid ⟨rfl, .inr ⟨w.heap.size, 0, #[], rfl, Nat.le_refl _, heap_alloc_new w _, Nat.le_refl _, by unfold maxLen; omega, rfl, rfl⟩⟩
    clear hr hlen
    go_enter Tryz.func100, Tryz.ntmps100
    go_wp2_with (at_builtin; refine wpList_append_row _ rfl _ _ 25 rfl w.heap.size 53 i0 _ 2 16 Tryz.underlying25 ia ib ic id rfl (by omega) _ _ _ rfl HO0.out (some ad) l.length c (l.flatMap ptCells) rfl (HR.out.below ((Below.refl _ _).alloc (Nat.le_refl _) _)) HLEN.out HONE.out ?c3 ?c4 ?c5 ?_)
    case c3 => unfold maxLen; omega
    case c4 => omega
    case c5 => simp
    · intro v' w2 hown2 hg2
      have hb2 : Below w.heap.size w w2 := below_append ((Below.refl w.heap.size w).alloc (Nat.le_refl _) _) (by simp) HO0.out hg2 (Nat.le_refl _)
      have HO := Lib.hid hown2
      clear hown2 hg2 hnil
      go_wp2
      go_ret
      exact ⟨⟨_, rfl, HO.out⟩, hb2⟩
theorem revR_any (l : List V) (base n : Nat) (v : Value) (w : World) (hn : n = l.length) (ho : w.ownsRow base 53 2 v n (l.flatMap ptCells)) :
    Calls Tryz.prog 104 #[v] w fun e w' => e = .returned (.tuple #[]) ∧ w'.ownsRow base 53 2 v n (l.reverse.flatMap ptCells) ∧ Below base w w' := by
  rcases ho.2 with ⟨h1, h2⟩ | ⟨g, cap, cur, hv, hb, hh, hn', hc, hs, ht⟩
  · subst h1
    have hl : l = [] := List.eq_nil_of_length_eq_zero (by omega)
    subst hl
    subst h2
    refine (Go.Proofs.AnyQ.slices_Reverse_empty Tryz.revRing none 0 w).mono ?_
    rintro e w' ⟨rfl, rfl⟩
    exact ⟨rfl, ho, Below.refl _ _⟩
  · subst hv
    have hsz : l.toArray.size = n := by simp [hn]
    have hm := Go.Proofs.AnyQ.slices_Reverse Tryz.revRing 2 Tryz.isAgg53 Tryz.sizeOf53 ptCells pt_len (by intro x u hu; unfold ptCells at hu; simp at hu; rcases hu with rfl | rfl <;> rfl) g 0 cap l.toArray w (holds_own pt_len hn ho).1 (by rw [hsz]; have := hc; unfold maxLen at this; omega)
    rw [hsz] at hm
    refine hm.mono ?_
    rintro e w' ⟨rfl, m, rfl⟩
    obtain ⟨p1, p2⟩ := own_put pt_len ho l.reverse (by simp [hn]) m
    rw [List.reverse_toArray]
    exact ⟨rfl, p1, p2⟩
theorem revV_any (l : List V) (base n : Nat) (v : Value) (w : World) (hn : n = l.length) (ho : w.ownsRow base 53 2 v n (l.flatMap ptCells)) :
    Calls Tryz.prog 97 #[v] w fun e w' => e = .returned (.tuple #[]) ∧ w'.ownsRow base 53 2 v n (l.reverse.flatMap ptCells) ∧ Below base w w' := by
  rcases ho.2 with ⟨h1, h2⟩ | ⟨g, cap, cur, hv, hb, hh, hn', hc, hs, ht⟩
  · subst h1
    have hl : l = [] := List.eq_nil_of_length_eq_zero (by omega)
    subst hl
    subst h2
    refine (Go.Proofs.AnyQ.slices_Reverse_empty Tryz.revVec none 0 w).mono ?_
    rintro e w' ⟨rfl, rfl⟩
    exact ⟨rfl, ho, Below.refl _ _⟩
  · subst hv
    have hsz : l.toArray.size = n := by simp [hn]
    have hm := Go.Proofs.AnyQ.slices_Reverse Tryz.revVec 2 Tryz.isAgg53 Tryz.sizeOf53 ptCells pt_len (by intro x u hu; unfold ptCells at hu; simp at hu; rcases hu with rfl | rfl <;> rfl) g 0 cap l.toArray w (holds_own pt_len hn ho).1 (by rw [hsz]; have := hc; unfold maxLen at this; omega)
    rw [hsz] at hm
    refine hm.mono ?_
    rintro e w' ⟨rfl, m, rfl⟩
    obtain ⟨p1, p2⟩ := own_put pt_len ho l.reverse (by simp [hn]) m
    rw [List.reverse_toArray]
    exact ⟨rfl, p1, p2⟩
set_option maxRecDepth 100000 in
set_option maxHeartbeats 1000000 in
theorem min_any (l : List V) (A : Option Addr) (c : Nat) (w : World) (hr : Row w A (l.flatMap ptCells)) (h0 : 0 < l.length) (hl : l.length ≤ 1000000) :
    Calls Tryz.prog 136 #[.slice A l.length c, .func (.func 58) #[] #[]] w fun e w' => e = .returned (.agg #[.int .i64 (minV l).1, .int .i64 (minV l).2]) ∧ Below w.heap.size w w' := by
  obtain ⟨g, off, rfl, hg, hc⟩ := row_get pt_len (by decide) hr h0
  have HC := Lib.hid hc
  have a0 := hc 0 h0 0 (by decide)
  have a1 := hc 0 h0 1 (by decide)
  have d1 : decide ((l.length : Int) < 1) = false := decide_eq_false (by omega)
  have HM1 : Hid (minUp l 1 = l[0]) := Lib.hid (by unfold minUp; rw [List.getD_eq_getElem?_getD, List.getElem?_eq_getElem h0]; rfl)
  clear hc hr
  generalize l[0] = q at *
  obtain ⟨qx, qy⟩ := q
  simp only [ptCells, List.getElem?_cons_zero, List.getElem?_cons_succ, Nat.zero_mul, Nat.add_zero] at a0 a1
  go_enter Tryz.func136, Tryz.ntmps136
  go_wp2
  have HB0 := Lib.hid (((Below.refl w.heap.size w).alloc (Nat.le_refl _) (.cells #[.int .i64 0, .int .i64 0] 53)).alloc (by simp) (.cells #[.int .i64 qx, .int .i64 qy] 53))
  have HX0 := Lib.hid (two_vecs w (.cells #[.int .i64 0, .int .i64 0] 53) (.cells #[.int .i64 qx, .int .i64 qy] 53))
  generalize (w.alloc (.cells #[.int .i64 0, .int .i64 0] 53)).alloc (.cells #[.int .i64 qx, .int .i64 qy] 53) = W at *
  clear a0 a1
  go_loopw [6] (fun i wr => ∃ k : Nat, i = .int .i64 (k : Int) ∧ 1 ≤ k ∧ k ≤ l.length ∧ Hid (wr.heap[w.heap.size + 1]? = some (.cells #[.int .i64 (minUp l k).1, .int .i64 (minUp l k).2] 53 (0, 0))) ∧ Hid (wr.heap[w.heap.size]? = some (.cells #[.int .i64 0, .int .i64 0] 53 (0, 0))) ∧ Hid (Below w.heap.size w wr)) (fun i _ => l.length - (intOf i).toNat)
  case atStart => exact ⟨1, rfl, Nat.le_refl _, h0, Lib.hid (by rw [HM1.out]; exact HX0.out.2), Lib.hid HX0.out.1, HB0⟩
  case round =>
    obtain ⟨k, rfl, hk1, hk, HM, HZ, HB⟩ := hrel
    by_cases hlt : k < l.length
    · have HS : Hid (minUp l (k + 1) = if vcmp l[k] (minUp l k) < 0 then l[k] else minUp l k) := Lib.hid (by rw [show minUp l (k + 1) = if k = 0 then l.getD 0 (0, 0) else if vcmp (l.getD k (0, 0)) (minUp l k) < 0 then l.getD k (0, 0) else minUp l k from rfl, if_neg (by omega), List.getD_eq_getElem?_getD, List.getElem?_eq_getElem hlt]; rfl)
      have C0 : ∀ p : Later wr, p.w.cell? ⟨g, off + k * 2, none⟩ = some (.int .i64 l[k].1) := fun p => ((HB.out.trans (p.h.mono HB.out.size)).cell (p := ⟨g, off + k * 2, none⟩) hg).trans (HC.out k hlt 0 (by decide))
      have C1 : ∀ p : Later wr, p.w.cell? ⟨g, off + k * 2 + 1, none⟩ = some (.int .i64 l[k].2) := fun p => ((HB.out.trans (p.h.mono HB.out.size)).cell (p := ⟨g, off + k * 2 + 1, none⟩) hg).trans (HC.out k hlt 1 (by decide))
      generalize l[k] = q at *
      obtain ⟨x, y⟩ := q
      simp only at C0 C1
      generalize minUp l k = m at *
      obtain ⟨u, v⟩ := m
      simp only at HM
      have M0 : ∀ p : Later wr, p.w.cell? ⟨w.heap.size + 1, 0, none⟩ = some (.int .i64 u) := fun p => (pair_at HM.out p.h).1
      have M1 : ∀ p : Later wr, p.w.cell? ⟨w.heap.size + 1, 1, none⟩ = some (.int .i64 v) := fun p => (pair_at HM.out p.h).2
      have HCMP := Lib.hid (fun W => vcmp_any x y u v W)
      generalize vcmp (x, y) (u, v) = cm at *
      go_upto_region 7 with fail
      refine wp_region_later wr (by kernel_rfl) (by kernel_rfl) (Below.refl _ _) ?_
      repeat (go_big_quiet_step (exact Calls.later (HCMP.out _)))
      refine wpQuiet_nil ?_
      rintro w9 hex; have hb9 := later_of hex; clear hex
      have HB9 := Lib.hid (HB.out.trans (hb9.mono HB.out.size))
      have HM9 := Lib.hid ((hb9.block _ (lt_of_block HM.out)).trans HM.out)
      have HZ9 := Lib.hid ((hb9.block _ (lt_of_block HZ.out)).trans HZ.out)
      by_cases hm : cm < 0
      · have t1 : decide (cm < 0) = true := decide_eq_true hm
        rw [t1]
        clear t1
        have HS2 : Hid (minUp l (k + 1) = (x, y)) := Lib.hid (by rw [HS.out, if_pos hm])
        have c0 := C0 ⟨w9, hb9⟩
        have c1 := C1 ⟨w9, hb9⟩
        obtain ⟨m0, m1⟩ := pair_at HM9.out (Below.refl _ _)
        obtain ⟨f0, f1⟩ := frozen_pair HM9.out
        have hs9 := lt_of_block HM9.out
        simp only at c0 c1
        clear hm C0 C1 M0 M1 hb9
        have HN : Hid (((w9.setCell ⟨w.heap.size + 1, 0, none⟩ (.int .i64 x)).setCell ⟨w.heap.size + 1, 1, none⟩ (.int .i64 y)).heap[w.heap.size + 1]? = some (.cells #[.int .i64 x, .int .i64 y] 53 (0, 0))) := Lib.hid (setCell_block (setCell_block HM9.out 0 _) 1 _)
        have HZN : Hid (((w9.setCell ⟨w.heap.size + 1, 0, none⟩ (.int .i64 x)).setCell ⟨w.heap.size + 1, 1, none⟩ (.int .i64 y)).heap[w.heap.size]? = some (.cells #[.int .i64 0, .int .i64 0] 53 (0, 0))) := Lib.hid (by
          have hb := ((Below.refl (w.heap.size + 1) w9).setCell (p := ⟨w.heap.size + 1, 0, none⟩) (Nat.le_refl _) (.int .i64 x)).setCell (p := ⟨w.heap.size + 1, 1, none⟩) (Nat.le_refl _) (.int .i64 y)
          exact (hb.block _ (Nat.lt_succ_self _)).trans HZ9.out)
        have HBN := Lib.hid ((HB9.out.setCell (p := ⟨w.heap.size + 1, 0, none⟩) (Nat.le_succ _) (.int .i64 x)).setCell (p := ⟨w.heap.size + 1, 1, none⟩) (Nat.le_succ _) (.int .i64 y))
        go_wp2
        go_roundw
        case rel => exact ⟨k + 1, by go_num, by omega, hlt, Lib.hid (by rw [HS2.out]; exact HN.out), HZN, HBN⟩
        case measure => simp [intOf]; omega
      · have t1 : decide (cm < 0) = false := decide_eq_false hm
        rw [t1]
        clear t1
        have HS2 : Hid (minUp l (k + 1) = (u, v)) := Lib.hid (by rw [HS.out, if_neg hm])
        clear hm C0 C1 M0 M1 hb9
        go_wp2
        go_roundw
        case rel => exact ⟨k + 1, by go_num, by omega, hlt, Lib.hid (by rw [HS2.out]; exact HM9.out), HZ9, HB9⟩
        case measure => simp [intOf]; omega
    · obtain rfl : k = l.length := by omega
      have HV : Hid (minV l = minUp l l.length) := Lib.hid rfl
      generalize minUp l l.length = m at *
      obtain ⟨u, v⟩ := m
      simp only at HM
      obtain ⟨m0, m1⟩ := pair_at HM.out (Below.refl _ _)
      obtain ⟨z0, z1⟩ := pair_at HZ.out (Below.refl _ _)
      obtain ⟨fz0, fz1⟩ := frozen_pair HZ.out
      have hs9 := lt_of_block HZ.out
      have HN : Hid (((wr.setCell ⟨w.heap.size, 0, none⟩ (.int .i64 u)).setCell ⟨w.heap.size, 1, none⟩ (.int .i64 v)).heap[w.heap.size]? = some (.cells #[.int .i64 u, .int .i64 v] 53 (0, 0))) := Lib.hid (setCell_block (setCell_block HZ.out 0 _) 1 _)
      have HBN := Lib.hid ((HB.out.setCell (p := ⟨w.heap.size, 0, none⟩) (Nat.le_refl _) (.int .i64 u)).setCell (p := ⟨w.heap.size, 1, none⟩) (Nat.le_refl _) (.int .i64 v))
      go_wp2
      generalize ((wr.setCell ⟨w.heap.size, 0, none⟩ (.int .i64 u)).setCell ⟨w.heap.size, 1, none⟩ (.int .i64 v)) = W9 at *
      obtain ⟨y0, y1⟩ := pair_at HN.out (Below.refl _ _)
      refine bodyPost_ret (v := .agg #[.int .i64 u, .int .i64 v]) (by simp [results, Tryz.results136, go_sem, y0, y1]) rfl ⟨by rw [HV.out], HBN.out⟩
set_option maxRecDepth 100000 in
set_option maxHeartbeats 1000000 in
theorem indexV_any (l : List V) (x y : Int) (A : Option Addr) (c : Nat) (w : World) (hr : Row w A (l.flatMap ptCells)) (hl : l.length ≤ 1000000) :
    Calls Tryz.prog 137 #[.slice A l.length c, .agg #[.int .i64 x, .int .i64 y]] w fun e w' => e = .returned (.int .i64 (idx (fun v => decide ((x, y) = v)) l 0)) ∧ Below w.heap.size w w' := by
  have HR := Lib.hid hr
  have HO := Lib.hid (one_vec w (.cells #[.int .i64 x, .int .i64 y] 53))
  clear hr
  go_enter Tryz.func137, Tryz.ntmps137
  go_wp2
  generalize w.alloc (.cells #[.int .i64 x, .int .i64 y] 53) = W at *
  go_loopw [5, 8] (fun _ i wr => ∃ k : Nat, i = .int .i64 (k : Int) ∧ k ≤ l.length ∧ Hid (idx (fun v => decide ((x, y) = v)) l 0 = idx (fun v => decide ((x, y) = v)) (l.drop k) k) ∧ Hid (wr.heap[w.heap.size]? = some (.cells #[.int .i64 x, .int .i64 y] 53 (0, 0))) ∧ Hid (Below w.heap.size w wr)) (fun _ i _ => l.length - (intOf i).toNat)
  case atStart => exact ⟨0, rfl, Nat.zero_le _, Lib.hid (by simp), Lib.hid HO.out.2, Lib.hid HO.out.1⟩
  case round =>
    obtain ⟨k, rfl, hk, HD, HX, HB⟩ := hrel
    by_cases hlt : k < l.length
    · obtain ⟨g, off, rfl, hg, hc⟩ := row_get pt_len (by decide) HR.out (by omega)
      have C0 : ∀ p : Later wr, p.w.cell? ⟨g, off + k * 2, none⟩ = some (.int .i64 l[k].1) := fun p => ((HB.out.trans (p.h.mono HB.out.size)).cell (p := ⟨g, off + k * 2, none⟩) hg).trans (hc k hlt 0 (by decide))
      have C1 : ∀ p : Later wr, p.w.cell? ⟨g, off + k * 2 + 1, none⟩ = some (.int .i64 l[k].2) := fun p => ((HB.out.trans (p.h.mono HB.out.size)).cell (p := ⟨g, off + k * 2 + 1, none⟩) hg).trans (hc k hlt 1 (by decide))
      have M0 : ∀ p : Later wr, p.w.cell? ⟨w.heap.size, 0, none⟩ = some (.int .i64 x) := fun p => (pair_at HX.out p.h).1
      have M1 : ∀ p : Later wr, p.w.cell? ⟨w.heap.size, 1, none⟩ = some (.int .i64 y) := fun p => (pair_at HX.out p.h).2
      obtain ⟨q, HQ0⟩ : ∃ q, q = l[k] := ⟨_, rfl⟩
      have HQ : Hid (l[k] = q) := Lib.hid HQ0.symm
      rw [← HQ0] at C0 C1
      clear hc HQ0
      obtain ⟨u, v⟩ := q
      simp only at C0 C1
      by_cases h1 : x = u
      · by_cases h2 : y = v
        · subst h1
          subst h2
          have HY : Hid (idx (fun v => decide ((x, y) = v)) (l.drop k) k = (k : Int)) := Lib.hid (idx_yes _ l k hlt (by rw [HQ.out]; simp))
          go_upto_region 4 with fail
          refine wp_region_later wr (by kernel_rfl) (by kernel_rfl) (Below.refl _ _) ?_
          repeat (go_big_quiet_step (fail))
          refine wpQuiet_nil ?_
          rintro w9 hex; have hb9 := later_of hex; clear hex
          have HB9 := Lib.hid (HB.out.trans (hb9.mono HB.out.size))
          clear C0 C1 M0 M1
          go_wp2
          go_ret
          rw [HD.out, HY.out]
          exact ⟨rfl, HB9.out⟩
        · have hne : ¬ (x, y) = (u, v) := fun e => h2 (Prod.mk.inj e).2
          subst h1
          have HY : Hid (idx (fun v => decide ((x, y) = v)) (l.drop k) k = idx (fun v => decide ((x, y) = v)) (l.drop (k + 1)) (k + 1)) := Lib.hid (idx_no _ l k hlt (by rw [HQ.out]; simp [hne]))
          have e1 : (y == v) = false := beq_eq_false_iff_ne.2 h2
          have e2 : (y = v) = False := eq_false h2
          clear h2
          go_upto_region 4 with fail
          refine wp_region_later wr (by kernel_rfl) (by kernel_rfl) (Below.refl _ _) ?_
          repeat (go_big_quiet_step (fail))
          refine wpQuiet_nil ?_
          rintro w9 hex; have hb9 := later_of hex; clear hex
          have HB9 := Lib.hid (HB.out.trans (hb9.mono HB.out.size))
          clear C0 C1 M0 M1
          go_wp2
          go_roundw
          case rel => exact ⟨k + 1, by go_num, by omega, Lib.hid (by rw [HD.out, HY.out]), Lib.hid ((hb9.block _ (lt_of_block HX.out)).trans HX.out), HB9⟩
          case measure => simp [intOf]; omega
      · have hne : ¬ (x, y) = (u, v) := fun e => h1 (Prod.mk.inj e).1
        have HY : Hid (idx (fun v => decide ((x, y) = v)) (l.drop k) k = idx (fun v => decide ((x, y) = v)) (l.drop (k + 1)) (k + 1)) := Lib.hid (idx_no _ l k hlt (by rw [HQ.out]; simp [hne]))
        have e1 : (x == u) = false := beq_eq_false_iff_ne.2 h1
        have e2 : (x = u) = False := eq_false h1
        clear h1
        go_upto_region 4 with fail
        refine wp_region_later wr (by kernel_rfl) (by kernel_rfl) (Below.refl _ _) ?_
        repeat (go_big_quiet_step (fail))
        refine wpQuiet_nil ?_
        rintro w9 hex; have hb9 := later_of hex; clear hex
        have HB9 := Lib.hid (HB.out.trans (hb9.mono HB.out.size))
        clear C0 C1 M0 M1
        go_wp2
        go_roundw
        case rel => exact ⟨k + 1, by go_num, by omega, Lib.hid (by rw [HD.out, HY.out]), Lib.hid ((hb9.block _ (lt_of_block HX.out)).trans HX.out), HB9⟩
        case measure => simp [intOf]; omega
    · obtain rfl : k = l.length := by omega
      go_wp2
      go_ret
      rw [HD.out, List.drop_length]
      exact ⟨rfl, HB.out⟩
end Go.Proofs.YtnmmhcchpcbeeaaGreat.GeW
