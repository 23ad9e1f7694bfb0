/- Walks: the statistics of a program, by the reference. Conditions: the program lies in memory and is valid. -/
import Derived.Test.YtonpbomjjamphaaDoorNcRV
import Derived.Test.YtonpbomjjamphaaDoorNcS
import Derived.Test.YtonpbomjjamphaaDoorNcW5
import Derived.Deep.AppendLies
import Derived.Deep.RegionLaw
namespace Go.Proofs.YtonpbomjjamphaaDoor.NcW
open Go Go.RowKit Go.Proofs.YtonpbomjjamphaaDoor.Mem
attribute [local go_sem ↓] Go.wp_at_zero Go.wp_at_succ

/-- Where the reference's loop over the moves stands. -/
structure RRound (w : World) (b : Nat) (s : Nc.St) (v : Value) (W : World) : Prop where
  s1 : W.heap[b]? = some (.cells (stCells s) 53 (0, 0))
  s2 : W.heap[b + 1]? = some (.cells (hdCells s) 24 (0, 0))
  s3 : W.ownsRow (b + 2) 24 2 v s.pts.length (s.pts.flatMap ptCells)
  res : W.heap[w.heap.size]? = some (.cells #[.int .i64 0, .int .i64 0, .int .i64 0, .int .i64 0, .int .i64 0, .int .i64 0, .int .i64 0, .int .i64 0, .bool false] 53 (0, 0))
  bel : Below w.heap.size w W
  lt : w.heap.size < b
theorem RRound.below {w W W' : World} {b : Nat} {s : Nc.St} {v : Value} (h : RRound w b s v W) (hb : Below W.heap.size W W') : RRound w b s v W' := by
  obtain ⟨h1, h2, h3, h4, h6, h7⟩ := h
  exact ⟨(hb.block _ (block_lt h1)).trans h1, (hb.block _ (block_lt h2)).trans h2, own_below h3 hb, (hb.block _ (block_lt h4)).trans h4, h6.trans (hb.mono h6.size), h7⟩
theorem RRound.set {w W : World} {b : Nat} {s s' : Nc.St} {v : Value} (h : RRound w b s v W) (j : Nat) (x : Value)
    (e : (stCells s).setIfInBounds j x = stCells s') (e2 : hdCells s = hdCells s') (e3 : s.pts = s'.pts) : RRound w b s' v (W.setCell ⟨b, j, none⟩ x) := by
  obtain ⟨h1, h2, h3, h4, h6, h7⟩ := h
  refine ⟨?_, ?_, ?_, ?_, h6.setCell (p := ⟨b, j, none⟩) (by simp; omega) x, h7⟩
  · rw [← e]; exact block_set h1 j x
  · rw [← e2]; exact (block_other W b j x (by omega)).trans h2
  · rw [← e3]; exact own_set h3 b j x (by omega)
  · exact (block_other W b j x (by omega)).trans h4
theorem RRound.head {w W : World} {b : Nat} {s : Nc.St} {v : Value} (h : RRound w b s v W) (x y : Int) :
    RRound w b { s with hx := x, hy := y } v ((W.setCell ⟨b + 1, 0, none⟩ (.int .i64 x)).setCell ⟨b + 1, 1, none⟩ (.int .i64 y)) := by
  obtain ⟨h1, h2, h3, h4, h6, h7⟩ := h
  refine ⟨?_, block_set (block_set h2 0 (.int .i64 x)) 1 (.int .i64 y), own_set (own_set h3 (b + 1) 0 _ (by omega)) (b + 1) 1 _ (by omega), ?_, (h6.setCell (p := ⟨b + 1, 0, none⟩) (by simp; omega) _).setCell (p := ⟨b + 1, 1, none⟩) (by simp; omega) _, h7⟩
  · exact (block_other _ (b + 1) 1 _ (by omega)).trans ((block_other W (b + 1) 0 _ (by omega)).trans h1)
  · exact (block_other _ (b + 1) 1 _ (by omega)).trans ((block_other W (b + 1) 0 _ (by omega)).trans h4)
theorem RRound.grown {w W W' : World} {b : Nat} {s s' : Nc.St} {v v' : Value} (h : RRound w b s v W) (hg : W.grownBy W' v.ownBlock)
    (ho : W'.ownsRow (b + 2) 24 2 v' s'.pts.length (s'.pts.flatMap ptCells)) (e1 : stCells s = stCells s') (e2 : hdCells s = hdCells s') : RRound w b s' v' W' := by
  obtain ⟨h1, h2, h3, h4, h6, h7⟩ := h
  have hne : ∀ k, v.ownBlock = some k → b + 2 ≤ k := fun k hk => own_block h3 k hk
  have hb : ∀ k o, W.heap[k]? = some o → k < b + 2 → W'.heap[k]? = some o := by
    intro k o hk hk2
    refine (hg.block k (block_lt hk) ?_).trans hk
    intro e
    have := hne k e.symm
    omega
  exact ⟨e1 ▸ hb _ _ h1 (by omega), e2 ▸ hb _ _ h2 (by omega), ho, hb _ _ h4 (by omega), h6.grown hg h6.size (fun k hk => by have := hne k hk; omega), h7⟩
theorem RRound.s {w W : World} {b : Nat} {s : Nc.St} {v : Value} (h : RRound w b s v W) (j : Nat) (x : Value) (e : (stCells s)[j]? = some x) : W.cell? ⟨b, j, none⟩ = some x := by rw [Lib.cell_of_heap h.s1]; exact e
theorem RRound.f {w W : World} {b : Nat} {s : Nc.St} {v : Value} (h : RRound w b s v W) (j : Nat) : W.frozen? ⟨b, j, none⟩ = false := Lib.frozen_of_heap h.s1 j
theorem RRound.h {w W : World} {b : Nat} {s : Nc.St} {v : Value} (h : RRound w b s v W) (j : Nat) (x : Value) (e : (hdCells s)[j]? = some x) : W.cell? ⟨b + 1, j, none⟩ = some x := by rw [Lib.cell_of_heap h.s2]; exact e
theorem RRound.hf {w W : World} {b : Nat} {s : Nc.St} {v : Value} (h : RRound w b s v W) (j : Nat) : W.frozen? ⟨b + 1, j, none⟩ = false := Lib.frozen_of_heap h.s2 j

set_option maxRecDepth 100000 in
set_option maxHeartbeats 2000000 in
theorem rsummary_any (l : List Nc.Mv) (A : Option Addr) (c : Nat) (w : World) (hr : Row w A (l.flatMap mvCells)) (hv : Nc.valid l = true) :
    Calls Tryd.prog 23 #[.slice A l.length c] w fun e w' => e = .returned (.tuple #[statV (Nc.run l), .int .i64 0]) ∧ Below w.heap.size w w' := by
  have hlen := Nc.valid_len hv
  have HV := Lib.hid (fun W h => rvalid_any l A c W h (by omega))
  rw [hv] at HV
  have HOK := Lib.hid (fun m (hm : m ∈ l) => Nc.valid_ok hv hm)
  have HR := Lib.hid hr
  clear hr hv
  have hr0 : Row (w.alloc (.cells #[.int .i64 0, .int .i64 0, .int .i64 0, .int .i64 0, .int .i64 0, .int .i64 0, .int .i64 0, .int .i64 0, .bool false] 53)) A (l.flatMap mvCells) := HR.out.below ((Below.refl _ _).alloc (Nat.le_refl _) _)
  have HR0 := Lib.hid hr0
  clear hr0
  go_enter Tryd.func23, Tryd.ntmps23
  go_wp2_with fail
  refine (HV.out _ HR0.out).mono ?_
  rintro e w1 ⟨rfl, hb1⟩
  go_wp2
  have hb1' : Below w.heap.size w w1 := ((Below.refl _ _).alloc (Nat.le_refl _) _).trans (hb1.mono (by simp))
  have hres : w1.heap[w.heap.size]? = some (.cells #[.int .i64 0, .int .i64 0, .int .i64 0, .int .i64 0, .int .i64 0, .int .i64 0, .int .i64 0, .int .i64 0, .bool false] 53 (0, 0)) := (hb1.block _ (by simp)).trans (heap_alloc_new w _)
  have hrb : w.heap.size < w1.heap.size := block_lt hres
  have hst0 : RRound w w1.heap.size .init (.slice none 0 0) ((w1.alloc (.cells #[.int .i64 0, .int .i64 0, .int .i64 0, .int .i64 0, .int .i64 0, .int .i64 0, .int .i64 0, .int .i64 0, .bool false] 53)).alloc (.cells #[.int .i64 0, .int .i64 0] 24)) :=
    ⟨block_old (heap_alloc_new w1 _), heap_alloc_new2 _ _ (by simp), World.ownsRow_nil _ _ _ _, block_old (o' := .cells #[.int .i64 0, .int .i64 0] 24) (block_old (o' := .cells #[.int .i64 0, .int .i64 0, .int .i64 0, .int .i64 0, .int .i64 0, .int .i64 0, .int .i64 0, .int .i64 0, .bool false] 53) hres), (hb1'.alloc hb1'.size (.cells #[.int .i64 0, .int .i64 0, .int .i64 0, .int .i64 0, .int .i64 0, .int .i64 0, .int .i64 0, .int .i64 0, .bool false] 53)).alloc (by simp; omega) (.cells #[.int .i64 0, .int .i64 0] 24), hrb⟩
  clear hb1 hres hb1'
  generalize hbq : w1.heap.size = b at *
  have HW := Lib.hid hbq
  clear hbq
  have HST0 := Lib.hid hst0
  clear hst0
  generalize ((w1.alloc (.cells #[.int .i64 0, .int .i64 0, .int .i64 0, .int .i64 0, .int .i64 0, .int .i64 0, .int .i64 0, .int .i64 0, .bool false] 53)).alloc (.cells #[.int .i64 0, .int .i64 0] 24)) = w2 at *
  go_loopw [5, 7] (fun v t wr => ∃ k : Nat, k ≤ l.length ∧ t = .int .i64 k ∧ Hid (RRound w b (Nc.run (l.take k)) v wr)) (fun _ t _ => l.length - (intOf t).toNat)
  case atStart => exact ⟨0, Nat.zero_le _, rfl, HST0⟩
  case round =>
    obtain ⟨k, hk, rfl, HI⟩ := hrel
    clear HST0
    by_cases hlt : k < l.length
    · obtain ⟨g, off, rfl, hg, ca⟩ := row_get mv_len (by decide) HR.out (by omega)
      have e0 := ca k hlt 0 (by decide)
      have e1 := ca k hlt 1 (by decide)
      have e2 := ca k hlt 2 (by decide)
      have hok := HOK.out l[k] (List.getElem_mem hlt)
      have hts := Lib.hid (run_take l k hlt)
      have hfi := Nc.fine_run (p := l.take k) fun m hm => HOK.out m (List.mem_of_mem_take hm)
      have hkl : (l.take k).length ≤ 2000 := by simp; omega
      clear ca
      generalize l[k] = m at *
      generalize Nc.run (l.take k) = s at *
      generalize (l.take k).length = n at *
      obtain ⟨mk, mx, my⟩ := m
      simp only [mvCells, List.getElem?_cons_zero, List.getElem?_cons_succ, Nat.add_zero] at e0 e1 e2
      have E0 := Lib.hid e0
      have E1 := Lib.hid e1
      have E2 := Lib.hid e2
      have a0 := (HI.out.bel.cell (p := ⟨g, _, none⟩) hg).trans e0
      have a1 := (HI.out.bel.cell (p := ⟨g, _, none⟩) hg).trans e1
      have a2 := (HI.out.bel.cell (p := ⟨g, _, none⟩) hg).trans e2
      clear e0 e1 e2
      have hgb : g ≠ b := by have := HI.out.lt; omega
      have hgb1 : g ≠ b + 1 := by have := HI.out.lt; omega
      have hk1 : (0 : Int) ≤ (k : Int) := by omega
      have hk2 : (k : Int) < (l.length : Int) := by omega
      have hbnd := Nc.ok_bound hok
      simp only at hbnd
      obtain ⟨f1, f2, f3, f4, f5, f6, f7, f8⟩ := hfi
      have hkd := Nc.ok_kind hok
      simp only at hkd
      clear f8 hok
      have HSUB := Lib.hid (fun W => rsub_any mx my s.hx s.hy W (by omega) (by omega) (by omega) (by omega))
      have HNRM := Lib.hid (fun W => rnorm_any (mx - s.hx) (my - s.hy) W (by omega) (by omega))
      have hnb := Nc.norm_bound (x := mx - s.hx) (y := my - s.hy) (by omega) (by omega)
      have h0 : wr.cell? ⟨b + 1, 0, none⟩ = some (.int .i64 s.hx) := HI.out.h 0 _ rfl
      have h1 : wr.cell? ⟨b + 1, 1, none⟩ = some (.int .i64 s.hy) := HI.out.h 1 _ rfl

      generalize hnm : Nc.norm (mx - s.hx) (my - s.hy) = nm at *
      have HNM := Lib.hid hnm
      clear hnm
      have hgz := Nat.lt_of_lt_of_le hg HI.out.bel.size
      have hbz := block_lt HI.out.s2
      go_wp2
      go_cut [7, 8] (fun t u wc => t = .int .i64 (k : Int) ∧ u = .int .i64 nm ∧ Hid (RRound w b s u5 wc))
      case first =>
        go_region_with (first
          | (go_at_call 46; refine (HSUB.out _).mono ?_; rintro e w4 ⟨rfl, hb4⟩)
          | (go_at_call 45; refine (HNRM.out _).mono ?_; rintro e w5 ⟨rfl, hb5⟩; have HI5 := Lib.hid ((HI.out.below (below_drew (Below.refl _ _))).below (Below.trans hb4 (hb5.mono hb4.size)))))
        all_goals (
          go_wp2_with fail
          go_meet
          exact ⟨rfl, rfl, HI5⟩)
      case rest =>
        obtain ⟨rfl, rfl, HIC⟩ := hcut
        clear HI a0 a1 a2 h0 h1 hgz hbz HSUB HNRM
        have a0 := (HIC.out.bel.cell (p := ⟨g, _, none⟩) hg).trans E0.out
        have a1 := (HIC.out.bel.cell (p := ⟨g, _, none⟩) hg).trans E1.out
        have a2 := (HIC.out.bel.cell (p := ⟨g, _, none⟩) hg).trans E2.out
        have hgz := Nat.lt_of_lt_of_le hg HIC.out.bel.size
        have hbz := block_lt HIC.out.s2
        have hbz0 : b < wc.heap.size := by omega
        rcases (show mk = 1 ∨ mk = 2 ∨ mk = 3 ∨ mk = 4 ∨ mk = 5 ∨ mk = 6 by omega) with rfl | rfl | rfl | rfl | rfl | rfl
        · have hstep : Hid (Nc.step s ⟨1, mx, my⟩ = ⟨s.rapid + nm, s.cut, s.pierces, s.joints, mx, my, s.pts⟩) := Lib.hid (by rw [← HNM.out]; rfl)
          have n1 : IntKind.i64.wrap (s.rapid + nm) = s.rapid + nm := by rw [IntKind.wrap_i64]; omega
          have c0 : wc.cell? ⟨b, 0, none⟩ = some (.int .i64 s.rapid) := HIC.out.s 0 _ rfl
          have g0 := HIC.out.f 0
          have h0 : wc.cell? ⟨b + 1, 0, none⟩ = some (.int .i64 s.hx) := HIC.out.h 0 _ rfl
          have h1 : wc.cell? ⟨b + 1, 1, none⟩ = some (.int .i64 s.hy) := HIC.out.h 1 _ rfl
          have j0 := HIC.out.hf 0
          have j1 := HIC.out.hf 1
          have HIE := Lib.hid ((HIC.out.set (s' := ⟨s.rapid + nm, s.cut, s.pierces, s.joints, s.hx, s.hy, s.pts⟩) 0 (.int .i64 (s.rapid + nm)) rfl rfl rfl).head mx my)
          go_wp2
          generalize (((wc.setCell ⟨b, 0, none⟩ (.int .i64 (s.rapid + nm))).setCell ⟨b + 1, 0, none⟩ (.int .i64 mx)).setCell ⟨b + 1, 1, none⟩ (.int .i64 my)) = W9 at *
          go_roundw
          case rel => exact ⟨k + 1, by omega, by go_num, by rw [hts.out, hstep.out]; exact HIE⟩
          case measure => simp [intOf]; omega
        · have hstep : Hid (Nc.step s ⟨2, mx, my⟩ = ⟨s.rapid, s.cut + nm, s.pierces, s.joints, mx, my, s.pts ++ [(s.hx, s.hy), (mx, my)]⟩) := Lib.hid (by rw [← HNM.out]; rfl)
          have n1 : IntKind.i64.wrap (s.cut + nm) = s.cut + nm := by rw [IntKind.wrap_i64]; omega
          have c0 : wc.cell? ⟨b, 1, none⟩ = some (.int .i64 s.cut) := HIC.out.s 1 _ rfl
          have g0 := HIC.out.f 1
          have HI8 := Lib.hid (HIC.out.set (s' := ⟨s.rapid, s.cut + nm, s.pierces, s.joints, s.hx, s.hy, s.pts⟩) 1 (.int .i64 (s.cut + nm)) rfl rfl rfl)
          go_wp2
          generalize wc.setCell ⟨b, 1, none⟩ (.int .i64 (s.cut + nm)) = W8 at *
          clear HIC c0 g0 a0 a1 a2 hgz hbz hbz0
          have a1 := (HI8.out.bel.cell (p := ⟨g, _, none⟩) hg).trans E1.out
          have a2 := (HI8.out.bel.cell (p := ⟨g, _, none⟩) hg).trans E2.out
          have h0 : W8.cell? ⟨b + 1, 0, none⟩ = some (.int .i64 s.hx) := HI8.out.h 0 _ rfl
          have h1 : W8.cell? ⟨b + 1, 1, none⟩ = some (.int .i64 s.hy) := HI8.out.h 1 _ rfl

          have hgz := Nat.lt_of_lt_of_le hg HI8.out.bel.size
          have hbz := block_lt HI8.out.s2
          have hbw := Lib.hid (block_lt HI8.out.s2)
          obtain ⟨i0, ia, ib, ic, id⟩ := info_parts vec_info
          have hp1 : s.pts.length + 2 ≤ maxLen := by unfold maxLen; omega
          have hp2 : (s.pts.length + 2) * 16 ≤ 140737488355328 := by omega
          have HP1 := Lib.hid hp1
          have HP2 := Lib.hid hp2
          have HP3 : Hid (b + 2 ≤ (W8.drew.alloc (.cells #[.int .i64 s.hx, .int .i64 s.hy, .int .i64 mx, .int .i64 my] 24)).heap.size) := Lib.hid (by have := hbw.out; rw [World.size_alloc]; show b + 2 ≤ W8.heap.size + 1; omega)
          have HP4 : Hid ((W8.drew.alloc (.cells #[.int .i64 s.hx, .int .i64 s.hy, .int .i64 mx, .int .i64 my] 24)).ownsRow (b + 2) 24 2 u5 s.pts.length (s.pts.flatMap ptCells)) := Lib.hid ((HI8.out.below (below_drew (Below.refl _ _))).s3.alloc _)
          clear hp1 hp2
          go_region_law (refine step_append_lies _ rfl (.tmp 54) (.tmp 61) 70 rfl (b + 2) 24 i0 _ 2 16 Tryd.underlying70 ia ib ic id rfl (by omega) u5 _ _ rfl HP4.out ⟨W8.heap.size, 0, none⟩ 2 2 [.int .i64 s.hx, .int .i64 s.hy, .int .i64 mx, .int .i64 my] rfl rfl (cells_new4 W8.drew _ _ _ _ _) (by intro u hu; simp at hu; rcases hu with rfl | rfl | rfl | rfl <;> rfl) (by decide) HP1.out HP2.out HP3.out _ rfl ?_; intro g2 cap w3 hown3 hg3 _ _)
          all_goals (
            have HI3 := Lib.hid (RRound.grown (s' := ⟨s.rapid, s.cut + nm, s.pierces, s.joints, s.hx, s.hy, s.pts ++ [(s.hx, s.hy), (mx, my)]⟩) ((HI8.out.below (below_drew (Below.refl _ _))).below ((Below.refl _ _).alloc (Nat.le_refl _) (.cells #[.int .i64 s.hx, .int .i64 s.hy, .int .i64 mx, .int .i64 my] 24))) hg3 (by simpa [ptCells] using hown3) rfl rfl)
            clear a1 a2 h0 h1 hgz hbz
            have a1 := (HI3.out.bel.cell (p := ⟨g, _, none⟩) hg).trans E1.out
            have a2 := (HI3.out.bel.cell (p := ⟨g, _, none⟩) hg).trans E2.out
            have h0 : w3.cell? ⟨b + 1, 0, none⟩ = some (.int .i64 s.hx) := HI3.out.h 0 _ rfl
            have h1 : w3.cell? ⟨b + 1, 1, none⟩ = some (.int .i64 s.hy) := HI3.out.h 1 _ rfl
            have j0 := HI3.out.hf 0
            have j1 := HI3.out.hf 1
            have hgz := Nat.lt_of_lt_of_le hg HI3.out.bel.size
            have hbz := block_lt HI3.out.s2
            have HIE := Lib.hid (HI3.out.head mx my)
            clear HI8 HI3 hown3 hg3 HP1 HP2 HP3 HP4
            go_wp2
            generalize ((w3.setCell ⟨b + 1, 0, none⟩ (.int .i64 mx)).setCell ⟨b + 1, 1, none⟩ (.int .i64 my)) = W9 at *
            go_roundw
            case rel => exact ⟨k + 1, by omega, by go_num, by rw [hts.out, hstep.out]; exact HIE⟩
            case measure => simp [intOf]; omega)
        · have hstep : Hid (Nc.step s ⟨3, mx, my⟩ = { s with pierces := s.pierces + 1 }) := Lib.hid rfl
          have n1 : IntKind.i64.wrap (s.pierces + 1) = s.pierces + 1 := by rw [IntKind.wrap_i64]; omega
          have c0 : wc.cell? ⟨b, 2, none⟩ = some (.int .i64 s.pierces) := HIC.out.s 2 _ rfl
          have g0 := HIC.out.f 2
          have HIE := Lib.hid (HIC.out.set (s' := { s with pierces := s.pierces + 1 }) 2 (.int .i64 (s.pierces + 1)) rfl rfl rfl)
          go_wp2
          generalize wc.setCell ⟨b, 2, none⟩ (.int .i64 (s.pierces + 1)) = W9 at *
          go_roundw
          case rel => exact ⟨k + 1, by omega, by go_num, by rw [hts.out, hstep.out]; exact HIE⟩
          case measure => simp [intOf]; omega
        · have hstep : Hid (Nc.step s ⟨4, mx, my⟩ = s) := Lib.hid rfl
          have HIE := HIC
          clear HIC
          go_wp2
          go_roundw
          case rel => exact ⟨k + 1, by omega, by go_num, by rw [hts.out, hstep.out]; exact HIE⟩
          case measure => simp [intOf]; omega
        · have hstep : Hid (Nc.step s ⟨5, mx, my⟩ = { s with joints := s.joints + 1 }) := Lib.hid rfl
          have n1 : IntKind.i64.wrap (s.joints + 1) = s.joints + 1 := by rw [IntKind.wrap_i64]; omega
          have c0 : wc.cell? ⟨b, 3, none⟩ = some (.int .i64 s.joints) := HIC.out.s 3 _ rfl
          have g0 := HIC.out.f 3
          have HIE := Lib.hid (HIC.out.set (s' := { s with joints := s.joints + 1 }) 3 (.int .i64 (s.joints + 1)) rfl rfl rfl)
          go_wp2
          generalize wc.setCell ⟨b, 3, none⟩ (.int .i64 (s.joints + 1)) = W9 at *
          go_roundw
          case rel => exact ⟨k + 1, by omega, by go_num, by rw [hts.out, hstep.out]; exact HIE⟩
          case measure => simp [intOf]; omega
        · have hstep : Hid (Nc.step s ⟨6, mx, my⟩ = s) := Lib.hid rfl
          have HIE := HIC
          clear HIC
          go_wp2
          go_roundw
          case rel => exact ⟨k + 1, by omega, by go_num, by rw [hts.out, hstep.out]; exact HIE⟩
          case measure => simp [intOf]; omega
    · obtain rfl : k = l.length := by omega
      have htk := Lib.hid (show l.take l.length = l from List.take_length)
      rw [htk.out] at HI
      obtain ⟨hS1, hS2, hS3, hres, hbel, hrb'⟩ := HI.out
      clear HI
      have hfi := Nc.fine_run (p := l) HOK.out
      obtain ⟨f1, f2, f3, f4, f5, f6, f7, f8⟩ := hfi
      generalize hrun : Nc.run l = s at *
      have HRUN := Lib.hid hrun
      clear hrun
      have hpl : s.pts.length ≤ 4000 := by omega
      obtain ⟨A6, c6, rfl, hcc⟩ := own_shape hS3
      have HP := Lib.hid (Row.of_own hS3)
      have hB := hS1
      clear hS1 hS2 hS3 hrb'
      have HB := Lib.hid hB
      have HRS := Lib.hid hres
      have HBE := Lib.hid hbel
      have hbz := block_lt hB
      clear f8 hB hres hbel
      by_cases h0 : s.pts.length = 0
      · have hd0 : decide (s.pts.length = 0) = true := by simp [h0]
        have hbx : Nc.box s.pts = ⟨0, 0, 0, 0⟩ := by rw [List.eq_nil_of_length_eq_zero h0]; rfl
        have hpv : Hid (statV s = .agg #[.int .i64 s.rapid, .int .i64 s.cut, .int .i64 s.pierces, .int .i64 s.joints, .int .i64 0, .int .i64 0, .int .i64 0, .int .i64 0, .bool true]) := Lib.hid (by unfold statV; rw [hbx, hd0])
        have HBX := Lib.hid (fun W => rbox_nil W A6 c6)
        rw [h0]
        clear hd0 hbx h0 hpl hcc
        go_wp2_with fail
        refine (HBX.out _).mono ?_
        rintro e w5 ⟨rfl, hb5⟩
        have hB5 := block_old (o' := .cells #[.int .i64 0, .int .i64 0, .int .i64 0, .int .i64 0] 34) ((hb5.block b hbz).trans HB.out)
        have hR5 := block_old (o' := .cells #[.int .i64 0, .int .i64 0, .int .i64 0, .int .i64 0] 34) ((hb5.block w.heap.size (by omega)).trans HRS.out)
        have hbe5 := (HBE.out.trans (hb5.mono HBE.out.size)).alloc (Nat.le_trans HBE.out.size hb5.size) (.cells #[.int .i64 0, .int .i64 0, .int .i64 0, .int .i64 0] 34)
        have hX5 := heap_alloc_new w5 (.cells #[.int .i64 0, .int .i64 0, .int .i64 0, .int .i64 0] 34)
        have hbx := Nat.lt_of_lt_of_le hbz hb5.size
        have HB5 := Lib.hid hB5
        have HR5 := Lib.hid hR5
        have HE5 := Lib.hid hbe5
        have HX5 := Lib.hid hX5
        clear hB5 hR5 hbe5 hb5 hX5
        simp only [boxV]
        go_upto_region 23 with (fail)
        generalize w5.alloc (.cells #[.int .i64 0, .int .i64 0, .int .i64 0, .int .i64 0] 34) = W6 at *
        generalize hxb : w5.heap.size = xb at *
        have HXB := Lib.hid hxb
        clear hxb
        have x0 : W6.cell? ⟨xb, 0, none⟩ = some (.int .i64 0) := by rw [Lib.cell_of_heap HX5.out]; rfl
        have x1 : W6.cell? ⟨xb, 1, none⟩ = some (.int .i64 0) := by rw [Lib.cell_of_heap HX5.out]; rfl
        have x2 : W6.cell? ⟨xb, 2, none⟩ = some (.int .i64 0) := by rw [Lib.cell_of_heap HX5.out]; rfl
        have x3 : W6.cell? ⟨xb, 3, none⟩ = some (.int .i64 0) := by rw [Lib.cell_of_heap HX5.out]; rfl
        have y4 : W6.cell? ⟨b, 4, none⟩ = some (.int .i64 0) := by rw [Lib.cell_of_heap HB5.out]; rfl
        have y5 : W6.cell? ⟨b, 5, none⟩ = some (.int .i64 0) := by rw [Lib.cell_of_heap HB5.out]; rfl
        have y6 : W6.cell? ⟨b, 6, none⟩ = some (.int .i64 0) := by rw [Lib.cell_of_heap HB5.out]; rfl
        have y7 : W6.cell? ⟨b, 7, none⟩ = some (.int .i64 0) := by rw [Lib.cell_of_heap HB5.out]; rfl
        have y8 : W6.cell? ⟨b, 8, none⟩ = some (.bool false) := by rw [Lib.cell_of_heap HB5.out]; rfl
        have z4 : W6.frozen? ⟨b, 4, none⟩ = false := Lib.frozen_of_heap HB5.out 4
        have z5 : W6.frozen? ⟨b, 5, none⟩ = false := Lib.frozen_of_heap HB5.out 5
        have z6 : W6.frozen? ⟨b, 6, none⟩ = false := Lib.frozen_of_heap HB5.out 6
        have z7 : W6.frozen? ⟨b, 7, none⟩ = false := Lib.frozen_of_heap HB5.out 7
        have z8 : W6.frozen? ⟨b, 8, none⟩ = false := Lib.frozen_of_heap HB5.out 8
        have hbz6 := block_lt HB5.out
        have hxz6 := block_lt HX5.out
        go_upto_region 24 with (fail)
        have hB64 : (W6.setCell ⟨b, 4, none⟩ (.int .i64 0)).heap[b]? = some (.cells #[.int .i64 s.rapid, .int .i64 s.cut, .int .i64 s.pierces, .int .i64 s.joints, .int .i64 0, .int .i64 0, .int .i64 0, .int .i64 0, .bool false] 53 (0, 0)) := block_set HB5.out 4 (.int .i64 0)
        have hB65 : ((W6.setCell ⟨b, 4, none⟩ (.int .i64 0)).setCell ⟨b, 5, none⟩ (.int .i64 0)).heap[b]? = some (.cells #[.int .i64 s.rapid, .int .i64 s.cut, .int .i64 s.pierces, .int .i64 s.joints, .int .i64 0, .int .i64 0, .int .i64 0, .int .i64 0, .bool false] 53 (0, 0)) := block_set hB64 5 (.int .i64 0)
        have hB66 : (((W6.setCell ⟨b, 4, none⟩ (.int .i64 0)).setCell ⟨b, 5, none⟩ (.int .i64 0)).setCell ⟨b, 6, none⟩ (.int .i64 0)).heap[b]? = some (.cells #[.int .i64 s.rapid, .int .i64 s.cut, .int .i64 s.pierces, .int .i64 s.joints, .int .i64 0, .int .i64 0, .int .i64 0, .int .i64 0, .bool false] 53 (0, 0)) := block_set hB65 6 (.int .i64 0)
        have hB67 : ((((W6.setCell ⟨b, 4, none⟩ (.int .i64 0)).setCell ⟨b, 5, none⟩ (.int .i64 0)).setCell ⟨b, 6, none⟩ (.int .i64 0)).setCell ⟨b, 7, none⟩ (.int .i64 0)).heap[b]? = some (.cells #[.int .i64 s.rapid, .int .i64 s.cut, .int .i64 s.pierces, .int .i64 s.joints, .int .i64 0, .int .i64 0, .int .i64 0, .int .i64 0, .bool false] 53 (0, 0)) := block_set hB66 7 (.int .i64 0)
        have hB68 : (((((W6.setCell ⟨b, 4, none⟩ (.int .i64 0)).setCell ⟨b, 5, none⟩ (.int .i64 0)).setCell ⟨b, 6, none⟩ (.int .i64 0)).setCell ⟨b, 7, none⟩ (.int .i64 0)).setCell ⟨b, 8, none⟩ (.bool true)).heap[b]? = some (.cells #[.int .i64 s.rapid, .int .i64 s.cut, .int .i64 s.pierces, .int .i64 s.joints, .int .i64 0, .int .i64 0, .int .i64 0, .int .i64 0, .bool true] 53 (0, 0)) := block_set hB67 8 (.bool true)
        have hB7 := hB68
        have hR7 := ((block_other ((((W6.setCell ⟨b, 4, none⟩ (.int .i64 0)).setCell ⟨b, 5, none⟩ (.int .i64 0)).setCell ⟨b, 6, none⟩ (.int .i64 0)).setCell ⟨b, 7, none⟩ (.int .i64 0)) b 8 (.bool true) (by omega)).trans ((block_other (((W6.setCell ⟨b, 4, none⟩ (.int .i64 0)).setCell ⟨b, 5, none⟩ (.int .i64 0)).setCell ⟨b, 6, none⟩ (.int .i64 0)) b 7 (.int .i64 0) (by omega)).trans ((block_other ((W6.setCell ⟨b, 4, none⟩ (.int .i64 0)).setCell ⟨b, 5, none⟩ (.int .i64 0)) b 6 (.int .i64 0) (by omega)).trans ((block_other (W6.setCell ⟨b, 4, none⟩ (.int .i64 0)) b 5 (.int .i64 0) (by omega)).trans ((block_other W6 b 4 (.int .i64 0) (by omega)).trans HR5.out)))))
        have hE7 := (((((HE5.out.setCell (p := ⟨b, 4, none⟩) (by simp; omega) (.int .i64 0)).setCell (p := ⟨b, 5, none⟩) (by simp; omega) (.int .i64 0)).setCell (p := ⟨b, 6, none⟩) (by simp; omega) (.int .i64 0)).setCell (p := ⟨b, 7, none⟩) (by simp; omega) (.int .i64 0)).setCell (p := ⟨b, 8, none⟩) (by simp; omega) (.bool true))
        generalize (((((W6.setCell ⟨b, 4, none⟩ (.int .i64 0)).setCell ⟨b, 5, none⟩ (.int .i64 0)).setCell ⟨b, 6, none⟩ (.int .i64 0)).setCell ⟨b, 7, none⟩ (.int .i64 0)).setCell ⟨b, 8, none⟩ (.bool true)) = W7 at *
        have HB7 := Lib.hid hB7
        have HR7 := Lib.hid hR7
        have HE7 := Lib.hid hE7
        clear hB7 hR7 hE7 hB64 hB65 hB66 hB67 hB68 x0 x1 x2 x3 y4 y5 y6 y7 y8 z4 z5 z6 z7 z8
        have c0 : W7.cell? ⟨b, 0, none⟩ = some (.int .i64 s.rapid) := by rw [Lib.cell_of_heap HB7.out]; rfl
        have c1 : W7.cell? ⟨b, 1, none⟩ = some (.int .i64 s.cut) := by rw [Lib.cell_of_heap HB7.out]; rfl
        have c2 : W7.cell? ⟨b, 2, none⟩ = some (.int .i64 s.pierces) := by rw [Lib.cell_of_heap HB7.out]; rfl
        have c3 : W7.cell? ⟨b, 3, none⟩ = some (.int .i64 s.joints) := by rw [Lib.cell_of_heap HB7.out]; rfl
        have c4 : W7.cell? ⟨b, 4, none⟩ = some (.int .i64 0) := by rw [Lib.cell_of_heap HB7.out]; rfl
        have c5 : W7.cell? ⟨b, 5, none⟩ = some (.int .i64 0) := by rw [Lib.cell_of_heap HB7.out]; rfl
        have c6 : W7.cell? ⟨b, 6, none⟩ = some (.int .i64 0) := by rw [Lib.cell_of_heap HB7.out]; rfl
        have c7 : W7.cell? ⟨b, 7, none⟩ = some (.int .i64 0) := by rw [Lib.cell_of_heap HB7.out]; rfl
        have c8 : W7.cell? ⟨b, 8, none⟩ = some (.bool true) := by rw [Lib.cell_of_heap HB7.out]; rfl
        have r0 : W7.cell? ⟨w.heap.size, 0, none⟩ = some (.int .i64 0) := by rw [Lib.cell_of_heap HR7.out]; rfl
        have r1 : W7.cell? ⟨w.heap.size, 1, none⟩ = some (.int .i64 0) := by rw [Lib.cell_of_heap HR7.out]; rfl
        have r2 : W7.cell? ⟨w.heap.size, 2, none⟩ = some (.int .i64 0) := by rw [Lib.cell_of_heap HR7.out]; rfl
        have r3 : W7.cell? ⟨w.heap.size, 3, none⟩ = some (.int .i64 0) := by rw [Lib.cell_of_heap HR7.out]; rfl
        have r4 : W7.cell? ⟨w.heap.size, 4, none⟩ = some (.int .i64 0) := by rw [Lib.cell_of_heap HR7.out]; rfl
        have r5 : W7.cell? ⟨w.heap.size, 5, none⟩ = some (.int .i64 0) := by rw [Lib.cell_of_heap HR7.out]; rfl
        have r6 : W7.cell? ⟨w.heap.size, 6, none⟩ = some (.int .i64 0) := by rw [Lib.cell_of_heap HR7.out]; rfl
        have r7 : W7.cell? ⟨w.heap.size, 7, none⟩ = some (.int .i64 0) := by rw [Lib.cell_of_heap HR7.out]; rfl
        have r8 : W7.cell? ⟨w.heap.size, 8, none⟩ = some (.bool false) := by rw [Lib.cell_of_heap HR7.out]; rfl
        have g0 : W7.frozen? ⟨w.heap.size, 0, none⟩ = false := Lib.frozen_of_heap HR7.out 0
        have g1 : W7.frozen? ⟨w.heap.size, 1, none⟩ = false := Lib.frozen_of_heap HR7.out 1
        have g2 : W7.frozen? ⟨w.heap.size, 2, none⟩ = false := Lib.frozen_of_heap HR7.out 2
        have g3 : W7.frozen? ⟨w.heap.size, 3, none⟩ = false := Lib.frozen_of_heap HR7.out 3
        have g4 : W7.frozen? ⟨w.heap.size, 4, none⟩ = false := Lib.frozen_of_heap HR7.out 4
        have g5 : W7.frozen? ⟨w.heap.size, 5, none⟩ = false := Lib.frozen_of_heap HR7.out 5
        have g6 : W7.frozen? ⟨w.heap.size, 6, none⟩ = false := Lib.frozen_of_heap HR7.out 6
        have g7 : W7.frozen? ⟨w.heap.size, 7, none⟩ = false := Lib.frozen_of_heap HR7.out 7
        have g8 : W7.frozen? ⟨w.heap.size, 8, none⟩ = false := Lib.frozen_of_heap HR7.out 8
        have hrz7 := block_lt HR7.out
        have hbz7 := block_lt HB7.out
        go_wp2
        have hR70 : (W7.setCell ⟨w.heap.size, 0, none⟩ (.int .i64 s.rapid)).heap[w.heap.size]? = some (.cells #[.int .i64 s.rapid, .int .i64 0, .int .i64 0, .int .i64 0, .int .i64 0, .int .i64 0, .int .i64 0, .int .i64 0, .bool false] 53 (0, 0)) := block_set HR7.out 0 (.int .i64 s.rapid)
        have hR71 : ((W7.setCell ⟨w.heap.size, 0, none⟩ (.int .i64 s.rapid)).setCell ⟨w.heap.size, 1, none⟩ (.int .i64 s.cut)).heap[w.heap.size]? = some (.cells #[.int .i64 s.rapid, .int .i64 s.cut, .int .i64 0, .int .i64 0, .int .i64 0, .int .i64 0, .int .i64 0, .int .i64 0, .bool false] 53 (0, 0)) := block_set hR70 1 (.int .i64 s.cut)
        have hR72 : (((W7.setCell ⟨w.heap.size, 0, none⟩ (.int .i64 s.rapid)).setCell ⟨w.heap.size, 1, none⟩ (.int .i64 s.cut)).setCell ⟨w.heap.size, 2, none⟩ (.int .i64 s.pierces)).heap[w.heap.size]? = some (.cells #[.int .i64 s.rapid, .int .i64 s.cut, .int .i64 s.pierces, .int .i64 0, .int .i64 0, .int .i64 0, .int .i64 0, .int .i64 0, .bool false] 53 (0, 0)) := block_set hR71 2 (.int .i64 s.pierces)
        have hR73 : ((((W7.setCell ⟨w.heap.size, 0, none⟩ (.int .i64 s.rapid)).setCell ⟨w.heap.size, 1, none⟩ (.int .i64 s.cut)).setCell ⟨w.heap.size, 2, none⟩ (.int .i64 s.pierces)).setCell ⟨w.heap.size, 3, none⟩ (.int .i64 s.joints)).heap[w.heap.size]? = some (.cells #[.int .i64 s.rapid, .int .i64 s.cut, .int .i64 s.pierces, .int .i64 s.joints, .int .i64 0, .int .i64 0, .int .i64 0, .int .i64 0, .bool false] 53 (0, 0)) := block_set hR72 3 (.int .i64 s.joints)
        have hR74 : (((((W7.setCell ⟨w.heap.size, 0, none⟩ (.int .i64 s.rapid)).setCell ⟨w.heap.size, 1, none⟩ (.int .i64 s.cut)).setCell ⟨w.heap.size, 2, none⟩ (.int .i64 s.pierces)).setCell ⟨w.heap.size, 3, none⟩ (.int .i64 s.joints)).setCell ⟨w.heap.size, 4, none⟩ (.int .i64 0)).heap[w.heap.size]? = some (.cells #[.int .i64 s.rapid, .int .i64 s.cut, .int .i64 s.pierces, .int .i64 s.joints, .int .i64 0, .int .i64 0, .int .i64 0, .int .i64 0, .bool false] 53 (0, 0)) := block_set hR73 4 (.int .i64 0)
        have hR75 : ((((((W7.setCell ⟨w.heap.size, 0, none⟩ (.int .i64 s.rapid)).setCell ⟨w.heap.size, 1, none⟩ (.int .i64 s.cut)).setCell ⟨w.heap.size, 2, none⟩ (.int .i64 s.pierces)).setCell ⟨w.heap.size, 3, none⟩ (.int .i64 s.joints)).setCell ⟨w.heap.size, 4, none⟩ (.int .i64 0)).setCell ⟨w.heap.size, 5, none⟩ (.int .i64 0)).heap[w.heap.size]? = some (.cells #[.int .i64 s.rapid, .int .i64 s.cut, .int .i64 s.pierces, .int .i64 s.joints, .int .i64 0, .int .i64 0, .int .i64 0, .int .i64 0, .bool false] 53 (0, 0)) := block_set hR74 5 (.int .i64 0)
        have hR76 : (((((((W7.setCell ⟨w.heap.size, 0, none⟩ (.int .i64 s.rapid)).setCell ⟨w.heap.size, 1, none⟩ (.int .i64 s.cut)).setCell ⟨w.heap.size, 2, none⟩ (.int .i64 s.pierces)).setCell ⟨w.heap.size, 3, none⟩ (.int .i64 s.joints)).setCell ⟨w.heap.size, 4, none⟩ (.int .i64 0)).setCell ⟨w.heap.size, 5, none⟩ (.int .i64 0)).setCell ⟨w.heap.size, 6, none⟩ (.int .i64 0)).heap[w.heap.size]? = some (.cells #[.int .i64 s.rapid, .int .i64 s.cut, .int .i64 s.pierces, .int .i64 s.joints, .int .i64 0, .int .i64 0, .int .i64 0, .int .i64 0, .bool false] 53 (0, 0)) := block_set hR75 6 (.int .i64 0)
        have hR77 : ((((((((W7.setCell ⟨w.heap.size, 0, none⟩ (.int .i64 s.rapid)).setCell ⟨w.heap.size, 1, none⟩ (.int .i64 s.cut)).setCell ⟨w.heap.size, 2, none⟩ (.int .i64 s.pierces)).setCell ⟨w.heap.size, 3, none⟩ (.int .i64 s.joints)).setCell ⟨w.heap.size, 4, none⟩ (.int .i64 0)).setCell ⟨w.heap.size, 5, none⟩ (.int .i64 0)).setCell ⟨w.heap.size, 6, none⟩ (.int .i64 0)).setCell ⟨w.heap.size, 7, none⟩ (.int .i64 0)).heap[w.heap.size]? = some (.cells #[.int .i64 s.rapid, .int .i64 s.cut, .int .i64 s.pierces, .int .i64 s.joints, .int .i64 0, .int .i64 0, .int .i64 0, .int .i64 0, .bool false] 53 (0, 0)) := block_set hR76 7 (.int .i64 0)
        have hR78 : (((((((((W7.setCell ⟨w.heap.size, 0, none⟩ (.int .i64 s.rapid)).setCell ⟨w.heap.size, 1, none⟩ (.int .i64 s.cut)).setCell ⟨w.heap.size, 2, none⟩ (.int .i64 s.pierces)).setCell ⟨w.heap.size, 3, none⟩ (.int .i64 s.joints)).setCell ⟨w.heap.size, 4, none⟩ (.int .i64 0)).setCell ⟨w.heap.size, 5, none⟩ (.int .i64 0)).setCell ⟨w.heap.size, 6, none⟩ (.int .i64 0)).setCell ⟨w.heap.size, 7, none⟩ (.int .i64 0)).setCell ⟨w.heap.size, 8, none⟩ (.bool true)).heap[w.heap.size]? = some (.cells #[.int .i64 s.rapid, .int .i64 s.cut, .int .i64 s.pierces, .int .i64 s.joints, .int .i64 0, .int .i64 0, .int .i64 0, .int .i64 0, .bool true] 53 (0, 0)) := block_set hR77 8 (.bool true)
        have hR8 := hR78
        have hE8 := (((((((((HE7.out.setCell (p := ⟨w.heap.size, 0, none⟩) (by simp) (.int .i64 s.rapid)).setCell (p := ⟨w.heap.size, 1, none⟩) (by simp) (.int .i64 s.cut)).setCell (p := ⟨w.heap.size, 2, none⟩) (by simp) (.int .i64 s.pierces)).setCell (p := ⟨w.heap.size, 3, none⟩) (by simp) (.int .i64 s.joints)).setCell (p := ⟨w.heap.size, 4, none⟩) (by simp) (.int .i64 0)).setCell (p := ⟨w.heap.size, 5, none⟩) (by simp) (.int .i64 0)).setCell (p := ⟨w.heap.size, 6, none⟩) (by simp) (.int .i64 0)).setCell (p := ⟨w.heap.size, 7, none⟩) (by simp) (.int .i64 0)).setCell (p := ⟨w.heap.size, 8, none⟩) (by simp) (.bool true))
        clear hR70 hR71 hR72 hR73 hR74 hR75 hR76 hR77 hR78
        generalize (((((((((W7.setCell ⟨w.heap.size, 0, none⟩ (.int .i64 s.rapid)).setCell ⟨w.heap.size, 1, none⟩ (.int .i64 s.cut)).setCell ⟨w.heap.size, 2, none⟩ (.int .i64 s.pierces)).setCell ⟨w.heap.size, 3, none⟩ (.int .i64 s.joints)).setCell ⟨w.heap.size, 4, none⟩ (.int .i64 0)).setCell ⟨w.heap.size, 5, none⟩ (.int .i64 0)).setCell ⟨w.heap.size, 6, none⟩ (.int .i64 0)).setCell ⟨w.heap.size, 7, none⟩ (.int .i64 0)).setCell ⟨w.heap.size, 8, none⟩ (.bool true)) = W8 at *
        have s0 : W8.cell? ⟨w.heap.size, 0, none⟩ = some (.int .i64 s.rapid) := by rw [Lib.cell_of_heap hR8]; rfl
        have s1 : W8.cell? ⟨w.heap.size, 1, none⟩ = some (.int .i64 s.cut) := by rw [Lib.cell_of_heap hR8]; rfl
        have s2 : W8.cell? ⟨w.heap.size, 2, none⟩ = some (.int .i64 s.pierces) := by rw [Lib.cell_of_heap hR8]; rfl
        have s3 : W8.cell? ⟨w.heap.size, 3, none⟩ = some (.int .i64 s.joints) := by rw [Lib.cell_of_heap hR8]; rfl
        have s4 : W8.cell? ⟨w.heap.size, 4, none⟩ = some (.int .i64 0) := by rw [Lib.cell_of_heap hR8]; rfl
        have s5 : W8.cell? ⟨w.heap.size, 5, none⟩ = some (.int .i64 0) := by rw [Lib.cell_of_heap hR8]; rfl
        have s6 : W8.cell? ⟨w.heap.size, 6, none⟩ = some (.int .i64 0) := by rw [Lib.cell_of_heap hR8]; rfl
        have s7 : W8.cell? ⟨w.heap.size, 7, none⟩ = some (.int .i64 0) := by rw [Lib.cell_of_heap hR8]; rfl
        have s8 : W8.cell? ⟨w.heap.size, 8, none⟩ = some (.bool true) := by rw [Lib.cell_of_heap hR8]; rfl
        rw [HRUN.out, hpv.out]
        exact bodyPost_ret (v := .tuple #[.agg #[.int .i64 s.rapid, .int .i64 s.cut, .int .i64 s.pierces, .int .i64 s.joints, .int .i64 0, .int .i64 0, .int .i64 0, .int .i64 0, .bool true], .int .i64 0]) (by simp [results, Tryd.results23, go_sem, s0, s1, s2, s3, s4, s5, s6, s7, s8]) rfl ⟨rfl, hE8⟩
      · have hd0 : decide (s.pts.length = 0) = false := by simpa using h0
        have hpv : Hid (statV s = .agg #[.int .i64 s.rapid, .int .i64 s.cut, .int .i64 s.pierces, .int .i64 s.joints, .int .i64 (Nc.box s.pts).lx, .int .i64 (Nc.box s.pts).ly, .int .i64 (Nc.box s.pts).hx, .int .i64 (Nc.box s.pts).hy, .bool false]) := Lib.hid (by unfold statV; rw [hd0])
        have HBX := Lib.hid (fun W h => rbox_any s.pts A6 c6 W h (by omega) (by omega))
        generalize Nc.box s.pts = bx at *
        obtain ⟨blx, bly, bhx, bhy⟩ := bx
        simp only at hpv
        clear hd0 h0 hpl hcc
        go_wp2_with fail
        refine (HBX.out _ HP.out).mono ?_
        rintro e w5 ⟨rfl, hb5⟩
        have hB5 := block_old (o' := .cells #[.int .i64 blx, .int .i64 bly, .int .i64 bhx, .int .i64 bhy] 34) ((hb5.block b hbz).trans HB.out)
        have hR5 := block_old (o' := .cells #[.int .i64 blx, .int .i64 bly, .int .i64 bhx, .int .i64 bhy] 34) ((hb5.block w.heap.size (by omega)).trans HRS.out)
        have hbe5 := (HBE.out.trans (hb5.mono HBE.out.size)).alloc (Nat.le_trans HBE.out.size hb5.size) (.cells #[.int .i64 blx, .int .i64 bly, .int .i64 bhx, .int .i64 bhy] 34)
        have hX5 := heap_alloc_new w5 (.cells #[.int .i64 blx, .int .i64 bly, .int .i64 bhx, .int .i64 bhy] 34)
        have hbx := Nat.lt_of_lt_of_le hbz hb5.size
        have HB5 := Lib.hid hB5
        have HR5 := Lib.hid hR5
        have HE5 := Lib.hid hbe5
        have HX5 := Lib.hid hX5
        clear hB5 hR5 hbe5 hb5 hX5
        simp only [boxV]
        go_upto_region 23 with (fail)
        generalize w5.alloc (.cells #[.int .i64 blx, .int .i64 bly, .int .i64 bhx, .int .i64 bhy] 34) = W6 at *
        generalize hxb : w5.heap.size = xb at *
        have HXB := Lib.hid hxb
        clear hxb
        have x0 : W6.cell? ⟨xb, 0, none⟩ = some (.int .i64 blx) := by rw [Lib.cell_of_heap HX5.out]; rfl
        have x1 : W6.cell? ⟨xb, 1, none⟩ = some (.int .i64 bly) := by rw [Lib.cell_of_heap HX5.out]; rfl
        have x2 : W6.cell? ⟨xb, 2, none⟩ = some (.int .i64 bhx) := by rw [Lib.cell_of_heap HX5.out]; rfl
        have x3 : W6.cell? ⟨xb, 3, none⟩ = some (.int .i64 bhy) := by rw [Lib.cell_of_heap HX5.out]; rfl
        have y4 : W6.cell? ⟨b, 4, none⟩ = some (.int .i64 0) := by rw [Lib.cell_of_heap HB5.out]; rfl
        have y5 : W6.cell? ⟨b, 5, none⟩ = some (.int .i64 0) := by rw [Lib.cell_of_heap HB5.out]; rfl
        have y6 : W6.cell? ⟨b, 6, none⟩ = some (.int .i64 0) := by rw [Lib.cell_of_heap HB5.out]; rfl
        have y7 : W6.cell? ⟨b, 7, none⟩ = some (.int .i64 0) := by rw [Lib.cell_of_heap HB5.out]; rfl
        have y8 : W6.cell? ⟨b, 8, none⟩ = some (.bool false) := by rw [Lib.cell_of_heap HB5.out]; rfl
        have z4 : W6.frozen? ⟨b, 4, none⟩ = false := Lib.frozen_of_heap HB5.out 4
        have z5 : W6.frozen? ⟨b, 5, none⟩ = false := Lib.frozen_of_heap HB5.out 5
        have z6 : W6.frozen? ⟨b, 6, none⟩ = false := Lib.frozen_of_heap HB5.out 6
        have z7 : W6.frozen? ⟨b, 7, none⟩ = false := Lib.frozen_of_heap HB5.out 7
        have z8 : W6.frozen? ⟨b, 8, none⟩ = false := Lib.frozen_of_heap HB5.out 8
        have hbz6 := block_lt HB5.out
        have hxz6 := block_lt HX5.out
        go_upto_region 24 with (fail)
        have hB64 : (W6.setCell ⟨b, 4, none⟩ (.int .i64 blx)).heap[b]? = some (.cells #[.int .i64 s.rapid, .int .i64 s.cut, .int .i64 s.pierces, .int .i64 s.joints, .int .i64 blx, .int .i64 0, .int .i64 0, .int .i64 0, .bool false] 53 (0, 0)) := block_set HB5.out 4 (.int .i64 blx)
        have hB65 : ((W6.setCell ⟨b, 4, none⟩ (.int .i64 blx)).setCell ⟨b, 5, none⟩ (.int .i64 bly)).heap[b]? = some (.cells #[.int .i64 s.rapid, .int .i64 s.cut, .int .i64 s.pierces, .int .i64 s.joints, .int .i64 blx, .int .i64 bly, .int .i64 0, .int .i64 0, .bool false] 53 (0, 0)) := block_set hB64 5 (.int .i64 bly)
        have hB66 : (((W6.setCell ⟨b, 4, none⟩ (.int .i64 blx)).setCell ⟨b, 5, none⟩ (.int .i64 bly)).setCell ⟨b, 6, none⟩ (.int .i64 bhx)).heap[b]? = some (.cells #[.int .i64 s.rapid, .int .i64 s.cut, .int .i64 s.pierces, .int .i64 s.joints, .int .i64 blx, .int .i64 bly, .int .i64 bhx, .int .i64 0, .bool false] 53 (0, 0)) := block_set hB65 6 (.int .i64 bhx)
        have hB67 : ((((W6.setCell ⟨b, 4, none⟩ (.int .i64 blx)).setCell ⟨b, 5, none⟩ (.int .i64 bly)).setCell ⟨b, 6, none⟩ (.int .i64 bhx)).setCell ⟨b, 7, none⟩ (.int .i64 bhy)).heap[b]? = some (.cells #[.int .i64 s.rapid, .int .i64 s.cut, .int .i64 s.pierces, .int .i64 s.joints, .int .i64 blx, .int .i64 bly, .int .i64 bhx, .int .i64 bhy, .bool false] 53 (0, 0)) := block_set hB66 7 (.int .i64 bhy)
        have hB68 : (((((W6.setCell ⟨b, 4, none⟩ (.int .i64 blx)).setCell ⟨b, 5, none⟩ (.int .i64 bly)).setCell ⟨b, 6, none⟩ (.int .i64 bhx)).setCell ⟨b, 7, none⟩ (.int .i64 bhy)).setCell ⟨b, 8, none⟩ (.bool false)).heap[b]? = some (.cells #[.int .i64 s.rapid, .int .i64 s.cut, .int .i64 s.pierces, .int .i64 s.joints, .int .i64 blx, .int .i64 bly, .int .i64 bhx, .int .i64 bhy, .bool false] 53 (0, 0)) := block_set hB67 8 (.bool false)
        have hB7 := hB68
        have hR7 := ((block_other ((((W6.setCell ⟨b, 4, none⟩ (.int .i64 blx)).setCell ⟨b, 5, none⟩ (.int .i64 bly)).setCell ⟨b, 6, none⟩ (.int .i64 bhx)).setCell ⟨b, 7, none⟩ (.int .i64 bhy)) b 8 (.bool false) (by omega)).trans ((block_other (((W6.setCell ⟨b, 4, none⟩ (.int .i64 blx)).setCell ⟨b, 5, none⟩ (.int .i64 bly)).setCell ⟨b, 6, none⟩ (.int .i64 bhx)) b 7 (.int .i64 bhy) (by omega)).trans ((block_other ((W6.setCell ⟨b, 4, none⟩ (.int .i64 blx)).setCell ⟨b, 5, none⟩ (.int .i64 bly)) b 6 (.int .i64 bhx) (by omega)).trans ((block_other (W6.setCell ⟨b, 4, none⟩ (.int .i64 blx)) b 5 (.int .i64 bly) (by omega)).trans ((block_other W6 b 4 (.int .i64 blx) (by omega)).trans HR5.out)))))
        have hE7 := (((((HE5.out.setCell (p := ⟨b, 4, none⟩) (by simp; omega) (.int .i64 blx)).setCell (p := ⟨b, 5, none⟩) (by simp; omega) (.int .i64 bly)).setCell (p := ⟨b, 6, none⟩) (by simp; omega) (.int .i64 bhx)).setCell (p := ⟨b, 7, none⟩) (by simp; omega) (.int .i64 bhy)).setCell (p := ⟨b, 8, none⟩) (by simp; omega) (.bool false))
        generalize (((((W6.setCell ⟨b, 4, none⟩ (.int .i64 blx)).setCell ⟨b, 5, none⟩ (.int .i64 bly)).setCell ⟨b, 6, none⟩ (.int .i64 bhx)).setCell ⟨b, 7, none⟩ (.int .i64 bhy)).setCell ⟨b, 8, none⟩ (.bool false)) = W7 at *
        have HB7 := Lib.hid hB7
        have HR7 := Lib.hid hR7
        have HE7 := Lib.hid hE7
        clear hB7 hR7 hE7 hB64 hB65 hB66 hB67 hB68 x0 x1 x2 x3 y4 y5 y6 y7 y8 z4 z5 z6 z7 z8
        have c0 : W7.cell? ⟨b, 0, none⟩ = some (.int .i64 s.rapid) := by rw [Lib.cell_of_heap HB7.out]; rfl
        have c1 : W7.cell? ⟨b, 1, none⟩ = some (.int .i64 s.cut) := by rw [Lib.cell_of_heap HB7.out]; rfl
        have c2 : W7.cell? ⟨b, 2, none⟩ = some (.int .i64 s.pierces) := by rw [Lib.cell_of_heap HB7.out]; rfl
        have c3 : W7.cell? ⟨b, 3, none⟩ = some (.int .i64 s.joints) := by rw [Lib.cell_of_heap HB7.out]; rfl
        have c4 : W7.cell? ⟨b, 4, none⟩ = some (.int .i64 blx) := by rw [Lib.cell_of_heap HB7.out]; rfl
        have c5 : W7.cell? ⟨b, 5, none⟩ = some (.int .i64 bly) := by rw [Lib.cell_of_heap HB7.out]; rfl
        have c6 : W7.cell? ⟨b, 6, none⟩ = some (.int .i64 bhx) := by rw [Lib.cell_of_heap HB7.out]; rfl
        have c7 : W7.cell? ⟨b, 7, none⟩ = some (.int .i64 bhy) := by rw [Lib.cell_of_heap HB7.out]; rfl
        have c8 : W7.cell? ⟨b, 8, none⟩ = some (.bool false) := by rw [Lib.cell_of_heap HB7.out]; rfl
        have r0 : W7.cell? ⟨w.heap.size, 0, none⟩ = some (.int .i64 0) := by rw [Lib.cell_of_heap HR7.out]; rfl
        have r1 : W7.cell? ⟨w.heap.size, 1, none⟩ = some (.int .i64 0) := by rw [Lib.cell_of_heap HR7.out]; rfl
        have r2 : W7.cell? ⟨w.heap.size, 2, none⟩ = some (.int .i64 0) := by rw [Lib.cell_of_heap HR7.out]; rfl
        have r3 : W7.cell? ⟨w.heap.size, 3, none⟩ = some (.int .i64 0) := by rw [Lib.cell_of_heap HR7.out]; rfl
        have r4 : W7.cell? ⟨w.heap.size, 4, none⟩ = some (.int .i64 0) := by rw [Lib.cell_of_heap HR7.out]; rfl
        have r5 : W7.cell? ⟨w.heap.size, 5, none⟩ = some (.int .i64 0) := by rw [Lib.cell_of_heap HR7.out]; rfl
        have r6 : W7.cell? ⟨w.heap.size, 6, none⟩ = some (.int .i64 0) := by rw [Lib.cell_of_heap HR7.out]; rfl
        have r7 : W7.cell? ⟨w.heap.size, 7, none⟩ = some (.int .i64 0) := by rw [Lib.cell_of_heap HR7.out]; rfl
        have r8 : W7.cell? ⟨w.heap.size, 8, none⟩ = some (.bool false) := by rw [Lib.cell_of_heap HR7.out]; rfl
        have g0 : W7.frozen? ⟨w.heap.size, 0, none⟩ = false := Lib.frozen_of_heap HR7.out 0
        have g1 : W7.frozen? ⟨w.heap.size, 1, none⟩ = false := Lib.frozen_of_heap HR7.out 1
        have g2 : W7.frozen? ⟨w.heap.size, 2, none⟩ = false := Lib.frozen_of_heap HR7.out 2
        have g3 : W7.frozen? ⟨w.heap.size, 3, none⟩ = false := Lib.frozen_of_heap HR7.out 3
        have g4 : W7.frozen? ⟨w.heap.size, 4, none⟩ = false := Lib.frozen_of_heap HR7.out 4
        have g5 : W7.frozen? ⟨w.heap.size, 5, none⟩ = false := Lib.frozen_of_heap HR7.out 5
        have g6 : W7.frozen? ⟨w.heap.size, 6, none⟩ = false := Lib.frozen_of_heap HR7.out 6
        have g7 : W7.frozen? ⟨w.heap.size, 7, none⟩ = false := Lib.frozen_of_heap HR7.out 7
        have g8 : W7.frozen? ⟨w.heap.size, 8, none⟩ = false := Lib.frozen_of_heap HR7.out 8
        have hrz7 := block_lt HR7.out
        have hbz7 := block_lt HB7.out
        go_wp2
        have hR70 : (W7.setCell ⟨w.heap.size, 0, none⟩ (.int .i64 s.rapid)).heap[w.heap.size]? = some (.cells #[.int .i64 s.rapid, .int .i64 0, .int .i64 0, .int .i64 0, .int .i64 0, .int .i64 0, .int .i64 0, .int .i64 0, .bool false] 53 (0, 0)) := block_set HR7.out 0 (.int .i64 s.rapid)
        have hR71 : ((W7.setCell ⟨w.heap.size, 0, none⟩ (.int .i64 s.rapid)).setCell ⟨w.heap.size, 1, none⟩ (.int .i64 s.cut)).heap[w.heap.size]? = some (.cells #[.int .i64 s.rapid, .int .i64 s.cut, .int .i64 0, .int .i64 0, .int .i64 0, .int .i64 0, .int .i64 0, .int .i64 0, .bool false] 53 (0, 0)) := block_set hR70 1 (.int .i64 s.cut)
        have hR72 : (((W7.setCell ⟨w.heap.size, 0, none⟩ (.int .i64 s.rapid)).setCell ⟨w.heap.size, 1, none⟩ (.int .i64 s.cut)).setCell ⟨w.heap.size, 2, none⟩ (.int .i64 s.pierces)).heap[w.heap.size]? = some (.cells #[.int .i64 s.rapid, .int .i64 s.cut, .int .i64 s.pierces, .int .i64 0, .int .i64 0, .int .i64 0, .int .i64 0, .int .i64 0, .bool false] 53 (0, 0)) := block_set hR71 2 (.int .i64 s.pierces)
        have hR73 : ((((W7.setCell ⟨w.heap.size, 0, none⟩ (.int .i64 s.rapid)).setCell ⟨w.heap.size, 1, none⟩ (.int .i64 s.cut)).setCell ⟨w.heap.size, 2, none⟩ (.int .i64 s.pierces)).setCell ⟨w.heap.size, 3, none⟩ (.int .i64 s.joints)).heap[w.heap.size]? = some (.cells #[.int .i64 s.rapid, .int .i64 s.cut, .int .i64 s.pierces, .int .i64 s.joints, .int .i64 0, .int .i64 0, .int .i64 0, .int .i64 0, .bool false] 53 (0, 0)) := block_set hR72 3 (.int .i64 s.joints)
        have hR74 : (((((W7.setCell ⟨w.heap.size, 0, none⟩ (.int .i64 s.rapid)).setCell ⟨w.heap.size, 1, none⟩ (.int .i64 s.cut)).setCell ⟨w.heap.size, 2, none⟩ (.int .i64 s.pierces)).setCell ⟨w.heap.size, 3, none⟩ (.int .i64 s.joints)).setCell ⟨w.heap.size, 4, none⟩ (.int .i64 blx)).heap[w.heap.size]? = some (.cells #[.int .i64 s.rapid, .int .i64 s.cut, .int .i64 s.pierces, .int .i64 s.joints, .int .i64 blx, .int .i64 0, .int .i64 0, .int .i64 0, .bool false] 53 (0, 0)) := block_set hR73 4 (.int .i64 blx)
        have hR75 : ((((((W7.setCell ⟨w.heap.size, 0, none⟩ (.int .i64 s.rapid)).setCell ⟨w.heap.size, 1, none⟩ (.int .i64 s.cut)).setCell ⟨w.heap.size, 2, none⟩ (.int .i64 s.pierces)).setCell ⟨w.heap.size, 3, none⟩ (.int .i64 s.joints)).setCell ⟨w.heap.size, 4, none⟩ (.int .i64 blx)).setCell ⟨w.heap.size, 5, none⟩ (.int .i64 bly)).heap[w.heap.size]? = some (.cells #[.int .i64 s.rapid, .int .i64 s.cut, .int .i64 s.pierces, .int .i64 s.joints, .int .i64 blx, .int .i64 bly, .int .i64 0, .int .i64 0, .bool false] 53 (0, 0)) := block_set hR74 5 (.int .i64 bly)
        have hR76 : (((((((W7.setCell ⟨w.heap.size, 0, none⟩ (.int .i64 s.rapid)).setCell ⟨w.heap.size, 1, none⟩ (.int .i64 s.cut)).setCell ⟨w.heap.size, 2, none⟩ (.int .i64 s.pierces)).setCell ⟨w.heap.size, 3, none⟩ (.int .i64 s.joints)).setCell ⟨w.heap.size, 4, none⟩ (.int .i64 blx)).setCell ⟨w.heap.size, 5, none⟩ (.int .i64 bly)).setCell ⟨w.heap.size, 6, none⟩ (.int .i64 bhx)).heap[w.heap.size]? = some (.cells #[.int .i64 s.rapid, .int .i64 s.cut, .int .i64 s.pierces, .int .i64 s.joints, .int .i64 blx, .int .i64 bly, .int .i64 bhx, .int .i64 0, .bool false] 53 (0, 0)) := block_set hR75 6 (.int .i64 bhx)
        have hR77 : ((((((((W7.setCell ⟨w.heap.size, 0, none⟩ (.int .i64 s.rapid)).setCell ⟨w.heap.size, 1, none⟩ (.int .i64 s.cut)).setCell ⟨w.heap.size, 2, none⟩ (.int .i64 s.pierces)).setCell ⟨w.heap.size, 3, none⟩ (.int .i64 s.joints)).setCell ⟨w.heap.size, 4, none⟩ (.int .i64 blx)).setCell ⟨w.heap.size, 5, none⟩ (.int .i64 bly)).setCell ⟨w.heap.size, 6, none⟩ (.int .i64 bhx)).setCell ⟨w.heap.size, 7, none⟩ (.int .i64 bhy)).heap[w.heap.size]? = some (.cells #[.int .i64 s.rapid, .int .i64 s.cut, .int .i64 s.pierces, .int .i64 s.joints, .int .i64 blx, .int .i64 bly, .int .i64 bhx, .int .i64 bhy, .bool false] 53 (0, 0)) := block_set hR76 7 (.int .i64 bhy)
        have hR78 : (((((((((W7.setCell ⟨w.heap.size, 0, none⟩ (.int .i64 s.rapid)).setCell ⟨w.heap.size, 1, none⟩ (.int .i64 s.cut)).setCell ⟨w.heap.size, 2, none⟩ (.int .i64 s.pierces)).setCell ⟨w.heap.size, 3, none⟩ (.int .i64 s.joints)).setCell ⟨w.heap.size, 4, none⟩ (.int .i64 blx)).setCell ⟨w.heap.size, 5, none⟩ (.int .i64 bly)).setCell ⟨w.heap.size, 6, none⟩ (.int .i64 bhx)).setCell ⟨w.heap.size, 7, none⟩ (.int .i64 bhy)).setCell ⟨w.heap.size, 8, none⟩ (.bool false)).heap[w.heap.size]? = some (.cells #[.int .i64 s.rapid, .int .i64 s.cut, .int .i64 s.pierces, .int .i64 s.joints, .int .i64 blx, .int .i64 bly, .int .i64 bhx, .int .i64 bhy, .bool false] 53 (0, 0)) := block_set hR77 8 (.bool false)
        have hR8 := hR78
        have hE8 := (((((((((HE7.out.setCell (p := ⟨w.heap.size, 0, none⟩) (by simp) (.int .i64 s.rapid)).setCell (p := ⟨w.heap.size, 1, none⟩) (by simp) (.int .i64 s.cut)).setCell (p := ⟨w.heap.size, 2, none⟩) (by simp) (.int .i64 s.pierces)).setCell (p := ⟨w.heap.size, 3, none⟩) (by simp) (.int .i64 s.joints)).setCell (p := ⟨w.heap.size, 4, none⟩) (by simp) (.int .i64 blx)).setCell (p := ⟨w.heap.size, 5, none⟩) (by simp) (.int .i64 bly)).setCell (p := ⟨w.heap.size, 6, none⟩) (by simp) (.int .i64 bhx)).setCell (p := ⟨w.heap.size, 7, none⟩) (by simp) (.int .i64 bhy)).setCell (p := ⟨w.heap.size, 8, none⟩) (by simp) (.bool false))
        clear hR70 hR71 hR72 hR73 hR74 hR75 hR76 hR77 hR78
        generalize (((((((((W7.setCell ⟨w.heap.size, 0, none⟩ (.int .i64 s.rapid)).setCell ⟨w.heap.size, 1, none⟩ (.int .i64 s.cut)).setCell ⟨w.heap.size, 2, none⟩ (.int .i64 s.pierces)).setCell ⟨w.heap.size, 3, none⟩ (.int .i64 s.joints)).setCell ⟨w.heap.size, 4, none⟩ (.int .i64 blx)).setCell ⟨w.heap.size, 5, none⟩ (.int .i64 bly)).setCell ⟨w.heap.size, 6, none⟩ (.int .i64 bhx)).setCell ⟨w.heap.size, 7, none⟩ (.int .i64 bhy)).setCell ⟨w.heap.size, 8, none⟩ (.bool false)) = W8 at *
        have s0 : W8.cell? ⟨w.heap.size, 0, none⟩ = some (.int .i64 s.rapid) := by rw [Lib.cell_of_heap hR8]; rfl
        have s1 : W8.cell? ⟨w.heap.size, 1, none⟩ = some (.int .i64 s.cut) := by rw [Lib.cell_of_heap hR8]; rfl
        have s2 : W8.cell? ⟨w.heap.size, 2, none⟩ = some (.int .i64 s.pierces) := by rw [Lib.cell_of_heap hR8]; rfl
        have s3 : W8.cell? ⟨w.heap.size, 3, none⟩ = some (.int .i64 s.joints) := by rw [Lib.cell_of_heap hR8]; rfl
        have s4 : W8.cell? ⟨w.heap.size, 4, none⟩ = some (.int .i64 blx) := by rw [Lib.cell_of_heap hR8]; rfl
        have s5 : W8.cell? ⟨w.heap.size, 5, none⟩ = some (.int .i64 bly) := by rw [Lib.cell_of_heap hR8]; rfl
        have s6 : W8.cell? ⟨w.heap.size, 6, none⟩ = some (.int .i64 bhx) := by rw [Lib.cell_of_heap hR8]; rfl
        have s7 : W8.cell? ⟨w.heap.size, 7, none⟩ = some (.int .i64 bhy) := by rw [Lib.cell_of_heap hR8]; rfl
        have s8 : W8.cell? ⟨w.heap.size, 8, none⟩ = some (.bool false) := by rw [Lib.cell_of_heap hR8]; rfl
        rw [HRUN.out, hpv.out]
        exact bodyPost_ret (v := .tuple #[.agg #[.int .i64 s.rapid, .int .i64 s.cut, .int .i64 s.pierces, .int .i64 s.joints, .int .i64 blx, .int .i64 bly, .int .i64 bhx, .int .i64 bhy, .bool false], .int .i64 0]) (by simp [results, Tryd.results23, go_sem, s0, s1, s2, s3, s4, s5, s6, s7, s8]) rfl ⟨rfl, hE8⟩
end Go.Proofs.YtonpbomjjamphaaDoor.NcW
