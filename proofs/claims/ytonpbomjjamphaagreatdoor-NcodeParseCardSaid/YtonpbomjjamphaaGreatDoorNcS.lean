/- Walks: the statistics of a program, by the program. Conditions: the program lies in memory and is valid. -/
import Derived.Test.YtonpbomjjamphaaGreatDoorNcV2
import Derived.Test.YtonpbomjjamphaaGreatDoorNcW4
import Derived.Test.YtonpbomjjamphaaGreatDoorMem2
import Derived.Deep.RegionWith
import Derived.Deep.DeepCutAuto
import Derived.Deep.DrawnRows
namespace Go.Proofs.YtonpbomjjamphaaGreatDoor.NcW
open Go Go.RowKit Go.Proofs.YtonpbomjjamphaaGreatDoor.Mem
attribute [local go_sem ↓] Go.wp_at_zero Go.wp_at_succ

def stCells (s : Nc.St) : Array Value := #[.int .i64 s.rapid, .int .i64 s.cut, .int .i64 s.pierces, .int .i64 s.joints, .int .i64 0, .int .i64 0, .int .i64 0, .int .i64 0, .bool false]
def hdCells (s : Nc.St) : Array Value := #[.int .i64 s.hx, .int .i64 s.hy]
/-- Where the loop over the moves stands. -/
def SumAt (base b h : Nat) (s : Nc.St) (v : Value) (w : World) : Prop :=
  w.heap[b]? = some (.cells (stCells s) 42 (0, 0)) ∧ w.heap[h]? = some (.cells (hdCells s) 36 (0, 0)) ∧ w.ownsRow base 36 2 v s.pts.length (s.pts.flatMap ptCells)

theorem run_take (l : List Nc.Mv) (k : Nat) (h : k < l.length) : Nc.run (l.take (k + 1)) = Nc.step (Nc.run (l.take k)) l[k] := by
  rw [take_snoc' l k h, Nc.run_snoc]

theorem own_set {w : World} {base : Nat} {e : TypeId} {size n : Nat} {v : Value} {xs : List Value} (h : w.ownsRow base e size v n xs) (b j : Nat) (x : Value) (hb : b < base) : (w.setCell ⟨b, j, none⟩ x).ownsRow base e size v n xs :=
  h.kept (row := some b) ⟨rfl, rfl, rfl, by simp [World.setCell], fun k _ hk => Below.heap_setCell _ _ _ _ (fun e => hk (by simp [e]))⟩ (Or.inr fun hk => by have := own_block h _ hk; omega)
theorem vec_info : (Tryz.prog.info? 36).map (fun i => (i.zero, i.size, i.bytes)) = some (some (.agg #[.int .i64 0, .int .i64 0]), 2, 16) := by kernel_rfl
def statV (s : Nc.St) : Value := .agg #[.int .i64 s.rapid, .int .i64 s.cut, .int .i64 s.pierces, .int .i64 s.joints, .int .i64 (Nc.box s.pts).lx, .int .i64 (Nc.box s.pts).ly, .int .i64 (Nc.box s.pts).hx, .int .i64 (Nc.box s.pts).hy, .bool (decide (s.pts.length = 0))]
def zero9 : Obj := .cells #[.int .i64 0, .int .i64 0, .int .i64 0, .int .i64 0, .int .i64 0, .int .i64 0, .int .i64 0, .int .i64 0, .bool false] 42 (0, 0)
/-- Where a round stands: the statistics, the head, the points, the result's block, the move at hand. -/
structure InRound (w : World) (b : Nat) (s : Nc.St) (v : Value) (mb : Nat) (m : Nc.Mv) (W : World) : Prop where
  sum : SumAt (b + 2) b (b + 1) s v W
  res : W.heap[w.heap.size]? = some zero9
  mv : W.heap[mb]? = some (.cells #[.int .i64 m.k, .int .i64 m.x, .int .i64 m.y] 38 (0, 0))
  bel : Below w.heap.size w W
  lt : w.heap.size < b
  le : b + 2 ≤ mb
theorem InRound.below {w W W' : World} {b mb : Nat} {s : Nc.St} {v : Value} {m : Nc.Mv} (h : InRound w b s v mb m W) (hb : Below W.heap.size W W') : InRound w b s v mb m W' := by
  obtain ⟨⟨h1, h2, h3⟩, h4, h5, h6, h7, h8⟩ := h
  exact ⟨⟨(hb.block _ (block_lt h1)).trans h1, (hb.block _ (block_lt h2)).trans h2, own_below h3 hb⟩, (hb.block _ (block_lt h4)).trans h4, (hb.block _ (block_lt h5)).trans h5, h6.trans (hb.mono h6.size), h7, h8⟩
theorem InRound.set {w W : World} {b mb : Nat} {s s' : Nc.St} {v : Value} {m : Nc.Mv} (h : InRound w b s v mb m W) (j : Nat) (x : Value)
    (e : (stCells s).setIfInBounds j x = stCells s') (e2 : hdCells s = hdCells s') (e3 : s.pts = s'.pts) : InRound w b s' v mb m (W.setCell ⟨b, j, none⟩ x) := by
  obtain ⟨⟨h1, h2, h3⟩, h4, h5, h6, h7, h8⟩ := h
  refine ⟨⟨?_, ?_, ?_⟩, ?_, ?_, h6.setCell (p := ⟨b, j, none⟩) (by simp; omega) x, h7, h8⟩
  · rw [← e]; exact block_set h1 j x
  · rw [← e2]; exact (block_other W b j x (by omega)).trans h2
  · rw [← e3]; exact own_set h3 b j x (by omega)
  · exact (block_other W b j x (by omega)).trans h4
  · exact (block_other W b j x (by omega)).trans h5
theorem InRound.head {w W : World} {b mb : Nat} {s : Nc.St} {v : Value} {m : Nc.Mv} (h : InRound w b s v mb m W) (x y : Int) :
    InRound w b { s with hx := x, hy := y } v mb m ((W.setCell ⟨b + 1, 0, none⟩ (.int .i64 x)).setCell ⟨b + 1, 1, none⟩ (.int .i64 y)) := by
  obtain ⟨⟨h1, h2, h3⟩, h4, h5, h6, h7, h8⟩ := h
  refine ⟨⟨?_, block_set (block_set h2 0 (.int .i64 x)) 1 (.int .i64 y), own_set (own_set h3 (b + 1) 0 _ (by omega)) (b + 1) 1 _ (by omega)⟩, ?_, ?_, (h6.setCell (p := ⟨b + 1, 0, none⟩) (by simp; omega) _).setCell (p := ⟨b + 1, 1, none⟩) (by simp; omega) _, h7, h8⟩
  · exact (block_other _ (b + 1) 1 _ (by omega)).trans ((block_other W (b + 1) 0 _ (by omega)).trans h1)
  · exact (block_other _ (b + 1) 1 _ (by omega)).trans ((block_other W (b + 1) 0 _ (by omega)).trans h4)
  · exact (block_other _ (b + 1) 1 _ (by omega)).trans ((block_other W (b + 1) 0 _ (by omega)).trans h5)
theorem InRound.grown {w W W' : World} {b mb : Nat} {s s' : Nc.St} {v v' : Value} {m : Nc.Mv} (h : InRound w b s v mb m W) (hg : W.grownBy W' v.ownBlock)
    (ho : W'.ownsRow (b + 2) 36 2 v' s'.pts.length (s'.pts.flatMap ptCells)) (e1 : stCells s = stCells s') (e2 : hdCells s = hdCells s') : InRound w b s' v' mb m W' := by
  obtain ⟨⟨h1, h2, h3⟩, h4, h5, h6, h7, h8⟩ := h
  have hne : ∀ k, v.ownBlock = some k → b + 2 ≤ k ∧ k ≠ mb := by
    intro k hk
    refine ⟨own_block h3 k hk, ?_⟩
    rintro rfl
    rcases h3.2 with ⟨h0, _⟩ | ⟨g, cap, cur, hv, _, hh, _⟩
    · rw [h0] at hk; cases hk
    · rw [hv] at hk
      cases hk
      rw [hh] at h5
      simp only [Option.some.injEq, Obj.cells.injEq] at h5
      exact absurd h5.2.1 (by decide)
  have hb : ∀ k o, W.heap[k]? = some o → (k < b + 2 ∨ k = mb) → W'.heap[k]? = some o := by
    intro k o hk hk2
    refine (hg.block k (block_lt hk) ?_).trans hk
    intro e
    have := hne k e.symm
    omega
  refine ⟨⟨e1 ▸ hb _ _ h1 (by omega), e2 ▸ hb _ _ h2 (by omega), ho⟩, hb _ _ h4 (by omega), hb _ _ h5 (by omega), h6.grown hg h6.size (fun k hk => by have := hne k hk; omega), h7, h8⟩
theorem InRound.s {w W : World} {b mb : Nat} {s : Nc.St} {v : Value} {m : Nc.Mv} (h : InRound w b s v mb m W) (j : Nat) (x : Value) (e : (stCells s)[j]? = some x) : W.cell? ⟨b, j, none⟩ = some x := by rw [Lib.cell_of_heap h.sum.1]; exact e
theorem InRound.f {w W : World} {b mb : Nat} {s : Nc.St} {v : Value} {m : Nc.Mv} (h : InRound w b s v mb m W) (j : Nat) : W.frozen? ⟨b, j, none⟩ = false := Lib.frozen_of_heap h.sum.1 j
theorem InRound.h {w W : World} {b mb : Nat} {s : Nc.St} {v : Value} {m : Nc.Mv} (h : InRound w b s v mb m W) (j : Nat) (x : Value) (e : (hdCells s)[j]? = some x) : W.cell? ⟨b + 1, j, none⟩ = some x := by rw [Lib.cell_of_heap h.sum.2.1]; exact e
theorem InRound.hf {w W : World} {b mb : Nat} {s : Nc.St} {v : Value} {m : Nc.Mv} (h : InRound w b s v mb m W) (j : Nat) : W.frozen? ⟨b + 1, j, none⟩ = false := Lib.frozen_of_heap h.sum.2.1 j
theorem InRound.m {w W : World} {b mb : Nat} {s : Nc.St} {v : Value} {m : Nc.Mv} (h : InRound w b s v mb m W) (j : Nat) (x : Value) (e : (#[Value.int .i64 m.k, .int .i64 m.x, .int .i64 m.y] : Array Value)[j]? = some x) : W.cell? ⟨mb, j, none⟩ = some x := by rw [Lib.cell_of_heap h.mv]; exact e
theorem InRound.s0 {w W : World} {b mb : Nat} {s : Nc.St} {v : Value} {m : Nc.Mv} (h : InRound w b s v mb m W) : W.cell? ⟨b, 0, none⟩ = some (.int .i64 s.rapid) := h.s 0 _ rfl
theorem InRound.s1 {w W : World} {b mb : Nat} {s : Nc.St} {v : Value} {m : Nc.Mv} (h : InRound w b s v mb m W) : W.cell? ⟨b, 1, none⟩ = some (.int .i64 s.cut) := h.s 1 _ rfl
theorem InRound.s2 {w W : World} {b mb : Nat} {s : Nc.St} {v : Value} {m : Nc.Mv} (h : InRound w b s v mb m W) : W.cell? ⟨b, 2, none⟩ = some (.int .i64 s.pierces) := h.s 2 _ rfl
theorem InRound.s3 {w W : World} {b mb : Nat} {s : Nc.St} {v : Value} {m : Nc.Mv} (h : InRound w b s v mb m W) : W.cell? ⟨b, 3, none⟩ = some (.int .i64 s.joints) := h.s 3 _ rfl
theorem InRound.h0 {w W : World} {b mb : Nat} {s : Nc.St} {v : Value} {m : Nc.Mv} (h : InRound w b s v mb m W) : W.cell? ⟨b + 1, 0, none⟩ = some (.int .i64 s.hx) := h.h 0 _ rfl
theorem InRound.h1 {w W : World} {b mb : Nat} {s : Nc.St} {v : Value} {m : Nc.Mv} (h : InRound w b s v mb m W) : W.cell? ⟨b + 1, 1, none⟩ = some (.int .i64 s.hy) := h.h 1 _ rfl
theorem InRound.m0 {w W : World} {b mb : Nat} {s : Nc.St} {v : Value} {m : Nc.Mv} (h : InRound w b s v mb m W) : W.cell? ⟨mb, 0, none⟩ = some (.int .i64 m.k) := h.m 0 _ rfl
theorem InRound.m1 {w W : World} {b mb : Nat} {s : Nc.St} {v : Value} {m : Nc.Mv} (h : InRound w b s v mb m W) : W.cell? ⟨mb, 1, none⟩ = some (.int .i64 m.x) := h.m 1 _ rfl
theorem InRound.m2 {w W : World} {b mb : Nat} {s : Nc.St} {v : Value} {m : Nc.Mv} (h : InRound w b s v mb m W) : W.cell? ⟨mb, 2, none⟩ = some (.int .i64 m.y) := h.m 2 _ rfl
theorem InRound.start {w wr : World} {b : Nat} {s : Nc.St} {v : Value} (m : Nc.Mv) (hs : SumAt (b + 2) b (b + 1) s v wr) (hr : wr.heap[w.heap.size]? = some zero9) (hb : Below w.heap.size w wr) (hlt : w.heap.size < b) :
    InRound w b s v wr.heap.size m (wr.alloc (.cells #[.int .i64 m.k, .int .i64 m.x, .int .i64 m.y] 38)) := by
  obtain ⟨h1, h2, h3⟩ := hs
  have := block_lt h2
  exact ⟨⟨block_old h1, block_old h2, h3.alloc _⟩, block_old hr, heap_alloc_new wr _, hb.alloc hb.size _, hlt, by omega⟩

set_option maxRecDepth 100000 in
set_option maxHeartbeats 2000000 in
theorem summary_any (l : List Nc.Mv) (A : Option Addr) (c : Nat) (w : World) (hr : Row w A (l.flatMap mvCells)) (hv : Nc.valid l = true) :
    Calls Tryz.prog 10 #[.slice A l.length c] w fun e w' => e = .returned (.tuple #[statV (Nc.run l), .int .i64 0]) ∧ Below w.heap.size w w' := by
  have hlen := Nc.valid_len hv
  have HV := Lib.hid (fun W h => valid_any l A c W h (by omega))
  rw [hv] at HV
  have HOK := Lib.hid (fun m (hm : m ∈ l) => Nc.valid_ok hv hm)
  have HR := Lib.hid hr
  clear hr hv
  have hr0 : Row (w.alloc (.cells #[.int .i64 0, .int .i64 0, .int .i64 0, .int .i64 0, .int .i64 0, .int .i64 0, .int .i64 0, .int .i64 0, .bool false] 42)) A (l.flatMap mvCells) := HR.out.below ((Below.refl _ _).alloc (Nat.le_refl _) _)
  have HR0 := Lib.hid hr0
  clear hr0
  go_enter Tryz.func10, Tryz.ntmps10
  go_wp2_with fail
  refine (HV.out _ HR0.out).mono ?_
  rintro e w1 ⟨rfl, hb1⟩
  go_wp2
  have hb1' : Below w.heap.size w w1 := ((Below.refl _ _).alloc (Nat.le_refl _) _).trans (hb1.mono (by simp))
  have hres : w1.heap[w.heap.size]? = some (.cells #[.int .i64 0, .int .i64 0, .int .i64 0, .int .i64 0, .int .i64 0, .int .i64 0, .int .i64 0, .int .i64 0, .bool false] 42 (0, 0)) := (hb1.block _ (by simp)).trans (heap_alloc_new w _)
  have hrb : w.heap.size < w1.heap.size := block_lt hres
  have hst0 : SumAt (w1.heap.size + 2) w1.heap.size (w1.heap.size + 1) .init (.slice none 0 0) ((w1.alloc (.cells #[.int .i64 0, .int .i64 0, .int .i64 0, .int .i64 0, .int .i64 0, .int .i64 0, .int .i64 0, .int .i64 0, .bool false] 42)).alloc (.cells #[.int .i64 0, .int .i64 0] 36)) :=
    ⟨block_old (heap_alloc_new w1 _), heap_alloc_new2 _ _ (by simp), World.ownsRow_nil _ _ _ _⟩
  have hres0 := block_old (o' := .cells #[.int .i64 0, .int .i64 0] 36) (block_old (o' := .cells #[.int .i64 0, .int .i64 0, .int .i64 0, .int .i64 0, .int .i64 0, .int .i64 0, .int .i64 0, .int .i64 0, .bool false] 42) hres)
  have hbb0 := (hb1'.alloc hb1'.size (.cells #[.int .i64 0, .int .i64 0, .int .i64 0, .int .i64 0, .int .i64 0, .int .i64 0, .int .i64 0, .int .i64 0, .bool false] 42)).alloc (by simp; omega) (.cells #[.int .i64 0, .int .i64 0] 36)
  clear hb1 hres hb1'
  generalize hbq : w1.heap.size = b at *
  have HW := Lib.hid hbq
  clear hbq
  generalize ((w1.alloc (.cells #[.int .i64 0, .int .i64 0, .int .i64 0, .int .i64 0, .int .i64 0, .int .i64 0, .int .i64 0, .int .i64 0, .bool false] 42)).alloc (.cells #[.int .i64 0, .int .i64 0] 36)) = w2 at *
  go_loopw [6, 17] (fun v t wr => ∃ k : Nat, k ≤ l.length ∧ t = .int .i64 k ∧ SumAt (b + 2) b (b + 1) (Nc.run (l.take k)) v wr ∧ wr.heap[w.heap.size]? = some zero9 ∧ Below w.heap.size w wr) (fun _ t _ => l.length - (intOf t).toNat)
  case atStart => exact ⟨0, Nat.zero_le _, rfl, hst0, hres0, hbb0⟩
  case round =>
    obtain ⟨k, hk, rfl, hS, hres, hbel⟩ := hrel
    clear hst0 hres0 hbb0
    by_cases hlt : k < l.length
    · obtain ⟨g, off, rfl, hg, ca⟩ := row_get mv_len (by decide) HR.out (by omega)
      have a0 := (hbel.cell (p := ⟨g, _, none⟩) hg).trans (ca k hlt 0 (by decide))
      have a1 := (hbel.cell (p := ⟨g, _, none⟩) hg).trans (ca k hlt 1 (by decide))
      have a2 := (hbel.cell (p := ⟨g, _, none⟩) hg).trans (ca k hlt 2 (by decide))
      have hok := HOK.out l[k] (List.getElem_mem hlt)
      have hts := Lib.hid (run_take l k hlt)
      have hfi := Nc.fine_run (p := l.take k) fun m hm => HOK.out m (List.mem_of_mem_take hm)
      have hkl : (l.take k).length ≤ 2000 := by simp; omega
      clear ca
      generalize l[k] = m at *
      generalize Nc.run (l.take k) = s at *
      generalize (l.take k).length = n at *
      obtain ⟨mk, mx, my⟩ := m
      simp only [mvCells, List.getElem?_cons_zero, List.getElem?_cons_succ, Nat.add_zero] at a0 a1 a2
      have hbnd := Nc.ok_bound hok
      simp only at hbnd
      obtain ⟨f1, f2, f3, f4, f5, f6, f7, f8⟩ := hfi
      have F8 := Lib.hid f8
      have hkd := Nc.ok_kind hok
      simp only at hkd
      have hIR := InRound.start ⟨mk, mx, my⟩ hS hres hbel hrb
      have hbz := block_lt hS.1
      have hhz := block_lt hS.2.1
      have HI := Lib.hid hIR
      clear f8 hok hIR hS hres hbel
      rcases (show mk = 1 ∨ mk = 2 ∨ mk = 3 ∨ mk = 4 ∨ mk = 5 ∨ mk = 6 by omega) with rfl | rfl | rfl | rfl | rfl | rfl
      · have HSUB := Lib.hid (fun W => sub_any mx my s.hx s.hy W (by omega) (by omega) (by omega) (by omega))
        have HNRM := Lib.hid (fun W => maxNorm_any (mx - s.hx) (my - s.hy) W (by omega) (by omega))
        have hnb := Nc.norm_bound (x := mx - s.hx) (y := my - s.hy) (by omega) (by omega)
        have hstep : Hid (Nc.step s ⟨1, mx, my⟩ = ⟨s.rapid + Nc.norm (mx - s.hx) (my - s.hy), s.cut, s.pierces, s.joints, mx, my, s.pts⟩) := Lib.hid rfl
        obtain ⟨sr, sc, sp, sj, sx, sy, spt⟩ := s
        simp only at HSUB HNRM hnb hstep f1 f2 f3 f4 f5 f6 f7
        generalize Nc.norm (mx - sx) (my - sy) = nm at *
        have n1 : IntKind.i64.wrap (sr + nm) = sr + nm := by rw [IntKind.wrap_i64]; omega
        have N1 := Lib.hid n1
        clear n1
        go_wp2
        generalize wr.alloc (.cells #[.int .i64 1, .int .i64 mx, .int .i64 my] 38) = W0 at *
        generalize hmb : wr.heap.size = mb at *
        have HMB := Lib.hid hmb
        clear hmb
        have q0 := HI.out.m0
        have q1 := HI.out.m1
        have q2 := HI.out.m2
        have d0 := HI.out.h0
        have d1 := HI.out.h1
        have c0 := HI.out.s0
        have hbz0 := block_lt HI.out.sum.1
        simp only at q0 q1 q2 d0 d1 c0
        go_cut [17] (fun t wc => t = .int .i64 (k : Int) ∧ Hid (InRound w b ⟨sr + nm, sc, sp, sj, sx, sy, spt⟩ u6 mb ⟨1, mx, my⟩ wc))
        case first =>
          have n1 := N1.out
          go_region_with (first
            | (go_at_call 21; refine (HSUB.out _).mono ?_; rintro e w4 ⟨rfl, hb4⟩; have c4 := (hb4.cell (p := ⟨b, 0, none⟩) hbz0).trans c0)
            | (go_at_call 20; refine (HNRM.out _).mono ?_; rintro e w5 ⟨rfl, hb5⟩; have HI5 := Lib.hid ((HI.out.below (below_drew (Below.refl _ _))).below (Below.trans hb4 (hb5.mono hb4.size))); have c5 := HI5.out.s0; have f5 := HI5.out.f 0))
          all_goals (
            go_wp2_with fail
            go_meet
            exact ⟨rfl, Lib.hid (HI5.out.set 0 _ rfl rfl rfl)⟩)
        case rest =>
          obtain ⟨rfl, HIC⟩ := hcut
          have q0 := HIC.out.m1
          have q1 := HIC.out.m2
          have d0 := HIC.out.h0
          have d1 := HIC.out.h1
          have g0 := HIC.out.hf 0
          have g1 := HIC.out.hf 1
          simp only at q0 q1 d0 d1
          clear HI
          have HIE := Lib.hid (HIC.out.head mx my)
          clear HIC
          go_wp2
          generalize ((wc.setCell ⟨b + 1, 0, none⟩ (.int .i64 mx)).setCell ⟨b + 1, 1, none⟩ (.int .i64 my)) = W9 at *
          go_roundw
          case rel => exact ⟨k + 1, by omega, by go_num, by rw [hts.out, hstep.out]; exact HIE.out.sum, HIE.out.res, HIE.out.bel⟩
          case measure => simp [intOf]; omega
      · have HSUB := Lib.hid (fun W => sub_any mx my s.hx s.hy W (by omega) (by omega) (by omega) (by omega))
        have HNRM := Lib.hid (fun W => maxNorm_any (mx - s.hx) (my - s.hy) W (by omega) (by omega))
        have hnb := Nc.norm_bound (x := mx - s.hx) (y := my - s.hy) (by omega) (by omega)
        have hstep : Hid (Nc.step s ⟨2, mx, my⟩ = ⟨s.rapid, s.cut + Nc.norm (mx - s.hx) (my - s.hy), s.pierces, s.joints, mx, my, s.pts ++ [(s.hx, s.hy), (mx, my)]⟩) := Lib.hid rfl
        obtain ⟨sr, sc, sp, sj, sx, sy, spt⟩ := s
        simp only at HSUB HNRM hnb hstep f1 f2 f3 f4 f5 f6 f7
        generalize Nc.norm (mx - sx) (my - sy) = nm at *
        have n1 : IntKind.i64.wrap (sc + nm) = sc + nm := by rw [IntKind.wrap_i64]; omega
        have N1 := Lib.hid n1
        clear n1
        go_wp2
        generalize wr.alloc (.cells #[.int .i64 2, .int .i64 mx, .int .i64 my] 38) = W0 at *
        generalize hmb : wr.heap.size = mb at *
        have HMB := Lib.hid hmb
        clear hmb
        have q0 := HI.out.m0
        have q1 := HI.out.m1
        have q2 := HI.out.m2
        have d0 := HI.out.h0
        have d1 := HI.out.h1
        have c0 := HI.out.s1
        have hbz0 := block_lt HI.out.sum.1
        simp only at q0 q1 q2 d0 d1 c0
        go_cut [17] (fun t wc => t = .int .i64 (k : Int) ∧ Hid (InRound w b ⟨sr, sc + nm, sp, sj, sx, sy, spt⟩ u6 mb ⟨2, mx, my⟩ wc))
        case first =>
          have n1 := N1.out
          go_region_with (first
            | (go_at_call 21; refine (HSUB.out _).mono ?_; rintro e w4 ⟨rfl, hb4⟩; have c4 := (hb4.cell (p := ⟨b, 1, none⟩) hbz0).trans c0)
            | (go_at_call 20; refine (HNRM.out _).mono ?_; rintro e w5 ⟨rfl, hb5⟩; have HI5 := Lib.hid ((HI.out.below (below_drew (Below.refl _ _))).below (Below.trans hb4 (hb5.mono hb4.size))); have c5 := HI5.out.s1; have f5 := HI5.out.f 1))
          all_goals (
            go_wp2_with fail
            go_meet
            exact ⟨rfl, Lib.hid (HI5.out.set 1 _ rfl rfl rfl)⟩)
        case rest =>
          obtain ⟨rfl, HIC⟩ := hcut
          have q0 := HIC.out.m1
          have q1 := HIC.out.m2
          have d0 := HIC.out.h0
          have d1 := HIC.out.h1
          simp only at q0 q1 d0 d1
          clear HI
          have hbw := Lib.hid (block_lt HIC.out.mv)
          have hle := Lib.hid HIC.out.le
          obtain ⟨i0, ia, ib, ic, id⟩ := info_parts vec_info
          go_wp2_with (at_builtin; refine wpList_append_own _ rfl _ _ 67 rfl (b + 2) 36 i0 _ 2 16 Tryz.underlying67 ia ib ic id rfl (by omega) _ _ _ rfl (HIC.out.sum.2.2.alloc _) ⟨wc.heap.size, 0, none⟩ 2 2 [.int .i64 sx, .int .i64 sy, .int .i64 mx, .int .i64 my] rfl rfl ?c1 ?c2 ?c3 ?c4 ?c5 ?_)
          case c1 => exact cells_new4 wc _ _ _ _ _
          case c2 => intro u hu; simp at hu; rcases hu with rfl | rfl | rfl | rfl <;> rfl
          case c3 => unfold maxLen; omega
          case c4 => omega
          case c5 => have h1 := hbw.out; have h2 := hle.out; simp; omega
          · intro v' w3 hown3 hg3 _
            have HI3 := Lib.hid (InRound.grown (s' := ⟨sr, sc + nm, sp, sj, sx, sy, spt ++ [(sx, sy), (mx, my)]⟩) (HIC.out.below ((Below.refl _ _).alloc (Nat.le_refl _) (.cells #[.int .i64 sx, .int .i64 sy, .int .i64 mx, .int .i64 my] 36))) hg3 (by simpa [ptCells] using hown3) rfl rfl)
            have q0 := HI3.out.m1
            have q1 := HI3.out.m2
            have d0 := HI3.out.h0
            have d1 := HI3.out.h1
            have g0 := HI3.out.hf 0
            have g1 := HI3.out.hf 1
            simp only at q0 q1 d0 d1
            have HIE := Lib.hid (HI3.out.head mx my)
            clear HIC HI3 hown3 hg3
            go_wp2
            generalize ((w3.setCell ⟨b + 1, 0, none⟩ (.int .i64 mx)).setCell ⟨b + 1, 1, none⟩ (.int .i64 my)) = W9 at *
            go_roundw
            case rel => exact ⟨k + 1, by omega, by go_num, by rw [hts.out, hstep.out]; exact HIE.out.sum, HIE.out.res, HIE.out.bel⟩
            case measure => simp [intOf]; omega
      · have hstep : Hid (Nc.step s ⟨3, mx, my⟩ = { s with pierces := s.pierces + 1 }) := Lib.hid rfl
        have hbig : 0 ≤ s.pierces ∧ s.pierces ≤ 10000 := by omega
        obtain ⟨hbg1, hbg2⟩ := hbig
        have c0 := HI.out.s2
        have g0 := HI.out.f 2
        have hie := HI.out.set (s' := { s with pierces := s.pierces + 1 }) 2 (.int .i64 (s.pierces + 1)) rfl rfl rfl
        rw [World.setCell_alloc_past (hn := hbz)] at hie
        have HIE := Lib.hid hie
        clear hie
        have hbz0 := block_lt HI.out.sum.1
        clear HI
        go_wp2
        generalize (wr.setCell ⟨b, 2, none⟩ (.int .i64 (s.pierces + 1))).alloc (.cells #[.int .i64 3, .int .i64 mx, .int .i64 my] 38) = W9 at *
        go_roundw
        case rel => exact ⟨k + 1, by omega, by go_num, by rw [hts.out, hstep.out]; exact HIE.out.sum, HIE.out.res, HIE.out.bel⟩
        case measure => simp [intOf]; omega
      · have hstep : Hid (Nc.step s ⟨4, mx, my⟩ = s) := Lib.hid rfl
        have HIE := Lib.hid HI.out
        clear HI
        go_wp2
        go_roundw
        case rel => exact ⟨k + 1, by omega, by go_num, by rw [hts.out, hstep.out]; exact HIE.out.sum, HIE.out.res, HIE.out.bel⟩
        case measure => simp [intOf]; omega
      · have hstep : Hid (Nc.step s ⟨5, mx, my⟩ = { s with joints := s.joints + 1 }) := Lib.hid rfl
        have hbig : 0 ≤ s.joints ∧ s.joints ≤ 10000 := by omega
        obtain ⟨hbg1, hbg2⟩ := hbig
        have c0 := HI.out.s3
        have g0 := HI.out.f 3
        have hie := HI.out.set (s' := { s with joints := s.joints + 1 }) 3 (.int .i64 (s.joints + 1)) rfl rfl rfl
        rw [World.setCell_alloc_past (hn := hbz)] at hie
        have HIE := Lib.hid hie
        clear hie
        have hbz0 := block_lt HI.out.sum.1
        clear HI
        go_wp2
        generalize (wr.setCell ⟨b, 3, none⟩ (.int .i64 (s.joints + 1))).alloc (.cells #[.int .i64 5, .int .i64 mx, .int .i64 my] 38) = W9 at *
        go_roundw
        case rel => exact ⟨k + 1, by omega, by go_num, by rw [hts.out, hstep.out]; exact HIE.out.sum, HIE.out.res, HIE.out.bel⟩
        case measure => simp [intOf]; omega
      · have hstep : Hid (Nc.step s ⟨6, mx, my⟩ = s) := Lib.hid rfl
        have HIE := Lib.hid HI.out
        clear HI
        go_wp2
        go_roundw
        case rel => exact ⟨k + 1, by omega, by go_num, by rw [hts.out, hstep.out]; exact HIE.out.sum, HIE.out.res, HIE.out.bel⟩
        case measure => simp [intOf]; omega
    · obtain rfl : k = l.length := by omega
      have htk := Lib.hid (show l.take l.length = l from List.take_length)
      rw [htk.out] at hS
      have hfi := Nc.fine_run (p := l) HOK.out
      obtain ⟨f1, f2, f3, f4, f5, f6, f7, f8⟩ := hfi
      generalize hrun : Nc.run l = s at *
      have HRUN := Lib.hid hrun
      clear hrun
      have hpl : s.pts.length ≤ 4000 := by omega
      obtain ⟨A6, c6, rfl, hcc⟩ := own_shape hS.2.2
      have HP := Lib.hid (Row.of_own hS.2.2)
      obtain ⟨hB, hH, _⟩ := hS
      have HB := Lib.hid hB
      have HRS := Lib.hid hres
      have HBE := Lib.hid hbel
      have hbz := block_lt hB
      clear f8 hB hH hres hbel
      by_cases h0 : s.pts.length = 0
      · have hd0 : decide (s.pts.length = 0) = true := by simp [h0]
        have hbx : Nc.box s.pts = ⟨0, 0, 0, 0⟩ := by rw [List.eq_nil_of_length_eq_zero h0]; rfl
        have hpv : Hid (statV s = .agg #[.int .i64 s.rapid, .int .i64 s.cut, .int .i64 s.pierces, .int .i64 s.joints, .int .i64 0, .int .i64 0, .int .i64 0, .int .i64 0, .bool true]) := Lib.hid (by unfold statV; rw [hbx, hd0])
        have HBX := Lib.hid (fun W => boxOf_nil W A6 c6)
        rw [h0]
        clear hd0 hbx h0 hpl hcc
        go_wp2_with fail
        refine (HBX.out _).mono ?_
        rintro e w5 ⟨rfl, hb5⟩
        have hB5 := block_old (o' := .cells #[.int .i64 0, .int .i64 0, .int .i64 0, .int .i64 0] 40) ((hb5.block b hbz).trans HB.out)
        have hR5 := block_old (o' := .cells #[.int .i64 0, .int .i64 0, .int .i64 0, .int .i64 0] 40) ((hb5.block w.heap.size (by omega)).trans HRS.out)
        have hbe5 := (HBE.out.trans (hb5.mono HBE.out.size)).alloc (Nat.le_trans HBE.out.size hb5.size) (.cells #[.int .i64 0, .int .i64 0, .int .i64 0, .int .i64 0] 40)
        have hX5 := heap_alloc_new w5 (.cells #[.int .i64 0, .int .i64 0, .int .i64 0, .int .i64 0] 40)
        have hbx := Nat.lt_of_lt_of_le hbz hb5.size
        have HB5 := Lib.hid hB5
        have HR5 := Lib.hid hR5
        have HE5 := Lib.hid hbe5
        have HX5 := Lib.hid hX5
        clear hB5 hR5 hbe5 hb5 hX5
        simp only [boxV]
        go_upto_region 23 with (fail)
        generalize w5.alloc (.cells #[.int .i64 0, .int .i64 0, .int .i64 0, .int .i64 0] 40) = W6 at *
        generalize hxb : w5.heap.size = xb at *
        have HXB := Lib.hid hxb
        clear hxb
        have x0 : W6.cell? ⟨xb, 0, none⟩ = some (.int .i64 0) := by rw [Lib.cell_of_heap HX5.out]; rfl
        have x1 : W6.cell? ⟨xb, 1, none⟩ = some (.int .i64 0) := by rw [Lib.cell_of_heap HX5.out]; rfl
        have x2 : W6.cell? ⟨xb, 2, none⟩ = some (.int .i64 0) := by rw [Lib.cell_of_heap HX5.out]; rfl
        have x3 : W6.cell? ⟨xb, 3, none⟩ = some (.int .i64 0) := by rw [Lib.cell_of_heap HX5.out]; rfl
        have y4 : W6.cell? ⟨b, 4, none⟩ = some (.int .i64 0) := by rw [Lib.cell_of_heap HB5.out]; rfl
        have y5 : W6.cell? ⟨b, 5, none⟩ = some (.int .i64 0) := by rw [Lib.cell_of_heap HB5.out]; rfl
        have y6 : W6.cell? ⟨b, 6, none⟩ = some (.int .i64 0) := by rw [Lib.cell_of_heap HB5.out]; rfl
        have y7 : W6.cell? ⟨b, 7, none⟩ = some (.int .i64 0) := by rw [Lib.cell_of_heap HB5.out]; rfl
        have y8 : W6.cell? ⟨b, 8, none⟩ = some (.bool false) := by rw [Lib.cell_of_heap HB5.out]; rfl
        have z4 : W6.frozen? ⟨b, 4, none⟩ = false := Lib.frozen_of_heap HB5.out 4
        have z5 : W6.frozen? ⟨b, 5, none⟩ = false := Lib.frozen_of_heap HB5.out 5
        have z6 : W6.frozen? ⟨b, 6, none⟩ = false := Lib.frozen_of_heap HB5.out 6
        have z7 : W6.frozen? ⟨b, 7, none⟩ = false := Lib.frozen_of_heap HB5.out 7
        have z8 : W6.frozen? ⟨b, 8, none⟩ = false := Lib.frozen_of_heap HB5.out 8
        have hbz6 := block_lt HB5.out
        have hxz6 := block_lt HX5.out
        go_upto_region 24 with (fail)
        have hB64 : (W6.setCell ⟨b, 4, none⟩ (.int .i64 0)).heap[b]? = some (.cells #[.int .i64 s.rapid, .int .i64 s.cut, .int .i64 s.pierces, .int .i64 s.joints, .int .i64 0, .int .i64 0, .int .i64 0, .int .i64 0, .bool false] 42 (0, 0)) := block_set HB5.out 4 (.int .i64 0)
        have hB65 : ((W6.setCell ⟨b, 4, none⟩ (.int .i64 0)).setCell ⟨b, 5, none⟩ (.int .i64 0)).heap[b]? = some (.cells #[.int .i64 s.rapid, .int .i64 s.cut, .int .i64 s.pierces, .int .i64 s.joints, .int .i64 0, .int .i64 0, .int .i64 0, .int .i64 0, .bool false] 42 (0, 0)) := block_set hB64 5 (.int .i64 0)
        have hB66 : (((W6.setCell ⟨b, 4, none⟩ (.int .i64 0)).setCell ⟨b, 5, none⟩ (.int .i64 0)).setCell ⟨b, 6, none⟩ (.int .i64 0)).heap[b]? = some (.cells #[.int .i64 s.rapid, .int .i64 s.cut, .int .i64 s.pierces, .int .i64 s.joints, .int .i64 0, .int .i64 0, .int .i64 0, .int .i64 0, .bool false] 42 (0, 0)) := block_set hB65 6 (.int .i64 0)
        have hB67 : ((((W6.setCell ⟨b, 4, none⟩ (.int .i64 0)).setCell ⟨b, 5, none⟩ (.int .i64 0)).setCell ⟨b, 6, none⟩ (.int .i64 0)).setCell ⟨b, 7, none⟩ (.int .i64 0)).heap[b]? = some (.cells #[.int .i64 s.rapid, .int .i64 s.cut, .int .i64 s.pierces, .int .i64 s.joints, .int .i64 0, .int .i64 0, .int .i64 0, .int .i64 0, .bool false] 42 (0, 0)) := block_set hB66 7 (.int .i64 0)
        have hB68 : (((((W6.setCell ⟨b, 4, none⟩ (.int .i64 0)).setCell ⟨b, 5, none⟩ (.int .i64 0)).setCell ⟨b, 6, none⟩ (.int .i64 0)).setCell ⟨b, 7, none⟩ (.int .i64 0)).setCell ⟨b, 8, none⟩ (.bool true)).heap[b]? = some (.cells #[.int .i64 s.rapid, .int .i64 s.cut, .int .i64 s.pierces, .int .i64 s.joints, .int .i64 0, .int .i64 0, .int .i64 0, .int .i64 0, .bool true] 42 (0, 0)) := block_set hB67 8 (.bool true)
        have hB7 := hB68
        have hR7 := ((block_other ((((W6.setCell ⟨b, 4, none⟩ (.int .i64 0)).setCell ⟨b, 5, none⟩ (.int .i64 0)).setCell ⟨b, 6, none⟩ (.int .i64 0)).setCell ⟨b, 7, none⟩ (.int .i64 0)) b 8 (.bool true) (by omega)).trans ((block_other (((W6.setCell ⟨b, 4, none⟩ (.int .i64 0)).setCell ⟨b, 5, none⟩ (.int .i64 0)).setCell ⟨b, 6, none⟩ (.int .i64 0)) b 7 (.int .i64 0) (by omega)).trans ((block_other ((W6.setCell ⟨b, 4, none⟩ (.int .i64 0)).setCell ⟨b, 5, none⟩ (.int .i64 0)) b 6 (.int .i64 0) (by omega)).trans ((block_other (W6.setCell ⟨b, 4, none⟩ (.int .i64 0)) b 5 (.int .i64 0) (by omega)).trans ((block_other W6 b 4 (.int .i64 0) (by omega)).trans HR5.out)))))
        have hE7 := (((((HE5.out.setCell (p := ⟨b, 4, none⟩) (by simp; omega) (.int .i64 0)).setCell (p := ⟨b, 5, none⟩) (by simp; omega) (.int .i64 0)).setCell (p := ⟨b, 6, none⟩) (by simp; omega) (.int .i64 0)).setCell (p := ⟨b, 7, none⟩) (by simp; omega) (.int .i64 0)).setCell (p := ⟨b, 8, none⟩) (by simp; omega) (.bool true))
        generalize (((((W6.setCell ⟨b, 4, none⟩ (.int .i64 0)).setCell ⟨b, 5, none⟩ (.int .i64 0)).setCell ⟨b, 6, none⟩ (.int .i64 0)).setCell ⟨b, 7, none⟩ (.int .i64 0)).setCell ⟨b, 8, none⟩ (.bool true)) = W7 at *
        have HB7 := Lib.hid hB7
        have HR7 := Lib.hid hR7
        have HE7 := Lib.hid hE7
        clear hB7 hR7 hE7 hB64 hB65 hB66 hB67 hB68 x0 x1 x2 x3 y4 y5 y6 y7 y8 z4 z5 z6 z7 z8
        have c0 : W7.cell? ⟨b, 0, none⟩ = some (.int .i64 s.rapid) := by rw [Lib.cell_of_heap HB7.out]; rfl
        have c1 : W7.cell? ⟨b, 1, none⟩ = some (.int .i64 s.cut) := by rw [Lib.cell_of_heap HB7.out]; rfl
        have c2 : W7.cell? ⟨b, 2, none⟩ = some (.int .i64 s.pierces) := by rw [Lib.cell_of_heap HB7.out]; rfl
        have c3 : W7.cell? ⟨b, 3, none⟩ = some (.int .i64 s.joints) := by rw [Lib.cell_of_heap HB7.out]; rfl
        have c4 : W7.cell? ⟨b, 4, none⟩ = some (.int .i64 0) := by rw [Lib.cell_of_heap HB7.out]; rfl
        have c5 : W7.cell? ⟨b, 5, none⟩ = some (.int .i64 0) := by rw [Lib.cell_of_heap HB7.out]; rfl
        have c6 : W7.cell? ⟨b, 6, none⟩ = some (.int .i64 0) := by rw [Lib.cell_of_heap HB7.out]; rfl
        have c7 : W7.cell? ⟨b, 7, none⟩ = some (.int .i64 0) := by rw [Lib.cell_of_heap HB7.out]; rfl
        have c8 : W7.cell? ⟨b, 8, none⟩ = some (.bool true) := by rw [Lib.cell_of_heap HB7.out]; rfl
        have r0 : W7.cell? ⟨w.heap.size, 0, none⟩ = some (.int .i64 0) := by rw [Lib.cell_of_heap HR7.out]; rfl
        have r1 : W7.cell? ⟨w.heap.size, 1, none⟩ = some (.int .i64 0) := by rw [Lib.cell_of_heap HR7.out]; rfl
        have r2 : W7.cell? ⟨w.heap.size, 2, none⟩ = some (.int .i64 0) := by rw [Lib.cell_of_heap HR7.out]; rfl
        have r3 : W7.cell? ⟨w.heap.size, 3, none⟩ = some (.int .i64 0) := by rw [Lib.cell_of_heap HR7.out]; rfl
        have r4 : W7.cell? ⟨w.heap.size, 4, none⟩ = some (.int .i64 0) := by rw [Lib.cell_of_heap HR7.out]; rfl
        have r5 : W7.cell? ⟨w.heap.size, 5, none⟩ = some (.int .i64 0) := by rw [Lib.cell_of_heap HR7.out]; rfl
        have r6 : W7.cell? ⟨w.heap.size, 6, none⟩ = some (.int .i64 0) := by rw [Lib.cell_of_heap HR7.out]; rfl
        have r7 : W7.cell? ⟨w.heap.size, 7, none⟩ = some (.int .i64 0) := by rw [Lib.cell_of_heap HR7.out]; rfl
        have r8 : W7.cell? ⟨w.heap.size, 8, none⟩ = some (.bool false) := by rw [Lib.cell_of_heap HR7.out]; rfl
        have g0 : W7.frozen? ⟨w.heap.size, 0, none⟩ = false := Lib.frozen_of_heap HR7.out 0
        have g1 : W7.frozen? ⟨w.heap.size, 1, none⟩ = false := Lib.frozen_of_heap HR7.out 1
        have g2 : W7.frozen? ⟨w.heap.size, 2, none⟩ = false := Lib.frozen_of_heap HR7.out 2
        have g3 : W7.frozen? ⟨w.heap.size, 3, none⟩ = false := Lib.frozen_of_heap HR7.out 3
        have g4 : W7.frozen? ⟨w.heap.size, 4, none⟩ = false := Lib.frozen_of_heap HR7.out 4
        have g5 : W7.frozen? ⟨w.heap.size, 5, none⟩ = false := Lib.frozen_of_heap HR7.out 5
        have g6 : W7.frozen? ⟨w.heap.size, 6, none⟩ = false := Lib.frozen_of_heap HR7.out 6
        have g7 : W7.frozen? ⟨w.heap.size, 7, none⟩ = false := Lib.frozen_of_heap HR7.out 7
        have g8 : W7.frozen? ⟨w.heap.size, 8, none⟩ = false := Lib.frozen_of_heap HR7.out 8
        have hrz7 := block_lt HR7.out
        have hbz7 := block_lt HB7.out
        go_wp2
        have hR70 : (W7.setCell ⟨w.heap.size, 0, none⟩ (.int .i64 s.rapid)).heap[w.heap.size]? = some (.cells #[.int .i64 s.rapid, .int .i64 0, .int .i64 0, .int .i64 0, .int .i64 0, .int .i64 0, .int .i64 0, .int .i64 0, .bool false] 42 (0, 0)) := block_set HR7.out 0 (.int .i64 s.rapid)
        have hR71 : ((W7.setCell ⟨w.heap.size, 0, none⟩ (.int .i64 s.rapid)).setCell ⟨w.heap.size, 1, none⟩ (.int .i64 s.cut)).heap[w.heap.size]? = some (.cells #[.int .i64 s.rapid, .int .i64 s.cut, .int .i64 0, .int .i64 0, .int .i64 0, .int .i64 0, .int .i64 0, .int .i64 0, .bool false] 42 (0, 0)) := block_set hR70 1 (.int .i64 s.cut)
        have hR72 : (((W7.setCell ⟨w.heap.size, 0, none⟩ (.int .i64 s.rapid)).setCell ⟨w.heap.size, 1, none⟩ (.int .i64 s.cut)).setCell ⟨w.heap.size, 2, none⟩ (.int .i64 s.pierces)).heap[w.heap.size]? = some (.cells #[.int .i64 s.rapid, .int .i64 s.cut, .int .i64 s.pierces, .int .i64 0, .int .i64 0, .int .i64 0, .int .i64 0, .int .i64 0, .bool false] 42 (0, 0)) := block_set hR71 2 (.int .i64 s.pierces)
        have hR73 : ((((W7.setCell ⟨w.heap.size, 0, none⟩ (.int .i64 s.rapid)).setCell ⟨w.heap.size, 1, none⟩ (.int .i64 s.cut)).setCell ⟨w.heap.size, 2, none⟩ (.int .i64 s.pierces)).setCell ⟨w.heap.size, 3, none⟩ (.int .i64 s.joints)).heap[w.heap.size]? = some (.cells #[.int .i64 s.rapid, .int .i64 s.cut, .int .i64 s.pierces, .int .i64 s.joints, .int .i64 0, .int .i64 0, .int .i64 0, .int .i64 0, .bool false] 42 (0, 0)) := block_set hR72 3 (.int .i64 s.joints)
        have hR74 : (((((W7.setCell ⟨w.heap.size, 0, none⟩ (.int .i64 s.rapid)).setCell ⟨w.heap.size, 1, none⟩ (.int .i64 s.cut)).setCell ⟨w.heap.size, 2, none⟩ (.int .i64 s.pierces)).setCell ⟨w.heap.size, 3, none⟩ (.int .i64 s.joints)).setCell ⟨w.heap.size, 4, none⟩ (.int .i64 0)).heap[w.heap.size]? = some (.cells #[.int .i64 s.rapid, .int .i64 s.cut, .int .i64 s.pierces, .int .i64 s.joints, .int .i64 0, .int .i64 0, .int .i64 0, .int .i64 0, .bool false] 42 (0, 0)) := block_set hR73 4 (.int .i64 0)
        have hR75 : ((((((W7.setCell ⟨w.heap.size, 0, none⟩ (.int .i64 s.rapid)).setCell ⟨w.heap.size, 1, none⟩ (.int .i64 s.cut)).setCell ⟨w.heap.size, 2, none⟩ (.int .i64 s.pierces)).setCell ⟨w.heap.size, 3, none⟩ (.int .i64 s.joints)).setCell ⟨w.heap.size, 4, none⟩ (.int .i64 0)).setCell ⟨w.heap.size, 5, none⟩ (.int .i64 0)).heap[w.heap.size]? = some (.cells #[.int .i64 s.rapid, .int .i64 s.cut, .int .i64 s.pierces, .int .i64 s.joints, .int .i64 0, .int .i64 0, .int .i64 0, .int .i64 0, .bool false] 42 (0, 0)) := block_set hR74 5 (.int .i64 0)
        have hR76 : (((((((W7.setCell ⟨w.heap.size, 0, none⟩ (.int .i64 s.rapid)).setCell ⟨w.heap.size, 1, none⟩ (.int .i64 s.cut)).setCell ⟨w.heap.size, 2, none⟩ (.int .i64 s.pierces)).setCell ⟨w.heap.size, 3, none⟩ (.int .i64 s.joints)).setCell ⟨w.heap.size, 4, none⟩ (.int .i64 0)).setCell ⟨w.heap.size, 5, none⟩ (.int .i64 0)).setCell ⟨w.heap.size, 6, none⟩ (.int .i64 0)).heap[w.heap.size]? = some (.cells #[.int .i64 s.rapid, .int .i64 s.cut, .int .i64 s.pierces, .int .i64 s.joints, .int .i64 0, .int .i64 0, .int .i64 0, .int .i64 0, .bool false] 42 (0, 0)) := block_set hR75 6 (.int .i64 0)
        have hR77 : ((((((((W7.setCell ⟨w.heap.size, 0, none⟩ (.int .i64 s.rapid)).setCell ⟨w.heap.size, 1, none⟩ (.int .i64 s.cut)).setCell ⟨w.heap.size, 2, none⟩ (.int .i64 s.pierces)).setCell ⟨w.heap.size, 3, none⟩ (.int .i64 s.joints)).setCell ⟨w.heap.size, 4, none⟩ (.int .i64 0)).setCell ⟨w.heap.size, 5, none⟩ (.int .i64 0)).setCell ⟨w.heap.size, 6, none⟩ (.int .i64 0)).setCell ⟨w.heap.size, 7, none⟩ (.int .i64 0)).heap[w.heap.size]? = some (.cells #[.int .i64 s.rapid, .int .i64 s.cut, .int .i64 s.pierces, .int .i64 s.joints, .int .i64 0, .int .i64 0, .int .i64 0, .int .i64 0, .bool false] 42 (0, 0)) := block_set hR76 7 (.int .i64 0)
        have hR78 : (((((((((W7.setCell ⟨w.heap.size, 0, none⟩ (.int .i64 s.rapid)).setCell ⟨w.heap.size, 1, none⟩ (.int .i64 s.cut)).setCell ⟨w.heap.size, 2, none⟩ (.int .i64 s.pierces)).setCell ⟨w.heap.size, 3, none⟩ (.int .i64 s.joints)).setCell ⟨w.heap.size, 4, none⟩ (.int .i64 0)).setCell ⟨w.heap.size, 5, none⟩ (.int .i64 0)).setCell ⟨w.heap.size, 6, none⟩ (.int .i64 0)).setCell ⟨w.heap.size, 7, none⟩ (.int .i64 0)).setCell ⟨w.heap.size, 8, none⟩ (.bool true)).heap[w.heap.size]? = some (.cells #[.int .i64 s.rapid, .int .i64 s.cut, .int .i64 s.pierces, .int .i64 s.joints, .int .i64 0, .int .i64 0, .int .i64 0, .int .i64 0, .bool true] 42 (0, 0)) := block_set hR77 8 (.bool true)
        have hR8 := hR78
        have hE8 := (((((((((HE7.out.setCell (p := ⟨w.heap.size, 0, none⟩) (by simp) (.int .i64 s.rapid)).setCell (p := ⟨w.heap.size, 1, none⟩) (by simp) (.int .i64 s.cut)).setCell (p := ⟨w.heap.size, 2, none⟩) (by simp) (.int .i64 s.pierces)).setCell (p := ⟨w.heap.size, 3, none⟩) (by simp) (.int .i64 s.joints)).setCell (p := ⟨w.heap.size, 4, none⟩) (by simp) (.int .i64 0)).setCell (p := ⟨w.heap.size, 5, none⟩) (by simp) (.int .i64 0)).setCell (p := ⟨w.heap.size, 6, none⟩) (by simp) (.int .i64 0)).setCell (p := ⟨w.heap.size, 7, none⟩) (by simp) (.int .i64 0)).setCell (p := ⟨w.heap.size, 8, none⟩) (by simp) (.bool true))
        clear hR70 hR71 hR72 hR73 hR74 hR75 hR76 hR77 hR78
        generalize (((((((((W7.setCell ⟨w.heap.size, 0, none⟩ (.int .i64 s.rapid)).setCell ⟨w.heap.size, 1, none⟩ (.int .i64 s.cut)).setCell ⟨w.heap.size, 2, none⟩ (.int .i64 s.pierces)).setCell ⟨w.heap.size, 3, none⟩ (.int .i64 s.joints)).setCell ⟨w.heap.size, 4, none⟩ (.int .i64 0)).setCell ⟨w.heap.size, 5, none⟩ (.int .i64 0)).setCell ⟨w.heap.size, 6, none⟩ (.int .i64 0)).setCell ⟨w.heap.size, 7, none⟩ (.int .i64 0)).setCell ⟨w.heap.size, 8, none⟩ (.bool true)) = W8 at *
        have s0 : W8.cell? ⟨w.heap.size, 0, none⟩ = some (.int .i64 s.rapid) := by rw [Lib.cell_of_heap hR8]; rfl
        have s1 : W8.cell? ⟨w.heap.size, 1, none⟩ = some (.int .i64 s.cut) := by rw [Lib.cell_of_heap hR8]; rfl
        have s2 : W8.cell? ⟨w.heap.size, 2, none⟩ = some (.int .i64 s.pierces) := by rw [Lib.cell_of_heap hR8]; rfl
        have s3 : W8.cell? ⟨w.heap.size, 3, none⟩ = some (.int .i64 s.joints) := by rw [Lib.cell_of_heap hR8]; rfl
        have s4 : W8.cell? ⟨w.heap.size, 4, none⟩ = some (.int .i64 0) := by rw [Lib.cell_of_heap hR8]; rfl
        have s5 : W8.cell? ⟨w.heap.size, 5, none⟩ = some (.int .i64 0) := by rw [Lib.cell_of_heap hR8]; rfl
        have s6 : W8.cell? ⟨w.heap.size, 6, none⟩ = some (.int .i64 0) := by rw [Lib.cell_of_heap hR8]; rfl
        have s7 : W8.cell? ⟨w.heap.size, 7, none⟩ = some (.int .i64 0) := by rw [Lib.cell_of_heap hR8]; rfl
        have s8 : W8.cell? ⟨w.heap.size, 8, none⟩ = some (.bool true) := by rw [Lib.cell_of_heap hR8]; rfl
        rw [HRUN.out, hpv.out]
        exact bodyPost_ret (v := .tuple #[.agg #[.int .i64 s.rapid, .int .i64 s.cut, .int .i64 s.pierces, .int .i64 s.joints, .int .i64 0, .int .i64 0, .int .i64 0, .int .i64 0, .bool true], .int .i64 0]) (by simp [results, Tryz.results10, go_sem, s0, s1, s2, s3, s4, s5, s6, s7, s8]) rfl ⟨rfl, hE8⟩
      · have hd0 : decide (s.pts.length = 0) = false := by simpa using h0
        have hpv : Hid (statV s = .agg #[.int .i64 s.rapid, .int .i64 s.cut, .int .i64 s.pierces, .int .i64 s.joints, .int .i64 (Nc.box s.pts).lx, .int .i64 (Nc.box s.pts).ly, .int .i64 (Nc.box s.pts).hx, .int .i64 (Nc.box s.pts).hy, .bool false]) := Lib.hid (by unfold statV; rw [hd0])
        have HBX := Lib.hid (fun W h => boxOf_any s.pts A6 c6 W h (by omega) (by omega))
        generalize Nc.box s.pts = bx at *
        obtain ⟨blx, bly, bhx, bhy⟩ := bx
        simp only at hpv
        clear hd0 h0 hpl hcc
        go_wp2_with fail
        refine (HBX.out _ HP.out).mono ?_
        rintro e w5 ⟨rfl, hb5⟩
        have hB5 := block_old (o' := .cells #[.int .i64 blx, .int .i64 bly, .int .i64 bhx, .int .i64 bhy] 40) ((hb5.block b hbz).trans HB.out)
        have hR5 := block_old (o' := .cells #[.int .i64 blx, .int .i64 bly, .int .i64 bhx, .int .i64 bhy] 40) ((hb5.block w.heap.size (by omega)).trans HRS.out)
        have hbe5 := (HBE.out.trans (hb5.mono HBE.out.size)).alloc (Nat.le_trans HBE.out.size hb5.size) (.cells #[.int .i64 blx, .int .i64 bly, .int .i64 bhx, .int .i64 bhy] 40)
        have hX5 := heap_alloc_new w5 (.cells #[.int .i64 blx, .int .i64 bly, .int .i64 bhx, .int .i64 bhy] 40)
        have hbx := Nat.lt_of_lt_of_le hbz hb5.size
        have HB5 := Lib.hid hB5
        have HR5 := Lib.hid hR5
        have HE5 := Lib.hid hbe5
        have HX5 := Lib.hid hX5
        clear hB5 hR5 hbe5 hb5 hX5
        simp only [boxV]
        go_upto_region 23 with (fail)
        generalize w5.alloc (.cells #[.int .i64 blx, .int .i64 bly, .int .i64 bhx, .int .i64 bhy] 40) = W6 at *
        generalize hxb : w5.heap.size = xb at *
        have HXB := Lib.hid hxb
        clear hxb
        have x0 : W6.cell? ⟨xb, 0, none⟩ = some (.int .i64 blx) := by rw [Lib.cell_of_heap HX5.out]; rfl
        have x1 : W6.cell? ⟨xb, 1, none⟩ = some (.int .i64 bly) := by rw [Lib.cell_of_heap HX5.out]; rfl
        have x2 : W6.cell? ⟨xb, 2, none⟩ = some (.int .i64 bhx) := by rw [Lib.cell_of_heap HX5.out]; rfl
        have x3 : W6.cell? ⟨xb, 3, none⟩ = some (.int .i64 bhy) := by rw [Lib.cell_of_heap HX5.out]; rfl
        have y4 : W6.cell? ⟨b, 4, none⟩ = some (.int .i64 0) := by rw [Lib.cell_of_heap HB5.out]; rfl
        have y5 : W6.cell? ⟨b, 5, none⟩ = some (.int .i64 0) := by rw [Lib.cell_of_heap HB5.out]; rfl
        have y6 : W6.cell? ⟨b, 6, none⟩ = some (.int .i64 0) := by rw [Lib.cell_of_heap HB5.out]; rfl
        have y7 : W6.cell? ⟨b, 7, none⟩ = some (.int .i64 0) := by rw [Lib.cell_of_heap HB5.out]; rfl
        have y8 : W6.cell? ⟨b, 8, none⟩ = some (.bool false) := by rw [Lib.cell_of_heap HB5.out]; rfl
        have z4 : W6.frozen? ⟨b, 4, none⟩ = false := Lib.frozen_of_heap HB5.out 4
        have z5 : W6.frozen? ⟨b, 5, none⟩ = false := Lib.frozen_of_heap HB5.out 5
        have z6 : W6.frozen? ⟨b, 6, none⟩ = false := Lib.frozen_of_heap HB5.out 6
        have z7 : W6.frozen? ⟨b, 7, none⟩ = false := Lib.frozen_of_heap HB5.out 7
        have z8 : W6.frozen? ⟨b, 8, none⟩ = false := Lib.frozen_of_heap HB5.out 8
        have hbz6 := block_lt HB5.out
        have hxz6 := block_lt HX5.out
        go_upto_region 24 with (fail)
        have hB64 : (W6.setCell ⟨b, 4, none⟩ (.int .i64 blx)).heap[b]? = some (.cells #[.int .i64 s.rapid, .int .i64 s.cut, .int .i64 s.pierces, .int .i64 s.joints, .int .i64 blx, .int .i64 0, .int .i64 0, .int .i64 0, .bool false] 42 (0, 0)) := block_set HB5.out 4 (.int .i64 blx)
        have hB65 : ((W6.setCell ⟨b, 4, none⟩ (.int .i64 blx)).setCell ⟨b, 5, none⟩ (.int .i64 bly)).heap[b]? = some (.cells #[.int .i64 s.rapid, .int .i64 s.cut, .int .i64 s.pierces, .int .i64 s.joints, .int .i64 blx, .int .i64 bly, .int .i64 0, .int .i64 0, .bool false] 42 (0, 0)) := block_set hB64 5 (.int .i64 bly)
        have hB66 : (((W6.setCell ⟨b, 4, none⟩ (.int .i64 blx)).setCell ⟨b, 5, none⟩ (.int .i64 bly)).setCell ⟨b, 6, none⟩ (.int .i64 bhx)).heap[b]? = some (.cells #[.int .i64 s.rapid, .int .i64 s.cut, .int .i64 s.pierces, .int .i64 s.joints, .int .i64 blx, .int .i64 bly, .int .i64 bhx, .int .i64 0, .bool false] 42 (0, 0)) := block_set hB65 6 (.int .i64 bhx)
        have hB67 : ((((W6.setCell ⟨b, 4, none⟩ (.int .i64 blx)).setCell ⟨b, 5, none⟩ (.int .i64 bly)).setCell ⟨b, 6, none⟩ (.int .i64 bhx)).setCell ⟨b, 7, none⟩ (.int .i64 bhy)).heap[b]? = some (.cells #[.int .i64 s.rapid, .int .i64 s.cut, .int .i64 s.pierces, .int .i64 s.joints, .int .i64 blx, .int .i64 bly, .int .i64 bhx, .int .i64 bhy, .bool false] 42 (0, 0)) := block_set hB66 7 (.int .i64 bhy)
        have hB68 : (((((W6.setCell ⟨b, 4, none⟩ (.int .i64 blx)).setCell ⟨b, 5, none⟩ (.int .i64 bly)).setCell ⟨b, 6, none⟩ (.int .i64 bhx)).setCell ⟨b, 7, none⟩ (.int .i64 bhy)).setCell ⟨b, 8, none⟩ (.bool false)).heap[b]? = some (.cells #[.int .i64 s.rapid, .int .i64 s.cut, .int .i64 s.pierces, .int .i64 s.joints, .int .i64 blx, .int .i64 bly, .int .i64 bhx, .int .i64 bhy, .bool false] 42 (0, 0)) := block_set hB67 8 (.bool false)
        have hB7 := hB68
        have hR7 := ((block_other ((((W6.setCell ⟨b, 4, none⟩ (.int .i64 blx)).setCell ⟨b, 5, none⟩ (.int .i64 bly)).setCell ⟨b, 6, none⟩ (.int .i64 bhx)).setCell ⟨b, 7, none⟩ (.int .i64 bhy)) b 8 (.bool false) (by omega)).trans ((block_other (((W6.setCell ⟨b, 4, none⟩ (.int .i64 blx)).setCell ⟨b, 5, none⟩ (.int .i64 bly)).setCell ⟨b, 6, none⟩ (.int .i64 bhx)) b 7 (.int .i64 bhy) (by omega)).trans ((block_other ((W6.setCell ⟨b, 4, none⟩ (.int .i64 blx)).setCell ⟨b, 5, none⟩ (.int .i64 bly)) b 6 (.int .i64 bhx) (by omega)).trans ((block_other (W6.setCell ⟨b, 4, none⟩ (.int .i64 blx)) b 5 (.int .i64 bly) (by omega)).trans ((block_other W6 b 4 (.int .i64 blx) (by omega)).trans HR5.out)))))
        have hE7 := (((((HE5.out.setCell (p := ⟨b, 4, none⟩) (by simp; omega) (.int .i64 blx)).setCell (p := ⟨b, 5, none⟩) (by simp; omega) (.int .i64 bly)).setCell (p := ⟨b, 6, none⟩) (by simp; omega) (.int .i64 bhx)).setCell (p := ⟨b, 7, none⟩) (by simp; omega) (.int .i64 bhy)).setCell (p := ⟨b, 8, none⟩) (by simp; omega) (.bool false))
        generalize (((((W6.setCell ⟨b, 4, none⟩ (.int .i64 blx)).setCell ⟨b, 5, none⟩ (.int .i64 bly)).setCell ⟨b, 6, none⟩ (.int .i64 bhx)).setCell ⟨b, 7, none⟩ (.int .i64 bhy)).setCell ⟨b, 8, none⟩ (.bool false)) = W7 at *
        have HB7 := Lib.hid hB7
        have HR7 := Lib.hid hR7
        have HE7 := Lib.hid hE7
        clear hB7 hR7 hE7 hB64 hB65 hB66 hB67 hB68 x0 x1 x2 x3 y4 y5 y6 y7 y8 z4 z5 z6 z7 z8
        have c0 : W7.cell? ⟨b, 0, none⟩ = some (.int .i64 s.rapid) := by rw [Lib.cell_of_heap HB7.out]; rfl
        have c1 : W7.cell? ⟨b, 1, none⟩ = some (.int .i64 s.cut) := by rw [Lib.cell_of_heap HB7.out]; rfl
        have c2 : W7.cell? ⟨b, 2, none⟩ = some (.int .i64 s.pierces) := by rw [Lib.cell_of_heap HB7.out]; rfl
        have c3 : W7.cell? ⟨b, 3, none⟩ = some (.int .i64 s.joints) := by rw [Lib.cell_of_heap HB7.out]; rfl
        have c4 : W7.cell? ⟨b, 4, none⟩ = some (.int .i64 blx) := by rw [Lib.cell_of_heap HB7.out]; rfl
        have c5 : W7.cell? ⟨b, 5, none⟩ = some (.int .i64 bly) := by rw [Lib.cell_of_heap HB7.out]; rfl
        have c6 : W7.cell? ⟨b, 6, none⟩ = some (.int .i64 bhx) := by rw [Lib.cell_of_heap HB7.out]; rfl
        have c7 : W7.cell? ⟨b, 7, none⟩ = some (.int .i64 bhy) := by rw [Lib.cell_of_heap HB7.out]; rfl
        have c8 : W7.cell? ⟨b, 8, none⟩ = some (.bool false) := by rw [Lib.cell_of_heap HB7.out]; rfl
        have r0 : W7.cell? ⟨w.heap.size, 0, none⟩ = some (.int .i64 0) := by rw [Lib.cell_of_heap HR7.out]; rfl
        have r1 : W7.cell? ⟨w.heap.size, 1, none⟩ = some (.int .i64 0) := by rw [Lib.cell_of_heap HR7.out]; rfl
        have r2 : W7.cell? ⟨w.heap.size, 2, none⟩ = some (.int .i64 0) := by rw [Lib.cell_of_heap HR7.out]; rfl
        have r3 : W7.cell? ⟨w.heap.size, 3, none⟩ = some (.int .i64 0) := by rw [Lib.cell_of_heap HR7.out]; rfl
        have r4 : W7.cell? ⟨w.heap.size, 4, none⟩ = some (.int .i64 0) := by rw [Lib.cell_of_heap HR7.out]; rfl
        have r5 : W7.cell? ⟨w.heap.size, 5, none⟩ = some (.int .i64 0) := by rw [Lib.cell_of_heap HR7.out]; rfl
        have r6 : W7.cell? ⟨w.heap.size, 6, none⟩ = some (.int .i64 0) := by rw [Lib.cell_of_heap HR7.out]; rfl
        have r7 : W7.cell? ⟨w.heap.size, 7, none⟩ = some (.int .i64 0) := by rw [Lib.cell_of_heap HR7.out]; rfl
        have r8 : W7.cell? ⟨w.heap.size, 8, none⟩ = some (.bool false) := by rw [Lib.cell_of_heap HR7.out]; rfl
        have g0 : W7.frozen? ⟨w.heap.size, 0, none⟩ = false := Lib.frozen_of_heap HR7.out 0
        have g1 : W7.frozen? ⟨w.heap.size, 1, none⟩ = false := Lib.frozen_of_heap HR7.out 1
        have g2 : W7.frozen? ⟨w.heap.size, 2, none⟩ = false := Lib.frozen_of_heap HR7.out 2
        have g3 : W7.frozen? ⟨w.heap.size, 3, none⟩ = false := Lib.frozen_of_heap HR7.out 3
        have g4 : W7.frozen? ⟨w.heap.size, 4, none⟩ = false := Lib.frozen_of_heap HR7.out 4
        have g5 : W7.frozen? ⟨w.heap.size, 5, none⟩ = false := Lib.frozen_of_heap HR7.out 5
        have g6 : W7.frozen? ⟨w.heap.size, 6, none⟩ = false := Lib.frozen_of_heap HR7.out 6
        have g7 : W7.frozen? ⟨w.heap.size, 7, none⟩ = false := Lib.frozen_of_heap HR7.out 7
        have g8 : W7.frozen? ⟨w.heap.size, 8, none⟩ = false := Lib.frozen_of_heap HR7.out 8
        have hrz7 := block_lt HR7.out
        have hbz7 := block_lt HB7.out
        go_wp2
        have hR70 : (W7.setCell ⟨w.heap.size, 0, none⟩ (.int .i64 s.rapid)).heap[w.heap.size]? = some (.cells #[.int .i64 s.rapid, .int .i64 0, .int .i64 0, .int .i64 0, .int .i64 0, .int .i64 0, .int .i64 0, .int .i64 0, .bool false] 42 (0, 0)) := block_set HR7.out 0 (.int .i64 s.rapid)
        have hR71 : ((W7.setCell ⟨w.heap.size, 0, none⟩ (.int .i64 s.rapid)).setCell ⟨w.heap.size, 1, none⟩ (.int .i64 s.cut)).heap[w.heap.size]? = some (.cells #[.int .i64 s.rapid, .int .i64 s.cut, .int .i64 0, .int .i64 0, .int .i64 0, .int .i64 0, .int .i64 0, .int .i64 0, .bool false] 42 (0, 0)) := block_set hR70 1 (.int .i64 s.cut)
        have hR72 : (((W7.setCell ⟨w.heap.size, 0, none⟩ (.int .i64 s.rapid)).setCell ⟨w.heap.size, 1, none⟩ (.int .i64 s.cut)).setCell ⟨w.heap.size, 2, none⟩ (.int .i64 s.pierces)).heap[w.heap.size]? = some (.cells #[.int .i64 s.rapid, .int .i64 s.cut, .int .i64 s.pierces, .int .i64 0, .int .i64 0, .int .i64 0, .int .i64 0, .int .i64 0, .bool false] 42 (0, 0)) := block_set hR71 2 (.int .i64 s.pierces)
        have hR73 : ((((W7.setCell ⟨w.heap.size, 0, none⟩ (.int .i64 s.rapid)).setCell ⟨w.heap.size, 1, none⟩ (.int .i64 s.cut)).setCell ⟨w.heap.size, 2, none⟩ (.int .i64 s.pierces)).setCell ⟨w.heap.size, 3, none⟩ (.int .i64 s.joints)).heap[w.heap.size]? = some (.cells #[.int .i64 s.rapid, .int .i64 s.cut, .int .i64 s.pierces, .int .i64 s.joints, .int .i64 0, .int .i64 0, .int .i64 0, .int .i64 0, .bool false] 42 (0, 0)) := block_set hR72 3 (.int .i64 s.joints)
        have hR74 : (((((W7.setCell ⟨w.heap.size, 0, none⟩ (.int .i64 s.rapid)).setCell ⟨w.heap.size, 1, none⟩ (.int .i64 s.cut)).setCell ⟨w.heap.size, 2, none⟩ (.int .i64 s.pierces)).setCell ⟨w.heap.size, 3, none⟩ (.int .i64 s.joints)).setCell ⟨w.heap.size, 4, none⟩ (.int .i64 blx)).heap[w.heap.size]? = some (.cells #[.int .i64 s.rapid, .int .i64 s.cut, .int .i64 s.pierces, .int .i64 s.joints, .int .i64 blx, .int .i64 0, .int .i64 0, .int .i64 0, .bool false] 42 (0, 0)) := block_set hR73 4 (.int .i64 blx)
        have hR75 : ((((((W7.setCell ⟨w.heap.size, 0, none⟩ (.int .i64 s.rapid)).setCell ⟨w.heap.size, 1, none⟩ (.int .i64 s.cut)).setCell ⟨w.heap.size, 2, none⟩ (.int .i64 s.pierces)).setCell ⟨w.heap.size, 3, none⟩ (.int .i64 s.joints)).setCell ⟨w.heap.size, 4, none⟩ (.int .i64 blx)).setCell ⟨w.heap.size, 5, none⟩ (.int .i64 bly)).heap[w.heap.size]? = some (.cells #[.int .i64 s.rapid, .int .i64 s.cut, .int .i64 s.pierces, .int .i64 s.joints, .int .i64 blx, .int .i64 bly, .int .i64 0, .int .i64 0, .bool false] 42 (0, 0)) := block_set hR74 5 (.int .i64 bly)
        have hR76 : (((((((W7.setCell ⟨w.heap.size, 0, none⟩ (.int .i64 s.rapid)).setCell ⟨w.heap.size, 1, none⟩ (.int .i64 s.cut)).setCell ⟨w.heap.size, 2, none⟩ (.int .i64 s.pierces)).setCell ⟨w.heap.size, 3, none⟩ (.int .i64 s.joints)).setCell ⟨w.heap.size, 4, none⟩ (.int .i64 blx)).setCell ⟨w.heap.size, 5, none⟩ (.int .i64 bly)).setCell ⟨w.heap.size, 6, none⟩ (.int .i64 bhx)).heap[w.heap.size]? = some (.cells #[.int .i64 s.rapid, .int .i64 s.cut, .int .i64 s.pierces, .int .i64 s.joints, .int .i64 blx, .int .i64 bly, .int .i64 bhx, .int .i64 0, .bool false] 42 (0, 0)) := block_set hR75 6 (.int .i64 bhx)
        have hR77 : ((((((((W7.setCell ⟨w.heap.size, 0, none⟩ (.int .i64 s.rapid)).setCell ⟨w.heap.size, 1, none⟩ (.int .i64 s.cut)).setCell ⟨w.heap.size, 2, none⟩ (.int .i64 s.pierces)).setCell ⟨w.heap.size, 3, none⟩ (.int .i64 s.joints)).setCell ⟨w.heap.size, 4, none⟩ (.int .i64 blx)).setCell ⟨w.heap.size, 5, none⟩ (.int .i64 bly)).setCell ⟨w.heap.size, 6, none⟩ (.int .i64 bhx)).setCell ⟨w.heap.size, 7, none⟩ (.int .i64 bhy)).heap[w.heap.size]? = some (.cells #[.int .i64 s.rapid, .int .i64 s.cut, .int .i64 s.pierces, .int .i64 s.joints, .int .i64 blx, .int .i64 bly, .int .i64 bhx, .int .i64 bhy, .bool false] 42 (0, 0)) := block_set hR76 7 (.int .i64 bhy)
        have hR78 : (((((((((W7.setCell ⟨w.heap.size, 0, none⟩ (.int .i64 s.rapid)).setCell ⟨w.heap.size, 1, none⟩ (.int .i64 s.cut)).setCell ⟨w.heap.size, 2, none⟩ (.int .i64 s.pierces)).setCell ⟨w.heap.size, 3, none⟩ (.int .i64 s.joints)).setCell ⟨w.heap.size, 4, none⟩ (.int .i64 blx)).setCell ⟨w.heap.size, 5, none⟩ (.int .i64 bly)).setCell ⟨w.heap.size, 6, none⟩ (.int .i64 bhx)).setCell ⟨w.heap.size, 7, none⟩ (.int .i64 bhy)).setCell ⟨w.heap.size, 8, none⟩ (.bool false)).heap[w.heap.size]? = some (.cells #[.int .i64 s.rapid, .int .i64 s.cut, .int .i64 s.pierces, .int .i64 s.joints, .int .i64 blx, .int .i64 bly, .int .i64 bhx, .int .i64 bhy, .bool false] 42 (0, 0)) := block_set hR77 8 (.bool false)
        have hR8 := hR78
        have hE8 := (((((((((HE7.out.setCell (p := ⟨w.heap.size, 0, none⟩) (by simp) (.int .i64 s.rapid)).setCell (p := ⟨w.heap.size, 1, none⟩) (by simp) (.int .i64 s.cut)).setCell (p := ⟨w.heap.size, 2, none⟩) (by simp) (.int .i64 s.pierces)).setCell (p := ⟨w.heap.size, 3, none⟩) (by simp) (.int .i64 s.joints)).setCell (p := ⟨w.heap.size, 4, none⟩) (by simp) (.int .i64 blx)).setCell (p := ⟨w.heap.size, 5, none⟩) (by simp) (.int .i64 bly)).setCell (p := ⟨w.heap.size, 6, none⟩) (by simp) (.int .i64 bhx)).setCell (p := ⟨w.heap.size, 7, none⟩) (by simp) (.int .i64 bhy)).setCell (p := ⟨w.heap.size, 8, none⟩) (by simp) (.bool false))
        clear hR70 hR71 hR72 hR73 hR74 hR75 hR76 hR77 hR78
        generalize (((((((((W7.setCell ⟨w.heap.size, 0, none⟩ (.int .i64 s.rapid)).setCell ⟨w.heap.size, 1, none⟩ (.int .i64 s.cut)).setCell ⟨w.heap.size, 2, none⟩ (.int .i64 s.pierces)).setCell ⟨w.heap.size, 3, none⟩ (.int .i64 s.joints)).setCell ⟨w.heap.size, 4, none⟩ (.int .i64 blx)).setCell ⟨w.heap.size, 5, none⟩ (.int .i64 bly)).setCell ⟨w.heap.size, 6, none⟩ (.int .i64 bhx)).setCell ⟨w.heap.size, 7, none⟩ (.int .i64 bhy)).setCell ⟨w.heap.size, 8, none⟩ (.bool false)) = W8 at *
        have s0 : W8.cell? ⟨w.heap.size, 0, none⟩ = some (.int .i64 s.rapid) := by rw [Lib.cell_of_heap hR8]; rfl
        have s1 : W8.cell? ⟨w.heap.size, 1, none⟩ = some (.int .i64 s.cut) := by rw [Lib.cell_of_heap hR8]; rfl
        have s2 : W8.cell? ⟨w.heap.size, 2, none⟩ = some (.int .i64 s.pierces) := by rw [Lib.cell_of_heap hR8]; rfl
        have s3 : W8.cell? ⟨w.heap.size, 3, none⟩ = some (.int .i64 s.joints) := by rw [Lib.cell_of_heap hR8]; rfl
        have s4 : W8.cell? ⟨w.heap.size, 4, none⟩ = some (.int .i64 blx) := by rw [Lib.cell_of_heap hR8]; rfl
        have s5 : W8.cell? ⟨w.heap.size, 5, none⟩ = some (.int .i64 bly) := by rw [Lib.cell_of_heap hR8]; rfl
        have s6 : W8.cell? ⟨w.heap.size, 6, none⟩ = some (.int .i64 bhx) := by rw [Lib.cell_of_heap hR8]; rfl
        have s7 : W8.cell? ⟨w.heap.size, 7, none⟩ = some (.int .i64 bhy) := by rw [Lib.cell_of_heap hR8]; rfl
        have s8 : W8.cell? ⟨w.heap.size, 8, none⟩ = some (.bool false) := by rw [Lib.cell_of_heap hR8]; rfl
        rw [HRUN.out, hpv.out]
        exact bodyPost_ret (v := .tuple #[.agg #[.int .i64 s.rapid, .int .i64 s.cut, .int .i64 s.pierces, .int .i64 s.joints, .int .i64 blx, .int .i64 bly, .int .i64 bhx, .int .i64 bhy, .bool false], .int .i64 0]) (by simp [results, Tryz.results10, go_sem, s0, s1, s2, s3, s4, s5, s6, s7, s8]) rfl ⟨rfl, hE8⟩
end Go.Proofs.YtonpbomjjamphaaGreatDoor.NcW
