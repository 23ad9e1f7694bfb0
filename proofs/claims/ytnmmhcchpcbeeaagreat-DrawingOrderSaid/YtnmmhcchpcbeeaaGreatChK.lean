/- Walk: the points of a chain of open entities. Conditions: the passages and the map of ends lie in memory; each end is that of two. -/
import Derived.Test.YtnmmhcchpcbeeaaGreatPsW
import Derived.Test.YtnmmhcchpcbeeaaGreatEqV
import Derived.Test.YtnmmhcchpcbeeaaGreatMem2
import Derived.ChangeKeysEq
import Derived.Deep.LoopGhost
import Derived.Deep.CutRange
import Derived.Laws.Small
namespace Go.Proofs.YtnmmhcchpcbeeaaGreat.GeW
open Go Go.RowKit Go.Proofs.YtnmmhcchpcbeeaaGreat.Mem Go.Proofs.YtnmmhcchpcbeeaaGreat.Ge
attribute [local go_sem ↓] Go.wp_at_zero Go.wp_at_succ
theorem eql_pair (a b c d : Int) (w : World) : (binOp .eql 88 (.agg #[.int .i64 a, .int .i64 b]) (.agg #[.int .i64 c, .int .i64 d])).run Tryz.prog w = .ok (.bool (decide ((a, b) = (c, d)))) w := by
  obtain ⟨i, hi, _, _⟩ := info_parts (show (Tryz.prog.info? 3).map (fun i => (i.zero, i.size, i.bytes)) = some (some (.int .i64 0), 1, 8) by kernel_rfl)
  have u3 := Tryz.underlying3
  have a3 := Tryz.isAgg3
  have z3 := Tryz.sizeOf3
  have h1 : Tryz.prog.cellsOf 3 = 1 := by kernel_rfl
  rw [run_eql_struct, show (10000 : Nat) = 9999 + 1 from rfl, run_equalIn_array w 9999 _ _ Tryz.underlying88 hi, h1]
  simp only [List.range, List.range.loop, Op.eqItems]
  go_simp
  by_cases h1 : a = c <;> by_cases h2 : b = d <;> simp [h1, h2]
theorem eqin_pair (a b c d : Int) (w : World) : (Op.equalIn 10000 88 (.agg #[.int .i64 a, .int .i64 b]) (.agg #[.int .i64 c, .int .i64 d])).run Tryz.prog w = .ok (decide ((a, b) = (c, d))) w := by
  obtain ⟨i, hi, _, _⟩ := info_parts (show (Tryz.prog.info? 3).map (fun i => (i.zero, i.size, i.bytes)) = some (some (.int .i64 0), 1, 8) by kernel_rfl)
  have u3 := Tryz.underlying3
  have a3 := Tryz.isAgg3
  have z3 := Tryz.sizeOf3
  have h1 : Tryz.prog.cellsOf 3 = 1 := by kernel_rfl
  rw [show (10000 : Nat) = 9999 + 1 from rfl, run_equalIn_array w 9999 _ _ Tryz.underlying88 hi, h1]
  simp only [List.range, List.range.loop, Op.eqItems]
  go_simp
  by_cases h1 : a = c <;> by_cases h2 : b = d <;> simp [h1, h2]
/-- What a chain leaves as it was: all that is no passage. -/
structure Save (w w' : World) (ps : List PassV) : Prop where
  os : w'.os = w.os
  tape : w'.tape = w.tape
  output : w'.output = w.output
  size : w.heap.size ≤ w'.heap.size
  block : ∀ g, g < w.heap.size → (∀ q ∈ ps, q.g ≠ g) → w'.heap[g]? = w.heap[g]?
theorem Save.refl (w : World) (ps : List PassV) : Save w w ps := ⟨rfl, rfl, rfl, Nat.le_refl _, fun _ _ _ => rfl⟩
theorem Save.grown {w w1 w2 : World} {ps : List PassV} {row : Option Nat} (h : Save w w1 ps) (hg : w1.grownBy w2 row) (hr : ∀ g, row = some g → w.heap.size ≤ g ∨ ∃ q ∈ ps, q.g = g) : Save w w2 ps :=
  ⟨hg.os.trans h.os, hg.tape.trans h.tape, hg.output.trans h.output, Nat.le_trans h.size hg.size, fun g hlt hq => (hg.block g (Nat.lt_of_lt_of_le hlt h.size) (fun he => by
    rcases hr g he.symm with h1 | ⟨q, hq1, hq2⟩
    · omega
    · exact hq q hq1 hq2)).trans (h.block g hlt hq)⟩
theorem Save.below {w w1 w2 : World} {ps : List PassV} (h : Save w w1 ps) (hb : Below w1.heap.size w1 w2) : Save w w2 ps := h.grown (grown_below hb) (fun g hg => by cases hg)
theorem Save.own {w w' : World} {ps : List PassV} {base size n : Nat} {T : TypeId} {v : Value} {xs : List Value} (h : Save w w' ps) (hp : ∀ q ∈ ps, Tagged w q.g 86) (hne : T ≠ 86) (ho : w.ownsRow base T size v n xs) : w'.ownsRow base T size v n xs := by
  refine ⟨ho.1, ?_⟩
  rcases ho.2 with h0 | ⟨g, cap, cur, hv, hb, hh, r⟩
  · exact .inl h0
  · refine .inr ⟨g, cap, cur, hv, hb, ?_, r⟩
    refine (h.block g (Array.getElem?_eq_some_iff.1 hh).1 (fun q hq he => ?_)).trans hh
    subst he
    exact (hp q hq).ne ⟨cur, _, hh⟩ (fun e => hne e.symm) rfl
theorem Save.pts {w w' : World} {ps : List PassV} {base : Nat} {A : Option Addr} {l : List V} (h : Save w w' ps) (hp : ∀ q ∈ ps, Tagged w q.g 86 ∧ base ≤ q.g) (ho : PtAt base w A l) : PtAt base w' A l := by
  have hb : ∀ g off, l ≠ [] → A = some ⟨g, off, none⟩ → g < w.heap.size → w'.heap[g]? = w.heap[g]? := by
    intro g off hl hA hlt
    refine h.block g hlt (fun q hq he => ?_)
    subst he
    rcases ho.2 hl _ off hA with h1 | h1
    · have := (hp q hq).2; omega
    · exact (hp q hq).1.ne h1 (by decide) rfl
  constructor
  · intro hx
    obtain ⟨g, off, hA, hlt, hc⟩ := ho.1 hx
    have hl : l ≠ [] := by rintro rfl; exact hx rfl
    refine ⟨g, off, hA, Nat.lt_of_lt_of_le hlt h.size, fun j hj => ?_⟩
    rw [World.cell?_of_block (hb g off hl hA hlt)]
    exact hc j hj
  · intro hl g off hA
    rcases ho.2 hl g off hA with h1 | ⟨cur, fz, h1⟩
    · exact .inl h1
    · exact .inr ⟨cur, fz, (hb g off hl hA (Array.getElem?_eq_some_iff.1 h1).1).trans h1⟩
theorem Its.save {w w' : World} {ps : List PassV} {base : Nat} {its : List ItemV} {cV fV : Value} (h : Its base w its cV fV) (hs : Save w w' ps) (hp : ∀ q ∈ ps, Tagged w q.g 86 ∧ base ≤ q.g) : Its base w' its cV fV :=
  ⟨hs.own (fun q hq => (hp q hq).1) (by decide) h.crow, hs.own (fun q hq => (hp q hq).1) (by decide) h.frow, fun x hx => hs.pts hp (h.pts x hx), h.small⟩
theorem Rg.tags {base : Nat} {w : World} {ps : List PassV} {used : Nat → Bool} {oV : Value} {mb n : Nat} {D : DataW Value} {f : V → Option Value} (h : Rg base w ps used oV mb n D f) : ∀ q ∈ ps, Tagged w q.g 86 ∧ base ≤ q.g := fun q hq => by
  obtain ⟨i, hi, rfl⟩ := List.getElem_of_mem hq
  exact ⟨⟨_, _, (h.each i hi).cells⟩, (h.each i hi).base_⟩
/-- A passage marked as used. -/
theorem Rg.mark_ {base : Nat} {w : World} {ps : List PassV} {used : Nat → Bool} {oV : Value} {mb n : Nat} {D : DataW Value} {f : V → Option Value} (h : Rg base w ps used oV mb n D f) (i : Nat) (hi : i < ps.length) :
    Rg base (w.setCell ⟨ps[i].g, 5, none⟩ (.bool true)) ps (markU used i) oV mb n D f ∧ w.grownBy (w.setCell ⟨ps[i].g, 5, none⟩ (.bool true)) (some ps[i].g) := by
  have hcell := (h.each i hi).cells
  have hlt := (Array.getElem?_eq_some_iff.1 hcell).1
  have hset := setCell_block hcell 5 (.bool true)
  have hg : w.grownBy (w.setCell ⟨ps[i].g, 5, none⟩ (.bool true)) (some ps[i].g) := by
    have hb := (Below.refl ps[i].g w).setCell (p := ⟨ps[i].g, 5, none⟩) (Nat.le_refl _) (.bool true)
    refine ⟨hb.os, hb.tape, hb.output, hb.size, fun k hk hne => ?_⟩
    have hne' : ¬ ps[i].g = k := fun e => hne (by rw [e])
    simp only [World.setCell, Array.getElem?_modify, if_neg hne']
  have hr : RowT w base 86 (some ps[i].g) := fun g hg' => by
    cases hg'
    exact ⟨⟨_, _, hcell⟩, (h.each i hi).base_⟩
  refine ⟨⟨own_keep hg hr.weak (by decide) h.opens, fun j hj => ?_, h.apart, h.mr.keep hg hr (by decide)⟩, hg⟩
  have hx := h.each j hj
  by_cases hij : j = i
  · subst hij
    have hm : markU used j j = true := by unfold markU; rw [if_pos rfl]
    refine ⟨hx.base_, ?_, hx.pts.keep hg hr.weak (by decide), hx.room, hx.two⟩
    rw [hset, hm]
    unfold passCells
    rfl
  · have hm : markU used i j = used j := by unfold markU; rw [if_neg hij]
    rw [hm]
    refine ⟨hx.base_, ?_, hx.pts.keep hg hr.weak (by decide), hx.room, hx.two⟩
    have hne : ps[j].g ≠ ps[i].g := by
      intro he
      exact hij ((List.getElem_inj (h₀ := by simpa using hj) (h₁ := by simpa using hi) h.apart).1 (by simpa using he))
    exact (hg.block _ (Array.getElem?_eq_some_iff.1 hx.cells).1 (fun e => hne (Option.some.inj e))).trans hx.cells
/-- The row of a point's ends. -/
theorem Rg.look {base : Nat} {w : World} {ps : List PassV} {used : Nat → Bool} {oV : Value} {mb n : Nat} {D : DataW Value} {f : V → Option Value} (h : Rg base w ps used oV mb n D f) (v : V) (hne : atL (passL ps) v ≠ []) :
    ∃ (A : Option Addr) (c : Nat), (Instr.lookup 78 (.map (some mb)) (vecV v) false).run Tryz.prog w = .ok (.slice A (atL (passL ps) v).length c) w ∧ w.ownsRow base 88 2 (.slice A (atL (passL ps) v).length c) (atL (passL ps) v).length ((atL (passL ps) v).flatMap endCells) := by
  cases hf : f v with
  | none => exact absurd ((h.mr.rows v).1 hf) hne
  | some u =>
    have hwf := h.mr.wfk v u hf
    obtain ⟨_, hrow⟩ := (h.mr.rows v).2 u hf
    obtain ⟨A, c, rfl, _⟩ := own_shape hrow
    obtain ⟨x, hrun, hat⟩ := map_look h.mr.map_ law_vec Tryz.underlying78 (zero_rows w) (vec_made v hwf)
    have h2 := h.mr.fun_.2.2 v (.held (.slice none 0 0)) hwf
    rw [hat, hf] at h2
    injection h2 with h2
    subst h2
    exact ⟨A, c, hrun, hrow⟩
theorem at_ends {ps : List Pass} {i : Nat} (hi : i < ps.length) (k : Nat) : atL ps (endOf (passAt ps i) k) ≠ [] := by
  have hmem : ∀ (ps : List Pass) (j : Nat) (p : Pass), p ∈ ps → ∀ v, (p.e0 = v ∨ p.e1 = v) → atFrom ps j v ≠ [] := by
    intro ps
    induction ps with
    | nil => intro j p hp; cases hp
    | cons q r ih =>
      intro j p hp v hv
      unfold atFrom
      rcases List.mem_cons.1 hp with rfl | hp
      · rcases hv with h | h
        · simp [h]
        · simp [h]
      · have := ih (j + 1) p hp v hv
        simp [this]
  have hp : passAt ps i ∈ ps := by
    unfold passAt
    rw [List.getD_eq_getElem?_getD, List.getElem?_eq_getElem hi]
    exact List.getElem_mem hi
  refine hmem ps 0 _ hp _ ?_
  unfold endOf
  split
  · exact .inl rfl
  · exact .inr rfl
theorem other_range {ps : List Pass} (ht : twice ps = true) {i : Nat} (hi : i < ps.length) (k : Nat) : (otherEnd ps i k).1 < ps.length ∧ (otherEnd ps i k).2 ≤ 1 := by
  have h2 := twice_keys.1 ht _ (at_ends hi (1 - k))
  have hm : ∀ j, j < 2 → ((atL ps (endOf (passAt ps i) (1 - k))).getD j (0, 0)).1 < ps.length ∧ ((atL ps (endOf (passAt ps i) (1 - k))).getD j (0, 0)).2 ≤ 1 := by
    intro j hj
    rw [List.getD_eq_getElem?_getD, List.getElem?_eq_getElem (by omega)]
    have := atFrom_mem _ ps 0 _ (List.getElem_mem (l := atL ps (endOf (passAt ps i) (1 - k))) (n := j) (by omega))
    simp only [Option.getD_some]
    exact ⟨by have := this.2.1; omega, this.2.2⟩
  unfold otherEnd
  simp only
  split
  · exact hm 1 (by omega)
  · exact hm 0 (by omega)
end Go.Proofs.YtnmmhcchpcbeeaaGreat.GeW
