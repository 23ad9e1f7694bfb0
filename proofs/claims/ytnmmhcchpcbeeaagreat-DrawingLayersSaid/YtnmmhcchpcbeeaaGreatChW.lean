/- Walk: the points of a chain of open entities. Conditions: the passages and the map of ends lie in memory; each end is that of two. -/
import Derived.Test.YtnmmhcchpcbeeaaGreatRgK
import Derived.Test.YtnmmhcchpcbeeaaGreatGeSl
import Derived.Test.YtnmmhcchpcbeeaaGreatEqV
import Derived.Test.YtnmmhcchpcbeeaaGreatMem2
import Derived.ChangeKeysEq
import Derived.Deep.LoopGhost
import Derived.Deep.CutRange
import Derived.Laws.Small
import Derived.Test.YtnmmhcchpcbeeaaGreatGeJ

namespace Go.Proofs.YtnmmhcchpcbeeaaGreat.GeW
open Go Go.RowKit Go.Proofs.YtnmmhcchpcbeeaaGreat.Mem Go.Proofs.YtnmmhcchpcbeeaaGreat.Ge
attribute [local go_sem ↓] Go.wp_at_zero Go.wp_at_succ
theorem passPts_len (p : Pass) (k : Nat) : (passPts p k).length = p.pts.length := by
  unfold passPts
  split <;> simp
theorem cellIn {w : World} {g : Nat} {cs : Array Value} {t : TypeId} (h : w.heap[g]? = some (.cells cs t (0, 0))) (i : Nat) (hi : i < cs.size) : w.cell? ⟨g, i, none⟩ = some cs[i] := by
  simp [World.cell?, h, Array.getElem?_eq_getElem hi]
set_option maxRecDepth 100000 in
set_option maxHeartbeats 1000000 in
theorem pass_any (base : Nat) (q : PassV) (u : Bool) (k : Nat) (hk : k ≤ 1) (w : World) (h : PassIn base w q u) :
    Calls Tryz.prog 98 #[.pointer (some ⟨q.g, 0, none⟩), .int .i64 (k : Int)] w fun e w' => (∃ v, e = .returned v ∧ w'.ownsRow w.heap.size 53 2 v q.p.pts.length ((passPts q.p k).flatMap ptCells)) ∧ Below w.heap.size w w' := by
  have c4 : w.cell? ⟨q.g, 4, none⟩ = some (.slice q.A q.p.pts.length q.k) := cellIn h.cells 4 (by simp [passCells])
  have HC := Lib.hid (clone_any q.p.pts q.A q.k w h.pts.1 (by have := h.two.2; omega))
  rcases (show k = 0 ∨ k = 1 by omega) with rfl | rfl
  · have HP : Hid (passPts q.p 0 = q.p.pts) := Lib.hid rfl
    rw [HP.out]
    have s1 : ((0 : Int) == 1) = false := rfl
    clear h HP
    go_enter Tryz.func98, Tryz.ntmps98
    go_wp2_with fail
    refine HC.out.mono ?_
    rintro e w1 ⟨⟨v, rfl, hown⟩, hb1⟩
    have HO := Lib.hid hown
    clear hown
    go_wp2
    go_ret
    exact ⟨⟨_, rfl, HO.out⟩, hb1⟩
  · have HP : Hid (passPts q.p 1 = q.p.pts.reverse) := Lib.hid rfl
    rw [HP.out]
    have s1 : ((1 : Int) == 1) = true := rfl
    clear h HP
    go_enter Tryz.func98, Tryz.ntmps98
    go_wp2_with fail
    refine HC.out.mono ?_
    rintro e w1 ⟨⟨v, rfl, hown⟩, hb1⟩
    have HRV := Lib.hid (revV_any q.p.pts w.heap.size q.p.pts.length v w1 rfl hown)
    clear hown
    go_wp2_with fail
    refine HRV.out.mono ?_
    rintro e w2 ⟨rfl, hown2, hb2⟩
    have HO := Lib.hid hown2
    clear hown2
    go_wp2
    go_ret
    exact ⟨⟨_, rfl, HO.out⟩, hb1.trans hb2⟩
end Go.Proofs.YtnmmhcchpcbeeaaGreat.GeW

namespace Go.Proofs.YtnmmhcchpcbeeaaGreat.GeW
open Go Go.RowKit Go.Proofs.YtnmmhcchpcbeeaaGreat.Mem Go.Proofs.YtnmmhcchpcbeeaaGreat.Ge
attribute [local go_sem ↓] Go.wp_at_zero Go.wp_at_succ
theorem eql_pair (a b c d : Int) (w : World) : (binOp .eql 88 (.agg #[.int .i64 a, .int .i64 b]) (.agg #[.int .i64 c, .int .i64 d])).run Tryz.prog w = .ok (.bool (decide ((a, b) = (c, d)))) w := by
  obtain ⟨i, hi, _, _⟩ := info_parts (show (Tryz.prog.info? 3).map (fun i => (i.zero, i.size, i.bytes)) = some (some (.int .i64 0), 1, 8) by kernel_rfl)
  have u3 := Tryz.underlying3
  have a3 := Tryz.isAgg3
  have z3 := Tryz.sizeOf3
  have h1 : Tryz.prog.cellsOf 3 = 1 := by kernel_rfl
  rw [run_eql_struct, show (10000 : Nat) = 9999 + 1 from rfl, run_equalIn_array w 9999 _ _ Tryz.underlying88 hi, h1]
  simp only [List.range, List.range.loop, Op.eqItems]
  go_simp
  by_cases h1 : a = c <;> by_cases h2 : b = d <;> simp [h1, h2]
theorem eqin_pair (a b c d : Int) (w : World) : (Op.equalIn 10000 88 (.agg #[.int .i64 a, .int .i64 b]) (.agg #[.int .i64 c, .int .i64 d])).run Tryz.prog w = .ok (decide ((a, b) = (c, d))) w := by
  obtain ⟨i, hi, _, _⟩ := info_parts (show (Tryz.prog.info? 3).map (fun i => (i.zero, i.size, i.bytes)) = some (some (.int .i64 0), 1, 8) by kernel_rfl)
  have u3 := Tryz.underlying3
  have a3 := Tryz.isAgg3
  have z3 := Tryz.sizeOf3
  have h1 : Tryz.prog.cellsOf 3 = 1 := by kernel_rfl
  rw [show (10000 : Nat) = 9999 + 1 from rfl, run_equalIn_array w 9999 _ _ Tryz.underlying88 hi, h1]
  simp only [List.range, List.range.loop, Op.eqItems]
  go_simp
  by_cases h1 : a = c <;> by_cases h2 : b = d <;> simp [h1, h2]
/-- What a chain leaves as it was: all that is no passage. -/
structure Save (w w' : World) (ps : List PassV) : Prop where
  os : w'.os = w.os
  tape : w'.tape = w.tape
  output : w'.output = w.output
  size : w.heap.size ≤ w'.heap.size
  block : ∀ g, g < w.heap.size → (∀ q ∈ ps, q.g ≠ g) → w'.heap[g]? = w.heap[g]?
theorem Save.refl (w : World) (ps : List PassV) : Save w w ps := ⟨rfl, rfl, rfl, Nat.le_refl _, fun _ _ _ => rfl⟩
theorem Save.grown {w w1 w2 : World} {ps : List PassV} {row : Option Nat} (h : Save w w1 ps) (hg : w1.grownBy w2 row) (hr : ∀ g, row = some g → w.heap.size ≤ g ∨ ∃ q ∈ ps, q.g = g) : Save w w2 ps :=
  ⟨hg.os.trans h.os, hg.tape.trans h.tape, hg.output.trans h.output, Nat.le_trans h.size hg.size, fun g hlt hq => (hg.block g (Nat.lt_of_lt_of_le hlt h.size) (fun he => by
    rcases hr g he.symm with h1 | ⟨q, hq1, hq2⟩
    · omega
    · exact hq q hq1 hq2)).trans (h.block g hlt hq)⟩
theorem Save.below {w w1 w2 : World} {ps : List PassV} (h : Save w w1 ps) (hb : Below w1.heap.size w1 w2) : Save w w2 ps := h.grown (grown_below hb) (fun g hg => by cases hg)
theorem Save.own {w w' : World} {ps : List PassV} {base size n : Nat} {T : TypeId} {v : Value} {xs : List Value} (h : Save w w' ps) (hp : ∀ q ∈ ps, Tagged w q.g 86) (hne : T ≠ 86) (ho : w.ownsRow base T size v n xs) : w'.ownsRow base T size v n xs := by
  refine ⟨ho.1, ?_⟩
  rcases ho.2 with h0 | ⟨g, cap, cur, hv, hb, hh, r⟩
  · exact .inl h0
  · refine .inr ⟨g, cap, cur, hv, hb, ?_, r⟩
    refine (h.block g (Array.getElem?_eq_some_iff.1 hh).1 (fun q hq he => ?_)).trans hh
    subst he
    exact (hp q hq).ne ⟨cur, _, hh⟩ (fun e => hne e.symm) rfl
theorem Save.pts {w w' : World} {ps : List PassV} {base : Nat} {A : Option Addr} {l : List V} (h : Save w w' ps) (hp : ∀ q ∈ ps, Tagged w q.g 86 ∧ base ≤ q.g) (ho : PtAt base w A l) : PtAt base w' A l := by
  have hb : ∀ g off, l ≠ [] → A = some ⟨g, off, none⟩ → g < w.heap.size → w'.heap[g]? = w.heap[g]? := by
    intro g off hl hA hlt
    refine h.block g hlt (fun q hq he => ?_)
    subst he
    rcases ho.2 hl _ off hA with h1 | h1
    · have := (hp q hq).2; omega
    · exact (hp q hq).1.ne h1 (by decide) rfl
  constructor
  · intro hx
    obtain ⟨g, off, hA, hlt, hc⟩ := ho.1 hx
    have hl : l ≠ [] := by rintro rfl; exact hx rfl
    refine ⟨g, off, hA, Nat.lt_of_lt_of_le hlt h.size, fun j hj => ?_⟩
    rw [World.cell?_of_block (hb g off hl hA hlt)]
    exact hc j hj
  · intro hl g off hA
    rcases ho.2 hl g off hA with h1 | ⟨cur, fz, h1⟩
    · exact .inl h1
    · exact .inr ⟨cur, fz, (hb g off hl hA (Array.getElem?_eq_some_iff.1 h1).1).trans h1⟩
theorem Its.save {w w' : World} {ps : List PassV} {base : Nat} {its : List ItemV} {cV fV : Value} (h : Its base w its cV fV) (hs : Save w w' ps) (hp : ∀ q ∈ ps, Tagged w q.g 86 ∧ base ≤ q.g) : Its base w' its cV fV :=
  ⟨hs.own (fun q hq => (hp q hq).1) (by decide) h.crow, hs.own (fun q hq => (hp q hq).1) (by decide) h.frow, fun x hx => hs.pts hp (h.pts x hx), h.small⟩
theorem Rg.tags {base : Nat} {w : World} {ps : List PassV} {used : Nat → Bool} {oV : Value} {mb n : Nat} {D : DataW Value} {f : V → Option Value} (h : Rg base w ps used oV mb n D f) : ∀ q ∈ ps, Tagged w q.g 86 ∧ base ≤ q.g := fun q hq => by
  obtain ⟨i, hi, rfl⟩ := List.getElem_of_mem hq
  exact ⟨⟨_, _, (h.each i hi).cells⟩, (h.each i hi).base_⟩
/-- A passage marked as used. -/
theorem Rg.mark_ {base : Nat} {w : World} {ps : List PassV} {used : Nat → Bool} {oV : Value} {mb n : Nat} {D : DataW Value} {f : V → Option Value} (h : Rg base w ps used oV mb n D f) (i : Nat) (hi : i < ps.length) :
    Rg base (w.setCell ⟨ps[i].g, 5, none⟩ (.bool true)) ps (markU used i) oV mb n D f ∧ w.grownBy (w.setCell ⟨ps[i].g, 5, none⟩ (.bool true)) (some ps[i].g) := by
  have hcell := (h.each i hi).cells
  have hlt := (Array.getElem?_eq_some_iff.1 hcell).1
  have hset := setCell_block hcell 5 (.bool true)
  have hg : w.grownBy (w.setCell ⟨ps[i].g, 5, none⟩ (.bool true)) (some ps[i].g) := by
    have hb := (Below.refl ps[i].g w).setCell (p := ⟨ps[i].g, 5, none⟩) (Nat.le_refl _) (.bool true)
    refine ⟨hb.os, hb.tape, hb.output, hb.size, fun k hk hne => ?_⟩
    have hne' : ¬ ps[i].g = k := fun e => hne (by rw [e])
    simp only [World.setCell, Array.getElem?_modify, if_neg hne']
  have hr : RowT w base 86 (some ps[i].g) := fun g hg' => by
    cases hg'
    exact ⟨⟨_, _, hcell⟩, (h.each i hi).base_⟩
  refine ⟨⟨own_keep hg hr.weak (by decide) h.opens, fun j hj => ?_, h.apart, h.mr.keep hg hr (by decide)⟩, hg⟩
  have hx := h.each j hj
  by_cases hij : j = i
  · subst hij
    have hm : markU used j j = true := by unfold markU; rw [if_pos rfl]
    refine ⟨hx.base_, ?_, hx.pts.keep hg hr.weak (by decide), hx.room, hx.two⟩
    rw [hset, hm]
    unfold passCells
    rfl
  · have hm : markU used i j = used j := by unfold markU; rw [if_neg hij]
    rw [hm]
    refine ⟨hx.base_, ?_, hx.pts.keep hg hr.weak (by decide), hx.room, hx.two⟩
    have hne : ps[j].g ≠ ps[i].g := by
      intro he
      exact hij ((List.getElem_inj (h₀ := by simpa using hj) (h₁ := by simpa using hi) h.apart).1 (by simpa using he))
    exact (hg.block _ (Array.getElem?_eq_some_iff.1 hx.cells).1 (fun e => hne (Option.some.inj e))).trans hx.cells
/-- The row of a point's ends. -/
theorem Rg.look {base : Nat} {w : World} {ps : List PassV} {used : Nat → Bool} {oV : Value} {mb n : Nat} {D : DataW Value} {f : V → Option Value} (h : Rg base w ps used oV mb n D f) (v : V) (hne : atL (passL ps) v ≠ []) :
    ∃ (A : Option Addr) (c : Nat), (Instr.lookup 78 (.map (some mb)) (vecV v) false).run Tryz.prog w = .ok (.slice A (atL (passL ps) v).length c) w ∧ w.ownsRow base 88 2 (.slice A (atL (passL ps) v).length c) (atL (passL ps) v).length ((atL (passL ps) v).flatMap endCells) := by
  cases hf : f v with
  | none => exact absurd ((h.mr.rows v).1 hf) hne
  | some u =>
    have hwf := h.mr.wfk v u hf
    obtain ⟨_, hrow⟩ := (h.mr.rows v).2 u hf
    obtain ⟨A, c, rfl, _⟩ := own_shape hrow
    obtain ⟨x, hrun, hat⟩ := map_look h.mr.map_ law_vec Tryz.underlying78 (zero_rows w) (vec_made v hwf)
    have h2 := h.mr.fun_.2.2 v (.held (.slice none 0 0)) hwf
    rw [hat, hf] at h2
    injection h2 with h2
    subst h2
    exact ⟨A, c, hrun, hrow⟩
theorem at_ends {ps : List Pass} {i : Nat} (hi : i < ps.length) (k : Nat) : atL ps (endOf (passAt ps i) k) ≠ [] := by
  have hmem : ∀ (ps : List Pass) (j : Nat) (p : Pass), p ∈ ps → ∀ v, (p.e0 = v ∨ p.e1 = v) → atFrom ps j v ≠ [] := by
    intro ps
    induction ps with
    | nil => intro j p hp; cases hp
    | cons q r ih =>
      intro j p hp v hv
      unfold atFrom
      rcases List.mem_cons.1 hp with rfl | hp
      · rcases hv with h | h
        · simp [h]
        · simp [h]
      · have := ih (j + 1) p hp v hv
        simp [this]
  have hp : passAt ps i ∈ ps := by
    unfold passAt
    rw [List.getD_eq_getElem?_getD, List.getElem?_eq_getElem hi]
    exact List.getElem_mem hi
  refine hmem ps 0 _ hp _ ?_
  unfold endOf
  split
  · exact .inl rfl
  · exact .inr rfl
theorem other_range {ps : List Pass} (ht : twice ps = true) {i : Nat} (hi : i < ps.length) (k : Nat) : (otherEnd ps i k).1 < ps.length ∧ (otherEnd ps i k).2 ≤ 1 := by
  have h2 := twice_keys.1 ht _ (at_ends hi (1 - k))
  have hm : ∀ j, j < 2 → ((atL ps (endOf (passAt ps i) (1 - k))).getD j (0, 0)).1 < ps.length ∧ ((atL ps (endOf (passAt ps i) (1 - k))).getD j (0, 0)).2 ≤ 1 := by
    intro j hj
    rw [List.getD_eq_getElem?_getD, List.getElem?_eq_getElem (by omega)]
    have := atFrom_mem _ ps 0 _ (List.getElem_mem (l := atL ps (endOf (passAt ps i) (1 - k))) (n := j) (by omega))
    simp only [Option.getD_some]
    exact ⟨by have := this.2.1; omega, this.2.2⟩
  unfold otherEnd
  simp only
  split
  · exact hm 1 (by omega)
  · exact hm 0 (by omega)
end Go.Proofs.YtnmmhcchpcbeeaaGreat.GeW

namespace Go.Proofs.YtnmmhcchpcbeeaaGreat.GeW
open Go Go.RowKit Go.Proofs.YtnmmhcchpcbeeaaGreat.Mem Go.Proofs.YtnmmhcchpcbeeaaGreat.Ge
attribute [local go_sem ↓] Go.wp_at_zero Go.wp_at_succ
theorem Save.drewN {w w' : World} {ps : List PassV} (h : Save w w' ps) (n : Nat) : Save w (w'.drewN n) ps := ⟨h.os, h.tape, h.output, h.size, h.block⟩
theorem tag_of {w : World} {g : Nat} {cs : Array Value} {T T' : TypeId} {fz : Nat × Nat} (h : w.heap[g]? = some (.cells cs T fz)) (ht : Tagged w g T') : T' = T := by
  obtain ⟨c, f, ht⟩ := ht
  rw [h] at ht
  cases ht
  rfl
theorem grown_set2 (w : World) (b : Nat) (x y : Value) : w.grownBy ((w.setCell ⟨b, 0, none⟩ x).setCell ⟨b, 1, none⟩ y) (some b) := by
  have hb := ((Below.refl b w).setCell (p := ⟨b, 0, none⟩) (Nat.le_refl _) x).setCell (p := ⟨b, 1, none⟩) (Nat.le_refl _) y
  refine ⟨hb.os, hb.tape, hb.output, hb.size, fun k hk hne => ?_⟩
  have hne' : ¬ b = k := fun e => hne (by rw [e])
  simp only [World.setCell, Array.getElem?_modify, if_neg hne']
theorem wpList_lookup_run {P : Program} {w : World} {ops : Array Oper} {rest : List Oper} {o : Oper} {a : Act} {Q : Exit → Act → World → Prop} (hg : o.guard = none) (m x : Operand) (t : TypeId) (hop : o.op = Op.lookup t m x false) (vm vx v : Value) (hm : a.eval m = vm) (hx : a.eval x = vx)
    (hr : (Instr.lookup t vm vx false).run P w = .ok v w) (h : wpList P ops Q rest (a.put o.dst v) w) : wpList P ops Q (o :: rest) a w := by
  refine wpList_plain hg fun K' hK' => ?_
  unfold Oper.wp
  simp [execOp, hop, hm, hx, hr, Result.andThen]
  exact hK' _ _ h
theorem row_news {w : World} {g off : Nat} {xs : List Value} (h : Row w (some ⟨g, off, none⟩) xs) : ∀ j u, xs[j]? = some u → w.cell? ((⟨g, off, none⟩ : Addr).add j) = some u := by
  intro j u hu
  have hj : j < xs.length := (List.getElem?_eq_some_iff.1 hu).1
  obtain ⟨g', off', e', _, hc⟩ := h (by intro h0; rw [h0] at hj; simp at hj)
  cases e'
  have e : (⟨g, off, none⟩ : Addr).add j = ⟨g, off + j, none⟩ := by
    unfold Addr.add
    by_cases h0 : j = 0
    · subst h0; rfl
    · rw [if_neg h0]
  rw [e, hc j hj, hu]
theorem list_two {α : Type} {l : List α} (h : l.length = 2) : ∃ x y, l = [x, y] := by
  match l, h with
  | [x, y], _ => exact ⟨x, y, rfl⟩
theorem unused_le (u : Nat → Bool) : ∀ n, unusedN u n ≤ n
  | 0 => Nat.le_refl _
  | n + 1 => by
    have := unused_le u n
    unfold unusedN
    split <;> omega
theorem unused_same (u : Nat → Bool) (i : Nat) : ∀ n, n ≤ i → unusedN (markU u i) n = unusedN u n
  | 0, _ => rfl
  | n + 1, h => by
    unfold unusedN
    rw [unused_same u i n (by omega)]
    have : markU u i n = u n := by unfold markU; rw [if_neg (by omega)]
    rw [this]
theorem unused_mark (u : Nat → Bool) (i : Nat) (hu : u i = false) : ∀ n, i < n → unusedN (markU u i) n + 1 = unusedN u n
  | 0, h => absurd h (Nat.not_lt_zero _)
  | n + 1, h => by
    unfold unusedN
    by_cases e : i = n
    · subst e
      rw [unused_same u i i (Nat.le_refl _)]
      have : markU u i i = true := by unfold markU; rw [if_pos rfl]
      rw [this, hu]
      simp
    · have h2 := unused_mark u i hu n (by omega)
      have : markU u i n = u n := by unfold markU; rw [if_neg (fun h => e h.symm)]
      rw [this]
      omega
/-- What is gathered, behind a chain. -/
theorem Rg.of_save {base : Nat} {w w' : World} {ps : List PassV} {used u : Nat → Bool} {oV : Value} {mb n : Nat} {D : DataW Value} {f : V → Option Value} (h : Rg base w ps used oV mb n D f) (hs : Save w w' ps) (hc : ∀ (i : Nat) (h : i < ps.length), w'.heap[ps[i].g]? = some (.cells (passCells ps[i] (u i)) 86 (0, 0))) : Rg base w' ps u oV mb n D f where
  opens := hs.own (fun q hq => (h.tags q hq).1) (by decide) h.opens
  each := fun i hi => ⟨(h.each i hi).base_, hc i hi, hs.pts h.tags (h.each i hi).pts, (h.each i hi).room, (h.each i hi).two⟩
  apart := h.apart
  mr := by
    have hmb : w'.heap[mb]? = w.heap[mb]? := hs.block mb h.mr.map_.lt (fun q hq he => by
      subst he
      exact map_block h.mr.map_ (h.tags q hq).1 rfl)
    refine ⟨h.mr.mbase, ?_, h.mr.fun_, fun v => ⟨(h.mr.rows v).1, fun u' hu => ⟨((h.mr.rows v).2 u' hu).1, hs.own (fun q hq => (h.tags q hq).1) (by decide) ((h.mr.rows v).2 u' hu).2⟩⟩, h.mr.rapart, h.mr.wfk⟩
    obtain ⟨es, cl, hb, r⟩ := h.mr.map_
    exact ⟨es, cl, hmb.trans hb, r⟩
set_option maxRecDepth 100000 in
set_option maxHeartbeats 8000000 in
theorem chain_any (base : Nat) (ps : List PassV) (used : Nat → Bool) (oA : Option Addr) (oc mb n : Nat) (D : DataW Value) (fm : V → Option Value) (w : World) (h : Rg base w ps used (.slice oA ps.length oc) mb n D fm) (htw : twice (passL ps) = true) (i0 : Nat) (hi0 : i0 < ps.length) (hps : ps.length ≤ 1000000) :
    Calls Tryz.prog 43 #[.slice oA ps.length oc, .map (some mb), .int .i64 (i0 : Int)] w fun e w' => (∃ v, e = .returned v ∧ w'.ownsRow w.heap.size 53 2 v (chainL (passL ps) used i0).1.length ((chainL (passL ps) used i0).1.flatMap ptCells)) ∧ Rg base w' ps (chainL (passL ps) used i0).2 (.slice oA ps.length oc) mb n D fm ∧ Save w w' ps := by
  have HRG := Lib.hid h
  have HTW := Lib.hid htw
  have hpl : (passL ps).length = ps.length := by unfold passL; simp
  obtain ⟨og, rfl⟩ : ∃ og, oA = some ⟨og, 0, none⟩ := by
    obtain ⟨g, c, hv, _⟩ := own_some h.opens (by omega)
    injection hv with hv
    exact ⟨g, hv⟩
  clear h htw
  go_enter Tryz.func43, Tryz.ntmps43
  go_wp2
  go_loopg [7, 8, 9] (ps.length + 1) (fun f o i k wr => ∃ (u : Nat → Bool) (ii kk : Nat) (out : List V), i = .int .i64 (ii : Int) ∧ k = .int .i64 (kk : Int) ∧ ii < ps.length ∧ kk ≤ 1 ∧ Hid (chainGo (passL ps) f u ii kk out = chainL (passL ps) used i0) ∧ Hid (unusedN u ps.length < f) ∧ Hid (out.length + 40000 * f ≤ 40000 * (ps.length + 1)) ∧ Hid (Save w wr ps) ∧ Hid (∀ (j : Nat) (h : j < ps.length), wr.heap[ps[j].g]? = some (.cells (passCells ps[j] (u j)) 86 (0, 0))) ∧ Hid (wr.ownsRow w.heap.size 53 2 o out.length (out.flatMap ptCells)))
  case atStart => exact ⟨used, i0, 0, [], rfl, rfl, hi0, by omega, Lib.hid (by unfold chainL; rw [hpl]), Lib.hid (by have := unused_le used ps.length; omega), Lib.hid (by simp), Lib.hid (Save.refl _ _), Lib.hid (fun j h => (HRG.out.each j h).cells), Lib.hid (World.ownsRow_nil _ _ _ _)⟩
  case round =>
    obtain ⟨u, ii, kk, out, rfl, rfl, hii, hkk, HGO0, HUN0, HLB0, HSV, HC, HOW⟩ := hrel
    rcases gk with _ | f
    · exact absurd HUN0.out (by omega)
    have HRGW := Lib.hid (HRG.out.of_save HSV.out HC.out)
    obtain ⟨q, HQ⟩ : ∃ q, Hid (ps[ii] = q) := ⟨_, Lib.hid rfl⟩
    have cO : wr.cell? ⟨og, ii, none⟩ = some (.pointer (some ⟨q.g, 0, none⟩)) := by
      rw [(own_cells HRGW.out.opens ii (by omega)).1, List.getElem?_map, List.getElem?_eq_getElem hii, HQ.out]
      rfl
    have HPI : Hid (PassIn base wr q (u ii)) := Lib.hid (by have := HRGW.out.each ii hii; rw [HQ.out] at this; exact this)
    have c5 : wr.cell? ⟨q.g, 5, none⟩ = some (.bool (u ii)) := cellIn HPI.out.cells 5 (by simp [passCells])
    have hfz : wr.frozen? ⟨q.g, 5, none⟩ = false := by unfold World.frozen?; rw [HPI.out.cells]; simp
    have hqlt := (Array.getElem?_eq_some_iff.1 HPI.out.cells).1
    have hiz : (ii : Int) < (ps.length : Int) := by omega
    cases hu : u ii
    case true =>
      have HF : Hid (chainL (passL ps) used i0 = (out, u)) := Lib.hid (by rw [← HGO0.out]; unfold chainGo; rw [hu]; rfl)
      rw [hu] at c5
      clear hu
      go_wp2
      go_ret
      rw [HF.out]
      exact ⟨⟨_, rfl, HOW.out⟩, HRGW.out, HSV.out⟩
    case false =>
      have HGO : Hid (chainGo (passL ps) f (markU u ii) (otherEnd (passL ps) ii kk).1 (otherEnd (passL ps) ii kk).2 (out ++ (passPts q.p kk).drop (min out.length 1)) = chainL (passL ps) used i0) := Lib.hid (by
        have hp : passAt (passL ps) ii = q.p := by unfold passAt passL; rw [List.getD_eq_getElem?_getD, List.getElem?_map, List.getElem?_eq_getElem hii, HQ.out]; rfl
        rw [← HGO0.out]; conv => rhs; unfold chainGo
        rw [hu, hp]; rfl)
      have HUN : Hid (unusedN (markU u ii) ps.length < f) := Lib.hid (by have h1 := unused_mark u ii hu ps.length hii; have h2 := HUN0.out; omega)
      have HRNG := Lib.hid (other_range HTW.out (i := ii) (by omega) kk)
      rw [hpl] at HRNG
      have HMK := Lib.hid (HRGW.out.mark_ ii hii)
      rw [HQ.out] at HMK
      have HLB : Hid ((out ++ (passPts q.p kk).drop (min out.length 1)).length + 40000 * f ≤ 40000 * (ps.length + 1)) := Lib.hid (by
        have h1 := HLB0.out
        have h2 := HPI.out.two
        rw [List.length_append, List.length_drop, passPts_len]
        omega)
      rw [hu] at c5
      clear hu HGO0 HUN0
      go_upto_region 6 with fail
      generalize wr.setCell ⟨q.g, 5, none⟩ (.bool true) = W1 at *
      have HSV1 : Hid (Save w W1 ps) := Lib.hid (HSV.out.grown HMK.out.2 (fun g hg => by cases hg; exact .inr ⟨q, by rw [← HQ.out]; exact List.getElem_mem hii, rfl⟩))
      have HC1 : Hid (∀ (j : Nat) (h : j < ps.length), W1.heap[ps[j].g]? = some (.cells (passCells ps[j] (markU u ii j)) 86 (0, 0))) := Lib.hid (fun j h => (HMK.out.1.each j h).cells)
      have HPI1 : Hid (PassIn base W1 q (markU u ii ii)) := Lib.hid (by have := HMK.out.1.each ii hii; rw [HQ.out] at this; exact this)
      have HOW1 := Lib.hid (own_keep HMK.out.2 (show RowW wr 0 86 (some q.g) from fun g hg => by cases hg; exact ⟨fun T' ht => tag_of HPI.out.cells ht, Nat.zero_le _⟩) (by decide) HOW.out)
      clear cO c5 hfz hqlt HRGW HPI HMK HSV HC
      rcases (show kk = 0 ∨ kk = 1 by omega) with rfl | rfl
      · by_cases h0 : out.length = 0
        · skip
          have hmn : min out.length 1 = 0 := by omega
          have HMN := Lib.hid hmn
          clear hmn
          have hz2 : (min (out.length : Int) 1) = 0 := by omega
          clear h0
          obtain ⟨oV, oC, rfl, hoC⟩ := own_shape HOW.out
          have HPC : Hid ((passPts q.p 0).length = q.p.pts.length) := Lib.hid (passPts_len q.p 0)
          have HPA := Lib.hid (pass_any base q (markU u ii ii) 0 (by omega) W1 HPI1.out)
          have hq2 := HPI1.out.two
          go_wp2_with fail
          refine HPA.out.mono ?_
          rintro e W2 ⟨⟨v, rfl, hownv⟩, hb2⟩
          obtain ⟨gv, cv, rfl, hcv⟩ := own_some hownv (by omega)
          have HSV2 := Lib.hid (HSV1.out.below hb2)
          have HC2 : Hid (∀ (j : Nat) (h : j < ps.length), W2.heap[ps[j].g]? = some (.cells (passCells ps[j] (markU u ii j)) 86 (0, 0))) := Lib.hid (fun j h => (hb2.block _ (Array.getElem?_eq_some_iff.1 (HC1.out j h)).1).trans (HC1.out j h))
          have HOW2 := Lib.hid (own_below HOW1.out hb2)
          have HRW : Hid (Row W2 (some ⟨gv, 0, none⟩) (((passPts q.p 0).drop 0).flatMap ptCells)) := Lib.hid (by
            rw [← fm_drop pt_len]
            intro hne
            obtain ⟨g', off', e', hlt', hc'⟩ := Row.of_own hownv (by intro h0; rw [h0] at hne; simp at hne)
            cases e'
            refine ⟨gv, 0, rfl, hlt', fun j hj => ?_⟩
            rw [List.length_drop] at hj
            rw [List.getElem?_drop]
            have := hc' (0 * 2 + j) (by omega)
            rw [Nat.zero_add] at this
            exact this)
          have HLD : Hid ((((passPts q.p 0).drop 0).flatMap ptCells).length = q.p.pts.length * 2) := Lib.hid (by rw [flatMap_len pt_len, List.length_drop, HPC.out]; rfl)
          have hcv1 : ¬ cv = 0 := by omega
          have hcv2 : 0 ≤ cv := by omega
          have hcv3 : 0 ≤ q.p.pts.length := by omega
          have hlb := HLB0.out
          have hw2 : w.heap.size ≤ W2.heap.size := HSV2.out.size
          clear hownv hb2 HPA HSV1 HC1 HOW1
          obtain ⟨vi0, via, vib, vic, vid⟩ := info_parts info_vec
          obtain ⟨g3, c3, W3, hrun, hown3, hg3, hat3, hlt3⟩ := run_append_lies (P := Tryz.prog) W2 25 25 w.heap.size 53 vi0 _ 2 16 Tryz.underlying25 via vib vic vid rfl (by omega) _ out.length _ HOW2.out ⟨gv, 0, none⟩ q.p.pts.length cv _ HLD.out (row_news HRW.out) (pt_one _) (by omega) (by unfold maxLen; omega) (by omega) hw2 W2.heap.size rfl
          have HSV3 := Lib.hid (HSV2.out.grown hg3 (fun g hg => .inl (own_tag HOW2.out hg).2))
          have HC3 : Hid (∀ (j : Nat) (h : j < ps.length), W3.heap[ps[j].g]? = some (.cells (passCells ps[j] (markU u ii j)) 86 (0, 0))) := Lib.hid (fun j h => heap_keep hg3 (RowT.own HOW2.out).weak (by decide) (HC2.out j h))
          have HOW3 := Lib.hid hown3
          have HRG3 := Lib.hid (HRG.out.of_save HSV3.out HC3.out)
          have HPI3 : Hid (PassIn base W3 q (markU u ii ii)) := Lib.hid (by have := HRG3.out.each ii hii; rw [HQ.out] at this; exact this)
          have HOUT : Hid (out.length + q.p.pts.length = (out ++ (passPts q.p 0).drop (min out.length 1)).length ∧ out.flatMap ptCells ++ ((passPts q.p 0).drop 0).flatMap ptCells = (out ++ (passPts q.p 0).drop (min out.length 1)).flatMap ptCells) := Lib.hid (by
            rw [HMN.out]
            refine ⟨by rw [List.length_append, List.length_drop, HPC.out]; rfl, by rw [List.flatMap_append]⟩)
          clear hown3 hg3 hat3 hlt3 HSV2 HC2 HOW2 HRW HLD hcv hlb
          have hpne : atL (passL ps) q.p.e1 ≠ [] := by
            have := at_ends (ps := passL ps) (i := ii) (by omega) (1 - 0)
            have hp : passAt (passL ps) ii = q.p := by unfold passAt passL; rw [List.getD_eq_getElem?_getD, List.getElem?_map, List.getElem?_eq_getElem hii, HQ.out]; rfl
            rw [hp] at this
            exact this
          have hl2 := twice_keys.1 HTW.out _ hpne
          obtain ⟨rA, rc, hlook, hrow⟩ := HRG3.out.look _ hpne
          have HOT : Hid (otherEnd (passL ps) ii 0 = if (atL (passL ps) q.p.e1).getD 0 (0, 0) = (ii, 1) then (atL (passL ps) q.p.e1).getD 1 (0, 0) else (atL (passL ps) q.p.e1).getD 0 (0, 0)) := Lib.hid (by
            have hp : passAt (passL ps) ii = q.p := by unfold passAt passL; rw [List.getD_eq_getElem?_getD, List.getElem?_map, List.getElem?_eq_getElem hii, HQ.out]; rfl
            unfold otherEnd
            rw [hp]
            rfl)
          clear hpne
          generalize atL (passL ps) q.p.e1 = LL at *
          obtain ⟨⟨x1, x2⟩, ⟨y1, y2⟩, rfl⟩ := list_two hl2
          obtain ⟨gr, cr, hrA, _, _, hgrl, hrc⟩ := own_get end_len rfl hrow (by simp)
          have hrA' := hrA
          simp only [List.length_cons, List.length_nil, Nat.zero_add] at hrA' hlook
          injection hrA' with hrA'
          subst hrA'
          have d0 := hrc 0 (by simp) 0 (by decide)
          have d1 := hrc 0 (by simp) 1 (by decide)
          have d2 := hrc 1 (by simp) 0 (by decide)
          have d3 := hrc 1 (by simp) 1 (by decide)
          simp only [endCells, List.getElem_cons_zero, List.getElem_cons_succ, List.getElem?_cons_zero, List.getElem?_cons_succ, Nat.zero_mul, Nat.zero_add, Nat.one_mul, Nat.add_zero] at d0 d1 d2 d3
          simp only [List.getD_cons_zero, List.getD_cons_succ] at HOT
          clear hrc hrow hrA hl2
          have C0 := cellIn HPI3.out.cells 0 (by simp [passCells])
          have C1 := cellIn HPI3.out.cells 1 (by simp [passCells])
          have C2 := cellIn HPI3.out.cells 2 (by simp [passCells])
          have C3 := cellIn HPI3.out.cells 3 (by simp [passCells])
          simp only [passCells, List.getElem_toArray, List.getElem_cons_zero, List.getElem_cons_succ] at C0 C1 C2 C3
          have hlook2 : (Instr.lookup 78 (.map (some mb)) (.agg #[.int .i64 q.p.e1.1, .int .i64 q.p.e1.2]) false).run Tryz.prog W3 = .ok (.slice (some ⟨gr, 0, none⟩) 2 rc) W3 := hlook
          clear hlook
          have hqlt := (Array.getElem?_eq_some_iff.1 HPI3.out.cells).1
          have HO4 := Lib.hid (one_vec W3 (.cells #[.int .i64 (x1 : Int), .int .i64 (x2 : Int)] 88))
          go_upto_region 9 with (first
            | (at_builtin; refine Lib.wpList_append_run _ rfl _ _ _ _ rfl _ _ rfl rfl _ _ hrun ?_)
            | (at_lookup; refine wpList_lookup_run rfl _ _ 78 rfl _ _ _ rfl rfl hlook2 ?_)
            | go_in)
          have HSV4 := Lib.hid (HSV3.out.below HO4.out.1)
          have HC4 : Hid (∀ (j : Nat) (h : j < ps.length), (W3.alloc (.cells #[.int .i64 (x1 : Int), .int .i64 (x2 : Int)] 88)).heap[ps[j].g]? = some (.cells (passCells ps[j] (markU u ii j)) 86 (0, 0))) := Lib.hid (fun j h => (HO4.out.1.block _ (Array.getElem?_eq_some_iff.1 (HC3.out j h)).1).trans (HC3.out j h))
          have HOW4 := Lib.hid (own_below HOW3.out HO4.out.1)
          have HX4 := Lib.hid HO4.out.2
          have HB12 := Lib.hid HSV3.out.size
          have HD4 : Hid (∀ i v, W3.cell? ⟨gr, i, none⟩ = some v → (W3.alloc (.cells #[.int .i64 (x1 : Int), .int .i64 (x2 : Int)] 88)).cell? ⟨gr, i, none⟩ = some v) := Lib.hid (fun i v h => (HO4.out.1.cell (p := ⟨gr, i, none⟩) hgrl).trans h)
          have e0 := HD4.out _ _ d0
          have e1 := HD4.out _ _ d1
          have e2 := HD4.out _ _ d2
          have e3 := HD4.out _ _ d3
          clear hrun hlook2 HSV3 HC3 HOW3 HO4 HRG3 HPI3 C0 C1 C2 C3 d0 d1 d2 d3 HD4
          generalize W3.alloc (.cells #[.int .i64 (x1 : Int), .int .i64 (x2 : Int)] 88) = W4 at *
          generalize W3.heap.size = b12 at *
          obtain ⟨m0, m1⟩ := pair_at HX4.out (Below.refl _ _)
          by_cases heq : (x1, x2) = (ii, 1)
          · have HPR : ∀ w, (Op.equalIn 10000 88 (.agg #[.int .i64 (x1 : Int), .int .i64 (x2 : Int)]) (.agg #[.int .i64 (ii : Int), .int .i64 1])).run Tryz.prog w = .ok true w := fun w => by
              rw [eqin_pair, decide_eq_true (by simp only [Prod.mk.injEq] at heq ⊢; omega)]
            have hoo : Hid (otherEnd (passL ps) ii 0 = (y1, y2)) := Lib.hid (by rw [HOT.out, if_pos heq])
            clear heq
            obtain ⟨f0, f1⟩ := frozen_pair HX4.out
            have hs4 := lt_of_block HX4.out
            have HX6 : Hid (((W4.setCell ⟨b12, 0, none⟩ (.int .i64 (y1 : Int))).setCell ⟨b12, 1, none⟩ (.int .i64 (y2 : Int))).heap[b12]? = some (.cells #[.int .i64 (y1 : Int), .int .i64 (y2 : Int)] 88 (0, 0))) := Lib.hid (setCell_block (setCell_block HX4.out 0 _) 1 _)
            have HG6 : Hid (W4.grownBy ((W4.setCell ⟨b12, 0, none⟩ (.int .i64 (y1 : Int))).setCell ⟨b12, 1, none⟩ (.int .i64 (y2 : Int))) (some b12)) := Lib.hid (grown_set2 _ _ _ _)
            go_upto_region 11 with fail
            clear e0 e1 e2 e3 m0 m1 f0 f1 hs4
            generalize (W4.setCell ⟨b12, 0, none⟩ (.int .i64 (y1 : Int))).setCell ⟨b12, 1, none⟩ (.int .i64 (y2 : Int)) = w6 at *
            have HSV6 := Lib.hid (HSV4.out.grown HG6.out (fun g hg => by cases hg; exact .inl HB12.out))
            have r6 : RowW W4 0 88 (some b12) := fun g hg => by cases hg; exact ⟨fun T' ht => tag_of HX4.out ht, Nat.zero_le _⟩
            have HC6 : Hid (∀ (j : Nat) (h : j < ps.length), w6.heap[ps[j].g]? = some (.cells (passCells ps[j] (markU u ii j)) 86 (0, 0))) := Lib.hid (fun j h => heap_keep HG6.out r6 (by decide) (HC4.out j h))
            have HOW6 := Lib.hid (own_keep HG6.out r6 (by decide) HOW4.out)
            clear r6 HG6
            obtain ⟨n0, n1⟩ := pair_at HX6.out (Below.refl _ _)
            go_quiet (fail)
            go_wp2
            go_roundg f
            case measure => exact Nat.lt_succ_self f
            case rel => exact ⟨markU u ii, y1, y2, out ++ (passPts q.p 0).drop (min out.length 1), rfl, rfl, by have := HRNG.out; rw [hoo.out] at this; exact this.1, by have := HRNG.out; rw [hoo.out] at this; exact this.2, Lib.hid (by have := HGO.out; rw [hoo.out] at this; exact this), HUN, HLB, Lib.hid (HSV6.out.drewN _), HC6, Lib.hid (by rw [← HOUT.out.1, ← HOUT.out.2]; exact HOW6.out)⟩
          · have HPR : ∀ w, (Op.equalIn 10000 88 (.agg #[.int .i64 (x1 : Int), .int .i64 (x2 : Int)]) (.agg #[.int .i64 (ii : Int), .int .i64 1])).run Tryz.prog w = .ok false w := fun w => by
              rw [eqin_pair, decide_eq_false (by simp only [Prod.mk.injEq] at heq ⊢; omega)]
            have hoo : Hid (otherEnd (passL ps) ii 0 = (x1, x2)) := Lib.hid (by rw [HOT.out, if_neg heq])
            clear heq
            go_upto_region 11 with fail
            clear e0 e1 e2 e3 m0 m1
            have HX6 := HX4
            have HSV6 := HSV4
            have HC6 := HC4
            have HOW6 := HOW4
            obtain ⟨n0, n1⟩ := pair_at HX6.out (Below.refl _ _)
            go_quiet (fail)
            go_wp2
            go_roundg f
            case measure => exact Nat.lt_succ_self f
            case rel => exact ⟨markU u ii, x1, x2, out ++ (passPts q.p 0).drop (min out.length 1), rfl, rfl, by have := HRNG.out; rw [hoo.out] at this; exact this.1, by have := HRNG.out; rw [hoo.out] at this; exact this.2, Lib.hid (by have := HGO.out; rw [hoo.out] at this; exact this), HUN, HLB, Lib.hid (HSV6.out.drewN _), HC6, Lib.hid (by rw [← HOUT.out.1, ← HOUT.out.2]; exact HOW6.out)⟩

        · skip
          have hmn : min out.length 1 = 1 := by omega
          have HMN := Lib.hid hmn
          clear hmn
          have hz2 : (min (out.length : Int) 1) = 1 := by omega
          clear h0
          obtain ⟨oV, oC, rfl, hoC⟩ := own_shape HOW.out
          have HPC : Hid ((passPts q.p 0).length = q.p.pts.length) := Lib.hid (passPts_len q.p 0)
          have HPA := Lib.hid (pass_any base q (markU u ii ii) 0 (by omega) W1 HPI1.out)
          have hq2 := HPI1.out.two
          go_wp2_with fail
          refine HPA.out.mono ?_
          rintro e W2 ⟨⟨v, rfl, hownv⟩, hb2⟩
          obtain ⟨gv, cv, rfl, hcv⟩ := own_some hownv (by omega)
          have HSV2 := Lib.hid (HSV1.out.below hb2)
          have HC2 : Hid (∀ (j : Nat) (h : j < ps.length), W2.heap[ps[j].g]? = some (.cells (passCells ps[j] (markU u ii j)) 86 (0, 0))) := Lib.hid (fun j h => (hb2.block _ (Array.getElem?_eq_some_iff.1 (HC1.out j h)).1).trans (HC1.out j h))
          have HOW2 := Lib.hid (own_below HOW1.out hb2)
          have HRW : Hid (Row W2 (some ⟨gv, 2, none⟩) (((passPts q.p 0).drop 1).flatMap ptCells)) := Lib.hid (by
            rw [← fm_drop pt_len]
            intro hne
            obtain ⟨g', off', e', hlt', hc'⟩ := Row.of_own hownv (by intro h0; rw [h0] at hne; simp at hne)
            cases e'
            refine ⟨gv, 2, rfl, hlt', fun j hj => ?_⟩
            rw [List.length_drop] at hj
            rw [List.getElem?_drop]
            have := hc' (1 * 2 + j) (by omega)
            rw [Nat.zero_add] at this
            exact this)
          have HLD : Hid ((((passPts q.p 0).drop 1).flatMap ptCells).length = (q.p.pts.length - 1) * 2) := Lib.hid (by rw [flatMap_len pt_len, List.length_drop, HPC.out])
          have hcv1 : ¬ cv = 1 := by omega
          have hcv2 : 1 ≤ cv := by omega
          have hcv3 : 1 ≤ q.p.pts.length := by omega
          have hlb := HLB0.out
          have hw2 : w.heap.size ≤ W2.heap.size := HSV2.out.size
          clear hownv hb2 HPA HSV1 HC1 HOW1
          obtain ⟨vi0, via, vib, vic, vid⟩ := info_parts info_vec
          obtain ⟨g3, c3, W3, hrun, hown3, hg3, hat3, hlt3⟩ := run_append_lies (P := Tryz.prog) W2 25 25 w.heap.size 53 vi0 _ 2 16 Tryz.underlying25 via vib vic vid rfl (by omega) _ out.length _ HOW2.out ⟨gv, 2, none⟩ (q.p.pts.length - 1) (cv - 1) _ HLD.out (row_news HRW.out) (pt_one _) (by omega) (by unfold maxLen; omega) (by omega) hw2 W2.heap.size rfl
          have HSV3 := Lib.hid (HSV2.out.grown hg3 (fun g hg => .inl (own_tag HOW2.out hg).2))
          have HC3 : Hid (∀ (j : Nat) (h : j < ps.length), W3.heap[ps[j].g]? = some (.cells (passCells ps[j] (markU u ii j)) 86 (0, 0))) := Lib.hid (fun j h => heap_keep hg3 (RowT.own HOW2.out).weak (by decide) (HC2.out j h))
          have HOW3 := Lib.hid hown3
          have HRG3 := Lib.hid (HRG.out.of_save HSV3.out HC3.out)
          have HPI3 : Hid (PassIn base W3 q (markU u ii ii)) := Lib.hid (by have := HRG3.out.each ii hii; rw [HQ.out] at this; exact this)
          have HOUT : Hid (out.length + (q.p.pts.length - 1) = (out ++ (passPts q.p 0).drop (min out.length 1)).length ∧ out.flatMap ptCells ++ ((passPts q.p 0).drop 1).flatMap ptCells = (out ++ (passPts q.p 0).drop (min out.length 1)).flatMap ptCells) := Lib.hid (by
            rw [HMN.out]
            refine ⟨by rw [List.length_append, List.length_drop, HPC.out], by rw [List.flatMap_append]⟩)
          clear hown3 hg3 hat3 hlt3 HSV2 HC2 HOW2 HRW HLD hcv hlb
          have hpne : atL (passL ps) q.p.e1 ≠ [] := by
            have := at_ends (ps := passL ps) (i := ii) (by omega) (1 - 0)
            have hp : passAt (passL ps) ii = q.p := by unfold passAt passL; rw [List.getD_eq_getElem?_getD, List.getElem?_map, List.getElem?_eq_getElem hii, HQ.out]; rfl
            rw [hp] at this
            exact this
          have hl2 := twice_keys.1 HTW.out _ hpne
          obtain ⟨rA, rc, hlook, hrow⟩ := HRG3.out.look _ hpne
          have HOT : Hid (otherEnd (passL ps) ii 0 = if (atL (passL ps) q.p.e1).getD 0 (0, 0) = (ii, 1) then (atL (passL ps) q.p.e1).getD 1 (0, 0) else (atL (passL ps) q.p.e1).getD 0 (0, 0)) := Lib.hid (by
            have hp : passAt (passL ps) ii = q.p := by unfold passAt passL; rw [List.getD_eq_getElem?_getD, List.getElem?_map, List.getElem?_eq_getElem hii, HQ.out]; rfl
            unfold otherEnd
            rw [hp]
            rfl)
          clear hpne
          generalize atL (passL ps) q.p.e1 = LL at *
          obtain ⟨⟨x1, x2⟩, ⟨y1, y2⟩, rfl⟩ := list_two hl2
          obtain ⟨gr, cr, hrA, _, _, hgrl, hrc⟩ := own_get end_len rfl hrow (by simp)
          have hrA' := hrA
          simp only [List.length_cons, List.length_nil, Nat.zero_add] at hrA' hlook
          injection hrA' with hrA'
          subst hrA'
          have d0 := hrc 0 (by simp) 0 (by decide)
          have d1 := hrc 0 (by simp) 1 (by decide)
          have d2 := hrc 1 (by simp) 0 (by decide)
          have d3 := hrc 1 (by simp) 1 (by decide)
          simp only [endCells, List.getElem_cons_zero, List.getElem_cons_succ, List.getElem?_cons_zero, List.getElem?_cons_succ, Nat.zero_mul, Nat.zero_add, Nat.one_mul, Nat.add_zero] at d0 d1 d2 d3
          simp only [List.getD_cons_zero, List.getD_cons_succ] at HOT
          clear hrc hrow hrA hl2
          have C0 := cellIn HPI3.out.cells 0 (by simp [passCells])
          have C1 := cellIn HPI3.out.cells 1 (by simp [passCells])
          have C2 := cellIn HPI3.out.cells 2 (by simp [passCells])
          have C3 := cellIn HPI3.out.cells 3 (by simp [passCells])
          simp only [passCells, List.getElem_toArray, List.getElem_cons_zero, List.getElem_cons_succ] at C0 C1 C2 C3
          have hlook2 : (Instr.lookup 78 (.map (some mb)) (.agg #[.int .i64 q.p.e1.1, .int .i64 q.p.e1.2]) false).run Tryz.prog W3 = .ok (.slice (some ⟨gr, 0, none⟩) 2 rc) W3 := hlook
          clear hlook
          have hqlt := (Array.getElem?_eq_some_iff.1 HPI3.out.cells).1
          have HO4 := Lib.hid (one_vec W3 (.cells #[.int .i64 (x1 : Int), .int .i64 (x2 : Int)] 88))
          go_upto_region 9 with (first
            | (at_builtin; refine Lib.wpList_append_run _ rfl _ _ _ _ rfl _ _ rfl rfl _ _ hrun ?_)
            | (at_lookup; refine wpList_lookup_run rfl _ _ 78 rfl _ _ _ rfl rfl hlook2 ?_)
            | go_in)
          have HSV4 := Lib.hid (HSV3.out.below HO4.out.1)
          have HC4 : Hid (∀ (j : Nat) (h : j < ps.length), (W3.alloc (.cells #[.int .i64 (x1 : Int), .int .i64 (x2 : Int)] 88)).heap[ps[j].g]? = some (.cells (passCells ps[j] (markU u ii j)) 86 (0, 0))) := Lib.hid (fun j h => (HO4.out.1.block _ (Array.getElem?_eq_some_iff.1 (HC3.out j h)).1).trans (HC3.out j h))
          have HOW4 := Lib.hid (own_below HOW3.out HO4.out.1)
          have HX4 := Lib.hid HO4.out.2
          have HB12 := Lib.hid HSV3.out.size
          have HD4 : Hid (∀ i v, W3.cell? ⟨gr, i, none⟩ = some v → (W3.alloc (.cells #[.int .i64 (x1 : Int), .int .i64 (x2 : Int)] 88)).cell? ⟨gr, i, none⟩ = some v) := Lib.hid (fun i v h => (HO4.out.1.cell (p := ⟨gr, i, none⟩) hgrl).trans h)
          have e0 := HD4.out _ _ d0
          have e1 := HD4.out _ _ d1
          have e2 := HD4.out _ _ d2
          have e3 := HD4.out _ _ d3
          clear hrun hlook2 HSV3 HC3 HOW3 HO4 HRG3 HPI3 C0 C1 C2 C3 d0 d1 d2 d3 HD4
          generalize W3.alloc (.cells #[.int .i64 (x1 : Int), .int .i64 (x2 : Int)] 88) = W4 at *
          generalize W3.heap.size = b12 at *
          obtain ⟨m0, m1⟩ := pair_at HX4.out (Below.refl _ _)
          by_cases heq : (x1, x2) = (ii, 1)
          · have HPR : ∀ w, (Op.equalIn 10000 88 (.agg #[.int .i64 (x1 : Int), .int .i64 (x2 : Int)]) (.agg #[.int .i64 (ii : Int), .int .i64 1])).run Tryz.prog w = .ok true w := fun w => by
              rw [eqin_pair, decide_eq_true (by simp only [Prod.mk.injEq] at heq ⊢; omega)]
            have hoo : Hid (otherEnd (passL ps) ii 0 = (y1, y2)) := Lib.hid (by rw [HOT.out, if_pos heq])
            clear heq
            obtain ⟨f0, f1⟩ := frozen_pair HX4.out
            have hs4 := lt_of_block HX4.out
            have HX6 : Hid (((W4.setCell ⟨b12, 0, none⟩ (.int .i64 (y1 : Int))).setCell ⟨b12, 1, none⟩ (.int .i64 (y2 : Int))).heap[b12]? = some (.cells #[.int .i64 (y1 : Int), .int .i64 (y2 : Int)] 88 (0, 0))) := Lib.hid (setCell_block (setCell_block HX4.out 0 _) 1 _)
            have HG6 : Hid (W4.grownBy ((W4.setCell ⟨b12, 0, none⟩ (.int .i64 (y1 : Int))).setCell ⟨b12, 1, none⟩ (.int .i64 (y2 : Int))) (some b12)) := Lib.hid (grown_set2 _ _ _ _)
            go_upto_region 11 with fail
            clear e0 e1 e2 e3 m0 m1 f0 f1 hs4
            generalize (W4.setCell ⟨b12, 0, none⟩ (.int .i64 (y1 : Int))).setCell ⟨b12, 1, none⟩ (.int .i64 (y2 : Int)) = w6 at *
            have HSV6 := Lib.hid (HSV4.out.grown HG6.out (fun g hg => by cases hg; exact .inl HB12.out))
            have r6 : RowW W4 0 88 (some b12) := fun g hg => by cases hg; exact ⟨fun T' ht => tag_of HX4.out ht, Nat.zero_le _⟩
            have HC6 : Hid (∀ (j : Nat) (h : j < ps.length), w6.heap[ps[j].g]? = some (.cells (passCells ps[j] (markU u ii j)) 86 (0, 0))) := Lib.hid (fun j h => heap_keep HG6.out r6 (by decide) (HC4.out j h))
            have HOW6 := Lib.hid (own_keep HG6.out r6 (by decide) HOW4.out)
            clear r6 HG6
            obtain ⟨n0, n1⟩ := pair_at HX6.out (Below.refl _ _)
            go_quiet (fail)
            go_wp2
            go_roundg f
            case measure => exact Nat.lt_succ_self f
            case rel => exact ⟨markU u ii, y1, y2, out ++ (passPts q.p 0).drop (min out.length 1), rfl, rfl, by have := HRNG.out; rw [hoo.out] at this; exact this.1, by have := HRNG.out; rw [hoo.out] at this; exact this.2, Lib.hid (by have := HGO.out; rw [hoo.out] at this; exact this), HUN, HLB, Lib.hid (HSV6.out.drewN _), HC6, Lib.hid (by rw [← HOUT.out.1, ← HOUT.out.2]; exact HOW6.out)⟩
          · have HPR : ∀ w, (Op.equalIn 10000 88 (.agg #[.int .i64 (x1 : Int), .int .i64 (x2 : Int)]) (.agg #[.int .i64 (ii : Int), .int .i64 1])).run Tryz.prog w = .ok false w := fun w => by
              rw [eqin_pair, decide_eq_false (by simp only [Prod.mk.injEq] at heq ⊢; omega)]
            have hoo : Hid (otherEnd (passL ps) ii 0 = (x1, x2)) := Lib.hid (by rw [HOT.out, if_neg heq])
            clear heq
            go_upto_region 11 with fail
            clear e0 e1 e2 e3 m0 m1
            have HX6 := HX4
            have HSV6 := HSV4
            have HC6 := HC4
            have HOW6 := HOW4
            obtain ⟨n0, n1⟩ := pair_at HX6.out (Below.refl _ _)
            go_quiet (fail)
            go_wp2
            go_roundg f
            case measure => exact Nat.lt_succ_self f
            case rel => exact ⟨markU u ii, x1, x2, out ++ (passPts q.p 0).drop (min out.length 1), rfl, rfl, by have := HRNG.out; rw [hoo.out] at this; exact this.1, by have := HRNG.out; rw [hoo.out] at this; exact this.2, Lib.hid (by have := HGO.out; rw [hoo.out] at this; exact this), HUN, HLB, Lib.hid (HSV6.out.drewN _), HC6, Lib.hid (by rw [← HOUT.out.1, ← HOUT.out.2]; exact HOW6.out)⟩

      · by_cases h0 : out.length = 0
        · skip
          have hmn : min out.length 1 = 0 := by omega
          have HMN := Lib.hid hmn
          clear hmn
          have hz2 : (min (out.length : Int) 1) = 0 := by omega
          clear h0
          obtain ⟨oV, oC, rfl, hoC⟩ := own_shape HOW.out
          have HPC : Hid ((passPts q.p 1).length = q.p.pts.length) := Lib.hid (passPts_len q.p 1)
          have HPA := Lib.hid (pass_any base q (markU u ii ii) 1 (by omega) W1 HPI1.out)
          have hq2 := HPI1.out.two
          go_wp2_with fail
          refine HPA.out.mono ?_
          rintro e W2 ⟨⟨v, rfl, hownv⟩, hb2⟩
          obtain ⟨gv, cv, rfl, hcv⟩ := own_some hownv (by omega)
          have HSV2 := Lib.hid (HSV1.out.below hb2)
          have HC2 : Hid (∀ (j : Nat) (h : j < ps.length), W2.heap[ps[j].g]? = some (.cells (passCells ps[j] (markU u ii j)) 86 (0, 0))) := Lib.hid (fun j h => (hb2.block _ (Array.getElem?_eq_some_iff.1 (HC1.out j h)).1).trans (HC1.out j h))
          have HOW2 := Lib.hid (own_below HOW1.out hb2)
          have HRW : Hid (Row W2 (some ⟨gv, 0, none⟩) (((passPts q.p 1).drop 0).flatMap ptCells)) := Lib.hid (by
            rw [← fm_drop pt_len]
            intro hne
            obtain ⟨g', off', e', hlt', hc'⟩ := Row.of_own hownv (by intro h0; rw [h0] at hne; simp at hne)
            cases e'
            refine ⟨gv, 0, rfl, hlt', fun j hj => ?_⟩
            rw [List.length_drop] at hj
            rw [List.getElem?_drop]
            have := hc' (0 * 2 + j) (by omega)
            rw [Nat.zero_add] at this
            exact this)
          have HLD : Hid ((((passPts q.p 1).drop 0).flatMap ptCells).length = q.p.pts.length * 2) := Lib.hid (by rw [flatMap_len pt_len, List.length_drop, HPC.out]; rfl)
          have hcv1 : ¬ cv = 0 := by omega
          have hcv2 : 0 ≤ cv := by omega
          have hcv3 : 0 ≤ q.p.pts.length := by omega
          have hlb := HLB0.out
          have hw2 : w.heap.size ≤ W2.heap.size := HSV2.out.size
          clear hownv hb2 HPA HSV1 HC1 HOW1
          obtain ⟨vi0, via, vib, vic, vid⟩ := info_parts info_vec
          obtain ⟨g3, c3, W3, hrun, hown3, hg3, hat3, hlt3⟩ := run_append_lies (P := Tryz.prog) W2 25 25 w.heap.size 53 vi0 _ 2 16 Tryz.underlying25 via vib vic vid rfl (by omega) _ out.length _ HOW2.out ⟨gv, 0, none⟩ q.p.pts.length cv _ HLD.out (row_news HRW.out) (pt_one _) (by omega) (by unfold maxLen; omega) (by omega) hw2 W2.heap.size rfl
          have HSV3 := Lib.hid (HSV2.out.grown hg3 (fun g hg => .inl (own_tag HOW2.out hg).2))
          have HC3 : Hid (∀ (j : Nat) (h : j < ps.length), W3.heap[ps[j].g]? = some (.cells (passCells ps[j] (markU u ii j)) 86 (0, 0))) := Lib.hid (fun j h => heap_keep hg3 (RowT.own HOW2.out).weak (by decide) (HC2.out j h))
          have HOW3 := Lib.hid hown3
          have HRG3 := Lib.hid (HRG.out.of_save HSV3.out HC3.out)
          have HPI3 : Hid (PassIn base W3 q (markU u ii ii)) := Lib.hid (by have := HRG3.out.each ii hii; rw [HQ.out] at this; exact this)
          have HOUT : Hid (out.length + q.p.pts.length = (out ++ (passPts q.p 1).drop (min out.length 1)).length ∧ out.flatMap ptCells ++ ((passPts q.p 1).drop 0).flatMap ptCells = (out ++ (passPts q.p 1).drop (min out.length 1)).flatMap ptCells) := Lib.hid (by
            rw [HMN.out]
            refine ⟨by rw [List.length_append, List.length_drop, HPC.out]; rfl, by rw [List.flatMap_append]⟩)
          clear hown3 hg3 hat3 hlt3 HSV2 HC2 HOW2 HRW HLD hcv hlb
          have hpne : atL (passL ps) q.p.e0 ≠ [] := by
            have := at_ends (ps := passL ps) (i := ii) (by omega) (1 - 1)
            have hp : passAt (passL ps) ii = q.p := by unfold passAt passL; rw [List.getD_eq_getElem?_getD, List.getElem?_map, List.getElem?_eq_getElem hii, HQ.out]; rfl
            rw [hp] at this
            exact this
          have hl2 := twice_keys.1 HTW.out _ hpne
          obtain ⟨rA, rc, hlook, hrow⟩ := HRG3.out.look _ hpne
          have HOT : Hid (otherEnd (passL ps) ii 1 = if (atL (passL ps) q.p.e0).getD 0 (0, 0) = (ii, 0) then (atL (passL ps) q.p.e0).getD 1 (0, 0) else (atL (passL ps) q.p.e0).getD 0 (0, 0)) := Lib.hid (by
            have hp : passAt (passL ps) ii = q.p := by unfold passAt passL; rw [List.getD_eq_getElem?_getD, List.getElem?_map, List.getElem?_eq_getElem hii, HQ.out]; rfl
            unfold otherEnd
            rw [hp]
            rfl)
          clear hpne
          generalize atL (passL ps) q.p.e0 = LL at *
          obtain ⟨⟨x1, x2⟩, ⟨y1, y2⟩, rfl⟩ := list_two hl2
          obtain ⟨gr, cr, hrA, _, _, hgrl, hrc⟩ := own_get end_len rfl hrow (by simp)
          have hrA' := hrA
          simp only [List.length_cons, List.length_nil, Nat.zero_add] at hrA' hlook
          injection hrA' with hrA'
          subst hrA'
          have d0 := hrc 0 (by simp) 0 (by decide)
          have d1 := hrc 0 (by simp) 1 (by decide)
          have d2 := hrc 1 (by simp) 0 (by decide)
          have d3 := hrc 1 (by simp) 1 (by decide)
          simp only [endCells, List.getElem_cons_zero, List.getElem_cons_succ, List.getElem?_cons_zero, List.getElem?_cons_succ, Nat.zero_mul, Nat.zero_add, Nat.one_mul, Nat.add_zero] at d0 d1 d2 d3
          simp only [List.getD_cons_zero, List.getD_cons_succ] at HOT
          clear hrc hrow hrA hl2
          have C0 := cellIn HPI3.out.cells 0 (by simp [passCells])
          have C1 := cellIn HPI3.out.cells 1 (by simp [passCells])
          have C2 := cellIn HPI3.out.cells 2 (by simp [passCells])
          have C3 := cellIn HPI3.out.cells 3 (by simp [passCells])
          simp only [passCells, List.getElem_toArray, List.getElem_cons_zero, List.getElem_cons_succ] at C0 C1 C2 C3
          have hlook2 : (Instr.lookup 78 (.map (some mb)) (.agg #[.int .i64 q.p.e0.1, .int .i64 q.p.e0.2]) false).run Tryz.prog W3 = .ok (.slice (some ⟨gr, 0, none⟩) 2 rc) W3 := hlook
          clear hlook
          have hqlt := (Array.getElem?_eq_some_iff.1 HPI3.out.cells).1
          have HO4 := Lib.hid (one_vec W3 (.cells #[.int .i64 (x1 : Int), .int .i64 (x2 : Int)] 88))
          go_upto_region 9 with (first
            | (at_builtin; refine Lib.wpList_append_run _ rfl _ _ _ _ rfl _ _ rfl rfl _ _ hrun ?_)
            | (at_lookup; refine wpList_lookup_run rfl _ _ 78 rfl _ _ _ rfl rfl hlook2 ?_)
            | go_in)
          have HSV4 := Lib.hid (HSV3.out.below HO4.out.1)
          have HC4 : Hid (∀ (j : Nat) (h : j < ps.length), (W3.alloc (.cells #[.int .i64 (x1 : Int), .int .i64 (x2 : Int)] 88)).heap[ps[j].g]? = some (.cells (passCells ps[j] (markU u ii j)) 86 (0, 0))) := Lib.hid (fun j h => (HO4.out.1.block _ (Array.getElem?_eq_some_iff.1 (HC3.out j h)).1).trans (HC3.out j h))
          have HOW4 := Lib.hid (own_below HOW3.out HO4.out.1)
          have HX4 := Lib.hid HO4.out.2
          have HB12 := Lib.hid HSV3.out.size
          have HD4 : Hid (∀ i v, W3.cell? ⟨gr, i, none⟩ = some v → (W3.alloc (.cells #[.int .i64 (x1 : Int), .int .i64 (x2 : Int)] 88)).cell? ⟨gr, i, none⟩ = some v) := Lib.hid (fun i v h => (HO4.out.1.cell (p := ⟨gr, i, none⟩) hgrl).trans h)
          have e0 := HD4.out _ _ d0
          have e1 := HD4.out _ _ d1
          have e2 := HD4.out _ _ d2
          have e3 := HD4.out _ _ d3
          clear hrun hlook2 HSV3 HC3 HOW3 HO4 HRG3 HPI3 C0 C1 C2 C3 d0 d1 d2 d3 HD4
          generalize W3.alloc (.cells #[.int .i64 (x1 : Int), .int .i64 (x2 : Int)] 88) = W4 at *
          generalize W3.heap.size = b12 at *
          obtain ⟨m0, m1⟩ := pair_at HX4.out (Below.refl _ _)
          by_cases heq : (x1, x2) = (ii, 0)
          · have HPR : ∀ w, (Op.equalIn 10000 88 (.agg #[.int .i64 (x1 : Int), .int .i64 (x2 : Int)]) (.agg #[.int .i64 (ii : Int), .int .i64 0])).run Tryz.prog w = .ok true w := fun w => by
              rw [eqin_pair, decide_eq_true (by simp only [Prod.mk.injEq] at heq ⊢; omega)]
            have hoo : Hid (otherEnd (passL ps) ii 1 = (y1, y2)) := Lib.hid (by rw [HOT.out, if_pos heq])
            clear heq
            obtain ⟨f0, f1⟩ := frozen_pair HX4.out
            have hs4 := lt_of_block HX4.out
            have HX6 : Hid (((W4.setCell ⟨b12, 0, none⟩ (.int .i64 (y1 : Int))).setCell ⟨b12, 1, none⟩ (.int .i64 (y2 : Int))).heap[b12]? = some (.cells #[.int .i64 (y1 : Int), .int .i64 (y2 : Int)] 88 (0, 0))) := Lib.hid (setCell_block (setCell_block HX4.out 0 _) 1 _)
            have HG6 : Hid (W4.grownBy ((W4.setCell ⟨b12, 0, none⟩ (.int .i64 (y1 : Int))).setCell ⟨b12, 1, none⟩ (.int .i64 (y2 : Int))) (some b12)) := Lib.hid (grown_set2 _ _ _ _)
            go_upto_region 11 with fail
            clear e0 e1 e2 e3 m0 m1 f0 f1 hs4
            generalize (W4.setCell ⟨b12, 0, none⟩ (.int .i64 (y1 : Int))).setCell ⟨b12, 1, none⟩ (.int .i64 (y2 : Int)) = w6 at *
            have HSV6 := Lib.hid (HSV4.out.grown HG6.out (fun g hg => by cases hg; exact .inl HB12.out))
            have r6 : RowW W4 0 88 (some b12) := fun g hg => by cases hg; exact ⟨fun T' ht => tag_of HX4.out ht, Nat.zero_le _⟩
            have HC6 : Hid (∀ (j : Nat) (h : j < ps.length), w6.heap[ps[j].g]? = some (.cells (passCells ps[j] (markU u ii j)) 86 (0, 0))) := Lib.hid (fun j h => heap_keep HG6.out r6 (by decide) (HC4.out j h))
            have HOW6 := Lib.hid (own_keep HG6.out r6 (by decide) HOW4.out)
            clear r6 HG6
            obtain ⟨n0, n1⟩ := pair_at HX6.out (Below.refl _ _)
            go_quiet (fail)
            go_wp2
            go_roundg f
            case measure => exact Nat.lt_succ_self f
            case rel => exact ⟨markU u ii, y1, y2, out ++ (passPts q.p 1).drop (min out.length 1), rfl, rfl, by have := HRNG.out; rw [hoo.out] at this; exact this.1, by have := HRNG.out; rw [hoo.out] at this; exact this.2, Lib.hid (by have := HGO.out; rw [hoo.out] at this; exact this), HUN, HLB, Lib.hid (HSV6.out.drewN _), HC6, Lib.hid (by rw [← HOUT.out.1, ← HOUT.out.2]; exact HOW6.out)⟩
          · have HPR : ∀ w, (Op.equalIn 10000 88 (.agg #[.int .i64 (x1 : Int), .int .i64 (x2 : Int)]) (.agg #[.int .i64 (ii : Int), .int .i64 0])).run Tryz.prog w = .ok false w := fun w => by
              rw [eqin_pair, decide_eq_false (by simp only [Prod.mk.injEq] at heq ⊢; omega)]
            have hoo : Hid (otherEnd (passL ps) ii 1 = (x1, x2)) := Lib.hid (by rw [HOT.out, if_neg heq])
            clear heq
            go_upto_region 11 with fail
            clear e0 e1 e2 e3 m0 m1
            have HX6 := HX4
            have HSV6 := HSV4
            have HC6 := HC4
            have HOW6 := HOW4
            obtain ⟨n0, n1⟩ := pair_at HX6.out (Below.refl _ _)
            go_quiet (fail)
            go_wp2
            go_roundg f
            case measure => exact Nat.lt_succ_self f
            case rel => exact ⟨markU u ii, x1, x2, out ++ (passPts q.p 1).drop (min out.length 1), rfl, rfl, by have := HRNG.out; rw [hoo.out] at this; exact this.1, by have := HRNG.out; rw [hoo.out] at this; exact this.2, Lib.hid (by have := HGO.out; rw [hoo.out] at this; exact this), HUN, HLB, Lib.hid (HSV6.out.drewN _), HC6, Lib.hid (by rw [← HOUT.out.1, ← HOUT.out.2]; exact HOW6.out)⟩

        · skip
          have hmn : min out.length 1 = 1 := by omega
          have HMN := Lib.hid hmn
          clear hmn
          have hz2 : (min (out.length : Int) 1) = 1 := by omega
          clear h0
          obtain ⟨oV, oC, rfl, hoC⟩ := own_shape HOW.out
          have HPC : Hid ((passPts q.p 1).length = q.p.pts.length) := Lib.hid (passPts_len q.p 1)
          have HPA := Lib.hid (pass_any base q (markU u ii ii) 1 (by omega) W1 HPI1.out)
          have hq2 := HPI1.out.two
          go_wp2_with fail
          refine HPA.out.mono ?_
          rintro e W2 ⟨⟨v, rfl, hownv⟩, hb2⟩
          obtain ⟨gv, cv, rfl, hcv⟩ := own_some hownv (by omega)
          have HSV2 := Lib.hid (HSV1.out.below hb2)
          have HC2 : Hid (∀ (j : Nat) (h : j < ps.length), W2.heap[ps[j].g]? = some (.cells (passCells ps[j] (markU u ii j)) 86 (0, 0))) := Lib.hid (fun j h => (hb2.block _ (Array.getElem?_eq_some_iff.1 (HC1.out j h)).1).trans (HC1.out j h))
          have HOW2 := Lib.hid (own_below HOW1.out hb2)
          have HRW : Hid (Row W2 (some ⟨gv, 2, none⟩) (((passPts q.p 1).drop 1).flatMap ptCells)) := Lib.hid (by
            rw [← fm_drop pt_len]
            intro hne
            obtain ⟨g', off', e', hlt', hc'⟩ := Row.of_own hownv (by intro h0; rw [h0] at hne; simp at hne)
            cases e'
            refine ⟨gv, 2, rfl, hlt', fun j hj => ?_⟩
            rw [List.length_drop] at hj
            rw [List.getElem?_drop]
            have := hc' (1 * 2 + j) (by omega)
            rw [Nat.zero_add] at this
            exact this)
          have HLD : Hid ((((passPts q.p 1).drop 1).flatMap ptCells).length = (q.p.pts.length - 1) * 2) := Lib.hid (by rw [flatMap_len pt_len, List.length_drop, HPC.out])
          have hcv1 : ¬ cv = 1 := by omega
          have hcv2 : 1 ≤ cv := by omega
          have hcv3 : 1 ≤ q.p.pts.length := by omega
          have hlb := HLB0.out
          have hw2 : w.heap.size ≤ W2.heap.size := HSV2.out.size
          clear hownv hb2 HPA HSV1 HC1 HOW1
          obtain ⟨vi0, via, vib, vic, vid⟩ := info_parts info_vec
          obtain ⟨g3, c3, W3, hrun, hown3, hg3, hat3, hlt3⟩ := run_append_lies (P := Tryz.prog) W2 25 25 w.heap.size 53 vi0 _ 2 16 Tryz.underlying25 via vib vic vid rfl (by omega) _ out.length _ HOW2.out ⟨gv, 2, none⟩ (q.p.pts.length - 1) (cv - 1) _ HLD.out (row_news HRW.out) (pt_one _) (by omega) (by unfold maxLen; omega) (by omega) hw2 W2.heap.size rfl
          have HSV3 := Lib.hid (HSV2.out.grown hg3 (fun g hg => .inl (own_tag HOW2.out hg).2))
          have HC3 : Hid (∀ (j : Nat) (h : j < ps.length), W3.heap[ps[j].g]? = some (.cells (passCells ps[j] (markU u ii j)) 86 (0, 0))) := Lib.hid (fun j h => heap_keep hg3 (RowT.own HOW2.out).weak (by decide) (HC2.out j h))
          have HOW3 := Lib.hid hown3
          have HRG3 := Lib.hid (HRG.out.of_save HSV3.out HC3.out)
          have HPI3 : Hid (PassIn base W3 q (markU u ii ii)) := Lib.hid (by have := HRG3.out.each ii hii; rw [HQ.out] at this; exact this)
          have HOUT : Hid (out.length + (q.p.pts.length - 1) = (out ++ (passPts q.p 1).drop (min out.length 1)).length ∧ out.flatMap ptCells ++ ((passPts q.p 1).drop 1).flatMap ptCells = (out ++ (passPts q.p 1).drop (min out.length 1)).flatMap ptCells) := Lib.hid (by
            rw [HMN.out]
            refine ⟨by rw [List.length_append, List.length_drop, HPC.out], by rw [List.flatMap_append]⟩)
          clear hown3 hg3 hat3 hlt3 HSV2 HC2 HOW2 HRW HLD hcv hlb
          have hpne : atL (passL ps) q.p.e0 ≠ [] := by
            have := at_ends (ps := passL ps) (i := ii) (by omega) (1 - 1)
            have hp : passAt (passL ps) ii = q.p := by unfold passAt passL; rw [List.getD_eq_getElem?_getD, List.getElem?_map, List.getElem?_eq_getElem hii, HQ.out]; rfl
            rw [hp] at this
            exact this
          have hl2 := twice_keys.1 HTW.out _ hpne
          obtain ⟨rA, rc, hlook, hrow⟩ := HRG3.out.look _ hpne
          have HOT : Hid (otherEnd (passL ps) ii 1 = if (atL (passL ps) q.p.e0).getD 0 (0, 0) = (ii, 0) then (atL (passL ps) q.p.e0).getD 1 (0, 0) else (atL (passL ps) q.p.e0).getD 0 (0, 0)) := Lib.hid (by
            have hp : passAt (passL ps) ii = q.p := by unfold passAt passL; rw [List.getD_eq_getElem?_getD, List.getElem?_map, List.getElem?_eq_getElem hii, HQ.out]; rfl
            unfold otherEnd
            rw [hp]
            rfl)
          clear hpne
          generalize atL (passL ps) q.p.e0 = LL at *
          obtain ⟨⟨x1, x2⟩, ⟨y1, y2⟩, rfl⟩ := list_two hl2
          obtain ⟨gr, cr, hrA, _, _, hgrl, hrc⟩ := own_get end_len rfl hrow (by simp)
          have hrA' := hrA
          simp only [List.length_cons, List.length_nil, Nat.zero_add] at hrA' hlook
          injection hrA' with hrA'
          subst hrA'
          have d0 := hrc 0 (by simp) 0 (by decide)
          have d1 := hrc 0 (by simp) 1 (by decide)
          have d2 := hrc 1 (by simp) 0 (by decide)
          have d3 := hrc 1 (by simp) 1 (by decide)
          simp only [endCells, List.getElem_cons_zero, List.getElem_cons_succ, List.getElem?_cons_zero, List.getElem?_cons_succ, Nat.zero_mul, Nat.zero_add, Nat.one_mul, Nat.add_zero] at d0 d1 d2 d3
          simp only [List.getD_cons_zero, List.getD_cons_succ] at HOT
          clear hrc hrow hrA hl2
          have C0 := cellIn HPI3.out.cells 0 (by simp [passCells])
          have C1 := cellIn HPI3.out.cells 1 (by simp [passCells])
          have C2 := cellIn HPI3.out.cells 2 (by simp [passCells])
          have C3 := cellIn HPI3.out.cells 3 (by simp [passCells])
          simp only [passCells, List.getElem_toArray, List.getElem_cons_zero, List.getElem_cons_succ] at C0 C1 C2 C3
          have hlook2 : (Instr.lookup 78 (.map (some mb)) (.agg #[.int .i64 q.p.e0.1, .int .i64 q.p.e0.2]) false).run Tryz.prog W3 = .ok (.slice (some ⟨gr, 0, none⟩) 2 rc) W3 := hlook
          clear hlook
          have hqlt := (Array.getElem?_eq_some_iff.1 HPI3.out.cells).1
          have HO4 := Lib.hid (one_vec W3 (.cells #[.int .i64 (x1 : Int), .int .i64 (x2 : Int)] 88))
          go_upto_region 9 with (first
            | (at_builtin; refine Lib.wpList_append_run _ rfl _ _ _ _ rfl _ _ rfl rfl _ _ hrun ?_)
            | (at_lookup; refine wpList_lookup_run rfl _ _ 78 rfl _ _ _ rfl rfl hlook2 ?_)
            | go_in)
          have HSV4 := Lib.hid (HSV3.out.below HO4.out.1)
          have HC4 : Hid (∀ (j : Nat) (h : j < ps.length), (W3.alloc (.cells #[.int .i64 (x1 : Int), .int .i64 (x2 : Int)] 88)).heap[ps[j].g]? = some (.cells (passCells ps[j] (markU u ii j)) 86 (0, 0))) := Lib.hid (fun j h => (HO4.out.1.block _ (Array.getElem?_eq_some_iff.1 (HC3.out j h)).1).trans (HC3.out j h))
          have HOW4 := Lib.hid (own_below HOW3.out HO4.out.1)
          have HX4 := Lib.hid HO4.out.2
          have HB12 := Lib.hid HSV3.out.size
          have HD4 : Hid (∀ i v, W3.cell? ⟨gr, i, none⟩ = some v → (W3.alloc (.cells #[.int .i64 (x1 : Int), .int .i64 (x2 : Int)] 88)).cell? ⟨gr, i, none⟩ = some v) := Lib.hid (fun i v h => (HO4.out.1.cell (p := ⟨gr, i, none⟩) hgrl).trans h)
          have e0 := HD4.out _ _ d0
          have e1 := HD4.out _ _ d1
          have e2 := HD4.out _ _ d2
          have e3 := HD4.out _ _ d3
          clear hrun hlook2 HSV3 HC3 HOW3 HO4 HRG3 HPI3 C0 C1 C2 C3 d0 d1 d2 d3 HD4
          generalize W3.alloc (.cells #[.int .i64 (x1 : Int), .int .i64 (x2 : Int)] 88) = W4 at *
          generalize W3.heap.size = b12 at *
          obtain ⟨m0, m1⟩ := pair_at HX4.out (Below.refl _ _)
          by_cases heq : (x1, x2) = (ii, 0)
          · have HPR : ∀ w, (Op.equalIn 10000 88 (.agg #[.int .i64 (x1 : Int), .int .i64 (x2 : Int)]) (.agg #[.int .i64 (ii : Int), .int .i64 0])).run Tryz.prog w = .ok true w := fun w => by
              rw [eqin_pair, decide_eq_true (by simp only [Prod.mk.injEq] at heq ⊢; omega)]
            have hoo : Hid (otherEnd (passL ps) ii 1 = (y1, y2)) := Lib.hid (by rw [HOT.out, if_pos heq])
            clear heq
            obtain ⟨f0, f1⟩ := frozen_pair HX4.out
            have hs4 := lt_of_block HX4.out
            have HX6 : Hid (((W4.setCell ⟨b12, 0, none⟩ (.int .i64 (y1 : Int))).setCell ⟨b12, 1, none⟩ (.int .i64 (y2 : Int))).heap[b12]? = some (.cells #[.int .i64 (y1 : Int), .int .i64 (y2 : Int)] 88 (0, 0))) := Lib.hid (setCell_block (setCell_block HX4.out 0 _) 1 _)
            have HG6 : Hid (W4.grownBy ((W4.setCell ⟨b12, 0, none⟩ (.int .i64 (y1 : Int))).setCell ⟨b12, 1, none⟩ (.int .i64 (y2 : Int))) (some b12)) := Lib.hid (grown_set2 _ _ _ _)
            go_upto_region 11 with fail
            clear e0 e1 e2 e3 m0 m1 f0 f1 hs4
            generalize (W4.setCell ⟨b12, 0, none⟩ (.int .i64 (y1 : Int))).setCell ⟨b12, 1, none⟩ (.int .i64 (y2 : Int)) = w6 at *
            have HSV6 := Lib.hid (HSV4.out.grown HG6.out (fun g hg => by cases hg; exact .inl HB12.out))
            have r6 : RowW W4 0 88 (some b12) := fun g hg => by cases hg; exact ⟨fun T' ht => tag_of HX4.out ht, Nat.zero_le _⟩
            have HC6 : Hid (∀ (j : Nat) (h : j < ps.length), w6.heap[ps[j].g]? = some (.cells (passCells ps[j] (markU u ii j)) 86 (0, 0))) := Lib.hid (fun j h => heap_keep HG6.out r6 (by decide) (HC4.out j h))
            have HOW6 := Lib.hid (own_keep HG6.out r6 (by decide) HOW4.out)
            clear r6 HG6
            obtain ⟨n0, n1⟩ := pair_at HX6.out (Below.refl _ _)
            go_quiet (fail)
            go_wp2
            go_roundg f
            case measure => exact Nat.lt_succ_self f
            case rel => exact ⟨markU u ii, y1, y2, out ++ (passPts q.p 1).drop (min out.length 1), rfl, rfl, by have := HRNG.out; rw [hoo.out] at this; exact this.1, by have := HRNG.out; rw [hoo.out] at this; exact this.2, Lib.hid (by have := HGO.out; rw [hoo.out] at this; exact this), HUN, HLB, Lib.hid (HSV6.out.drewN _), HC6, Lib.hid (by rw [← HOUT.out.1, ← HOUT.out.2]; exact HOW6.out)⟩
          · have HPR : ∀ w, (Op.equalIn 10000 88 (.agg #[.int .i64 (x1 : Int), .int .i64 (x2 : Int)]) (.agg #[.int .i64 (ii : Int), .int .i64 0])).run Tryz.prog w = .ok false w := fun w => by
              rw [eqin_pair, decide_eq_false (by simp only [Prod.mk.injEq] at heq ⊢; omega)]
            have hoo : Hid (otherEnd (passL ps) ii 1 = (x1, x2)) := Lib.hid (by rw [HOT.out, if_neg heq])
            clear heq
            go_upto_region 11 with fail
            clear e0 e1 e2 e3 m0 m1
            have HX6 := HX4
            have HSV6 := HSV4
            have HC6 := HC4
            have HOW6 := HOW4
            obtain ⟨n0, n1⟩ := pair_at HX6.out (Below.refl _ _)
            go_quiet (fail)
            go_wp2
            go_roundg f
            case measure => exact Nat.lt_succ_self f
            case rel => exact ⟨markU u ii, x1, x2, out ++ (passPts q.p 1).drop (min out.length 1), rfl, rfl, by have := HRNG.out; rw [hoo.out] at this; exact this.1, by have := HRNG.out; rw [hoo.out] at this; exact this.2, Lib.hid (by have := HGO.out; rw [hoo.out] at this; exact this), HUN, HLB, Lib.hid (HSV6.out.drewN _), HC6, Lib.hid (by rw [← HOUT.out.1, ← HOUT.out.2]; exact HOW6.out)⟩

end Go.Proofs.YtnmmhcchpcbeeaaGreat.GeW
