/- Walk: the rings of a layer. Conditions: the entities lie in memory; what Flatten does is handed in. -/
import Derived.Test.YtnmmhcchpcbeeaaGreatChW
import Derived.Test.YtnmmhcchpcbeeaaGreatGeCl
import Derived.Test.YtnmmhcchpcbeeaaGreatMem2
import Derived.Deep.RegionLaw
import Derived.Deep.CutRange
import Derived.IntWalk
import Derived.Deep.AppendLies

namespace Go.Proofs.YtnmmhcchpcbeeaaGreat.GeW
open Go Go.RowKit Go.Proofs.YtnmmhcchpcbeeaaGreat.Mem Go.Proofs.YtnmmhcchpcbeeaaGreat.Ge
attribute [local go_sem ↓] Go.wp_at_zero Go.wp_at_succ
theorem ent_kind {e : Ent} (h : entOk e = true) : e.kind = 1 ∨ e.kind = 2 ∨ e.kind = 3 := by
  unfold entOk at h
  rw [Bool.and_eq_true] at h
  by_cases h1 : e.kind = 1
  · exact .inl h1
  · by_cases h2 : e.kind = 2
    · exact .inr (.inl h2)
    · by_cases h3 : e.kind = 3
      · exact .inr (.inr h3)
      · have := h.2
        rw [if_neg h1, if_neg h2, if_neg h3] at this
        cases this
theorem line_near {e : Ent} (h : entOk e = true) (hk : e.kind = 1) : within e.a 2000 = true ∧ within e.b 2000 = true := by
  unfold entOk at h
  rw [Bool.and_eq_true, if_pos hk] at h
  have := h.2
  unfold lineOk at this
  simp only [Bool.and_eq_true] at this
  exact ⟨this.2.1, this.2.2.1⟩
theorem wf_near {p : V} (h : within p 2000 = true) : WfV p := by
  obtain ⟨⟨h1, h2⟩, h3, h4⟩ := within_in h
  have e1 : IntKind.i64.min = -9223372036854775808 := by decide
  have e2 : IntKind.i64.max = 9223372036854775807 := by decide
  constructor <;> (simp only [Lit.wf, Bool.and_eq_true, decide_eq_true_eq, e1, e2]; omega)
theorem Lup_len (ps : List Pass) (p : Pass) (j : Nat) (v : V) : (Lup ps p j v).length ≤ 2 * ps.length + 2 := by
  have h : ∀ (ps : List Pass) (i : Nat), (atFrom ps i v).length ≤ 2 * ps.length := by
    intro ps
    induction ps with
    | nil => intro i; simp [atFrom]
    | cons q r ih =>
      intro i
      have := ih (i + 1)
      unfold atFrom
      rw [List.length_append, List.length_append, List.length_cons]
      split <;> split <;> simp <;> omega
  have := h ps 0
  unfold Lup atL
  rw [List.length_append, List.length_append]
  split <;> split <;> simp <;> omega
theorem map_not {w w' : World} {base mb n size : Nat} {T : TypeId} {v : Value} {xs : List Value} (hg : w.grownBy w' v.ownBlock) (h : w.ownsRow base T size v n xs) (hm : ∃ es cl, w.heap[mb]? = some (.map es cl)) (T' : TypeId) : ¬ Tagged w' mb T' := by
  rintro ⟨c, f, ht⟩
  obtain ⟨es, cl, hmb⟩ := hm
  have hlt := (Array.getElem?_eq_some_iff.1 hmb).1
  rw [hg.block mb hlt (fun he => by
    obtain ⟨c', f', h'⟩ := (own_tag h he.symm).1
    rw [hmb] at h'
    cases h'), hmb] at ht
  cases ht
theorem grown_drew {w w' : World} {row : Option Nat} (h : w.grownBy w' row) : w.grownBy w'.drew row := ⟨h.os, h.tape, h.output, h.size, h.block⟩
theorem info_rows : (Tryz.prog.info? 25).map (fun i => (i.zero, i.size, i.bytes)) = some (some (.slice none 0 0), 1, 24) := by kernel_rfl
theorem info_int : (Tryz.prog.info? 3).map (fun i => (i.zero, i.size, i.bytes)) = some (some (.int .i64 0), 1, 8) := by kernel_rfl
theorem info_ptr : (Tryz.prog.info? 83).map (fun i => (i.zero, i.size, i.bytes)) = some (some (.pointer none), 1, 8) := by kernel_rfl
theorem info_pair : (Tryz.prog.info? 88).map (fun i => (i.zero, i.size, i.bytes)) = some (some (.agg #[.int .i64 0, .int .i64 0]), 2, 16) := by kernel_rfl
theorem gather_chain (fl : Ent → List V) (layer : List UInt8) (d : List Ent) : ∀ m, Itm.chain m ∈ (gather fl layer d).2 → m < (gather fl layer d).1.length := by
  have h : ∀ (d : List Ent) (st : List Pass × List Itm), (∀ m, Itm.chain m ∈ st.2 → m < st.1.length) → ∀ m, Itm.chain m ∈ (d.foldl (gatherS fl layer) st).2 → m < (d.foldl (gatherS fl layer) st).1.length := by
    intro d
    induction d with
    | nil => intro st h; exact h
    | cons x r ih =>
      intro st h
      rw [List.foldl_cons]
      refine ih _ ?_
      intro m hm
      unfold gatherS at hm ⊢
      split
      · rename_i hl
        rw [if_pos hl] at hm
        split
        · rename_i hc
          rw [if_pos hc] at hm
          rcases List.mem_append.1 hm with hm | hm
          · exact h m hm
          · simp at hm
        · rename_i hc
          rw [if_neg hc] at hm
          rcases List.mem_append.1 hm with hm | hm
          · have := h m hm
            simp; omega
          · simp at hm
            subst hm
            simp
      · rename_i hl
        rw [if_neg hl] at hm
        exact h m hm
  exact h d ([], []) (fun m hm => by cases hm)
theorem chainGo_len (ps : List Pass) (hp : ∀ p ∈ ps, p.pts.length ≤ 40000) : ∀ (n : Nat) (u : Nat → Bool) (i k : Nat) (out : List V), (chainGo ps n u i k out).1.length ≤ out.length + 40000 * n
  | 0, u, i, k, out => by simp [chainGo]
  | n + 1, u, i, k, out => by
    unfold chainGo
    split
    · simp
    · refine Nat.le_trans (chainGo_len ps hp n _ _ _ _) ?_
      rw [List.length_append, List.length_drop]
      have : (passPts (passAt ps i) k).length ≤ 40000 := by
        have h2 : (passPts (passAt ps i) k).length = (passAt ps i).pts.length := by
          unfold passPts; split <;> simp
        rw [h2]
        unfold passAt
        rw [List.getD_eq_getElem?_getD]
        cases hg : ps[i]? with
        | none => simp
        | some p => exact hp p (List.mem_of_getElem? hg)
      omega
theorem chainL_len (ps : List Pass) (u : Nat → Bool) (i : Nat) (hp : ∀ p ∈ ps, p.pts.length ≤ 40000) : (chainL ps u i).1.length ≤ 40000 * (ps.length + 1) := by
  have := chainGo_len ps hp (ps.length + 1) u i 0 []
  unfold chainL
  simpa using this
theorem info_ring : (Tryz.prog.info? 26).map (fun i => (i.zero, i.size, i.bytes)) = some (some (.slice none 0 0), 1, 24) := by kernel_rfl
theorem Below.save_ {w w1 w2 : World} {ps : List PassV} {base : Nat} (h : Below base w w1) (hs : Save w1 w2 ps) (hp : ∀ q ∈ ps, base ≤ q.g) (hb : base ≤ w1.heap.size) : Below base w w2 :=
  ⟨hs.os.trans h.os, hs.tape.trans h.tape, hs.output.trans h.output, Nat.le_trans h.size hs.size, fun k hk => (hs.block k (by omega) (fun q hq he => by have := hp q hq; omega)).trans (h.block k hk)⟩
structure RowV where
  l : List V
  A : Option Addr
  k : Nat
def rowVal (r : RowV) : Value := .slice r.A r.l.length r.k
/-- Rings as they are handed back. -/
def RingsOut (base : Nat) (w : World) (v : Value) (ls : List (List V)) : Prop := ∃ rs : List RowV, rs.map RowV.l = ls ∧ w.ownsRow base 26 1 v rs.length (rs.map rowVal) ∧ ∀ r ∈ rs, PtAt base w r.A r.l ∧ r.l.length ≤ r.k
/-- What Flatten does at an arc. -/
def FlatAt (x : Ent) (tol : Int) (ls : List V) : Prop := (2 ≤ ls.length ∧ ls.length ≤ 40000) ∧ (∀ p ∈ ls, WfV p) ∧ ∀ W, Calls Tryz.prog 42 #[.agg #[.int .i64 x.f.1, .int .i64 x.f.2, .int .i64 x.t.1, .int .i64 x.t.2, .int .i64 x.c.1, .int .i64 x.c.2, .bool x.cw], .int .i64 tol] W fun e w' => (∃ v, e = .returned (.tuple #[v, .int .i64 0]) ∧ w'.ownsRow W.heap.size 53 2 v ls.length (ls.flatMap ptCells)) ∧ Below W.heap.size W w'
set_option maxRecDepth 100000 in
set_option maxHeartbeats 8000000 in
theorem rings_any (l : List EntV) (A : Option Addr) (c : Nat) (w : World) (layer : List UInt8) (tol : Int) (fl : Ent → List V) (hr : Ents w A l)
    (hfl : ∀ x ∈ l, x.e.kind = 2 → x.e.layer = layer → 1 ≤ tol → tol ≤ 50 → entOk x.e = true → FlatAt x.e tol (fl x.e)) :
    Calls Tryz.prog 15 #[.slice A l.length c, .string ⟨layer.toArray⟩, .int .i64 tol] w fun e w' => (∃ v, e = .returned (.tuple #[v, .int .i64 (ringsP fl (ents l) layer tol).1]) ∧ RingsOut w.heap.size w' v (ringsP fl (ents l) layer tol).2) ∧ Below w.heap.size w w' := by
  have HR := Lib.hid hr
  have HFL := Lib.hid hfl
  have HV := Lib.hid (drawOk_any l A c w hr)
  have hl6 := hr.2.2
  have hnil : ∀ W : World, RingsOut w.heap.size W (.slice none 0 0) [] := fun W => ⟨[], rfl, World.ownsRow_nil _ _ _ _, fun r h => by cases h⟩
  have HNIL := Lib.hid hnil
  clear hr hfl hnil
  cases hd : drawOk (ents l)
  · have HP : Hid (ringsP fl (ents l) layer tol = (1, [])) := Lib.hid (by unfold ringsP; rw [hd]; rfl)
    rw [hd] at HV
    clear hd
    go_enter Tryz.func15, Tryz.ntmps15
    go_wp2_with fail
    refine HV.out.mono ?_
    rintro e w1 ⟨rfl, hb1⟩
    go_wp2
    refine bodyPost_ret (v := .tuple #[.slice none 0 0, .int .i64 1]) (by simp [results, Tryz.results15, go_sem]) rfl ⟨⟨_, by rw [HP.out], by rw [HP.out]; exact HNIL.out _⟩, hb1⟩
  rw [hd] at HV
  by_cases ht1 : tol < 1
  · have HP : Hid (ringsP fl (ents l) layer tol = (2, [])) := Lib.hid (by unfold ringsP; rw [hd, if_pos rfl, if_pos (.inl ht1)])
    have d1 : decide (tol < 1) = true := decide_eq_true ht1
    clear hd ht1
    go_enter Tryz.func15, Tryz.ntmps15
    go_wp2_with fail
    refine HV.out.mono ?_
    rintro e w1 ⟨rfl, hb1⟩
    go_wp2
    refine bodyPost_ret (v := .tuple #[.slice none 0 0, .int .i64 2]) (by simp [results, Tryz.results15, go_sem]) rfl ⟨⟨_, by rw [HP.out], by rw [HP.out]; exact HNIL.out _⟩, hb1⟩
  have d1 : decide (tol < 1) = false := decide_eq_false ht1
  by_cases ht2 : 50 < tol
  · have HP : Hid (ringsP fl (ents l) layer tol = (2, [])) := Lib.hid (by unfold ringsP; rw [hd, if_pos rfl, if_pos (.inr ht2)])
    have d2 : decide (50 < tol) = true := decide_eq_true ht2
    clear hd ht1 ht2
    go_enter Tryz.func15, Tryz.ntmps15
    go_wp2_with fail
    refine HV.out.mono ?_
    rintro e w1 ⟨rfl, hb1⟩
    go_wp2
    refine bodyPost_ret (v := .tuple #[.slice none 0 0, .int .i64 2]) (by simp [results, Tryz.results15, go_sem]) rfl ⟨⟨_, by rw [HP.out], by rw [HP.out]; exact HNIL.out _⟩, hb1⟩
  have d2 : decide (50 < tol) = false := decide_eq_false ht2
  have HP : Hid (ringsP fl (ents l) layer tol = if twice (gather fl layer (ents l)).1 then ringsGo (gather fl layer (ents l)).1 (gather fl layer (ents l)).2 (fun _ => false) [] else (11, [])) := Lib.hid (by unfold ringsP; rw [hd, if_pos rfl, if_neg (by omega)])
  have HFA : Hid (∀ x ∈ l, x.e.kind = 2 → x.e.layer = layer → FlatAt x.e tol (fl x.e)) := Lib.hid (fun x hx h1 h2 => HFL.out x hx h1 h2 (by omega) (by omega) (by
    unfold drawOk at hd
    simp only [Bool.and_eq_true] at hd
    exact List.all_eq_true.1 hd.2 x.e (List.mem_map_of_mem hx)))
  have HOK : Hid (∀ x ∈ l, entOk x.e = true) := Lib.hid (fun x hx => by
    unfold drawOk at hd
    simp only [Bool.and_eq_true] at hd
    exact List.all_eq_true.1 hd.2 x.e (List.mem_map_of_mem hx))
  have hmm := @run_makeMap Tryz.prog
  clear hd ht1 ht2 HFL
  have HD1 := Lib.hid d1
  have HD2 := Lib.hid d2
  go_enter Tryz.func15, Tryz.ntmps15
  go_wp2_with fail
  refine HV.out.mono ?_
  rintro e w1 ⟨rfl, hb1⟩
  go_wp2
  clear d1 d2 HV
  have hs1 := hb1.size
  generalize hB : w1.heap.size = mb at *
  have hmb : w.heap.size ≤ mb := by omega
  have HRG0 : Hid (Rg w.heap.size (w1.alloc (.map #[] 0)) [] (fun _ => false) (.slice none 0 0) mb 0 (.map []) (fun _ => none)) := Lib.hid {
    opens := World.ownsRow_nil _ _ _ _
    each := fun i h => absurd h (Nat.not_lt_zero _)
    apart := List.nodup_nil
    mr := { mbase := hmb, map_ := by rw [← hB]; exact World.ownsMap_made _ _ _ _, fun_ := MapF.start, rows := fun v => ⟨fun _ => rfl, fun u h => by cases h⟩, rapart := fun v v' u u' _ h _ => (by cases h), wfk := fun v u h => by cases h } }
  have HIT0 : Hid (Its w.heap.size (w1.alloc (.map #[] 0)) [] (.slice none 0 0) (.slice none 0 0)) := Lib.hid ⟨World.ownsRow_nil _ _ _ _, World.ownsRow_nil _ _ _ _, fun x h => (by cases h), fun x h => (by cases h)⟩
  have HB0 : Hid (Below w.heap.size w (w1.alloc (.map #[] 0))) := Lib.hid (hb1.alloc (Below.size hb1) _)
  generalize w1.alloc (.map #[] 0) = W0 at *
  clear hB hb1 hmm hs1
  go_loopw [8, 10, 11, 38] (fun o c f i wr => ∃ (k : Nat) (ps : List PassV) (its : List ItemV) (n : Nat) (D : DataW Value) (fm : V → Option Value), i = .int .i64 (k : Int) ∧ k ≤ l.length ∧ ps.length ≤ k ∧ its.length ≤ k ∧ n ≤ 2 * k ∧ Hid (gather fl layer ((ents l).take k) = (passL ps, itemL its)) ∧ Hid (Rg w.heap.size wr ps (fun _ => false) o mb n D fm) ∧ Hid (Its w.heap.size wr its c f) ∧ Hid (Below w.heap.size w wr)) (fun _ _ _ i _ => l.length - (intOf i).toNat)
  case atStart => exact ⟨0, [], [], 0, .map [], fun _ => none, rfl, Nat.zero_le _, Nat.le_refl _, Nat.le_refl _, Nat.le_refl _, Lib.hid rfl, HRG0, HIT0, HB0⟩
  case round =>
    clear HRG0 HIT0 HB0
    obtain ⟨k, ps, its, n, D, fm, rfl, hk, hps, hits, hn, HG, HRG, HIT, HB⟩ := hrel
    obtain ⟨oA, oc, rfl, hoc⟩ := own_shape HRG.out.opens
    by_cases hlt : k < l.length
    · obtain ⟨g, off, rfl, hg, ca⟩ := row_get ent_len (by decide) HR.out.1 (by omega)
      have hbel := HB.out
      have a0 := (hbel.cell (p := ⟨g, off + k * 14, none⟩) hg).trans (ca k hlt 0 (by decide))
      have a1 := (hbel.cell (p := ⟨g, off + k * 14 + 1, none⟩) hg).trans (ca k hlt 1 (by decide))
      have a2 := (hbel.cell (p := ⟨g, off + k * 14 + 2, none⟩) hg).trans (ca k hlt 2 (by decide))
      have a3 := (hbel.cell (p := ⟨g, off + k * 14 + 3, none⟩) hg).trans (ca k hlt 3 (by decide))
      have a4 := (hbel.cell (p := ⟨g, off + k * 14 + 4, none⟩) hg).trans (ca k hlt 4 (by decide))
      have a5 := (hbel.cell (p := ⟨g, off + k * 14 + 5, none⟩) hg).trans (ca k hlt 5 (by decide))
      have a6 := (hbel.cell (p := ⟨g, off + k * 14 + 6, none⟩) hg).trans (ca k hlt 6 (by decide))
      have a7 := (hbel.cell (p := ⟨g, off + k * 14 + 7, none⟩) hg).trans (ca k hlt 7 (by decide))
      have a8 := (hbel.cell (p := ⟨g, off + k * 14 + 8, none⟩) hg).trans (ca k hlt 8 (by decide))
      have a9 := (hbel.cell (p := ⟨g, off + k * 14 + 9, none⟩) hg).trans (ca k hlt 9 (by decide))
      have a10 := (hbel.cell (p := ⟨g, off + k * 14 + 10, none⟩) hg).trans (ca k hlt 10 (by decide))
      have a11 := (hbel.cell (p := ⟨g, off + k * 14 + 11, none⟩) hg).trans (ca k hlt 11 (by decide))
      have a12 := (hbel.cell (p := ⟨g, off + k * 14 + 12, none⟩) hg).trans (ca k hlt 12 (by decide))
      have a13 := (hbel.cell (p := ⟨g, off + k * 14 + 13, none⟩) hg).trans (ca k hlt 13 (by decide))
      have HGS : Hid (gather fl layer ((ents l).take (k + 1)) = gatherS fl layer (passL ps, itemL its) l[k].e) := Lib.hid (by
        have : (ents l).take (k + 1) = (ents l).take k ++ [l[k].e] := by
          unfold ents
          rw [← List.map_take, ← List.map_take, take_snoc' l k hlt, List.map_append]; rfl
        rw [this, gather_snoc, HG.out])
      have HFX := Lib.hid (HFA.out l[k] (List.getElem_mem hlt))
      have HPX := Lib.hid (HR.out.2.1 l[k] (List.getElem_mem hlt))
      have HOX : Hid (entOk l[k].e = true) := Lib.hid (HOK.out _ (List.getElem_mem hlt))
      clear ca hbel HG
      generalize l[k] = m at *
      simp only [entVals, List.getElem?_cons_zero, List.getElem?_cons_succ] at a0 a1 a2 a3 a4 a5 a6 a7 a8 a9 a10 a11 a12 a13
      have HO := Lib.hid (one_vec wr (.cells #[.int .i64 m.e.kind, .string ⟨m.e.layer.toArray⟩, .int .i64 m.e.a.1, .int .i64 m.e.a.2, .int .i64 m.e.b.1, .int .i64 m.e.b.2, .int .i64 m.e.f.1, .int .i64 m.e.f.2, .int .i64 m.e.t.1, .int .i64 m.e.t.2, .int .i64 m.e.c.1, .int .i64 m.e.c.2, .bool m.e.cw, .slice m.A m.e.pts.length m.k] 66))
      have HRG1 := Lib.hid (HRG.out.alloc (.cells #[.int .i64 m.e.kind, .string ⟨m.e.layer.toArray⟩, .int .i64 m.e.a.1, .int .i64 m.e.a.2, .int .i64 m.e.b.1, .int .i64 m.e.b.2, .int .i64 m.e.f.1, .int .i64 m.e.f.2, .int .i64 m.e.t.1, .int .i64 m.e.t.2, .int .i64 m.e.c.1, .int .i64 m.e.c.2, .bool m.e.cw, .slice m.A m.e.pts.length m.k] 66))
      have HIT1 := Lib.hid (HIT.out.alloc (.cells #[.int .i64 m.e.kind, .string ⟨m.e.layer.toArray⟩, .int .i64 m.e.a.1, .int .i64 m.e.a.2, .int .i64 m.e.b.1, .int .i64 m.e.b.2, .int .i64 m.e.f.1, .int .i64 m.e.f.2, .int .i64 m.e.t.1, .int .i64 m.e.t.2, .int .i64 m.e.c.1, .int .i64 m.e.c.2, .bool m.e.cw, .slice m.A m.e.pts.length m.k] 66))
      have HB1 := Lib.hid (HB.out.alloc HB.out.size (.cells #[.int .i64 m.e.kind, .string ⟨m.e.layer.toArray⟩, .int .i64 m.e.a.1, .int .i64 m.e.a.2, .int .i64 m.e.b.1, .int .i64 m.e.b.2, .int .i64 m.e.f.1, .int .i64 m.e.f.2, .int .i64 m.e.t.1, .int .i64 m.e.t.2, .int .i64 m.e.c.1, .int .i64 m.e.c.2, .bool m.e.cw, .slice m.A m.e.pts.length m.k] 66))
      go_upto_region 12 with fail
      generalize wr.alloc (.cells #[.int .i64 m.e.kind, .string ⟨m.e.layer.toArray⟩, .int .i64 m.e.a.1, .int .i64 m.e.a.2, .int .i64 m.e.b.1, .int .i64 m.e.b.2, .int .i64 m.e.f.1, .int .i64 m.e.f.2, .int .i64 m.e.t.1, .int .i64 m.e.t.2, .int .i64 m.e.c.1, .int .i64 m.e.c.2, .bool m.e.cw, .slice m.A m.e.pts.length m.k] 66) = W1 at *
      clear a0 a1 a2 a3 a4 a5 a6 a7 a8 a9 a10 a11 a12 a13
      clear HRG HIT HB
      have Q0 : ∀ p : Later W1, p.w.cell? ⟨wr.heap.size, 0, none⟩ = some (.int .i64 m.e.kind) := fun p => cellAt14 ((p.h.block _ (lt_of_block HO.out.2)).trans HO.out.2) 0 (by simp)
      have Q1 : ∀ p : Later W1, p.w.cell? ⟨wr.heap.size, 1, none⟩ = some (.string ⟨m.e.layer.toArray⟩) := fun p => cellAt14 ((p.h.block _ (lt_of_block HO.out.2)).trans HO.out.2) 1 (by simp)
      have Q2 : ∀ p : Later W1, p.w.cell? ⟨wr.heap.size, 2, none⟩ = some (.int .i64 m.e.a.1) := fun p => cellAt14 ((p.h.block _ (lt_of_block HO.out.2)).trans HO.out.2) 2 (by simp)
      have Q3 : ∀ p : Later W1, p.w.cell? ⟨wr.heap.size, 3, none⟩ = some (.int .i64 m.e.a.2) := fun p => cellAt14 ((p.h.block _ (lt_of_block HO.out.2)).trans HO.out.2) 3 (by simp)
      have Q4 : ∀ p : Later W1, p.w.cell? ⟨wr.heap.size, 4, none⟩ = some (.int .i64 m.e.b.1) := fun p => cellAt14 ((p.h.block _ (lt_of_block HO.out.2)).trans HO.out.2) 4 (by simp)
      have Q5 : ∀ p : Later W1, p.w.cell? ⟨wr.heap.size, 5, none⟩ = some (.int .i64 m.e.b.2) := fun p => cellAt14 ((p.h.block _ (lt_of_block HO.out.2)).trans HO.out.2) 5 (by simp)
      have Q6 : ∀ p : Later W1, p.w.cell? ⟨wr.heap.size, 6, none⟩ = some (.int .i64 m.e.f.1) := fun p => cellAt14 ((p.h.block _ (lt_of_block HO.out.2)).trans HO.out.2) 6 (by simp)
      have Q7 : ∀ p : Later W1, p.w.cell? ⟨wr.heap.size, 7, none⟩ = some (.int .i64 m.e.f.2) := fun p => cellAt14 ((p.h.block _ (lt_of_block HO.out.2)).trans HO.out.2) 7 (by simp)
      have Q8 : ∀ p : Later W1, p.w.cell? ⟨wr.heap.size, 8, none⟩ = some (.int .i64 m.e.t.1) := fun p => cellAt14 ((p.h.block _ (lt_of_block HO.out.2)).trans HO.out.2) 8 (by simp)
      have Q9 : ∀ p : Later W1, p.w.cell? ⟨wr.heap.size, 9, none⟩ = some (.int .i64 m.e.t.2) := fun p => cellAt14 ((p.h.block _ (lt_of_block HO.out.2)).trans HO.out.2) 9 (by simp)
      have Q10 : ∀ p : Later W1, p.w.cell? ⟨wr.heap.size, 10, none⟩ = some (.int .i64 m.e.c.1) := fun p => cellAt14 ((p.h.block _ (lt_of_block HO.out.2)).trans HO.out.2) 10 (by simp)
      have Q11 : ∀ p : Later W1, p.w.cell? ⟨wr.heap.size, 11, none⟩ = some (.int .i64 m.e.c.2) := fun p => cellAt14 ((p.h.block _ (lt_of_block HO.out.2)).trans HO.out.2) 11 (by simp)
      have Q12 : ∀ p : Later W1, p.w.cell? ⟨wr.heap.size, 12, none⟩ = some (.bool m.e.cw) := fun p => cellAt14 ((p.h.block _ (lt_of_block HO.out.2)).trans HO.out.2) 12 (by simp)
      have Q13 : ∀ p : Later W1, p.w.cell? ⟨wr.heap.size, 13, none⟩ = some (.slice m.A m.e.pts.length m.k) := fun p => cellAt14 ((p.h.block _ (lt_of_block HO.out.2)).trans HO.out.2) 13 (by simp)
      have q1 := Q1 ⟨W1, Below.refl _ _⟩
      simp only at q1
      by_cases hly : m.e.layer = layer
      · have e1 : (m.e.layer == layer) = true := beq_iff_eq.2 hly
        have HFY : Hid (m.e.kind = 2 → FlatAt m.e tol (fl m.e)) := Lib.hid (fun h => HFX.out h hly)
        have HG2 : Hid (gather fl layer ((ents l).take (k + 1)) = if isClosed m.e then (passL ps, itemL its ++ [.ring (selPts fl m.e)]) else (passL ps ++ [passOf (selPts fl m.e)], itemL its ++ [.chain (passL ps).length])) := Lib.hid (by rw [HGS.out]; unfold gatherS; rw [if_pos hly])
        clear hly HGS HFX
        rcases (ent_kind HOX.out) with hk1 | hk2 | hk3
        · have HKD := Lib.hid hk1
          clear hk1
          have hc1 : isClosed m.e = false := by unfold isClosed; rw [HKD.out]; rfl
          obtain ⟨ls, HLS⟩ : ∃ ls, Hid (ls = [m.e.a, m.e.b]) := ⟨_, Lib.hid rfl⟩
          have HSL : Hid (selPts fl m.e = ls) := Lib.hid (by unfold selPts; rw [HKD.out, if_pos rfl, HLS.out])
          have HG3 : Hid (gather fl layer ((ents l).take (k + 1)) = (passL ps ++ [passOf ls], itemL its ++ [.chain (passL ps).length])) := Lib.hid (by rw [HG2.out, hc1, HSL.out]; rfl)
          have hlen : ls.length = 2 := by rw [HLS.out]; rfl
          have HLN : Hid (2 ≤ ls.length ∧ ls.length ≤ 40000) := Lib.hid (by omega)
          have HWF : Hid (∀ p ∈ ls, WfV p) := Lib.hid (by
            have hok := line_near HOX.out HKD.out
            intro p hp
            rw [HLS.out] at hp
            simp only [List.mem_cons, List.not_mem_nil, or_false] at hp
            rcases hp with rfl | rfl
            · exact wf_near hok.1
            · exact wf_near hok.2)
          have s1 : ((1 : Int) == 1) = true := rfl
          have s2 : ((1 : Int) == 3) = false := rfl
          have s3 : ((1 : Int) == 2) = false := rfl
          clear hc1 HG2 HFY
          have q0 := Q0 ⟨W1, Below.refl _ _⟩
          have q2 := Q2 ⟨W1, Below.refl _ _⟩
          have q3 := Q3 ⟨W1, Below.refl _ _⟩
          have q4 := Q4 ⟨W1, Below.refl _ _⟩
          have q5 := Q5 ⟨W1, Below.refl _ _⟩
          have q6 := Q6 ⟨W1, Below.refl _ _⟩
          have q7 := Q7 ⟨W1, Below.refl _ _⟩
          have q8 := Q8 ⟨W1, Below.refl _ _⟩
          have q9 := Q9 ⟨W1, Below.refl _ _⟩
          have q10 := Q10 ⟨W1, Below.refl _ _⟩
          have q11 := Q11 ⟨W1, Below.refl _ _⟩
          have q12 := Q12 ⟨W1, Below.refl _ _⟩
          have q13 := Q13 ⟨W1, Below.refl _ _⟩
          simp only at q0 q2 q3 q4 q5 q6 q7 q8 q9 q10 q11 q12 q13
          rw [HKD.out] at q0
          have HO4 := Lib.hid (one_vec W1 (.cells #[.int .i64 m.e.a.1, .int .i64 m.e.a.2, .int .i64 m.e.b.1, .int .i64 m.e.b.2] 53))
          have HRG2 := Lib.hid (HRG1.out.alloc (.cells #[.int .i64 m.e.a.1, .int .i64 m.e.a.2, .int .i64 m.e.b.1, .int .i64 m.e.b.2] 53))
          have HIT2 := Lib.hid (HIT1.out.alloc (.cells #[.int .i64 m.e.a.1, .int .i64 m.e.a.2, .int .i64 m.e.b.1, .int .i64 m.e.b.2] 53))
          have HB2 := Lib.hid (HB1.out.alloc HB1.out.size (.cells #[.int .i64 m.e.a.1, .int .i64 m.e.a.2, .int .i64 m.e.b.1, .int .i64 m.e.b.2] 53))
          go_upto_region 19 with fail
          generalize W1.alloc (.cells #[.int .i64 m.e.a.1, .int .i64 m.e.a.2, .int .i64 m.e.b.1, .int .i64 m.e.b.2] 53) = W2 at *
          clear q0 q2 q3 q4 q5 q6 q7 q8 q9 q10 q11 q12 q13
          have q0 := Q0 ⟨W2, HO4.out.1⟩
          have q2 := Q2 ⟨W2, HO4.out.1⟩
          have q3 := Q3 ⟨W2, HO4.out.1⟩
          have q4 := Q4 ⟨W2, HO4.out.1⟩
          have q5 := Q5 ⟨W2, HO4.out.1⟩
          have q6 := Q6 ⟨W2, HO4.out.1⟩
          have q7 := Q7 ⟨W2, HO4.out.1⟩
          have q8 := Q8 ⟨W2, HO4.out.1⟩
          have q9 := Q9 ⟨W2, HO4.out.1⟩
          have q10 := Q10 ⟨W2, HO4.out.1⟩
          have q11 := Q11 ⟨W2, HO4.out.1⟩
          have q12 := Q12 ⟨W2, HO4.out.1⟩
          have q13 := Q13 ⟨W2, HO4.out.1⟩
          simp only at q0 q2 q3 q4 q5 q6 q7 q8 q9 q10 q11 q12 q13
          rw [HKD.out] at q0
          have HPT : Hid (PtAt w.heap.size W2 (some ⟨W1.heap.size, 0, none⟩) ls) := Lib.hid ⟨by rw [HLS.out]; exact pts_row HO4.out.2, fun _ g off h => by cases h; exact .inr ⟨_, _, HO4.out.2⟩⟩
          clear Q0 Q1 Q2 Q3 Q4 Q5 Q6 Q7 Q8 Q9 Q10 Q11 Q12 Q13
          generalize W1.heap.size = ga at *
          have HPTr := HPT
          obtain ⟨g', off', he', hg', hc'⟩ := row_get pt_len (by decide) HPT.out.1 (by omega)
          cases he'
          have p0 := hc' 0 (by omega) 0 (by decide)
          have p1 := hc' 0 (by omega) 1 (by decide)
          have p2 := hc' 1 (by omega) 0 (by decide)
          have p3 := hc' 1 (by omega) 1 (by decide)
          have HE0 : Hid (ls.getD 0 z0 = ls[0]) := Lib.hid (by rw [List.getD_eq_getElem?_getD, List.getElem?_eq_getElem (by omega)]; rfl)
          have HE1 : Hid (ls.getD (ls.length - 1) z0 = ls[1]) := Lib.hid (by rw [List.getD_eq_getElem?_getD, show ls.length - 1 = 1 by omega, List.getElem?_eq_getElem (by omega)]; rfl)
          have HW0 : Hid (WfV ls[0]) := Lib.hid (HWF.out _ (List.getElem_mem _))
          have HW1 : Hid (WfV ls[1]) := Lib.hid (HWF.out _ (List.getElem_mem _))
          clear hc'
          generalize ls[0] = v0 at *
          generalize ls[1] = v1 at *
          obtain ⟨x0, y0⟩ := v0
          obtain ⟨x1, y1⟩ := v1
          simp only [ptCells, List.getElem?_cons_zero, List.getElem?_cons_succ, Nat.zero_mul, Nat.zero_add, Nat.add_zero, Nat.one_mul] at p0 p1 p2 p3
          have HQ0 : Hid (passOf ls = ⟨(x0, y0), (x1, y1), ls⟩) := Lib.hid (by unfold passOf; rw [HE0.out, HE1.out])
          have HOB := Lib.hid (one_vec W2 (.cells #[.int .i64 x0, .int .i64 y0, .int .i64 x1, .int .i64 y1, .slice (some ⟨ga, 0, none⟩) 2 2, .bool false] 86))
          have HEQ : Hid ((passOf ls).e0 = (x0, y0) ∧ (passOf ls).e1 = (x1, y1)) := Lib.hid (by rw [HQ0.out]; exact ⟨rfl, rfl⟩)
          have hw1 : IntKind.i64.wrap 1 = 1 := by decide
          go_upto_region 21 with fail
          go_cut [15] from 90 to 102 (fun p wc => p = .pointer (some ⟨W2.heap.size, 0, none⟩) ∧ W2.grownBy wc none ∧ wc.heap[W2.heap.size]? = some (.cells #[.int .i64 x0, .int .i64 y0, .int .i64 x1, .int .i64 y1, .slice (some ⟨ga, 0, none⟩) 2 2, .bool false] 86 (0, 0)) ∧ wc.heap.size = W2.heap.size + 1)
          case first =>
            go_region_law (fail)
            all_goals
              go_wp2_with fail
              go_meet
            all_goals
              refine ⟨rfl, grown_drew (grown_none _), HOB.out.2, by simp⟩
          case rest =>
            obtain ⟨rfl, hgc, hbox, hszc⟩ := hcut
            have HMS : Hid (Mid w.heap.size wc ps (.slice oA ps.length oc) mb n D fm its u10 u11 ⟨passOf ls, some ⟨ga, 0, none⟩, 2, W2.heap.size⟩ 0) := Lib.hid (Mid.start HRG2.out HIT2.out _ ⟨HB2.out.size, by rw [HQ0.out]; unfold passCells; rw [show ls.length = 2 by omega]; exact hbox, by have := HPT.out.keep (T := 3) hgc (RowW.none _ _ _) (by decide); rw [HQ0.out]; exact this, by rw [HQ0.out]; show ls.length ≤ 2; omega, by rw [HQ0.out]; exact HLN.out⟩ hgc (Nat.le_refl _))
            have HBS : Hid (Below w.heap.size w wc) := Lib.hid (HB2.out.grown hgc HB2.out.size (fun b hb => by cases hb))
            have c0 := cellAt14 hbox 0 (by simp)
            have c1 := cellAt14 hbox 1 (by simp)
            have c2 := cellAt14 hbox 2 (by simp)
            have c3 := cellAt14 hbox 3 (by simp)
            simp only [List.getElem_toArray, List.getElem_cons_zero, List.getElem_cons_succ] at c0 c1 c2 c3
            clear HE0 HE1 HQ0 HPTr p0 p1 p2 p3 hgc hbox HOB q0 q2 q3 q4 q5 q6 q7 q8 q9 q10 q11 q12 q13
            generalize W2.heap.size = bq at *
            go_wp2
            clear c0 c1 c2 c3
            obtain ⟨HX0, HX1⟩ := HEQ.out
            have HEX0 := Lib.hid HX0
            have HEX1 := Lib.hid HX1
            clear HX0 HX1 HEQ
            go_loopw [107] (fun t wr => ∃ (j : Nat) (D' : DataW Value) (f' : V → Option Value), t = .int .i64 (j : Int) ∧ j ≤ 2 ∧ Hid (Mid w.heap.size wr ps (.slice oA ps.length oc) mb (n + j) D' f' its u10 u11 ⟨passOf ls, some ⟨ga, 0, none⟩, 2, bq⟩ j) ∧ Hid (Below w.heap.size w wr)) (fun t _ => 2 - (intOf t).toNat)
            case atStart => exact ⟨0, D, fm, rfl, by omega, HMS, HBS⟩
            case round =>
              clear HMS HBS
              obtain ⟨j, D1, f1, rfl, hj, HM, HBr⟩ := hrel
              rcases (show j = 0 ∨ j = 1 ∨ j = 2 by omega) with rfl | rfl | rfl
              · skip
                have hix : ∀ W : World, (Instr.index 84 (.agg #[.int .i64 x0, .int .i64 y0, .int .i64 x1, .int .i64 y1]) (.int .i64 0)).run Tryz.prog W = .ok (.agg #[.int .i64 x0, .int .i64 y0]) W := fun W => by kernel_rfl
                have HM1 := Lib.hid ((HM.out.alloc (.cells #[.int .i64 x0, .int .i64 y0] 53)).alloc (.cells #[.int .i64 (ps.length : Int), .int .i64 0] 88))
                have HBa := Lib.hid ((HBr.out.alloc HBr.out.size (.cells #[.int .i64 x0, .int .i64 y0] 53)).alloc (by have := HBr.out.size; simp; omega) (.cells #[.int .i64 (ps.length : Int), .int .i64 0] 88))
                have HO1 := Lib.hid (one_vec wr (.cells #[.int .i64 x0, .int .i64 y0] 53))
                have HO2 := Lib.hid (heap_alloc_new (wr.alloc (.cells #[.int .i64 x0, .int .i64 y0] 53)) (.cells #[.int .i64 (ps.length : Int), .int .i64 0] 88))
                go_upto_region 25 with fail
                obtain ⟨v0', v1'⟩ := pair_at HO1.out.2 (Below.refl _ _)
                have hszq : (wr.alloc (.cells #[.int .i64 x0, .int .i64 y0] 53)).heap.size = wr.heap.size + 1 := by simp
                rw [hszq] at HO2
                obtain ⟨Lf, HLf⟩ : ∃ Lf, Hid (Lup (passL ps) (passOf ls) 0 = Lf) := ⟨_, Lib.hid rfl⟩
                have hmr0 := HM1.out.mr
                rw [show Lup (passL ps) (PassV.p ⟨passOf ls, some ⟨ga, 0, none⟩, 2, bq⟩) 0 = Lf from HLf.out] at hmr0
                obtain ⟨v0, st, Wm, hE, hgm, hszm, hownm, hpm, hS⟩ := hmr0.step (by unfold maxLen; omega) (x0, y0) HW0.out
                clear hmr0
                have HS := Lib.hid hS
                have HGM := Lib.hid hgm
                have hE2 : (Instr.mapEntry 78 (.map (some mb)) (.agg #[.int .i64 x0, .int .i64 y0])).run Tryz.prog ((wr.alloc (.cells #[.int .i64 x0, .int .i64 y0] 53)).alloc (.cells #[.int .i64 (ps.length : Int), .int .i64 0] 88)) = .ok (.tuple #[v0, goInt st]) Wm := hE
                have hpb : Wm.heap[wr.heap.size + 1]? = some (.cells #[.int .i64 (ps.length : Int), .int .i64 0] 88 (0, 0)) := (HGM.out.block _ (lt_of_block HO2.out) (fun he => map_block HM1.out.mr.map_ ⟨_, _, HO2.out⟩ (Option.some.inj he))).trans HO2.out
                have HPB := Lib.hid hpb
                have HOM := Lib.hid hownm
                have HPM := Lib.hid hpm
                have hzm : Wm.heap.size = wr.heap.size + 1 + 1 := by rw [hszm]; simp
                have hLl := Lup_len (passL ps) (passOf ls) 0 (x0, y0)
                rw [HLf.out] at hLl
                have hpl : (passL ps).length = ps.length := by unfold passL; simp
                clear hE hgm hszm hownm hpm hS hpb
                obtain ⟨pi0, pia, pib, pic, pid⟩ := info_parts info_pair
                go_wp2_with (first
                  | (at_builtin; refine wpList_append_lies _ rfl _ _ 87 rfl w.heap.size 88 pi0 _ 2 16 Tryz.underlying87 pia pib pic pid rfl (by omega) _ (Lf (x0, y0)).length _ rfl HOM.out ⟨wr.heap.size + 1, 0, none⟩ 1 1 [.int .i64 (ps.length : Int), .int .i64 0] rfl rfl (World.news_of_block HPB.out) (by simp [Value.oneCell']) (by omega) (by unfold maxLen; omega) (by omega) (by have := HBa.out.size; simp at this; omega) (wr.heap.size + 1 + 1) (by omega) ?_; intro g5 c5 w5 hown5 hg5 hat5 hlt5; obtain ⟨w6, D', f', hst, hg6, hsz6, hmr⟩ := HS.out w5 g5 c5 (ps.length, 0) (by rw [List.flatMap_append]; exact hown5) hg5 (by rw [hzm]; exact hat5); have hst2 : (Instr.entryStore 78 (.map (some mb)) (.int .i64 (st : Int)) (.slice (some ⟨g5, 0, none⟩) ((Lf (x0, y0)).length + 1) c5)).run Tryz.prog w5 = .ok () w6 := hst; clear hst)
                  | go_in)
                have HMN : Hid (Mid w.heap.size w6 ps (.slice oA ps.length oc) mb (n + 0 + 1) D' f' its u10 u11 ⟨passOf ls, some ⟨ga, 0, none⟩, 2, bq⟩ 1) := Lib.hid (HM1.out.step HGM.out (RowT.own HOM.out).weak hg5 (fun T => fun g hg => by
                  cases hg
                  refine ⟨fun T' ht => ?_, HM1.out.mr.mbase⟩
                  exact absurd ht (map_not hg5 HOM.out HPM.out T')) hg6 (by
                    have := Lup_one (passL ps) (passOf ls)
                    rw [hpl, HEX0.out, HLf.out] at this
                    rw [← this]
                    exact hmr))
                have HBN : Hid (Below w.heap.size w w6) := Lib.hid (((HBa.out.grown HGM.out (by have := HBa.out.size; omega) (fun b hb => by cases hb; exact HM1.out.mr.mbase)).grown hg5 (by have := HBa.out.size; simp at this; omega) (fun b hb => (own_tag HOM.out hb).2)).grown hg6 (by have := HBa.out.size; have h2 := hg5.size; simp at this; omega) (fun b hb => by cases hb; exact HM1.out.mr.mbase))
                clear hmr hg5 hg6 hown5 HS HOM HPB HM1 HGM
                go_roundw
                case rel => exact ⟨1, D', f', by go_num, by omega, by simpa [Nat.add_assoc] using HMN, HBN⟩
                case measure => simp [intOf]

              · skip
                have hix : ∀ W : World, (Instr.index 84 (.agg #[.int .i64 x0, .int .i64 y0, .int .i64 x1, .int .i64 y1]) (.int .i64 1)).run Tryz.prog W = .ok (.agg #[.int .i64 x1, .int .i64 y1]) W := fun W => by kernel_rfl
                have HM1 := Lib.hid ((HM.out.alloc (.cells #[.int .i64 x1, .int .i64 y1] 53)).alloc (.cells #[.int .i64 (ps.length : Int), .int .i64 1] 88))
                have HBa := Lib.hid ((HBr.out.alloc HBr.out.size (.cells #[.int .i64 x1, .int .i64 y1] 53)).alloc (by have := HBr.out.size; simp; omega) (.cells #[.int .i64 (ps.length : Int), .int .i64 1] 88))
                have HO1 := Lib.hid (one_vec wr (.cells #[.int .i64 x1, .int .i64 y1] 53))
                have HO2 := Lib.hid (heap_alloc_new (wr.alloc (.cells #[.int .i64 x1, .int .i64 y1] 53)) (.cells #[.int .i64 (ps.length : Int), .int .i64 1] 88))
                go_upto_region 25 with fail
                obtain ⟨v0', v1'⟩ := pair_at HO1.out.2 (Below.refl _ _)
                have hszq : (wr.alloc (.cells #[.int .i64 x1, .int .i64 y1] 53)).heap.size = wr.heap.size + 1 := by simp
                rw [hszq] at HO2
                obtain ⟨Lf, HLf⟩ : ∃ Lf, Hid (Lup (passL ps) (passOf ls) 1 = Lf) := ⟨_, Lib.hid rfl⟩
                have hmr0 := HM1.out.mr
                rw [show Lup (passL ps) (PassV.p ⟨passOf ls, some ⟨ga, 0, none⟩, 2, bq⟩) 1 = Lf from HLf.out] at hmr0
                obtain ⟨v0, st, Wm, hE, hgm, hszm, hownm, hpm, hS⟩ := hmr0.step (by unfold maxLen; omega) (x1, y1) HW1.out
                clear hmr0
                have HS := Lib.hid hS
                have HGM := Lib.hid hgm
                have hE2 : (Instr.mapEntry 78 (.map (some mb)) (.agg #[.int .i64 x1, .int .i64 y1])).run Tryz.prog ((wr.alloc (.cells #[.int .i64 x1, .int .i64 y1] 53)).alloc (.cells #[.int .i64 (ps.length : Int), .int .i64 1] 88)) = .ok (.tuple #[v0, goInt st]) Wm := hE
                have hpb : Wm.heap[wr.heap.size + 1]? = some (.cells #[.int .i64 (ps.length : Int), .int .i64 1] 88 (0, 0)) := (HGM.out.block _ (lt_of_block HO2.out) (fun he => map_block HM1.out.mr.map_ ⟨_, _, HO2.out⟩ (Option.some.inj he))).trans HO2.out
                have HPB := Lib.hid hpb
                have HOM := Lib.hid hownm
                have HPM := Lib.hid hpm
                have hzm : Wm.heap.size = wr.heap.size + 1 + 1 := by rw [hszm]; simp
                have hLl := Lup_len (passL ps) (passOf ls) 1 (x1, y1)
                rw [HLf.out] at hLl
                have hpl : (passL ps).length = ps.length := by unfold passL; simp
                clear hE hgm hszm hownm hpm hS hpb
                obtain ⟨pi0, pia, pib, pic, pid⟩ := info_parts info_pair
                go_wp2_with (first
                  | (at_builtin; refine wpList_append_lies _ rfl _ _ 87 rfl w.heap.size 88 pi0 _ 2 16 Tryz.underlying87 pia pib pic pid rfl (by omega) _ (Lf (x1, y1)).length _ rfl HOM.out ⟨wr.heap.size + 1, 0, none⟩ 1 1 [.int .i64 (ps.length : Int), .int .i64 1] rfl rfl (World.news_of_block HPB.out) (by simp [Value.oneCell']) (by omega) (by unfold maxLen; omega) (by omega) (by have := HBa.out.size; simp at this; omega) (wr.heap.size + 1 + 1) (by omega) ?_; intro g5 c5 w5 hown5 hg5 hat5 hlt5; obtain ⟨w6, D', f', hst, hg6, hsz6, hmr⟩ := HS.out w5 g5 c5 (ps.length, 1) (by rw [List.flatMap_append]; exact hown5) hg5 (by rw [hzm]; exact hat5); have hst2 : (Instr.entryStore 78 (.map (some mb)) (.int .i64 (st : Int)) (.slice (some ⟨g5, 0, none⟩) ((Lf (x1, y1)).length + 1) c5)).run Tryz.prog w5 = .ok () w6 := hst; clear hst)
                  | go_in)
                have HMN : Hid (Mid w.heap.size w6 ps (.slice oA ps.length oc) mb (n + 1 + 1) D' f' its u10 u11 ⟨passOf ls, some ⟨ga, 0, none⟩, 2, bq⟩ 2) := Lib.hid (HM1.out.step HGM.out (RowT.own HOM.out).weak hg5 (fun T => fun g hg => by
                  cases hg
                  refine ⟨fun T' ht => ?_, HM1.out.mr.mbase⟩
                  exact absurd ht (map_not hg5 HOM.out HPM.out T')) hg6 (by
                    have := Lup_two (passL ps) (passOf ls)
                    rw [hpl, HEX1.out, HLf.out] at this
                    rw [← this]
                    exact hmr))
                have HBN : Hid (Below w.heap.size w w6) := Lib.hid (((HBa.out.grown HGM.out (by have := HBa.out.size; omega) (fun b hb => by cases hb; exact HM1.out.mr.mbase)).grown hg5 (by have := HBa.out.size; simp at this; omega) (fun b hb => (own_tag HOM.out hb).2)).grown hg6 (by have := HBa.out.size; have h2 := hg5.size; simp at this; omega) (fun b hb => by cases hb; exact HM1.out.mr.mbase))
                clear hmr hg5 hg6 hown5 HS HOM HPB HM1 HGM
                go_roundw
                case rel => exact ⟨2, D', f', by go_num, by omega, by simpa [Nat.add_assoc] using HMN, HBN⟩
                case measure => simp [intOf]

              · skip
                have hfin : its.length ≤ 1000000 := by omega
                obtain ⟨ci0, cia, cib, cic, cid⟩ := info_parts info_rows
                obtain ⟨ii0, iia, iib, iic, iid⟩ := info_parts info_int
                obtain ⟨oi0, oia, oib, oic, oid⟩ := info_parts info_ptr
                have HIA := Lib.hid (HM.out.its_.alloc (.cells #[.slice none 0 0] 25))
                have hsz := HBr.out.size
                have tok1 := Lib.hid trivial
                have tok2 := Lib.hid trivial
                go_wp2_with (first
                  | (at_builtin; have _t := tok1; clear tok1; refine wpList_append_lies _ rfl _ _ 79 rfl w.heap.size 25 ci0 _ 1 24 Tryz.underlying79 cia cib cic cid rfl (by omega) _ its.length _ rfl HIA.out.crow ⟨wr.heap.size, 0, none⟩ 1 1 [.slice none 0 0] rfl rfl (World.news_of_block (heap_alloc_new wr _)) (by simp [Value.oneCell']) (by omega) (by unfold maxLen; omega) (by omega) (by simp; omega) (wr.heap.size + 1) (by simp) ?_; intro g4 c4 w4 hown4 hg4 _ hlt4; have HIB := Lib.hid (HM.out.its_.frow2 _ (.cells #[.int .i64 (ps.length : Int)] 3) hg4); have hz4 := hg4.size)
                  | (at_builtin; have _t := tok2; clear tok2; refine wpList_append_lies _ rfl _ _ 80 rfl w.heap.size 3 ii0 _ 1 8 Tryz.underlying80 iia iib iic iid rfl (by omega) _ its.length _ rfl HIB.out ⟨w4.heap.size, 0, none⟩ 1 1 [.int .i64 (ps.length : Int)] rfl rfl (World.news_of_block (heap_alloc_new w4 _)) (by simp [Value.oneCell']) (by omega) (by unfold maxLen; omega) (by omega) (by simp at hz4; simp; omega) (w4.heap.size + 1) (by simp) ?_; intro g5 c5 w5 hown5 hg5 _ hlt5; have HIO := Lib.hid (HM.out.orow _ _ (.cells #[.pointer (some ⟨bq, 0, none⟩)] 83) hg4 hg5); have hz5 := hg5.size)
                  | (at_builtin; refine wpList_append_lies _ rfl _ _ 77 rfl w.heap.size 83 oi0 _ 1 8 Tryz.underlying77 oia oib oic oid rfl (by omega) _ ps.length _ rfl HIO.out ⟨w5.heap.size, 0, none⟩ 1 1 [.pointer (some ⟨bq, 0, none⟩)] rfl rfl (World.news_of_block (heap_alloc_new w5 _)) (by simp [Value.oneCell']) (by omega) (by unfold maxLen; omega) (by omega) (by simp at hz4 hz5; simp; omega) (w5.heap.size + 1) (by simp) ?_; intro g8 c8 w8 hown8 hg8 _ hlt8)
                  | go_in)
                have HITN := Lib.hid (HM.out.its_.push ⟨.chain ps.length, none, 0⟩ _ _ hg4 hown4 hg5 hown5 (PtAt.nil _ _ _) (by show (0 : Nat) ≤ 1000000; omega))
                have HDN := Lib.hid (HM.out.done _ _ _ hg4 hg5 HITN.out hg8 hown8)
                have HRG8 := Lib.hid HDN.out.1
                have HIT8 := Lib.hid HDN.out.2
                have HB8 : Hid (Below w.heap.size w w8) := Lib.hid (by
                  have h1 := (HBr.out.alloc HBr.out.size (.cells #[.slice none 0 0] 25)).grown hg4 (by simp; omega) (fun b hb => (own_tag HIA.out.crow hb).2)
                  have h2 := (h1.alloc h1.size (.cells #[.int .i64 (ps.length : Int)] 3)).grown hg5 (by have := h1.size; simp; omega) (fun b hb => (own_tag HIB.out hb).2)
                  exact (h2.alloc h2.size _).grown hg8 (by have := h2.size; simp; omega) (fun b hb => (own_tag HIO.out hb).2))
                clear hown4 hg4 hown5 hg5 hown8 hg8 HDN HITN HIA HIB HIO
                go_roundw
                case rel => exact ⟨k + 1, ps ++ [⟨passOf ls, some ⟨ga, 0, none⟩, 2, bq⟩], its ++ [⟨.chain ps.length, none, 0⟩], n + 2, D1, f1, by go_num, hlt, by simp; omega, by simp; omega, by omega, Lib.hid (by rw [HG3.out]; simp [itemL, passL]), HRG8, HIT8, HB8⟩
                case measure => simp [intOf]; omega

        · have HKD := Lib.hid hk2
          clear hk2
          obtain ⟨ls, HLS⟩ : ∃ ls, Hid (fl m.e = ls) := ⟨_, Lib.hid rfl⟩
          have hfa := HFY.out HKD.out
          rw [HLS.out] at hfa
          obtain ⟨⟨hl2, hl40k⟩, hwf, hcall⟩ := hfa
          have HCALL := Lib.hid hcall
          have HWF := Lib.hid hwf
          have HSL : Hid (selPts fl m.e = ls) := Lib.hid (by unfold selPts; rw [HKD.out, if_neg (by decide), if_pos rfl, HLS.out])
          have HLN : Hid (2 ≤ ls.length ∧ ls.length ≤ 40000) := Lib.hid (by omega)
          have s1 : ((2 : Int) == 1) = false := rfl
          have s2 : ((2 : Int) == 2) = true := rfl
          have s3 : ((2 : Int) == 3) = false := rfl
          clear hcall hwf HFY
          have q0 := Q0 ⟨W1, Below.refl _ _⟩
          have q2 := Q2 ⟨W1, Below.refl _ _⟩
          have q3 := Q3 ⟨W1, Below.refl _ _⟩
          have q4 := Q4 ⟨W1, Below.refl _ _⟩
          have q5 := Q5 ⟨W1, Below.refl _ _⟩
          have q6 := Q6 ⟨W1, Below.refl _ _⟩
          have q7 := Q7 ⟨W1, Below.refl _ _⟩
          have q8 := Q8 ⟨W1, Below.refl _ _⟩
          have q9 := Q9 ⟨W1, Below.refl _ _⟩
          have q10 := Q10 ⟨W1, Below.refl _ _⟩
          have q11 := Q11 ⟨W1, Below.refl _ _⟩
          have q12 := Q12 ⟨W1, Below.refl _ _⟩
          have q13 := Q13 ⟨W1, Below.refl _ _⟩
          simp only at q0 q2 q3 q4 q5 q6 q7 q8 q9 q10 q11 q12 q13
          rw [HKD.out] at q0
          by_cases hft : m.e.f = m.e.t
          · have HE1 : ∀ W, (binOp .eql 53 (.agg #[.int .i64 m.e.f.1, .int .i64 m.e.f.2]) (.agg #[.int .i64 m.e.t.1, .int .i64 m.e.t.2])).run Tryz.prog W = .ok (.bool true) W := fun W => by rw [eql_vec, decide_eq_true (by rw [hft])]
            have HG3 : Hid (gather fl layer ((ents l).take (k + 1)) = (passL ps, itemL its ++ [.ring ls])) := Lib.hid (by rw [HG2.out, show isClosed m.e = true by (unfold isClosed; rw [HKD.out, decide_eq_true hft]; rfl), if_pos rfl, HSL.out])
            have HSM : Hid (ls.length ≤ 1000000) := Lib.hid (by omega)
            clear hft HG2
            go_wp2_with fail
            refine (HCALL.out _).mono ?_
            rintro e W2 ⟨⟨v, rfl, hown⟩, hb2⟩
            obtain ⟨ga, c2, rfl, hc2⟩ := own_some hown (by omega)
            have HPT : Hid (PtAt w.heap.size W2 (some ⟨ga, 0, none⟩) ls) := Lib.hid (PtAt.of_own hown)
            have HRG2 := Lib.hid (HRG1.out.below hb2)
            have HIT2 := Lib.hid (HIT1.out.below hb2)
            have HB2 := Lib.hid (HB1.out.trans (hb2.mono HB1.out.size))
            clear q0 q2 q3 q4 q5 q6 q7 q8 q9 q10 q11 q12 q13 hown
            have q0 := Q0 ⟨W2, hb2⟩
            have q2 := Q2 ⟨W2, hb2⟩
            have q3 := Q3 ⟨W2, hb2⟩
            have q4 := Q4 ⟨W2, hb2⟩
            have q5 := Q5 ⟨W2, hb2⟩
            have q6 := Q6 ⟨W2, hb2⟩
            have q7 := Q7 ⟨W2, hb2⟩
            have q8 := Q8 ⟨W2, hb2⟩
            have q9 := Q9 ⟨W2, hb2⟩
            have q10 := Q10 ⟨W2, hb2⟩
            have q11 := Q11 ⟨W2, hb2⟩
            have q12 := Q12 ⟨W2, hb2⟩
            have q13 := Q13 ⟨W2, hb2⟩
            simp only at q0 q2 q3 q4 q5 q6 q7 q8 q9 q10 q11 q12 q13
            rw [HKD.out] at q0
            clear Q0 Q1 Q2 Q3 Q4 Q5 Q6 Q7 Q8 Q9 Q10 Q11 Q12 Q13 hb2
            have hfin : its.length ≤ 1000000 := by omega
            obtain ⟨ci0, cia, cib, cic, cid⟩ := info_parts info_rows
            obtain ⟨ii0, iia, iib, iic, iid⟩ := info_parts info_int
            have HIA := Lib.hid (HIT2.out.alloc (.cells #[.slice (some ⟨ga, 0, none⟩) (ls).length c2] 25))
            have hsz := HB2.out.size
            have tok1 := Lib.hid trivial
            go_wp2_with (first
              | (at_builtin; have _t := tok1; clear tok1; refine wpList_append_lies _ rfl _ _ 79 rfl w.heap.size 25 ci0 _ 1 24 Tryz.underlying79 cia cib cic cid rfl (by omega) _ its.length _ rfl HIA.out.crow ⟨W2.heap.size, 0, none⟩ 1 1 [.slice (some ⟨ga, 0, none⟩) (ls).length c2] rfl rfl (World.news_of_block (heap_alloc_new W2 _)) (by simp [Value.oneCell']) (by omega) (by unfold maxLen; omega) (by omega) (by simp; omega) (W2.heap.size + 1) (by simp) ?_; intro g4 c4 w4 hown4 hg4 _ hlt4; have HIB := Lib.hid (HIT2.out.frow2 _ (.cells #[.int .i64 (-1)] 3) hg4); have hz4 := hg4.size)
              | (at_builtin; refine wpList_append_lies _ rfl _ _ 80 rfl w.heap.size 3 ii0 _ 1 8 Tryz.underlying80 iia iib iic iid rfl (by omega) _ its.length _ rfl HIB.out ⟨w4.heap.size, 0, none⟩ 1 1 [.int .i64 (-1)] rfl rfl (World.news_of_block (heap_alloc_new w4 _)) (by simp [Value.oneCell']) (by omega) (by unfold maxLen; omega) (by omega) (by simp at hz4; simp; omega) (w4.heap.size + 1) (by simp) ?_; intro g5 c5 w5 hown5 hg5 _ hlt5)
              | go_in)
            have HRG5 := Lib.hid (HRG2.out.push HIT2.out _ _ hg4 hg5)
            have HIT5 := Lib.hid (HIT2.out.push ⟨.ring (ls), (some ⟨ga, 0, none⟩), c2⟩ _ _ hg4 hown4 hg5 hown5 HPT.out HSM.out)
            have HB5 : Hid (Below w.heap.size w w5) := Lib.hid (by
              have h1 := (HB2.out.alloc HB2.out.size (.cells #[.slice (some ⟨ga, 0, none⟩) (ls).length c2] 25)).grown hg4 (by simp; omega) (fun b hb => (own_tag HIA.out.crow hb).2)
              exact (h1.alloc h1.size _).grown hg5 (by have := h1.size; simp; omega) (fun b hb => (own_tag HIB.out hb).2))
            clear hown4 hg4 hown5 hg5
            go_roundw
            case rel => exact ⟨k + 1, ps, its ++ [⟨.ring (ls), (some ⟨ga, 0, none⟩), c2⟩], n, D, fm, by go_num, hlt, by omega, by simp; omega, by omega, Lib.hid (by rw [HG3.out]; simp [itemL]), HRG5, HIT5, HB5⟩
            case measure => simp [intOf]; omega
          · have HE1 : ∀ W, (binOp .eql 53 (.agg #[.int .i64 m.e.f.1, .int .i64 m.e.f.2]) (.agg #[.int .i64 m.e.t.1, .int .i64 m.e.t.2])).run Tryz.prog W = .ok (.bool false) W := fun W => by rw [eql_vec, decide_eq_false (fun h => hft (Prod.ext (Prod.mk.inj h).1 (Prod.mk.inj h).2))]
            have HG3 : Hid (gather fl layer ((ents l).take (k + 1)) = (passL ps ++ [passOf ls], itemL its ++ [.chain (passL ps).length])) := Lib.hid (by rw [HG2.out, show isClosed m.e = false by (unfold isClosed; rw [HKD.out, decide_eq_false hft]; rfl), HSL.out]; rfl)
            obtain ⟨N, hN⟩ : ∃ N, ls.length = N + 1 := ⟨ls.length - 1, by omega⟩
            have hw2 : ((N : Int) < (N : Int) + 1) = True := eq_true (by omega)
            have hw4 : IntKind.i64.wrap (N : Int) = (N : Int) := IntWalk.i64_in _ (by omega)
            clear hft HG2
            go_wp2_with fail
            refine (HCALL.out _).mono ?_
            rintro e W2 ⟨⟨v, rfl, hown⟩, hb2⟩
            rw [hN] at hown
            obtain ⟨ga, c2, rfl, hc2⟩ := own_some hown (by omega)
            have HPT : Hid (PtAt w.heap.size W2 (some ⟨ga, 0, none⟩) ls) := Lib.hid (PtAt.of_own hown)
            have HRG2 := Lib.hid (HRG1.out.below hb2)
            have HIT2 := Lib.hid (HIT1.out.below hb2)
            have HB2 := Lib.hid (HB1.out.trans (hb2.mono HB1.out.size))
            clear q0 q2 q3 q4 q5 q6 q7 q8 q9 q10 q11 q12 q13 hown
            have q0 := Q0 ⟨W2, hb2⟩
            have q2 := Q2 ⟨W2, hb2⟩
            have q3 := Q3 ⟨W2, hb2⟩
            have q4 := Q4 ⟨W2, hb2⟩
            have q5 := Q5 ⟨W2, hb2⟩
            have q6 := Q6 ⟨W2, hb2⟩
            have q7 := Q7 ⟨W2, hb2⟩
            have q8 := Q8 ⟨W2, hb2⟩
            have q9 := Q9 ⟨W2, hb2⟩
            have q10 := Q10 ⟨W2, hb2⟩
            have q11 := Q11 ⟨W2, hb2⟩
            have q12 := Q12 ⟨W2, hb2⟩
            have q13 := Q13 ⟨W2, hb2⟩
            simp only at q0 q2 q3 q4 q5 q6 q7 q8 q9 q10 q11 q12 q13
            rw [HKD.out] at q0
            clear Q0 Q1 Q2 Q3 Q4 Q5 Q6 Q7 Q8 Q9 Q10 Q11 Q12 Q13 hb2
            have HPTr := HPT
            obtain ⟨g', off', he', hg', hc'⟩ := row_get pt_len (by decide) HPT.out.1 (by omega)
            cases he'
            have p0 := hc' 0 (by omega) 0 (by decide)
            have p1 := hc' 0 (by omega) 1 (by decide)
            have p2 := hc' N (by omega) 0 (by decide)
            have p3 := hc' N (by omega) 1 (by decide)
            have HE0 : Hid (ls.getD 0 z0 = ls[0]) := Lib.hid (by rw [List.getD_eq_getElem?_getD, List.getElem?_eq_getElem (by omega)]; rfl)
            have HE1 : Hid (ls.getD (ls.length - 1) z0 = ls[N]) := Lib.hid (by rw [List.getD_eq_getElem?_getD, show ls.length - 1 = N by omega, List.getElem?_eq_getElem (by omega)]; rfl)
            have HW0 : Hid (WfV ls[0]) := Lib.hid (HWF.out _ (List.getElem_mem _))
            have HW1 : Hid (WfV ls[N]) := Lib.hid (HWF.out _ (List.getElem_mem _))
            clear hc'
            generalize ls[0] = v0 at *
            generalize ls[N] = v1 at *
            obtain ⟨x0, y0⟩ := v0
            obtain ⟨x1, y1⟩ := v1
            simp only [ptCells, List.getElem?_cons_zero, List.getElem?_cons_succ, Nat.zero_mul, Nat.zero_add, Nat.add_zero] at p0 p1 p2 p3
            have HQ0 : Hid (passOf ls = ⟨(x0, y0), (x1, y1), ls⟩) := Lib.hid (by unfold passOf; rw [HE0.out, HE1.out])
            have HOB := Lib.hid (one_vec W2 (.cells #[.int .i64 x0, .int .i64 y0, .int .i64 x1, .int .i64 y1, .slice (some ⟨ga, 0, none⟩) (N + 1) c2, .bool false] 86))
            have HEQ : Hid ((passOf ls).e0 = (x0, y0) ∧ (passOf ls).e1 = (x1, y1)) := Lib.hid (by rw [HQ0.out]; exact ⟨rfl, rfl⟩)
            have hw1 : IntKind.i64.wrap 1 = 1 := by decide
            go_upto_region 21 with fail
            go_cut [15] from 90 to 102 (fun p wc => p = .pointer (some ⟨W2.heap.size, 0, none⟩) ∧ W2.grownBy wc none ∧ wc.heap[W2.heap.size]? = some (.cells #[.int .i64 x0, .int .i64 y0, .int .i64 x1, .int .i64 y1, .slice (some ⟨ga, 0, none⟩) (N + 1) c2, .bool false] 86 (0, 0)) ∧ wc.heap.size = W2.heap.size + 1)
            case first =>
              go_region_law (fail)
              all_goals
                go_wp2_with fail
                go_meet
              all_goals
                refine ⟨rfl, grown_drew (grown_none _), HOB.out.2, by simp⟩
            case rest =>
              obtain ⟨rfl, hgc, hbox, hszc⟩ := hcut
              have HMS : Hid (Mid w.heap.size wc ps (.slice oA ps.length oc) mb n D fm its u10 u11 ⟨passOf ls, some ⟨ga, 0, none⟩, c2, W2.heap.size⟩ 0) := Lib.hid (Mid.start HRG2.out HIT2.out _ ⟨HB2.out.size, by rw [HQ0.out]; unfold passCells; rw [show ls.length = (N + 1) by omega]; exact hbox, by have := HPT.out.keep (T := 3) hgc (RowW.none _ _ _) (by decide); rw [HQ0.out]; exact this, by rw [HQ0.out]; show ls.length ≤ c2; omega, by rw [HQ0.out]; exact HLN.out⟩ hgc (Nat.le_refl _))
              have HBS : Hid (Below w.heap.size w wc) := Lib.hid (HB2.out.grown hgc HB2.out.size (fun b hb => by cases hb))
              have c0 := cellAt14 hbox 0 (by simp)
              have c1 := cellAt14 hbox 1 (by simp)
              have c2 := cellAt14 hbox 2 (by simp)
              have c3 := cellAt14 hbox 3 (by simp)
              simp only [List.getElem_toArray, List.getElem_cons_zero, List.getElem_cons_succ] at c0 c1 c2 c3
              clear HE0 HE1 HQ0 HPTr p0 p1 p2 p3 hgc hbox HOB q0 q2 q3 q4 q5 q6 q7 q8 q9 q10 q11 q12 q13
              generalize W2.heap.size = bq at *
              go_wp2
              clear c0 c1 c2 c3
              obtain ⟨HX0, HX1⟩ := HEQ.out
              have HEX0 := Lib.hid HX0
              have HEX1 := Lib.hid HX1
              clear HX0 HX1 HEQ
              go_loopw [107] (fun t wr => ∃ (j : Nat) (D' : DataW Value) (f' : V → Option Value), t = .int .i64 (j : Int) ∧ j ≤ 2 ∧ Hid (Mid w.heap.size wr ps (.slice oA ps.length oc) mb (n + j) D' f' its u10 u11 ⟨passOf ls, some ⟨ga, 0, none⟩, c2, bq⟩ j) ∧ Hid (Below w.heap.size w wr)) (fun t _ => 2 - (intOf t).toNat)
              case atStart => exact ⟨0, D, fm, rfl, by omega, HMS, HBS⟩
              case round =>
                clear HMS HBS
                obtain ⟨j, D1, f1, rfl, hj, HM, HBr⟩ := hrel
                rcases (show j = 0 ∨ j = 1 ∨ j = 2 by omega) with rfl | rfl | rfl
                · skip
                  have hix : ∀ W : World, (Instr.index 84 (.agg #[.int .i64 x0, .int .i64 y0, .int .i64 x1, .int .i64 y1]) (.int .i64 0)).run Tryz.prog W = .ok (.agg #[.int .i64 x0, .int .i64 y0]) W := fun W => by kernel_rfl
                  have HM1 := Lib.hid ((HM.out.alloc (.cells #[.int .i64 x0, .int .i64 y0] 53)).alloc (.cells #[.int .i64 (ps.length : Int), .int .i64 0] 88))
                  have HBa := Lib.hid ((HBr.out.alloc HBr.out.size (.cells #[.int .i64 x0, .int .i64 y0] 53)).alloc (by have := HBr.out.size; simp; omega) (.cells #[.int .i64 (ps.length : Int), .int .i64 0] 88))
                  have HO1 := Lib.hid (one_vec wr (.cells #[.int .i64 x0, .int .i64 y0] 53))
                  have HO2 := Lib.hid (heap_alloc_new (wr.alloc (.cells #[.int .i64 x0, .int .i64 y0] 53)) (.cells #[.int .i64 (ps.length : Int), .int .i64 0] 88))
                  go_upto_region 25 with fail
                  obtain ⟨v0', v1'⟩ := pair_at HO1.out.2 (Below.refl _ _)
                  have hszq : (wr.alloc (.cells #[.int .i64 x0, .int .i64 y0] 53)).heap.size = wr.heap.size + 1 := by simp
                  rw [hszq] at HO2
                  obtain ⟨Lf, HLf⟩ : ∃ Lf, Hid (Lup (passL ps) (passOf ls) 0 = Lf) := ⟨_, Lib.hid rfl⟩
                  have hmr0 := HM1.out.mr
                  rw [show Lup (passL ps) (PassV.p ⟨passOf ls, some ⟨ga, 0, none⟩, c2, bq⟩) 0 = Lf from HLf.out] at hmr0
                  obtain ⟨v0, st, Wm, hE, hgm, hszm, hownm, hpm, hS⟩ := hmr0.step (by unfold maxLen; omega) (x0, y0) HW0.out
                  clear hmr0
                  have HS := Lib.hid hS
                  have HGM := Lib.hid hgm
                  have hE2 : (Instr.mapEntry 78 (.map (some mb)) (.agg #[.int .i64 x0, .int .i64 y0])).run Tryz.prog ((wr.alloc (.cells #[.int .i64 x0, .int .i64 y0] 53)).alloc (.cells #[.int .i64 (ps.length : Int), .int .i64 0] 88)) = .ok (.tuple #[v0, goInt st]) Wm := hE
                  have hpb : Wm.heap[wr.heap.size + 1]? = some (.cells #[.int .i64 (ps.length : Int), .int .i64 0] 88 (0, 0)) := (HGM.out.block _ (lt_of_block HO2.out) (fun he => map_block HM1.out.mr.map_ ⟨_, _, HO2.out⟩ (Option.some.inj he))).trans HO2.out
                  have HPB := Lib.hid hpb
                  have HOM := Lib.hid hownm
                  have HPM := Lib.hid hpm
                  have hzm : Wm.heap.size = wr.heap.size + 1 + 1 := by rw [hszm]; simp
                  have hLl := Lup_len (passL ps) (passOf ls) 0 (x0, y0)
                  rw [HLf.out] at hLl
                  have hpl : (passL ps).length = ps.length := by unfold passL; simp
                  clear hE hgm hszm hownm hpm hS hpb
                  obtain ⟨pi0, pia, pib, pic, pid⟩ := info_parts info_pair
                  go_wp2_with (first
                    | (at_builtin; refine wpList_append_lies _ rfl _ _ 87 rfl w.heap.size 88 pi0 _ 2 16 Tryz.underlying87 pia pib pic pid rfl (by omega) _ (Lf (x0, y0)).length _ rfl HOM.out ⟨wr.heap.size + 1, 0, none⟩ 1 1 [.int .i64 (ps.length : Int), .int .i64 0] rfl rfl (World.news_of_block HPB.out) (by simp [Value.oneCell']) (by omega) (by unfold maxLen; omega) (by omega) (by have := HBa.out.size; simp at this; omega) (wr.heap.size + 1 + 1) (by omega) ?_; intro g5 c5 w5 hown5 hg5 hat5 hlt5; obtain ⟨w6, D', f', hst, hg6, hsz6, hmr⟩ := HS.out w5 g5 c5 (ps.length, 0) (by rw [List.flatMap_append]; exact hown5) hg5 (by rw [hzm]; exact hat5); have hst2 : (Instr.entryStore 78 (.map (some mb)) (.int .i64 (st : Int)) (.slice (some ⟨g5, 0, none⟩) ((Lf (x0, y0)).length + 1) c5)).run Tryz.prog w5 = .ok () w6 := hst; clear hst)
                    | go_in)
                  have HMN : Hid (Mid w.heap.size w6 ps (.slice oA ps.length oc) mb (n + 0 + 1) D' f' its u10 u11 ⟨passOf ls, some ⟨ga, 0, none⟩, c2, bq⟩ 1) := Lib.hid (HM1.out.step HGM.out (RowT.own HOM.out).weak hg5 (fun T => fun g hg => by
                    cases hg
                    refine ⟨fun T' ht => ?_, HM1.out.mr.mbase⟩
                    exact absurd ht (map_not hg5 HOM.out HPM.out T')) hg6 (by
                      have := Lup_one (passL ps) (passOf ls)
                      rw [hpl, HEX0.out, HLf.out] at this
                      rw [← this]
                      exact hmr))
                  have HBN : Hid (Below w.heap.size w w6) := Lib.hid (((HBa.out.grown HGM.out (by have := HBa.out.size; omega) (fun b hb => by cases hb; exact HM1.out.mr.mbase)).grown hg5 (by have := HBa.out.size; simp at this; omega) (fun b hb => (own_tag HOM.out hb).2)).grown hg6 (by have := HBa.out.size; have h2 := hg5.size; simp at this; omega) (fun b hb => by cases hb; exact HM1.out.mr.mbase))
                  clear hmr hg5 hg6 hown5 HS HOM HPB HM1 HGM
                  go_roundw
                  case rel => exact ⟨1, D', f', by go_num, by omega, by simpa [Nat.add_assoc] using HMN, HBN⟩
                  case measure => simp [intOf]

                · skip
                  have hix : ∀ W : World, (Instr.index 84 (.agg #[.int .i64 x0, .int .i64 y0, .int .i64 x1, .int .i64 y1]) (.int .i64 1)).run Tryz.prog W = .ok (.agg #[.int .i64 x1, .int .i64 y1]) W := fun W => by kernel_rfl
                  have HM1 := Lib.hid ((HM.out.alloc (.cells #[.int .i64 x1, .int .i64 y1] 53)).alloc (.cells #[.int .i64 (ps.length : Int), .int .i64 1] 88))
                  have HBa := Lib.hid ((HBr.out.alloc HBr.out.size (.cells #[.int .i64 x1, .int .i64 y1] 53)).alloc (by have := HBr.out.size; simp; omega) (.cells #[.int .i64 (ps.length : Int), .int .i64 1] 88))
                  have HO1 := Lib.hid (one_vec wr (.cells #[.int .i64 x1, .int .i64 y1] 53))
                  have HO2 := Lib.hid (heap_alloc_new (wr.alloc (.cells #[.int .i64 x1, .int .i64 y1] 53)) (.cells #[.int .i64 (ps.length : Int), .int .i64 1] 88))
                  go_upto_region 25 with fail
                  obtain ⟨v0', v1'⟩ := pair_at HO1.out.2 (Below.refl _ _)
                  have hszq : (wr.alloc (.cells #[.int .i64 x1, .int .i64 y1] 53)).heap.size = wr.heap.size + 1 := by simp
                  rw [hszq] at HO2
                  obtain ⟨Lf, HLf⟩ : ∃ Lf, Hid (Lup (passL ps) (passOf ls) 1 = Lf) := ⟨_, Lib.hid rfl⟩
                  have hmr0 := HM1.out.mr
                  rw [show Lup (passL ps) (PassV.p ⟨passOf ls, some ⟨ga, 0, none⟩, c2, bq⟩) 1 = Lf from HLf.out] at hmr0
                  obtain ⟨v0, st, Wm, hE, hgm, hszm, hownm, hpm, hS⟩ := hmr0.step (by unfold maxLen; omega) (x1, y1) HW1.out
                  clear hmr0
                  have HS := Lib.hid hS
                  have HGM := Lib.hid hgm
                  have hE2 : (Instr.mapEntry 78 (.map (some mb)) (.agg #[.int .i64 x1, .int .i64 y1])).run Tryz.prog ((wr.alloc (.cells #[.int .i64 x1, .int .i64 y1] 53)).alloc (.cells #[.int .i64 (ps.length : Int), .int .i64 1] 88)) = .ok (.tuple #[v0, goInt st]) Wm := hE
                  have hpb : Wm.heap[wr.heap.size + 1]? = some (.cells #[.int .i64 (ps.length : Int), .int .i64 1] 88 (0, 0)) := (HGM.out.block _ (lt_of_block HO2.out) (fun he => map_block HM1.out.mr.map_ ⟨_, _, HO2.out⟩ (Option.some.inj he))).trans HO2.out
                  have HPB := Lib.hid hpb
                  have HOM := Lib.hid hownm
                  have HPM := Lib.hid hpm
                  have hzm : Wm.heap.size = wr.heap.size + 1 + 1 := by rw [hszm]; simp
                  have hLl := Lup_len (passL ps) (passOf ls) 1 (x1, y1)
                  rw [HLf.out] at hLl
                  have hpl : (passL ps).length = ps.length := by unfold passL; simp
                  clear hE hgm hszm hownm hpm hS hpb
                  obtain ⟨pi0, pia, pib, pic, pid⟩ := info_parts info_pair
                  go_wp2_with (first
                    | (at_builtin; refine wpList_append_lies _ rfl _ _ 87 rfl w.heap.size 88 pi0 _ 2 16 Tryz.underlying87 pia pib pic pid rfl (by omega) _ (Lf (x1, y1)).length _ rfl HOM.out ⟨wr.heap.size + 1, 0, none⟩ 1 1 [.int .i64 (ps.length : Int), .int .i64 1] rfl rfl (World.news_of_block HPB.out) (by simp [Value.oneCell']) (by omega) (by unfold maxLen; omega) (by omega) (by have := HBa.out.size; simp at this; omega) (wr.heap.size + 1 + 1) (by omega) ?_; intro g5 c5 w5 hown5 hg5 hat5 hlt5; obtain ⟨w6, D', f', hst, hg6, hsz6, hmr⟩ := HS.out w5 g5 c5 (ps.length, 1) (by rw [List.flatMap_append]; exact hown5) hg5 (by rw [hzm]; exact hat5); have hst2 : (Instr.entryStore 78 (.map (some mb)) (.int .i64 (st : Int)) (.slice (some ⟨g5, 0, none⟩) ((Lf (x1, y1)).length + 1) c5)).run Tryz.prog w5 = .ok () w6 := hst; clear hst)
                    | go_in)
                  have HMN : Hid (Mid w.heap.size w6 ps (.slice oA ps.length oc) mb (n + 1 + 1) D' f' its u10 u11 ⟨passOf ls, some ⟨ga, 0, none⟩, c2, bq⟩ 2) := Lib.hid (HM1.out.step HGM.out (RowT.own HOM.out).weak hg5 (fun T => fun g hg => by
                    cases hg
                    refine ⟨fun T' ht => ?_, HM1.out.mr.mbase⟩
                    exact absurd ht (map_not hg5 HOM.out HPM.out T')) hg6 (by
                      have := Lup_two (passL ps) (passOf ls)
                      rw [hpl, HEX1.out, HLf.out] at this
                      rw [← this]
                      exact hmr))
                  have HBN : Hid (Below w.heap.size w w6) := Lib.hid (((HBa.out.grown HGM.out (by have := HBa.out.size; omega) (fun b hb => by cases hb; exact HM1.out.mr.mbase)).grown hg5 (by have := HBa.out.size; simp at this; omega) (fun b hb => (own_tag HOM.out hb).2)).grown hg6 (by have := HBa.out.size; have h2 := hg5.size; simp at this; omega) (fun b hb => by cases hb; exact HM1.out.mr.mbase))
                  clear hmr hg5 hg6 hown5 HS HOM HPB HM1 HGM
                  go_roundw
                  case rel => exact ⟨2, D', f', by go_num, by omega, by simpa [Nat.add_assoc] using HMN, HBN⟩
                  case measure => simp [intOf]

                · skip
                  have hfin : its.length ≤ 1000000 := by omega
                  obtain ⟨ci0, cia, cib, cic, cid⟩ := info_parts info_rows
                  obtain ⟨ii0, iia, iib, iic, iid⟩ := info_parts info_int
                  obtain ⟨oi0, oia, oib, oic, oid⟩ := info_parts info_ptr
                  have HIA := Lib.hid (HM.out.its_.alloc (.cells #[.slice none 0 0] 25))
                  have hsz := HBr.out.size
                  have tok1 := Lib.hid trivial
                  have tok2 := Lib.hid trivial
                  go_wp2_with (first
                    | (at_builtin; have _t := tok1; clear tok1; refine wpList_append_lies _ rfl _ _ 79 rfl w.heap.size 25 ci0 _ 1 24 Tryz.underlying79 cia cib cic cid rfl (by omega) _ its.length _ rfl HIA.out.crow ⟨wr.heap.size, 0, none⟩ 1 1 [.slice none 0 0] rfl rfl (World.news_of_block (heap_alloc_new wr _)) (by simp [Value.oneCell']) (by omega) (by unfold maxLen; omega) (by omega) (by simp; omega) (wr.heap.size + 1) (by simp) ?_; intro g4 c4 w4 hown4 hg4 _ hlt4; have HIB := Lib.hid (HM.out.its_.frow2 _ (.cells #[.int .i64 (ps.length : Int)] 3) hg4); have hz4 := hg4.size)
                    | (at_builtin; have _t := tok2; clear tok2; refine wpList_append_lies _ rfl _ _ 80 rfl w.heap.size 3 ii0 _ 1 8 Tryz.underlying80 iia iib iic iid rfl (by omega) _ its.length _ rfl HIB.out ⟨w4.heap.size, 0, none⟩ 1 1 [.int .i64 (ps.length : Int)] rfl rfl (World.news_of_block (heap_alloc_new w4 _)) (by simp [Value.oneCell']) (by omega) (by unfold maxLen; omega) (by omega) (by simp at hz4; simp; omega) (w4.heap.size + 1) (by simp) ?_; intro g5 c5 w5 hown5 hg5 _ hlt5; have HIO := Lib.hid (HM.out.orow _ _ (.cells #[.pointer (some ⟨bq, 0, none⟩)] 83) hg4 hg5); have hz5 := hg5.size)
                    | (at_builtin; refine wpList_append_lies _ rfl _ _ 77 rfl w.heap.size 83 oi0 _ 1 8 Tryz.underlying77 oia oib oic oid rfl (by omega) _ ps.length _ rfl HIO.out ⟨w5.heap.size, 0, none⟩ 1 1 [.pointer (some ⟨bq, 0, none⟩)] rfl rfl (World.news_of_block (heap_alloc_new w5 _)) (by simp [Value.oneCell']) (by omega) (by unfold maxLen; omega) (by omega) (by simp at hz4 hz5; simp; omega) (w5.heap.size + 1) (by simp) ?_; intro g8 c8 w8 hown8 hg8 _ hlt8)
                    | go_in)
                  have HITN := Lib.hid (HM.out.its_.push ⟨.chain ps.length, none, 0⟩ _ _ hg4 hown4 hg5 hown5 (PtAt.nil _ _ _) (by show (0 : Nat) ≤ 1000000; omega))
                  have HDN := Lib.hid (HM.out.done _ _ _ hg4 hg5 HITN.out hg8 hown8)
                  have HRG8 := Lib.hid HDN.out.1
                  have HIT8 := Lib.hid HDN.out.2
                  have HB8 : Hid (Below w.heap.size w w8) := Lib.hid (by
                    have h1 := (HBr.out.alloc HBr.out.size (.cells #[.slice none 0 0] 25)).grown hg4 (by simp; omega) (fun b hb => (own_tag HIA.out.crow hb).2)
                    have h2 := (h1.alloc h1.size (.cells #[.int .i64 (ps.length : Int)] 3)).grown hg5 (by have := h1.size; simp; omega) (fun b hb => (own_tag HIB.out hb).2)
                    exact (h2.alloc h2.size _).grown hg8 (by have := h2.size; simp; omega) (fun b hb => (own_tag HIO.out hb).2))
                  clear hown4 hg4 hown5 hg5 hown8 hg8 HDN HITN HIA HIB HIO
                  go_roundw
                  case rel => exact ⟨k + 1, ps ++ [⟨passOf ls, some ⟨ga, 0, none⟩, c2, bq⟩], its ++ [⟨.chain ps.length, none, 0⟩], n + 2, D1, f1, by go_num, hlt, by simp; omega, by simp; omega, by omega, Lib.hid (by rw [HG3.out]; simp [itemL, passL]), HRG8, HIT8, HB8⟩
                  case measure => simp [intOf]; omega

        · have HKD := Lib.hid hk3
          clear hk3
          have hc3 : isClosed m.e = true := by unfold isClosed; rw [HKD.out]; rfl
          have HG3 : Hid (gather fl layer ((ents l).take (k + 1)) = (passL ps, itemL its ++ [.ring m.e.pts])) := Lib.hid (by rw [HG2.out, hc3, if_pos rfl]; unfold selPts; rw [HKD.out]; rfl)
          have HRG2 := HRG1
          have HIT2 := HIT1
          have HB2 := HB1
          have s1 : ((3 : Int) == 1) = false := rfl
          have HPT := Lib.hid (PtAt.of_old (w0 := w) HPX.out.1 HB1.out)
          have HSM := Lib.hid HPX.out.2.1
          clear hc3 HG2 HFY
          have q0 := Q0 ⟨W1, Below.refl _ _⟩
          have q2 := Q2 ⟨W1, Below.refl _ _⟩
          have q3 := Q3 ⟨W1, Below.refl _ _⟩
          have q4 := Q4 ⟨W1, Below.refl _ _⟩
          have q5 := Q5 ⟨W1, Below.refl _ _⟩
          have q6 := Q6 ⟨W1, Below.refl _ _⟩
          have q7 := Q7 ⟨W1, Below.refl _ _⟩
          have q8 := Q8 ⟨W1, Below.refl _ _⟩
          have q9 := Q9 ⟨W1, Below.refl _ _⟩
          have q10 := Q10 ⟨W1, Below.refl _ _⟩
          have q11 := Q11 ⟨W1, Below.refl _ _⟩
          have q12 := Q12 ⟨W1, Below.refl _ _⟩
          have q13 := Q13 ⟨W1, Below.refl _ _⟩
          simp only at q0 q2 q3 q4 q5 q6 q7 q8 q9 q10 q11 q12 q13
          rw [HKD.out] at q0
          have hfin : its.length ≤ 1000000 := by omega
          obtain ⟨ci0, cia, cib, cic, cid⟩ := info_parts info_rows
          obtain ⟨ii0, iia, iib, iic, iid⟩ := info_parts info_int
          have HIA := Lib.hid (HIT2.out.alloc (.cells #[.slice m.A (m.e.pts).length m.k] 25))
          have hsz := HB2.out.size
          have tok1 := Lib.hid trivial
          go_wp2_with (first
            | (at_builtin; have _t := tok1; clear tok1; refine wpList_append_lies _ rfl _ _ 79 rfl w.heap.size 25 ci0 _ 1 24 Tryz.underlying79 cia cib cic cid rfl (by omega) _ its.length _ rfl HIA.out.crow ⟨W1.heap.size, 0, none⟩ 1 1 [.slice m.A (m.e.pts).length m.k] rfl rfl (World.news_of_block (heap_alloc_new W1 _)) (by simp [Value.oneCell']) (by omega) (by unfold maxLen; omega) (by omega) (by simp; omega) (W1.heap.size + 1) (by simp) ?_; intro g4 c4 w4 hown4 hg4 _ hlt4; have HIB := Lib.hid (HIT2.out.frow2 _ (.cells #[.int .i64 (-1)] 3) hg4); have hz4 := hg4.size)
            | (at_builtin; refine wpList_append_lies _ rfl _ _ 80 rfl w.heap.size 3 ii0 _ 1 8 Tryz.underlying80 iia iib iic iid rfl (by omega) _ its.length _ rfl HIB.out ⟨w4.heap.size, 0, none⟩ 1 1 [.int .i64 (-1)] rfl rfl (World.news_of_block (heap_alloc_new w4 _)) (by simp [Value.oneCell']) (by omega) (by unfold maxLen; omega) (by omega) (by simp at hz4; simp; omega) (w4.heap.size + 1) (by simp) ?_; intro g5 c5 w5 hown5 hg5 _ hlt5)
            | go_in)
          have HRG5 := Lib.hid (HRG2.out.push HIT2.out _ _ hg4 hg5)
          have HIT5 := Lib.hid (HIT2.out.push ⟨.ring (m.e.pts), m.A, m.k⟩ _ _ hg4 hown4 hg5 hown5 HPT.out HSM.out)
          have HB5 : Hid (Below w.heap.size w w5) := Lib.hid (by
            have h1 := (HB2.out.alloc HB2.out.size (.cells #[.slice m.A (m.e.pts).length m.k] 25)).grown hg4 (by simp; omega) (fun b hb => (own_tag HIA.out.crow hb).2)
            exact (h1.alloc h1.size _).grown hg5 (by have := h1.size; simp; omega) (fun b hb => (own_tag HIB.out hb).2))
          clear hown4 hg4 hown5 hg5
          go_roundw
          case rel => exact ⟨k + 1, ps, its ++ [⟨.ring (m.e.pts), m.A, m.k⟩], n, D, fm, by go_num, hlt, by omega, by simp; omega, by omega, Lib.hid (by rw [HG3.out]; simp [itemL]), HRG5, HIT5, HB5⟩
          case measure => simp [intOf]; omega
      · have e1 : (m.e.layer == layer) = false := beq_eq_false_iff_ne.2 hly
        have HG2 : Hid (gather fl layer ((ents l).take (k + 1)) = (passL ps, itemL its)) := Lib.hid (by rw [HGS.out]; unfold gatherS; rw [if_neg hly])
        clear hly HGS Q0 Q1 Q2 Q3 Q4 Q5 Q6 Q7 Q8 Q9 Q10 Q11 Q12 Q13
        go_wp2
        go_roundw
        case rel => exact ⟨k + 1, ps, its, n, D, fm, by go_num, hlt, by omega, by omega, by omega, HG2, HRG1, HIT1, HB1⟩
        case measure => simp [intOf]; omega
    · obtain rfl : k = l.length := by omega
      have HGA : Hid (gather fl layer (ents l) = (passL ps, itemL its)) := Lib.hid (by
        have : (ents l).take l.length = ents l := List.take_of_length_le (by unfold ents; simp)
        rw [← HG.out, this])
      have HQ2 : Hid (ringsP fl (ents l) layer tol = if twice (passL ps) then ringsGo (passL ps) (itemL its) (fun _ => false) [] else (11, [])) := Lib.hid (by rw [HP.out, HGA.out])
      have HCH : Hid (∀ (m : Nat), Itm.chain m ∈ itemL its → m < ps.length) := Lib.hid (fun m hm => by
        have := gather_chain fl layer (ents l) m (by rw [HGA.out]; exact hm)
        rw [HGA.out] at this
        simpa [passL] using this)
      clear HG HP HGA HFA HOK HD1 HD2
      have hown := HRG.out.mr.map_
      go_wp2_with (first
        | (at_range; refine wpList_range_own _ rfl _ 78 rfl 53 87 (Maps.Keyed.of_law law_vec) Tryz.underlying78 _ mb n _ rfl hown ?_; intro w0 hrg0 hg0 hs0)
        | go_in)
      go_frame
      have HRG0 := Lib.hid (HRG.out.keep (T := 3) hg0 (RowT.none _ _ _) (by decide) (by decide) (by decide) (by decide))
      have HIT0 := Lib.hid (HIT.out.keep (T := 4) hg0 (RowW.none _ _ _) (by decide) (by decide) (by decide))
      have HB0 : Hid (Below w.heap.size w w0) := Lib.hid (HB.out.grown hg0 HB.out.size (fun b hb => by cases hb))
      have hrb : w.heap.size ≤ wr.heap.size := HB.out.size
      clear hown hg0 HRG HIT HB
      generalize hR : wr.heap.size = r at *
      go_loopw [19] (fun _ wr => ∃ (left : Lit → Bool) (cnt : Nat), wr.ranges Tryz.prog 53 anyV mb r n D left cnt ∧ Hid (∀ v, (fm v).isSome = true → left (vLit v) = true ∨ (atL (passL ps) v).length = 2) ∧ Hid (Rg w.heap.size wr ps (fun _ => false) (.slice oA ps.length oc) mb n D fm) ∧ Hid (Its w.heap.size wr its u10 u11) ∧ Hid (Below w.heap.size w wr)) (fun _ wr => wr.rangeLeft mb r)
      case atStart => exact ⟨_, _, hrg0, Lib.hid (fun v hv => .inl (by
        have hwf : WfV v := by
          cases hf : fm v with
          | none => rw [hf] at hv; cases hv
          | some u => exact HRG0.out.mr.wfk v u hf
        exact (HRG0.out.mr.fun_.2.1 v hwf).2 hv)), HRG0, HIT0, HB0⟩
      case round =>
        clear HRG0 HIT0 HB0 hrg0
        obtain ⟨left, cnt, hrg, HL, HRG, HIT, HB⟩ := hrel
        go_wp2_with (first
          | (at_next; refine wpList_next_ranges _ rfl _ rfl 53 (Maps.Keyed.of_law law_vec) _ vecV (id : Value → Value) (fun key kl h => by obtain ⟨x, _, h1, _⟩ := keys_vec.inv h; exact ⟨x, h1⟩) (fun v y h => ⟨v, rfl⟩) mb r n D left cnt rfl hrg ?_ ?_)
          | go_in)
        · intro hc0 hl0
          have HTW : Hid (twice (passL ps) = true) := Lib.hid (twice_keys.2 (fun v hv => by
            cases hf : fm v with
            | none => exact absurd ((HRG.out.mr.rows v).1 hf) hv
            | some u =>
              rcases HL.out v (by rw [hf]; rfl) with h | h
              · rw [hl0] at h; cases h
              · exact h))
          have HQ3 : Hid (ringsP fl (ents l) layer tol = ringsGo (passL ps) (itemL its) (fun _ => false) []) := Lib.hid (by rw [HQ2.out, HTW.out, if_pos rfl])
          clear HQ2 HL hl0 hc0 hrg
          have HM : Hid (∀ (m : Nat), Itm.chain m ∈ itemL its → m < ps.length) := HCH
          clear HCH
          obtain ⟨cA, cc, rfl, hcc⟩ := own_shape HIT.out.crow
          obtain ⟨fA, fc, rfl, hfc⟩ := own_shape HIT.out.frow
          go_wp2
          go_loopw [20, 147] (fun o i wr => ∃ (k : Nat) (u : Nat → Bool) (acc : List RowV), i = .int .i64 (k : Int) ∧ k ≤ its.length ∧ acc.length ≤ k ∧ Hid (ringsGo (passL ps) ((itemL its).drop k) u (acc.map RowV.l) = ringsP fl (ents l) layer tol) ∧ Hid (Rg w.heap.size wr ps u (.slice oA ps.length oc) mb n D fm) ∧ Hid (Its w.heap.size wr its (.slice cA its.length cc) (.slice fA its.length fc)) ∧ Hid (wr.ownsRow w.heap.size 26 1 o acc.length (acc.map rowVal)) ∧ Hid (∀ r ∈ acc, PtAt w.heap.size wr r.A r.l ∧ r.l.length ≤ r.k) ∧ Hid (Below w.heap.size w wr)) (fun _ i _ => its.length - (intOf i).toNat)
          case atStart => exact ⟨0, fun _ => false, [], rfl, Nat.zero_le _, Nat.le_refl _, Lib.hid HQ3.out.symm, HRG, HIT, Lib.hid (World.ownsRow_nil _ _ _ _), Lib.hid (fun r h => by cases h), HB⟩
          case round =>
            clear HRG HIT HB HQ3
            obtain ⟨k, u, acc, rfl, hk, hacc, HGO, HRG, HIT, HOW, HPA, HB⟩ := hrel
            obtain ⟨aA, ac, rfl, hac⟩ := own_shape HOW.out
            by_cases hlt : k < its.length
            · skip
              obtain ⟨cg, rfl⟩ : ∃ g, cA = some ⟨g, 0, none⟩ := by
                obtain ⟨g, c, hv, _⟩ := own_some HIT.out.crow (by omega)
                injection hv with hv
                exact ⟨g, hv⟩
              obtain ⟨fg, rfl⟩ : ∃ g, fA = some ⟨g, 0, none⟩ := by
                obtain ⟨g, c, hv, _⟩ := own_some HIT.out.frow (by omega)
                injection hv with hv
                exact ⟨g, hv⟩
              have c0 : wr.cell? ⟨cg, k, none⟩ = some (closedVal its[k]) := by
                rw [(own_cells HIT.out.crow k (by omega)).1, List.getElem?_map, List.getElem?_eq_getElem hlt]; rfl
              have c1 : wr.cell? ⟨fg, k, none⟩ = some (firstVal its[k]) := by
                rw [(own_cells HIT.out.frow k (by omega)).1, List.getElem?_map, List.getElem?_eq_getElem hlt]; rfl
              have HDR : Hid ((itemL its).drop k = its[k].it :: (itemL its).drop (k + 1)) := Lib.hid (by
                unfold itemL
                rw [← List.map_drop, ← List.map_drop, List.drop_eq_getElem_cons hlt, List.map_cons])
              have HXM : Hid (its[k].it ∈ itemL its) := Lib.hid (List.mem_map_of_mem (List.getElem_mem hlt))
              have HXP := Lib.hid (HIT.out.pts its[k] (List.getElem_mem hlt))
              have HXS := Lib.hid (HIT.out.small its[k] (List.getElem_mem hlt))
              generalize its[k] = x at *
              obtain ⟨it, xA, xk⟩ := x
              rcases it with ls | m
              · simp only [closedVal, firstVal, itemPts] at c0 c1 HXP HXS
                have HGc : Hid ((if cleanE ls = 0 then ringsGo (passL ps) ((itemL its).drop (k + 1)) u (acc.map RowV.l ++ [cleanR ls]) else (cleanE ls, [])) = ringsP fl (ents l) layer tol) := Lib.hid (by rw [← HGO.out, HDR.out, ringsGo])
                have HRGc := HRG
                have HITc := HIT
                have HOWc := HOW
                have HPAc := HPA
                have HBc := HB
                have HROW := Lib.hid HXP.out.1
                have HLEN : Hid (ls.length ≤ 17592186043904) := Lib.hid (by have := HXS.out; omega)
                clear HRG HIT HOW HPA HB HGO HDR HXM HXP HXS
                have HCL := Lib.hid (clean_any ls xA xk wr HROW.out HLEN.out)
                clear HROW HLEN
                generalize ls = L at *
                generalize cleanE L = E at *
                generalize cleanR L = R at *
                go_wp2_with fail
                refine HCL.out.mono ?_
                rintro e W3 ⟨⟨v3, rfl, hv3⟩, hb3⟩
                obtain ⟨rA, rc, rfl, hrc⟩ := own_shape hv3
                have HRG3 := Lib.hid (HRGc.out.below hb3)
                have HIT3 := Lib.hid (HITc.out.below hb3)
                have HOW3 := Lib.hid (own_below HOWc.out hb3)
                have HPA3 : Hid (∀ r ∈ acc, PtAt w.heap.size W3 r.A r.l ∧ r.l.length ≤ r.k) := Lib.hid (fun r hr => ⟨(HPAc.out r hr).1.keep (T := 3) (grown_below hb3) (RowW.none _ _ _) (by decide), (HPAc.out r hr).2⟩)
                have HB3 : Hid (Below w.heap.size w W3) := Lib.hid (HBc.out.grown (grown_below hb3) HBc.out.size (fun b hb => by cases hb))
                have HV3 := Lib.hid hv3
                clear hv3 hb3 HRGc HITc HOWc HPAc HBc HCL
                by_cases he : E = 0
                · subst he
                  have HG3 : Hid (ringsGo (passL ps) ((itemL its).drop (k + 1)) u (acc.map RowV.l ++ [R]) = ringsP fl (ents l) layer tol) := Lib.hid (by rw [← HGc.out, if_pos rfl])
                  clear HGc
                  obtain ⟨ri0, ria, rib, ric, rid⟩ := info_parts info_ring
                  have hsz := HB3.out.size
                  have HOA := Lib.hid (own_keep (T := 3) (grown_none (.cells #[.slice rA R.length rc] 26)) (RowW.none _ 0 _) (by decide) HOW3.out)
                  go_wp2_with (first
                    | (at_builtin; refine wpList_append_lies _ rfl _ _ 27 rfl w.heap.size 26 ri0 _ 1 24 Tryz.underlying27 ria rib ric rid rfl (by omega) _ acc.length _ rfl HOA.out ⟨W3.heap.size, 0, none⟩ 1 1 [.slice rA R.length rc] rfl rfl (World.news_of_block (heap_alloc_new W3 _)) (by simp [Value.oneCell']) (by omega) (by unfold maxLen; omega) (by omega) (by simp; omega) (W3.heap.size + 1) (by simp) ?_; intro g4 c4 w4 hown4 hg4 _ hlt4)
                    | go_in)
                  have r4 := RowT.own HOA.out
                  have HRG4 := Lib.hid ((HRG3.out.alloc (.cells #[.slice rA R.length rc] 26)).keep hg4 r4 (by decide) (by decide) (by decide) (by decide))
                  have HIT4 := Lib.hid ((HIT3.out.alloc (.cells #[.slice rA R.length rc] 26)).keep hg4 r4.weak (by decide) (by decide) (by decide))
                  have HPA4 : Hid (∀ r ∈ acc ++ [⟨R, rA, rc⟩], PtAt w.heap.size w4 r.A r.l ∧ r.l.length ≤ r.k) := Lib.hid (fun r hr => by
                    rcases List.mem_append.1 hr with hr | hr
                    · exact ⟨((HPA3.out r hr).1.alloc _).keep hg4 r4.weak (by decide), (HPA3.out r hr).2⟩
                    · simp only [List.mem_cons, List.not_mem_nil, or_false] at hr
                      subst hr
                      exact ⟨((PtAt.of_own HV3.out).alloc _).keep hg4 r4.weak (by decide), hrc⟩)
                  have HB4 : Hid (Below w.heap.size w w4) := Lib.hid ((HB3.out.alloc HB3.out.size _).grown hg4 (by simp; omega) (fun b hb => (own_tag HOA.out hb).2))
                  have HOW4 := Lib.hid hown4
                  clear hown4 hg4 r4 HOA
                  go_roundw
                  case rel => exact ⟨k + 1, u, acc ++ [⟨R, rA, rc⟩], by go_num, hlt, by simp; omega, Lib.hid (by rw [List.map_append]; exact HG3.out), HRG4, HIT4, Lib.hid (by rw [List.length_append, List.map_append]; exact HOW4.out), HPA4, HB4⟩
                  case measure => simp [intOf]; omega
                · have t1 : (E != 0) = true := bne_iff_ne.2 he
                  have HG3 : Hid (ringsP fl (ents l) layer tol = (E, [])) := Lib.hid (by rw [← HGc.out, if_neg he])
                  clear HGc he
                  go_wp2
                  refine bodyPost_ret (v := .tuple #[.slice none 0 0, .int .i64 E]) (by simp [results, Tryz.results15, go_sem]) rfl ⟨⟨_, by rw [HG3.out], by rw [HG3.out]; exact HNIL.out _⟩, HB3.out⟩

              · simp only [closedVal, firstVal, itemPts] at c0 c1 HXP HXS
                have hm : m < ps.length := HM.out m HXM.out
                obtain ⟨og, rfl⟩ : ∃ g, oA = some ⟨g, 0, none⟩ := by
                  obtain ⟨g, c, hv, _⟩ := own_some HRG.out.opens (by omega)
                  injection hv with hv
                  exact ⟨g, hv⟩
                have c2 : wr.cell? ⟨og, m, none⟩ = some (.pointer (some ⟨ps[m].g, 0, none⟩)) := by
                  rw [(own_cells HRG.out.opens m (by omega)).1, List.getElem?_map, List.getElem?_eq_getElem hm]; rfl
                have c3 := cellIn (HRG.out.each m hm).cells 5 (by simp [passCells])
                have hgl := (Array.getElem?_eq_some_iff.1 (HRG.out.each m hm).cells).1
                simp only [passCells, List.getElem_toArray, List.getElem_cons_zero, List.getElem_cons_succ] at c3
                have t0 : decide ((m : Int) ≥ 0) = true := decide_eq_true (by omega)
                have HMM := Lib.hid hm
                generalize ps[m].g = pg at *
                clear HXM HXP HXS
                by_cases hu : u m = true
                · have HGN : Hid (ringsGo (passL ps) ((itemL its).drop (k + 1)) u (acc.map RowV.l) = ringsP fl (ents l) layer tol) := Lib.hid (by rw [← HGO.out, HDR.out, ringsGo, if_pos hu])
                  rw [hu] at c3
                  clear HGO HDR hu
                  go_wp2
                  go_roundw
                  case rel => exact ⟨k + 1, u, acc, by go_num, hlt, by omega, HGN, HRG, HIT, HOW, HPA, HB⟩
                  case measure => simp [intOf]; omega

                · have HGc : Hid ((if cleanE (chainL (passL ps) u m).1 = 0 then ringsGo (passL ps) ((itemL its).drop (k + 1)) (chainL (passL ps) u m).2 (acc.map RowV.l ++ [cleanR (chainL (passL ps) u m).1]) else (cleanE (chainL (passL ps) u m).1, [])) = ringsP fl (ents l) layer tol) := Lib.hid (by rw [← HGO.out, HDR.out, ringsGo, if_neg hu])
                  rw [Bool.not_eq_true] at hu
                  rw [hu] at c3
                  have HCA := Lib.hid (chain_any w.heap.size ps u (some ⟨og, 0, none⟩) oc mb n D fm wr HRG.out HTW.out m hm (by omega))
                  have HLEN : Hid ((chainL (passL ps) u m).1.length ≤ 17592186043904) := Lib.hid (by
                    have := chainL_len (passL ps) u m (fun p hp => by
                      obtain ⟨q, hq, rfl⟩ := List.mem_map.1 hp
                      obtain ⟨i, hi, rfl⟩ := List.getElem_of_mem hq
                      exact (HRG.out.each i hi).two.2)
                    have hpl : (passL ps).length = ps.length := by unfold passL; simp
                    omega)
                  clear HGO HDR hu
                  generalize chainL (passL ps) u m = cl at *
                  obtain ⟨cL, u2⟩ := cl
                  dsimp only at HGc HCA HLEN
                  go_wp2_with fail
                  refine HCA.out.mono ?_
                  rintro e W2 ⟨⟨v2, rfl, hv2⟩, hrg2, hsv2⟩
                  obtain ⟨vA, vc, rfl, hvc⟩ := own_shape hv2
                  have htg := HRG.out.tags
                  have HRGc := Lib.hid hrg2
                  have HITc := Lib.hid (HIT.out.save hsv2 htg)
                  have HOWc := Lib.hid (hsv2.own (fun q hq => (htg q hq).1) (by decide) HOW.out)
                  have HPAc : Hid (∀ r ∈ acc, PtAt w.heap.size W2 r.A r.l ∧ r.l.length ≤ r.k) := Lib.hid (fun r hr => ⟨hsv2.pts htg (HPA.out r hr).1, (HPA.out r hr).2⟩)
                  have HBc : Hid (Below w.heap.size w W2) := Lib.hid (Below.save_ HB.out hsv2 (fun q hq => (htg q hq).2) HB.out.size)
                  have HROW := Lib.hid (Row.of_own hv2)
                  clear hv2 hrg2 hsv2 htg HRG HIT HOW HPA HB HCA c0 c1 c2 c3
                  have HCL := Lib.hid (clean_any cL vA vc W2 HROW.out HLEN.out)
                  clear HROW HLEN
                  generalize cL = L at *
                  generalize cleanE L = E at *
                  generalize cleanR L = R at *
                  go_wp2_with fail
                  refine HCL.out.mono ?_
                  rintro e W3 ⟨⟨v3, rfl, hv3⟩, hb3⟩
                  obtain ⟨rA, rc, rfl, hrc⟩ := own_shape hv3
                  have HRG3 := Lib.hid (HRGc.out.below hb3)
                  have HIT3 := Lib.hid (HITc.out.below hb3)
                  have HOW3 := Lib.hid (own_below HOWc.out hb3)
                  have HPA3 : Hid (∀ r ∈ acc, PtAt w.heap.size W3 r.A r.l ∧ r.l.length ≤ r.k) := Lib.hid (fun r hr => ⟨(HPAc.out r hr).1.keep (T := 3) (grown_below hb3) (RowW.none _ _ _) (by decide), (HPAc.out r hr).2⟩)
                  have HB3 : Hid (Below w.heap.size w W3) := Lib.hid (HBc.out.grown (grown_below hb3) HBc.out.size (fun b hb => by cases hb))
                  have HV3 := Lib.hid hv3
                  clear hv3 hb3 HRGc HITc HOWc HPAc HBc HCL
                  by_cases he : E = 0
                  · subst he
                    have HG3 : Hid (ringsGo (passL ps) ((itemL its).drop (k + 1)) u2 (acc.map RowV.l ++ [R]) = ringsP fl (ents l) layer tol) := Lib.hid (by rw [← HGc.out, if_pos rfl])
                    clear HGc
                    obtain ⟨ri0, ria, rib, ric, rid⟩ := info_parts info_ring
                    have hsz := HB3.out.size
                    have HOA := Lib.hid (own_keep (T := 3) (grown_none (.cells #[.slice rA R.length rc] 26)) (RowW.none _ 0 _) (by decide) HOW3.out)
                    go_wp2_with (first
                      | (at_builtin; refine wpList_append_lies _ rfl _ _ 27 rfl w.heap.size 26 ri0 _ 1 24 Tryz.underlying27 ria rib ric rid rfl (by omega) _ acc.length _ rfl HOA.out ⟨W3.heap.size, 0, none⟩ 1 1 [.slice rA R.length rc] rfl rfl (World.news_of_block (heap_alloc_new W3 _)) (by simp [Value.oneCell']) (by omega) (by unfold maxLen; omega) (by omega) (by simp; omega) (W3.heap.size + 1) (by simp) ?_; intro g4 c4 w4 hown4 hg4 _ hlt4)
                      | go_in)
                    have r4 := RowT.own HOA.out
                    have HRG4 := Lib.hid ((HRG3.out.alloc (.cells #[.slice rA R.length rc] 26)).keep hg4 r4 (by decide) (by decide) (by decide) (by decide))
                    have HIT4 := Lib.hid ((HIT3.out.alloc (.cells #[.slice rA R.length rc] 26)).keep hg4 r4.weak (by decide) (by decide) (by decide))
                    have HPA4 : Hid (∀ r ∈ acc ++ [⟨R, rA, rc⟩], PtAt w.heap.size w4 r.A r.l ∧ r.l.length ≤ r.k) := Lib.hid (fun r hr => by
                      rcases List.mem_append.1 hr with hr | hr
                      · exact ⟨((HPA3.out r hr).1.alloc _).keep hg4 r4.weak (by decide), (HPA3.out r hr).2⟩
                      · simp only [List.mem_cons, List.not_mem_nil, or_false] at hr
                        subst hr
                        exact ⟨((PtAt.of_own HV3.out).alloc _).keep hg4 r4.weak (by decide), hrc⟩)
                    have HB4 : Hid (Below w.heap.size w w4) := Lib.hid ((HB3.out.alloc HB3.out.size _).grown hg4 (by simp; omega) (fun b hb => (own_tag HOA.out hb).2))
                    have HOW4 := Lib.hid hown4
                    clear hown4 hg4 r4 HOA
                    go_roundw
                    case rel => exact ⟨k + 1, u2, acc ++ [⟨R, rA, rc⟩], by go_num, hlt, by simp; omega, Lib.hid (by rw [List.map_append]; exact HG3.out), HRG4, HIT4, Lib.hid (by rw [List.length_append, List.map_append]; exact HOW4.out), HPA4, HB4⟩
                    case measure => simp [intOf]; omega
                  · have t1 : (E != 0) = true := bne_iff_ne.2 he
                    have HG3 : Hid (ringsP fl (ents l) layer tol = (E, [])) := Lib.hid (by rw [← HGc.out, if_neg he])
                    clear HGc he
                    go_wp2
                    refine bodyPost_ret (v := .tuple #[.slice none 0 0, .int .i64 E]) (by simp [results, Tryz.results15, go_sem]) rfl ⟨⟨_, by rw [HG3.out], by rw [HG3.out]; exact HNIL.out _⟩, HB3.out⟩

            · obtain rfl : k = its.length := by omega
              have HGN : Hid (ringsP fl (ents l) layer tol = (0, acc.map RowV.l)) := Lib.hid (by
                rw [← HGO.out, List.drop_eq_nil_of_le (by unfold itemL; simp), ringsGo])
              go_wp2
              refine bodyPost_ret (v := .tuple #[.slice aA acc.length ac, .int .i64 0]) (by simp [results, Tryz.results15, go_sem]) rfl ⟨⟨_, by rw [HGN.out], by rw [HGN.out]; exact ⟨acc, rfl, HOW.out, HPA.out⟩⟩, HB.out⟩
        · intro xa xb c0 kl y1 y2 w1 cnt1 hkx hlx hRx hat hrg1 hlt1 hg1 hs1 hen
          obtain ⟨x', hwf, hxx, rfl⟩ := keys_vec.inv hkx
          have hxe : x' = (xa, xb) := by
            unfold vecV at hxx
            simp only [Value.agg.injEq, Array.mk.injEq, List.cons.injEq, Value.int.injEq, true_and, and_true] at hxx
            exact Prod.ext hxx.1.symm hxx.2.symm
          subst hxe
          have hy : y1 = .held c0 := by
            unfold anyV at hRx
            cases hRx
            rfl
          have hf : fm (xa, xb) = some c0 := by
            have h1 := HRG.out.mr.fun_.2.2 (xa, xb) .nil hwf
            rw [hat, hy] at h1
            cases hf : fm (xa, xb) with
            | none => rw [hf] at h1; cases h1
            | some u => rw [hf] at h1; injection h1 with h1; rw [h1]
          obtain ⟨hne, hrow⟩ := (HRG.out.mr.rows (xa, xb)).2 c0 hf
          obtain ⟨cA, cc, rfl, _⟩ := own_shape hrow
          have HRG1 := Lib.hid (HRG.out.keepW hg1 (iter_row hrg hrb 3) (by decide) (by decide) (by decide) (by decide) (fun he => hrg.ne (Option.some.inj he).symm))
          have HIT1 := Lib.hid (HIT.out.keep hg1 (iter_row hrg hrb 4) (by decide) (by decide) (by decide))
          have HB1 : Hid (Below w.heap.size w w1) := Lib.hid (HB.out.grown hg1 HB.out.size (fun b hb => by cases hb; exact hrb))
          have hle0 := hrg.left_eq
          have hle1 := hrg1.left_eq
          have HLX : Hid (∀ v, (fm v).isSome = true → (atL (passL ps) (xa, xb)).length = 2 → (left (vLit v) && !(vLit v).sameKey (vLit (xa, xb))) = true ∨ (atL (passL ps) v).length = 2) := Lib.hid (fun v hv h2 => by
            by_cases he : v = (xa, xb)
            · subst he; exact .inr h2
            · rcases HL.out v hv with h | h
              · refine .inl ?_
                rw [h]
                cases hs : (vLit v).sameKey (vLit (xa, xb))
                · rfl
                · have hwv : WfV v := by
                    cases hfv : fm v with
                    | none => rw [hfv] at hv; cases hv
                    | some u => exact HRG.out.mr.wfk v u hfv
                  exact absurd (keys_vec.inj hwv hwf (WideAt.sameKey_eq hs)) he
              · exact .inr h)
          have HNE := Lib.hid hne
          clear hrow hf hy hat hRx hxx hkx hlx hg1 HRG HIT HB HL hne hrg
          generalize hLN : (atL (passL ps) (xa, xb)).length = N at *
          have HLN := Lib.hid hLN
          clear hLN
          by_cases h2 : N = 2
          · have t1 : ((N : Int) != 2) = false := bne_eq_false_iff_eq.2 (by omega)
            have HL2 : Hid (∀ v, (fm v).isSome = true → (left (vLit v) && !(vLit v).sameKey (vLit (xa, xb))) = true ∨ (atL (passL ps) v).length = 2) := Lib.hid (fun v hv => HLX.out v hv h2)
            clear h2 HLX
            go_wp2
            go_roundw
            case rel => exact ⟨_, cnt1, hrg1, HL2, HRG1, HIT1, HB1⟩
            case measure => rw [hle0, hle1]; exact hlt1
          · have t1 : ((N : Int) != 2) = true := bne_iff_ne.2 (by omega)
            have HQ4 : Hid (ringsP fl (ents l) layer tol = (11, [])) := Lib.hid (by
              rw [HQ2.out, if_neg]
              intro ht
              exact h2 (HLN.out.symm.trans (twice_keys.1 ht (xa, xb) HNE.out)))
            clear h2 HLX HQ2
            go_wp2
            refine bodyPost_ret (v := .tuple #[.slice none 0 0, .int .i64 11]) (by simp [results, Tryz.results15, go_sem]) rfl ⟨⟨_, by rw [HQ4.out], by rw [HQ4.out]; exact HNIL.out _⟩, HB1.out⟩
end Go.Proofs.YtnmmhcchpcbeeaaGreat.GeW
