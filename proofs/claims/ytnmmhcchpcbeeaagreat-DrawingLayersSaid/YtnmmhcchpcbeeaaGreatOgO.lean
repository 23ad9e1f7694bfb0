/- A list of entities of the reference, opened. No function is in sight. Conditions: none. -/
import Derived.Test.YtnmmhcchpcbeeaaGreatDwX
import Derived.Deep.DeepCutAuto
import Derived.Lib.SmallJoins
import Derived.Test.YtnmmhcchpcbeeaaGreatOgS
import Derived.Test.YtnmmhcchpcbeeaaGreatEqV
import Derived.Deep.CutRange
import Derived.Test.YtnmmhcchpcbeeaaGreatMem2
import Derived.Deep.Slices
import Derived.ChangeArms
import Derived.OpenShut

namespace Go.Proofs.YtnmmhcchpcbeeaaGreat.GtW
open Go Go.RowKit Go.Proofs.YtnmmhcchpcbeeaaGreat.Mem Go.Proofs.YtnmmhcchpcbeeaaGreat.Ge
open Go.Proofs.YtnmmhcchpcbeeaaGreat.GeW (EntV entVals PtsIn Ents ptCells fresh1 fresh1' two_facts lt_of_block older bel_alloc bel_set below_drew)
attribute [local go_sem ↓] Go.wp_at_zero Go.wp_at_succ
/-- Entities as they lie in memory, of any size. -/
structure EntsRaw (w : World) (A : Option Addr) (l : List EntV) : Prop where
  row : Row w A (l.flatMap entVals)
  pts : ∀ x ∈ l, Row w x.A (x.e.pts.flatMap ptCells) ∧ x.e.pts.length ≤ 8796093022208 ∧ x.e.pts.length ≤ x.k
  len : l.length ≤ 8796093022208
theorem EntsRaw.below {w w' : World} {A : Option Addr} {l : List EntV} (h : EntsRaw w A l) (hb : Below w.heap.size w w') : EntsRaw w' A l :=
  ⟨h.row.below hb, fun x hx => ⟨(h.pts x hx).1.below hb, (h.pts x hx).2⟩, h.len⟩
/-- What Few says, as far as counts go. -/
def FewE (n : Nat) (l : List EntV) : Prop := (∀ q ∈ l, q.e.pts.length ≤ 42 ∧ q.e.layer.length ≤ 40) ∧ l.length ≤ n
theorem EntsRaw.few {w : World} {A : Option Addr} {l : List EntV} {n : Nat} (h : EntsRaw w A l) (hf : FewE n l) (hn : n ≤ 1000000) : Ents w A l :=
  ⟨h.row, fun x hx => ⟨(h.pts x hx).1, by have := (hf.1 x hx).1; omega, (h.pts x hx).2.2, by have := (hf.1 x hx).2; omega⟩, by have := hf.2; omega⟩
/-- What Few answers. -/
def FewRes (n : Nat) (l : List EntV) (e : Ending) : Prop := ∃ b : Bool, e = .returned (.bool b) ∧ (b = true → FewE n l)
theorem rsub_tot (x y u v : Int) (w : World) :
    Calls Tryz.prog 40 #[.agg #[.int .i64 x, .int .i64 y], .agg #[.int .i64 u, .int .i64 v]] w fun e w' => (∃ a b : Int, e = .returned (.agg #[.int .i64 a, .int .i64 b])) ∧ Below w.heap.size w w' := by
  go_enter Tryz.func40, Tryz.ntmps40
  go_wp2
  refine bodyPost_ret (v := .agg #[.int .i64 (wrap64 (x - u)), .int .i64 (wrap64 (y - v))]) (by simp [results, Tryz.results40, go_sem]) rfl ⟨⟨_, _, rfl⟩, ?_⟩
  exact (((Below.refl _ _).alloc (Nat.le_refl _) _).alloc (by simp) _).alloc (by simp; omega) _
theorem rabs_tot (n : Int) : ∃ m : Int, ∀ w : World, Calls Tryz.prog 92 #[.int .i64 n] w (fun e w' => e = .returned (.int .i64 m) ∧ w = w') := by
  by_cases h : 0 ≤ n
  · refine ⟨n, fun w => ?_⟩
    go_enter Tryz.func92, Tryz.ntmps92
    go_wp2
    go_ret
    exact ⟨rfl, rfl⟩
  · refine ⟨wrap64 (-n), fun w => ?_⟩
    go_enter Tryz.func92, Tryz.ntmps92
    go_wp2
    go_ret
    exact ⟨rfl, rfl⟩
set_option maxRecDepth 100000 in
theorem rnorm_tot (x y : Int) (w : World) :
    Calls Tryz.prog 41 #[.agg #[.int .i64 x, .int .i64 y]] w fun e w' => (∃ m : Int, e = .returned (.int .i64 m)) ∧ Below w.heap.size w w' := by
  obtain ⟨a, ha⟩ := rabs_tot x
  obtain ⟨b, hb⟩ := rabs_tot y
  have HX := Lib.hid ha
  have HY := Lib.hid hb
  clear ha hb
  go_enter Tryz.func41, Tryz.ntmps41
  go_wp2
  go_quiet (first | ((go_at_call_of 92 (Value.int .i64 x)); exact Calls.quiet_of_same ((HX.out _).mono fun _ _ ⟨h1, h2⟩ => ⟨h1, h2.symm⟩)) | ((go_at_call_of 92 (Value.int .i64 y)); exact Calls.quiet_of_same ((HY.out _).mono fun _ _ ⟨h1, h2⟩ => ⟨h1, h2.symm⟩)))
  go_wp2
  go_ret
  exact ⟨⟨_, rfl⟩, below_drewN ((Below.refl _ _).alloc (Nat.le_refl _) _) _⟩
set_option maxRecDepth 100000 in
set_option maxHeartbeats 2000000 in
theorem few_any (n : Nat) (es : List EntV) (A : Option Addr) (c : Nat) (w : World) (h : EntsRaw w A es) :
    Calls Tryz.prog 14 #[.slice A es.length c, .int .i64 (n : Int)] w fun e w' => FewRes n es e ∧ Below w.heap.size w w' := by
  have HR := Lib.hid h.row
  have HPT := Lib.hid h.pts
  have hl := h.len
  clear h
  go_enter Tryz.func14, Tryz.ntmps14
  go_wp2
  go_loopw [5] (fun i wr => ∃ j : Nat, i = .int .i64 (j : Int) ∧ j ≤ es.length ∧ Hid (∀ q ∈ es.take j, q.e.pts.length ≤ 42 ∧ q.e.layer.length ≤ 40) ∧ Hid (Below w.heap.size w wr)) (fun i _ => es.length - (intOf i).toNat)
  case atStart => exact ⟨0, rfl, Nat.zero_le _, Lib.hid (by simp), Lib.hid (Below.refl _ _)⟩
  case round =>
    obtain ⟨j, rfl, hj, HD, HB⟩ := hrel
    by_cases hlt : j < es.length
    · obtain ⟨g, off, rfl, hg, ca⟩ := row_get GeW.ent_len (by decide) HR.out (by omega)
      have a0 := (HB.out.cell (p := ⟨g, off + j * 14 + 0, none⟩) hg).trans (ca j hlt 0 (by decide))
      have a1 := (HB.out.cell (p := ⟨g, off + j * 14 + 1, none⟩) hg).trans (ca j hlt 1 (by decide))
      have a2 := (HB.out.cell (p := ⟨g, off + j * 14 + 2, none⟩) hg).trans (ca j hlt 2 (by decide))
      have a3 := (HB.out.cell (p := ⟨g, off + j * 14 + 3, none⟩) hg).trans (ca j hlt 3 (by decide))
      have a4 := (HB.out.cell (p := ⟨g, off + j * 14 + 4, none⟩) hg).trans (ca j hlt 4 (by decide))
      have a5 := (HB.out.cell (p := ⟨g, off + j * 14 + 5, none⟩) hg).trans (ca j hlt 5 (by decide))
      have a6 := (HB.out.cell (p := ⟨g, off + j * 14 + 6, none⟩) hg).trans (ca j hlt 6 (by decide))
      have a7 := (HB.out.cell (p := ⟨g, off + j * 14 + 7, none⟩) hg).trans (ca j hlt 7 (by decide))
      have a8 := (HB.out.cell (p := ⟨g, off + j * 14 + 8, none⟩) hg).trans (ca j hlt 8 (by decide))
      have a9 := (HB.out.cell (p := ⟨g, off + j * 14 + 9, none⟩) hg).trans (ca j hlt 9 (by decide))
      have a10 := (HB.out.cell (p := ⟨g, off + j * 14 + 10, none⟩) hg).trans (ca j hlt 10 (by decide))
      have a11 := (HB.out.cell (p := ⟨g, off + j * 14 + 11, none⟩) hg).trans (ca j hlt 11 (by decide))
      have a12 := (HB.out.cell (p := ⟨g, off + j * 14 + 12, none⟩) hg).trans (ca j hlt 12 (by decide))
      have a13 := (HB.out.cell (p := ⟨g, off + j * 14 + 13, none⟩) hg).trans (ca j hlt 13 (by decide))
      have HLQ := Lib.hid (HPT.out es[j] (List.getElem_mem hlt)).2.1
      have HDX : Hid ((es[j].e.pts.length ≤ 42 ∧ es[j].e.layer.length ≤ 40) → ∀ q ∈ es.take (j + 1), q.e.pts.length ≤ 42 ∧ q.e.layer.length ≤ 40) := Lib.hid (fun hx q hq => by
        rw [List.take_succ_eq_append_getElem hlt] at hq
        rcases List.mem_append.1 hq with hq | hq
        · exact HD.out q hq
        · simp at hq
          subst hq
          exact hx)
      clear HD ca
      generalize es[j] = q at *
      obtain ⟨⟨kd, lay, ⟨ax, ay⟩, ⟨bx, b_y⟩, ⟨fx, fy⟩, ⟨tx, ty⟩, ⟨cx, cy⟩, cw, pts⟩, qA, qk⟩ := q
      simp only [entVals, List.getElem?_cons_zero, List.getElem?_cons_succ, Nat.add_zero] at a0 a1 a2 a3 a4 a5 a6 a7 a8 a9 a10 a11 a12 a13 HLQ HDX
      have HLQ2 := HLQ.out
      have hsz : (ByteArray.mk lay.toArray).size = lay.length := by simp [ByteArray.size]
      generalize (ByteArray.mk lay.toArray) = LB at *
      have HSB := Lib.hid (fun W => rsub_tot fx fy cx cy W)
      have hgw : g < wr.heap.size := by have := HB.out.size; omega
      have hj1 : (0 : Int) ≤ (j : Int) := by omega
      have hj2 : (j : Int) < (es.length : Int) := by omega
      have CS : Hid (∀ w', Below wr.heap.size wr w' → w'.cell? ⟨g, off + j * 14 + 6, none⟩ = some (.int .i64 fx) ∧ w'.cell? ⟨g, off + j * 14 + 7, none⟩ = some (.int .i64 fy) ∧ w'.cell? ⟨g, off + j * 14 + 8, none⟩ = some (.int .i64 tx) ∧ w'.cell? ⟨g, off + j * 14 + 9, none⟩ = some (.int .i64 ty) ∧ w'.cell? ⟨g, off + j * 14 + 10, none⟩ = some (.int .i64 cx) ∧ w'.cell? ⟨g, off + j * 14 + 11, none⟩ = some (.int .i64 cy) ∧ Below wr.heap.size wr w') := Lib.hid (fun w' hb => ⟨(hb.cell (p := ⟨g, off + j * 14 + 6, none⟩) hgw).trans a6, (hb.cell (p := ⟨g, off + j * 14 + 7, none⟩) hgw).trans a7, (hb.cell (p := ⟨g, off + j * 14 + 8, none⟩) hgw).trans a8, (hb.cell (p := ⟨g, off + j * 14 + 9, none⟩) hgw).trans a9, (hb.cell (p := ⟨g, off + j * 14 + 10, none⟩) hgw).trans a10, (hb.cell (p := ⟨g, off + j * 14 + 11, none⟩) hgw).trans a11, hb⟩)
      obtain ⟨q0, q1, q2, q3, q4, q5, q6⟩ := CS.out wr (Below.refl _ _)
      go_upto_region 4 with fail
      go_cut [6] from 4 to 4 (fun p wc => ∃ (b1 : Nat) (vx vy : Int), p = .pointer (some ⟨b1, 0, none⟩) ∧ wc.cell? ⟨b1, 0, none⟩ = some (.int .i64 vx) ∧ wc.cell? ⟨b1, 1, none⟩ = some (.int .i64 vy) ∧ b1 < wc.heap.size ∧ Below wr.heap.size wr wc)
      case first =>
        go_wp2_with fail
        refine wp_region_held_drew (S := fun w' => w'.cell? ⟨g, off + j * 14 + 6, none⟩ = some (.int .i64 fx) ∧ w'.cell? ⟨g, off + j * 14 + 7, none⟩ = some (.int .i64 fy) ∧ w'.cell? ⟨g, off + j * 14 + 8, none⟩ = some (.int .i64 tx) ∧ w'.cell? ⟨g, off + j * 14 + 9, none⟩ = some (.int .i64 ty) ∧ w'.cell? ⟨g, off + j * 14 + 10, none⟩ = some (.int .i64 cx) ∧ w'.cell? ⟨g, off + j * 14 + 11, none⟩ = some (.int .i64 cy) ∧ Below wr.heap.size wr w') (by kernel_rfl) ?_ (fun hHeld => ?_)
        · exact CS.out _ (GeW.below_drew (Below.refl _ _))
        refine wpAnyH_take (i := 0) (oi := { dst := some 13, op := Op.move (Operand.tmp 0), type := 34, pos := "ref.go:448", after := #[], guard := none }) (v := ?_) rfl (by kernel_rfl) (by kernel_rfl) (by kernel_rfl) (fun _ _ _ h => h) (Or.inl ⟨by rfl, ?_⟩) (by assumption) ?_
        rotate_left
        · intro w' hSw
          (try dsimp only at hSw)
          first | (go_simp; done) | (go_simp; with_reducible rfl)
        try simp only [Act.put, List.setIfInBounds_toArray, List.set_cons_zero, List.set_cons_succ]
        refine wpAnyH_take (i := 1) (oi := { dst := some 14, op := Op.move (Operand.tmp 5), type := 3, pos := "ref.go:448", after := #[], guard := none }) (v := ?_) rfl (by kernel_rfl) (by kernel_rfl) (by kernel_rfl) (fun _ _ _ h => h) (Or.inl ⟨by rfl, ?_⟩) (by assumption) ?_
        rotate_left
        · intro w' hSw
          (try dsimp only at hSw)
          first | (go_simp; done) | (go_simp; with_reducible rfl)
        try simp only [Act.put, List.setIfInBounds_toArray, List.set_cons_zero, List.set_cons_succ]
        refine wpAnyH_take (i := 2) (oi := { dst := some 15, op := Op.indexAddr 34 (Operand.tmp 13) (Operand.tmp 14), type := 0, pos := "ref.go:448", after := #[{ on := 0, ground := Ground.data }, { on := 1, ground := Ground.data }], guard := none }) (v := ?_) rfl (by kernel_rfl) (by kernel_rfl) (by kernel_rfl) (fun _ _ _ h => h) (Or.inl ⟨by rfl, ?_⟩) (by assumption) ?_
        rotate_left
        · intro w' hSw
          (try dsimp only at hSw)
          first | (go_simp; done) | (go_simp; with_reducible rfl)
        try simp only [Act.put, List.setIfInBounds_toArray, List.set_cons_zero, List.set_cons_succ]
        refine wpAnyH_take (i := 3) (oi := { dst := some 16, op := Op.fieldAddr 57 (Operand.tmp 15) 4, type := 0, pos := "ref.go:448", after := #[{ on := 2, ground := Ground.data }], guard := none }) (v := ?_) rfl (by kernel_rfl) (by kernel_rfl) (by kernel_rfl) (fun _ _ _ h => h) (Or.inl ⟨by rfl, ?_⟩) (by assumption) ?_
        rotate_left
        · intro w' hSw
          (try dsimp only at hSw)
          first | (go_simp; done) | (go_simp; with_reducible rfl)
        try simp only [Act.put, List.setIfInBounds_toArray, List.set_cons_zero, List.set_cons_succ]
        refine wpAnyH_take (i := 4) (oi := { dst := some 17, op := Op.fieldAddr 55 (Operand.tmp 16) 0, type := 0, pos := "ref.go:448", after := #[{ on := 3, ground := Ground.data }], guard := none }) (v := ?_) rfl (by kernel_rfl) (by kernel_rfl) (by kernel_rfl) (fun _ _ _ h => h) (Or.inl ⟨by rfl, ?_⟩) (by assumption) ?_
        rotate_left
        · intro w' hSw
          (try dsimp only at hSw)
          first | (go_simp; done) | (go_simp; with_reducible rfl)
        try simp only [Act.put, List.setIfInBounds_toArray, List.set_cons_zero, List.set_cons_succ]
        refine wpAnyH_take (i := 5) (oi := { dst := some 18, op := Op.load 53 (Operand.tmp 17), type := 53, pos := "ref.go:448", after := #[{ on := 4, ground := Ground.data }], guard := none }) (v := ?_) rfl (by kernel_rfl) (by kernel_rfl) (by kernel_rfl) (fun _ _ _ h => h) (Or.inl ⟨by rfl, ?_⟩) (by assumption) ?_
        rotate_left
        · intro w' hSw
          (try dsimp only at hSw)
          first | (go_simp; done) | (go_simp; with_reducible rfl)
        try simp only [Act.put, List.setIfInBounds_toArray, List.set_cons_zero, List.set_cons_succ]
        refine wpAnyH_take (i := 6) (oi := { dst := some 19, op := Op.move (Operand.tmp 0), type := 34, pos := "ref.go:448", after := #[], guard := none }) (v := ?_) rfl (by kernel_rfl) (by kernel_rfl) (by kernel_rfl) (fun _ _ _ h => h) (Or.inl ⟨by rfl, ?_⟩) (by assumption) ?_
        rotate_left
        · intro w' hSw
          (try dsimp only at hSw)
          first | (go_simp; done) | (go_simp; with_reducible rfl)
        try simp only [Act.put, List.setIfInBounds_toArray, List.set_cons_zero, List.set_cons_succ]
        refine wpAnyH_take (i := 7) (oi := { dst := some 20, op := Op.move (Operand.tmp 5), type := 3, pos := "ref.go:448", after := #[], guard := none }) (v := ?_) rfl (by kernel_rfl) (by kernel_rfl) (by kernel_rfl) (fun _ _ _ h => h) (Or.inl ⟨by rfl, ?_⟩) (by assumption) ?_
        rotate_left
        · intro w' hSw
          (try dsimp only at hSw)
          first | (go_simp; done) | (go_simp; with_reducible rfl)
        try simp only [Act.put, List.setIfInBounds_toArray, List.set_cons_zero, List.set_cons_succ]
        refine wpAnyH_take (i := 8) (oi := { dst := some 21, op := Op.indexAddr 34 (Operand.tmp 19) (Operand.tmp 20), type := 0, pos := "ref.go:448", after := #[{ on := 6, ground := Ground.data }, { on := 7, ground := Ground.data }], guard := none }) (v := ?_) rfl (by kernel_rfl) (by kernel_rfl) (by kernel_rfl) (fun _ _ _ h => h) (Or.inl ⟨by rfl, ?_⟩) (by assumption) ?_
        rotate_left
        · intro w' hSw
          (try dsimp only at hSw)
          first | (go_simp; done) | (go_simp; with_reducible rfl)
        try simp only [Act.put, List.setIfInBounds_toArray, List.set_cons_zero, List.set_cons_succ]
        refine wpAnyH_take (i := 9) (oi := { dst := some 22, op := Op.fieldAddr 57 (Operand.tmp 21) 4, type := 0, pos := "ref.go:448", after := #[{ on := 8, ground := Ground.data }], guard := none }) (v := ?_) rfl (by kernel_rfl) (by kernel_rfl) (by kernel_rfl) (fun _ _ _ h => h) (Or.inl ⟨by rfl, ?_⟩) (by assumption) ?_
        rotate_left
        · intro w' hSw
          (try dsimp only at hSw)
          first | (go_simp; done) | (go_simp; with_reducible rfl)
        try simp only [Act.put, List.setIfInBounds_toArray, List.set_cons_zero, List.set_cons_succ]
        refine wpAnyH_take (i := 10) (oi := { dst := some 23, op := Op.fieldAddr 55 (Operand.tmp 22) 2, type := 0, pos := "ref.go:448", after := #[{ on := 9, ground := Ground.data }], guard := none }) (v := ?_) rfl (by kernel_rfl) (by kernel_rfl) (by kernel_rfl) (fun _ _ _ h => h) (Or.inl ⟨by rfl, ?_⟩) (by assumption) ?_
        rotate_left
        · intro w' hSw
          (try dsimp only at hSw)
          first | (go_simp; done) | (go_simp; with_reducible rfl)
        try simp only [Act.put, List.setIfInBounds_toArray, List.set_cons_zero, List.set_cons_succ]
        refine wpAnyH_take (i := 11) (oi := { dst := some 24, op := Op.load 53 (Operand.tmp 23), type := 53, pos := "ref.go:448", after := #[{ on := 10, ground := Ground.data }], guard := none }) (v := ?_) rfl (by kernel_rfl) (by kernel_rfl) (by kernel_rfl) (fun _ _ _ h => h) (Or.inl ⟨by rfl, ?_⟩) (by assumption) ?_
        rotate_left
        · intro w' hSw
          (try dsimp only at hSw)
          first | (go_simp; done) | (go_simp; with_reducible rfl)
        try simp only [Act.put, List.setIfInBounds_toArray, List.set_cons_zero, List.set_cons_succ]
        refine wpAnyH_ready (rs := [12, 13]) (by kernel_rfl) (by simp) ?_
        refine AllReadyH.cons (o := { dst := some 25, op := Op.call { callee := Callee.value (Operand.func 40), args := #[Operand.tmp 18, Operand.tmp 24], argTypes := #[53, 53] }, type := 53, pos := "ref.go:448", after := #[{ on := 5, ground := Ground.data }, { on := 11, ground := Ground.data }], guard := none }) rfl (fun K hK => ?_) (AllReadyH.cons (o := { dst := some 6, op := Op.alloc 53, type := 0, pos := "ref.go:448", after := #[], guard := none }) rfl (fun K hK => ?_) AllReadyH.nil)
        · go_simp
          go_at_call 40
          obtain ⟨_, _, _, _, _, _, hbx⟩ := ‹_ ∧ _ ∧ _ ∧ _ ∧ _ ∧ _ ∧ Below _ _ _›
          refine (HSB.out _).mono ?_
          rintro e w6 ⟨⟨vx, vy, rfl⟩, hb60⟩
          have hb6 : Below wr.heap.size wr w6 := hbx.trans (hb60.mono (Below.size hbx))
          refine hK.out _ _ ?_ (fun hHeld => ?_)
          · exact CS.out _ hb6
          clear hK K
          try simp only [Act.put, List.setIfInBounds_toArray, List.set_cons_zero, List.set_cons_succ]
          refine wpAnyH_ready (rs := [13]) (by kernel_rfl) (by simp) ?_
          refine AllReadyH.cons (o := { dst := some 6, op := Op.alloc 53, type := 0, pos := "ref.go:448", after := #[], guard := none }) rfl (fun K hK => ?_) AllReadyH.nil
          go_simp
          refine hK.out _ _ ?_ (fun hHeld => ?_)
          · exact CS.out _ (by have hz6 := Below.size hb6; (repeat (with_reducible first | assumption | exact Below.refl _ _ | refine below_drew ?_ | refine bel_alloc ?_ _ | (refine bel_set ?_ (by simp <;> omega) _))))
          clear hK K
          try simp only [Act.put, List.setIfInBounds_toArray, List.set_cons_zero, List.set_cons_succ]
          have n1 : (w6.alloc (.cells #[.int .i64 0, .int .i64 0] 53)).heap[w6.heap.size]? = some (.cells #[.int .i64 0, .int .i64 0] 53) := GeW.heap_alloc_new w6 _
          have n1f := two_facts n1
          obtain ⟨d0, d1, d2, d3, d4⟩ := n1f
          have hz6 := Below.size hb6
          refine wpAnyH_ready (rs := [14]) (by kernel_rfl) (by simp) ?_
          refine AllReadyH.cons (o := { dst := none, op := Op.store 53 (Operand.tmp 6) (Operand.tmp 25), type := 0, pos := "ref.go:448", after := #[{ on := 13, ground := Ground.data }, { on := 12, ground := Ground.data }, { on := 12, ground := Ground.chain }, { on := 0, ground := Ground.phase }, { on := 1, ground := Ground.phase }, { on := 2, ground := Ground.phase }, { on := 3, ground := Ground.phase }, { on := 4, ground := Ground.phase }, { on := 5, ground := Ground.phase }, { on := 6, ground := Ground.phase }, { on := 7, ground := Ground.phase }, { on := 8, ground := Ground.phase }, { on := 9, ground := Ground.phase }, { on := 10, ground := Ground.phase }, { on := 11, ground := Ground.phase }, { on := 12, ground := Ground.phase }, { on := 13, ground := Ground.phase }], guard := none }) rfl (fun K hK => ?_) AllReadyH.nil
          go_simp
          refine hK.out _ _ ?_ (fun hHeld => ?_)
          · exact CS.out _ (by (repeat (with_reducible first | assumption | exact Below.refl _ _ | refine below_drew ?_ | refine bel_alloc ?_ _ | (refine bel_set ?_ (by simp <;> omega) _))))
          clear hK K
          try simp only [Act.put, List.setIfInBounds_toArray, List.set_cons_zero, List.set_cons_succ]
          refine wpAnyH_done (by kernel_rfl) ?_ _
          go_wp2_with fail
          go_meet
          refine ⟨_, vx, vy, rfl, ?_, ?_, ?_, ?_⟩
          all_goals first | (repeat (with_reducible first | assumption | exact Below.refl _ _ | refine below_drew ?_ | refine bel_alloc ?_ _ | (refine bel_set ?_ (by simp <;> omega) _))) | skip
          all_goals try (go_simp; done)
        · go_simp
          refine hK.out _ _ ?_ (fun hHeld => ?_)
          · exact CS.out _ (by (repeat (with_reducible first | assumption | exact Below.refl _ _ | refine below_drew ?_ | refine bel_alloc ?_ _ | (refine bel_set ?_ (by simp <;> omega) _))))
          clear hK K
          try simp only [Act.put, List.setIfInBounds_toArray, List.set_cons_zero, List.set_cons_succ]
          refine wpAnyH_ready (rs := [12]) (by kernel_rfl) (by simp) ?_
          refine AllReadyH.cons (o := { dst := some 25, op := Op.call { callee := Callee.value (Operand.func 40), args := #[Operand.tmp 18, Operand.tmp 24], argTypes := #[53, 53] }, type := 53, pos := "ref.go:448", after := #[{ on := 5, ground := Ground.data }, { on := 11, ground := Ground.data }], guard := none }) rfl (fun K hK => ?_) AllReadyH.nil
          go_simp
          go_at_call 40
          obtain ⟨_, _, _, _, _, _, hbx⟩ := ‹_ ∧ _ ∧ _ ∧ _ ∧ _ ∧ _ ∧ Below _ _ _›
          refine (HSB.out _).mono ?_
          rintro e w6 ⟨⟨vx, vy, rfl⟩, hb60⟩
          have hb6 : Below wr.heap.size wr w6 := hbx.trans (hb60.mono (Below.size hbx))
          refine hK.out _ _ ?_ (fun hHeld => ?_)
          · exact CS.out _ hb6
          clear hK K
          try simp only [Act.put, List.setIfInBounds_toArray, List.set_cons_zero, List.set_cons_succ]
          have n1 : w6.heap[wr.heap.size]? = some (.cells #[.int .i64 0, .int .i64 0] 53) := older (GeW.heap_alloc_new wr.drew _) hb60
          have n1f := two_facts n1
          obtain ⟨d0, d1, d2, d3, d4⟩ := n1f
          have hz6 := Below.size hb6
          clear hb60
          refine wpAnyH_ready (rs := [14]) (by kernel_rfl) (by simp) ?_
          refine AllReadyH.cons (o := { dst := none, op := Op.store 53 (Operand.tmp 6) (Operand.tmp 25), type := 0, pos := "ref.go:448", after := #[{ on := 13, ground := Ground.data }, { on := 12, ground := Ground.data }, { on := 12, ground := Ground.chain }, { on := 0, ground := Ground.phase }, { on := 1, ground := Ground.phase }, { on := 2, ground := Ground.phase }, { on := 3, ground := Ground.phase }, { on := 4, ground := Ground.phase }, { on := 5, ground := Ground.phase }, { on := 6, ground := Ground.phase }, { on := 7, ground := Ground.phase }, { on := 8, ground := Ground.phase }, { on := 9, ground := Ground.phase }, { on := 10, ground := Ground.phase }, { on := 11, ground := Ground.phase }, { on := 12, ground := Ground.phase }, { on := 13, ground := Ground.phase }], guard := none }) rfl (fun K hK => ?_) AllReadyH.nil
          go_simp
          refine hK.out _ _ ?_ (fun hHeld => ?_)
          · exact CS.out _ (by (repeat (with_reducible first | assumption | exact Below.refl _ _ | refine below_drew ?_ | refine bel_alloc ?_ _ | (refine bel_set ?_ (by simp <;> omega) _))))
          clear hK K
          try simp only [Act.put, List.setIfInBounds_toArray, List.set_cons_zero, List.set_cons_succ]
          refine wpAnyH_done (by kernel_rfl) ?_ _
          go_wp2_with fail
          go_meet
          refine ⟨_, vx, vy, rfl, ?_, ?_, ?_, ?_⟩
          all_goals first | (repeat (with_reducible first | assumption | exact Below.refl _ _ | refine below_drew ?_ | refine bel_alloc ?_ _ | (refine bel_set ?_ (by simp <;> omega) _))) | skip
          all_goals try (go_simp; done)
      case rest =>
      obtain ⟨b1, vx, vy, rfl, v0, v1, hb1, HBC⟩ := hcut
      have HB1 := Lib.hid (HB.out.trans (HBC.mono HB.out.size))
      have b0 := (HBC.cell (p := ⟨g, off + j * 14 + 0, none⟩) hgw).trans a0
      have b1 := (HBC.cell (p := ⟨g, off + j * 14 + 1, none⟩) hgw).trans a1
      have b2 := (HBC.cell (p := ⟨g, off + j * 14 + 2, none⟩) hgw).trans a2
      have b3 := (HBC.cell (p := ⟨g, off + j * 14 + 3, none⟩) hgw).trans a3
      have b4 := (HBC.cell (p := ⟨g, off + j * 14 + 4, none⟩) hgw).trans a4
      have b5 := (HBC.cell (p := ⟨g, off + j * 14 + 5, none⟩) hgw).trans a5
      have b6 := (HBC.cell (p := ⟨g, off + j * 14 + 6, none⟩) hgw).trans a6
      have b7 := (HBC.cell (p := ⟨g, off + j * 14 + 7, none⟩) hgw).trans a7
      have b8 := (HBC.cell (p := ⟨g, off + j * 14 + 8, none⟩) hgw).trans a8
      have b9 := (HBC.cell (p := ⟨g, off + j * 14 + 9, none⟩) hgw).trans a9
      have b10 := (HBC.cell (p := ⟨g, off + j * 14 + 10, none⟩) hgw).trans a10
      have b11 := (HBC.cell (p := ⟨g, off + j * 14 + 11, none⟩) hgw).trans a11
      have b12 := (HBC.cell (p := ⟨g, off + j * 14 + 12, none⟩) hgw).trans a12
      have b13 := (HBC.cell (p := ⟨g, off + j * 14 + 13, none⟩) hgw).trans a13
      clear a0 a1 a2 a3 a4 a5 a6 a7 a8 a9 a10 a11 a12 a13 HSB HB CS q0 q1 q2 q3 q4 q5 q6 HBC
      have HNB := Lib.hid (fun W => rnorm_tot vx vy W)
      by_cases h42 : pts.length ≤ 42
      case neg =>
        have d1 : decide (42 < (pts.length : Int)) = true := decide_eq_true (by omega)
        go_wp2
        go_ret
        exact ⟨⟨_, rfl, fun h => by cases h⟩, HB1.out⟩
      case pos =>
      have d1 : decide (42 < (pts.length : Int)) = false := decide_eq_false (by omega)
      by_cases h40 : lay.length ≤ 40
      case neg =>
        have d2 : decide (40 < (LB.size : Int)) = true := decide_eq_true (by omega)
        go_wp2
        go_ret
        exact ⟨⟨_, rfl, fun h => by cases h⟩, HB1.out⟩
      case pos =>
      have d2 : decide (40 < (LB.size : Int)) = false := decide_eq_false (by omega)
      have HDY := HDX.out ⟨h42, h40⟩
      have HDZ := Lib.hid HDY
      clear HDX HDY
      go_wp2_with fail
      refine (HNB.out _).mono ?_
      rintro e w2 ⟨⟨m, rfl⟩, hb2⟩
      have HB2 := Lib.hid (HB1.out.trans (hb2.mono HB1.out.size))
      clear b0 b1 b2 b3 b4 b5 b6 b7 b8 b9 b10 b11 b12 b13 hb2 v0 v1 hb1
      by_cases h60 : 60 < m
      · go_wp2
        go_ret
        exact ⟨⟨_, rfl, fun h => by cases h⟩, HB2.out⟩
      · go_wp2
        go_roundw
        case rel => exact ⟨j + 1, by go_num, by omega, HDZ, HB2⟩
        case measure => simp [intOf]; omega
    · obtain rfl : j = es.length := by omega
      have HDE : Hid (∀ q ∈ es, q.e.pts.length ≤ 42 ∧ q.e.layer.length ≤ 40) := Lib.hid (by have := HD.out; rwa [List.take_length] at this)
      clear HD
      by_cases h8 : es.length ≤ n
      · have hd : decide ((es.length : Int) ≤ (n : Int)) = true := decide_eq_true (by omega)
        go_wp2
        go_ret
        exact ⟨⟨_, rfl, fun _ => ⟨HDE.out, h8⟩⟩, HB.out⟩
      · have hd : decide ((es.length : Int) ≤ (n : Int)) = false := decide_eq_false (by omega)
        go_wp2
        go_ret
        exact ⟨⟨_, rfl, fun h => by cases h⟩, HB.out⟩
end Go.Proofs.YtnmmhcchpcbeeaaGreat.GtW

namespace Go.Proofs.YtnmmhcchpcbeeaaGreat.GtW
open Go Go.RowKit Go.Proofs.YtnmmhcchpcbeeaaGreat.Mem Go.Proofs.YtnmmhcchpcbeeaaGreat.Ge
open Go.Proofs.YtnmmhcchpcbeeaaGreat.GeW (EntV entVals PtsIn PtAt Tagged RowT RowW Ents own_keep own_tag ptCells)
attribute [local go_sem ↓] Go.wp_at_zero Go.wp_at_succ
theorem info_rentA : (Tryz.prog.info? 57).map (fun i => (i.zero, i.size, i.bytes)) = some (some (.agg #[.int .i64 0, .string ⟨#[]⟩, .int .i64 0, .int .i64 0, .int .i64 0, .int .i64 0, .int .i64 0, .int .i64 0, .int .i64 0, .int .i64 0, .int .i64 0, .int .i64 0, .bool false, .slice none 0 0]), 14, 136) := by kernel_rfl
theorem info_entA : (Tryz.prog.info? 66).map (fun i => (i.zero, i.size, i.bytes)) = some (some (.agg #[.int .i64 0, .string ⟨#[]⟩, .int .i64 0, .int .i64 0, .int .i64 0, .int .i64 0, .int .i64 0, .int .i64 0, .int .i64 0, .int .i64 0, .int .i64 0, .int .i64 0, .bool false, .slice none 0 0]), 14, 136) := by kernel_rfl
set_option maxRecDepth 100000 in
set_option maxHeartbeats 2000000 in
theorem own_all (es : List EntV) (A : Option Addr) (c : Nat) (w : World) (hr : Ents w A es) (hes : es.length ≤ 1000) :
    Calls Tryz.prog 16 #[.slice A es.length c] w fun e w' => ∃ (B : Option Addr) (d : Nat), e = .returned (.slice B es.length d) ∧ Ents w' B es ∧ Below w.heap.size w w' := by
  have HR := Lib.hid hr.1
  have HPT := Lib.hid hr
  have hl := hr.2.2
  obtain ⟨i0, ia, ib, ic, id⟩ := info_parts info_entA
  clear hr
  go_enter Tryz.func16, Tryz.ntmps16
  go_wp2
  go_loopw [3, 4] (fun o i wr => ∃ j : Nat, i = .int .i64 (j : Int) ∧ j ≤ es.length ∧ Hid (wr.ownsRow w.heap.size 66 14 o (es.take j).length ((es.take j).flatMap entVals)) ∧ Hid (Below w.heap.size w wr)) (fun _ i _ => es.length - (intOf i).toNat)
  case atStart => exact ⟨0, rfl, Nat.zero_le _, Lib.hid (World.ownsRow_nil _ _ _ _), Lib.hid (Below.refl _ _)⟩
  case round =>
    obtain ⟨j, rfl, hj, HOJ, HB⟩ := hrel
    by_cases hlt : j < es.length
    · have HTJ : Hid (es.take (j + 1) = es.take j ++ [es[j]]) := Lib.hid (List.take_succ_eq_append_getElem hlt)
      have hll : (es.take j).length ≤ 1000 := by rw [List.length_take]; omega
      obtain ⟨oA, oc, rfl, hoc⟩ := own_shape HOJ.out
      obtain ⟨g, off, rfl, hg, ca⟩ := row_get GeW.ent_len (by decide) HR.out (by omega)
      have a0 := (HB.out.cell (p := ⟨g, off + j * 14 + 0, none⟩) hg).trans (ca j hlt 0 (by decide))
      have a1 := (HB.out.cell (p := ⟨g, off + j * 14 + 1, none⟩) hg).trans (ca j hlt 1 (by decide))
      have a2 := (HB.out.cell (p := ⟨g, off + j * 14 + 2, none⟩) hg).trans (ca j hlt 2 (by decide))
      have a3 := (HB.out.cell (p := ⟨g, off + j * 14 + 3, none⟩) hg).trans (ca j hlt 3 (by decide))
      have a4 := (HB.out.cell (p := ⟨g, off + j * 14 + 4, none⟩) hg).trans (ca j hlt 4 (by decide))
      have a5 := (HB.out.cell (p := ⟨g, off + j * 14 + 5, none⟩) hg).trans (ca j hlt 5 (by decide))
      have a6 := (HB.out.cell (p := ⟨g, off + j * 14 + 6, none⟩) hg).trans (ca j hlt 6 (by decide))
      have a7 := (HB.out.cell (p := ⟨g, off + j * 14 + 7, none⟩) hg).trans (ca j hlt 7 (by decide))
      have a8 := (HB.out.cell (p := ⟨g, off + j * 14 + 8, none⟩) hg).trans (ca j hlt 8 (by decide))
      have a9 := (HB.out.cell (p := ⟨g, off + j * 14 + 9, none⟩) hg).trans (ca j hlt 9 (by decide))
      have a10 := (HB.out.cell (p := ⟨g, off + j * 14 + 10, none⟩) hg).trans (ca j hlt 10 (by decide))
      have a11 := (HB.out.cell (p := ⟨g, off + j * 14 + 11, none⟩) hg).trans (ca j hlt 11 (by decide))
      have a12 := (HB.out.cell (p := ⟨g, off + j * 14 + 12, none⟩) hg).trans (ca j hlt 12 (by decide))
      have a13 := (HB.out.cell (p := ⟨g, off + j * 14 + 13, none⟩) hg).trans (ca j hlt 13 (by decide))
      generalize es[j] = q at *
      obtain ⟨⟨kd, lay, ⟨ax, ay⟩, ⟨bx, b_y⟩, ⟨fx, fy⟩, ⟨tx, ty⟩, ⟨cx, cy⟩, cw, pts⟩, qA, qk⟩ := q
      simp only [entVals, List.getElem?_cons_zero, List.getElem?_cons_succ, Nat.add_zero] at a0 a1 a2 a3 a4 a5 a6 a7 a8 a9 a10 a11 a12 a13
      generalize es.take j = cur at *
      have hj1 : (0 : Int) ≤ (j : Int) := by omega
      have hj2 : (j : Int) < (es.length : Int) := by omega
      have C2 : Hid (cur.length + 1 ≤ maxLen ∧ (cur.length + 1) * 136 ≤ 140737488355328 ∧ ∀ u ∈ ([.int .i64 kd, .string ⟨lay.toArray⟩, .int .i64 ax, .int .i64 ay, .int .i64 bx, .int .i64 b_y, .int .i64 fx, .int .i64 fy, .int .i64 tx, .int .i64 ty, .int .i64 cx, .int .i64 cy, .bool cw, .slice qA pts.length qk] : List Value), u.oneCell' = true) := Lib.hid ⟨by unfold maxLen; omega, by omega, by intro u hu; simp at hu; rcases hu with rfl | rfl | rfl | rfl | rfl | rfl | rfl | rfl | rfl | rfl | rfl | rfl | rfl | rfl <;> rfl⟩
      clear ca
      go_wp2_with (at_builtin; refine wpList_append_row _ rfl _ _ 30 rfl w.heap.size 66 i0 _ 14 136 Tryz.underlying30 ia ib ic id rfl (by omega) _ _ _ rfl (HOJ.out.alloc (.cells #[.int .i64 kd, .string ⟨lay.toArray⟩, .int .i64 ax, .int .i64 ay, .int .i64 bx, .int .i64 b_y, .int .i64 fx, .int .i64 fy, .int .i64 tx, .int .i64 ty, .int .i64 cx, .int .i64 cy, .bool cw, .slice qA pts.length qk] 66)) (some ⟨wr.heap.size, 0, none⟩) 1 1 [.int .i64 kd, .string ⟨lay.toArray⟩, .int .i64 ax, .int .i64 ay, .int .i64 bx, .int .i64 b_y, .int .i64 fx, .int .i64 fy, .int .i64 tx, .int .i64 ty, .int .i64 cx, .int .i64 cy, .bool cw, .slice qA pts.length qk] rfl (GeW.newN_row wr [.int .i64 kd, .string ⟨lay.toArray⟩, .int .i64 ax, .int .i64 ay, .int .i64 bx, .int .i64 b_y, .int .i64 fx, .int .i64 fy, .int .i64 tx, .int .i64 ty, .int .i64 cx, .int .i64 cy, .bool cw, .slice qA pts.length qk] 66) rfl C2.out.2.2 C2.out.1 C2.out.2.1 (by have := HB.out.size; simp <;> omega) ?_)
      intro v' wa hown hg1
      have HF1 := Lib.hid (below_append (HB.out.alloc HB.out.size (.cells #[.int .i64 kd, .string ⟨lay.toArray⟩, .int .i64 ax, .int .i64 ay, .int .i64 bx, .int .i64 b_y, .int .i64 fx, .int .i64 fy, .int .i64 tx, .int .i64 ty, .int .i64 cx, .int .i64 cy, .bool cw, .slice qA pts.length qk] 66)) (by have := HB.out.size; simp <;> omega) (HOJ.out.alloc (.cells #[.int .i64 kd, .string ⟨lay.toArray⟩, .int .i64 ax, .int .i64 ay, .int .i64 bx, .int .i64 b_y, .int .i64 fx, .int .i64 fy, .int .i64 tx, .int .i64 ty, .int .i64 cx, .int .i64 cy, .bool cw, .slice qA pts.length qk] 66)) hg1 (Nat.le_refl _))
      have HP := Lib.hid hown
      clear hown hg1
      clear a0 a1 a2 a3 a4 a5 a6 a7 a8 a9 a10 a11 a12 a13
      go_wp2
      go_roundw
      case rel => exact ⟨j + 1, by go_num, by omega, Lib.hid (by rw [HTJ.out]; simpa [List.flatMap_append, entVals] using HP.out), HF1⟩
      case measure => simp [intOf]; omega
    · obtain rfl : j = es.length := by omega
      have HEL : Hid ((es.take es.length).length = es.length ∧ (es.take es.length).flatMap entVals = es.flatMap entVals) := Lib.hid (by rw [List.take_length]; exact ⟨rfl, rfl⟩)
      have HOF := HOJ.out
      rw [HEL.out.1, HEL.out.2] at HOF
      obtain ⟨oA, oc, rfl, hoc⟩ := own_shape HOF
      have HO := Lib.hid HOF
      clear HOF
      go_wp2
      go_ret
      exact ⟨oA, oc, rfl, ⟨Row.of_own HO.out, (HPT.out.below HB.out).2.1, hl⟩, HB.out⟩
set_option maxRecDepth 100000 in
set_option maxHeartbeats 2000000 in
theorem sameVecs_eq (l : List V) (A B : Option Addr) (c d : Nat) (w : World) (hr : Row w A (l.flatMap ptCells)) (hs : Row w B (l.flatMap ptCells)) (hl : l.length ≤ 1000000) :
    Calls Tryz.prog 39 #[.slice A l.length c, .slice B l.length d] w fun e w' => e = .returned (.bool true) ∧ Below w.heap.size w w' := by
  have HR := Lib.hid hr
  have HS := Lib.hid hs
  have n1 : ((l.length : Int) != (l.length : Int)) = false := bne_self_eq_false ..
  clear hr hs
  go_enter Tryz.func39, Tryz.ntmps39
  go_wp2
  go_loopw [5] (fun i wr => ∃ j : Nat, i = .int .i64 (j : Int) ∧ j ≤ l.length ∧ Hid (Below w.heap.size w wr)) (fun i _ => l.length - (intOf i).toNat)
  case atStart => exact ⟨0, rfl, Nat.zero_le _, Lib.hid (Below.refl _ _)⟩
  case round =>
    obtain ⟨j, rfl, hj, HB⟩ := hrel
    by_cases hlt : j < l.length
    · obtain ⟨g, o1, rfl, hg, ca⟩ := row_get GeW.pt_len (by decide) HR.out (by omega)
      obtain ⟨g2, o2, rfl, hg2, cb⟩ := row_get GeW.pt_len (by decide) HS.out (by omega)
      have a0 := (HB.out.cell (p := ⟨g, o1 + j * 2 + 0, none⟩) hg).trans (ca j hlt 0 (by decide))
      have a1 := (HB.out.cell (p := ⟨g, o1 + j * 2 + 1, none⟩) hg).trans (ca j hlt 1 (by decide))
      have b0 := (HB.out.cell (p := ⟨g2, o2 + j * 2 + 0, none⟩) hg2).trans (cb j hlt 0 (by decide))
      have b1 := (HB.out.cell (p := ⟨g2, o2 + j * 2 + 1, none⟩) hg2).trans (cb j hlt 1 (by decide))
      generalize l[j] = q at *
      obtain ⟨ax, ay⟩ := q
      simp only [ptCells, List.getElem?_cons_zero, List.getElem?_cons_succ, Nat.add_zero] at a0 a1 b0 b1
      have hj1 : (0 : Int) ≤ (j : Int) := by omega
      have hj2 : (j : Int) < (l.length : Int) := by omega
      have e1 : ∀ W, (binOp .neq 53 (.agg #[.int .i64 ax, .int .i64 ay]) (.agg #[.int .i64 ax, .int .i64 ay])).run Tryz.prog W = .ok (.bool false) W := fun W => by rw [GeW.neq_vec, decide_eq_true rfl]; rfl
      clear ca cb
      go_upto_region 6 with fail
      go_quiet (fail)
      go_wp2
      go_roundw
      case rel => exact ⟨j + 1, by go_num, by omega, Lib.hid (below_drewN HB.out nq)⟩
      case measure => simp [intOf]; omega
    · obtain rfl : j = l.length := by omega
      go_wp2
      go_ret
      exact ⟨rfl, HB.out⟩
end Go.Proofs.YtnmmhcchpcbeeaaGreat.GtW
namespace Go.Proofs.YtnmmhcchpcbeeaaGreat.GeW
open Go Go.RowKit Go.Proofs.YtnmmhcchpcbeeaaGreat.Mem Go.Proofs.YtnmmhcchpcbeeaaGreat.Ge
attribute [local go_sem ↓] Go.wp_at_zero Go.wp_at_succ
set_option maxRecDepth 100000 in
set_option maxHeartbeats 2000000 in
theorem sameRings_eq (rs qs : List RowV) (A B : Option Addr) (c d : Nat) (w : World) (hr : Row w A (rs.map rowVal)) (hs : Row w B (qs.map rowVal)) (hri : ∀ r ∈ rs, Row w r.A (r.l.flatMap ptCells) ∧ r.l.length ≤ 1000) (hqi : ∀ r ∈ qs, Row w r.A (r.l.flatMap ptCells)) (he : rs.map RowV.l = qs.map RowV.l) (hn : rs.length ≤ 1000000) :
    Calls Tryz.prog 20 #[.slice A rs.length c, .slice B qs.length d] w fun e w' => e = .returned (.bool true) ∧ Below w.heap.size w w' := by
  have hlen : qs.length = rs.length := by simpa using (congrArg List.length he).symm
  have HR := Lib.hid hr
  have HS := Lib.hid hs
  have HRI := Lib.hid hri
  have HQI := Lib.hid hqi
  have HE := Lib.hid he
  have n1 : ((rs.length : Int) != (rs.length : Int)) = false := bne_self_eq_false ..
  rw [hlen]
  clear hr hs hri hqi he
  go_enter Tryz.func20, Tryz.ntmps20
  go_wp2
  go_loopw [5] (fun i wr => ∃ j : Nat, i = .int .i64 (j : Int) ∧ j ≤ rs.length ∧ Hid (Below w.heap.size w wr)) (fun i _ => rs.length - (intOf i).toNat)
  case atStart => exact ⟨0, rfl, Nat.zero_le _, Lib.hid (Below.refl _ _)⟩
  case round =>
    obtain ⟨j, rfl, hj, HB⟩ := hrel
    by_cases hlt : j < rs.length
    · have hlt2 : j < qs.length := by omega
      obtain ⟨g, o1, rfl, hg, ca⟩ := row_one HR.out (k := j) (by simpa using hlt)
      obtain ⟨g2, o2, rfl, hg2, cb⟩ := row_one HS.out (k := j) (by simpa using hlt2)
      have a0 := (HB.out.cell (p := ⟨g, o1 + j, none⟩) hg).trans (ca j (by simpa using hlt))
      have b0 := (HB.out.cell (p := ⟨g2, o2 + j, none⟩) hg2).trans (cb j (by simpa using hlt2))
      rw [List.getElem_map] at a0 b0
      have hel : rs[j].l = qs[j].l := by
        have h1 : (rs.map RowV.l)[j]'(by simpa using hlt) = (qs.map RowV.l)[j]'(by simpa using hlt2) := by simp only [HE.out]
        simpa using h1
      have hR := HRI.out _ (List.getElem_mem hlt)
      have hQ := HQI.out _ (List.getElem_mem hlt2)
      clear ca cb
      obtain ⟨rl, rA, rk, hrv⟩ : ∃ l A k, rs[j] = (⟨l, A, k⟩ : RowV) := ⟨_, _, _, rfl⟩
      obtain ⟨ql, qA, qk, hqv⟩ : ∃ l A k, qs[j] = (⟨l, A, k⟩ : RowV) := ⟨_, _, _, rfl⟩
      rw [hrv] at a0 hel hR
      rw [hqv] at b0 hel hQ
      simp only at hel hR hQ
      subst hel
      clear hrv hqv
      simp only [rowVal] at a0 b0
      have hgw : g < wr.heap.size := Nat.lt_of_lt_of_le hg HB.out.size
      have hgw2 : g2 < wr.heap.size := Nat.lt_of_lt_of_le hg2 HB.out.size
      have HSV := Lib.hid (fun p : Later wr => GtW.sameVecs_eq rl rA qA rk qk p.w (hR.1.below (HB.out.trans (p.h.mono HB.out.size))) (hQ.below (HB.out.trans (p.h.mono HB.out.size))) (by omega))
      have hj1 : (0 : Int) ≤ (j : Int) := by omega
      have hj2 : (j : Int) < (rs.length : Int) := by omega
      clear hR hQ
      go_upto_region 6 with fail
      have P0 := fun p : Later wr => (p.h.cell (p := ⟨g, o1 + j, none⟩) hgw).trans a0
      have P1 := fun p : Later wr => (p.h.cell (p := ⟨g2, o2 + j, none⟩) hgw2).trans b0
      clear a0 b0
      refine wp_region_later wr (by kernel_rfl) (by kernel_rfl) (Below.refl _ _) ?_
      repeat (go_big_quiet_step (first | (go_at_call 39; with_reducible exact Calls.later (HSV.out _))))
      refine wpQuiet_nil ?_
      rintro w9 hex; have hb9 := later_of hex; clear hex
      have HB9 := Lib.hid (HB.out.trans (hb9.mono HB.out.size))
      clear P0 P1 hb9
      go_wp2
      go_roundw
      case rel => exact ⟨j + 1, by go_num, by omega, HB9⟩
      case measure => simp [intOf]; omega
    · obtain rfl : j = rs.length := by omega
      go_wp2
      go_ret
      exact ⟨rfl, HB.out⟩
set_option maxRecDepth 100000 in
set_option maxHeartbeats 2000000 in
theorem sameShape_eq (a b : ShapeM) (w : World) (ha : ShapeIn w a) (hb : ShapeIn w b) (ho : a.o.l = b.o.l) (hh : holesL a = holesL b) :
    Calls Tryz.prog 62 #[.agg (shapeVals a), .agg (shapeVals b)] w fun e w' => e = .returned (.bool true) ∧ Below w.heap.size w w' := by
  obtain ⟨⟨l, A1, k1⟩, hs1, B1, c1⟩ := a
  obtain ⟨⟨l2, A2, k2⟩, hs2, B2, c2⟩ := b
  simp only at ho
  subst ho
  show Calls Tryz.prog 62 #[.agg #[.slice A1 l.length k1, .slice B1 hs1.length c1], .agg #[.slice A2 l.length k2, .slice B2 hs2.length c2]] w fun e w' => e = .returned (.bool true) ∧ Below w.heap.size w w'
  have hba := bel1 w (.cells #[.slice A1 l.length k1, .slice B1 hs1.length c1] 29)
  have hbb := bel1 (w.alloc (.cells #[.slice A1 l.length k1, .slice B1 hs1.length c1] 29)) (.cells #[.slice A2 l.length k2, .slice B2 hs2.length c2] 29)
  have hz : (w.alloc (.cells #[.slice A1 l.length k1, .slice B1 hs1.length c1] 29)).heap.size = w.heap.size + 1 := by simp
  have HN1 := Lib.hid (p_below (heap_new w (.cells #[.slice A1 l.length k1, .slice B1 hs1.length c1] 29)) hbb)
  have HN2 : Hid (((w.alloc (.cells #[.slice A1 l.length k1, .slice B1 hs1.length c1] 29)).alloc (.cells #[.slice A2 l.length k2, .slice B2 hs2.length c2] 29)).heap[w.heap.size + 1]? = some (.cells #[.slice A2 l.length k2, .slice B2 hs2.length c2] 29)) := Lib.hid (by have := heap_new (w.alloc (.cells #[.slice A1 l.length k1, .slice B1 hs1.length c1] 29)) (.cells #[.slice A2 l.length k2, .slice B2 hs2.length c2] 29); rw [hz] at this; exact this)
  have HBB := Lib.hid (hba.trans (hbb.mono (by omega)))
  have HA := Lib.hid (ha.below HBB.out)
  have HB := Lib.hid (hb.below HBB.out)
  have HSV := Lib.hid (GtW.sameVecs_eq l A1 A2 k1 k2 _ HA.out.ro HB.out.ro (by have := (HA.out.short _ List.mem_cons_self).1; simp only at this; omega))
  have HSR := Lib.hid (fun W (hW : Below _ _ W) => sameRings_eq hs1 hs2 B1 B2 c1 c2 W ((HA.out.below hW).rB) ((HB.out.below hW).rB) (fun r hr => ⟨(HA.out.below hW).rh r hr, (HA.out.short r (List.mem_cons_of_mem _ hr)).1⟩) (fun r hr => (HB.out.below hW).rh r hr) hh (by have := HA.out.few; simp only at this; omega))
  clear ha hb hh HA HB hba hbb hz
  generalize l.length = n at *
  generalize hs1.length = m1 at *
  generalize hs2.length = m2 at *
  go_enter Tryz.func62, Tryz.ntmps62
  go_upto_region 1 with fail
  generalize (w.alloc (.cells #[.slice A1 n k1, .slice B1 m1 c1] 29)).alloc (.cells #[.slice A2 n k2, .slice B2 m2 c2] 29) = W at *
  have x0 := cell_of HN1.out 0 _ rfl
  have y0 := cell_of HN2.out 0 _ rfl
  go_wp2_with fail
  refine HSV.out.mono ?_
  rintro e w1 ⟨rfl, hb1⟩
  have HB1 := Lib.hid (HBB.out.trans (hb1.mono HBB.out.size))
  have HR1 := Lib.hid (HSR.out _ hb1)
  have HM1 := Lib.hid (p_below HN1.out hb1)
  have HM2 := Lib.hid (p_below HN2.out hb1)
  clear x0 y0 hb1 HSV HSR
  have x1 := cell_of HM1.out 1 _ rfl
  have y1 := cell_of HM2.out 1 _ rfl
  go_wp2_with fail
  refine HR1.out.mono ?_
  rintro e w2 ⟨rfl, hb2⟩
  have HB2 := Lib.hid (HB1.out.trans (hb2.mono HB1.out.size))
  go_wp2
  go_ret
  exact ⟨rfl, HB2.out⟩
set_option maxRecDepth 100000 in
set_option maxHeartbeats 2000000 in
theorem sameShapes_eq (ms ns : List ShapeM) (A B : Option Addr) (c d : Nat) (w : World) (hr : Row w A (ms.flatMap shapeC)) (hs : Row w B (ns.flatMap shapeC)) (hmi : ∀ m ∈ ms, ShapeIn w m) (hni : ∀ m ∈ ns, ShapeIn w m) (he : ms.map (fun m => (m.o.l, holesL m)) = ns.map (fun m => (m.o.l, holesL m))) (hn : ms.length ≤ 1000000) :
    Calls Tryz.prog 21 #[.slice A ms.length c, .slice B ns.length d] w fun e w' => e = .returned (.bool true) ∧ Below w.heap.size w w' := by
  have hlen : ns.length = ms.length := by simpa using (congrArg List.length he).symm
  have HR := Lib.hid hr
  have HS := Lib.hid hs
  have HMI := Lib.hid hmi
  have HNI := Lib.hid hni
  have HE := Lib.hid he
  have n1 : ((ms.length : Int) != (ms.length : Int)) = false := bne_self_eq_false ..
  rw [hlen]
  clear hr hs hmi hni he
  go_enter Tryz.func21, Tryz.ntmps21
  go_wp2
  go_loopw [5] (fun i wr => ∃ j : Nat, i = .int .i64 (j : Int) ∧ j ≤ ms.length ∧ Hid (Below w.heap.size w wr)) (fun i _ => ms.length - (intOf i).toNat)
  case atStart => exact ⟨0, rfl, Nat.zero_le _, Lib.hid (Below.refl _ _)⟩
  case round =>
    obtain ⟨j, rfl, hj, HB⟩ := hrel
    by_cases hlt : j < ms.length
    · have hlt2 : j < ns.length := by omega
      obtain ⟨g, o1, rfl, hg, ca⟩ := row_get shapeC_len (by decide) HR.out (by omega)
      obtain ⟨g2, o2, rfl, hg2, cb⟩ := row_get shapeC_len (by decide) HS.out (by omega)
      have a0 := (HB.out.cell (p := ⟨g, o1 + j * 2 + 0, none⟩) hg).trans (ca j hlt 0 (by decide))
      have a1 := (HB.out.cell (p := ⟨g, o1 + j * 2 + 1, none⟩) hg).trans (ca j hlt 1 (by decide))
      have b0 := (HB.out.cell (p := ⟨g2, o2 + j * 2 + 0, none⟩) hg2).trans (cb j hlt2 0 (by decide))
      have b1 := (HB.out.cell (p := ⟨g2, o2 + j * 2 + 1, none⟩) hg2).trans (cb j hlt2 1 (by decide))
      have hel : (ms[j].o.l, holesL ms[j]) = (ns[j].o.l, holesL ns[j]) := by
        have h1 : (ms.map (fun m => (m.o.l, holesL m)))[j]'(by simpa using hlt) = (ns.map (fun m => (m.o.l, holesL m)))[j]'(by simpa using hlt2) := by simp only [HE.out]
        simpa using h1
      have hM := HMI.out _ (List.getElem_mem hlt)
      have hN := HNI.out _ (List.getElem_mem hlt2)
      clear ca cb
      generalize ms[j] = m at *
      generalize ns[j] = k at *
      injection hel with hel1 hel2
      simp only [shapeC, List.getElem?_cons_zero, List.getElem?_cons_succ, Nat.add_zero] at a0 a1 b0 b1
      have hgw : g < wr.heap.size := Nat.lt_of_lt_of_le hg HB.out.size
      have hgw2 : g2 < wr.heap.size := Nat.lt_of_lt_of_le hg2 HB.out.size
      have HSV := Lib.hid (fun p : Later wr => sameShape_eq m k p.w (hM.below (HB.out.trans (p.h.mono HB.out.size))) (hN.below (HB.out.trans (p.h.mono HB.out.size))) hel1 hel2)
      have hj1 : (0 : Int) ≤ (j : Int) := by omega
      have hj2 : (j : Int) < (ms.length : Int) := by omega
      unfold shapeVals at HSV
      clear hM hN hel1 hel2
      generalize rowVal m.o = m0 at *
      generalize holesVal m = m1 at *
      generalize rowVal k.o = k0 at *
      generalize holesVal k = k1 at *
      go_upto_region 6 with fail
      have P0 := fun p : Later wr => (p.h.cell (p := ⟨g, o1 + j * 2, none⟩) hgw).trans a0
      have P1 := fun p : Later wr => (p.h.cell (p := ⟨g, o1 + j * 2 + 1, none⟩) hgw).trans a1
      have P2 := fun p : Later wr => (p.h.cell (p := ⟨g2, o2 + j * 2, none⟩) hgw2).trans b0
      have P3 := fun p : Later wr => (p.h.cell (p := ⟨g2, o2 + j * 2 + 1, none⟩) hgw2).trans b1
      clear a0 a1 b0 b1
      refine wp_region_later wr (by kernel_rfl) (by kernel_rfl) (Below.refl _ _) ?_
      repeat (go_big_quiet_step (first | (go_at_call 62; with_reducible exact Calls.later (HSV.out _))))
      refine wpQuiet_nil ?_
      rintro w9 hex; have hb9 := later_of hex; clear hex
      have HB9 := Lib.hid (HB.out.trans (hb9.mono HB.out.size))
      clear P0 P1 P2 P3 hb9
      go_wp2
      go_roundw
      case rel => exact ⟨j + 1, by go_num, by omega, HB9⟩
      case measure => simp [intOf]; omega
    · obtain rfl : j = ms.length := by omega
      go_wp2
      go_ret
      exact ⟨rfl, HB.out⟩
end Go.Proofs.YtnmmhcchpcbeeaaGreat.GeW

namespace Go.Proofs.YtnmmhcchpcbeeaaGreat.Mem
open Go Go.RowKit

theorem choose_lt' {α : Type} {p : Nat → α → Prop} : ∀ (m : Nat), (∀ i, i < m → ∃ a, p i a) → ∃ l : List α, l.length = m ∧ ∀ i (h : i < l.length), p i l[i]
  | 0, _ => ⟨[], rfl, fun i h => by simp at h⟩
  | m + 1, h => by
    obtain ⟨l, hl, hp⟩ := choose_lt' m fun i hi => h i (by omega)
    obtain ⟨a, ha⟩ := h m (by omega)
    refine ⟨l ++ [a], by simp [hl], fun i hi => ?_⟩
    by_cases hlt : i < l.length
    · rw [List.getElem_append_left hlt]; exact hp i hlt
    · have hi' : i = l.length := by simp at hi; omega
      subst hi'
      rw [List.getElem_append_right (Nat.le_refl _)]
      simp only [Nat.sub_self, List.getElem_cons_zero]
      rw [hl]; exact ha

theorem flatten_get {n : Nat} : ∀ (l : List (List Value)), (∀ c ∈ l, c.length = n) → ∀ (i f : Nat) (h : i < l.length), f < n → l.flatten[i * n + f]? = l[i][f]?
  | [], _, i, f, h, _ => by simp at h
  | c :: r, hc, 0, f, _, hf => by
    have := hc c (by simp)
    show (c ++ r.flatten)[0 * n + f]? = _
    rw [Nat.zero_mul, Nat.zero_add, List.getElem?_append_left (by omega)]; rfl
  | c :: r, hc, i + 1, f, h, hf => by
    have h0 := hc c (by simp)
    show (c ++ r.flatten)[(i + 1) * n + f]? = _
    have e : (i + 1) * n + f - c.length = i * n + f := by rw [h0, Nat.add_mul]; omega
    rw [List.getElem?_append_right (by rw [h0, Nat.add_mul]; omega), e, flatten_get r (fun c' h' => hc c' (by simp [h'])) i f (by simpa using h) hf]; rfl
theorem flatten_len {n : Nat} : ∀ (l : List (List Value)), (∀ c ∈ l, c.length = n) → l.flatten.length = l.length * n
  | [], _ => by simp
  | c :: r, hc => by
    have h0 := hc c (by simp)
    have := flatten_len r fun c' h' => hc c' (by simp [h'])
    rw [List.flatten_cons, List.length_append, this, h0, List.length_cons, Nat.add_mul]; omega

theorem addr_add (a : Addr) (h : a.spot = none) (i : Nat) : a.add i = ⟨a.block, a.off + i, none⟩ := by
  obtain ⟨b, o, s⟩ := a
  simp only at h
  subst h
  by_cases h0 : i = 0
  · subst h0; rfl
  · show (if i = 0 then _ else _) = _
    rw [if_neg h0]

section
variable {H : Type} {enc : TypeId × Value → H} {P : Program} {w : World} {held : Bool}
theorem weights_all {e : TypeId} {d : DataW H} {k : Nat} : ∀ (l : List (DataW H)), d ∈ l → k ∈ d.weights P e → k ∈ DataW.weightsAll P e l
  | x :: r, hd, hk => by
    unfold DataW.weightsAll
    rcases List.mem_cons.1 hd with rfl | h
    · exact List.mem_append_left _ hk
    · exact List.mem_append_right _ (weights_all r h hk)
theorem weights_slice {t e : TypeId} (ht : P.underlying t = some (.slice e)) {elems rest : List (DataW H)} (hw : ∀ k ∈ (DataW.slice elems rest).weights P t, k ≤ reachBytes) :
    elems.length * P.bytesOf e ≤ reachBytes ∧ ∀ d ∈ elems, ∀ k ∈ d.weights P e, k ≤ reachBytes := by
  have h0 : (DataW.slice elems rest).weights P t = (elems.length + rest.length) * P.bytesOf e :: (DataW.weightsAll P e elems ++ DataW.weightsAll P e rest) := by
    rw [DataW.weights, ht]
  rw [h0] at hw
  refine ⟨?_, fun d hd k hk => hw k (List.mem_cons_of_mem _ (List.mem_append_left _ (weights_all elems hd hk)))⟩
  have := hw _ (List.mem_cons_self ..)
  rw [Nat.add_mul] at this
  omega
theorem open_fuel {t e : TypeId} {A : Option Addr} {len cap fuel : Nat} {x : DataW H × List MemPlace} (ht : P.underlying t = some (.slice e)) (hn : 0 < P.cellsOf e)
    (h : DataW.trod enc P w 0 (fun _ => true) held fuel t [.slice A len cap] = some x) :
    ∃ (css : List (List Value)) (n : Nat) (elems rest : List (DataW H)), css.length = len ∧ Row w A css.flatten ∧ len ≤ cap ∧ n < fuel ∧ (len = 0 ∨ x.1 = .slice elems rest ∧ elems.length = len) ∧
      ∀ cs ∈ css, cs.length = P.cellsOf e ∧ ∃ y, DataW.trod enc P w 0 (fun _ => true) held n e cs = some y ∧ y.1 ∈ elems := by
  rcases DataW.trod_slice ht h with ⟨h0, hx⟩ | ⟨a, len', cap', elems, rest, n, rfl, h0, rfl, _, hl, hm, hlen, hel, _, _⟩
  · simp only [List.cons.injEq, Value.slice.injEq, and_true] at h0
    obtain ⟨rfl, rfl, rfl⟩ := h0
    have hf : 0 < fuel := by
      rcases fuel with _ | _
      · simp [DataW.trod] at h
      · omega
    exact ⟨[], 0, [], [], rfl, Row.nil _ _, Nat.le_refl _, hf, .inl rfl, by simp⟩
  · simp only [List.cons.injEq, Value.slice.injEq, and_true] at h0
    obtain ⟨rfl, rfl, rfl⟩ := h0
    obtain ⟨l, hll, hlp⟩ := choose_lt' (p := fun i cs => w.cells? 0 (a.add (i * P.cellsOf e)) (P.cellsOf e) = some cs ∧ ∃ y, DataW.trod enc P w 0 (fun _ => true) held n e cs = some y ∧ y.1 ∈ elems.map (·.1)) len fun i hi => by
      have h1 := hel i hi
      rw [List.getElem?_eq_getElem (by omega)] at h1
      obtain ⟨cs, h2, h3⟩ := Option.bind_eq_some_iff.1 h1
      exact ⟨cs, h2, _, h3, List.mem_map_of_mem (List.getElem_mem _)⟩
    have hlen : ∀ cs ∈ l, cs.length = P.cellsOf e := by
      intro cs hcs
      obtain ⟨i, hi, rfl⟩ := List.getElem_of_mem hcs
      exact (World.cells?_some (hlp i hi).1).2.1
    refine ⟨l, n, elems.map (·.1), rest.map (·.1), hll, ?_, hl, Nat.lt_succ_self n, .inr ⟨rfl, by rw [List.length_map]; omega⟩, fun cs hcs => ⟨hlen cs hcs, ?_⟩⟩
    · intro hne
      have hfl := flatten_len l hlen
      have hpos : 0 < l.length := by
        rcases l with _ | _
        · exact absurd rfl hne
        · simp
      have cell := fun (i : Nat) (hi : i < l.length) => (World.cells?_some (hlp i hi).1).2.2
      have hsome : ∃ v, w.cell? a = some v := by
        have h2 := cell 0 hpos 0 hn
        rw [Nat.zero_mul] at h2
        simp only [Addr.add, if_true] at h2
        rw [h2, List.getElem?_eq_getElem (by rw [hlen _ (List.getElem_mem hpos)]; exact hn)]
        exact ⟨_, rfl⟩
      obtain ⟨v, hv⟩ := hsome
      have hspot : a.spot = none := by
        unfold World.cell? at hv
        split at hv
        · split at hv
          · cases hv
          · rename_i hs; simpa using hs
        · cases hv
      have hb : a.block < w.heap.size := by
        by_cases hlt : a.block < w.heap.size
        · exact hlt
        · unfold World.cell? at hv
          rw [Array.getElem?_eq_none (Nat.le_of_not_lt hlt)] at hv
          cases hv
      refine ⟨a.block, a.off, ?_, hb, fun j hj => ?_⟩
      · obtain ⟨b, o, s⟩ := a
        simp only at hspot
        subst hspot; rfl
      · rw [hfl] at hj
        have hi : j / P.cellsOf e < l.length := Nat.div_lt_of_lt_mul (by rw [Nat.mul_comm]; exact hj)
        have hf : j % P.cellsOf e < P.cellsOf e := Nat.mod_lt _ hn
        have hj2 : j = j / P.cellsOf e * P.cellsOf e + j % P.cellsOf e := by rw [Nat.mul_comm]; exact (Nat.div_add_mod _ _).symm
        have h2 := cell _ hi _ hf
        have h3 := flatten_get l hlen _ _ hi hf
        rw [← hj2] at h3
        rw [h3, ← h2, addr_add a hspot, addr_add _ rfl]
        simp only
        rw [Nat.add_assoc, ← hj2]
    · obtain ⟨i, hi, rfl⟩ := List.getElem_of_mem hcs
      exact (hlp i hi).2
end
end Go.Proofs.YtnmmhcchpcbeeaaGreat.Mem

namespace Go.Proofs.YtnmmhcchpcbeeaaGreat.GtW
open Go Go.RowKit Go.Proofs.YtnmmhcchpcbeeaaGreat.Mem Go.Proofs.YtnmmhcchpcbeeaaGreat.Ge
open Go.Proofs.YtnmmhcchpcbeeaaGreat.GeW (EntV entVals ptCells)
theorem cells_vec : Tryz.prog.cellsOf 53 = 2 := by kernel_rfl
theorem cells_arc : Tryz.prog.cellsOf 55 = 7 := by kernel_rfl
theorem cells_rent : Tryz.prog.cellsOf 57 = 14 := by kernel_rfl
theorem cells_vecs : Tryz.prog.cellsOf 25 = 1 := by kernel_rfl
theorem cells_int : Tryz.prog.cellsOf 3 = 1 := by kernel_rfl
theorem cells_str : Tryz.prog.cellsOf 9 = 1 := by kernel_rfl
theorem cells_bool : Tryz.prog.cellsOf 4 = 1 := by kernel_rfl
theorem bytes_vec : Tryz.prog.bytesOf 53 = 16 := by kernel_rfl
theorem bytes_rent : Tryz.prog.bytesOf 57 = 136 := by kernel_rfl
theorem list2 {α : Type} {l : List α} (h : l.length = 2) : ∃ a b, l = [a, b] := by
  match l, h with
  | [a, b], _ => exact ⟨a, b, rfl⟩
theorem list14 {α : Type} {l : List α} (h : l.length = 14) : ∃ v0 v1 v2 v3 v4 v5 v6 v7 v8 v9 v10 v11 v12 v13, l = [v0, v1, v2, v3, v4, v5, v6, v7, v8, v9, v10, v11, v12, v13] := by
  match l, h with
  | [v0, v1, v2, v3, v4, v5, v6, v7, v8, v9, v10, v11, v12, v13], _ => exact ⟨v0, v1, v2, v3, v4, v5, v6, v7, v8, v9, v10, v11, v12, v13, rfl⟩
theorem list_of {α : Type} (f : α → List Value) (good : α → Prop) : ∀ (css : List (List Value)), (∀ cs ∈ css, ∃ x, good x ∧ cs = f x) → ∃ xs : List α, xs.length = css.length ∧ css.flatten = xs.flatMap f ∧ ∀ x ∈ xs, good x
  | [], _ => ⟨[], rfl, rfl, by simp⟩
  | c :: r, h => by
    obtain ⟨x, hx, rfl⟩ := h c (by simp)
    obtain ⟨xs, h1, h2, h3⟩ := list_of f good r fun c' h' => h c' (by simp [h'])
    exact ⟨x :: xs, by simp [h1], by rw [List.flatten_cons, h2, List.flatMap_cons], by simpa [hx] using h3⟩
section
variable {H : Type} {enc : TypeId × Value → H} {w : World} {held : Bool}
theorem slice_of {P : Program} {t e : TypeId} {fuel : Nat} {cs : List Value} {x : DataW H × List MemPlace} (ht : P.underlying t = some (.slice e)) (h : DataW.trod enc P w 0 (fun _ => true) held fuel t cs = some x) : ∃ A len cap, cs = [.slice A len cap] := by
  rcases DataW.trod_slice ht h with ⟨h0, _⟩ | ⟨a, len', cap', _, _, _, _, h0, _⟩
  · exact ⟨_, _, _, h0⟩
  · exact ⟨_, _, _, h0⟩
theorem one_cells (A : Option Addr) (len cap : Nat) : (Value.slice A len cap).cells.toList = [Value.slice A len cap] := by simp [Value.cells]
theorem open_point (cs : List Value) (n : Nat) (y : DataW H × List MemPlace) (hy : DataW.trod enc Tryz.prog w 0 (fun _ => true) held n 53 cs = some y) : ∃ v : V, cs = ptCells v := by
  obtain ⟨xs, m, _, _, hl, hxs, hf⟩ := DataW.trod_struct Tryz.underlying53 hy
  rw [cells_vec] at hl
  have h0 : DataW.trod enc Tryz.prog w 0 (fun _ => true) held m 3 ((cs.drop 0).take (Tryz.prog.cellsOf 3)) = xs[0]? := hf 0 _ rfl
  have h1 : DataW.trod enc Tryz.prog w 0 (fun _ => true) held m 3 ((cs.drop 1).take (Tryz.prog.cellsOf 3)) = xs[1]? := hf 1 _ rfl
  rw [cells_int] at h0 h1
  have hxs2 : xs.length = 2 := hxs
  rw [List.getElem?_eq_getElem (by omega)] at h0 h1
  obtain ⟨c0, e0, _, _⟩ := DataW.trod_int Tryz.underlying3 h0
  obtain ⟨c1, e1, _, _⟩ := DataW.trod_int Tryz.underlying3 h1
  clear h0 h1 hf
  obtain ⟨a, b, rfl⟩ := list2 hl
  simp only [List.drop_zero, List.take_succ_cons, List.take_zero, List.drop_succ_cons, List.cons.injEq, and_true] at e0 e1
  subst e0 e1
  exact ⟨(c0, c1), rfl⟩
theorem open_arc (cs : List Value) (n : Nat) (y : DataW H × List MemPlace) (hy : DataW.trod enc Tryz.prog w 0 (fun _ => true) held n 55 cs = some y) : ∃ (f t c : V) (b : Bool), cs = [.int .i64 f.1, .int .i64 f.2, .int .i64 t.1, .int .i64 t.2, .int .i64 c.1, .int .i64 c.2, .bool b] := by
  obtain ⟨xs, m, _, _, hl, hxs, hf⟩ := DataW.trod_struct Tryz.underlying55 hy
  rw [cells_arc] at hl
  have h0 : DataW.trod enc Tryz.prog w 0 (fun _ => true) held m 53 ((cs.drop 0).take (Tryz.prog.cellsOf 53)) = xs[0]? := hf 0 _ rfl
  have h1 : DataW.trod enc Tryz.prog w 0 (fun _ => true) held m 53 ((cs.drop 2).take (Tryz.prog.cellsOf 53)) = xs[1]? := hf 1 _ rfl
  have h2 : DataW.trod enc Tryz.prog w 0 (fun _ => true) held m 53 ((cs.drop 4).take (Tryz.prog.cellsOf 53)) = xs[2]? := hf 2 _ rfl
  have h3 : DataW.trod enc Tryz.prog w 0 (fun _ => true) held m 4 ((cs.drop 6).take (Tryz.prog.cellsOf 4)) = xs[3]? := hf 3 _ rfl
  rw [cells_vec] at h0 h1 h2
  rw [cells_bool] at h3
  have hxs2 : xs.length = 4 := hxs
  rw [List.getElem?_eq_getElem (by omega)] at h0 h1 h2 h3
  obtain ⟨f, e0⟩ := open_point _ _ _ h0
  obtain ⟨t, e1⟩ := open_point _ _ _ h1
  obtain ⟨c, e2⟩ := open_point _ _ _ h2
  obtain ⟨b, e3, _⟩ := DataW.trod_bool Tryz.underlying4 h3
  clear h0 h1 h2 h3 hf
  match cs, hl with
  | [v0, v1, v2, v3, v4, v5, v6], _ =>
    unfold ptCells at e0 e1 e2
    simp only [List.drop_zero, List.take_succ_cons, List.take_zero, List.drop_succ_cons, List.cons.injEq, and_true] at e0 e1 e2 e3
    obtain ⟨rfl, rfl⟩ := e0
    obtain ⟨rfl, rfl⟩ := e1
    obtain ⟨rfl, rfl⟩ := e2
    subst e3
    exact ⟨f, t, c, b, rfl⟩
def EntGood (w : World) (x : EntV) : Prop := Row w x.A (x.e.pts.flatMap ptCells) ∧ x.e.pts.length ≤ 8796093022208 ∧ x.e.pts.length ≤ x.k
theorem open_pts (A : Option Addr) (len cap : Nat) (n : Nat) (y : DataW H × List MemPlace) (hy : DataW.trod enc Tryz.prog w 0 (fun _ => true) held n 25 [.slice A len cap] = some y) (hw : ∀ k ∈ y.1.weights Tryz.prog 25, k ≤ reachBytes) :
    ∃ l : List V, l.length = len ∧ Row w A (l.flatMap ptCells) ∧ len ≤ 8796093022208 ∧ len ≤ cap := by
  obtain ⟨css, n1, el, re, k1, k2, k3, k4, k5, k6⟩ := open_fuel Tryz.underlying25 (by rw [cells_vec]; decide) hy
  obtain ⟨l, q1, q2, _⟩ := list_of ptCells (fun _ => True) css fun cs hcs => by
    obtain ⟨_, y, hy, _⟩ := k6 cs hcs
    obtain ⟨v, hv⟩ := open_point cs n1 y hy
    exact ⟨v, trivial, hv⟩
  have f1 : len ≤ 8796093022208 := by
    rcases k5 with h0 | ⟨hx, hlen⟩
    · omega
    · rw [hx] at hw
      have := (weights_slice Tryz.underlying25 hw).1
      rw [bytes_vec, hlen] at this
      have hr : reachBytes = 140737488351232 := rfl
      rw [hr] at this
      omega
  rw [q2] at k2
  exact ⟨l, by omega, k2, f1, by omega⟩
set_option maxRecDepth 100000 in
theorem open_entity (cs : List Value) (n : Nat) (y : DataW H × List MemPlace) (hy : DataW.trod enc Tryz.prog w 0 (fun _ => true) held n 57 cs = some y) (hw : ∀ k ∈ y.1.weights Tryz.prog 57, k ≤ reachBytes) : ∃ m : EntV, EntGood w m ∧ cs = entVals m := by
  obtain ⟨xs, n', rfl, rfl, hl, hxs, hf⟩ := DataW.trod_struct Tryz.underlying57 hy
  rw [cells_rent] at hl
  have hxs2 : xs.length = 6 := hxs
  obtain ⟨x0, x1, x2, x3, x4, x5, rfl⟩ : ∃ x0 x1 x2 x3 x4 x5, xs = [x0, x1, x2, x3, x4, x5] := by
    match xs, hxs2 with
    | [x0, x1, x2, x3, x4, x5], _ => exact ⟨x0, x1, x2, x3, x4, x5, rfl⟩
  obtain ⟨v0, v1, v2, v3, v4, v5, v6, v7, v8, v9, v10, v11, v12, v13, rfl⟩ := list14 hl
  have h0 : DataW.trod enc Tryz.prog w 0 (fun _ => true) held n' 3 (([v0, v1, v2, v3, v4, v5, v6, v7, v8, v9, v10, v11, v12, v13].drop 0).take (Tryz.prog.cellsOf 3)) = some x0 := hf 0 _ rfl
  have h1 : DataW.trod enc Tryz.prog w 0 (fun _ => true) held n' 9 (([v0, v1, v2, v3, v4, v5, v6, v7, v8, v9, v10, v11, v12, v13].drop 1).take (Tryz.prog.cellsOf 9)) = some x1 := hf 1 _ rfl
  have h2 : DataW.trod enc Tryz.prog w 0 (fun _ => true) held n' 53 (([v0, v1, v2, v3, v4, v5, v6, v7, v8, v9, v10, v11, v12, v13].drop 2).take (Tryz.prog.cellsOf 53)) = some x2 := hf 2 _ rfl
  have h3 : DataW.trod enc Tryz.prog w 0 (fun _ => true) held n' 53 (([v0, v1, v2, v3, v4, v5, v6, v7, v8, v9, v10, v11, v12, v13].drop 4).take (Tryz.prog.cellsOf 53)) = some x3 := hf 3 _ rfl
  have h4 : DataW.trod enc Tryz.prog w 0 (fun _ => true) held n' 55 (([v0, v1, v2, v3, v4, v5, v6, v7, v8, v9, v10, v11, v12, v13].drop 6).take (Tryz.prog.cellsOf 55)) = some x4 := hf 4 _ rfl
  have h5 : DataW.trod enc Tryz.prog w 0 (fun _ => true) held n' 25 (([v0, v1, v2, v3, v4, v5, v6, v7, v8, v9, v10, v11, v12, v13].drop 13).take (Tryz.prog.cellsOf 25)) = some x5 := hf 5 _ rfl
  rw [cells_int] at h0
  rw [cells_str] at h1
  rw [cells_vec] at h2 h3
  rw [cells_arc] at h4
  rw [cells_vecs] at h5
  simp only [List.drop_zero, List.take_succ_cons, List.take_zero, List.drop_succ_cons] at h0 h1 h2 h3 h4 h5
  have hW : (DataW.agg ([x0, x1, x2, x3, x4, x5].map (·.1))).weights Tryz.prog 57 = x0.1.weights Tryz.prog 3 ++ (x1.1.weights Tryz.prog 9 ++ (x2.1.weights Tryz.prog 53 ++ (x3.1.weights Tryz.prog 53 ++ (x4.1.weights Tryz.prog 55 ++ (x5.1.weights Tryz.prog 25 ++ []))))) := by
    rw [DataW.weights, Tryz.underlying57]
    rfl
  simp only [hW] at hw
  have hw5 : ∀ k ∈ x5.1.weights Tryz.prog 25, k ≤ reachBytes := fun k hk => hw k (List.mem_append_right _ (List.mem_append_right _ (List.mem_append_right _ (List.mem_append_right _ (List.mem_append_right _ (List.mem_append_left _ hk))))))
  obtain ⟨kd, e0, _, _⟩ := DataW.trod_int Tryz.underlying3 h0
  obtain ⟨lay, e1, _, _⟩ := DataW.trod_string Tryz.underlying9 h1
  obtain ⟨a, e2⟩ := open_point _ _ _ h2
  obtain ⟨b, e3⟩ := open_point _ _ _ h3
  obtain ⟨f, t, c, cw, e4⟩ := open_arc _ _ _ h4
  obtain ⟨A, len, cap, e5⟩ := slice_of Tryz.underlying25 h5
  unfold ptCells at e2 e3
  simp only [List.cons.injEq, and_true] at e0 e1 e2 e3 e4 e5
  obtain ⟨rfl, rfl⟩ := e2
  obtain ⟨rfl, rfl⟩ := e3
  obtain ⟨rfl, rfl, rfl, rfl, rfl, rfl, rfl⟩ := e4
  subst e0 e1 e5
  obtain ⟨l, hl5, hrow, hlen, hcap⟩ := open_pts A len cap _ _ h5 hw5
  refine ⟨⟨⟨kd, lay.data.toList, a, b, f, t, c, cw, l⟩, A, cap⟩, ⟨hrow, by show l.length ≤ _; omega, by show l.length ≤ cap; omega⟩, ?_⟩
  unfold entVals
  rw [hl5]
theorem open_ents {A : Option Addr} {len cap : Nat} {d : DataW H} {p : List MemPlace} (h : DataW.Trod enc Tryz.prog w 0 (fun _ => true) held 34 (.slice A len cap) d p) (hw : ∀ k ∈ d.weights Tryz.prog 34, k ≤ reachBytes) :
    ∃ es : List EntV, es.length = len ∧ EntsRaw w A es := by
  obtain ⟨fuel, hf⟩ := h
  rw [one_cells] at hf
  obtain ⟨css, n1, el, re, k1, k2, k3, k4, k5, k6⟩ := open_fuel Tryz.underlying34 (by rw [cells_rent]; decide) hf
  obtain ⟨ms, q1, q2, q3⟩ := list_of entVals (EntGood w) css fun cs hcs => by
    obtain ⟨_, y, hy, hin⟩ := k6 cs hcs
    refine open_entity cs n1 y hy ?_
    rcases k5 with h0 | ⟨hx, _⟩
    · have : css = [] := List.length_eq_zero_iff.1 (k1.trans h0)
      subst this
      cases hcs
    · simp only at hx
      subst hx
      exact (weights_slice Tryz.underlying34 hw).2 _ hin
  rw [q2] at k2
  refine ⟨ms, by omega, k2, q3, ?_⟩
  rcases k5 with h0 | ⟨hx, hlen⟩
  · omega
  · simp only at hx
    subst hx
    have := (weights_slice Tryz.underlying34 hw).1
    rw [bytes_rent, hlen] at this
    have hr : reachBytes = 140737488351232 := rfl
    rw [hr] at this
    omega
end
end Go.Proofs.YtnmmhcchpcbeeaaGreat.GtW
