/- Walk: the reader of an arc. Conditions: the scanner, its lines and the entity lie in memory, apart. -/
import Derived.Test.YtnmmhcchpcbeeaaGreatDoorGtI

namespace Go.Proofs.YtnmmhcchpcbeeaaGreatDoor.GtW
open Go Go.RowKit Go.Proofs.YtnmmhcchpcbeeaaGreatDoor.Mem Go.Proofs.YtnmmhcchpcbeeaaGreatDoor.Gt Go.Proofs.YtnmmhcchpcbeeaaGreatDoor.Ge
open Go.Proofs.YtnmmhcchpcbeeaaGreatDoor.GeW (neq_vec arcOk_any)
attribute [local go_sem ↓] Go.wp_at_zero Go.wp_at_succ
set_option maxRecDepth 100000 in
set_option maxHeartbeats 8000000 in
theorem read2_any (L : List (List UInt8)) (A : Option Addr) (c b : Nat) (s : Gt.S) (l : List UInt8) (bs bx xb : Nat) (w : World) (h : Sc w b A c L s) (h1 : w.cell? ⟨bs, 0, none⟩ = some (.pointer (some ⟨b, 0, none⟩))) (h2 : w.cell? ⟨bx, 0, none⟩ = some (.pointer (some ⟨xb, 0, none⟩))) (h3 : w.heap[xb]? = some (eobj (ent0 l) (.slice none 0 0)))
  (n1 : bs ≠ b) (n2 : bx ≠ b) (n3 : xb ≠ b) (n4 : bs ≠ xb) (n5 : bx ≠ xb) (hap : Apart A xb) (h7 : 7 ≤ xb) :
  Calls Tryz.prog 62 #[.pointer (some ⟨bs, 0, none⟩), .pointer (some ⟨bx, 0, none⟩)] w fun e w' => e = .returned (.tuple #[]) ∧ Sc w' b A c L (rdArc L l s).2 ∧ w'.heap[xb]? = some (eobj (rdArc L l s).1 (.slice none 0 0)) ∧ Fr b xb w w' := by
 have HS0 := Lib.hid h.drew
 have k0 := And.intro h1 h2
 have HO0 : Hid (w.drew.heap[xb]? = some (eobj (ent0 l) (.slice none 0 0))) := Lib.hid h3
 have HG0 : Hid (Fr b xb w w.drew) := Lib.hid (Fr.grown (grown_drewN (grown_refl w (some b)) 1))
 clear h h3
 unfold rdArc arc4 arc3 arc2 arc1
 rcases hr1 : pt L 10 s with ⟨⟨fx, fy⟩, s1⟩
 have HP1 : Hid (∀ W, Sc W b A c L s → Calls Tryz.prog 60 #[.pointer (some ⟨b, 0, none⟩), .int .i64 10] W (Did W b A c L (.agg #[.int .i64 fx, .int .i64 fy]) s1)) := Lib.hid (fun W hW => by
  have := point_any L A c b s 10 W hW (by omega)
  rw [hr1] at this
  exact this)
 rcases hr2 : pt L 11 s1 with ⟨⟨tx, ty⟩, s2⟩
 have HP2 : Hid (∀ W, Sc W b A c L s1 → Calls Tryz.prog 60 #[.pointer (some ⟨b, 0, none⟩), .int .i64 11] W (Did W b A c L (.agg #[.int .i64 tx, .int .i64 ty]) s2)) := Lib.hid (fun W hW => by
  have := point_any L A c b s1 11 W hW (by omega)
  rw [hr2] at this
  exact this)
 rcases hr3 : pt L 12 s2 with ⟨⟨cx, cy⟩, s3⟩
 have HP3 : Hid (∀ W, Sc W b A c L s2 → Calls Tryz.prog 60 #[.pointer (some ⟨b, 0, none⟩), .int .i64 12] W (Did W b A c L (.agg #[.int .i64 cx, .int .i64 cy]) s3)) := Lib.hid (fun W hW => by
  have := point_any L A c b s2 12 W hW (by omega)
  rw [hr3] at this
  exact this)
 rcases hr4 : nb L 70 0 1 s3 with ⟨kv, s4⟩
 have HPN : Hid (∀ W, Sc W b A c L s3 → Calls Tryz.prog 63 #[.pointer (some ⟨b, 0, none⟩), .int .i64 70, .int .i64 0, .int .i64 1] W (Did W b A c L (.int .i64 kv) s4)) := Lib.hid (fun W hW => by
  have := number_any L A c b s3 70 0 1 W hW (by omega)
  rw [hr4] at this
  exact this)
 have HIX : Hid (s4.bad = false → 1 ≤ s4.i ∧ s4.i ≤ L.length) := Lib.hid (by
  have := @nb_i L 70 0 1 s3
  rw [hr4] at this
  exact this)
 simp only
 clear hr1 hr2 hr3 hr4
 unfold mkArc
 have hkb : (kv == 1) = decide (kv = 1) := by rw [Bool.eq_iff_iff]; simp
 generalize decide (kv = 1) = kb at *
 go_enter Tryz.func62, Tryz.ntmps62
 go_wp2_with fail
 refine wp_region_held_drew (S := fun w' => w'.cell? ⟨bs, 0, none⟩ = some (.pointer (some ⟨b, 0, none⟩)) ∧ w'.cell? ⟨bx, 0, none⟩ = some (.pointer (some ⟨xb, 0, none⟩))) (by kernel_rfl) ?_ (fun hHeld => ?_)
 ·exact k0
 refine wpAnyH_take (i := 0) (oi := { dst := some 2, op := Op.load 65 (Operand.tmp 1), type := 65, pos := "drawing.go:158", after := #[], guard := none }) (v := ?_) rfl (by kernel_rfl) (by kernel_rfl) (by kernel_rfl) (fun _ _ _ h => h) (Or.inl ⟨by rfl, ?_⟩) (by assumption) ?_
 rotate_left
 ·intro w' hSw
  (try dsimp only at hSw)
  first | (go_simp; done) | (go_simp; with_reducible rfl)
 try simp only [Act.put, List.setIfInBounds_toArray, List.set_cons_zero, List.set_cons_succ]
 refine wpAnyH_take (i := 1) (oi := { dst := some 3, op := Op.load 65 (Operand.tmp 1), type := 65, pos := "drawing.go:158", after := #[], guard := none }) (v := ?_) rfl (by kernel_rfl) (by kernel_rfl) (by kernel_rfl) (fun _ _ _ h => h) (Or.inl ⟨by rfl, ?_⟩) (by assumption) ?_
 rotate_left
 ·intro w' hSw
  (try dsimp only at hSw)
  first | (go_simp; done) | (go_simp; with_reducible rfl)
 try simp only [Act.put, List.setIfInBounds_toArray, List.set_cons_zero, List.set_cons_succ]
 refine wpAnyH_take (i := 2) (oi := { dst := some 4, op := Op.load 59 (Operand.tmp 0), type := 59, pos := "drawing.go:158", after := #[], guard := none }) (v := ?_) rfl (by kernel_rfl) (by kernel_rfl) (by kernel_rfl) (fun _ _ _ h => h) (Or.inl ⟨by rfl, ?_⟩) (by assumption) ?_
 rotate_left
 ·intro w' hSw
  (try dsimp only at hSw)
  first | (go_simp; done) | (go_simp; with_reducible rfl)
 try simp only [Act.put, List.setIfInBounds_toArray, List.set_cons_zero, List.set_cons_succ]
 refine wpAnyH_take (i := 4) (oi := { dst := some 6, op := Op.load 59 (Operand.tmp 0), type := 59, pos := "drawing.go:158", after := #[], guard := none }) (v := ?_) rfl (by kernel_rfl) (by kernel_rfl) (by kernel_rfl) (fun _ _ _ h => h) (Or.inl ⟨by rfl, ?_⟩) (by assumption) ?_
 rotate_left
 ·intro w' hSw
  (try dsimp only at hSw)
  first | (go_simp; done) | (go_simp; with_reducible rfl)
 try simp only [Act.put, List.setIfInBounds_toArray, List.set_cons_zero, List.set_cons_succ]
 refine wpAnyH_take (i := 6) (oi := { dst := some 8, op := Op.load 59 (Operand.tmp 0), type := 59, pos := "drawing.go:158", after := #[], guard := none }) (v := ?_) rfl (by kernel_rfl) (by kernel_rfl) (by kernel_rfl) (fun _ _ _ h => h) (Or.inl ⟨by rfl, ?_⟩) (by assumption) ?_
 rotate_left
 ·intro w' hSw
  (try dsimp only at hSw)
  first | (go_simp; done) | (go_simp; with_reducible rfl)
 try simp only [Act.put, List.setIfInBounds_toArray, List.set_cons_zero, List.set_cons_succ]
 refine wpAnyH_ready (rs := [3]) (by kernel_rfl) (by simp) ?_
 refine AllReadyH.cons (o := { dst := some 5, op := Op.call { callee := Callee.value (Operand.func 60), args := #[Operand.tmp 4, Operand.const (Value.int IntKind.i64 10)], argTypes := #[59, 3] }, type := 47, pos := "drawing.go:158", after := #[{ on := 2, ground := Ground.data }], guard := none }) rfl (fun K hK => ?_) AllReadyH.nil
 go_simp
 go_at_call 60
 refine (HP1.out _ HS0.out).mono ?_
 rintro e w1 ⟨rfl, h1, g1⟩
 have k1 := And.intro (grown_cell g1 n1 k0.1) (grown_cell g1 n2 k0.2)
 have HO1 := Lib.hid ((g1.block xb (blk_lt HO0.out) (fun e => n3 (by injection e))).trans HO0.out)
 have HS1 := Lib.hid h1
 have HG1 := Lib.hid (HG0.out.trans (Fr.grown g1))
 clear h1 g1
 refine hK.out _ _ ?_ (fun hHeld => ?_)
 ·exact k1
 clear hK K
 try simp only [Act.put, List.setIfInBounds_toArray, List.set_cons_zero, List.set_cons_succ]
 refine wpAnyH_ready (rs := [5]) (by kernel_rfl) (by simp) ?_
 refine AllReadyH.cons (o := { dst := some 7, op := Op.call { callee := Callee.value (Operand.func 60), args := #[Operand.tmp 6, Operand.const (Value.int IntKind.i64 11)], argTypes := #[59, 3] }, type := 47, pos := "drawing.go:158", after := #[{ on := 4, ground := Ground.data }, { on := 3, ground := Ground.chain }], guard := none }) rfl (fun K hK => ?_) AllReadyH.nil
 go_simp
 go_at_call 60
 refine (HP2.out _ HS1.out).mono ?_
 rintro e w2 ⟨rfl, h2, g2⟩
 have k2 := And.intro (grown_cell g2 n1 k1.1) (grown_cell g2 n2 k1.2)
 have HO2 := Lib.hid ((g2.block xb (blk_lt HO1.out) (fun e => n3 (by injection e))).trans HO1.out)
 have HS2 := Lib.hid h2
 have HG2 := Lib.hid (HG1.out.trans (Fr.grown g2))
 clear h2 g2
 refine hK.out _ _ ?_ (fun hHeld => ?_)
 ·exact k2
 clear hK K
 try simp only [Act.put, List.setIfInBounds_toArray, List.set_cons_zero, List.set_cons_succ]
 refine wpAnyH_ready (rs := [7]) (by kernel_rfl) (by simp) ?_
 refine AllReadyH.cons (o := { dst := some 9, op := Op.call { callee := Callee.value (Operand.func 60), args := #[Operand.tmp 8, Operand.const (Value.int IntKind.i64 12)], argTypes := #[59, 3] }, type := 47, pos := "drawing.go:158", after := #[{ on := 6, ground := Ground.data }, { on := 5, ground := Ground.chain }], guard := none }) rfl (fun K hK => ?_) AllReadyH.nil
 go_simp
 go_at_call 60
 refine (HP3.out _ HS2.out).mono ?_
 rintro e w3 ⟨rfl, h3, g3⟩
 have k3 := And.intro (grown_cell g3 n1 k2.1) (grown_cell g3 n2 k2.2)
 have HO3 := Lib.hid ((g3.block xb (blk_lt HO2.out) (fun e => n3 (by injection e))).trans HO2.out)
 have HS3 := Lib.hid h3
 have HG3 := Lib.hid (HG2.out.trans (Fr.grown g3))
 clear h3 g3
 have z0 := cell_of HO3.out 0 _ rfl
 have q0 := free_of HO3.out 0
 have z6 := cell_of HO3.out 6 _ rfl
 have q6 := free_of HO3.out 6
 have z7 := cell_of HO3.out 7 _ rfl
 have q7 := free_of HO3.out 7
 have z8 := cell_of HO3.out 8 _ rfl
 have q8 := free_of HO3.out 8
 have z9 := cell_of HO3.out 9 _ rfl
 have q9 := free_of HO3.out 9
 have z10 := cell_of HO3.out 10 _ rfl
 have q10 := free_of HO3.out 10
 have z11 := cell_of HO3.out 11 _ rfl
 have q11 := free_of HO3.out 11
 have z12 := cell_of HO3.out 12 _ rfl
 have q12 := free_of HO3.out 12
 refine hK.out _ _ ?_ (fun hHeld => ?_)
 ·exact k3
 clear hK K
 try simp only [Act.put, List.setIfInBounds_toArray, List.set_cons_zero, List.set_cons_succ]
 refine wpAnyH_take (i := 8) (oi := { dst := some 10, op := Op.build 49 #[(0, Operand.tmp 5), (1, Operand.tmp 7), (2, Operand.tmp 9)], type := 49, pos := "drawing.go:158", after := #[{ on := 3, ground := Ground.data }, { on := 5, ground := Ground.data }, { on := 7, ground := Ground.data }], guard := none }) (v := ?_) rfl (by kernel_rfl) (by kernel_rfl) (by kernel_rfl) (fun _ _ _ h => h) (Or.inl ⟨by rfl, ?_⟩) (by assumption) ?_
 rotate_left
 ·intro w' hSw
  (try dsimp only at hSw)
  first | (go_simp; done) | (go_simp; with_reducible rfl)
 try simp only [Act.put, List.setIfInBounds_toArray, List.set_cons_zero, List.set_cons_succ]
 refine wpAnyH_take (i := 9) (oi := { dst := some 11, op := Op.nilCheck (Operand.tmp 2), type := 0, pos := "drawing.go:158", after := #[{ on := 0, ground := Ground.data }, { on := 0, ground := Ground.phase }, { on := 1, ground := Ground.textOnly Departure.inlinedCapture }, { on := 2, ground := Ground.textOnly Departure.inlinedCapture }, { on := 3, ground := Ground.phase }, { on := 4, ground := Ground.textOnly Departure.inlinedCapture }, { on := 5, ground := Ground.phase }, { on := 6, ground := Ground.textOnly Departure.inlinedCapture }, { on := 7, ground := Ground.phase }, { on := 8, ground := Ground.textOnly Departure.lateStoresUnsure }], guard := none }) (v := ?_) rfl (by kernel_rfl) (by kernel_rfl) (by kernel_rfl) (fun _ _ _ h => h) (Or.inl ⟨by rfl, ?_⟩) (by assumption) ?_
 rotate_left
 ·intro w' hSw
  (try dsimp only at hSw)
  first | (go_simp; done) | (go_simp; with_reducible rfl)
 try simp only [Act.put, List.setIfInBounds_toArray, List.set_cons_zero, List.set_cons_succ]
 refine wpAnyH_take (i := 10) (oi := { dst := some 12, op := Op.fieldAddr 52 (Operand.tmp 11) 0, type := 0, pos := "drawing.go:158", after := #[{ on := 9, ground := Ground.data }, { on := 0, ground := Ground.phase }, { on := 1, ground := Ground.textOnly Departure.inlinedCapture }, { on := 2, ground := Ground.textOnly Departure.inlinedCapture }, { on := 3, ground := Ground.phase }, { on := 4, ground := Ground.textOnly Departure.inlinedCapture }, { on := 5, ground := Ground.phase }, { on := 6, ground := Ground.textOnly Departure.inlinedCapture }, { on := 7, ground := Ground.phase }, { on := 8, ground := Ground.textOnly Departure.lateStoresUnsure }], guard := none }) (v := ?_) rfl (by kernel_rfl) (by kernel_rfl) (by kernel_rfl) (fun _ _ _ h => h) (Or.inl ⟨by rfl, ?_⟩) (by assumption) ?_
 rotate_left
 ·intro w' hSw
  (try dsimp only at hSw)
  first | (go_simp; done) | (go_simp; with_reducible rfl)
 try simp only [Act.put, List.setIfInBounds_toArray, List.set_cons_zero, List.set_cons_succ]
 refine wpAnyH_ready (rs := [11]) (by kernel_rfl) (by simp) ?_
 refine AllReadyH.cons (o := { dst := none, op := Op.store 3 (Operand.tmp 12) (Operand.const (Value.int IntKind.i64 2)), type := 0, pos := "drawing.go:158", after := #[{ on := 10, ground := Ground.data }, { on := 7, ground := Ground.chain }, { on := 0, ground := Ground.phase }, { on := 1, ground := Ground.textOnly Departure.inlinedCapture }, { on := 2, ground := Ground.textOnly Departure.inlinedCapture }, { on := 3, ground := Ground.phase }, { on := 4, ground := Ground.textOnly Departure.inlinedCapture }, { on := 5, ground := Ground.phase }, { on := 6, ground := Ground.textOnly Departure.inlinedCapture }, { on := 7, ground := Ground.phase }, { on := 8, ground := Ground.textOnly Departure.lateStoresUnsure }], guard := none }) rfl (fun K hK => ?_) AllReadyH.nil
 go_simp
 refine hK.out _ _ ?_ (fun hHeld => ?_)
 ·exact ⟨keep_set n4 (k3.1), keep_set n5 (k3.2)⟩
 clear hK K
 try simp only [Act.put, List.setIfInBounds_toArray, List.set_cons_zero, List.set_cons_succ]
 refine wpAnyH_take (i := 12) (oi := { dst := some 13, op := Op.nilCheck (Operand.tmp 3), type := 0, pos := "drawing.go:158", after := #[{ on := 1, ground := Ground.data }, { on := 0, ground := Ground.phase }, { on := 1, ground := Ground.phase }, { on := 2, ground := Ground.phase }, { on := 3, ground := Ground.phase }, { on := 4, ground := Ground.phase }, { on := 5, ground := Ground.phase }, { on := 6, ground := Ground.phase }, { on := 7, ground := Ground.phase }, { on := 8, ground := Ground.phase }, { on := 9, ground := Ground.phase }, { on := 10, ground := Ground.phase }, { on := 11, ground := Ground.phase }], guard := none }) (v := ?_) rfl (by kernel_rfl) (by kernel_rfl) (by kernel_rfl) (fun _ _ _ h => h) (Or.inl ⟨by rfl, ?_⟩) (by assumption) ?_
 rotate_left
 ·intro w' hSw
  (try dsimp only at hSw)
  first | (go_simp; done) | (go_simp; with_reducible rfl)
 try simp only [Act.put, List.setIfInBounds_toArray, List.set_cons_zero, List.set_cons_succ]
 refine wpAnyH_take (i := 13) (oi := { dst := some 14, op := Op.fieldAddr 52 (Operand.tmp 13) 4, type := 0, pos := "drawing.go:158", after := #[{ on := 12, ground := Ground.data }, { on := 0, ground := Ground.phase }, { on := 1, ground := Ground.phase }, { on := 2, ground := Ground.phase }, { on := 3, ground := Ground.phase }, { on := 4, ground := Ground.phase }, { on := 5, ground := Ground.phase }, { on := 6, ground := Ground.phase }, { on := 7, ground := Ground.phase }, { on := 8, ground := Ground.phase }, { on := 9, ground := Ground.phase }, { on := 10, ground := Ground.phase }, { on := 11, ground := Ground.phase }], guard := none }) (v := ?_) rfl (by kernel_rfl) (by kernel_rfl) (by kernel_rfl) (fun _ _ _ h => h) (Or.inl ⟨by rfl, ?_⟩) (by assumption) ?_
 rotate_left
 ·intro w' hSw
  (try dsimp only at hSw)
  first | (go_simp; done) | (go_simp; with_reducible rfl)
 try simp only [Act.put, List.setIfInBounds_toArray, List.set_cons_zero, List.set_cons_succ]
 refine wpAnyH_ready (rs := [14]) (by kernel_rfl) (by simp) ?_
 refine AllReadyH.cons (o := { dst := none, op := Op.store 49 (Operand.tmp 14) (Operand.tmp 10), type := 0, pos := "drawing.go:158", after := #[{ on := 13, ground := Ground.data }, { on := 8, ground := Ground.data }, { on := 11, ground := Ground.chain }, { on := 0, ground := Ground.phase }, { on := 1, ground := Ground.phase }, { on := 2, ground := Ground.phase }, { on := 3, ground := Ground.phase }, { on := 4, ground := Ground.phase }, { on := 5, ground := Ground.phase }, { on := 6, ground := Ground.phase }, { on := 7, ground := Ground.phase }, { on := 8, ground := Ground.phase }, { on := 9, ground := Ground.phase }, { on := 10, ground := Ground.phase }, { on := 11, ground := Ground.phase }], guard := none }) rfl (fun K hK => ?_) AllReadyH.nil
 go_simp
 refine hK.out _ _ ?_ (fun hHeld => ?_)
 ·exact ⟨keep_set n4 (keep_set n4 (keep_set n4 (keep_set n4 (keep_set n4 (keep_set n4 (keep_set n4 (keep_set n4 (k3.1)))))))), keep_set n5 (keep_set n5 (keep_set n5 (keep_set n5 (keep_set n5 (keep_set n5 (keep_set n5 (keep_set n5 (k3.2))))))))⟩
 clear hK K
 try simp only [Act.put, List.setIfInBounds_toArray, List.set_cons_zero, List.set_cons_succ]
 refine wpAnyH_done (by kernel_rfl) ?_ _
 have hst0 : Hid ((w3.setCell ⟨xb, 0, none⟩ (.int .i64 2)).heap[xb]? = some (eobj ⟨2, l, (0, 0), (0, 0), (0, 0), (0, 0), (0, 0), false, []⟩ (.slice none 0 0))) := Lib.hid (block_set HO3.out 0 (.int .i64 2))
 have hst1 : Hid (((w3.setCell ⟨xb, 0, none⟩ (.int .i64 2)).setCell ⟨xb, 6, none⟩ (.int .i64 fx)).heap[xb]? = some (eobj ⟨2, l, (0, 0), (0, 0), (fx, 0), (0, 0), (0, 0), false, []⟩ (.slice none 0 0))) := Lib.hid (block_set hst0.out 6 (.int .i64 fx))
 have hst2 : Hid ((((w3.setCell ⟨xb, 0, none⟩ (.int .i64 2)).setCell ⟨xb, 6, none⟩ (.int .i64 fx)).setCell ⟨xb, 7, none⟩ (.int .i64 fy)).heap[xb]? = some (eobj ⟨2, l, (0, 0), (0, 0), (fx, fy), (0, 0), (0, 0), false, []⟩ (.slice none 0 0))) := Lib.hid (block_set hst1.out 7 (.int .i64 fy))
 have hst3 : Hid (((((w3.setCell ⟨xb, 0, none⟩ (.int .i64 2)).setCell ⟨xb, 6, none⟩ (.int .i64 fx)).setCell ⟨xb, 7, none⟩ (.int .i64 fy)).setCell ⟨xb, 8, none⟩ (.int .i64 tx)).heap[xb]? = some (eobj ⟨2, l, (0, 0), (0, 0), (fx, fy), (tx, 0), (0, 0), false, []⟩ (.slice none 0 0))) := Lib.hid (block_set hst2.out 8 (.int .i64 tx))
 have hst4 : Hid ((((((w3.setCell ⟨xb, 0, none⟩ (.int .i64 2)).setCell ⟨xb, 6, none⟩ (.int .i64 fx)).setCell ⟨xb, 7, none⟩ (.int .i64 fy)).setCell ⟨xb, 8, none⟩ (.int .i64 tx)).setCell ⟨xb, 9, none⟩ (.int .i64 ty)).heap[xb]? = some (eobj ⟨2, l, (0, 0), (0, 0), (fx, fy), (tx, ty), (0, 0), false, []⟩ (.slice none 0 0))) := Lib.hid (block_set hst3.out 9 (.int .i64 ty))
 have hst5 : Hid (((((((w3.setCell ⟨xb, 0, none⟩ (.int .i64 2)).setCell ⟨xb, 6, none⟩ (.int .i64 fx)).setCell ⟨xb, 7, none⟩ (.int .i64 fy)).setCell ⟨xb, 8, none⟩ (.int .i64 tx)).setCell ⟨xb, 9, none⟩ (.int .i64 ty)).setCell ⟨xb, 10, none⟩ (.int .i64 cx)).heap[xb]? = some (eobj ⟨2, l, (0, 0), (0, 0), (fx, fy), (tx, ty), (cx, 0), false, []⟩ (.slice none 0 0))) := Lib.hid (block_set hst4.out 10 (.int .i64 cx))
 have hst6 : Hid ((((((((w3.setCell ⟨xb, 0, none⟩ (.int .i64 2)).setCell ⟨xb, 6, none⟩ (.int .i64 fx)).setCell ⟨xb, 7, none⟩ (.int .i64 fy)).setCell ⟨xb, 8, none⟩ (.int .i64 tx)).setCell ⟨xb, 9, none⟩ (.int .i64 ty)).setCell ⟨xb, 10, none⟩ (.int .i64 cx)).setCell ⟨xb, 11, none⟩ (.int .i64 cy)).heap[xb]? = some (eobj ⟨2, l, (0, 0), (0, 0), (fx, fy), (tx, ty), (cx, cy), false, []⟩ (.slice none 0 0))) := Lib.hid (block_set hst5.out 11 (.int .i64 cy))
 have HO4 : Hid (((((((((w3.setCell ⟨xb, 0, none⟩ (.int .i64 2)).setCell ⟨xb, 6, none⟩ (.int .i64 fx)).setCell ⟨xb, 7, none⟩ (.int .i64 fy)).setCell ⟨xb, 8, none⟩ (.int .i64 tx)).setCell ⟨xb, 9, none⟩ (.int .i64 ty)).setCell ⟨xb, 10, none⟩ (.int .i64 cx)).setCell ⟨xb, 11, none⟩ (.int .i64 cy)).setCell ⟨xb, 12, none⟩ (.bool false)).heap[xb]? = some (eobj ⟨2, l, (0, 0), (0, 0), (fx, fy), (tx, ty), (cx, cy), false, []⟩ (.slice none 0 0))) := Lib.hid (block_set hst6.out 12 (.bool false))
 clear hst0 hst1 hst2 hst3 hst4 hst5 hst6
 have HS4 := Lib.hid (((((((((HS3.out).set n3 hap h7 0 (.int .i64 2)).set n3 hap h7 6 (.int .i64 fx)).set n3 hap h7 7 (.int .i64 fy)).set n3 hap h7 8 (.int .i64 tx)).set n3 hap h7 9 (.int .i64 ty)).set n3 hap h7 10 (.int .i64 cx)).set n3 hap h7 11 (.int .i64 cy)).set n3 hap h7 12 (.bool false))
 have HG4 := Lib.hid (((((((((HG3.out).set 0 (.int .i64 2)).set 6 (.int .i64 fx)).set 7 (.int .i64 fy)).set 8 (.int .i64 tx)).set 9 (.int .i64 ty)).set 10 (.int .i64 cx)).set 11 (.int .i64 cy)).set 12 (.bool false))
 have k4 : _ ∧ _ := ⟨keep_set (v := .bool false) (j := 12) n4 (keep_set (v := .int .i64 cy) (j := 11) n4 (keep_set (v := .int .i64 cx) (j := 10) n4 (keep_set (v := .int .i64 ty) (j := 9) n4 (keep_set (v := .int .i64 tx) (j := 8) n4 (keep_set (v := .int .i64 fy) (j := 7) n4 (keep_set (v := .int .i64 fx) (j := 6) n4 (keep_set (v := .int .i64 2) (j := 0) n4 (k3.1)))))))), keep_set (v := .bool false) (j := 12) n5 (keep_set (v := .int .i64 cy) (j := 11) n5 (keep_set (v := .int .i64 cx) (j := 10) n5 (keep_set (v := .int .i64 ty) (j := 9) n5 (keep_set (v := .int .i64 tx) (j := 8) n5 (keep_set (v := .int .i64 fy) (j := 7) n5 (keep_set (v := .int .i64 fx) (j := 6) n5 (keep_set (v := .int .i64 2) (j := 0) n5 (k3.2))))))))⟩
 clear z0 z6 z7 z8 z9 z10 z11 z12 q0 q6 q7 q8 q9 q10 q11 q12 k0 k1 k2 k3
 go_upto_region 1 with fail
 generalize ((((((((w3.setCell ⟨xb, 0, none⟩ (.int .i64 2)).setCell ⟨xb, 6, none⟩ (.int .i64 fx)).setCell ⟨xb, 7, none⟩ (.int .i64 fy)).setCell ⟨xb, 8, none⟩ (.int .i64 tx)).setCell ⟨xb, 9, none⟩ (.int .i64 ty)).setCell ⟨xb, 10, none⟩ (.int .i64 cx)).setCell ⟨xb, 11, none⟩ (.int .i64 cy)).setCell ⟨xb, 12, none⟩ (.bool false)) = W4 at *
 refine wp_region_held_drew (S := fun w' => w'.cell? ⟨bs, 0, none⟩ = some (.pointer (some ⟨b, 0, none⟩)) ∧ w'.cell? ⟨bx, 0, none⟩ = some (.pointer (some ⟨xb, 0, none⟩))) (by kernel_rfl) ?_ (fun hHeld => ?_)
 ·exact k4
 refine wpAnyH_take (i := 0) (oi := { dst := some 15, op := Op.load 65 (Operand.tmp 1), type := 65, pos := "drawing.go:159", after := #[], guard := none }) (v := ?_) rfl (by kernel_rfl) (by kernel_rfl) (by kernel_rfl) (fun _ _ _ h => h) (Or.inl ⟨by rfl, ?_⟩) (by assumption) ?_
 rotate_left
 ·intro w' hSw
  (try dsimp only at hSw)
  first | (go_simp; done) | (go_simp; with_reducible rfl)
 try simp only [Act.put, List.setIfInBounds_toArray, List.set_cons_zero, List.set_cons_succ]
 refine wpAnyH_take (i := 1) (oi := { dst := some 16, op := Op.load 59 (Operand.tmp 0), type := 59, pos := "drawing.go:159", after := #[], guard := none }) (v := ?_) rfl (by kernel_rfl) (by kernel_rfl) (by kernel_rfl) (fun _ _ _ h => h) (Or.inl ⟨by rfl, ?_⟩) (by assumption) ?_
 rotate_left
 ·intro w' hSw
  (try dsimp only at hSw)
  first | (go_simp; done) | (go_simp; with_reducible rfl)
 try simp only [Act.put, List.setIfInBounds_toArray, List.set_cons_zero, List.set_cons_succ]
 refine wpAnyH_ready (rs := [2]) (by kernel_rfl) (by simp) ?_
 refine AllReadyH.cons (o := { dst := some 17, op := Op.call { callee := Callee.value (Operand.func 63), args := #[Operand.tmp 16, Operand.const (Value.int IntKind.i64 70), Operand.const (Value.int IntKind.i64 0), Operand.const (Value.int IntKind.i64 1)], argTypes := #[59, 3, 3, 3] }, type := 3, pos := "drawing.go:159", after := #[{ on := 1, ground := Ground.data }], guard := none }) rfl (fun K hK => ?_) AllReadyH.nil
 go_simp
 go_at_call 63
 refine (HPN.out _ HS4.out.drew).mono ?_
 rintro e w5 ⟨rfl, h5, g5⟩
 have k5 := And.intro (grown_cell g5 n1 k4.1) (grown_cell g5 n2 k4.2)
 have HO5 := Lib.hid ((g5.block xb (blk_lt (w := W4.drew) HO4.out) (fun e => n3 (by injection e))).trans HO4.out)
 have HS5 := Lib.hid h5
 have HG5 := Lib.hid (HG4.out.drew.trans (Fr.grown g5))
 clear h5 g5
 have z12 := cell_of HO5.out 12 _ rfl
 have q12 := free_of HO5.out 12
 refine hK.out _ _ ?_ (fun hHeld => ?_)
 ·exact k5
 clear hK K
 try simp only [Act.put, List.setIfInBounds_toArray, List.set_cons_zero, List.set_cons_succ]
 refine wpAnyH_take (i := 3) (oi := { dst := some 18, op := Op.binOp BinOp.eql 3 (Operand.tmp 17) (Operand.const (Value.int IntKind.i64 1)) 3, type := 4, pos := "drawing.go:159", after := #[{ on := 2, ground := Ground.data }], guard := none }) (v := ?_) rfl (by kernel_rfl) (by kernel_rfl) (by kernel_rfl) (fun _ _ _ h => h) (Or.inl ⟨by rfl, ?_⟩) (by assumption) ?_
 rotate_left
 ·intro w' hSw
  (try dsimp only at hSw)
  first | (go_simp; done) | (go_simp; with_reducible rfl)
 try simp only [Act.put, List.setIfInBounds_toArray, List.set_cons_zero, List.set_cons_succ]
 refine wpAnyH_take (i := 4) (oi := { dst := some 19, op := Op.nilCheck (Operand.tmp 15), type := 0, pos := "drawing.go:159", after := #[{ on := 0, ground := Ground.data }, { on := 0, ground := Ground.phase }, { on := 1, ground := Ground.phase }, { on := 2, ground := Ground.phase }, { on := 3, ground := Ground.phase }], guard := none }) (v := ?_) rfl (by kernel_rfl) (by kernel_rfl) (by kernel_rfl) (fun _ _ _ h => h) (Or.inl ⟨by rfl, ?_⟩) (by assumption) ?_
 rotate_left
 ·intro w' hSw
  (try dsimp only at hSw)
  first | (go_simp; done) | (go_simp; with_reducible rfl)
 try simp only [Act.put, List.setIfInBounds_toArray, List.set_cons_zero, List.set_cons_succ]
 refine wpAnyH_take (i := 5) (oi := { dst := some 20, op := Op.fieldAddr 52 (Operand.tmp 19) 4, type := 0, pos := "drawing.go:159", after := #[{ on := 4, ground := Ground.data }, { on := 0, ground := Ground.phase }, { on := 1, ground := Ground.phase }, { on := 2, ground := Ground.phase }, { on := 3, ground := Ground.phase }], guard := none }) (v := ?_) rfl (by kernel_rfl) (by kernel_rfl) (by kernel_rfl) (fun _ _ _ h => h) (Or.inl ⟨by rfl, ?_⟩) (by assumption) ?_
 rotate_left
 ·intro w' hSw
  (try dsimp only at hSw)
  first | (go_simp; done) | (go_simp; with_reducible rfl)
 try simp only [Act.put, List.setIfInBounds_toArray, List.set_cons_zero, List.set_cons_succ]
 refine wpAnyH_take (i := 6) (oi := { dst := some 21, op := Op.fieldAddr 49 (Operand.tmp 20) 3, type := 0, pos := "drawing.go:159", after := #[{ on := 5, ground := Ground.data }, { on := 0, ground := Ground.phase }, { on := 1, ground := Ground.phase }, { on := 2, ground := Ground.phase }, { on := 3, ground := Ground.phase }], guard := none }) (v := ?_) rfl (by kernel_rfl) (by kernel_rfl) (by kernel_rfl) (fun _ _ _ h => h) (Or.inl ⟨by rfl, ?_⟩) (by assumption) ?_
 rotate_left
 ·intro w' hSw
  (try dsimp only at hSw)
  first | (go_simp; done) | (go_simp; with_reducible rfl)
 try simp only [Act.put, List.setIfInBounds_toArray, List.set_cons_zero, List.set_cons_succ]
 refine wpAnyH_ready (rs := [7]) (by kernel_rfl) (by simp) ?_
 refine AllReadyH.cons (o := { dst := none, op := Op.store 4 (Operand.tmp 21) (Operand.tmp 18), type := 0, pos := "drawing.go:159", after := #[{ on := 6, ground := Ground.data }, { on := 3, ground := Ground.data }, { on := 2, ground := Ground.chain }, { on := 0, ground := Ground.phase }, { on := 1, ground := Ground.phase }, { on := 2, ground := Ground.phase }, { on := 3, ground := Ground.phase }], guard := none }) rfl (fun K hK => ?_) AllReadyH.nil
 go_simp
 refine hK.out _ _ ?_ (fun hHeld => ?_)
 ·exact ⟨keep_set n4 (k5.1), keep_set n5 (k5.2)⟩
 clear hK K
 try simp only [Act.put, List.setIfInBounds_toArray, List.set_cons_zero, List.set_cons_succ]
 refine wpAnyH_done (by kernel_rfl) ?_ _
 have HO6 : Hid ((w5.setCell ⟨xb, 12, none⟩ (.bool kb)).heap[xb]? = some (eobj ⟨2, l, (0, 0), (0, 0), (fx, fy), (tx, ty), (cx, cy), kb, []⟩ (.slice none 0 0))) := Lib.hid (block_set HO5.out 12 (.bool kb))
 have HS6 := Lib.hid ((HS5.out).set n3 hap h7 12 (.bool kb))
 have HG6 := Lib.hid ((HG5.out).set 12 (.bool kb))
 have k6 : _ ∧ _ := ⟨keep_set (v := .bool kb) (j := 12) n4 (k5.1), keep_set (v := .bool kb) (j := 12) n5 (k5.2)⟩
 clear z12 q12 k4 k5
 go_upto_region 2 with fail
 generalize (w5.setCell ⟨xb, 12, none⟩ (.bool kb)) = W6 at *
 refine wp_region_held_drew (S := fun w' => w'.cell? ⟨bs, 0, none⟩ = some (.pointer (some ⟨b, 0, none⟩)) ∧ w'.cell? ⟨bx, 0, none⟩ = some (.pointer (some ⟨xb, 0, none⟩)) ∧ w'.cell? ⟨xb, 6, none⟩ = some (.int .i64 fx) ∧ w'.cell? ⟨xb, 7, none⟩ = some (.int .i64 fy) ∧ w'.cell? ⟨xb, 8, none⟩ = some (.int .i64 tx) ∧ w'.cell? ⟨xb, 9, none⟩ = some (.int .i64 ty) ∧ w'.cell? ⟨xb, 10, none⟩ = some (.int .i64 cx) ∧ w'.cell? ⟨xb, 11, none⟩ = some (.int .i64 cy) ∧ w'.cell? ⟨xb, 12, none⟩ = some (.bool kb)) (by kernel_rfl) ?_ (fun hHeld => ?_)
 ·exact ⟨k6.1, k6.2, cell_of HO6.out 6 _ rfl, cell_of HO6.out 7 _ rfl, cell_of HO6.out 8 _ rfl, cell_of HO6.out 9 _ rfl, cell_of HO6.out 10 _ rfl, cell_of HO6.out 11 _ rfl, cell_of HO6.out 12 _ rfl⟩
 refine wpAnyH_take (i := 0) (oi := { dst := some 22, op := Op.load 59 (Operand.tmp 0), type := 59, pos := "drawing.go:160", after := #[], guard := none }) (v := ?_) rfl (by kernel_rfl) (by kernel_rfl) (by kernel_rfl) (fun _ _ _ h => h) (Or.inl ⟨by rfl, ?_⟩) (by assumption) ?_
 rotate_left
 ·intro w' hSw
  (try dsimp only at hSw)
  first | (go_simp; done) | (go_simp; with_reducible rfl)
 try simp only [Act.put, List.setIfInBounds_toArray, List.set_cons_zero, List.set_cons_succ]
 refine wpAnyH_take (i := 1) (oi := { dst := some 23, op := Op.load 65 (Operand.tmp 1), type := 65, pos := "drawing.go:160", after := #[], guard := none }) (v := ?_) rfl (by kernel_rfl) (by kernel_rfl) (by kernel_rfl) (fun _ _ _ h => h) (Or.inl ⟨by rfl, ?_⟩) (by assumption) ?_
 rotate_left
 ·intro w' hSw
  (try dsimp only at hSw)
  first | (go_simp; done) | (go_simp; with_reducible rfl)
 try simp only [Act.put, List.setIfInBounds_toArray, List.set_cons_zero, List.set_cons_succ]
 refine wpAnyH_take (i := 2) (oi := { dst := some 24, op := Op.nilCheck (Operand.tmp 23), type := 0, pos := "drawing.go:160", after := #[{ on := 1, ground := Ground.data }], guard := none }) (v := ?_) rfl (by kernel_rfl) (by kernel_rfl) (by kernel_rfl) (fun _ _ _ h => h) (Or.inl ⟨by rfl, ?_⟩) (by assumption) ?_
 rotate_left
 ·intro w' hSw
  (try dsimp only at hSw)
  first | (go_simp; done) | (go_simp; with_reducible rfl)
 try simp only [Act.put, List.setIfInBounds_toArray, List.set_cons_zero, List.set_cons_succ]
 refine wpAnyH_take (i := 3) (oi := { dst := some 25, op := Op.fieldAddr 52 (Operand.tmp 24) 4, type := 0, pos := "drawing.go:160", after := #[{ on := 2, ground := Ground.data }], guard := none }) (v := ?_) rfl (by kernel_rfl) (by kernel_rfl) (by kernel_rfl) (fun _ _ _ h => h) (Or.inl ⟨by rfl, ?_⟩) (by assumption) ?_
 rotate_left
 ·intro w' hSw
  (try dsimp only at hSw)
  first | (go_simp; done) | (go_simp; with_reducible rfl)
 try simp only [Act.put, List.setIfInBounds_toArray, List.set_cons_zero, List.set_cons_succ]
 refine wpAnyH_take (i := 4) (oi := { dst := some 26, op := Op.load 49 (Operand.tmp 25), type := 49, pos := "drawing.go:160", after := #[{ on := 3, ground := Ground.data }], guard := none }) (v := ?_) rfl (by kernel_rfl) (by kernel_rfl) (by kernel_rfl) (fun _ _ _ h => h) (Or.inl ⟨by rfl, ?_⟩) (by assumption) ?_
 rotate_left
 ·intro w' hSw
  (try dsimp only at hSw)
  first | (go_simp; done) | (go_simp; with_reducible rfl)
 try simp only [Act.put, List.setIfInBounds_toArray, List.set_cons_zero, List.set_cons_succ]
 refine wpAnyH_ready (rs := [5]) (by kernel_rfl) (by simp) ?_
 refine AllReadyH.cons (o := { dst := some 27, op := Op.call { callee := Callee.value (Operand.func 64), args := #[Operand.tmp 26], argTypes := #[49] }, type := 4, pos := "drawing.go:160", after := #[{ on := 4, ground := Ground.data }], guard := none }) rfl (fun K hK => ?_) AllReadyH.nil
 go_simp
 go_at_call 64
 refine (arcOk_any fx fy tx ty cx cy kb _).mono ?_
 rintro e w7 ⟨rfl, hb7⟩
 have k7 := And.intro ((hb7.cell (p := ⟨bs, 0, none⟩) (World.block_lt_of_cell? W6.drew _ k6.1)).trans k6.1) ((hb7.cell (p := ⟨bx, 0, none⟩) (World.block_lt_of_cell? W6.drew _ k6.2)).trans k6.2)
 have HO7 := Lib.hid ((hb7.block xb (blk_lt (w := W6.drew) HO6.out)).trans HO6.out)
 have HS7 := Lib.hid (HS6.out.drew.below hb7)
 have HG7 := Lib.hid (HG6.out.drew.below hb7)
 clear hb7
 refine hK.out _ _ ?_ (fun hHeld => ?_)
 ·exact ⟨k7.1, k7.2, cell_of HO7.out 6 _ rfl, cell_of HO7.out 7 _ rfl, cell_of HO7.out 8 _ rfl, cell_of HO7.out 9 _ rfl, cell_of HO7.out 10 _ rfl, cell_of HO7.out 11 _ rfl, cell_of HO7.out 12 _ rfl⟩
 clear hK K
 try simp only [Act.put, List.setIfInBounds_toArray, List.set_cons_zero, List.set_cons_succ]
 refine wpAnyH_ready (rs := [6]) (by kernel_rfl) (by simp) ?_
 refine AllReadyH.cons (o := { dst := some 28, op := Op.call { callee := Callee.value (Operand.func 61), args := #[Operand.tmp 22, Operand.tmp 27], argTypes := #[59, 4] }, type := 0, pos := "drawing.go:160", after := #[{ on := 0, ground := Ground.data }, { on := 5, ground := Ground.data }, { on := 5, ground := Ground.chain }], guard := none }) rfl (fun K hK => ?_) AllReadyH.nil
 go_simp
 go_at_call 61
 refine (check_any L A c b s4 _ _ HS7.out HIX.out).mono ?_
 rintro e w8 ⟨rfl, h8, g8⟩
 have k8 := And.intro (grown_cell g8 n1 k7.1) (grown_cell g8 n2 k7.2)
 have HO8 := Lib.hid ((g8.block xb (blk_lt HO7.out) (fun e => n3 (by injection e))).trans HO7.out)
 refine hK.out _ _ ?_ (fun hHeld => ?_)
 ·exact ⟨k8.1, k8.2, cell_of HO8.out 6 _ rfl, cell_of HO8.out 7 _ rfl, cell_of HO8.out 8 _ rfl, cell_of HO8.out 9 _ rfl, cell_of HO8.out 10 _ rfl, cell_of HO8.out 11 _ rfl, cell_of HO8.out 12 _ rfl⟩
 clear hK K
 try simp only [Act.put, List.setIfInBounds_toArray, List.set_cons_zero, List.set_cons_succ]
 refine wpAnyH_done (by kernel_rfl) ?_ _
 go_wp2
 go_end0
 exact ⟨rfl, h8, HO8.out, HG7.out.trans (Fr.grown g8)⟩
end Go.Proofs.YtnmmhcchpcbeeaaGreatDoor.GtW
