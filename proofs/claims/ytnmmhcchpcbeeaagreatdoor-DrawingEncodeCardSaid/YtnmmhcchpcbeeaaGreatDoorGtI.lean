/- Walks: the readers of a line and of an arc. Conditions: the scanner, its lines and the entity lie in memory, apart. -/
import Derived.Test.YtnmmhcchpcbeeaaGreatDoorMem2
import Derived.Deep.RegionHeld3
import Derived.Test.YtnmmhcchpcbeeaaGreatDoorGtH
import Derived.Test.YtnmmhcchpcbeeaaGreatDoorEqV

namespace Go.Proofs.YtnmmhcchpcbeeaaGreatDoor.Mem
open Go
section
variable {P : Program} {ops : Array Oper} {Q : Exit → Act → World → Prop} {md : Region.Mode} {k : Nat} {S1 S2 : World → Prop}
/-- What holds behind the operations that are marked. -/
def Till (k : Nat) (S1 S2 : World → Prop) (l : Array Bool) (w : World) : Prop := S1 w ∧ (l.getD k true = false → S2 w)
def wpAnyK (P : Program) (md : Region.Mode) (ops : Array Oper) (Q : Exit → Act → World → Prop) (k : Nat) (S1 S2 : World → Prop) : Nat → Array Bool → Act → World → Prop
 | 0, l, a, w => Region.ready md ops l = [] ∧ Q .normal a w
 | n + 1, l, a, w => (Region.ready md ops l = [] → Q .normal a w) ∧ ∀ i ∈ Region.ready md ops l, wpOp P ops Q i (fun a' w' => Till k S1 S2 (l.setIfInBounds i true) w' ∧ wpAnyK P md ops Q k S1 S2 n (l.setIfInBounds i true) a' w') a w
theorem wpAny_of_K : ∀ (n : Nat) (l : Array Bool) (a : Act) (w : World), wpAnyK P md ops Q k S1 S2 n l a w → wpAny P md ops Q n l a w
 | 0, _, _, _, h => h
 | n + 1, _, _, _, h => ⟨h.1, fun i hi => wpOp_mono (fun _ _ h2 => wpAny_of_K n _ _ _ h2.2) (h.2 i hi)⟩
theorem unlisted {l : Array Bool} {i : Nat} (h : l.getD i true = false) : l.getD i false = false := by
 rcases Nat.lt_or_ge i l.size with h1 | h1
 ·simpa [h1] using h
 ·simp [Array.getElem?_eq_none h1] at h
theorem off_ready {l : Array Bool} {i j : Nat} {oj : Oper} (hi : l.getD i true = false) (hj : j ∈ Region.ready md ops l) (hoj : ops[j]? = some oj) : ∀ e ∈ oj.after, Region.binds md e = true → e.on ≠ i := by
 rintro e he hb rfl
 obtain ⟨_, o, ho, h2⟩ := mem_ready.1 hj
 rw [hoj] at ho
 cases ho
 have h3 := h2 e he hb
 rw [unlisted hi] at h3
 cases h3
/-- Operation k waits for operation i. -/
def waits (md : Region.Mode) (ops : Array Oper) (k i : Nat) : Bool := match ops[k]? with
 | some o => o.after.any fun e => Region.binds md e && e.on == i
 | none => false
theorem not_yet {l : Array Bool} {i : Nat} (hw : waits md ops k i = true) (hi : l.getD i true = false) : k ∉ Region.ready md ops l := fun hk => by
 obtain ⟨_, o, ho, _⟩ := mem_ready.1 hk
 unfold waits at hw
 rw [ho] at hw
 obtain ⟨e, he, hb⟩ := Array.any_eq_true'.1 hw
 simp only [Bool.and_eq_true, beq_iff_eq] at hb
 exact off_ready hi hk ho e he hb.1 hb.2
theorem wpAnyK_first {i : Nat} {oi : Oper} {v : Value} (hi : ops[i]? = some oi) (hsel : ∀ (j : Nat) (o : Oper) cs b, ops[j]? = some o → o.op ≠ .select cs b)
  (hQ : ∀ c a w, Q (.panic c) (a.put oi.dst v) w → Q (.panic c) a w) (hw : waits md ops k i = true) (hik : i ≠ k) : ∀ (n : Nat) (l : Array Bool) (a : Act) (w : World),
   (∀ j oj, ops[j]? = some oj → j ≠ i → l.getD j true = false → (∀ e ∈ oj.after, Region.binds md e = true → e.on ≠ i) → oi.apart ops oj = true) →
   i ∈ Region.ready md ops l → YieldsIf P ops (fun u => S1 u ∧ S2 u) oi v a → l.getD k true = false → S1 w → S2 w →
   wpAnyK P md ops Q k S1 S2 n (l.setIfInBounds i true) (a.put oi.dst v) w → wpAnyK P md ops Q k S1 S2 (n + 1) l a w := by
 intro n
 induction n with
 | zero =>
  intro l a w _ hr hy _ h1 h2 H
  refine ⟨fun h => (by rw [h] at hr; cases hr), fun j hj => ?_⟩
  by_cases e : j = i
  ·subst e
   exact hy.wpOp hi ⟨h1, h2⟩ ⟨⟨h1, fun _ => h2⟩, H⟩
  ·have h3 := ready_mono hj e
   rw [H.1] at h3
   cases h3
 | succ n ih =>
  intro l a w hap hr hy hk h1 h2 H
  refine ⟨fun h => (by rw [h] at hr; cases hr), fun j hj => ?_⟩
  by_cases e : j = i
  ·subst e
   exact hy.wpOp hi ⟨h1, h2⟩ ⟨⟨h1, fun _ => h2⟩, H⟩
  ·have hil := (mem_ready.1 hr).1
   obtain ⟨hjl, oj, hoj, _⟩ := mem_ready.1 hj
   have hjk : j ≠ k := fun e => not_yet hw hil (e ▸ hj)
   have h3 := wpOp_putIf hoj (hap j oj hoj e hjl (off_ready hil hj hoj)) (fun cs b => hsel i oi cs b hi) (fun cs b => hsel j oj cs b hoj) hQ hy (H.2 j (ready_mono hj e))
   have hkj : (l.setIfInBounds j true).getD k true = false := by rw [getD_set_ne true hjk]; exact hk
   refine wpOp_mono (fun a' w' h4 => ?_) h3
   have hs2 : S2 w' := h4.2.1.2 (by rw [getD_set_ne true hjk, getD_set_ne true hik]; exact hk)
   refine ⟨⟨h4.2.1.1, fun _ => hs2⟩, ih _ a' w' (fun m om hom hmi hun hno => hap m om hom hmi ?_ hno) (ready_mono hr (Ne.symm e)) h4.1 hkj h4.2.1.1 hs2 ?_⟩
   ·by_cases e2 : j = m
    ·subst e2; exact hjl
    ·rw [getD_set_ne true e2] at hun; exact hun
   ·rw [Array.setIfInBounds_comm _ _ e]
    exact h4.2.2
theorem wpAnyK_take {i : Nat} {oi : Oper} {v : Value} {n : Nat} {l : Array Bool} {a : Act} {w : World} (hi : ops[i]? = some oi)
  (hs : Region.noSelect ops = true) (hf : Region.free md ops l i = true) (hr : (Region.ready md ops l).contains i = true) (hw : (waits md ops k i && (i != k) && !l.getD k true) = true)
  (hQ : ∀ c a w, Q (.panic c) (a.put oi.dst v) w → Q (.panic c) a w) (hy : YieldsIf P ops (fun u => S1 u ∧ S2 u) oi v a) (hS : S1 w ∧ S2 w)
  (h : wpAnyK P md ops Q k S1 S2 n (l.setIfInBounds i true) (a.put oi.dst v) w) : wpAnyK P md ops Q k S1 S2 (n + 1) l a w := by
 simp only [Bool.and_eq_true, bne_iff_ne, ne_eq, Bool.not_eq_true'] at hw
 exact wpAnyK_first hi (Region.noSelect_spec hs) hQ hw.1.1 hw.1.2 n l a w (Region.free_spec hi hf) (by simpa using hr) hy hw.2 hS.1 hS.2 h
/-- An operation that is left out by its guard, or that yields in whatever world. -/
theorem wpAnyK_done {l : Array Bool} {a : Act} {w : World} (hr : Region.ready md ops l = []) (h : Q .normal a w) : ∀ n, wpAnyK P md ops Q k S1 S2 n l a w
 | 0 => ⟨hr, h⟩
 | _ + 1 => ⟨fun _ => h, by rw [hr]; simp⟩
/-- The one operation that may come up now; behind it the conditions are shown anew. -/
theorem wpAnyK_one {i : Nat} {o : Oper} {n : Nat} {l : Array Bool} {a : Act} {w : World} (hr : Region.ready md ops l = [i]) (ho : ops[i]? = some o)
  (h : ∀ K' : Act → World → Prop, Shut (∀ a w, S1 w → (i ≠ k → S2 w) → (S1 w ∧ (i ≠ k → S2 w) → wpAnyK P md ops Q k S1 S2 n (l.setIfInBounds i true) a w) → K' a w) → if Region.wanted o (yielded ops a.tmps) = true then Oper.wp P o a w K' Q else K' (a.put o.dst undef) w) :
  wpAnyK P md ops Q k S1 S2 (n + 1) l a w := by
 refine ⟨fun h0 => (by rw [hr] at h0; cases h0), fun j hj => ?_⟩
 rw [hr] at hj
 obtain rfl := List.mem_singleton.1 hj
 refine wpOp_step ho fun K' hK => h K' fun a w h1 h2 h3 => hK a w ⟨⟨h1, fun hk => h2 fun e => ?_⟩, h3 ⟨h1, h2⟩⟩
 subst e
 have hl : j < l.size := by
  obtain ⟨hjl, _⟩ := mem_ready.1 (hr ▸ hj : j ∈ Region.ready md ops l)
  rcases Nat.lt_or_ge j l.size with h4 | h4
  ·exact h4
  ·simp [Array.getElem?_eq_none h4] at hjl
 simp [hl] at hk
theorem wp_region_tillK {id : Nat} {a : Act} {w : World} (hm : P.follows .mixedOrders = true) (hS : S1 w.drew ∧ S2 w.drew)
  (h : S1 w.drew ∧ S2 w.drew → wpAnyK P .any ops Q k S1 S2 ops.size (Array.replicate ops.size false) a w.drew) : (Code.region id ops true).wp P Q a w :=
 wp_region_any hm (wpAny_of_K _ _ _ _ (h hS))
end
end Go.Proofs.YtnmmhcchpcbeeaaGreatDoor.Mem

namespace Go.Proofs.YtnmmhcchpcbeeaaGreatDoor.GtW
open Go Go.RowKit Go.Proofs.YtnmmhcchpcbeeaaGreatDoor.Mem Go.Proofs.YtnmmhcchpcbeeaaGreatDoor.Gt Go.Proofs.YtnmmhcchpcbeeaaGreatDoor.Ge
open Go.Proofs.YtnmmhcchpcbeeaaGreatDoor.GeW (neq_vec arcOk_any)
attribute [local go_sem ↓] Go.wp_at_zero Go.wp_at_succ

/-- An entity as an object, with its slice of points. -/
def eobj (x : Ent) (v : Value) : Obj := .cells #[.int .i64 x.kind, .string ⟨x.layer.toArray⟩, .int .i64 x.a.1, .int .i64 x.a.2, .int .i64 x.b.1, .int .i64 x.b.2, .int .i64 x.f.1, .int .i64 x.f.2, .int .i64 x.t.1, .int .i64 x.t.2, .int .i64 x.c.1, .int .i64 x.c.2, .bool x.cw, v] 52 (0, 0)
/-- All but two blocks is as it was. -/
structure Fr (b xb : Nat) (w w' : World) : Prop where
 os : w'.os = w.os
 tape : w'.tape = w.tape
 output : w'.output = w.output
 size : w.heap.size ≤ w'.heap.size
 block : ∀ i, i < w.heap.size → i ≠ b → i ≠ xb → w'.heap[i]? = w.heap[i]?
theorem keep_set {w : World} {b g j k : Nat} {v u : Value} (hne : g ≠ b) (h : w.cell? ⟨g, k, none⟩ = some u) : (w.setCell ⟨b, j, none⟩ v).cell? ⟨g, k, none⟩ = some u := by
 rw [World.cell?_of_block (a := ⟨g, k, none⟩) (block_other _ _ _ _ hne)]; exact h
theorem Fr.grown {b xb : Nat} {w w' : World} (h : w.grownBy w' (some b)) : Fr b xb w w' := ⟨h.os, h.tape, h.output, h.size, fun i hi h1 _ => h.block i hi (fun e => h1 (by injection e))⟩
theorem Fr.trans {b xb : Nat} {w w1 w2 : World} (h : Fr b xb w w1) (h2 : Fr b xb w1 w2) : Fr b xb w w2 :=
 ⟨h2.os.trans h.os, h2.tape.trans h.tape, h2.output.trans h.output, Nat.le_trans h.size h2.size, fun i hi a1 a2 => (h2.block i (Nat.lt_of_lt_of_le hi h.size) a1 a2).trans (h.block i hi a1 a2)⟩
theorem Fr.set {b xb : Nat} {w w' : World} (h : Fr b xb w w') (j : Nat) (v : Value) : Fr b xb w (w'.setCell ⟨xb, j, none⟩ v) :=
 ⟨h.os, h.tape, h.output, by simpa using h.size, fun i hi a1 a2 => (block_other _ _ _ _ a2).trans (h.block i hi a1 a2)⟩
theorem Fr.drew {b xb : Nat} {w w' : World} (h : Fr b xb w w') : Fr b xb w w'.drew := ⟨h.os, h.tape, h.output, h.size, h.block⟩
theorem Fr.below {b xb : Nat} {w w' w2 : World} (h : Fr b xb w w') (hb : Below w'.heap.size w' w2) : Fr b xb w w2 :=
 ⟨hb.os.trans h.os, hb.tape.trans h.tape, hb.output.trans h.output, Nat.le_trans h.size hb.size, fun i hi a1 a2 => (hb.block i (Nat.lt_of_lt_of_le hi h.size)).trans (h.block i hi a1 a2)⟩
theorem Sc.drew {w : World} {b : Nat} {A : Option Addr} {c : Nat} {L : List (List UInt8)} {s : Gt.S} (h : Sc w b A c L s) : Sc w.drew b A c L s := h.below (below_drewN (Below.refl _ _) 1)
/-- The scanner is as it was behind a store into another block. -/
theorem Sc.set {w : World} {b xb : Nat} {A : Option Addr} {c : Nat} {L : List (List UInt8)} {s : Gt.S} (h : Sc w b A c L s) (h1 : xb ≠ b) (h2 : Apart A xb) (h7 : 7 ≤ xb) (j : Nat) (v : Value) : Sc (w.setCell ⟨xb, j, none⟩ v) b A c L s :=
 have hg := grown_set (grown_refl w (some xb)) j v
 ⟨(block_other _ _ _ _ (Ne.symm h1)).trans h.obj, row_grown h.row h2 hg, h.apart, h.few, h.short, h.glob.grown hg h7, h.high⟩
theorem nx_i {L : List (List UInt8)} {good : List UInt8 → Bool} {s : Gt.S} (h : (nx L good s).2.bad = false) : 1 ≤ (nx L good s).2.i ∧ (nx L good s).2.i ≤ L.length := by
 rcases nx_ways L good s with ⟨h1, e⟩ | ⟨_, _, e⟩ | ⟨_, _, _, e⟩ | ⟨_, hi, _, e⟩
 ·rw [e] at h; simp only at h; rw [h1] at h; cases h
 ·rw [e] at h; cases h
 ·rw [e] at h; cases h
 ·rw [e]; exact ⟨by simp, hi⟩
theorem nb_i {L : List (List UInt8)} {c lo hi : Int} {s : Gt.S} (h : (nb L c lo hi s).2.bad = false) : 1 ≤ (nb L c lo hi s).2.i ∧ (nb L c lo hi s).2.i ≤ L.length := nx_i h
theorem pt_i {L : List (List UInt8)} {c : Int} {s : Gt.S} (h : (pt L c s).2.bad = false) : 1 ≤ (pt L c s).2.i ∧ (pt L c s).2.i ≤ L.length := nb_i h
set_option maxRecDepth 100000 in
set_option maxHeartbeats 4000000 in
theorem read1_any (L : List (List UInt8)) (A : Option Addr) (c b : Nat) (s : Gt.S) (l : List UInt8) (bs bx xb : Nat) (w : World) (h : Sc w b A c L s) (h1 : w.cell? ⟨bs, 0, none⟩ = some (.pointer (some ⟨b, 0, none⟩))) (h2 : w.cell? ⟨bx, 0, none⟩ = some (.pointer (some ⟨xb, 0, none⟩))) (h3 : w.heap[xb]? = some (eobj (ent0 l) (.slice none 0 0)))
  (n1 : bs ≠ b) (n2 : bx ≠ b) (n3 : xb ≠ b) (n4 : bs ≠ xb) (n5 : bx ≠ xb) (hap : Apart A xb) (h7 : 7 ≤ xb) :
  Calls Tryz.prog 59 #[.pointer (some ⟨bs, 0, none⟩), .pointer (some ⟨bx, 0, none⟩)] w fun e w' => e = .returned (.tuple #[]) ∧ Sc w' b A c L (rdLine L l s).2 ∧ w'.heap[xb]? = some (eobj (rdLine L l s).1 (.slice none 0 0)) ∧ Fr b xb w w' := by
 have HS0 := Lib.hid h.drew
 have k0 := And.intro h1 h2
 have HO0 : Hid (w.drew.heap[xb]? = some (eobj (ent0 l) (.slice none 0 0))) := Lib.hid h3
 have HG0 : Hid (Fr b xb w w.drew) := Lib.hid (Fr.grown (grown_drewN (grown_refl w (some b)) 1))
 clear h h3
 unfold rdLine
 rcases hr1 : pt L 10 s with ⟨⟨ax, ay⟩, s1⟩
 have HP1 : Hid (∀ W, Sc W b A c L s → Calls Tryz.prog 60 #[.pointer (some ⟨b, 0, none⟩), .int .i64 10] W (Did W b A c L (.agg #[.int .i64 ax, .int .i64 ay]) s1)) := Lib.hid (fun W hW => by
  have := point_any L A c b s 10 W hW (by omega)
  rw [hr1] at this
  exact this)
 rcases hr2 : pt L 11 s1 with ⟨⟨px, py⟩, s2⟩
 have HP2 : Hid (∀ W, Sc W b A c L s1 → Calls Tryz.prog 60 #[.pointer (some ⟨b, 0, none⟩), .int .i64 11] W (Did W b A c L (.agg #[.int .i64 px, .int .i64 py]) s2)) := Lib.hid (fun W hW => by
  have := point_any L A c b s1 11 W hW (by omega)
  rw [hr2] at this
  exact this)
 have HIX : Hid (s2.bad = false → 1 ≤ s2.i ∧ s2.i ≤ L.length) := Lib.hid (by
  have := @pt_i L 11 s1
  rw [hr2] at this
  exact this)
 simp only
 clear hr1 hr2
 have HNQ := neq_vec ax ay px py
 have HDQ : Hid ((!decide (ax = px) || !decide (ay = py)) = !decide ((ax, ay) = (px, py))) := Lib.hid (by by_cases e1 : ax = px <;> by_cases e2 : ay = py <;> simp [e1, e2])
 go_enter Tryz.func59, Tryz.ntmps59
 go_wp2_with fail
 refine wp_region_held_drew (S := fun w' => w'.cell? ⟨bs, 0, none⟩ = some (.pointer (some ⟨b, 0, none⟩)) ∧ w'.cell? ⟨bx, 0, none⟩ = some (.pointer (some ⟨xb, 0, none⟩))) (by kernel_rfl) ?_ (fun hHeld => ?_)
 ·exact k0
 refine wpAnyH_take (i := 0) (oi := { dst := some 2, op := Op.load 65 (Operand.tmp 1), type := 65, pos := "drawing.go:154", after := #[], guard := none }) (v := ?_) rfl (by kernel_rfl) (by kernel_rfl) (by kernel_rfl) (fun _ _ _ h => h) (Or.inl ⟨by rfl, ?_⟩) (by assumption) ?_
 rotate_left
 ·intro w' hSw
  (try dsimp only at hSw)
  first | (go_simp; done) | (go_simp; with_reducible rfl)
 try simp only [Act.put, List.setIfInBounds_toArray, List.set_cons_zero, List.set_cons_succ]
 refine wpAnyH_take (i := 1) (oi := { dst := some 3, op := Op.load 65 (Operand.tmp 1), type := 65, pos := "drawing.go:154", after := #[], guard := none }) (v := ?_) rfl (by kernel_rfl) (by kernel_rfl) (by kernel_rfl) (fun _ _ _ h => h) (Or.inl ⟨by rfl, ?_⟩) (by assumption) ?_
 rotate_left
 ·intro w' hSw
  (try dsimp only at hSw)
  first | (go_simp; done) | (go_simp; with_reducible rfl)
 try simp only [Act.put, List.setIfInBounds_toArray, List.set_cons_zero, List.set_cons_succ]
 refine wpAnyH_take (i := 2) (oi := { dst := some 4, op := Op.load 65 (Operand.tmp 1), type := 65, pos := "drawing.go:154", after := #[], guard := none }) (v := ?_) rfl (by kernel_rfl) (by kernel_rfl) (by kernel_rfl) (fun _ _ _ h => h) (Or.inl ⟨by rfl, ?_⟩) (by assumption) ?_
 rotate_left
 ·intro w' hSw
  (try dsimp only at hSw)
  first | (go_simp; done) | (go_simp; with_reducible rfl)
 try simp only [Act.put, List.setIfInBounds_toArray, List.set_cons_zero, List.set_cons_succ]
 refine wpAnyH_take (i := 3) (oi := { dst := some 5, op := Op.load 59 (Operand.tmp 0), type := 59, pos := "drawing.go:154", after := #[], guard := none }) (v := ?_) rfl (by kernel_rfl) (by kernel_rfl) (by kernel_rfl) (fun _ _ _ h => h) (Or.inl ⟨by rfl, ?_⟩) (by assumption) ?_
 rotate_left
 ·intro w' hSw
  (try dsimp only at hSw)
  first | (go_simp; done) | (go_simp; with_reducible rfl)
 try simp only [Act.put, List.setIfInBounds_toArray, List.set_cons_zero, List.set_cons_succ]
 refine wpAnyH_take (i := 5) (oi := { dst := some 7, op := Op.load 59 (Operand.tmp 0), type := 59, pos := "drawing.go:154", after := #[], guard := none }) (v := ?_) rfl (by kernel_rfl) (by kernel_rfl) (by kernel_rfl) (fun _ _ _ h => h) (Or.inl ⟨by rfl, ?_⟩) (by assumption) ?_
 rotate_left
 ·intro w' hSw
  (try dsimp only at hSw)
  first | (go_simp; done) | (go_simp; with_reducible rfl)
 try simp only [Act.put, List.setIfInBounds_toArray, List.set_cons_zero, List.set_cons_succ]
 refine wpAnyH_ready (rs := [4]) (by kernel_rfl) (by simp) ?_
 refine AllReadyH.cons (o := { dst := some 6, op := Op.call { callee := Callee.value (Operand.func 60), args := #[Operand.tmp 5, Operand.const (Value.int IntKind.i64 10)], argTypes := #[59, 3] }, type := 47, pos := "drawing.go:154", after := #[{ on := 3, ground := Ground.data }], guard := none }) rfl (fun K hK => ?_) AllReadyH.nil
 go_simp
 go_at_call 60
 refine (HP1.out _ HS0.out).mono ?_
 rintro e w1 ⟨rfl, h1, g1⟩
 have k1 := And.intro (grown_cell g1 n1 k0.1) (grown_cell g1 n2 k0.2)
 have HO1 := Lib.hid ((g1.block xb (blk_lt HO0.out) (fun e => n3 (by injection e))).trans HO0.out)
 have HS1 := Lib.hid h1
 have HG1 := Lib.hid (HG0.out.trans (Fr.grown g1))
 clear h1 g1
 refine hK.out _ _ ?_ (fun hHeld => ?_)
 ·exact k1
 clear hK K
 try simp only [Act.put, List.setIfInBounds_toArray, List.set_cons_zero, List.set_cons_succ]
 refine wpAnyH_ready (rs := [6]) (by kernel_rfl) (by simp) ?_
 refine AllReadyH.cons (o := { dst := some 8, op := Op.call { callee := Callee.value (Operand.func 60), args := #[Operand.tmp 7, Operand.const (Value.int IntKind.i64 11)], argTypes := #[59, 3] }, type := 47, pos := "drawing.go:154", after := #[{ on := 5, ground := Ground.data }, { on := 4, ground := Ground.chain }], guard := none }) rfl (fun K hK => ?_) AllReadyH.nil
 go_simp
 go_at_call 60
 refine (HP2.out _ HS1.out).mono ?_
 rintro e w2 ⟨rfl, h2, g2⟩
 have k2 := And.intro (grown_cell g2 n1 k1.1) (grown_cell g2 n2 k1.2)
 have HO2 := Lib.hid ((g2.block xb (blk_lt HO1.out) (fun e => n3 (by injection e))).trans HO1.out)
 have HS2 := Lib.hid h2
 have HG2 := Lib.hid (HG1.out.trans (Fr.grown g2))
 clear h2 g2
 have z0 := cell_of HO2.out 0 _ rfl
 have q0 := free_of HO2.out 0
 have z2 := cell_of HO2.out 2 _ rfl
 have q2 := free_of HO2.out 2
 have z3 := cell_of HO2.out 3 _ rfl
 have q3 := free_of HO2.out 3
 have z4 := cell_of HO2.out 4 _ rfl
 have q4 := free_of HO2.out 4
 have z5 := cell_of HO2.out 5 _ rfl
 have q5 := free_of HO2.out 5
 refine hK.out _ _ ?_ (fun hHeld => ?_)
 ·exact k2
 clear hK K
 try simp only [Act.put, List.setIfInBounds_toArray, List.set_cons_zero, List.set_cons_succ]
 refine wpAnyH_take (i := 7) (oi := { dst := some 9, op := Op.nilCheck (Operand.tmp 2), type := 0, pos := "drawing.go:154", after := #[{ on := 0, ground := Ground.data }, { on := 0, ground := Ground.phase }, { on := 1, ground := Ground.textOnly Departure.inlinedCapture }, { on := 2, ground := Ground.textOnly Departure.inlinedCapture }, { on := 3, ground := Ground.textOnly Departure.inlinedCapture }, { on := 4, ground := Ground.phase }, { on := 5, ground := Ground.textOnly Departure.inlinedCapture }, { on := 6, ground := Ground.phase }], guard := none }) (v := ?_) rfl (by kernel_rfl) (by kernel_rfl) (by kernel_rfl) (fun _ _ _ h => h) (Or.inl ⟨by rfl, ?_⟩) (by assumption) ?_
 rotate_left
 ·intro w' hSw
  (try dsimp only at hSw)
  first | (go_simp; done) | (go_simp; with_reducible rfl)
 try simp only [Act.put, List.setIfInBounds_toArray, List.set_cons_zero, List.set_cons_succ]
 refine wpAnyH_take (i := 8) (oi := { dst := some 10, op := Op.fieldAddr 52 (Operand.tmp 9) 0, type := 0, pos := "drawing.go:154", after := #[{ on := 7, ground := Ground.data }, { on := 0, ground := Ground.phase }, { on := 1, ground := Ground.textOnly Departure.inlinedCapture }, { on := 2, ground := Ground.textOnly Departure.inlinedCapture }, { on := 3, ground := Ground.textOnly Departure.inlinedCapture }, { on := 4, ground := Ground.phase }, { on := 5, ground := Ground.textOnly Departure.inlinedCapture }, { on := 6, ground := Ground.phase }], guard := none }) (v := ?_) rfl (by kernel_rfl) (by kernel_rfl) (by kernel_rfl) (fun _ _ _ h => h) (Or.inl ⟨by rfl, ?_⟩) (by assumption) ?_
 rotate_left
 ·intro w' hSw
  (try dsimp only at hSw)
  first | (go_simp; done) | (go_simp; with_reducible rfl)
 try simp only [Act.put, List.setIfInBounds_toArray, List.set_cons_zero, List.set_cons_succ]
 refine wpAnyH_ready (rs := [9]) (by kernel_rfl) (by simp) ?_
 refine AllReadyH.cons (o := { dst := none, op := Op.store 3 (Operand.tmp 10) (Operand.const (Value.int IntKind.i64 1)), type := 0, pos := "drawing.go:154", after := #[{ on := 8, ground := Ground.data }, { on := 6, ground := Ground.chain }, { on := 0, ground := Ground.phase }, { on := 1, ground := Ground.textOnly Departure.inlinedCapture }, { on := 2, ground := Ground.textOnly Departure.inlinedCapture }, { on := 3, ground := Ground.textOnly Departure.inlinedCapture }, { on := 4, ground := Ground.phase }, { on := 5, ground := Ground.textOnly Departure.inlinedCapture }, { on := 6, ground := Ground.phase }], guard := none }) rfl (fun K hK => ?_) AllReadyH.nil
 go_simp
 refine hK.out _ _ ?_ (fun hHeld => ?_)
 ·exact ⟨keep_set n4 (k2.1), keep_set n5 (k2.2)⟩
 clear hK K
 try simp only [Act.put, List.setIfInBounds_toArray, List.set_cons_zero, List.set_cons_succ]
 refine wpAnyH_take (i := 10) (oi := { dst := some 11, op := Op.nilCheck (Operand.tmp 3), type := 0, pos := "drawing.go:154", after := #[{ on := 1, ground := Ground.data }, { on := 0, ground := Ground.phase }, { on := 1, ground := Ground.phase }, { on := 2, ground := Ground.textOnly Departure.inlinedCapture }, { on := 3, ground := Ground.phase }, { on := 4, ground := Ground.phase }, { on := 5, ground := Ground.textOnly Departure.inlinedCapture }, { on := 6, ground := Ground.phase }, { on := 7, ground := Ground.phase }, { on := 8, ground := Ground.phase }, { on := 9, ground := Ground.phase }], guard := none }) (v := ?_) rfl (by kernel_rfl) (by kernel_rfl) (by kernel_rfl) (fun _ _ _ h => h) (Or.inl ⟨by rfl, ?_⟩) (by assumption) ?_
 rotate_left
 ·intro w' hSw
  (try dsimp only at hSw)
  first | (go_simp; done) | (go_simp; with_reducible rfl)
 try simp only [Act.put, List.setIfInBounds_toArray, List.set_cons_zero, List.set_cons_succ]
 refine wpAnyH_take (i := 11) (oi := { dst := some 12, op := Op.fieldAddr 52 (Operand.tmp 11) 2, type := 0, pos := "drawing.go:154", after := #[{ on := 10, ground := Ground.data }, { on := 0, ground := Ground.phase }, { on := 1, ground := Ground.phase }, { on := 2, ground := Ground.textOnly Departure.inlinedCapture }, { on := 3, ground := Ground.phase }, { on := 4, ground := Ground.phase }, { on := 5, ground := Ground.textOnly Departure.inlinedCapture }, { on := 6, ground := Ground.phase }, { on := 7, ground := Ground.phase }, { on := 8, ground := Ground.phase }, { on := 9, ground := Ground.phase }], guard := none }) (v := ?_) rfl (by kernel_rfl) (by kernel_rfl) (by kernel_rfl) (fun _ _ _ h => h) (Or.inl ⟨by rfl, ?_⟩) (by assumption) ?_
 rotate_left
 ·intro w' hSw
  (try dsimp only at hSw)
  first | (go_simp; done) | (go_simp; with_reducible rfl)
 try simp only [Act.put, List.setIfInBounds_toArray, List.set_cons_zero, List.set_cons_succ]
 refine wpAnyH_ready (rs := [12]) (by kernel_rfl) (by simp) ?_
 refine AllReadyH.cons (o := { dst := none, op := Op.store 47 (Operand.tmp 12) (Operand.tmp 6), type := 0, pos := "drawing.go:154", after := #[{ on := 11, ground := Ground.data }, { on := 4, ground := Ground.data }, { on := 9, ground := Ground.chain }, { on := 0, ground := Ground.phase }, { on := 1, ground := Ground.phase }, { on := 2, ground := Ground.textOnly Departure.inlinedCapture }, { on := 3, ground := Ground.phase }, { on := 4, ground := Ground.phase }, { on := 5, ground := Ground.textOnly Departure.inlinedCapture }, { on := 6, ground := Ground.phase }, { on := 7, ground := Ground.phase }, { on := 8, ground := Ground.phase }, { on := 9, ground := Ground.phase }], guard := none }) rfl (fun K hK => ?_) AllReadyH.nil
 go_simp
 refine hK.out _ _ ?_ (fun hHeld => ?_)
 ·exact ⟨keep_set n4 (keep_set n4 (keep_set n4 (k2.1))), keep_set n5 (keep_set n5 (keep_set n5 (k2.2)))⟩
 clear hK K
 try simp only [Act.put, List.setIfInBounds_toArray, List.set_cons_zero, List.set_cons_succ]
 refine wpAnyH_take (i := 13) (oi := { dst := some 13, op := Op.nilCheck (Operand.tmp 4), type := 0, pos := "drawing.go:154", after := #[{ on := 2, ground := Ground.data }, { on := 0, ground := Ground.phase }, { on := 1, ground := Ground.phase }, { on := 2, ground := Ground.phase }, { on := 3, ground := Ground.phase }, { on := 4, ground := Ground.phase }, { on := 5, ground := Ground.phase }, { on := 6, ground := Ground.phase }, { on := 7, ground := Ground.phase }, { on := 8, ground := Ground.phase }, { on := 9, ground := Ground.phase }, { on := 10, ground := Ground.phase }, { on := 11, ground := Ground.phase }, { on := 12, ground := Ground.phase }], guard := none }) (v := ?_) rfl (by kernel_rfl) (by kernel_rfl) (by kernel_rfl) (fun _ _ _ h => h) (Or.inl ⟨by rfl, ?_⟩) (by assumption) ?_
 rotate_left
 ·intro w' hSw
  (try dsimp only at hSw)
  first | (go_simp; done) | (go_simp; with_reducible rfl)
 try simp only [Act.put, List.setIfInBounds_toArray, List.set_cons_zero, List.set_cons_succ]
 refine wpAnyH_take (i := 14) (oi := { dst := some 14, op := Op.fieldAddr 52 (Operand.tmp 13) 3, type := 0, pos := "drawing.go:154", after := #[{ on := 13, ground := Ground.data }, { on := 0, ground := Ground.phase }, { on := 1, ground := Ground.phase }, { on := 2, ground := Ground.phase }, { on := 3, ground := Ground.phase }, { on := 4, ground := Ground.phase }, { on := 5, ground := Ground.phase }, { on := 6, ground := Ground.phase }, { on := 7, ground := Ground.phase }, { on := 8, ground := Ground.phase }, { on := 9, ground := Ground.phase }, { on := 10, ground := Ground.phase }, { on := 11, ground := Ground.phase }, { on := 12, ground := Ground.phase }], guard := none }) (v := ?_) rfl (by kernel_rfl) (by kernel_rfl) (by kernel_rfl) (fun _ _ _ h => h) (Or.inl ⟨by rfl, ?_⟩) (by assumption) ?_
 rotate_left
 ·intro w' hSw
  (try dsimp only at hSw)
  first | (go_simp; done) | (go_simp; with_reducible rfl)
 try simp only [Act.put, List.setIfInBounds_toArray, List.set_cons_zero, List.set_cons_succ]
 refine wpAnyH_ready (rs := [15]) (by kernel_rfl) (by simp) ?_
 refine AllReadyH.cons (o := { dst := none, op := Op.store 47 (Operand.tmp 14) (Operand.tmp 8), type := 0, pos := "drawing.go:154", after := #[{ on := 14, ground := Ground.data }, { on := 6, ground := Ground.data }, { on := 12, ground := Ground.chain }, { on := 0, ground := Ground.phase }, { on := 1, ground := Ground.phase }, { on := 2, ground := Ground.phase }, { on := 3, ground := Ground.phase }, { on := 4, ground := Ground.phase }, { on := 5, ground := Ground.phase }, { on := 6, ground := Ground.phase }, { on := 7, ground := Ground.phase }, { on := 8, ground := Ground.phase }, { on := 9, ground := Ground.phase }, { on := 10, ground := Ground.phase }, { on := 11, ground := Ground.phase }, { on := 12, ground := Ground.phase }], guard := none }) rfl (fun K hK => ?_) AllReadyH.nil
 go_simp
 refine hK.out _ _ ?_ (fun hHeld => ?_)
 ·exact ⟨keep_set n4 (keep_set n4 (keep_set n4 (keep_set n4 (keep_set n4 (k2.1))))), keep_set n5 (keep_set n5 (keep_set n5 (keep_set n5 (keep_set n5 (k2.2)))))⟩
 clear hK K
 try simp only [Act.put, List.setIfInBounds_toArray, List.set_cons_zero, List.set_cons_succ]
 refine wpAnyH_done (by kernel_rfl) ?_ _
 have HO3 := Lib.hid (block_set (block_set (block_set (block_set (block_set HO2.out 0 (.int .i64 1)) 2 (.int .i64 ax)) 3 (.int .i64 ay)) 4 (.int .i64 px)) 5 (.int .i64 py))
 have HS3 := Lib.hid (((((HS2.out.set n3 hap h7 0 (.int .i64 1)).set n3 hap h7 2 (.int .i64 ax)).set n3 hap h7 3 (.int .i64 ay)).set n3 hap h7 4 (.int .i64 px)).set n3 hap h7 5 (.int .i64 py))
 have HG3 := Lib.hid (((((HG2.out.set 0 (.int .i64 1)).set 2 (.int .i64 ax)).set 3 (.int .i64 ay)).set 4 (.int .i64 px)).set 5 (.int .i64 py))
 have k3 : _ ∧ _ := ⟨keep_set (v := .int .i64 py) (j := 5) n4 (keep_set (v := .int .i64 px) (j := 4) n4 (keep_set (v := .int .i64 ay) (j := 3) n4 (keep_set (v := .int .i64 ax) (j := 2) n4 (keep_set (v := .int .i64 1) (j := 0) n4 k2.1)))), keep_set (v := .int .i64 py) (j := 5) n5 (keep_set (v := .int .i64 px) (j := 4) n5 (keep_set (v := .int .i64 ay) (j := 3) n5 (keep_set (v := .int .i64 ax) (j := 2) n5 (keep_set (v := .int .i64 1) (j := 0) n5 k2.2))))⟩
 clear z0 z2 z3 z4 z5 q0 q2 q3 q4 q5 k0 k1 k2
 go_upto_region 1 with fail
 generalize (((((w2.setCell ⟨xb, 0, none⟩ (.int .i64 1)).setCell ⟨xb, 2, none⟩ (.int .i64 ax)).setCell ⟨xb, 3, none⟩ (.int .i64 ay)).setCell ⟨xb, 4, none⟩ (.int .i64 px)).setCell ⟨xb, 5, none⟩ (.int .i64 py)) = W3 at *
 have c2 := cell_of HO3.out 2 _ rfl
 have c3 := cell_of HO3.out 3 _ rfl
 have c4 := cell_of HO3.out 4 _ rfl
 have c5 := cell_of HO3.out 5 _ rfl
 refine wp_region_held_drew (S := fun w' => w'.cell? ⟨bs, 0, none⟩ = some (.pointer (some ⟨b, 0, none⟩)) ∧ w'.cell? ⟨bx, 0, none⟩ = some (.pointer (some ⟨xb, 0, none⟩)) ∧ w'.cell? ⟨xb, 2, none⟩ = some (.int .i64 ax) ∧ w'.cell? ⟨xb, 3, none⟩ = some (.int .i64 ay) ∧ w'.cell? ⟨xb, 4, none⟩ = some (.int .i64 px) ∧ w'.cell? ⟨xb, 5, none⟩ = some (.int .i64 py)) (by kernel_rfl) ?_ (fun hHeld => ?_)
 ·exact ⟨k3.1, k3.2, c2, c3, c4, c5⟩
 refine wpAnyH_take (i := 0) (oi := { dst := some 15, op := Op.load 59 (Operand.tmp 0), type := 59, pos := "drawing.go:155", after := #[], guard := none }) (v := ?_) rfl (by kernel_rfl) (by kernel_rfl) (by kernel_rfl) (fun _ _ _ h => h) (Or.inl ⟨by rfl, ?_⟩) (by assumption) ?_
 rotate_left
 ·intro w' hSw
  (try dsimp only at hSw)
  first | (go_simp; done) | (go_simp; with_reducible rfl)
 try simp only [Act.put, List.setIfInBounds_toArray, List.set_cons_zero, List.set_cons_succ]
 refine wpAnyH_take (i := 1) (oi := { dst := some 16, op := Op.load 65 (Operand.tmp 1), type := 65, pos := "drawing.go:155", after := #[], guard := none }) (v := ?_) rfl (by kernel_rfl) (by kernel_rfl) (by kernel_rfl) (fun _ _ _ h => h) (Or.inl ⟨by rfl, ?_⟩) (by assumption) ?_
 rotate_left
 ·intro w' hSw
  (try dsimp only at hSw)
  first | (go_simp; done) | (go_simp; with_reducible rfl)
 try simp only [Act.put, List.setIfInBounds_toArray, List.set_cons_zero, List.set_cons_succ]
 refine wpAnyH_take (i := 2) (oi := { dst := some 17, op := Op.nilCheck (Operand.tmp 16), type := 0, pos := "drawing.go:155", after := #[{ on := 1, ground := Ground.data }], guard := none }) (v := ?_) rfl (by kernel_rfl) (by kernel_rfl) (by kernel_rfl) (fun _ _ _ h => h) (Or.inl ⟨by rfl, ?_⟩) (by assumption) ?_
 rotate_left
 ·intro w' hSw
  (try dsimp only at hSw)
  first | (go_simp; done) | (go_simp; with_reducible rfl)
 try simp only [Act.put, List.setIfInBounds_toArray, List.set_cons_zero, List.set_cons_succ]
 refine wpAnyH_take (i := 3) (oi := { dst := some 18, op := Op.fieldAddr 52 (Operand.tmp 17) 2, type := 0, pos := "drawing.go:155", after := #[{ on := 2, ground := Ground.data }], guard := none }) (v := ?_) rfl (by kernel_rfl) (by kernel_rfl) (by kernel_rfl) (fun _ _ _ h => h) (Or.inl ⟨by rfl, ?_⟩) (by assumption) ?_
 rotate_left
 ·intro w' hSw
  (try dsimp only at hSw)
  first | (go_simp; done) | (go_simp; with_reducible rfl)
 try simp only [Act.put, List.setIfInBounds_toArray, List.set_cons_zero, List.set_cons_succ]
 refine wpAnyH_take (i := 4) (oi := { dst := some 19, op := Op.load 47 (Operand.tmp 18), type := 47, pos := "drawing.go:155", after := #[{ on := 3, ground := Ground.data }], guard := none }) (v := ?_) rfl (by kernel_rfl) (by kernel_rfl) (by kernel_rfl) (fun _ _ _ h => h) (Or.inl ⟨by rfl, ?_⟩) (by assumption) ?_
 rotate_left
 ·intro w' hSw
  (try dsimp only at hSw)
  first | (go_simp; done) | (go_simp; with_reducible rfl)
 try simp only [Act.put, List.setIfInBounds_toArray, List.set_cons_zero, List.set_cons_succ]
 refine wpAnyH_take (i := 5) (oi := { dst := some 20, op := Op.load 65 (Operand.tmp 1), type := 65, pos := "drawing.go:155", after := #[], guard := none }) (v := ?_) rfl (by kernel_rfl) (by kernel_rfl) (by kernel_rfl) (fun _ _ _ h => h) (Or.inl ⟨by rfl, ?_⟩) (by assumption) ?_
 rotate_left
 ·intro w' hSw
  (try dsimp only at hSw)
  first | (go_simp; done) | (go_simp; with_reducible rfl)
 try simp only [Act.put, List.setIfInBounds_toArray, List.set_cons_zero, List.set_cons_succ]
 refine wpAnyH_take (i := 6) (oi := { dst := some 21, op := Op.nilCheck (Operand.tmp 20), type := 0, pos := "drawing.go:155", after := #[{ on := 5, ground := Ground.data }], guard := none }) (v := ?_) rfl (by kernel_rfl) (by kernel_rfl) (by kernel_rfl) (fun _ _ _ h => h) (Or.inl ⟨by rfl, ?_⟩) (by assumption) ?_
 rotate_left
 ·intro w' hSw
  (try dsimp only at hSw)
  first | (go_simp; done) | (go_simp; with_reducible rfl)
 try simp only [Act.put, List.setIfInBounds_toArray, List.set_cons_zero, List.set_cons_succ]
 refine wpAnyH_take (i := 7) (oi := { dst := some 22, op := Op.fieldAddr 52 (Operand.tmp 21) 3, type := 0, pos := "drawing.go:155", after := #[{ on := 6, ground := Ground.data }], guard := none }) (v := ?_) rfl (by kernel_rfl) (by kernel_rfl) (by kernel_rfl) (fun _ _ _ h => h) (Or.inl ⟨by rfl, ?_⟩) (by assumption) ?_
 rotate_left
 ·intro w' hSw
  (try dsimp only at hSw)
  first | (go_simp; done) | (go_simp; with_reducible rfl)
 try simp only [Act.put, List.setIfInBounds_toArray, List.set_cons_zero, List.set_cons_succ]
 refine wpAnyH_take (i := 8) (oi := { dst := some 23, op := Op.load 47 (Operand.tmp 22), type := 47, pos := "drawing.go:155", after := #[{ on := 7, ground := Ground.data }], guard := none }) (v := ?_) rfl (by kernel_rfl) (by kernel_rfl) (by kernel_rfl) (fun _ _ _ h => h) (Or.inl ⟨by rfl, ?_⟩) (by assumption) ?_
 rotate_left
 ·intro w' hSw
  (try dsimp only at hSw)
  first | (go_simp; done) | (go_simp; with_reducible rfl)
 try simp only [Act.put, List.setIfInBounds_toArray, List.set_cons_zero, List.set_cons_succ]
 refine wpAnyH_take (i := 9) (oi := { dst := some 24, op := Op.binOp BinOp.neq 47 (Operand.tmp 19) (Operand.tmp 23) 47, type := 4, pos := "drawing.go:155", after := #[{ on := 4, ground := Ground.data }, { on := 8, ground := Ground.data }], guard := none }) (v := ?_) rfl (by kernel_rfl) (by kernel_rfl) (by kernel_rfl) (fun _ _ _ h => h) (Or.inl ⟨by rfl, ?_⟩) (by assumption) ?_
 rotate_left
 ·intro w' hSw
  (try dsimp only at hSw)
  first | (go_simp; done) | (go_simp; with_reducible rfl)
 try simp only [Act.put, List.setIfInBounds_toArray, List.set_cons_zero, List.set_cons_succ]
 refine wpAnyH_ready (rs := [10]) (by kernel_rfl) (by simp) ?_
 refine AllReadyH.cons (o := { dst := some 25, op := Op.call { callee := Callee.value (Operand.func 61), args := #[Operand.tmp 15, Operand.tmp 24], argTypes := #[59, 4] }, type := 0, pos := "drawing.go:155", after := #[{ on := 0, ground := Ground.data }, { on := 9, ground := Ground.data }], guard := none }) rfl (fun K hK => ?_) AllReadyH.nil
 go_simp
 go_at_call 61
 refine (check_any L A c b s2 _ _ HS3.out.drew HIX.out).mono ?_
 rintro e w4 ⟨rfl, h4, g4⟩
 have k4 := And.intro (grown_cell g4 n1 k3.1) (grown_cell g4 n2 k3.2)
 have HO4 := Lib.hid ((g4.block xb (blk_lt (w := W3.drew) HO3.out) (fun e => n3 (by injection e))).trans HO3.out)
 refine hK.out _ _ ?_ (fun hHeld => ?_)
 ·exact ⟨k4.1, k4.2, cell_of HO4.out 2 _ rfl, cell_of HO4.out 3 _ rfl, cell_of HO4.out 4 _ rfl, cell_of HO4.out 5 _ rfl⟩
 clear hK K
 try simp only [Act.put, List.setIfInBounds_toArray, List.set_cons_zero, List.set_cons_succ]
 refine wpAnyH_done (by kernel_rfl) ?_ _
 go_wp2
 go_end0
 rw [HDQ.out] at h4
 exact ⟨rfl, h4, HO4.out, HG3.out.drew.trans (Fr.grown g4)⟩
end Go.Proofs.YtnmmhcchpcbeeaaGreatDoor.GtW
