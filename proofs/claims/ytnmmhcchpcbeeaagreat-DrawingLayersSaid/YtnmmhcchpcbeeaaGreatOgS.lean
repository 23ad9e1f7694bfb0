/- Walks: the order of shapes by the first points of their outer rings; a row of shapes that the call owns, sorted. Conditions: the rings are not empty, and lie in other blocks than the row. -/
import Derived.Test.YtnmmhcchpcbeeaaGreatSh3
import Derived.Test.YtnmmhcchpcbeeaaGreatApR
import Derived.Test.YtnmmhcchpcbeeaaGreatPlC
import Derived.Test.YtnmmhcchpcbeeaaGreatShelfS
import Derived.Sort.Grow
import Derived.Test.YtnmmhcchpcbeeaaGreatMem
import Derived.Deep.RegionHeld3
import Derived.Deep.RegionLaw
import Derived.Test.YtnmmhcchpcbeeaaGreatShelfT

namespace Go.Proofs.YtnmmhcchpcbeeaaGreat.GeW
open Go Go.RowKit Go.Proofs.YtnmmhcchpcbeeaaGreat.Mem Go.Proofs.YtnmmhcchpcbeeaaGreat.Ge
attribute [local go_sem ↓] Go.wp_at_zero Go.wp_at_succ
theorem cell_of {w : World} {b : Nat} {cs : Array Value} {T : TypeId} (h : w.heap[b]? = some (.cells cs T (0, 0))) (j : Nat) (v : Value) (hj : cs[j]? = some v) : w.cell? ⟨b, j, none⟩ = some v := by
  simp [World.cell?, h, hj]
theorem free_of {w : World} {b : Nat} {cs : Array Value} {T : TypeId} (h : w.heap[b]? = some (.cells cs T (0, 0))) (j : Nat) : w.frozen? ⟨b, j, none⟩ = false := by
  simp [World.frozen?, h]
theorem blk_lt {w : World} {b : Nat} {o : Obj} (h : w.heap[b]? = some o) : b < w.heap.size := by
  rcases Nat.lt_or_ge b w.heap.size with h2 | h2
  · exact h2
  · rw [Array.getElem?_eq_none h2] at h; cases h
theorem grown_set {w w' : World} {b : Nat} (h : w.grownBy w' (some b)) (j : Nat) (v : Value) : w.grownBy (w'.setCell ⟨b, j, none⟩ v) (some b) :=
  ⟨h.os, h.tape, h.output, by simpa using h.size, fun i hi hne => by rw [block_other _ _ _ _ (fun e => hne (by rw [e]))]; exact h.block i hi hne⟩
theorem grown_refl (w : World) (row : Option Nat) : w.grownBy w row := ⟨rfl, rfl, rfl, Nat.le_refl _, fun _ _ _ => rfl⟩
theorem p_below {w w' : World} {b : Nat} {o : Obj} (h : w.heap[b]? = some o) (hb : Below w.heap.size w w') : w'.heap[b]? = some o := (hb.block b (blk_lt h)).trans h
theorem heap_new (w : World) (o : Obj) : (w.alloc o).heap[w.heap.size]? = some o := Array.getElem?_push_size
theorem RowW.at {w : World} {base : Nat} {T : TypeId} {b : Nat} {cs : Array Value} {fz : Nat × Nat} (h : w.heap[b]? = some (.cells cs T fz)) (hb : base ≤ b) : RowW w base T (some b) := fun g e => by
  cases e
  refine ⟨fun T' ht => ?_, hb⟩
  obtain ⟨c', f', h'⟩ := ht
  rw [h] at h'
  cases h'
  rfl
theorem RowW.own {w : World} {base : Nat} {e : TypeId} {size n : Nat} {v : Value} {xs : List Value} (h : w.ownsRow base e size v n xs) : RowW w base e v.ownBlock := fun g hg => by
  obtain ⟨⟨c, f, h1⟩, h2⟩ := own_tag h hg
  refine ⟨fun T' ht => ?_, h2⟩
  obtain ⟨c', f', h'⟩ := ht
  rw [h1] at h'
  cases h'
  rfl
theorem RowW.mono {w : World} {base base' : Nat} {T : TypeId} {row : Option Nat} (h : RowW w base T row) (hb : base' ≤ base) : RowW w base' T row := fun g e => ⟨(h g e).1, Nat.le_trans hb (h g e).2⟩
/-- A row that lies ahead of a call, or in a block of a type. -/
def At (T : TypeId) (base : Nat) (w : World) (A : Option Addr) (xs : List Value) : Prop := Row w A xs ∧ (xs ≠ [] → ∀ g off, A = some ⟨g, off, none⟩ → g < base ∨ Tagged w g T)
theorem At.keep {w w' : World} {row : Option Nat} {T T' : TypeId} {base : Nat} {A : Option Addr} {xs : List Value} (hg : w.grownBy w' row) (hr : RowW w base T' row) (hne : T' ≠ T) (h : At T base w A xs) : At T base w' A xs := by
  have hb : ∀ g off, xs ≠ [] → A = some ⟨g, off, none⟩ → g < w.heap.size → w'.heap[g]? = w.heap[g]? := by
    intro g off hl hA hlt
    refine hg.block g hlt ?_
    intro he
    rcases h.2 hl g off hA with h1 | h1
    · have := (hr g he.symm).2; omega
    · exact hne ((hr g he.symm).1 _ h1).symm
  constructor
  · intro hx
    obtain ⟨g, off, hA, hlt, hc⟩ := h.1 hx
    refine ⟨g, off, hA, Nat.lt_of_lt_of_le hlt hg.size, fun j hj => ?_⟩
    rw [World.cell?_of_block (hb g off hx hA hlt)]
    exact hc j hj
  · intro hl g off hA
    rcases h.2 hl g off hA with h1 | ⟨cur, fz, h1⟩
    · exact .inl h1
    · exact .inr ⟨cur, fz, (hb g off hl hA (Array.getElem?_eq_some_iff.1 h1).1).trans h1⟩
theorem At.of_own {w : World} {base b n m size c : Nat} {T : TypeId} {A : Option Addr} {xs : List Value} (h : w.ownsRow b T size (.slice A n c) m xs) : At T base w A xs := by
  obtain ⟨A', c', e, _⟩ := own_shape h
  cases e
  refine ⟨Row.of_own h, fun hl g off hA => .inr ?_⟩
  subst hA
  exact (own_tag h rfl).1
theorem At.nil (T : TypeId) (base : Nat) (w : World) (A : Option Addr) : At T base w A [] := ⟨Row.nil _ _, fun h => absurd rfl h⟩
theorem At.mono {T : TypeId} {base base' : Nat} {w : World} {A : Option Addr} {xs : List Value} (h : At T base w A xs) (hb : base ≤ base') : At T base' w A xs := ⟨h.1, fun hl g off hA => (h.2 hl g off hA).imp (fun h => Nat.lt_of_lt_of_le h hb) id⟩
theorem At.below {T : TypeId} {base : Nat} {w w' : World} {A : Option Addr} {xs : List Value} (h : At T base w A xs) (hb : Below w.heap.size w w') : At T base w' A xs :=
  h.keep (T' := T + 1) (row := none) ⟨hb.os, hb.tape, hb.output, hb.size, fun i hi _ => hb.block i hi⟩ (RowW.none _ _ _) (Nat.succ_ne_self T)
theorem At.old {T : TypeId} {w0 w : World} {A : Option Addr} {xs : List Value} (h : Row w0 A xs) (hb : Below w0.heap.size w0 w) : At T w0.heap.size w A xs := by
  refine ⟨h.below hb, fun hl g off hA => .inl ?_⟩
  obtain ⟨g', off', hA', hlt, _⟩ := h hl
  rw [hA] at hA'
  cases hA'
  exact hlt
theorem own_grown {w w' : World} {base b : Nat} {e : TypeId} {size n : Nat} {v : Value} {xs : List Value} (h : w.ownsRow base e size v n xs) (hg : w.grownBy w' (some b)) (hb : ∀ k, v.ownBlock = some k → k ≠ b) : w'.ownsRow base e size v n xs := by
  refine ⟨h.1, ?_⟩
  rcases h.2 with h0 | ⟨g, cap, cur, hv, hbg, hh, r⟩
  · exact .inl h0
  · refine .inr ⟨g, cap, cur, hv, hbg, (hg.block g (blk_lt hh) (fun e => ?_)).trans hh, r⟩
    injection e with e
    subst hv
    exact hb g rfl e
theorem own_old {w w' : World} {base b : Nat} {e : TypeId} {size n : Nat} {v : Value} {xs : List Value} (h : w.ownsRow base e size v n xs) (hg : w.grownBy w' (some b)) (hb : b < base) : w'.ownsRow base e size v n xs :=
  own_grown h hg (fun k hk => by have := (h.lt k hk).1; omega)
theorem old_block {w w' : World} {row : Option Nat} {B g : Nat} {o : Obj} (hg : w.grownBy w' row) (hr : ∀ k, row = some k → B ≤ k) (hlt : g < B) (h : w.heap[g]? = some o) : w'.heap[g]? = some o :=
  (hg.block g (blk_lt h) (fun e => by have := hr g e.symm; omega)).trans h
theorem grown_wide {w w' w2 : World} {b : Nat} {row : Option Nat} (h : w.grownBy w' (some b)) (hg : w'.grownBy w2 row) (hr : ∀ k, row = some k → w.heap.size ≤ k) : w.grownBy w2 (some b) :=
  ⟨hg.os.trans h.os, hg.tape.trans h.tape, hg.output.trans h.output, Nat.le_trans h.size hg.size, fun i hi hne => (hg.block i (Nat.lt_of_lt_of_le hi h.size) (fun e => by have := hr i e.symm; omega)).trans (h.block i hi hne)⟩
theorem own_more2 {w : World} {base base' : Nat} {e : TypeId} {size n : Nat} {v : Value} {xs : List Value} (h : w.ownsRow base e size v n xs) (hb : base' ≤ base) : w.ownsRow base' e size v n xs := by
  refine ⟨h.1, ?_⟩
  rcases h.2 with h0 | ⟨g, cap, cur, hv, hbg, r⟩
  · exact .inl h0
  · exact .inr ⟨g, cap, cur, hv, Nat.le_trans hb hbg, r⟩
theorem below_grown2 {B : Nat} {w0 wr w1 : World} {row : Option Nat} (h : Below B w0 wr) (hg : wr.grownBy w1 row) (hr : ∀ k, row = some k → B ≤ k) (hB : B ≤ wr.heap.size) : Below B w0 w1 :=
  ⟨hg.os.trans h.os, hg.tape.trans h.tape, hg.output.trans h.output, Nat.le_trans h.size hg.size, fun i hi => (hg.block i (by omega) (fun e => by have := hr i e.symm; omega)).trans (h.block i hi)⟩
theorem len64_none (w : World) : Calls Tryz.prog 170 #[.int .u64 0] w fun e w' => (∃ x : Int, e = .returned (.int .i64 x)) ∧ w' = w := by
  go_enter Tryz.func170, Tryz.ntmps170
  go_wp2
  go_ret
  exact ⟨⟨_, rfl⟩, rfl⟩
theorem len_none (w : World) : Calls Tryz.prog 117 #[.int .u64 0] w fun e w' => (∃ x : Int, e = .returned (.int .i64 x)) ∧ w' = w := by
  have H := Lib.hid (len64_none w)
  go_enter Tryz.func117, Tryz.ntmps117
  go_wp2_with fail
  refine H.out.mono ?_
  rintro e w1 ⟨⟨x, rfl⟩, rfl⟩
  go_wp2
  go_ret
  exact ⟨⟨x, rfl⟩, rfl⟩
theorem ins_none (A : Option Addr) (c : Nat) (fv : Value) (w : World) : Calls Tryz.prog 181 #[.slice A 0 c, .int .i64 0, .int .i64 0, fv] w fun e w' => e = .returned (.tuple #[]) ∧ w' = w := by
  go_enter Tryz.func181, Tryz.ntmps181
  go_wp2_with fail
  refine wp_loop_rounds 1 ?_
  rw [rounds_succ]
  go_wp2
  go_end0
  exact ⟨rfl, rfl⟩
theorem pdq_none (A : Option Addr) (c : Nat) (lim : Int) (fv : Value) (w : World) : Calls Tryz.prog 139 #[.slice A 0 c, .int .i64 0, .int .i64 0, .int .i64 lim, fv] w fun e w' => e = .returned (.tuple #[]) ∧ w' = w := by
  have H := Lib.hid (ins_none A c fv w)
  go_enter Tryz.func139, Tryz.ntmps139
  go_wp2_with fail
  refine wp_loop_rounds 1 ?_
  rw [rounds_succ]
  go_wp2_with fail
  refine H.out.mono ?_
  rintro e w1 ⟨rfl, rfl⟩
  go_wp2
  (try simp only [Exit.inBlock, Exit.then])
  refine bodyPost_ret (results_none rfl _ _ _) rfl ?_
  exact ⟨rfl, rfl⟩
theorem sort_none (A : Option Addr) (c : Nat) (fv : Value) (w : World) : Calls Tryz.prog 77 #[.slice A 0 c, fv] w fun e w' => e = .returned (.tuple #[]) ∧ w' = w := by
  have H := Lib.hid (fun x => pdq_none A c x fv w)
  have HL := Lib.hid (len_none w)
  go_enter Tryz.func77, Tryz.ntmps77
  go_wp2_with fail
  refine HL.out.mono ?_
  rintro e w1 ⟨⟨x, rfl⟩, rfl⟩
  go_wp2_with fail
  refine (H.out x).mono ?_
  rintro e w2 ⟨rfl, rfl⟩
  go_wp2
  go_end0
  exact ⟨rfl, rfl⟩
end Go.Proofs.YtnmmhcchpcbeeaaGreat.GeW

namespace Go.Proofs.YtnmmhcchpcbeeaaGreat.GeW
open Go Go.RowKit Go.Proofs.YtnmmhcchpcbeeaaGreat.Mem Go.Proofs.YtnmmhcchpcbeeaaGreat.Ge
open Go.Sort Go.Shelf
attribute [local go_sem ↓] Go.wp_at_zero Go.wp_at_succ
/-- The world drew some, and laid some blocks. -/
def Grew (w w' : World) : Prop := ∃ (q : Nat) (os : Array Obj), w' = grow (w.drewN q) os
theorem Grew.refl (w : World) : Grew w w := ⟨0, #[], by rw [grow_empty]; rfl⟩
theorem Grew.drew {w w' : World} (h : Grew w w') : Grew w w'.drew := by
  obtain ⟨q, os, rfl⟩ := h
  exact ⟨q + 1, os, rfl⟩
theorem Grew.alloc {w w' : World} (h : Grew w w') (o : Obj) : Grew w (w'.alloc o) := by
  obtain ⟨q, os, rfl⟩ := h
  refine ⟨q, os.push o, ?_⟩
  unfold grow World.alloc
  simp
theorem Grew.trans {a b c : World} (h : Grew a b) (k : Grew b c) : Grew a c := by
  obtain ⟨q, os, rfl⟩ := h
  obtain ⟨r, os2, rfl⟩ := k
  refine ⟨q + r, os ++ os2, ?_⟩
  unfold grow World.drewN
  simp [Nat.add_assoc]
theorem Grew.below {w w' : World} (h : Grew w w') : Below w.heap.size w w' := by
  obtain ⟨q, os, rfl⟩ := h
  refine ⟨rfl, rfl, rfl, by simp [grow, World.drewN], fun k hk => ?_⟩
  simp [grow, World.drewN, Array.getElem?_append, hk]
set_option maxRecDepth 100000 in
set_option maxHeartbeats 2000000 in
theorem vcmp_grew (x y u v : Int) (w : World) :
    Calls Tryz.prog 58 #[.agg #[.int .i64 x, .int .i64 y], .agg #[.int .i64 u, .int .i64 v]] w fun e w' => e = .returned (.int .i64 (vcmp (x, y) (u, v))) ∧ Grew w w' := by
  have HT : Hid (vcmp (x, y) (u, v) = if cmp3 y v = 0 then cmp3 x u else cmp3 y v) := Lib.hid (by rw [cmp3_sub, cmp3_sub]; rfl)
  rw [HT.out]
  have HC1 := Lib.hid (fun W => ccmp_any y v W)
  have HC2 := Lib.hid (fun W => ccmp_any x u W)
  have HOR := Lib.hid (fun b W h => or_any (cmp3 y v) (cmp3 x u) b W h)
  clear HT
  generalize (if cmp3 y v = 0 then cmp3 x u else cmp3 y v) = r at *
  have HB := Lib.hid (((Grew.refl w).alloc (.cells #[.int .i64 x, .int .i64 y] 53)).alloc (.cells #[.int .i64 u, .int .i64 v] 53))
  have HX : Hid (((w.alloc (.cells #[.int .i64 x, .int .i64 y] 53)).alloc (.cells #[.int .i64 u, .int .i64 v] 53)).heap[w.heap.size]? = some (.cells #[.int .i64 x, .int .i64 y] 53) ∧ ((w.alloc (.cells #[.int .i64 x, .int .i64 y] 53)).alloc (.cells #[.int .i64 u, .int .i64 v] 53)).heap[w.heap.size + 1]? = some (.cells #[.int .i64 u, .int .i64 v] 53)) := Lib.hid (two_vecs w _ _)
  generalize cmp3 y v = c1 at *
  generalize cmp3 x u = c2 at *
  go_enter Tryz.func58, Tryz.ntmps58
  go_upto_region 1 with fail
  generalize (w.alloc (.cells #[.int .i64 x, .int .i64 y] 53)).alloc (.cells #[.int .i64 u, .int .i64 v] 53) = W at *
  have CS : Hid (∀ w', Grew W w' → w'.cell? ⟨w.heap.size, 0, none⟩ = some (.int .i64 x) ∧ w'.cell? ⟨w.heap.size, 1, none⟩ = some (.int .i64 y) ∧ w'.cell? ⟨w.heap.size + 1, 0, none⟩ = some (.int .i64 u) ∧ w'.cell? ⟨w.heap.size + 1, 1, none⟩ = some (.int .i64 v) ∧ Grew W w') := Lib.hid (fun w' hb => by
    obtain ⟨a0, a1⟩ := pair_at HX.out.1 hb.below
    obtain ⟨b0, b1⟩ := pair_at HX.out.2 hb.below
    exact ⟨a0, a1, b0, b1, hb⟩)
  obtain ⟨q0, q1, q2, q3, q4⟩ := CS.out W (Grew.refl _)
  go_region_held3 (fun w' => w'.cell? ⟨w.heap.size, 0, none⟩ = some (.int .i64 x) ∧ w'.cell? ⟨w.heap.size, 1, none⟩ = some (.int .i64 y) ∧ w'.cell? ⟨w.heap.size + 1, 0, none⟩ = some (.int .i64 u) ∧ w'.cell? ⟨w.heap.size + 1, 1, none⟩ = some (.int .i64 v) ∧ Grew W w')
    (first | assumption | exact CS.out _ q4.drew | exact CS.out _ q4 | exact CS.out _ (q4.alloc _).drew | exact CS.out _ (q4.alloc _))
    (first
     | (go_at_call_of 119 (Value.int .i64 y); refine (HC1.out _).mono ?_; rintro e w4 ⟨rfl, rfl⟩)
     | (go_at_call_of 119 (Value.int .i64 x); refine (HC2.out _).mono ?_; rintro e w5 ⟨rfl, rfl⟩)
     | (go_at_call 118; refine Calls.mono (HOR.out W.heap.size _ (by exact heap_alloc_new W (.cells #[.int .i64 c1, .int .i64 c2] 3))) ?_; rintro e w6 ⟨rfl, rfl⟩))
  go_wp2
  go_ret
  exact ⟨rfl, HB.out.trans (by first | exact (q4.alloc _).drew | exact q4.alloc _)⟩
set_option maxRecDepth 100000 in
set_option maxHeartbeats 2000000 in
theorem cmpRing_grew (l m : List V) (A B : Option Addr) (c d : Nat) (w : World) (hr : Row w A (l.flatMap ptCells)) (hs : Row w B (m.flatMap ptCells)) (hl : 0 < l.length) (hm : 0 < m.length) :
    Calls Tryz.prog 78 #[.slice A l.length c, .slice B m.length d] w fun e w' => e = .returned (.int .i64 (vcmp (hd l) (hd m))) ∧ Grew w w' := by
  obtain ⟨g, off, rfl, hg, ca⟩ := row_get pt_len (by decide) hr hl
  obtain ⟨g2, off2, rfl, hg2, cb⟩ := row_get pt_len (by decide) hs hm
  have e1 : hd l = l[0] := by
    unfold hd
    cases l with
    | nil => exact absurd hl (by decide)
    | cons p t => rfl
  have e2 : hd m = m[0] := by
    unfold hd
    cases m with
    | nil => exact absurd hm (by decide)
    | cons p t => rfl
  rw [e1, e2]
  have a0 := ca 0 hl 0 (by decide)
  have a1 := ca 0 hl 1 (by decide)
  have b0 := cb 0 hm 0 (by decide)
  have b1 := cb 0 hm 1 (by decide)
  clear ca cb e1 e2 hr hs
  generalize l[0] = p at *
  generalize m[0] = q at *
  obtain ⟨x, y⟩ := p
  obtain ⟨u, v⟩ := q
  simp only [ptCells, List.getElem?_cons_zero, List.getElem?_cons_succ, Nat.zero_mul, Nat.add_zero] at a0 a1 b0 b1
  have HC := Lib.hid (fun W => vcmp_grew x y u v W)
  have CS : Hid (∀ w', Grew w w' → w'.cell? ⟨g, off, none⟩ = some (.int .i64 x) ∧ w'.cell? ⟨g, off + 1, none⟩ = some (.int .i64 y) ∧ w'.cell? ⟨g2, off2, none⟩ = some (.int .i64 u) ∧ w'.cell? ⟨g2, off2 + 1, none⟩ = some (.int .i64 v) ∧ Grew w w') := Lib.hid (fun w' hb =>
    ⟨(hb.below.cell (p := ⟨g, off, none⟩) hg).trans a0, (hb.below.cell (p := ⟨g, off + 1, none⟩) hg).trans a1, (hb.below.cell (p := ⟨g2, off2, none⟩) hg2).trans b0, (hb.below.cell (p := ⟨g2, off2 + 1, none⟩) hg2).trans b1, hb⟩)
  generalize l.length = n1 at *
  generalize m.length = n2 at *
  have d1 : (0 < n1) = True := eq_true hl
  have d2 : (0 < n2) = True := eq_true hm
  clear hg hg2
  generalize vcmp (x, y) (u, v) = r at *
  clear a0 a1 b0 b1
  go_enter Tryz.func78, Tryz.ntmps78
  go_upto_region 1 with fail
  obtain ⟨q0, q1, q2, q3, q4⟩ := CS.out w (Grew.refl _)
  go_region_held3 (fun w' => w'.cell? ⟨g, off, none⟩ = some (.int .i64 x) ∧ w'.cell? ⟨g, off + 1, none⟩ = some (.int .i64 y) ∧ w'.cell? ⟨g2, off2, none⟩ = some (.int .i64 u) ∧ w'.cell? ⟨g2, off2 + 1, none⟩ = some (.int .i64 v) ∧ Grew w w')
    (first | assumption | exact CS.out _ q4.drew | exact CS.out _ q4 | exact CS.out _ ((Grew.drew q4).trans hcall))
    (first | (go_at_call 58; refine (HC.out _).mono ?_; rintro e w4 ⟨rfl, hcall⟩))
  go_wp2
  go_ret
  exact ⟨rfl, by first | exact q4 | exact q4.drew | exact (Grew.drew q4).trans hcall⟩
/-- From its address on a row can be read, in another block than b. -/
def RowNot (b : Nat) (w : World) (A : Option Addr) (xs : List Value) : Prop := ∃ g off, A = some ⟨g, off, none⟩ ∧ g < w.heap.size ∧ g ≠ b ∧ ∀ j, j < xs.length → w.cell? ⟨g, off + j, none⟩ = xs[j]?
theorem RowNot.row {b : Nat} {w : World} {A : Option Addr} {xs : List Value} (h : RowNot b w A xs) : Row w A xs := fun _ => by
  obtain ⟨g, off, e, hg, _, hc⟩ := h
  exact ⟨g, off, e, hg, hc⟩
theorem RowNot.keep {b : Nat} {w w' : World} {A : Option Addr} {xs : List Value} (h : RowNot b w A xs) (hg : w.grownBy w' (some b)) : RowNot b w' A xs := by
  obtain ⟨g, off, e, hlt, hne, hc⟩ := h
  refine ⟨g, off, e, Nat.lt_of_lt_of_le hlt hg.size, hne, fun j hj => ?_⟩
  rw [World.cell?_of_block (hg.block g hlt (by intro e; injection e with e; exact hne e))]
  exact hc j hj
theorem sortW_grown {α : Type} [Inhabited α] (enc : α → Value) (w : World) (b m : Nat) (d : Array α) (os : Array Obj) : w.grownBy (sortWorld enc w b 0 m d os) (some b) := by
  refine ⟨rfl, rfl, rfl, ?_, fun k hk hne => ?_⟩
  · unfold sortWorld putRow mapBlock grow Go.Sort.ahead
    simp
  · unfold sortWorld putRow mapBlock grow Go.Sort.ahead
    have hnk : ¬ b = k := fun e => hne (by rw [e])
    rw [Array.getElem?_append_left (by simpa using hk), Array.getElem?_modify, if_neg hnk]
theorem sortW_tag {α : Type} [Inhabited α] (enc : α → Value) (w : World) (b m : Nat) (d : Array α) (os : Array Obj) {cur : Array Value} {T : TypeId} {fz : Nat × Nat} (h : w.heap[b]? = some (.cells cur T fz)) : ∃ cur' fz', (sortWorld enc w b 0 m d os).heap[b]? = some (.cells cur' T fz') := by
  have hlt := (Array.getElem?_eq_some_iff.1 h).1
  have e : (sortWorld enc w b 0 m d os).heap[b]? = (w.heap[b]?).map (onCells (putCells enc 0 d)) := by
    unfold sortWorld putRow mapBlock grow Go.Sort.ahead
    rw [Array.getElem?_append_left (by simpa using hlt), Array.getElem?_modify, if_pos rfl]
  rw [e, h]
  exact ⟨_, _, rfl⟩
abbrev RingN (b : Nat) (w : World) : Type := {r : RowV // 0 < r.l.length ∧ RowNot b w r.A (r.l.flatMap ptCells)}
theorem ltOf_less {b : Nat} {w : World} (x y : RingN b w) : Go.Proofs.ltOf (fun x y : RingN b w => vcmp (hd x.1.l) (hd y.1.l)) x y = less (hd x.1.l) (hd y.1.l) := (vcmp_less _ _)
theorem swo_ring (b : Nat) (w : World) : SWO (Go.Proofs.ltOf (fun x y : RingN b w => vcmp (hd x.1.l) (hd y.1.l))) where
  irrefl x := by rw [ltOf_less]; exact less_irr _
  trans x y z h1 h2 := by
    rw [ltOf_less] at *
    cases h3 : less (hd x.1.l) (hd z.1.l)
    · rw [nless_trans (less_asymm h2) h3] at h1; cases h1
    · rfl
  ntrans x y z h1 h2 := by rw [ltOf_less] at *; exact nless_trans h2 h1
theorem attach_get {α : Type} {p : α → Prop} (l : List α) (h : ∀ x ∈ l, p x) (j : Nat) (hj : j < l.length) : ((l.attachWith p h)[j]'(by simpa using hj)).1 = l[j] := by simp
set_option maxRecDepth 100000 in
theorem sortRings_any (b c base : Nat) (l : List RowV) (w : World) (hown : w.ownsRow base 26 1 (.slice (some ⟨b, 0, none⟩) l.length c) l.length (l.map rowVal)) (h0 : 0 < l.length) (hl : l.length ≤ 1000000) (hr : ∀ r ∈ l, 0 < r.l.length ∧ RowNot b w r.A (r.l.flatMap ptCells)) :
    Calls Tryz.prog 77 #[.slice (some ⟨b, 0, none⟩) l.length c, .func (.func 78) #[] #[]] w fun e w' => e = .returned (.tuple #[]) ∧ w.grownBy w' (some b) ∧ ∃ l' : List RowV, l'.Perm l ∧ Asc (l'.map RowV.l) ∧ Row w' (some ⟨b, 0, none⟩) (l'.map rowVal) ∧ ∃ cur fz, w'.heap[b]? = some (.cells cur 26 fz) := by
  haveI : Inhabited (RingN b w) := ⟨⟨l[0], hr _ (List.getElem_mem h0)⟩⟩
  obtain ⟨la, hla⟩ : ∃ la : List (RingN b w), la.map Subtype.val = l := ⟨l.attachWith _ hr, by simp⟩
  have hsz : la.length = l.length := by rw [← hla, List.length_map]
  have hblk : b < w.heap.size := (hown.lt b rfl).2
  obtain ⟨enc, henc⟩ : ∃ enc : RingN b w → Value, enc = fun x => rowVal x.1 := ⟨_, rfl⟩
  have hH : Holds enc w b 0 la.toArray := by
    intro j hj
    have hj1 : j < la.length := by simpa using hj
    have hj2 : j < l.length := by omega
    refine ⟨?_, ?_⟩
    · have e1 := hown.cellAt (g := b) j (by omega)
      rw [Nat.zero_add, e1, List.getElem?_map, List.getElem?_eq_getElem hj2, Option.map_some]
      congr 1
      rw [getElem!_pos _ j (by simpa using hj1), henc]
      simp only [List.getElem_toArray]
      have : l[j] = (la[j]).1 := by
        have h2 : (la.map Subtype.val)[j]'(by simpa using hj1) = l[j] := by simp only [hla]
        rw [← h2, List.getElem_map]
      rw [this]
    · rcases hown.2 with ⟨_, h2⟩ | ⟨g', cap, cur, hv, _, hh, _⟩
      · omega
      · injection hv with hv1
        injection hv1 with hv1
        injection hv1 with hv1
        subst hv1
        unfold World.frozen?
        rw [hh]
        simp
  have hcmp : Go.Proofs.CmpLays1 Tryz.prog 78 #[] enc (fun x y : RingN b w => vcmp (hd x.1.l) (hd y.1.l)) b 0 la.toArray.size w := fun m os dk _ x y => by
    have hg := sortW_grown enc w b m dk os
    have h1 := cmpRing_grew x.1.l y.1.l x.1.A y.1.A x.1.k y.1.k (sortWorld enc w b 0 m dk os) (x.2.2.keep hg).row (y.2.2.keep hg).row x.2.1 y.2.1
    subst henc
    exact h1
  have hmain := Go.Proofs.Any.slices_SortFunc Tryz.sortRing enc (by subst henc; exact fun x => rfl) _ (swo_ring b w) 78 #[] b 0 c la.toArray w (fun args w => rfl) hcmp hH hblk (by simp; omega)
  have es : la.toArray.size = l.length := by simpa using hsz
  rw [es] at hmain
  refine hmain.mono ?_
  rintro e' w' ⟨rfl, d', m, os, hp, hso, rfl⟩
  have hds : d'.size = l.length := by rw [hp.1]; exact es
  refine ⟨rfl, sortW_grown enc w b m d' os, d'.toList.map Subtype.val, ?_, ?_, ?_, ?_⟩
  · have h3 := hp.2.2
    have e1 : d'.extract 0 l.length = d' := by rw [← hds]; exact Array.extract_size
    have e2 : la.toArray.extract 0 l.length = la.toArray := by rw [← es]; exact Array.extract_size
    rw [e1, e2] at h3
    have h4 := h3.map Subtype.val
    rw [show la.toArray.toList = la from rfl, hla] at h4
    exact h4
  · unfold Asc
    rw [List.pairwise_iff_getElem]
    intro i j hi hj hij
    simp only [List.length_map, Array.length_toList] at hi hj
    have h5 := hso i j (Nat.zero_le _) hij (by omega)
    rw [getElem!_pos d' i hi, getElem!_pos d' j hj, ltOf_less] at h5
    simpa using h5
  · have hS : Go.Proofs.SW enc w b 0 d' (sortWorld enc w b 0 m d' os) := ⟨m, os, rfl⟩
    have hK := hS.holds hblk hH hp.1
    intro _
    refine ⟨b, 0, rfl, Nat.lt_of_lt_of_le hblk (sortW_grown enc w b m d' os).size, fun j hj => ?_⟩
    simp only [List.length_map, Array.length_toList] at hj
    rw [(hK j hj).1, getElem!_pos d' j hj]
    subst henc
    simp [hj]
  · rcases hown.2 with ⟨_, h2⟩ | ⟨g', cap, cur, hv, _, hh, _⟩
    · omega
    · injection hv with hv1
      injection hv1 with hv1
      injection hv1 with hv1
      subst hv1
      exact sortW_tag enc w b m d' os hh
end Go.Proofs.YtnmmhcchpcbeeaaGreat.GeW

namespace Go.Proofs.YtnmmhcchpcbeeaaGreat.Mem
open Go
section
variable {P : Program} {ops : Array Oper} {Q : Exit → Act → World → Prop} {md : Region.Mode} {k : Nat} {S1 S2 : World → Prop}
/-- What holds behind the operations that are marked. -/
def Till (k : Nat) (S1 S2 : World → Prop) (l : Array Bool) (w : World) : Prop := S1 w ∧ (l.getD k true = false → S2 w)
def wpAnyK (P : Program) (md : Region.Mode) (ops : Array Oper) (Q : Exit → Act → World → Prop) (k : Nat) (S1 S2 : World → Prop) : Nat → Array Bool → Act → World → Prop
  | 0, l, a, w => Region.ready md ops l = [] ∧ Q .normal a w
  | n + 1, l, a, w => (Region.ready md ops l = [] → Q .normal a w) ∧ ∀ i ∈ Region.ready md ops l, wpOp P ops Q i (fun a' w' => Till k S1 S2 (l.setIfInBounds i true) w' ∧ wpAnyK P md ops Q k S1 S2 n (l.setIfInBounds i true) a' w') a w
theorem wpAny_of_K : ∀ (n : Nat) (l : Array Bool) (a : Act) (w : World), wpAnyK P md ops Q k S1 S2 n l a w → wpAny P md ops Q n l a w
  | 0, _, _, _, h => h
  | n + 1, _, _, _, h => ⟨h.1, fun i hi => wpOp_mono (fun _ _ h2 => wpAny_of_K n _ _ _ h2.2) (h.2 i hi)⟩
theorem unlisted {l : Array Bool} {i : Nat} (h : l.getD i true = false) : l.getD i false = false := by
  rcases Nat.lt_or_ge i l.size with h1 | h1
  · simpa [h1] using h
  · simp [Array.getElem?_eq_none h1] at h
theorem off_ready {l : Array Bool} {i j : Nat} {oj : Oper} (hi : l.getD i true = false) (hj : j ∈ Region.ready md ops l) (hoj : ops[j]? = some oj) : ∀ e ∈ oj.after, Region.binds md e = true → e.on ≠ i := by
  rintro e he hb rfl
  obtain ⟨_, o, ho, h2⟩ := mem_ready.1 hj
  rw [hoj] at ho
  cases ho
  have h3 := h2 e he hb
  rw [unlisted hi] at h3
  cases h3
/-- Operation k waits for operation i. -/
def waits (md : Region.Mode) (ops : Array Oper) (k i : Nat) : Bool := match ops[k]? with
  | some o => o.after.any fun e => Region.binds md e && e.on == i
  | none => false
theorem not_yet {l : Array Bool} {i : Nat} (hw : waits md ops k i = true) (hi : l.getD i true = false) : k ∉ Region.ready md ops l := fun hk => by
  obtain ⟨_, o, ho, _⟩ := mem_ready.1 hk
  unfold waits at hw
  rw [ho] at hw
  obtain ⟨e, he, hb⟩ := Array.any_eq_true'.1 hw
  simp only [Bool.and_eq_true, beq_iff_eq] at hb
  exact off_ready hi hk ho e he hb.1 hb.2
theorem wpAnyK_first {i : Nat} {oi : Oper} {v : Value} (hi : ops[i]? = some oi) (hsel : ∀ (j : Nat) (o : Oper) cs b, ops[j]? = some o → o.op ≠ .select cs b)
    (hQ : ∀ c a w, Q (.panic c) (a.put oi.dst v) w → Q (.panic c) a w) (hw : waits md ops k i = true) (hik : i ≠ k) : ∀ (n : Nat) (l : Array Bool) (a : Act) (w : World),
      (∀ j oj, ops[j]? = some oj → j ≠ i → l.getD j true = false → (∀ e ∈ oj.after, Region.binds md e = true → e.on ≠ i) → oi.apart ops oj = true) →
      i ∈ Region.ready md ops l → YieldsIf P ops (fun u => S1 u ∧ S2 u) oi v a → l.getD k true = false → S1 w → S2 w →
      wpAnyK P md ops Q k S1 S2 n (l.setIfInBounds i true) (a.put oi.dst v) w → wpAnyK P md ops Q k S1 S2 (n + 1) l a w := by
  intro n
  induction n with
  | zero =>
    intro l a w _ hr hy _ h1 h2 H
    refine ⟨fun h => (by rw [h] at hr; cases hr), fun j hj => ?_⟩
    by_cases e : j = i
    · subst e
      exact hy.wpOp hi ⟨h1, h2⟩ ⟨⟨h1, fun _ => h2⟩, H⟩
    · have h3 := ready_mono hj e
      rw [H.1] at h3
      cases h3
  | succ n ih =>
    intro l a w hap hr hy hk h1 h2 H
    refine ⟨fun h => (by rw [h] at hr; cases hr), fun j hj => ?_⟩
    by_cases e : j = i
    · subst e
      exact hy.wpOp hi ⟨h1, h2⟩ ⟨⟨h1, fun _ => h2⟩, H⟩
    · have hil := (mem_ready.1 hr).1
      obtain ⟨hjl, oj, hoj, _⟩ := mem_ready.1 hj
      have hjk : j ≠ k := fun e => not_yet hw hil (e ▸ hj)
      have h3 := wpOp_putIf hoj (hap j oj hoj e hjl (off_ready hil hj hoj)) (fun cs b => hsel i oi cs b hi) (fun cs b => hsel j oj cs b hoj) hQ hy (H.2 j (ready_mono hj e))
      have hkj : (l.setIfInBounds j true).getD k true = false := by rw [getD_set_ne true hjk]; exact hk
      refine wpOp_mono (fun a' w' h4 => ?_) h3
      have hs2 : S2 w' := h4.2.1.2 (by rw [getD_set_ne true hjk, getD_set_ne true hik]; exact hk)
      refine ⟨⟨h4.2.1.1, fun _ => hs2⟩, ih _ a' w' (fun m om hom hmi hun hno => hap m om hom hmi ?_ hno) (ready_mono hr (Ne.symm e)) h4.1 hkj h4.2.1.1 hs2 ?_⟩
      · by_cases e2 : j = m
        · subst e2; exact hjl
        · rw [getD_set_ne true e2] at hun; exact hun
      · rw [Array.setIfInBounds_comm _ _ e]
        exact h4.2.2
theorem wpAnyK_take {i : Nat} {oi : Oper} {v : Value} {n : Nat} {l : Array Bool} {a : Act} {w : World} (hi : ops[i]? = some oi)
    (hs : Region.noSelect ops = true) (hf : Region.free md ops l i = true) (hr : (Region.ready md ops l).contains i = true) (hw : (waits md ops k i && (i != k) && !l.getD k true) = true)
    (hQ : ∀ c a w, Q (.panic c) (a.put oi.dst v) w → Q (.panic c) a w) (hy : YieldsIf P ops (fun u => S1 u ∧ S2 u) oi v a) (hS : S1 w ∧ S2 w)
    (h : wpAnyK P md ops Q k S1 S2 n (l.setIfInBounds i true) (a.put oi.dst v) w) : wpAnyK P md ops Q k S1 S2 (n + 1) l a w := by
  simp only [Bool.and_eq_true, bne_iff_ne, ne_eq, Bool.not_eq_true'] at hw
  exact wpAnyK_first hi (Region.noSelect_spec hs) hQ hw.1.1 hw.1.2 n l a w (Region.free_spec hi hf) (by simpa using hr) hy hw.2 hS.1 hS.2 h
/-- An operation that is left out by its guard, or that yields in whatever world. -/
theorem wpAnyK_done {l : Array Bool} {a : Act} {w : World} (hr : Region.ready md ops l = []) (h : Q .normal a w) : ∀ n, wpAnyK P md ops Q k S1 S2 n l a w
  | 0 => ⟨hr, h⟩
  | _ + 1 => ⟨fun _ => h, by rw [hr]; simp⟩
/-- The one operation that may come up now; behind it the conditions are shown anew. -/
theorem wpAnyK_one {i : Nat} {o : Oper} {n : Nat} {l : Array Bool} {a : Act} {w : World} (hr : Region.ready md ops l = [i]) (ho : ops[i]? = some o)
    (h : ∀ K' : Act → World → Prop, Shut (∀ a w, S1 w → (i ≠ k → S2 w) → (S1 w ∧ (i ≠ k → S2 w) → wpAnyK P md ops Q k S1 S2 n (l.setIfInBounds i true) a w) → K' a w) → if Region.wanted o (yielded ops a.tmps) = true then Oper.wp P o a w K' Q else K' (a.put o.dst undef) w) :
    wpAnyK P md ops Q k S1 S2 (n + 1) l a w := by
  refine ⟨fun h0 => (by rw [hr] at h0; cases h0), fun j hj => ?_⟩
  rw [hr] at hj
  obtain rfl := List.mem_singleton.1 hj
  refine wpOp_step ho fun K' hK => h K' fun a w h1 h2 h3 => hK a w ⟨⟨h1, fun hk => h2 fun e => ?_⟩, h3 ⟨h1, h2⟩⟩
  subst e
  have hl : j < l.size := by
    obtain ⟨hjl, _⟩ := mem_ready.1 (hr ▸ hj : j ∈ Region.ready md ops l)
    rcases Nat.lt_or_ge j l.size with h4 | h4
    · exact h4
    · simp [Array.getElem?_eq_none h4] at hjl
  simp [hl] at hk
theorem wp_region_tillK {id : Nat} {a : Act} {w : World} (hm : P.follows .mixedOrders = true) (hS : S1 w.drew ∧ S2 w.drew)
    (h : S1 w.drew ∧ S2 w.drew → wpAnyK P .any ops Q k S1 S2 ops.size (Array.replicate ops.size false) a w.drew) : (Code.region id ops true).wp P Q a w :=
  wp_region_any hm (wpAny_of_K _ _ _ _ (h hS))
end
end Go.Proofs.YtnmmhcchpcbeeaaGreat.Mem

namespace Go.Proofs.YtnmmhcchpcbeeaaGreat.GeW
open Go Go.RowKit Go.Proofs.YtnmmhcchpcbeeaaGreat.Mem Go.Proofs.YtnmmhcchpcbeeaaGreat.Ge
attribute [local go_sem ↓] Go.wp_at_zero Go.wp_at_succ

theorem info_ring1 : (Tryz.prog.info? 26).map (fun i => (i.zero, i.size, i.bytes)) = some (some (.slice none 0 0), 1, 24) := by kernel_rfl
/-- A shape in memory whose rows lie in blocks of their types. -/
structure ShapeAt (w : World) (m : ShapeM) : Prop where
  ro : At 53 0 w m.o.A (m.o.l.flatMap ptCells)
  rB : At 26 0 w m.B (m.hs.map rowVal)
  rh : ∀ r ∈ m.hs, At 53 0 w r.A (r.l.flatMap ptCells)
  few : m.hs.length ≤ 1000
  short : ∀ r ∈ ringsM m, r.l.length ≤ 1000 ∧ r.l.length ≤ r.k
  room : m.hs.length ≤ m.k
theorem ShapeAt.sin {w : World} {m : ShapeM} (h : ShapeAt w m) : ShapeIn w m := ⟨h.ro.1, h.rB.1, fun r hr => (h.rh r hr).1, h.few, h.short, h.room⟩
theorem ShapeAt.keep {w w' : World} {row : Option Nat} {T : TypeId} {m : ShapeM} (h : ShapeAt w m) (hg : w.grownBy w' row) (hr : RowW w 0 T row) (h1 : T ≠ 53) (h2 : T ≠ 26) : ShapeAt w' m :=
  ⟨h.ro.keep hg hr h1, h.rB.keep hg hr h2, fun r hm => (h.rh r hm).keep hg hr h1, h.few, h.short, h.room⟩
theorem ShapeAt.below {w w' : World} {m : ShapeM} (h : ShapeAt w m) (hb : Below w.heap.size w w') : ShapeAt w' m :=
  ⟨h.ro.below hb, h.rB.below hb, fun r hm => (h.rh r hm).below hb, h.few, h.short, h.room⟩
theorem tag_ne {w : World} {g g' : Nat} {T T' : TypeId} (h : Tagged w g T) (h' : Tagged w g' T') (hne : T ≠ T') : g ≠ g' := by
  rintro rfl
  obtain ⟨c, f, h⟩ := h
  obtain ⟨c', f', h'⟩ := h'
  rw [h] at h'
  cases h'
  exact hne rfl
theorem sortRings_own {base n c : Nat} {A : Option Addr} (l : List RowV) (w : World) (hn : n = l.length) (hown : w.ownsRow base 26 1 (.slice A n c) n (l.map rowVal)) (hl : l.length ≤ 1000000) (hr : ∀ r ∈ l, 0 < r.l.length ∧ At 53 0 w r.A (r.l.flatMap ptCells)) :
    Calls Tryz.prog 77 #[.slice A n c, .func (.func 78) #[] #[]] w fun e w' => e = .returned (.tuple #[]) ∧ w.grownBy w' (Value.slice A n c).ownBlock ∧ ∃ l' : List RowV, l'.Perm l ∧ Asc (l'.map RowV.l) ∧ At 26 0 w' A (l'.map rowVal) := by
  subst hn
  rcases Nat.eq_zero_or_pos l.length with h0 | h0
  · have hl0 : l = [] := List.eq_nil_of_length_eq_zero h0
    subst hl0
    refine (sort_none A c _ w).mono ?_
    rintro e w' ⟨rfl, rfl⟩
    exact ⟨rfl, grown_refl _ _, [], List.Perm.refl _, List.Pairwise.nil, At.nil _ _ _ _⟩
  · obtain ⟨b, rfl⟩ : ∃ b, A = some ⟨b, 0, none⟩ := by
      rcases hown.2 with ⟨_, h2⟩ | ⟨g', cap, cur, hv, _⟩
      · omega
      · injection hv with hv1
        exact ⟨g', hv1⟩
    have ht := (own_tag hown (g := b) rfl).1
    refine (sortRings_any b c base l w hown h0 hl (fun r hr1 => ⟨(hr r hr1).1, ?_⟩)).mono ?_
    · have h1 := hr r hr1
      have hne : r.l.flatMap ptCells ≠ [] := by
        intro e
        have := flatMap_len pt_len r.l
        rw [e] at this
        simp at this
        omega
      obtain ⟨g, off, hA, hlt, hc⟩ := h1.2.1 hne
      refine ⟨g, off, hA, hlt, ?_, hc⟩
      rcases h1.2.2 hne g off hA with h2 | h2
      · exact absurd h2 (Nat.not_lt_zero _)
      · exact tag_ne h2 ht (by decide)
    · rintro e w' ⟨rfl, hg, l', hp, ha, hrow, htag⟩
      exact ⟨rfl, hg, l', hp, ha, hrow, fun _ g off hA => by cases hA; exact .inr htag⟩
theorem begin_len (l : List V) : (beginL l).length = l.length := by
  unfold beginL
  simp
  omega
set_option maxRecDepth 100000 in
set_option maxHeartbeats 2000000 in
theorem canonS_any (m : ShapeM) (w : World) (h : ShapeIn w m) (hv : shapeB m.o.l (holesL m) = true) :
    Calls Tryz.prog 27 #[.agg (shapeVals m)] w fun e w' => (∃ m' : ShapeM, e = .returned (.agg (shapeVals m')) ∧ ShapeAt w' m' ∧ m'.o.l = beginL m.o.l ∧ holesL m' = sortH ((holesL m).map beginL)) ∧ Below w.heap.size w w' := by
  obtain ⟨i0, ia, ib, ic, id⟩ := info_parts info_ring1
  obtain ⟨⟨ol, oA, ok⟩, hs, mB, mk⟩ := m
  have hb1 := bel1 w (.cells #[.slice oA ol.length ok, .slice mB hs.length mk] 29)
  have hb2 := bel1 (w.alloc (.cells #[.slice oA ol.length ok, .slice mB hs.length mk] 29)) (.cells #[.slice none 0 0, .slice none 0 0] 29)
  have hz : (w.alloc (.cells #[.slice oA ol.length ok, .slice mB hs.length mk] 29)).heap.size = w.heap.size + 1 := by simp
  have HN1 := Lib.hid (p_below (heap_new w (.cells #[.slice oA ol.length ok, .slice mB hs.length mk] 29)) hb2)
  have HN2 : Hid (((w.alloc (.cells #[.slice oA ol.length ok, .slice mB hs.length mk] 29)).alloc (.cells #[.slice none 0 0, .slice none 0 0] 29)).heap[w.heap.size + 1]? = some (.cells #[.slice none 0 0, .slice none 0 0] 29)) := Lib.hid (by have := heap_new (w.alloc (.cells #[.slice oA ol.length ok, .slice mB hs.length mk] 29)) (.cells #[.slice none 0 0, .slice none 0 0] 29); rw [hz] at this; exact this)
  have HBB := Lib.hid (hb1.trans (hb2.mono (by omega)))
  have HAA := Lib.hid ((h.below hb1).below hb2)
  have HIN := Lib.hid h
  have HVL := Lib.hid hv
  have HVA := Lib.hid (shapeOk_any ⟨⟨ol, oA, ok⟩, hs, mB, mk⟩ _ HAA.out)
  rw [hv] at HVA
  clear h hb1 hb2 hz hv
  unfold shapeVals holesVal rowVal at HVA ⊢
  dsimp only at HVA ⊢
  have HRO : Hid (canonR ol = beginL ol) := Lib.hid (canonR_begin (shape_rings HVL.out _ List.mem_cons_self))
  have HRH : Hid (∀ r ∈ hs, canonR r.l = beginL r.l ∧ 3 ≤ r.l.length ∧ r.l.length ≤ 1000 ∧ r.l.length ≤ r.k) := Lib.hid (fun r hr => by
    have h1 := shape_rings HVL.out r.l (List.mem_cons_of_mem _ (List.mem_map_of_mem hr))
    have h2 := HIN.out.short r (List.mem_cons_of_mem _ hr)
    exact ⟨canonR_begin h1, (ring_facts h1).1, h2.1, h2.2⟩)
  have HFW : Hid (hs.length ≤ 1000 ∧ ol.length ≤ 1000 ∧ ol.length ≤ ok ∧ hs.length ≤ mk) := Lib.hid ⟨HIN.out.few, (HIN.out.short _ List.mem_cons_self).1, (HIN.out.short _ List.mem_cons_self).2, HIN.out.room⟩
  obtain ⟨n, HNN⟩ : ∃ n, Hid ((canonR ol).length = n) := ⟨_, Lib.hid rfl⟩
  have HNB : Hid (n ≤ 1000) := Lib.hid (by rw [← HNN.out, HRO.out, begin_len]; exact HFW.out.2.1)
  go_enter Tryz.func27, Tryz.ntmps27
  go_upto_region 1 with fail
  generalize (w.alloc (.cells #[.slice oA ol.length ok, .slice mB hs.length mk] 29)).alloc (.cells #[.slice none 0 0, .slice none 0 0] 29) = W at *
  have x0 := cell_of HN1.out 0 _ rfl
  have x1 := cell_of HN1.out 1 _ rfl
  go_wp2_with fail
  refine HVA.out.mono ?_
  rintro e w2 ⟨rfl, hb2⟩
  have HB2 := Lib.hid (HBB.out.trans (hb2.mono HBB.out.size))
  have HC1 := Lib.hid (p_below HN1.out hb2)
  have HC2 := Lib.hid (p_below HN2.out hb2)
  have HA2 := Lib.hid (HAA.out.below hb2)
  clear hb2 x0 x1 HVA
  have x0 := cell_of HC1.out 0 _ rfl
  have HCN := Lib.hid (canon_any ol oA ok w2 HA2.out.ro (by have := HFW.out.2.1; omega) HFW.out.2.2.1)
  go_wp2_with fail
  refine HCN.out.mono ?_
  rintro e w3 ⟨⟨v, rfl, hown⟩, hb3⟩
  rw [HNN.out] at hown
  obtain ⟨B, d, rfl, hnd⟩ := own_shape hown
  have HND := Lib.hid hnd
  have HOW3 : Hid (w3.ownsRow (w.heap.size + 2) 53 2 (.slice B n d) n ((canonR ol).flatMap ptCells)) := Lib.hid (own_more2 hown (by have := blk_lt HC2.out; omega))
  have HB3 := Lib.hid (HB2.out.trans (hb3.mono HB2.out.size))
  have HD1 := Lib.hid (p_below HC1.out hb3)
  have HD2 := Lib.hid (p_below HC2.out hb3)
  clear hown hb3 x0 HCN hnd
  have hb4 := bel1 w3 (.cells #[.slice B n d, .slice none 0 0] 29)
  have HN4 := Lib.hid (heap_new w3 (.cells #[.slice B n d, .slice none 0 0] 29))
  have HB4 := Lib.hid (HB3.out.trans (hb4.mono HB3.out.size))
  have HE1 := Lib.hid (p_below HD1.out hb4)
  have HE2 := Lib.hid (p_below HD2.out hb4)
  have HOW4 : Hid (At 53 0 (w3.alloc (.cells #[.slice B n d, .slice none 0 0] 29)) B ((canonR ol).flatMap ptCells)) := Lib.hid (At.of_own (HOW3.out.alloc (.cells #[.slice B n d, .slice none 0 0] 29)))
  have HOG : Hid (∀ g, (Value.slice B n d).ownBlock = some g → w.heap.size + 2 ≤ g) := Lib.hid (fun g hg => (HOW3.out.lt g hg).1)
  have hob : w.heap.size + 2 ≤ w3.heap.size := blk_lt HD2.out
  have HOS : Hid (∀ w', Below w3.heap.size (w3.alloc (.cells #[.slice B n d, .slice none 0 0] 29)) w' → w3.heap.size ≤ w'.heap.size) := Lib.hid (fun w' hb => Nat.le_trans (by simp) hb.size)
  clear hb4
  go_upto_region 4 with fail
  generalize w3.alloc (.cells #[.slice B n d, .slice none 0 0] 29) = W4 at *
  generalize w3.heap.size = ob at *
  have x1 := cell_of HE1.out 1 _ rfl
  go_wp2_with fail
  go_loopw [5, 17] (fun _ i wr => ∃ (k : Nat) (rs : List RowV) (hA : Option Addr) (hc : Nat), i = .int .i64 (k : Int) ∧ k ≤ hs.length ∧ Hid (rs.length = k) ∧ Hid (rs.map RowV.l = (hs.take k).map (fun r => canonR r.l)) ∧ Hid (wr.heap[ob]? = some (.cells #[.slice B n d, .slice hA rs.length hc] 29)) ∧ Hid (∀ r ∈ rs, At 53 0 wr r.A (r.l.flatMap ptCells) ∧ r.l.length ≤ r.k) ∧ Hid (wr.ownsRow (ob + 1) 26 1 (.slice hA rs.length hc) rs.length (rs.map rowVal)) ∧ Hid (At 53 0 wr B ((canonR ol).flatMap ptCells)) ∧ Hid (Below ob W4 wr)) (fun _ i _ => hs.length - (intOf i).toNat)
  case atStart => exact ⟨0, [], none, 0, rfl, Nat.zero_le _, Lib.hid rfl, Lib.hid (by simp), HN4, Lib.hid (fun r hr => by cases hr), Lib.hid (World.ownsRow_nil _ _ _ _), HOW4, Lib.hid (Below.refl _ _)⟩
  case round =>
    obtain ⟨k, rs, hA, hc, rfl, hk, HLK, HMS, HX, HRS, HOW, HOB, HBO⟩ := hrel
    clear x1
    by_cases hlt : k < hs.length
    · have HBR := Lib.hid (HB4.out.trans (HBO.out.mono (show w.heap.size ≤ ob by omega)))
      have HBD : Hid (Below w.heap.size w wr.drew) := Lib.hid (below_drewN HBR.out 1)
      obtain ⟨g, off, rfl, hg, ca⟩ := row_one HIN.out.rB (k := k) (by rw [List.length_map]; exact hlt)
      have ck := (HBR.out.cell (p := ⟨g, off + k, none⟩) hg).trans (ca k (by rw [List.length_map]; exact hlt))
      rw [List.getElem_map] at ck
      have HTK : Hid ((hs.take (k + 1)).map (fun r => canonR r.l) = (hs.take k).map (fun r => canonR r.l) ++ [canonR (hs[k]).l]) := Lib.hid (by rw [List.take_succ_eq_append_getElem hlt, List.map_append, List.map_cons, List.map_nil])
      have hmem := List.getElem_mem hlt
      have hsh := HRH.out _ hmem
      have HCN := Lib.hid (fun W (hW : Below w.heap.size w W) => canon_any (hs[k]).l (hs[k]).A (hs[k]).k W ((HIN.out.rh _ hmem).below hW) (by omega) hsh.2.2.2)
      have HPC : Hid ((canonR (hs[k]).l).length = (hs[k]).l.length) := Lib.hid (by rw [hsh.1, begin_len])
      have hfw := HFW.out.1
      have hk1 : (0 : Int) ≤ (k : Int) := by omega
      have hk2 : (k : Int) < (hs.length : Int) := by omega
      have C3 : Hid (rs.length + 1 ≤ maxLen ∧ (rs.length + 1) * 24 ≤ 140737488355328) := Lib.hid (by have := HLK.out; have := HFW.out.1; unfold maxLen; omega)
      clear ca hmem hsh
      generalize hs[k] = p at *
      obtain ⟨pl, pA, pk⟩ := p
      unfold rowVal at ck
      dsimp only at ck HCN HTK HPC
      have z1 : wr.drew.cell? ⟨ob, 1, none⟩ = some (.slice hA rs.length hc) := cell_of (show wr.drew.heap[ob]? = _ from HX.out) 1 _ rfl
      go_upto_region 7 with fail
      clear ck
      refine wp_region_tillK (k := 7) (S1 := fun w' => True) (S2 := fun w' => w'.cell? ⟨ob, 1, none⟩ = some (.slice hA rs.length hc)) (by kernel_rfl) ?_ (fun hHeld => ?_)
      · exact ⟨trivial, z1⟩
      refine wpAnyK_take (i := 0) (oi := { dst := some 21, op := Op.fieldAddr 29 (Operand.tmp 3) 1, type := 0, pos := "shape.go:139", after := #[], guard := none }) (v := ?_) rfl (by kernel_rfl) (by kernel_rfl) (by kernel_rfl) (by kernel_rfl) (fun _ _ _ h => h) (Or.inl ⟨by rfl, ?_⟩) (by assumption) ?_
      rotate_left
      · intro w' hSw
        (try dsimp only at hSw)
        first | (go_simp; done) | (go_simp; with_reducible rfl)
      try simp only [Act.put, List.setIfInBounds_toArray, List.set_cons_zero, List.set_cons_succ]
      refine wpAnyK_take (i := 1) (oi := { dst := some 22, op := Op.load 27 (Operand.tmp 21), type := 27, pos := "shape.go:139", after := #[{ on := 0, ground := Ground.data }], guard := none }) (v := ?_) rfl (by kernel_rfl) (by kernel_rfl) (by kernel_rfl) (by kernel_rfl) (fun _ _ _ h => h) (Or.inl ⟨by rfl, ?_⟩) (by assumption) ?_
      rotate_left
      · intro w' hSw
        (try dsimp only at hSw)
        first | (go_simp; done) | (go_simp; with_reducible rfl)
      try simp only [Act.put, List.setIfInBounds_toArray, List.set_cons_zero, List.set_cons_succ]
      refine wpAnyK_take (i := 2) (oi := { dst := some 23, op := Op.move (Operand.tmp 5), type := 26, pos := "shape.go:139", after := #[], guard := none }) (v := ?_) rfl (by kernel_rfl) (by kernel_rfl) (by kernel_rfl) (by kernel_rfl) (fun _ _ _ h => h) (Or.inl ⟨by rfl, ?_⟩) (by assumption) ?_
      rotate_left
      · intro w' hSw
        (try dsimp only at hSw)
        first | (go_simp; done) | (go_simp; with_reducible rfl)
      try simp only [Act.put, List.setIfInBounds_toArray, List.set_cons_zero, List.set_cons_succ]
      refine wpAnyK_one (i := 3) (o := { dst := some 24, op := Op.call { callee := Callee.value (Operand.func 76), args := #[Operand.tmp 23], argTypes := #[26] }, type := 26, pos := "shape.go:139", after := #[{ on := 2, ground := Ground.data }], guard := none }) (by kernel_rfl) rfl (fun K hK => ?_)
      clear hHeld
      go_simp
      go_at_call 76
      refine (HCN.out wr.drew HBD.out).mono ?_
      rintro e w10 ⟨⟨v, rfl, hown⟩, hb10d⟩
      obtain ⟨A10, c10, rfl, hle10⟩ := own_shape hown
      have hb10 : Below wr.heap.size wr w10 := (show Below wr.heap.size wr wr.drew from below_drewN (Below.refl _ _) 1).trans hb10d
      have HB10 := Lib.hid (HBO.out.trans (hb10.mono (HOS.out _ HBO.out)))
      have HX10 := Lib.hid (p_below HX.out hb10)
      have HRS10 := Lib.hid (fun r hr => (HRS.out r hr).1.below hb10)
      have HOW10 := Lib.hid (own_below HOW.out hb10)
      have HOB10 := Lib.hid (HOB.out.below hb10)
      have HNA10 : Hid (At 53 0 w10 A10 ((canonR pl).flatMap ptCells)) := Lib.hid (At.of_own hown)
      have y10 := cell_of HX10.out 1 (.slice hA rs.length hc) rfl
      clear hown hb10d hb10
      refine hK.out _ _ ?_ (fun _ => ?_) (fun hHeld => ?_)
      · exact trivial
      · exact y10
      replace hHeld := And.intro hHeld.1 (hHeld.2 (by decide))
      clear hK K
      try simp only [Act.put, List.setIfInBounds_toArray, List.set_cons_zero, List.set_cons_succ]
      refine wpAnyK_one (i := 4) (o := { dst := some 25, op := Op.buildSlice 27 1 #[(0, Operand.tmp 24)], type := 27, pos := "shape.go:139", after := #[{ on := 3, ground := Ground.data }], guard := none }) (by kernel_rfl) rfl (fun K hK => ?_)
      go_simp
      have hbn := bel1 w10 (.cells #[.slice A10 (canonR pl).length c10] 26)
      have HB11 := Lib.hid (HB10.out.trans (hbn.mono (HOS.out _ HB10.out)))
      have HX11 := Lib.hid (p_below HX10.out hbn)
      have HRS11 := Lib.hid (fun r hr => (HRS10.out r hr).below hbn)
      have HOB11 := Lib.hid (HOB10.out.below hbn)
      have HNA11 := Lib.hid (HNA10.out.below hbn)
      have HOW11 := Lib.hid (own_below HOW10.out hbn)
      have HNW := Lib.hid (newN_row w10 [.slice A10 (canonR pl).length c10] 26)
      have y11 := cell_of HX11.out 1 (.slice hA rs.length hc) rfl
      have C5 : Hid (ob + 1 ≤ (w10.alloc (.cells #[.slice A10 (canonR pl).length c10] 26)).heap.size) := Lib.hid (blk_lt HX11.out)
      clear hbn
      refine hK.out _ _ ?_ (fun _ => ?_) (fun hHeld => ?_)
      · exact trivial
      · exact y11
      replace hHeld := And.intro hHeld.1 (hHeld.2 (by decide))
      clear hK K
      try simp only [Act.put, List.setIfInBounds_toArray, List.set_cons_zero, List.set_cons_succ]
      refine wpAnyK_one (i := 5) (o := { dst := some 26, op := Op.call { callee := Callee.builtin Builtin.append, args := #[Operand.tmp 22, Operand.tmp 25], argTypes := #[27, 27] }, type := 27, pos := "shape.go:139", after := #[{ on := 1, ground := Ground.data }, { on := 4, ground := Ground.data }, { on := 3, ground := Ground.chain }], guard := none }) (by kernel_rfl) rfl (fun K hK => ?_)
      refine step_append_row (by rfl) _ _ _ (by rfl) (ob + 1) 26 i0 _ 1 24 Tryz.underlying27 ia ib ic id rfl (by omega) (.slice hA rs.length hc) rs.length (rs.map rowVal) (by rfl) HOW11.out (some ⟨w10.heap.size, 0, none⟩) 1 1 [.slice A10 (canonR pl).length c10] (by rfl) HNW.out rfl (by intro uu hu; simp at hu; subst hu; rfl) C3.out.1 C3.out.2 C5.out ?_
      intro v12 w12 hown12 hg12
      obtain ⟨B12, d12, rfl, _⟩ := own_shape hown12
      have HB12 := Lib.hid (below_grown2 HB11.out hg12 (fun q hq => by have := (HOW11.out.lt q hq).1; omega) (HOS.out _ HB11.out))
      have HX12 := Lib.hid (heap_keep hg12 (RowW.own HOW11.out) (by decide) HX11.out)
      have HRS12 := Lib.hid (fun r hr => (HRS11.out r hr).keep hg12 ((RowW.own HOW11.out).mono (Nat.zero_le _)) (by decide))
      have HOB12 := Lib.hid (HOB11.out.keep hg12 ((RowW.own HOW11.out).mono (Nat.zero_le _)) (by decide))
      have HNA12 := Lib.hid (HNA11.out.keep hg12 ((RowW.own HOW11.out).mono (Nat.zero_le _)) (by decide))
      have HOW12 := Lib.hid hown12
      have y12 := cell_of HX12.out 1 (.slice hA rs.length hc) rfl
      have q12 := free_of HX12.out 1
      clear hown12 hg12 y10 y11 hHeld
      refine hK.out _ _ ?_ (fun _ => ?_) (fun hHeld => ?_)
      · exact trivial
      · exact y12
      replace hHeld := And.intro hHeld.1 (hHeld.2 (by decide))
      clear hK K
      try simp only [Act.put, List.setIfInBounds_toArray, List.set_cons_zero, List.set_cons_succ]
      refine wpAnyK_take (i := 6) (oi := { dst := some 27, op := Op.fieldAddr 29 (Operand.tmp 3) 1, type := 0, pos := "shape.go:139", after := #[{ on := 0, ground := Ground.phase }, { on := 1, ground := Ground.phase }, { on := 2, ground := Ground.phase }, { on := 3, ground := Ground.phase }, { on := 4, ground := Ground.phase }, { on := 5, ground := Ground.phase }], guard := none }) (v := ?_) rfl (by kernel_rfl) (by kernel_rfl) (by kernel_rfl) (by kernel_rfl) (fun _ _ _ h => h) (Or.inl ⟨by rfl, ?_⟩) (by assumption) ?_
      rotate_left
      · intro w' hSw
        (try dsimp only at hSw)
        first | (go_simp; done) | (go_simp; with_reducible rfl)
      try simp only [Act.put, List.setIfInBounds_toArray, List.set_cons_zero, List.set_cons_succ]
      refine wpAnyK_one (i := 7) (o := { dst := none, op := Op.store 27 (Operand.tmp 27) (Operand.tmp 26), type := 0, pos := "shape.go:139", after := #[{ on := 6, ground := Ground.data }, { on := 5, ground := Ground.data }, { on := 5, ground := Ground.chain }, { on := 0, ground := Ground.phase }, { on := 1, ground := Ground.phase }, { on := 2, ground := Ground.phase }, { on := 3, ground := Ground.phase }, { on := 4, ground := Ground.phase }, { on := 5, ground := Ground.phase }], guard := none }) (by kernel_rfl) rfl (fun K hK => ?_)
      go_simp
      have HG14 := Lib.hid (grown_set (grown_refl w12 (some ob)) 1 (.slice B12 (rs.length + 1) d12))
      have HB14 : Hid (Below ob W4 (w12.setCell ⟨ob, 1, none⟩ (.slice B12 (rs.length + 1) d12))) := Lib.hid (HB12.out.setCell (p := ⟨ob, 1, none⟩) (Nat.le_refl _) _)
      have HX14 : Hid ((w12.setCell ⟨ob, 1, none⟩ (.slice B12 (rs.length + 1) d12)).heap[ob]? = some (.cells #[.slice B n d, .slice B12 (rs.length + 1) d12] 29)) := Lib.hid (by simpa using block_set HX12.out 1 (.slice B12 (rs.length + 1) d12))
      have HRS14 := Lib.hid (fun r hr => (HRS12.out r hr).keep HG14.out (RowW.at HX12.out (Nat.zero_le _)) (by decide))
      have HOB14 := Lib.hid (HOB12.out.keep HG14.out (RowW.at HX12.out (Nat.zero_le _)) (by decide))
      have HNA14 := Lib.hid (HNA12.out.keep HG14.out (RowW.at HX12.out (Nat.zero_le _)) (by decide))
      have HOW14 := Lib.hid (own_keep HG14.out (RowW.at HX12.out (Nat.zero_le _)) (by decide) HOW12.out)
      refine hK.out _ _ ?_ (fun hne => ?_) (fun hHeld => ?_)
      · exact trivial
      · exact absurd rfl hne
      clear hK K
      try simp only [Act.put, List.setIfInBounds_toArray, List.set_cons_zero, List.set_cons_succ]
      refine wpAnyK_done (by kernel_rfl) ?_ _
      clear hHeld y12 q12 z1
      go_wp2_with fail
      go_roundw
      case rel => exact ⟨k + 1, rs ++ [⟨canonR pl, A10, c10⟩], B12, d12, by go_num, hlt, Lib.hid (by rw [List.length_append, HLK.out]; rfl), Lib.hid (by rw [HTK.out, List.map_append, HMS.out]; rfl), Lib.hid (by rw [List.length_append]; exact HX14.out), Lib.hid (fun r hr => by
        rcases List.mem_append.1 hr with hr | hr
        · exact ⟨HRS14.out r hr, (HRS.out r hr).2⟩
        · rw [List.mem_singleton.1 hr]; exact ⟨HNA14.out, hle10⟩), Lib.hid (by rw [List.length_append, List.map_append]; exact HOW14.out), HOB14, HB14⟩
      case measure => simp [intOf]; omega
    · obtain rfl : k = hs.length := by omega
      have HLL : Hid (rs.map RowV.l = (hs.map RowV.l).map beginL) := Lib.hid (by
        have h1 := HMS.out
        rw [List.take_length] at h1
        rw [h1, List.map_map]
        exact List.map_congr_left (fun r hr => (HRH.out r hr).1))
      have HRL : Hid (∀ r ∈ rs, 0 < r.l.length ∧ r.l.length ≤ 1000) := Lib.hid (fun r hr => by
        have h1 : r.l ∈ (hs.map RowV.l).map beginL := by rw [← HLL.out]; exact List.mem_map_of_mem hr
        obtain ⟨l2, h2, h3⟩ := List.mem_map.1 h1
        obtain ⟨r2, h4, rfl⟩ := List.mem_map.1 h2
        have h5 := HRH.out r2 h4
        rw [← h3, begin_len]
        omega)
      have HSR := Lib.hid (sortRings_own rs wr rfl HOW.out (by have := HLK.out; have := HFW.out.1; omega) (fun r hr => ⟨(HRL.out r hr).1, (HRS.out r hr).1⟩))
      have x1 := cell_of HX.out 1 _ rfl
      go_wp2_with fail
      refine HSR.out.mono ?_
      rintro e w5 ⟨rfl, hg5, l', hp, ha, hrow⟩
      have hb5 : Below (ob + 1) wr w5 := below_grown2 (Below.refl _ _) hg5 (fun q hq => (HOW.out.lt q hq).1) (blk_lt HX.out)
      have HB5 := Lib.hid (HBO.out.trans (hb5.mono (Nat.le_succ ob)))
      have HX5 := Lib.hid ((hb5.block ob (Nat.lt_succ_self ob)).trans HX.out)
      have HE5 := Lib.hid ((HB5.out.block (w.heap.size + 1) (by omega)).trans HE2.out)
      have hrw := (RowW.own HOW.out).mono (Nat.zero_le (ob + 1))
      have HRS5 := Lib.hid (fun r hr => (HRS.out r hr).1.keep hg5 hrw (by decide))
      have HOB5 := Lib.hid (HOB.out.keep hg5 hrw (by decide))
      have HOL : Hid (∀ q, (Value.slice hA rs.length hc).ownBlock = some q → ob + 1 ≤ q) := Lib.hid (fun q hq => (HOW.out.lt q hq).1)
      have HRW5 := Lib.hid hrow
      have HPM := Lib.hid hp
      have HAS := Lib.hid ha
      clear hg5 hb5 hrw hrow hp ha x1 HSR
      have o0 := cell_of HX5.out 0 _ rfl
      have o1 := cell_of HX5.out 1 _ rfl
      have z0 := cell_of HE5.out 0 _ rfl
      have z1 := cell_of HE5.out 1 _ rfl
      have q0 := free_of HE5.out 0
      have q1 := free_of HE5.out 1
      have HWF := Lib.hid (block_set (block_set HE5.out 0 (.slice B n d)) 1 (.slice hA rs.length hc))
      have HGF := Lib.hid (grown_set (grown_set (grown_refl w5 (some (w.heap.size + 1))) 0 (.slice B n d)) 1 (.slice hA rs.length hc))
      go_wp2_with fail
      clear o0 o1 z0 z1 q0 q1
      generalize (w5.setCell ⟨w.heap.size + 1, 0, none⟩ (.slice B n d)).setCell ⟨w.heap.size + 1, 1, none⟩ (.slice hA rs.length hc) = WF at *
      have z0 := cell_of HWF.out 0 _ rfl
      have z1 := cell_of HWF.out 1 _ rfl
      have hbf : Below w.heap.size w WF := below_grown2 (HB4.out.trans (HB5.out.mono (show w.heap.size ≤ ob by omega))) HGF.out (fun q hq => by cases hq; omega) (HB4.out.trans (HB5.out.mono (show w.heap.size ≤ ob by omega))).size
      have hw5 := RowW.at HE5.out (Nat.zero_le (w.heap.size + 1))
      have hlen : l'.length = rs.length := HPM.out.length_eq
      refine bodyPost_ret (v := .agg #[.slice B n d, .slice hA rs.length hc]) (by simp [results, Tryz.results27, go_sem, z0, z1]) rfl ?_
      refine ⟨⟨⟨⟨canonR ol, B, d⟩, l', hA, hc⟩, ?_, ⟨HOB5.out.keep HGF.out hw5 (by decide), HRW5.out.keep HGF.out hw5 (by decide), fun r hr => (HRS5.out r (HPM.out.mem_iff.1 hr)).keep HGF.out hw5 (by decide), ?_, fun r hr => ?_, ?_⟩, HRO.out, ?_⟩, hbf⟩
      · rw [← HNN.out, ← hlen]
      · show l'.length ≤ 1000
        rw [hlen, HLK.out]; exact HFW.out.1
      · rcases List.mem_cons.1 hr with rfl | hr
        · exact ⟨by show (canonR ol).length ≤ 1000; rw [HNN.out]; exact HNB.out, by show (canonR ol).length ≤ d; rw [HNN.out]; exact HND.out⟩
        · have hr2 := HPM.out.mem_iff.1 hr
          exact ⟨(HRL.out r hr2).2, (HRS.out r hr2).2⟩
      · show l'.length ≤ hc
        rw [hlen]
        obtain ⟨A2, c2, e2, h2⟩ := own_shape HOW.out
        injection e2 with _ _ e2
        omega
      · exact holes_one HVL.out (by
          show (l'.map RowV.l).Perm ((hs.map RowV.l).map beginL)
          rw [← HLL.out]
          exact HPM.out.map _) HAS.out
end Go.Proofs.YtnmmhcchpcbeeaaGreat.GeW

namespace Go.Proofs.YtnmmhcchpcbeeaaGreat.GeW
open Go Go.RowKit Go.Proofs.YtnmmhcchpcbeeaaGreat.Mem Go.Proofs.YtnmmhcchpcbeeaaGreat.Ge
open Go.Sort Go.Shelf
attribute [local go_sem ↓] Go.wp_at_zero Go.wp_at_succ
theorem ins_noneS (A : Option Addr) (c : Nat) (fv : Value) (w : World) : Calls Tryz.prog 161 #[.slice A 0 c, .int .i64 0, .int .i64 0, fv] w fun e w' => e = .returned (.tuple #[]) ∧ w' = w := by
  go_enter Tryz.func161, Tryz.ntmps161
  go_wp2_with fail
  refine wp_loop_rounds 1 ?_
  rw [rounds_succ]
  go_wp2
  go_end0
  exact ⟨rfl, rfl⟩
theorem pdq_noneS (A : Option Addr) (c : Nat) (lim : Int) (fv : Value) (w : World) : Calls Tryz.prog 116 #[.slice A 0 c, .int .i64 0, .int .i64 0, .int .i64 lim, fv] w fun e w' => e = .returned (.tuple #[]) ∧ w' = w := by
  have H := Lib.hid (ins_noneS A c fv w)
  go_enter Tryz.func116, Tryz.ntmps116
  go_wp2_with fail
  refine wp_loop_rounds 1 ?_
  rw [rounds_succ]
  go_wp2_with fail
  refine H.out.mono ?_
  rintro e w1 ⟨rfl, rfl⟩
  go_wp2
  (try simp only [Exit.inBlock, Exit.then])
  refine bodyPost_ret (results_none rfl _ _ _) rfl ?_
  exact ⟨rfl, rfl⟩
theorem sort_noneS (A : Option Addr) (c : Nat) (fv : Value) (w : World) : Calls Tryz.prog 56 #[.slice A 0 c, fv] w fun e w' => e = .returned (.tuple #[]) ∧ w' = w := by
  have H := Lib.hid (fun x => pdq_noneS A c x fv w)
  have HL := Lib.hid (len_none w)
  go_enter Tryz.func56, Tryz.ntmps56
  go_wp2_with fail
  refine HL.out.mono ?_
  rintro e w1 ⟨⟨x, rfl⟩, rfl⟩
  go_wp2_with fail
  refine (H.out x).mono ?_
  rintro e w2 ⟨rfl, rfl⟩
  go_wp2
  go_end0
  exact ⟨rfl, rfl⟩
def shapeC (m : ShapeM) : List Value := [rowVal m.o, holesVal m]
theorem shapeC_len (m : ShapeM) : (shapeC m).length = 2 := rfl
theorem hd_zero {l : List V} (h : 0 < l.length) : hd l = l[0] := by
  unfold hd
  cases l with
  | nil => exact absurd h (by decide)
  | cons p t => rfl
theorem Grew.cell {w w' : World} (h : Grew w w') {b : Nat} {o : Obj} (hb : w.heap[b]? = some o) : w'.heap[b]? = some o := (h.below.block b (blk_lt hb)).trans hb
set_option maxRecDepth 100000 in
set_option maxHeartbeats 2000000 in
theorem cmpShape_grew (l m : List V) (A B HA HB : Option Addr) (c d ha hb hc hd' : Nat) (w : World) (hr : Row w A (l.flatMap ptCells)) (hs : Row w B (m.flatMap ptCells)) (hl : 0 < l.length) (hm : 0 < m.length) :
    Calls Tryz.prog 57 #[.agg #[.slice A l.length c, .slice HA ha hb], .agg #[.slice B m.length d, .slice HB hc hd']] w fun e w' => e = .returned (.int .i64 (vcmp (hd l) (hd m))) ∧ Grew w w' := by
  rw [hd_zero hl, hd_zero hm]
  obtain ⟨g, off, rfl, hg, ca⟩ := row_get pt_len (by decide) hr hl
  obtain ⟨g2, off2, rfl, hg2, cb⟩ := row_get pt_len (by decide) hs hm
  have a0 := ca 0 hl 0 (by decide)
  have a1 := ca 0 hl 1 (by decide)
  have b0 := cb 0 hm 0 (by decide)
  have b1 := cb 0 hm 1 (by decide)
  clear ca cb hr hs
  generalize l[0] = p at *
  generalize m[0] = q at *
  obtain ⟨x, y⟩ := p
  obtain ⟨u, v⟩ := q
  simp only [ptCells, List.getElem?_cons_zero, List.getElem?_cons_succ, Nat.zero_mul, Nat.add_zero] at a0 a1 b0 b1
  have HC := Lib.hid (fun W => vcmp_grew x y u v W)
  generalize l.length = n1 at *
  generalize m.length = n2 at *
  have HO := Lib.hid (((Grew.refl w).alloc (.cells #[.slice (some ⟨g, off, none⟩) n1 c, .slice HA ha hb] 29)).alloc (.cells #[.slice (some ⟨g2, off2, none⟩) n2 d, .slice HB hc hd'] 29))
  have HX1 : Hid (((w.alloc (.cells #[.slice (some ⟨g, off, none⟩) n1 c, .slice HA ha hb] 29)).alloc (.cells #[.slice (some ⟨g2, off2, none⟩) n2 d, .slice HB hc hd'] 29)).heap[w.heap.size]? = some (.cells #[.slice (some ⟨g, off, none⟩) n1 c, .slice HA ha hb] 29)) := Lib.hid (p_below (heap_new w _) (bel1 _ _))
  have HX2 : Hid (((w.alloc (.cells #[.slice (some ⟨g, off, none⟩) n1 c, .slice HA ha hb] 29)).alloc (.cells #[.slice (some ⟨g2, off2, none⟩) n2 d, .slice HB hc hd'] 29)).heap[w.heap.size + 1]? = some (.cells #[.slice (some ⟨g2, off2, none⟩) n2 d, .slice HB hc hd'] 29)) := Lib.hid (by have := heap_new (w.alloc (.cells #[.slice (some ⟨g, off, none⟩) n1 c, .slice HA ha hb] 29)) (.cells #[.slice (some ⟨g2, off2, none⟩) n2 d, .slice HB hc hd'] 29); rw [World.size_alloc] at this; exact this)
  have d1 : (0 < n1) = True := eq_true hl
  have d2 : (0 < n2) = True := eq_true hm
  generalize vcmp (x, y) (u, v) = r at *
  go_enter Tryz.func57, Tryz.ntmps57
  go_upto_region 1 with fail
  generalize (w.alloc (.cells #[.slice (some ⟨g, off, none⟩) n1 c, .slice HA ha hb] 29)).alloc (.cells #[.slice (some ⟨g2, off2, none⟩) n2 d, .slice HB hc hd'] 29) = W at *
  have CS : Hid (∀ w', Grew W w' → w'.cell? ⟨g, off, none⟩ = some (.int .i64 x) ∧ w'.cell? ⟨g, off + 1, none⟩ = some (.int .i64 y) ∧ w'.cell? ⟨g2, off2, none⟩ = some (.int .i64 u) ∧ w'.cell? ⟨g2, off2 + 1, none⟩ = some (.int .i64 v) ∧ w'.cell? ⟨w.heap.size, 0, none⟩ = some (.slice (some ⟨g, off, none⟩) n1 c) ∧ w'.cell? ⟨w.heap.size + 1, 0, none⟩ = some (.slice (some ⟨g2, off2, none⟩) n2 d) ∧ Grew W w') := Lib.hid (fun w' hb' => by
    have hb := (HO.out.trans hb').below
    exact ⟨(hb.cell (p := ⟨g, off, none⟩) hg).trans a0, (hb.cell (p := ⟨g, off + 1, none⟩) hg).trans a1, (hb.cell (p := ⟨g2, off2, none⟩) hg2).trans b0, (hb.cell (p := ⟨g2, off2 + 1, none⟩) hg2).trans b1, by rw [Lib.cell_of_heap (hb'.cell HX1.out)]; rfl, by rw [Lib.cell_of_heap (hb'.cell HX2.out)]; rfl, hb'⟩)
  clear hg hg2 a0 a1 b0 b1
  obtain ⟨q0, q1, q2, q3, q5, q6, q4⟩ := CS.out W (Grew.refl _)
  go_region_held3 (fun w' => w'.cell? ⟨g, off, none⟩ = some (.int .i64 x) ∧ w'.cell? ⟨g, off + 1, none⟩ = some (.int .i64 y) ∧ w'.cell? ⟨g2, off2, none⟩ = some (.int .i64 u) ∧ w'.cell? ⟨g2, off2 + 1, none⟩ = some (.int .i64 v) ∧ w'.cell? ⟨w.heap.size, 0, none⟩ = some (.slice (some ⟨g, off, none⟩) n1 c) ∧ w'.cell? ⟨w.heap.size + 1, 0, none⟩ = some (.slice (some ⟨g2, off2, none⟩) n2 d) ∧ Grew W w')
    (first | assumption | exact CS.out _ q4.drew | exact CS.out _ q4 | exact CS.out _ ((Grew.drew q4).trans hcall))
    (first | (go_at_call 58; refine (HC.out _).mono ?_; rintro e w4 ⟨rfl, hcall⟩))
  go_wp2
  go_ret
  exact ⟨rfl, HO.out.trans (by first | exact q4 | exact q4.drew | exact (Grew.drew q4).trans hcall)⟩
theorem sortWK_grown {α : Type} [Inhabited α] (enc : α → List Value) (k : Nat) (w : World) (b m : Nat) (d : Array α) (os : Array Obj) : w.grownBy (sortWorldK enc k w b 0 m d os) (some b) := by
  refine ⟨rfl, rfl, rfl, ?_, fun j hk hne => ?_⟩
  · unfold sortWorldK putRowK putRow mapBlock grow Go.Sort.ahead
    simp
  · unfold sortWorldK putRowK putRow mapBlock grow Go.Sort.ahead
    have hnk : ¬ b = j := fun e => hne (by rw [e])
    rw [Array.getElem?_append_left (by simpa using hk), Array.getElem?_modify, if_neg hnk]
theorem sortWK_tag {α : Type} [Inhabited α] (enc : α → List Value) (k : Nat) (w : World) (b m : Nat) (d : Array α) (os : Array Obj) {cur : Array Value} {T : TypeId} {fz : Nat × Nat} (h : w.heap[b]? = some (.cells cur T fz)) : ∃ cur' fz', (sortWorldK enc k w b 0 m d os).heap[b]? = some (.cells cur' T fz') := by
  have hlt := (Array.getElem?_eq_some_iff.1 h).1
  have e : (sortWorldK enc k w b 0 m d os).heap[b]? = (w.heap[b]?).map (onCells (putCells id 0 (flatK enc k d))) := by
    unfold sortWorldK putRowK putRow mapBlock grow Go.Sort.ahead
    rw [Array.getElem?_append_left (by simpa using hlt), Array.getElem?_modify, if_pos rfl]
  rw [e, h]
  exact ⟨_, _, rfl⟩
abbrev ShapeN (b : Nat) (w : World) : Type := {m : ShapeM // 0 < m.o.l.length ∧ RowNot b w m.o.A (m.o.l.flatMap ptCells)}
theorem ltOf_lessS {b : Nat} {w : World} (x y : ShapeN b w) : Go.Proofs.ltOf (fun x y : ShapeN b w => vcmp (hd x.1.o.l) (hd y.1.o.l)) x y = less (hd x.1.o.l) (hd y.1.o.l) := (vcmp_less _ _)
theorem swo_shape (b : Nat) (w : World) : SWO (Go.Proofs.ltOf (fun x y : ShapeN b w => vcmp (hd x.1.o.l) (hd y.1.o.l))) where
  irrefl x := by rw [ltOf_lessS]; exact less_irr _
  trans x y z h1 h2 := by
    rw [ltOf_lessS] at *
    cases h3 : less (hd x.1.o.l) (hd z.1.o.l)
    · rw [nless_trans (less_asymm h2) h3] at h1; cases h1
    · rfl
  ntrans x y z h1 h2 := by rw [ltOf_lessS] at *; exact nless_trans h2 h1
theorem flatK_get {α : Type} [Inhabited α] (enc : α → List Value) (d : Array α) (hk : ∀ x, (enc x).length = 2) (t : Nat) (h : t < d.size * 2) : some ((flatK enc 2 d)[t]!) = (d.toList.flatMap enc)[t]? := by
  have h1 : t / 2 < d.toList.length := by rw [Array.length_toList]; omega
  have h2 := flatMap_get hk d.toList (t / 2) (t % 2) h1 (by omega)
  rw [show t / 2 * 2 + t % 2 = t by omega] at h2
  rw [h2, get_flatK _ _ _ _ h, getElem!_pos d (t / 2) (by simpa using h1)]
  have h3 : t % 2 < (enc d[t / 2]).length := by rw [hk]; omega
  rw [getElem!_pos (enc d[t / 2]) (t % 2) h3]
  simp [List.getElem?_eq_getElem h3]
set_option maxRecDepth 100000 in
theorem sortShapes_any (b c base : Nat) (l : List ShapeM) (w : World) (hown : w.ownsRow base 29 2 (.slice (some ⟨b, 0, none⟩) l.length c) l.length (l.flatMap shapeC)) (h0 : 0 < l.length) (hl : l.length ≤ 1000000) (hr : ∀ m ∈ l, 0 < m.o.l.length ∧ RowNot b w m.o.A (m.o.l.flatMap ptCells)) :
    Calls Tryz.prog 56 #[.slice (some ⟨b, 0, none⟩) l.length c, .func (.func 57) #[] #[]] w fun e w' => e = .returned (.tuple #[]) ∧ w.grownBy w' (some b) ∧ ∃ l' : List ShapeM, l'.Perm l ∧ (l'.Pairwise fun x y => less (hd y.o.l) (hd x.o.l) = false) ∧ Row w' (some ⟨b, 0, none⟩) (l'.flatMap shapeC) ∧ ∃ cur fz, w'.heap[b]? = some (.cells cur 29 fz) := by
  haveI : Inhabited (ShapeN b w) := ⟨⟨l[0], hr _ (List.getElem_mem h0)⟩⟩
  obtain ⟨la, hla⟩ : ∃ la : List (ShapeN b w), la.map Subtype.val = l := ⟨l.attachWith _ hr, by simp⟩
  have hsz : la.length = l.length := by rw [← hla, List.length_map]
  have hblk : b < w.heap.size := (hown.lt b rfl).2
  obtain ⟨enc, henc⟩ : ∃ enc : ShapeN b w → List Value, enc = fun x => shapeC x.1 := ⟨_, rfl⟩
  have hk2 : ∀ x, (enc x).length = 2 := fun x => by subst henc; rfl
  have hfl : la.flatMap enc = l.flatMap shapeC := by subst henc; rw [← hla, List.flatMap_map]
  have hH : HoldsK enc 2 w b 0 la.toArray := by
    intro j hj
    have hj1 : j < la.toArray.size * 2 := by simpa using hj
    have hj2 : j < l.length * 2 := by rw [← hsz]; simpa using hj1
    refine ⟨?_, ?_⟩
    · have e1 := hown.cellAt (g := b) j (by omega)
      rw [Nat.zero_add, e1, ← hfl]
      exact (flatK_get enc la.toArray hk2 j hj1).symm
    · rcases hown.2 with ⟨_, h2⟩ | ⟨g', cap, cur, hv, _, hh, _⟩
      · omega
      · injection hv with hv1
        injection hv1 with hv1
        injection hv1 with hv1
        subst hv1
        unfold World.frozen?
        rw [hh]
        simp
  have hcmp : Go.Proofs.CmpLays Tryz.prog 57 #[] enc 2 (fun x y : ShapeN b w => vcmp (hd x.1.o.l) (hd y.1.o.l)) b 0 la.toArray.size w := fun m os dk _ x y => by
    have hg := sortWK_grown enc 2 w b m dk os
    have h1 := cmpShape_grew x.1.o.l y.1.o.l x.1.o.A y.1.o.A x.1.B y.1.B x.1.o.k y.1.o.k x.1.hs.length x.1.k y.1.hs.length y.1.k (sortWorldK enc 2 w b 0 m dk os) (x.2.2.keep hg).row (y.2.2.keep hg).row x.2.1 y.2.1
    subst henc
    exact h1
  have hmain := Go.Proofs.AnyQ.slices_SortFunc Tryz.sortShape 2 (fun w => rfl) (fun w => rfl) enc hk2 (by
    subst henc
    intro x v hv
    simp [shapeC] at hv
    rcases hv with rfl | rfl <;> rfl) _ (swo_shape b w) 57 #[] b 0 c la.toArray w (fun args w => rfl) hcmp hH hblk (by simp; omega)
  have es : la.toArray.size = l.length := by simpa using hsz
  rw [es] at hmain
  refine hmain.mono ?_
  rintro e' w' ⟨rfl, d', m, os, hp, hso, rfl⟩
  have hds : d'.size = l.length := by rw [hp.1]; exact es
  have hgr := sortWK_grown enc 2 w b m d' os
  refine ⟨rfl, hgr, d'.toList.map Subtype.val, ?_, ?_, ?_, ?_⟩
  · have h3 := hp.2.2
    have e1 : d'.extract 0 l.length = d' := by rw [← hds]; exact Array.extract_size
    have e2 : la.toArray.extract 0 l.length = la.toArray := by rw [← es]; exact Array.extract_size
    rw [e1, e2] at h3
    have h4 := h3.map Subtype.val
    rw [show la.toArray.toList = la from rfl, hla] at h4
    exact h4
  · rw [List.pairwise_iff_getElem]
    intro i j hi hj hij
    simp only [List.length_map, Array.length_toList] at hi hj
    have h5 := hso i j (Nat.zero_le _) hij (by omega)
    rw [getElem!_pos d' i hi, getElem!_pos d' j hj, ltOf_lessS] at h5
    simpa using h5
  · have hS : Go.Proofs.SWK enc 2 w b 0 d' (sortWorldK enc 2 w b 0 m d' os) := ⟨m, os, rfl⟩
    have hK := hS.holds hblk hH hp.1
    have hf2 : (d'.toList.map Subtype.val).flatMap shapeC = d'.toList.flatMap enc := by subst henc; rw [List.flatMap_map]
    rw [hf2]
    intro _
    refine ⟨b, 0, rfl, Nat.lt_of_lt_of_le hblk hgr.size, fun j hj => ?_⟩
    have hj1 : j < d'.size * 2 := by
      have hj2 := hj
      rw [flatMap_len hk2, Array.length_toList] at hj2
      exact hj2
    rw [(hK j (by simpa using hj1)).1]
    exact flatK_get enc d' hk2 j hj1
  · rcases hown.2 with ⟨_, h2⟩ | ⟨g', cap, cur, hv, _, hh, _⟩
    · omega
    · injection hv with hv1
      injection hv1 with hv1
      injection hv1 with hv1
      subst hv1
      exact sortWK_tag enc 2 w b m d' os hh
theorem sortShapes_own {base n c : Nat} {A : Option Addr} (l : List ShapeM) (w : World) (hn : n = l.length) (hown : w.ownsRow base 29 2 (.slice A n c) n (l.flatMap shapeC)) (hl : l.length ≤ 1000000) (hr : ∀ m ∈ l, 0 < m.o.l.length ∧ At 53 0 w m.o.A (m.o.l.flatMap ptCells)) :
    Calls Tryz.prog 56 #[.slice A n c, .func (.func 57) #[] #[]] w fun e w' => e = .returned (.tuple #[]) ∧ w.grownBy w' (Value.slice A n c).ownBlock ∧ ∃ l' : List ShapeM, l'.Perm l ∧ (l'.Pairwise fun x y => less (hd y.o.l) (hd x.o.l) = false) ∧ Row w' A (l'.flatMap shapeC) := by
  subst hn
  rcases Nat.eq_zero_or_pos l.length with h0 | h0
  · have hl0 : l = [] := List.eq_nil_of_length_eq_zero h0
    subst hl0
    refine (sort_noneS A c _ w).mono ?_
    rintro e w' ⟨rfl, rfl⟩
    exact ⟨rfl, grown_refl _ _, [], List.Perm.refl _, List.Pairwise.nil, Row.nil _ _⟩
  · obtain ⟨b, rfl⟩ : ∃ b, A = some ⟨b, 0, none⟩ := by
      rcases hown.2 with ⟨_, h2⟩ | ⟨g', cap, cur, hv, _⟩
      · omega
      · injection hv with hv1
        exact ⟨g', hv1⟩
    have ht := (own_tag hown (g := b) rfl).1
    refine (sortShapes_any b c base l w hown h0 hl (fun m hm => ⟨(hr m hm).1, ?_⟩)).mono ?_
    · have h1 := hr m hm
      have hne : m.o.l.flatMap ptCells ≠ [] := by
        intro e
        have := flatMap_len pt_len m.o.l
        rw [e] at this
        simp at this
        omega
      obtain ⟨g, off, hA, hlt, hc⟩ := h1.2.1 hne
      refine ⟨g, off, hA, hlt, ?_, hc⟩
      rcases h1.2.2 hne g off hA with h2 | h2
      · exact absurd h2 (Nat.not_lt_zero _)
      · exact tag_ne h2 ht (by decide)
    · rintro e w' ⟨rfl, hg, l', hp, ha, hrow, _⟩
      exact ⟨rfl, hg, l', hp, ha, hrow⟩
end Go.Proofs.YtnmmhcchpcbeeaaGreat.GeW
