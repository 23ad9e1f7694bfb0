/- Walk: the reference's parser reads a circle. Conditions: the parser and its tokens lie in memory, apart. -/
import Derived.Test.YtnkkcknogkgdkaaGreatDoorPrC
import Derived.Test.YtnkkcknogkgdkaaGreatDoorPaL

namespace Go.Proofs.YtnkkcknogkgdkaaGreatDoor.PaW
open Go Go.RowKit Go.Proofs.YtnkkcknogkgdkaaGreatDoor.Mem Go.Proofs.YtnkkcknogkgdkaaGreatDoor.Pa
open Go.Proofs.YtnkkcknogkgdkaaGreatDoor.Ge (V)
open Go.Proofs.YtnkkcknogkgdkaaGreatDoor.Lex (Tok)
open Go.Proofs.YtnkkcknogkgdkaaGreatDoor.LexW (tokCells)
attribute [local go_sem ↓] Go.wp_at_zero Go.wp_at_succ

theorem Rc.wide {w0 w w' : World} {row : Option Nat} {b : Nat} {A : Option Addr} {c : Nat} {L : List Tok} {E : Nat} {st : St} {mn : Bool} (h : Rc w b A c L E st mn) (h0 : Row w0 A (L.flatMap tokCells)) (hb : b < w0.heap.size) (hg : w.grownBy w' row) (hro : ∀ k, row = some k → w0.heap.size ≤ k) : Rc w' b A c L E st mn := by
 obtain ⟨⟨i, pos, e, m, ho, hi, hs⟩, hr, ha, hf⟩ := h
 refine ⟨⟨i, pos, e, m, (hg.block b (blk_lt ho) (fun e => by have := hro b e.symm; omega)).trans ho, hi, hs⟩, fun hne => ?_, ha, hf⟩
 obtain ⟨g0, off0, e0, hg0, _⟩ := h0 hne
 obtain ⟨g, off, e, hgl, hc⟩ := hr hne
 rw [e0] at e
 cases e
 exact ⟨_, _, e0, Nat.lt_of_lt_of_le hgl hg.size, fun j hj => by
  rw [World.cell?_of_block (hg.block g0 hgl (fun e => by have := hro g0 e.symm; omega))]
  exact hc j hj⟩
theorem Rc.rowW {w : World} {b : Nat} {A : Option Addr} {c : Nat} {L : List Tok} {E : Nat} {st : St} {mn : Bool} (h : Rc w b A c L E st mn) : RowW w 0 100 (some b) := by
 obtain ⟨⟨i, pos, e, m, ho, hi, hs⟩, _⟩ := h
 exact RowW.at ho (Nat.zero_le _)
theorem Rc.lt {w : World} {b : Nat} {A : Option Addr} {c : Nat} {L : List Tok} {E : Nat} {st : St} {mn : Bool} (h : Rc w b A c L E st mn) : b < w.heap.size := by
 obtain ⟨⟨i, pos, e, m, ho, hi, hs⟩, _⟩ := h
 exact blk_lt ho
theorem Rc.new {w w0 : World} {b : Nat} {A : Option Addr} {c : Nat} {L : List Tok} {E r : Nat} {st : St} {mn : Bool} (h : Rc w b A c L E st mn) (hb : b < w0.heap.size) (h0 : Row w0 A (L.flatMap tokCells)) (hr : w0.heap.size ≤ r) (j : Nat) (v : Value) : Rc (w.setCell ⟨r, j, none⟩ v) b A c L E st mn :=
 h.wide h0 hb (grown_set (grown_refl _ (some r)) j v) (fun k e => by cases e; exact hr)
theorem Rc.fits {w : World} {b : Nat} {A : Option Addr} {c : Nat} {L : List Tok} {E : Nat} {st : St} {mn : Bool} (h : Rc w b A c L E st mn) : St.fits L st := by
 obtain ⟨⟨i, pos, e, m, ho, hi, hs⟩, _⟩ := h
 cases st with
 | bad k e => trivial
 | ok j =>
  obtain ⟨rfl, _, _⟩ := hs
  exact hi
/-- Behind a failure nothing is said of the flag. -/
theorem Rc.flag {w : World} {b : Nat} {A : Option Addr} {c : Nat} {L : List Tok} {E k : Nat} {er : Int} {mn : Bool} (h : Rc w b A c L E (.bad k er) mn) (mn' : Bool) : Rc w b A c L E (.bad k er) mn' := by
 obtain ⟨⟨i, pos, e, m, ho, hi, hs⟩, hr, ha, hf⟩ := h
 exact ⟨⟨i, pos, e, m, ho, hi, hs⟩, hr, ha, hf⟩
/-- The flag is put. -/
theorem Rc.mark {w : World} {b : Nat} {A : Option Addr} {c : Nat} {L : List Tok} {E : Nat} {st : St} {mn : Bool} (h : Rc w b A c L E st mn) (q : Bool) : ∃ m : Bool, w.cell? ⟨b, 5, none⟩ = some (.bool m) ∧ w.frozen? ⟨b, 5, none⟩ = false ∧ (∀ i, st = .ok i → m = mn) ∧ Rc (w.setCell ⟨b, 5, none⟩ (.bool (m || q))) b A c L E st (mn || q) := by
 obtain ⟨⟨i, pos, e, m, ho, hi, hs⟩, hr, ha, hf⟩ := h
 refine ⟨m, cell_of ho 5 _ rfl, free_of ho 5, fun i e => by subst e; exact hs.2.2, ⟨i, pos, e, m || q, block_set ho 5 _, hi, ?_⟩, row_grown hr ha (grown_set (grown_refl _ _) _ _), ha, hf⟩
 cases st with
 | bad k er => exact hs
 | ok j => exact ⟨hs.1, hs.2.1, by rw [hs.2.2]⟩
/-- An outline of the reference that a call has made. -/
def ROutP (o : Outline) (w : World) (v : Value) : Prop := ∃ (A : Option Addr) (d : Nat), v = outV o A d ∧ At 140 0 w A (o.steps.flatMap stepCells) ∧ o.steps.length ≤ d ∧ o.steps.length ≤ 20002
def RResP {α : Type} (P : α → World → Value → Prop) (mk : α → Bool) (F : Pa.Op α) (w : World) (b : Nat) (A : Option Addr) (c : Nat) (L : List Tok) (E : Nat) (mn : Bool) (st : St) (e : Ending) (w' : World) : Prop :=
 ∃ (a : α) (t : St) (v : Value), e = .returned v ∧ P a w' v ∧ Ran F L E st a t ∧ Rc w' b A c L E t (mn || mk a) ∧ w.grownBy w' (some b)
theorem info_rstep : (Tryz.prog.info? 140).map (fun i => (i.zero, i.size, i.bytes)) = some (some (.agg #[.bool false, .int .i64 0, .int .i64 0, .int .i64 0, .int .i64 0, .bool false]), 6, 48) := by kernel_rfl
/-- The rows of a source that is being gathered. -/
def RowsR (B : Nat) (w : World) (m : SrcM) : Prop := w.ownsRow B 3 1 (.slice m.tA m.turns.length m.tc) m.turns.length (m.turns.map (Value.int .i64)) ∧ w.ownsRow B 38 5 (.slice m.hA m.holes.length m.hc) m.holes.length (m.holes.flatMap outCells) ∧ OutIn 140 0 w m.outer ∧ ∀ h ∈ m.holes, OutIn 140 0 w h
theorem RowsR.keep {B : Nat} {w w' : World} {m : SrcM} {T : TypeId} {row : Option Nat} (h : RowsR B w m) (hg : w.grownBy w' row) (hr : RowW w 0 T row) (h1 : T ≠ 3) (h2 : T ≠ 38) (h3 : T ≠ 140) : RowsR B w' m :=
 ⟨own_keep hg hr h1 h.1, own_keep hg hr h2 h.2.1, h.2.2.1.keep hg hr h3, fun x hx => (h.2.2.2 x hx).keep hg hr h3⟩
theorem RowsR.in_ {B : Nat} {w : World} {m : SrcM} (h : RowsR B w m) (h1 : m.turns.length ≤ 1000000) (h2 : m.holes.length ≤ 1000000) : SrcIn 38 140 0 w m :=
 ⟨At.of_own h.1, h.2.2.1, At.of_own h.2.1, h.2.2.2, h1, h2⟩
structure RSt (w0 wr : World) (xb b : Nat) (A : Option Addr) (c : Nat) (L : List Tok) (E : Nat) (st : St) (mn : Bool) (m : SrcM) : Prop where
 pc : Rc wr b A c L E st mn
 res : wr.heap[w0.heap.size]? = some (.cells #[.string ⟨#[]⟩, .string ⟨#[]⟩, .int .i64 0, .slice none 0 0, .int .i64 0, .bool false, .int .i64 0, .int .i64 0, .int .i64 0, .slice none 0 0, .slice none 0 0] 41)
 obj : wr.heap[xb]? = some (.cells (srcCells m).toArray 41 (0, 0))
 rows : RowsR (w0.heap.size + 1) wr m
 gr : w0.grownBy wr (some b)
 row : Row w0 A (L.flatMap tokCells)
 lt : b < w0.heap.size
 lx : w0.heap.size < xb
section
variable {w0 wr w1 : World} {xb b : Nat} {A : Option Addr} {c : Nat} {L : List Tok} {E : Nat} {st st' : St} {mn mn' : Bool} {m m' : SrcM}
theorem RSt.step (h : RSt w0 wr xb b A c L E st mn m) (hp : Rc w1 b A c L E st' mn') (hg : wr.grownBy w1 (some b)) : RSt w0 w1 xb b A c L E st' mn' m := by
 have hl := h.lt
 have hx := h.lx
 exact ⟨hp, (hg.block _ (blk_lt h.res) (fun e => by injection e; omega)).trans h.res, (hg.block _ (blk_lt h.obj) (fun e => by injection e; omega)).trans h.obj, h.rows.keep hg (h.pc.rowW) (by decide) (by decide) (by decide), h.gr.trans hg, h.row, hl, hx⟩
theorem RSt.below (h : RSt w0 wr xb b A c L E st mn m) (hb : Below wr.heap.size wr w1) : RSt w0 w1 xb b A c L E st mn m :=
 h.step (h.pc.below hb) (grown_below (grown_refl wr (some b)) hb)
/-- The source's own block is written. -/
theorem RSt.put (h : RSt w0 wr xb b A c L E st mn m) (hg : wr.grownBy w1 (some xb)) (ho : w1.heap[xb]? = some (.cells (srcCells m').toArray 41 (0, 0))) (hr : RowsR (w0.heap.size + 1) w1 m') : RSt w0 w1 xb b A c L E st mn m' := by
 have hl := h.lt
 have hx := h.lx
 exact ⟨h.pc.wide h.row hl hg (fun k e => by cases e; omega), (hg.block _ (blk_lt h.res) (fun e => by injection e; omega)).trans h.res, ho, hr, grown_wide h.gr hg (fun k e => by cases e; omega), h.row, hl, hx⟩
theorem RSt.keepX (h : RSt w0 wr xb b A c L E st mn m) (hg : wr.grownBy w1 (some xb)) : RowsR (w0.heap.size + 1) w1 m :=
 h.rows.keep hg (RowW.at h.obj (Nat.zero_le _)) (by decide) (by decide) (by decide)
/-- A row of the call's own has grown. -/
theorem RSt.grown (h : RSt w0 wr xb b A c L E st mn m) {row : Option Nat} (hg : wr.grownBy w1 row) (hr : ∀ k, row = some k → w0.heap.size + 1 ≤ k ∧ k ≠ xb) (hrows : RowsR (w0.heap.size + 1) w1 m') (hc : srcCells m' = srcCells m) : RSt w0 w1 xb b A c L E st mn m' := by
 have hl := h.lt
 have hx := h.lx
 refine ⟨h.pc.wide h.row hl hg (fun k e => by have := hr k e; omega), (hg.block _ (blk_lt h.res) (fun e => by have := hr _ e.symm; omega)).trans h.res, ?_, hrows, grown_wide h.gr hg (fun k e => by have := hr k e; omega), h.row, hl, hx⟩
 rw [hc]
 exact (hg.block _ (blk_lt h.obj) (fun e => (hr _ e.symm).2 rfl)).trans h.obj
end
section
variable {w0 w4 w5 : World} {xb b : Nat} {A : Option Addr} {c : Nat} {L : List Tok} {E : Nat} {st : St} {mn : Bool} {m : SrcM}
theorem RSt.pushT {v : Int} {B' : Option Addr} {d' : Nat} (h : RSt w0 w4 xb b A c L E st mn m) (hown : w5.ownsRow (w0.heap.size + 1) 3 1 (.slice B' (m.turns.length + 1) d') (m.turns.length + 1) (m.turns.map (Value.int .i64) ++ [.int .i64 v])) (hg : w4.grownBy w5 (Value.slice m.tA m.turns.length m.tc).ownBlock) :
  RSt w0 (w5.setCell ⟨xb, 3, none⟩ (.slice B' (m.turns.length + 1) d')) xb b A c L E st mn { m with turns := m.turns ++ [v], tA := B', tc := d' } := by
 have hl := h.lt
 have hx := h.lx
 have hro : ∀ k, (Value.slice m.tA m.turns.length m.tc).ownBlock = some k → w0.heap.size + 1 ≤ k := fun k hk => (h.rows.1.lt k hk).1
 have hro0 : ∀ k, (Value.slice m.tA m.turns.length m.tc).ownBlock = some k → w0.heap.size ≤ k := fun k hk => by have := hro k hk; omega
 have hw := (RowW.own h.rows.1).mono (Nat.zero_le _)
 have hob := heap_keep hg hw (by decide) h.obj
 have hrs := heap_keep hg hw (by decide) h.res
 have hgs := grown_set (grown_refl w5 (some xb)) 3 (.slice B' (m.turns.length + 1) d')
 have hws := RowW.at hob (Nat.zero_le xb)
 have e1 : (m.turns ++ [v]).length = m.turns.length + 1 := by simp
 have e2 : (m.turns ++ [v]).map (Value.int .i64) = m.turns.map (Value.int .i64) ++ [.int .i64 v] := by simp
 refine ⟨(h.pc.wide h.row hl hg hro0).wide h.row hl hgs (fun k e => by cases e; omega), (hgs.block _ (blk_lt hrs) (fun e => by injection e; omega)).trans hrs, ?_, ⟨?_, own_keep hgs hws (by decide) (own_keep hg hw (by decide) h.rows.2.1), (h.rows.2.2.1.keep hg hw (by decide)).keep hgs hws (by decide), fun x hx => ((h.rows.2.2.2 x hx).keep hg hw (by decide)).keep hgs hws (by decide)⟩, grown_wide (grown_wide h.gr hg hro0) hgs (fun k e => by cases e; omega), h.row, hl, hx⟩
 ·exact (block_set hob 3 (.slice B' (m.turns.length + 1) d')).trans (by simp [srcCells])
 ·show World.ownsRow _ _ _ _ (.slice B' (m.turns ++ [v]).length d') (m.turns ++ [v]).length ((m.turns ++ [v]).map (Value.int .i64))
  rw [e1, e2]
  exact own_keep hgs hws (by decide) hown
theorem RSt.pushH {x : OutM} {B' : Option Addr} {d' : Nat} (h : RSt w0 w4 xb b A c L E st mn m) (hx1 : OutIn 140 0 w4 x) (hown : w5.ownsRow (w0.heap.size + 1) 38 5 (.slice B' (m.holes.length + 1) d') (m.holes.length + 1) (m.holes.flatMap outCells ++ outCells x)) (hg : w4.grownBy w5 (Value.slice m.hA m.holes.length m.hc).ownBlock) :
  RSt w0 (w5.setCell ⟨xb, 10, none⟩ (.slice B' (m.holes.length + 1) d')) xb b A c L E st mn { m with holes := m.holes ++ [x], hA := B', hc := d' } := by
 have hl := h.lt
 have hx := h.lx
 have hro : ∀ k, (Value.slice m.hA m.holes.length m.hc).ownBlock = some k → w0.heap.size + 1 ≤ k := fun k hk => (h.rows.2.1.lt k hk).1
 have hro0 : ∀ k, (Value.slice m.hA m.holes.length m.hc).ownBlock = some k → w0.heap.size ≤ k := fun k hk => by have := hro k hk; omega
 have hw := (RowW.own h.rows.2.1).mono (Nat.zero_le _)
 have hob := heap_keep hg hw (by decide) h.obj
 have hrs := heap_keep hg hw (by decide) h.res
 have hgs := grown_set (grown_refl w5 (some xb)) 10 (.slice B' (m.holes.length + 1) d')
 have hws := RowW.at hob (Nat.zero_le xb)
 have e1 : (m.holes ++ [x]).length = m.holes.length + 1 := by simp
 have e2 : (m.holes ++ [x]).flatMap outCells = m.holes.flatMap outCells ++ outCells x := by simp
 refine ⟨(h.pc.wide h.row hl hg hro0).wide h.row hl hgs (fun k e => by cases e; omega), (hgs.block _ (blk_lt hrs) (fun e => by injection e; omega)).trans hrs, ?_, ⟨own_keep hgs hws (by decide) (own_keep hg hw (by decide) h.rows.1), ?_, (h.rows.2.2.1.keep hg hw (by decide)).keep hgs hws (by decide), fun y hy => ?_⟩, grown_wide (grown_wide h.gr hg hro0) hgs (fun k e => by cases e; omega), h.row, hl, hx⟩
 ·exact (block_set hob 10 (.slice B' (m.holes.length + 1) d')).trans (by simp [srcCells])
 ·show World.ownsRow _ _ _ _ (.slice B' (m.holes ++ [x]).length d') (m.holes ++ [x]).length ((m.holes ++ [x]).flatMap outCells)
  rw [e1, e2]
  exact own_keep hgs hws (by decide) hown
 ·rcases List.mem_append.1 hy with h1 | h1
  ·exact ((h.rows.2.2.2 y h1).keep hg hw (by decide)).keep hgs hws (by decide)
  ·rw [List.mem_singleton.1 h1]
   exact (hx1.keep hg hw (by decide)).keep hgs hws (by decide)
end
structure ROt (w0 wr : World) (b : Nat) (A : Option Addr) (c : Nat) (L : List Tok) (E : Nat) (st : St) (mn : Bool) (acc : List Step) (B : Option Addr) (d : Nat) : Prop where
 pc : Rc wr b A c L E st mn
 res : wr.heap[w0.heap.size]? = some (.cells #[.bool false, .int .i64 0, .int .i64 0, .int .i64 0, .slice none 0 0] 38)
 obj : wr.heap[w0.heap.size + 1]? = some (.cells #[.bool false, .int .i64 0, .int .i64 0, .int .i64 0, .slice B acc.length d] 38 (0, 0))
 own : wr.ownsRow (w0.heap.size + 2) 140 6 (.slice B acc.length d) acc.length (acc.flatMap stepCells)
 gr : w0.grownBy wr (some b)
 row : Row w0 A (L.flatMap tokCells)
 lt : b < w0.heap.size
section
variable {w0 wr w1 : World} {b : Nat} {A : Option Addr} {c : Nat} {L : List Tok} {E : Nat} {st st' : St} {mn mn' : Bool} {acc : List Step} {B : Option Addr} {d : Nat}
theorem ROt.step (h : ROt w0 wr b A c L E st mn acc B d) (hp : Rc w1 b A c L E st' mn') (hg : wr.grownBy w1 (some b)) : ROt w0 w1 b A c L E st' mn' acc B d := by
 have hl := h.lt
 exact ⟨hp, (hg.block _ (blk_lt h.res) (fun e => by injection e; omega)).trans h.res, (hg.block _ (blk_lt h.obj) (fun e => by injection e; omega)).trans h.obj, own_old h.own hg (by omega), h.gr.trans hg, h.row, hl⟩
theorem ROt.below (h : ROt w0 wr b A c L E st mn acc B d) (hb : Below wr.heap.size wr w1) : ROt w0 w1 b A c L E st mn acc B d :=
 h.step (h.pc.below hb) (grown_below (grown_refl wr (some b)) hb)
/-- A cell of a younger block is written. -/
theorem ROt.set (h : ROt w0 wr b A c L E st mn acc B d) {r : Nat} (hr : w0.heap.size + 2 ≤ r) (hne : ∀ k, (Value.slice B acc.length d).ownBlock = some k → k ≠ r) (m : Nat) (v : Value) : ROt w0 (wr.setCell ⟨r, m, none⟩ v) b A c L E st mn acc B d := by
 have hg := grown_set (grown_refl wr (some r)) m v
 have hl := h.lt
 refine ⟨h.pc.wide h.row h.lt hg (fun k e => by cases e; omega), (hg.block _ (blk_lt h.res) (fun e => by injection e; omega)).trans h.res, (hg.block _ (blk_lt h.obj) (fun e => by injection e; omega)).trans h.obj, own_grown h.own hg hne, grown_wide h.gr hg (fun k e => by cases e; omega), h.row, hl⟩
theorem ROt.push {w6 w7 : World} {x : Step} {B' : Option Addr} {d' : Nat} (h : ROt w0 w6 b A c L E st mn acc B d)
  (hown : w7.ownsRow (w0.heap.size + 2) 140 6 (.slice B' (acc.length + 1) d') (acc.length + 1) (acc.flatMap stepCells ++ stepCells x)) (hg : w6.grownBy w7 (Value.slice B acc.length d).ownBlock) :
  ROt w0 (w7.setCell ⟨w0.heap.size + 1, 4, none⟩ (.slice B' (acc.length + 1) d')) b A c L E st mn (acc ++ [x]) B' d' := by
 have hro : ∀ k, (Value.slice B acc.length d).ownBlock = some k → w0.heap.size + 2 ≤ k := fun k hk => (h.own.lt k hk).1
 have hro0 : ∀ k, (Value.slice B acc.length d).ownBlock = some k → w0.heap.size ≤ k := fun k hk => Nat.le_trans (Nat.le_add_right _ _) (hro k hk)
 have hl : (acc ++ [x]).length = acc.length + 1 := by simp
 have hf : (acc ++ [x]).flatMap stepCells = acc.flatMap stepCells ++ stepCells x := by simp
 have hgs := grown_set (grown_refl w7 (some (w0.heap.size + 1))) 4 (.slice B' (acc.length + 1) d')
 have hlt := h.lt
 have hob := old_block hg hro (by omega) h.obj
 refine ⟨(h.pc.wide h.row h.lt hg hro0).wide h.row h.lt hgs (fun k e => by cases e; omega), (hgs.block _ (blk_lt (old_block hg hro (by omega) h.res)) (fun e => by injection e; omega)).trans (old_block hg hro (by omega) h.res), ?_, ?_, grown_wide (grown_wide h.gr hg hro0) hgs (fun k e => by cases e; omega), h.row, hlt⟩
 ·rw [hl]
  exact block_set hob 4 _
 ·rw [hl, hf]
  exact own_old hown hgs (by omega)
end
end Go.Proofs.YtnkkcknogkgdkaaGreatDoor.PaW

namespace Go.Proofs.YtnkkcknogkgdkaaGreatDoor.PaW
open Go Go.RowKit Go.Proofs.YtnkkcknogkgdkaaGreatDoor.Mem Go.Proofs.YtnkkcknogkgdkaaGreatDoor.Pa
open Go.Proofs.YtnkkcknogkgdkaaGreatDoor.Ge (V)
open Go.Proofs.YtnkkcknogkgdkaaGreatDoor.Lex (Tok)
open Go.Proofs.YtnkkcknogkgdkaaGreatDoor.LexW (tokCells)
attribute [local go_sem ↓] Go.wp_at_zero Go.wp_at_succ

set_option maxRecDepth 100000 in
set_option maxHeartbeats 2000000 in
theorem rpoint_any (b : Nat) (A : Option Addr) (c : Nat) (L : List Tok) (E : Nat) (mn : Bool) (st : St) (w : World) (h : Rc w b A c L E st mn) :
  Calls Tryz.prog 146 #[.pointer (some ⟨b, 0, none⟩)] w (RRes ptV pointO w b A c L E mn st) := by
 have hlt := h.lt
 have HRW := Lib.hid h.row
 have HR0 := Lib.hid (heap_new w (.cells #[.int .i64 0, .int .i64 0] 35))
 have HP0 := Lib.hid (h.below (bel1 w (.cells #[.int .i64 0, .int .i64 0] 35)))
 have HG0 := Lib.hid (grown_below (grown_refl w (some b)) (bel1 w (.cells #[.int .i64 0, .int .i64 0] 35)))
 have HK0 : Hid (Goes (bnd (need kOpen) _) L E st pointO st) := Lib.hid (Goes.refl pointO L E st)
 clear h
 go_enter Tryz.func146, Tryz.ntmps146
 go_upto_region 1 with fail
 generalize w.alloc (.cells #[.int .i64 0, .int .i64 0] 35) = W0 at *
 have HE1 : Hid (Calls Tryz.prog 90 #[.pointer (some ⟨b, 0, none⟩), .string ⟨#[40]⟩] W0 (RRes (fun _ => .tuple #[]) (need kOpen) W0 b A c L E mn st)) := Lib.hid (rneed_any kOpen b A c L E mn st W0 HP0.out)
 go_wp2_with fail
 refine HE1.out.mono ?_
 rintro e w1 ⟨u1, s1, rfl, hran, hp, hg⟩
 have HP1 := Lib.hid hp
 have HG1 := Lib.hid (HG0.out.trans hg)
 have HR1 := Lib.hid ((hg.block _ (blk_lt HR0.out) (by intro e; cases e; omega)).trans HR0.out)
 clear HR0
 clear HP0 HG0 HE1
 have HK1 := Lib.hid (HK0.out.step hran)
 clear HK0
 clear hran hp hg
 have HE2 := Lib.hid (rnumber_any (-2000) 2000 b A c L E mn s1 w1 HP1.out)
 go_wp2_with fail
 refine HE2.out.mono ?_
 rintro e w2 ⟨x, s2, rfl, hran, hp, hg⟩
 have HP2 := Lib.hid hp
 have HG2 := Lib.hid (HG1.out.trans hg)
 have HR2 := Lib.hid ((hg.block _ (blk_lt HR1.out) (by intro e; cases e; omega)).trans HR1.out)
 clear HR1
 clear HP1 HG1 HE2
 have HK2 := Lib.hid (HK1.out.step hran)
 clear HK1
 clear hran hp hg
 have HE3 : Hid (Calls Tryz.prog 90 #[.pointer (some ⟨b, 0, none⟩), .string ⟨#[44]⟩] w2 (RRes (fun _ => .tuple #[]) (need kComma) w2 b A c L E mn s2)) := Lib.hid (rneed_any kComma b A c L E mn s2 w2 HP2.out)
 go_wp2_with fail
 refine HE3.out.mono ?_
 rintro e w3 ⟨u3, s3, rfl, hran, hp, hg⟩
 have HP3 := Lib.hid hp
 have HG3 := Lib.hid (HG2.out.trans hg)
 have HR3 := Lib.hid ((hg.block _ (blk_lt HR2.out) (by intro e; cases e; omega)).trans HR2.out)
 clear HR2
 clear HP2 HG2 HE3
 have HK3 := Lib.hid (HK2.out.step hran)
 clear HK2
 clear hran hp hg
 have HE4 := Lib.hid (rnumber_any (-2000) 2000 b A c L E mn s3 w3 HP3.out)
 go_wp2_with fail
 refine HE4.out.mono ?_
 rintro e w4 ⟨y, s4, rfl, hran, hp, hg⟩
 have HP4 := Lib.hid hp
 have HG4 := Lib.hid (HG3.out.trans hg)
 have HR4 := Lib.hid ((hg.block _ (blk_lt HR3.out) (by intro e; cases e; omega)).trans HR3.out)
 clear HR3
 clear HP3 HG3 HE4
 have HK4 := Lib.hid (HK3.out.step hran)
 clear HK3
 clear hran hp hg
 have HE5 : Hid (Calls Tryz.prog 90 #[.pointer (some ⟨b, 0, none⟩), .string ⟨#[41]⟩] w4 (RRes (fun _ => .tuple #[]) (need kShut) w4 b A c L E mn s4)) := Lib.hid (rneed_any kShut b A c L E mn s4 w4 HP4.out)
 go_wp2_with fail
 refine HE5.out.mono ?_
 rintro e w5 ⟨u5, s5, rfl, hran, hp, hg⟩
 have HP5 := Lib.hid hp
 have HG5 := Lib.hid (HG4.out.trans hg)
 have HR5 := Lib.hid ((hg.block _ (blk_lt HR4.out) (by intro e; cases e; omega)).trans HR4.out)
 clear HR4
 clear HP4 HG4 HE5
 have HK5 := Lib.hid (HK4.out.step hran)
 clear HK4
 clear hran hp hg
 have HRN := Lib.hid HK5.out.last
 have r0 := cell_of HR5.out 0 _ rfl
 have r1 := cell_of HR5.out 1 _ rfl
 have f0 := free_of HR5.out 0
 have f1 := free_of HR5.out 1
 have HWF : Hid (((w5.setCell ⟨w.heap.size, 0, none⟩ (.int .i64 x)).setCell ⟨w.heap.size, 1, none⟩ (.int .i64 y)).heap[w.heap.size]? = some (.cells #[.int .i64 x, .int .i64 y] 35 (0, 0))) := Lib.hid (block_set (block_set HR5.out 0 _) 1 _)
 have HPF := Lib.hid ((HP5.out.new hlt HRW.out (Nat.le_refl _) 0 (.int .i64 x)).new hlt HRW.out (Nat.le_refl _) 1 (.int .i64 y))
 have HGF := Lib.hid (grown_new (grown_new HG5.out (Nat.le_refl _) 0 (.int .i64 x)) (Nat.le_refl _) 1 (.int .i64 y))
 go_wp2_with fail
 clear r0 r1 f0 f1
 generalize (w5.setCell ⟨w.heap.size, 0, none⟩ (.int .i64 x)).setCell ⟨w.heap.size, 1, none⟩ (.int .i64 y) = WF at *
 have r0 := cell_of HWF.out 0 _ rfl
 have r1 := cell_of HWF.out 1 _ rfl
 refine bodyPost_ret (v := ptV (x, y)) (by simp [results, Tryz.results146, go_sem, r0, r1, ptV]) rfl ?_
 exact ⟨(x, y), s5, rfl, HRN.out, HPF.out, HGF.out⟩
end Go.Proofs.YtnkkcknogkgdkaaGreatDoor.PaW

namespace Go.Proofs.YtnkkcknogkgdkaaGreatDoor.PaW
open Go Go.RowKit Go.Proofs.YtnkkcknogkgdkaaGreatDoor.Mem Go.Proofs.YtnkkcknogkgdkaaGreatDoor.Pa
open Go.Proofs.YtnkkcknogkgdkaaGreatDoor.Ge (V)
open Go.Proofs.YtnkkcknogkgdkaaGreatDoor.Lex (Tok)
open Go.Proofs.YtnkkcknogkgdkaaGreatDoor.LexW (tokCells)
attribute [local go_sem ↓] Go.wp_at_zero Go.wp_at_succ

set_option maxRecDepth 100000 in
set_option maxHeartbeats 2000000 in
theorem routline_circle (b : Nat) (A : Option Addr) (c : Nat) (L : List Tok) (E : Nat) (mn : Bool) (i : Nat) (w : World) (h : Rc w b A c L E (.ok i) mn) (hc : isS L kCircle (.ok i) = true) :
  Calls Tryz.prog 95 #[.pointer (some ⟨b, 0, none⟩)] w (RResP ROutP long routlineO w b A c L E mn (.ok i)) := by
 have hlt := h.lt
 have HRW := Lib.hid h.row
 have hsz : (w.alloc (.cells #[.bool false, .int .i64 0, .int .i64 0, .int .i64 0, .slice none 0 0] 38)).heap.size = w.heap.size + 1 := by simp
 have hB2 := bel1 (w.alloc (.cells #[.bool false, .int .i64 0, .int .i64 0, .int .i64 0, .slice none 0 0] 38)) (.cells #[.bool false, .int .i64 0, .int .i64 0, .int .i64 0, .slice none 0 0] 38)
 have HRa := Lib.hid (p_below (heap_new w (.cells #[.bool false, .int .i64 0, .int .i64 0, .int .i64 0, .slice none 0 0] 38)) hB2)
 have HOa : Hid (((w.alloc (.cells #[.bool false, .int .i64 0, .int .i64 0, .int .i64 0, .slice none 0 0] 38)).alloc (.cells #[.bool false, .int .i64 0, .int .i64 0, .int .i64 0, .slice none 0 0] 38)).heap[w.heap.size + 1]? = some (.cells #[.bool false, .int .i64 0, .int .i64 0, .int .i64 0, .slice none 0 0] 38)) := Lib.hid (by have := heap_new (w.alloc (.cells #[.bool false, .int .i64 0, .int .i64 0, .int .i64 0, .slice none 0 0] 38)) (.cells #[.bool false, .int .i64 0, .int .i64 0, .int .i64 0, .slice none 0 0] 38); rw [hsz] at this; exact this)
 have hB := (bel1 w (.cells #[.bool false, .int .i64 0, .int .i64 0, .int .i64 0, .slice none 0 0] 38)).trans (hB2.mono (by rw [hsz]; omega))
 have HPa := Lib.hid (h.below hB)
 have HGa := Lib.hid (grown_below (grown_refl w (some b)) hB)
 have HFEW := Lib.hid h.few
 clear h hB hB2 hsz
 have HK0 : Hid (Goes (bnd pointO _) L E (.ok (i + 1)) rcircleO (.ok (i + 1))) := Lib.hid (Goes.refl rcircleO L E (.ok (i + 1)))
 have HIC := Lib.hid (show isT L kCircle i = true from hc)
 go_enter Tryz.func95, Tryz.ntmps95
 go_upto_region 2 with fail
 generalize (w.alloc (.cells #[.bool false, .int .i64 0, .int .i64 0, .int .i64 0, .slice none 0 0] 38)).alloc (.cells #[.bool false, .int .i64 0, .int .i64 0, .int .i64 0, .slice none 0 0] 38) = Wa at *
 have HE1 : Hid (Calls Tryz.prog 92 #[.pointer (some ⟨b, 0, none⟩), .string ⟨#[99, 105, 114, 99, 108, 101]⟩] Wa fun e w' => e = .returned (.bool true) ∧ Rc w' b A c L E (.ok (i + 1)) mn ∧ (Wa).grownBy w' (some b)) := Lib.hid (by
  have := raccept_any kCircle b A c L E mn (.ok i) Wa HPa.out
  rw [hc] at this
  exact this)
 go_wp2_with fail
 refine HE1.out.mono ?_
 rintro e w1 ⟨rfl, hp, hg⟩
 have HP1 := Lib.hid hp
 have HG1 := Lib.hid (HGa.out.trans hg)
 have HO1 := Lib.hid ((hg.block _ (blk_lt HOa.out) (by intro e; cases e; omega)).trans HOa.out)
 clear HOa
 have HR1 := Lib.hid ((hg.block _ (blk_lt HRa.out) (by intro e; cases e; omega)).trans HRa.out)
 clear HRa
 clear HPa HGa HE1
 clear hp hg
 have o0 := cell_of HO1.out 0 _ rfl
 have q0 := free_of HO1.out 0
 have HP2 := Lib.hid (HP1.out.new hlt HRW.out (show w.heap.size ≤ w.heap.size + 1 by omega) 0 (.bool true))
 have HG2 := Lib.hid (grown_new HG1.out (show w.heap.size ≤ w.heap.size + 1 by omega) 0 (.bool true))
 have HO2 : Hid ((w1.setCell ⟨w.heap.size + 1, 0, none⟩ (.bool true)).heap[w.heap.size + 1]? = some (.cells #[.bool true, .int .i64 0, .int .i64 0, .int .i64 0, .slice none 0 0] 38 (0, 0))) := Lib.hid (block_set HO1.out 0 _)
 have HR2 : Hid ((w1.setCell ⟨w.heap.size + 1, 0, none⟩ (.bool true)).heap[w.heap.size]? = some (.cells #[.bool false, .int .i64 0, .int .i64 0, .int .i64 0, .slice none 0 0] 38)) := Lib.hid ((block_other _ _ _ _ (show w.heap.size ≠ w.heap.size + 1 by omega)).trans HR1.out)
 go_upto_region 4 with fail
 clear o0 q0 HP1 HG1 HO1 HR1
 generalize (w1.setCell ⟨w.heap.size + 1, 0, none⟩ (.bool true)) = W2 at *
 have HE3 := Lib.hid (rpoint_any b A c L E mn (.ok (i + 1)) W2 HP2.out)
 go_wp2_with fail
 refine HE3.out.mono ?_
 rintro e w3 ⟨v, s3, rfl, hran, hp, hg⟩
 have HP3 := Lib.hid hp
 have HG3 := Lib.hid (HG2.out.trans hg)
 have HO3 := Lib.hid ((hg.block _ (blk_lt HO2.out) (by intro e; cases e; omega)).trans HO2.out)
 clear HO2
 have HR3 := Lib.hid ((hg.block _ (blk_lt HR2.out) (by intro e; cases e; omega)).trans HR2.out)
 clear HR2
 clear HP2 HG2 HE3
 have HK3 := Lib.hid (HK0.out.step hran)
 clear HK0
 clear hran hp hg
 unfold ptV
 have o1 := cell_of HO3.out 1 _ rfl
 have q1 := free_of HO3.out 1
 have o2 := cell_of HO3.out 2 _ rfl
 have q2 := free_of HO3.out 2
 have HP4 := Lib.hid ((HP3.out.new hlt HRW.out (show w.heap.size ≤ w.heap.size + 1 by omega) 1 (.int .i64 v.1)).new hlt HRW.out (show w.heap.size ≤ w.heap.size + 1 by omega) 2 (.int .i64 v.2))
 have HG4 := Lib.hid (grown_new (grown_new HG3.out (show w.heap.size ≤ w.heap.size + 1 by omega) 1 (.int .i64 v.1)) (show w.heap.size ≤ w.heap.size + 1 by omega) 2 (.int .i64 v.2))
 have HO4 : Hid (((w3.setCell ⟨w.heap.size + 1, 1, none⟩ (.int .i64 v.1)).setCell ⟨w.heap.size + 1, 2, none⟩ (.int .i64 v.2)).heap[w.heap.size + 1]? = some (.cells #[.bool true, .int .i64 v.1, .int .i64 v.2, .int .i64 0, .slice none 0 0] 38 (0, 0))) := Lib.hid (block_set (block_set HO3.out 1 _) 2 _)
 have HR4 : Hid (((w3.setCell ⟨w.heap.size + 1, 1, none⟩ (.int .i64 v.1)).setCell ⟨w.heap.size + 1, 2, none⟩ (.int .i64 v.2)).heap[w.heap.size]? = some (.cells #[.bool false, .int .i64 0, .int .i64 0, .int .i64 0, .slice none 0 0] 38)) := Lib.hid ((block_other _ _ _ _ (show w.heap.size ≠ w.heap.size + 1 by omega)).trans ((block_other _ _ _ _ (show w.heap.size ≠ w.heap.size + 1 by omega)).trans HR3.out))
 go_upto_region 5 with fail
 clear o1 q1 o2 q2 HP3 HG3 HO3 HR3
 generalize ((w3.setCell ⟨w.heap.size + 1, 1, none⟩ (.int .i64 v.1)).setCell ⟨w.heap.size + 1, 2, none⟩ (.int .i64 v.2)) = W4 at *
 have HE5 : Hid (Calls Tryz.prog 90 #[.pointer (some ⟨b, 0, none⟩), .string ⟨#[114, 97, 100, 105, 117, 115]⟩] W4 (RRes (fun _ => .tuple #[]) (need kRadius) W4 b A c L E mn s3)) := Lib.hid (rneed_any kRadius b A c L E mn s3 W4 HP4.out)
 go_wp2_with fail
 refine HE5.out.mono ?_
 rintro e w5 ⟨u5, s5, rfl, hran, hp, hg⟩
 have HP5 := Lib.hid hp
 have HG5 := Lib.hid (HG4.out.trans hg)
 have HO5 := Lib.hid ((hg.block _ (blk_lt HO4.out) (by intro e; cases e; omega)).trans HO4.out)
 clear HO4
 have HR5 := Lib.hid ((hg.block _ (blk_lt HR4.out) (by intro e; cases e; omega)).trans HR4.out)
 clear HR4
 clear HP4 HG4 HE5
 have HK5 := Lib.hid (HK3.out.step hran)
 clear HK3
 clear hran hp hg
 have HE6 := Lib.hid (rnumber_any 1 2000 b A c L E mn s5 w5 HP5.out)
 go_wp2_with fail
 refine HE6.out.mono ?_
 rintro e w6 ⟨r, s6, rfl, hran, hp, hg⟩
 have HP6 := Lib.hid hp
 have HG6 := Lib.hid (HG5.out.trans hg)
 have HO6 := Lib.hid ((hg.block _ (blk_lt HO5.out) (by intro e; cases e; omega)).trans HO5.out)
 clear HO5
 have HR6 := Lib.hid ((hg.block _ (blk_lt HR5.out) (by intro e; cases e; omega)).trans HR5.out)
 clear HR5
 clear HP5 HG5 HE6
 have HK6 := Lib.hid (HK5.out.step hran)
 clear HK5
 clear hran hp hg
 have o3 := cell_of HO6.out 3 _ rfl
 have q3 := free_of HO6.out 3
 have HP7 := Lib.hid (HP6.out.new hlt HRW.out (show w.heap.size ≤ w.heap.size + 1 by omega) 3 (.int .i64 r))
 have HG7 := Lib.hid (grown_new HG6.out (show w.heap.size ≤ w.heap.size + 1 by omega) 3 (.int .i64 r))
 have HO7 : Hid ((w6.setCell ⟨w.heap.size + 1, 3, none⟩ (.int .i64 r)).heap[w.heap.size + 1]? = some (.cells #[.bool true, .int .i64 v.1, .int .i64 v.2, .int .i64 r, .slice none 0 0] 38 (0, 0))) := Lib.hid (block_set HO6.out 3 _)
 have HR7 : Hid ((w6.setCell ⟨w.heap.size + 1, 3, none⟩ (.int .i64 r)).heap[w.heap.size]? = some (.cells #[.bool false, .int .i64 0, .int .i64 0, .int .i64 0, .slice none 0 0] 38)) := Lib.hid ((block_other _ _ _ _ (show w.heap.size ≠ w.heap.size + 1 by omega)).trans HR6.out)
 go_upto_region 7 with fail
 clear o3 q3 HP6 HG6 HO6 HR6
 generalize (w6.setCell ⟨w.heap.size + 1, 3, none⟩ (.int .i64 r)) = W7 at *
 have HRN := Lib.hid HK6.out.last
 have o0 := cell_of HO7.out 0 _ rfl
 have z0 := cell_of HR7.out 0 _ rfl
 have q0 := free_of HR7.out 0
 have o1 := cell_of HO7.out 1 _ rfl
 have z1 := cell_of HR7.out 1 _ rfl
 have q1 := free_of HR7.out 1
 have o2 := cell_of HO7.out 2 _ rfl
 have z2 := cell_of HR7.out 2 _ rfl
 have q2 := free_of HR7.out 2
 have o3 := cell_of HO7.out 3 _ rfl
 have z3 := cell_of HR7.out 3 _ rfl
 have q3 := free_of HR7.out 3
 have o4 := cell_of HO7.out 4 _ rfl
 have z4 := cell_of HR7.out 4 _ rfl
 have q4 := free_of HR7.out 4
 have HPF := Lib.hid (((((HP7.out.new hlt HRW.out (Nat.le_refl _) 0 (.bool true)).new hlt HRW.out (Nat.le_refl _) 1 (.int .i64 v.1)).new hlt HRW.out (Nat.le_refl _) 2 (.int .i64 v.2)).new hlt HRW.out (Nat.le_refl _) 3 (.int .i64 r)).new hlt HRW.out (Nat.le_refl _) 4 (.slice none 0 0))
 have HGF := Lib.hid (grown_new (grown_new (grown_new (grown_new (grown_new HG7.out (Nat.le_refl _) 0 (.bool true)) (Nat.le_refl _) 1 (.int .i64 v.1)) (Nat.le_refl _) 2 (.int .i64 v.2)) (Nat.le_refl _) 3 (.int .i64 r)) (Nat.le_refl _) 4 (.slice none 0 0))
 have HWF : Hid ((((((W7.setCell ⟨w.heap.size, 0, none⟩ (.bool true)).setCell ⟨w.heap.size, 1, none⟩ (.int .i64 v.1)).setCell ⟨w.heap.size, 2, none⟩ (.int .i64 v.2)).setCell ⟨w.heap.size, 3, none⟩ (.int .i64 r)).setCell ⟨w.heap.size, 4, none⟩ (.slice none 0 0)).heap[w.heap.size]? = some (.cells #[.bool true, .int .i64 v.1, .int .i64 v.2, .int .i64 r, .slice none 0 0] 38 (0, 0))) := Lib.hid (block_set (block_set (block_set (block_set (block_set HR7.out 0 _) 1 _) 2 _) 3 _) 4 _)
 go_wp2_with fail
 clear o0 o1 o2 o3 o4 z0 z1 z2 z3 z4 q0 q1 q2 q3 q4
 generalize (((((W7.setCell ⟨w.heap.size, 0, none⟩ (.bool true)).setCell ⟨w.heap.size, 1, none⟩ (.int .i64 v.1)).setCell ⟨w.heap.size, 2, none⟩ (.int .i64 v.2)).setCell ⟨w.heap.size, 3, none⟩ (.int .i64 r)).setCell ⟨w.heap.size, 4, none⟩ (.slice none 0 0)) = WF at *
 have z0 := cell_of HWF.out 0 _ rfl
 have z1 := cell_of HWF.out 1 _ rfl
 have z2 := cell_of HWF.out 2 _ rfl
 have z3 := cell_of HWF.out 3 _ rfl
 have z4 := cell_of HWF.out 4 _ rfl
 refine bodyPost_ret (v := outV ⟨true, v, r, []⟩ none 0) (by simp [results, Tryz.results95, go_sem, z0, z1, z2, z3, z4, outV]) rfl ?_
 exact ⟨⟨true, v, r, []⟩, s6, _, rfl, ⟨none, 0, rfl, At.nil _ _ _ _, Nat.le_refl _, by simp⟩, ran_circle HIC.out HRN.out, by rw [show (mn || long ⟨true, v, r, []⟩) = mn by cases mn <;> rfl]; exact HPF.out, HGF.out⟩
end Go.Proofs.YtnkkcknogkgdkaaGreatDoor.PaW
