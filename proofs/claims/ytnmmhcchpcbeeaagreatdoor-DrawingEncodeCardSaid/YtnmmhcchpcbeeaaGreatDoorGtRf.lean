/- What the reference's reader of entities holds; plain laws of what it reads. Conditions: as stated. -/
import Derived.Test.YtnmmhcchpcbeeaaGreatDoorGtJ
import Derived.Test.YtnmmhcchpcbeeaaGreatDoorDwX
import Derived.Test.YtnmmhcchpcbeeaaGreatDoorRgK
import Derived.Test.YtnmmhcchpcbeeaaGreatDoorGtR
import Derived.Test.YtnmmhcchpcbeeaaGreatDoorGtRe

namespace Go.Proofs.YtnmmhcchpcbeeaaGreatDoor.GtW
open Go Go.RowKit Go.Proofs.YtnmmhcchpcbeeaaGreatDoor.Mem Go.Proofs.YtnmmhcchpcbeeaaGreatDoor.Gt Go.Proofs.YtnmmhcchpcbeeaaGreatDoor.Ge
open Go.Proofs.YtnmmhcchpcbeeaaGreatDoor.GeW (EntV entVals PtsIn PtAt Tagged RowT RowW Ents own_keep own_tag ptCells)
/-- An entity's points as they lie in memory while entities are gathered. -/
def PtV (w : World) (x : EntV) : Prop := PtAt 0 w x.A x.e.pts ∧ x.e.pts.length ≤ 1000000 ∧ x.e.pts.length ≤ x.k ∧ x.e.layer.length ≤ 1000000
theorem PtV.keep {w w' : World} {row : Option Nat} {T : TypeId} {x : EntV} (h : PtV w x) (hg : w.grownBy w' row) (hr : RowW w 0 T row) (hne : T ≠ 47) : PtV w' x := ⟨h.1.keep hg hr hne, h.2⟩
theorem PtV.drewN {w : World} {x : EntV} (h : PtV w x) (n : Nat) : PtV (w.drewN n) x := h
theorem PtV.in_ {w : World} {x : EntV} (h : PtV w x) : PtsIn w x := ⟨h.1.1, h.2⟩
structure DSt (w0 wr : World) (sb dc : Nat) (A : Option Addr) (c : Nat) (L : List (List UInt8)) (st : Gt.S) (xs : List EntV) (B : Option Addr) (d : Nat) : Prop where
 scn : wr.heap[sb]? = some (sobj A L.length c st)
 res : wr.heap[dc]? = some (.cells #[.slice B xs.length d] 23 (0, 0))
 own : wr.ownsRow w0.heap.size 52 14 (.slice B xs.length d) xs.length (xs.flatMap entVals)
 pts : ∀ x ∈ xs, PtV wr x
 fr : Fr sb dc w0 wr
section
variable {w0 wr w1 : World} {sb dc : Nat} {A : Option Addr} {c : Nat} {L : List (List UInt8)} {st st' : Gt.S} {xs : List EntV} {B : Option Addr} {d : Nat}
theorem DSt.ne (h : DSt w0 wr sb dc A c L st xs B d) : dc ≠ sb := by
 intro e
 have h1 := h.scn
 have h2 := h.res
 rw [e, h1] at h2
 simp [sobj] at h2
theorem DSt.rowS (h : DSt w0 wr sb dc A c L st xs B d) : RowW wr 0 61 (some sb) := RowT.weak (fun g e => by
 cases e
 exact ⟨⟨_, _, h.scn⟩, Nat.zero_le _⟩)
theorem DSt.step (h : DSt w0 wr sb dc A c L st xs B d) (ho : w1.heap[sb]? = some (sobj A L.length c st')) (hg : wr.grownBy w1 (some sb)) : DSt w0 w1 sb dc A c L st' xs B d :=
 ⟨ho, (hg.block dc (blk_lt h.res) (fun e => h.ne (by injection e))).trans h.res, own_keep hg h.rowS (by decide) h.own, fun x hx => (h.pts x hx).keep hg h.rowS (by decide), h.fr.trans (Fr.grown hg)⟩
theorem DSt.below (h : DSt w0 wr sb dc A c L st xs B d) (hb : Below wr.heap.size wr w1) : DSt w0 w1 sb dc A c L st xs B d :=
 h.step (p_below h.scn hb) (grown_below (grown_refl wr (some sb)) hb)
theorem DSt.push {w6 w7 : World} {x : EntV} {B' : Option Addr} {d' : Nat} (h : DSt w0 w6 sb dc A c L st xs B d) (hx : PtV w6 x) (hsb : sb < w0.heap.size) (hdc : dc < w0.heap.size)
  (hown : w7.ownsRow w0.heap.size 52 14 (.slice B' (xs.length + 1) d') (xs.length + 1) (xs.flatMap entVals ++ entVals x)) (hg : w6.grownBy w7 (Value.slice B xs.length d).ownBlock) :
  DSt w0 (w7.setCell ⟨dc, 0, none⟩ (.slice B' (xs.length + 1) d')) sb dc A c L st (xs ++ [x]) B' d' := by
 have hr : RowW w6 w0.heap.size 52 (Value.slice B xs.length d).ownBlock := RowT.weak (RowT.own h.own)
 have hr0 : RowW w6 0 52 (Value.slice B xs.length d).ownBlock := fun g e => ⟨(hr g e).1, Nat.zero_le _⟩
 have hro : ∀ k, (Value.slice B xs.length d).ownBlock = some k → w0.heap.size ≤ k := fun k e => (hr k e).2
 have hdc7 := old_block hg hro hdc h.res
 have hgs := grown_set (grown_refl w7 (some dc)) 0 (.slice B' (xs.length + 1) d')
 have hl : (xs ++ [x]).length = xs.length + 1 := by simp
 have hf : (xs ++ [x]).flatMap entVals = xs.flatMap entVals ++ entVals x := by simp
 have hrd : RowW w7 0 23 (some dc) := RowT.weak (fun g e => by
  cases e
  exact ⟨⟨_, _, hdc7⟩, Nat.zero_le _⟩)
 refine ⟨(block_other _ _ _ _ (Ne.symm h.ne)).trans (old_block hg hro hsb h.scn), ?_, ?_, ?_, (h.fr.grow hg hro).set 0 _⟩
 ·rw [hl]
  exact block_set hdc7 0 (.slice B' (xs.length + 1) d')
 ·rw [hl, hf]
  exact own_set hown hdc 0 _
 ·intro y hy
  rcases List.mem_append.1 hy with h1 | h1
  ·exact ((h.pts y h1).keep hg hr0 (by decide)).keep hgs hrd (by decide)
  ·rw [List.mem_singleton.1 h1]
   exact (hx.keep hg hr0 (by decide)).keep hgs hrd (by decide)
end
theorem rd_layer (L : List (List UInt8)) (k l : List UInt8) (s : Gt.S) : (rdKind L k l s).1.layer = l := by
 unfold rdKind
 split
 ·rfl
 ·split <;> rfl
theorem rdPts_len (L : List (List UInt8)) : ∀ (n : Nat) (acc : List V) (s : Gt.S), (rdPts L n acc s).1.length ≤ acc.length + n
 | 0, acc, s => by simp [rdPts]
 | n + 1, acc, s => by
  unfold rdPts
  split
  ·simp
  ·have := rdPts_len L n (acc ++ [(pt L 10 s).1]) (pt L 10 s).2
   rw [List.length_append, List.length_singleton] at this
   omega
theorem rd_pts (L : List (List UInt8)) (k l : List UInt8) (s : Gt.S) : (rdKind L k l s).1.pts.length ≤ 40 := by
 unfold rdKind
 split
 ·simp [rdLine]
 ·split
  ·simp [rdArc, mkArc]
  ·have h1 := rdPts_len L (nb L 90 3 40 s).1.toNat [] (nb L 90 3 40 s).2
   have h2 := nb_pts (L := L) (s := s)
   simp only [List.length_nil] at h1
   show (rdPts L (nb L 90 3 40 s).1.toNat [] (nb L 90 3 40 s).2).1.length ≤ 40
   omega
end Go.Proofs.YtnmmhcchpcbeeaaGreatDoor.GtW

namespace Go.Proofs.YtnmmhcchpcbeeaaGreatDoor.GtW
open Go Go.RowKit Go.Proofs.YtnmmhcchpcbeeaaGreatDoor.Mem Go.Proofs.YtnmmhcchpcbeeaaGreatDoor.Gt Go.Proofs.YtnmmhcchpcbeeaaGreatDoor.Ge
open Go.Proofs.YtnmmhcchpcbeeaaGreatDoor.GeW (EntV entVals PtsIn PtAt Tagged RowT RowW Ents own_keep own_tag ptCells)
attribute [local go_sem ↓] Go.wp_at_zero Go.wp_at_succ

/-- An entity of the reference as an object, with its slice of points. -/
def reobj (x : Ent) (v : Value) : Obj := .cells #[.int .i64 x.kind, .string ⟨x.layer.toArray⟩, .int .i64 x.a.1, .int .i64 x.a.2, .int .i64 x.b.1, .int .i64 x.b.2, .int .i64 x.f.1, .int .i64 x.f.2, .int .i64 x.t.1, .int .i64 x.t.2, .int .i64 x.c.1, .int .i64 x.c.2, .bool x.cw, v] 72 (0, 0)
structure ESt (w wr : World) (b : Nat) (A : Option Addr) (c : Nat) (L : List (List UInt8)) (st : Gt.S) (x : Ent) (B : Option Addr) (d : Nat) : Prop where
 scn : wr.heap[b]? = some (robj A L.length c st)
 res : wr.heap[w.heap.size]? = some (.cells #[.int .i64 0, .string ⟨#[]⟩, .int .i64 0, .int .i64 0, .int .i64 0, .int .i64 0, .int .i64 0, .int .i64 0, .int .i64 0, .int .i64 0, .int .i64 0, .int .i64 0, .bool false, .slice none 0 0] 72 (0, 0))
 obj : wr.heap[w.heap.size + 1]? = some (reobj x (.slice B x.pts.length d))
 own : wr.ownsRow (w.heap.size + 2) 47 2 (.slice B x.pts.length d) x.pts.length (x.pts.flatMap ptCells)
 fr : w.grownBy wr (some b)
section
variable {w wr w1 : World} {b : Nat} {A : Option Addr} {c : Nat} {L : List (List UInt8)} {st st' : Gt.S} {x x' : Ent} {B : Option Addr} {d : Nat}
theorem ESt.rc {s : Gt.S} (h : ESt w wr b A c L st x B d) (h0 : Rc w b A c L s) : Rc wr b A c L st := h0.grown h.scn h.fr
theorem ESt.step (h : ESt w wr b A c L st x B d) (hb : b < w.heap.size) (ho : w1.heap[b]? = some (robj A L.length c st')) (hg : wr.grownBy w1 (some b)) : ESt w w1 b A c L st' x B d :=
 ⟨ho, (hg.block _ (blk_lt h.res) (fun e => by injection e with e; omega)).trans h.res, (hg.block _ (blk_lt h.obj) (fun e => by injection e with e; omega)).trans h.obj, own_grown h.own hg (by omega), h.fr.trans hg⟩
theorem ESt.below (h : ESt w wr b A c L st x B d) (hb : b < w.heap.size) (hl : Below wr.heap.size wr w1) : ESt w w1 b A c L st x B d :=
 h.step hb (p_below h.scn hl) (grown_below (grown_refl wr (some b)) hl)
/-- A store into the entity. -/
theorem ESt.put (h : ESt w wr b A c L st x B d) (hb : b < w.heap.size) (j : Nat) (v : Value) (ho : (wr.setCell ⟨w.heap.size + 1, j, none⟩ v).heap[w.heap.size + 1]? = some (reobj x' (.slice B x.pts.length d))) (hp : x'.pts = x.pts) : ESt w (wr.setCell ⟨w.heap.size + 1, j, none⟩ v) b A c L st x' B d :=
 ⟨(block_other _ _ _ _ (by omega)).trans h.scn, (block_other _ _ _ _ (by omega)).trans h.res, by rw [hp]; exact ho, by rw [hp]; exact own_set h.own (by omega) _ _, grown_new h.fr (by omega) _ _⟩
end
theorem ESt.push {w wr w3 : World} {b : Nat} {A : Option Addr} {c : Nat} {L : List (List UInt8)} {st : Gt.S} {l : List UInt8} {acc : List V} {B B3 : Option Addr} {d d3 : Nat} {px py : Int} (h : ESt w wr b A c L st ⟨3, l, (0, 0), (0, 0), (0, 0), (0, 0), (0, 0), false, acc⟩ B d) (hb : b < w.heap.size)
  (hg : wr.grownBy w3 (Value.slice B acc.length d).ownBlock) (ho : w3.ownsRow (w.heap.size + 2) 47 2 (.slice B3 (acc.length + 1) d3) (acc.length + 1) (acc.flatMap ptCells ++ [.int .i64 px, .int .i64 py])) :
  w3.heap[w.heap.size + 1]? = some (reobj ⟨3, l, (0, 0), (0, 0), (0, 0), (0, 0), (0, 0), false, acc⟩ (.slice B acc.length d)) ∧ ESt w (w3.setCell ⟨w.heap.size + 1, 13, none⟩ (.slice B3 (acc.length + 1) d3)) b A c L st ⟨3, l, (0, 0), (0, 0), (0, 0), (0, 0), (0, 0), false, acc ++ [(px, py)]⟩ B3 d3 := by
 have hro : ∀ k, (Value.slice B acc.length d).ownBlock = some k → w.heap.size + 2 ≤ k := fun k hk => (h.own.lt k hk).1
 have h1 := old_block hg hro (by omega) h.obj
 have h2 := old_block hg hro (by omega) h.res
 have h3 := old_block hg hro (by omega) h.scn
 have hl : (acc ++ [((px, py) : V)]).length = acc.length + 1 := by simp
 have hf : (acc ++ [((px, py) : V)]).flatMap ptCells = acc.flatMap ptCells ++ [.int .i64 px, .int .i64 py] := by simp [ptCells]
 have hfr : w.grownBy w3 (some b) := ⟨hg.os.trans h.fr.os, hg.tape.trans h.fr.tape, hg.output.trans h.fr.output, Nat.le_trans h.fr.size hg.size, fun i hi hne => (hg.block i (Nat.lt_of_lt_of_le hi h.fr.size) (fun e => by have := hro i e.symm; omega)).trans (h.fr.block i hi hne)⟩
 refine ⟨h1, (block_other _ _ _ _ (by omega)).trans h3, (block_other _ _ _ _ (by omega)).trans h2, ?_, ?_, grown_new hfr (by omega) _ _⟩
 ·rw [hl]
  exact block_set h1 13 (.slice B3 (acc.length + 1) d3)
 ·rw [hl, hf]
  exact own_set ho (by omega) _ _
end Go.Proofs.YtnmmhcchpcbeeaaGreatDoor.GtW
