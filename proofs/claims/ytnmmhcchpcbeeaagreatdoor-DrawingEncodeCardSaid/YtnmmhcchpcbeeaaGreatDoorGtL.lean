/- Walk: the reader of a polygon. Conditions: the scanner, its lines and the entity lie in memory, apart. -/
import Derived.Test.YtnmmhcchpcbeeaaGreatDoorMem2
import Derived.Test.YtnmmhcchpcbeeaaGreatDoorGeE
import Derived.Deep.RegionLaw
import Derived.Deep.RegionHeld3
import Derived.Deep.DrawnRows
import Derived.Test.YtnmmhcchpcbeeaaGreatDoorGtK

namespace Go.Proofs.YtnmmhcchpcbeeaaGreatDoor.GeW
open Go Go.RowKit Go.Proofs.YtnmmhcchpcbeeaaGreatDoor.Mem
theorem own_none (w : World) (T : TypeId) (size base : Nat) (hb : base ≤ w.heap.size) : (w.alloc (.cells #[] T)).ownsRow base T size (.slice (some ⟨w.heap.size, 0, none⟩) 0 0) 0 [] :=
 ⟨by simp, .inr ⟨w.heap.size, 0, #[], rfl, hb, heap_alloc_new w _, by simp, by simp, by simp, by simp⟩⟩
/-- At a step of a region that draws its order. -/
theorem step_append_row {P : Program} {w : World} {ops : Array Oper} {o : Oper} {a : Act} {K : Act → World → Prop} {Q : Exit → Act → World → Prop} {E : Prop} (hgd : o.guard = none) (s x : Operand) (t : TypeId)
  (ho : o.op = .call { callee := .builtin .append, args := #[s, x], argTypes := #[t, t] })
  (base : Nat) (e : TypeId) (i : TypeInfo) (z : Value) (size bytes : Nat) (ht : P.underlying t = some (.slice e)) (hi : P.info? e = some i) (hz : i.zero = some z)
  (hsize : i.size = size) (hby : i.bytes = bytes) (hzs : z.cells.size = size) (hsz : 0 < size)
  (v : Value) (n : Nat) (xs : List Value) (hs : a.eval s = v) (hown : w.ownsRow base e size v n xs)
  (A : Option Addr) (m c : Nat) (news : List Value) (hx : a.eval x = .slice A m c) (hr : Row w A news) (hl : news.length = m * size) (h1 : ∀ u ∈ news, u.oneCell' = true)
  (h63 : n + m ≤ maxLen) (hbytes : (n + m) * bytes ≤ 140737488355328) (hbase : base ≤ w.heap.size)
  (h : ∀ v' w', w'.ownsRow base e size v' (n + m) (xs ++ news) → w.grownBy w' v.ownBlock → K (a.put o.dst v') w') :
  if Region.wanted o (yielded ops a.tmps) = true then Oper.wp P o a w K Q else E := by
 have hw : Region.wanted o (yielded ops a.tmps) = true := by simp [Region.wanted, hgd]
 rw [if_pos hw]
 exact wp_append_row w s x t ho base e i z size bytes ht hi hz hsize hby hzs hsz v n xs hs hown A m c news hx hr hl h1 h63 hbytes hbase h
/-- A row's head, a row's rest. -/
theorem Row.head {w : World} {A : Option Addr} {xs ys : List Value} (h : Row w A (xs ++ ys)) : Row w A xs := by
 intro hne
 obtain ⟨g, off, e, hg, hc⟩ := h (by cases xs <;> simp_all)
 refine ⟨g, off, e, hg, fun j hj => ?_⟩
 rw [hc j (by rw [List.length_append]; omega), List.getElem?_append_left hj]
theorem Row.rest {w : World} {g off : Nat} {xs ys : List Value} (h : Row w (some ⟨g, off, none⟩) (xs ++ ys)) : Row w (some ⟨g, off + xs.length, none⟩) ys := by
 intro hne
 obtain ⟨g', off', e, hg, hc⟩ := h (by cases ys <;> simp_all)
 cases e
 refine ⟨g, off + xs.length, rfl, hg, fun j hj => ?_⟩
 have := hc (xs.length + j) (by rw [List.length_append]; omega)
 rw [List.getElem?_append_right (by omega), show xs.length + j - xs.length = j by omega, ← Nat.add_assoc] at this
 exact this
theorem Row.alloc {w : World} {A : Option Addr} {xs : List Value} (h : Row w A xs) (o : Obj) : Row (w.alloc o) A xs := h.below ((Below.refl _ _).alloc (Nat.le_refl _) o)
theorem Row.drew {w : World} {A : Option Addr} {xs : List Value} (h : Row w A xs) : Row w.drew A xs := h
theorem row_grown {w w' : World} {g off : Nat} {xs : List Value} {row : Option Nat} (h : Row w (some ⟨g, off, none⟩) xs) (hg : w.grownBy w' row) (hne : row ≠ some g) : Row w' (some ⟨g, off, none⟩) xs := fun hx => by
 obtain ⟨g', off', e, h1, h2⟩ := h hx
 cases e
 refine ⟨g, off, rfl, Nat.lt_of_lt_of_le h1 hg.size, fun j hj => ?_⟩
 rw [← h2 j hj]
 exact World.grownBy.cell_far hg _ h1 (fun e => hne e.symm)
theorem own_cases {w : World} {base : Nat} {e : TypeId} {size n d : Nat} {B : Option Addr} {xs : List Value} (h : w.ownsRow base e size (.slice B n d) n xs) : (B = none ∧ n = 0 ∧ d = 0) ∨ ∃ g, B = some ⟨g, 0, none⟩ ∧ base ≤ g ∧ g < w.heap.size := by
 rcases h.2 with h0 | ⟨g, cap, cur, hv, hb, hh, hn, hc, hs, ht⟩
 ·rcases h0 with ⟨h0, _⟩
  simp only [Value.slice.injEq] at h0
  exact .inl ⟨h0.1, h0.2.1, h0.2.2⟩
 ·simp only [Value.slice.injEq] at hv
  exact .inr ⟨g, hv.1, hb, (Array.getElem?_eq_some_iff.1 hh).1⟩
theorem own_fit {w : World} {base base' : Nat} {e : TypeId} {size n n' : Nat} {v : Value} {xs xs' : List Value} (h : w.ownsRow base e size v n xs) (hb : base' ≤ base) (hn : n = n') (hx : xs = xs') : w.ownsRow base' e size v n' xs' := by
 subst hn hx
 exact own_more h hb
theorem bel1 (W : World) (o : Obj) : Below W.heap.size W (W.alloc o) := (Below.refl _ _).alloc (Nat.le_refl _) o
theorem own_emptyC (w : World) (o : Obj) (e : TypeId) (size : Nat) : ((w.alloc o).alloc (.cells #[] e)).drew.ownsRow w.heap.size e size (.slice (some ⟨w.heap.size + 1, 0, none⟩) 0 0) 0 [] := by
 have := (own_none (w.alloc o) e size w.heap.size (by simp)).drew
 rw [World.size_alloc] at this
 exact this
theorem newN_row (w : World) (xs : List Value) (T : TypeId) : Row (w.alloc (.cells xs.toArray T)) (some ⟨w.heap.size, 0, none⟩) xs := fun _ =>
 ⟨_, _, rfl, by simp, fun j hj => by unfold World.cell?; rw [heap_alloc_new]; simp⟩
end Go.Proofs.YtnmmhcchpcbeeaaGreatDoor.GeW

namespace Go.Proofs.YtnmmhcchpcbeeaaGreatDoor.GtW
open Go Go.RowKit Go.Proofs.YtnmmhcchpcbeeaaGreatDoor.Mem Go.Proofs.YtnmmhcchpcbeeaaGreatDoor.Gt Go.Proofs.YtnmmhcchpcbeeaaGreatDoor.Ge
attribute [local go_sem ↓] Go.wp_at_zero Go.wp_at_succ
theorem info_vec : (Tryz.prog.info? 47).map (fun i => (i.zero, i.size, i.bytes)) = some (some (.agg #[.int .i64 0, .int .i64 0]), 2, 16) := by kernel_rfl
theorem own_grown {w w' : World} {base b : Nat} {e : TypeId} {size n : Nat} {v : Value} {xs : List Value} (h : w.ownsRow base e size v n xs) (hg : w.grownBy w' (some b)) (hb : b < base) : w'.ownsRow base e size v n xs := by
 refine ⟨h.1, ?_⟩
 rcases h.2 with h0 | ⟨g, cap, cur, hv, hbg, hh, r⟩
 ·exact .inl h0
 ·exact .inr ⟨g, cap, cur, hv, hbg, (hg.block g (blk_lt hh) (fun e => by injection e; omega)).trans hh, r⟩
theorem old_block {w w' : World} {row : Option Nat} {B g : Nat} {o : Obj} (hg : w.grownBy w' row) (hr : ∀ k, row = some k → B ≤ k) (hlt : g < B) (h : w.heap[g]? = some o) : w'.heap[g]? = some o :=
 (hg.block g (blk_lt h) (fun e => by have := hr g e.symm; omega)).trans h
theorem old_cell {w w' : World} {row : Option Nat} {B g j : Nat} {v : Value} (hg : w.grownBy w' row) (hr : ∀ k, row = some k → B ≤ k) (hlt : g < B) (h : w.cell? ⟨g, j, none⟩ = some v) : w'.cell? ⟨g, j, none⟩ = some v := by
 rw [World.cell?_of_block (a := ⟨g, j, none⟩) (hg.block g (World.block_lt_of_cell? w _ h) (fun e => by have := hr g e.symm; omega))]
 exact h
theorem Fr.grow {b xb : Nat} {w w' w2 : World} {row : Option Nat} (h : Fr b xb w w') (hg : w'.grownBy w2 row) (hr : ∀ k, row = some k → w.heap.size ≤ k) : Fr b xb w w2 :=
 ⟨hg.os.trans h.os, hg.tape.trans h.tape, hg.output.trans h.output, Nat.le_trans h.size hg.size, fun i hi a1 a2 => (hg.block i (Nat.lt_of_lt_of_le hi h.size) (fun e => by have := hr i e.symm; omega)).trans (h.block i hi a1 a2)⟩
theorem own_set {w : World} {base b : Nat} {e : TypeId} {size n : Nat} {v : Value} {xs : List Value} (h : w.ownsRow base e size v n xs) (hb : b < base) (j : Nat) (u : Value) : (w.setCell ⟨b, j, none⟩ u).ownsRow base e size v n xs :=
 own_grown h (grown_set (grown_refl w (some b)) j u) hb
theorem Fr.refl (b xb : Nat) (w : World) : Fr b xb w w := ⟨rfl, rfl, rfl, Nat.le_refl _, fun _ _ _ _ => rfl⟩
/-- The scanner in a later world, all but two blocks being as they were. -/
theorem Sc.of_fr {w w' : World} {b xb : Nat} {A : Option Addr} {c : Nat} {L : List (List UInt8)} {s s' : Gt.S} (h : Sc w b A c L s) (hf : Fr b xb w w') (h2 : Apart A xb) (h7 : 7 ≤ xb) (ho : w'.heap[b]? = some (sobj A L.length c s')) : Sc w' b A c L s' := by
 refine ⟨ho, fun hne => ?_, h.apart, h.few, h.short, h.glob.below7 ⟨hf.os, hf.tape, hf.output, hf.size, fun k hk => hf.block k (by have := h.glob.lt; omega) (by have := h.high; omega) (by omega)⟩, h.high⟩
 obtain ⟨g, off, e, hlt, hc⟩ := h.row hne
 refine ⟨g, off, e, Nat.lt_of_lt_of_le hlt hf.size, fun j hj => ?_⟩
 rw [World.cell?_of_block (a := ⟨g, off + j, none⟩) (hf.block g hlt (h.apart g off e) (h2 g off e))]
 exact hc j hj
/-- Where the reader of points stands. -/
structure PSt (w wr : World) (b xb : Nat) (A : Option Addr) (c : Nat) (L : List (List UInt8)) (l : List UInt8) (acc : List V) (s1 : Gt.S) (B : Option Addr) (d : Nat) : Prop where
 scn : wr.heap[b]? = some (sobj A L.length c s1)
 obj : wr.heap[xb]? = some (eobj ⟨3, l, (0, 0), (0, 0), (0, 0), (0, 0), (0, 0), false, acc⟩ (.slice B acc.length d))
 own : wr.ownsRow w.heap.size 47 2 (.slice B acc.length d) acc.length (acc.flatMap GeW.ptCells)
 fr : Fr b xb w wr
theorem nb_pts {L : List (List UInt8)} {s : Gt.S} : 0 ≤ (nb L 90 3 40 s).1 ∧ (nb L 90 3 40 s).1 ≤ 40 := by
 unfold nb
 rcases nx_line (L := L) (good := numOk 3 40) (s := cd L 90 s) with h | ⟨_, h⟩
 ·rw [h, numV_nil']
  omega
 ·have := numOk_back h
  omega
where
 numV_nil' : numV [] = 0 := by simp [numV, Lib.atoiAll]
set_option maxRecDepth 100000 in
set_option maxHeartbeats 8000000 in
theorem read3_any (L : List (List UInt8)) (A : Option Addr) (c b : Nat) (s : Gt.S) (l : List UInt8) (bs bx xb : Nat) (w : World) (h : Sc w b A c L s) (h1 : w.cell? ⟨bs, 0, none⟩ = some (.pointer (some ⟨b, 0, none⟩))) (h2 : w.cell? ⟨bx, 0, none⟩ = some (.pointer (some ⟨xb, 0, none⟩))) (h3 : w.heap[xb]? = some (eobj (ent0 l) (.slice none 0 0)))
  (n1 : bs ≠ b) (n2 : bx ≠ b) (n3 : xb ≠ b) (n4 : bs ≠ xb) (n5 : bx ≠ xb) (hap : Apart A xb) (h7 : 7 ≤ xb) :
  Calls Tryz.prog 65 #[.pointer (some ⟨bx, 0, none⟩), .pointer (some ⟨bs, 0, none⟩)] w fun e w' => e = .returned (.tuple #[]) ∧ Sc w' b A c L (rdPoly L l s).2 ∧ (∃ B d, w'.heap[xb]? = some (eobj (rdPoly L l s).1 (.slice B (rdPoly L l s).1.pts.length d)) ∧ w'.ownsRow w.heap.size 47 2 (.slice B (rdPoly L l s).1.pts.length d) (rdPoly L l s).1.pts.length ((rdPoly L l s).1.pts.flatMap GeW.ptCells)) ∧ Fr b xb w w' := by
 have hls := World.block_lt_of_cell? w _ h1
 have hlx := World.block_lt_of_cell? w _ h2
 have hlo := blk_lt h3
 have hlb := blk_lt h.obj
 obtain ⟨i0, ia, ib, ic, id⟩ := info_parts info_vec
 have HS := Lib.hid h
 have HK := Lib.hid (And.intro h1 h2)
 have HO := Lib.hid h3
 have HNB := Lib.hid (fun W hW => number_any L A c b s 90 3 40 W hW (by omega))
 have HBD := nb_pts (L := L) (s := s)
 obtain ⟨FIN, HFIN⟩ : ∃ FIN, Hid (rdPts L (nb L 90 3 40 s).1.toNat [] (nb L 90 3 40 s).2 = FIN) := ⟨_, Lib.hid rfl⟩
 unfold rdPoly
 rw [HFIN.out]
 rcases hr : nb L 90 3 40 s with ⟨nv, s1⟩
 rw [hr] at HNB HBD HFIN
 simp only at HBD
 obtain ⟨m0, rfl⟩ : ∃ m0 : Nat, nv = (m0 : Int) := ⟨nv.toNat, by omega⟩
 have HF0 : Hid (rdPts L m0 [] s1 = FIN) := Lib.hid (by have := HFIN.out; simpa using this)
 have hm40 : m0 ≤ 40 := by omega
 clear hr HBD HFIN h h3
 have q0 := free_of HO.out 0
 have z0 := cell_of HO.out 0 _ rfl
 have k0a := keep_set (v := .int .i64 3) (j := 0) n4 h1
 have k0b := keep_set (v := .int .i64 3) (j := 0) n5 h2
 have HO1 : Hid ((w.setCell ⟨xb, 0, none⟩ (.int .i64 3)).heap[xb]? = some (eobj ⟨3, l, (0, 0), (0, 0), (0, 0), (0, 0), (0, 0), false, []⟩ (.slice none 0 0))) := Lib.hid (block_set HO.out 0 (.int .i64 3))
 have HS1 := Lib.hid (HS.out.set n3 hap h7 0 (.int .i64 3))
 have HF1 := Lib.hid ((Fr.refl b xb w).set 0 (.int .i64 3))
 go_enter Tryz.func65, Tryz.ntmps65
 go_wp2_with fail
 refine (HNB.out _ HS1.out).mono ?_
 rintro e w2 ⟨rfl, hs2, hg2⟩
 have HP2 : Hid (PSt w w2 b xb A c L l [] s1 none 0) := Lib.hid ⟨hs2.obj, (hg2.block xb (blk_lt HO1.out) (fun e => n3 (by injection e))).trans HO1.out, World.ownsRow_nil _ _ _ _, HF1.out.trans (Fr.grown hg2)⟩
 clear hs2 hg2 q0 z0 k0a k0b HO1 HS1 HF1 HNB h1 h2
 go_wp2_with fail
 go_loopw [2] (fun v wr => ∃ (m : Nat) (acc : List V) (st : Gt.S) (B : Option Addr) (d : Nat), m + acc.length ≤ 40 ∧ v = .int .i64 (m : Nat) ∧ Hid (rdPts L m acc st = FIN) ∧ Hid (PSt w wr b xb A c L l acc st B d)) (fun v _ => (intOf v).toNat)
 case atStart => exact ⟨m0, [], s1, none, 0, by simpa using hm40, rfl, HF0, HP2⟩
 case round =>
  obtain ⟨m, acc, st, B, d, hm, rfl, HFI, HP⟩ := hrel
  have HFR := Lib.hid HP.out.fr
  have HSC := Lib.hid (HS.out.of_fr HP.out.fr hap h7 HP.out.scn)
  have HOX := Lib.hid HP.out.obj
  have HOWN := Lib.hid HP.out.own
  have k0 : wr.cell? ⟨bs, 0, none⟩ = some (.pointer (some ⟨b, 0, none⟩)) ∧ wr.cell? ⟨bx, 0, none⟩ = some (.pointer (some ⟨xb, 0, none⟩)) := ⟨by rw [World.cell?_of_block (a := ⟨bs, 0, none⟩) (HFR.out.block bs hls n1 n4)]; exact HK.out.1, by rw [World.cell?_of_block (a := ⟨bx, 0, none⟩) (HFR.out.block bx hlx n2 n5)]; exact HK.out.2⟩
  have HEND : Hid ((acc, st) = FIN → Sc wr b A c L FIN.2 ∧ (∃ B d, wr.heap[xb]? = some (eobj ⟨3, l, (0, 0), (0, 0), (0, 0), (0, 0), (0, 0), false, FIN.1⟩ (.slice B FIN.1.length d)) ∧ wr.ownsRow w.heap.size 47 2 (.slice B FIN.1.length d) FIN.1.length (FIN.1.flatMap GeW.ptCells)) ∧ Fr b xb w wr) := Lib.hid (fun e => by
   subst e
   exact ⟨HSC.out, ⟨B, d, HOX.out, HOWN.out⟩, HFR.out⟩)
  obtain ⟨c0, c1, c2, _⟩ := scell HP.out.scn
  obtain ⟨k0l, k0r⟩ := k0
  have k0 := And.intro k0l k0r
  rcases m with _ | m
  ·have HX := Lib.hid (HEND.out HFI.out)
   go_wp2
   go_end0
   exact ⟨rfl, HX.out⟩
  ·obtain ⟨si, sb⟩ := st
   simp only at c1 c2
   cases sb
   ·have HFI2 : Hid (rdPts L m (acc ++ [(pt L 10 ⟨si, false⟩).1]) (pt L 10 ⟨si, false⟩).2 = FIN) := Lib.hid (by
     have := HFI.out
     rw [rdPts, if_neg (by simp)] at this
     exact this)
    have HPT := Lib.hid (fun W hW => point_any L A c b ⟨si, false⟩ 10 W hW (by omega))
    rcases hp : pt L 10 ⟨si, false⟩ with ⟨⟨px, py⟩, s2⟩
    rw [hp] at HFI2 HPT
    simp only at HFI2 HPT
    clear hp HEND HFI
    have CH : Hid (acc.length + 1 ≤ maxLen ∧ (acc.length + 1) * 16 ≤ 140737488355328) := Lib.hid (by unfold maxLen; omega)
    have hgt : decide ((0 : Int) < ((m + 1 : Nat) : Int)) = true := decide_eq_true (by omega)
    have hgt2 : (0 : Int) < (m : Int) + 1 := by omega
    have z13 := cell_of HOX.out 13 _ rfl
    go_wp2_with fail
    refine wp_region_tillK (k := 11) (S1 := fun w' => w'.cell? ⟨bs, 0, none⟩ = some (.pointer (some ⟨b, 0, none⟩)) ∧ w'.cell? ⟨bx, 0, none⟩ = some (.pointer (some ⟨xb, 0, none⟩))) (S2 := fun w' => w'.cell? ⟨xb, 13, none⟩ = some (.slice B acc.length d)) (by kernel_rfl) ?_ (fun hHeld => ?_)
    ·exact ⟨k0, z13⟩
    refine wpAnyK_take (i := 0) (oi := { dst := some 19, op := Op.load 65 (Operand.tmp 0), type := 65, pos := "drawing.go:165", after := #[], guard := none }) (v := ?_) rfl (by kernel_rfl) (by kernel_rfl) (by kernel_rfl) (by kernel_rfl) (fun _ _ _ h => h) (Or.inl ⟨by rfl, ?_⟩) (by assumption) ?_
    rotate_left
    ·intro w' hSw
     (try dsimp only at hSw)
     first | (go_simp; done) | (go_simp; with_reducible rfl)
    try simp only [Act.put, List.setIfInBounds_toArray, List.set_cons_zero, List.set_cons_succ]
    refine wpAnyK_take (i := 1) (oi := { dst := some 20, op := Op.load 65 (Operand.tmp 0), type := 65, pos := "drawing.go:165", after := #[], guard := none }) (v := ?_) rfl (by kernel_rfl) (by kernel_rfl) (by kernel_rfl) (by kernel_rfl) (fun _ _ _ h => h) (Or.inl ⟨by rfl, ?_⟩) (by assumption) ?_
    rotate_left
    ·intro w' hSw
     (try dsimp only at hSw)
     first | (go_simp; done) | (go_simp; with_reducible rfl)
    try simp only [Act.put, List.setIfInBounds_toArray, List.set_cons_zero, List.set_cons_succ]
    refine wpAnyK_take (i := 2) (oi := { dst := some 21, op := Op.nilCheck (Operand.tmp 20), type := 0, pos := "drawing.go:165", after := #[{ on := 1, ground := Ground.data }], guard := none }) (v := ?_) rfl (by kernel_rfl) (by kernel_rfl) (by kernel_rfl) (by kernel_rfl) (fun _ _ _ h => h) (Or.inl ⟨by rfl, ?_⟩) (by assumption) ?_
    rotate_left
    ·intro w' hSw
     (try dsimp only at hSw)
     first | (go_simp; done) | (go_simp; with_reducible rfl)
    try simp only [Act.put, List.setIfInBounds_toArray, List.set_cons_zero, List.set_cons_succ]
    refine wpAnyK_take (i := 3) (oi := { dst := some 22, op := Op.fieldAddr 52 (Operand.tmp 21) 5, type := 0, pos := "drawing.go:165", after := #[{ on := 2, ground := Ground.data }], guard := none }) (v := ?_) rfl (by kernel_rfl) (by kernel_rfl) (by kernel_rfl) (by kernel_rfl) (fun _ _ _ h => h) (Or.inl ⟨by rfl, ?_⟩) (by assumption) ?_
    rotate_left
    ·intro w' hSw
     (try dsimp only at hSw)
     first | (go_simp; done) | (go_simp; with_reducible rfl)
    try simp only [Act.put, List.setIfInBounds_toArray, List.set_cons_zero, List.set_cons_succ]
    refine wpAnyK_take (i := 4) (oi := { dst := some 23, op := Op.load 50 (Operand.tmp 22), type := 50, pos := "drawing.go:165", after := #[{ on := 3, ground := Ground.data }], guard := none }) (v := ?_) rfl (by kernel_rfl) (by kernel_rfl) (by kernel_rfl) (by kernel_rfl) (fun _ _ _ h => h) (Or.inl ⟨by rfl, ?_⟩) (by assumption) ?_
    rotate_left
    ·intro w' hSw
     (try dsimp only at hSw)
     first | (go_simp; done) | (go_simp; with_reducible rfl)
    try simp only [Act.put, List.setIfInBounds_toArray, List.set_cons_zero, List.set_cons_succ]
    refine wpAnyK_take (i := 5) (oi := { dst := some 24, op := Op.load 59 (Operand.tmp 1), type := 59, pos := "drawing.go:165", after := #[], guard := none }) (v := ?_) rfl (by kernel_rfl) (by kernel_rfl) (by kernel_rfl) (by kernel_rfl) (fun _ _ _ h => h) (Or.inl ⟨by rfl, ?_⟩) (by assumption) ?_
    rotate_left
    ·intro w' hSw
     (try dsimp only at hSw)
     first | (go_simp; done) | (go_simp; with_reducible rfl)
    try simp only [Act.put, List.setIfInBounds_toArray, List.set_cons_zero, List.set_cons_succ]
    refine wpAnyK_one (i := 6) (o := { dst := some 25, op := Op.call { callee := Callee.value (Operand.func 60), args := #[Operand.tmp 24, Operand.const (Value.int IntKind.i64 10)], argTypes := #[59, 3] }, type := 47, pos := "drawing.go:165", after := #[{ on := 5, ground := Ground.data }], guard := none }) (by kernel_rfl) rfl (fun K hK => ?_)
    go_simp
    go_at_call 60
    refine (HPT.out _ HSC.out.drew).mono ?_
    rintro e w1 ⟨rfl, h1, g1⟩
    have k1 := And.intro (grown_cell g1 n1 k0.1) (grown_cell g1 n2 k0.2)
    have HO1 := Lib.hid ((g1.block xb (blk_lt (w := wr.drew) HOX.out) (fun e => n3 (by injection e))).trans HOX.out)
    have HB1 := Lib.hid h1.obj
    have HF1 := Lib.hid (HFR.out.drew.trans (Fr.grown g1))
    have HW1 := Lib.hid (own_grown HOWN.out.drew g1 hlb)
    clear h1 g1
    have y13 := cell_of HO1.out 13 _ rfl
    refine hK.out _ _ ?_ (fun _ => ?_) (fun hHeld => ?_)
    ·exact k1
    ·exact y13
    replace hHeld := And.intro hHeld.1 (hHeld.2 (by decide))
    clear hK K
    try simp only [Act.put, List.setIfInBounds_toArray, List.set_cons_zero, List.set_cons_succ]
    refine wpAnyK_one (i := 7) (o := { dst := some 26, op := Op.buildSlice 50 1 #[(0, Operand.tmp 25)], type := 50, pos := "drawing.go:165", after := #[{ on := 6, ground := Ground.data }], guard := none }) (by kernel_rfl) rfl (fun K hK => ?_)
    go_simp
    have HN2 := Lib.hid (GeW.newN_row w1 [.int .i64 px, .int .i64 py] 47)
    have hb2 := bel1 w1 (.cells #[.int .i64 px, .int .i64 py] 47)
    have k2 := And.intro ((hb2.cell (p := ⟨bs, 0, none⟩) (World.block_lt_of_cell? w1 _ k1.1)).trans k1.1) ((hb2.cell (p := ⟨bx, 0, none⟩) (World.block_lt_of_cell? w1 _ k1.2)).trans k1.2)
    have HO2 := Lib.hid (p_below HO1.out hb2)
    have HB2 := Lib.hid (p_below HB1.out hb2)
    have HF2 := Lib.hid (HF1.out.below hb2)
    have HW2 := Lib.hid (HW1.out.alloc (.cells #[.int .i64 px, .int .i64 py] 47))
    clear hb2
    have x13 := cell_of HO2.out 13 _ rfl
    refine hK.out _ _ ?_ (fun _ => ?_) (fun hHeld => ?_)
    ·exact k2
    ·exact x13
    replace hHeld := And.intro hHeld.1 (hHeld.2 (by decide))
    clear hK K
    try simp only [Act.put, List.setIfInBounds_toArray, List.set_cons_zero, List.set_cons_succ]
    refine wpAnyK_one (i := 8) (o := { dst := some 27, op := Op.call { callee := Callee.builtin Builtin.append, args := #[Operand.tmp 23, Operand.tmp 26], argTypes := #[50, 50] }, type := 50, pos := "drawing.go:165", after := #[{ on := 4, ground := Ground.data }, { on := 7, ground := Ground.data }, { on := 6, ground := Ground.chain }], guard := none }) (by kernel_rfl) rfl (fun K hK => ?_)
    refine GeW.step_append_row (by rfl) _ _ _ (by rfl) w.heap.size 47 i0 _ 2 16 Tryz.underlying50 ia ib ic id rfl (by omega) (.slice B acc.length d) acc.length (acc.flatMap GeW.ptCells) (by rfl) HW2.out (some ⟨w1.heap.size, 0, none⟩) 1 1 [.int .i64 px, .int .i64 py] (by rfl) HN2.out rfl (by intro u hu; simp at hu; rcases hu with rfl | rfl <;> rfl) CH.out.1 CH.out.2 (Nat.le_trans HF2.out.size (Nat.le_refl _)) ?_
    intro v3 w3 hown3 hgrow3
    obtain ⟨B3, d3, rfl, _⟩ := own_shape hown3
    have HR3 := Lib.hid (fun k hk => (HW2.out.lt k hk).1)
    have k3 := And.intro (old_cell hgrow3 HR3.out hls k2.1) (old_cell hgrow3 HR3.out hlx k2.2)
    have HO3 := Lib.hid (old_block hgrow3 HR3.out hlo HO2.out)
    have HB3 := Lib.hid (old_block hgrow3 HR3.out hlb HB2.out)
    have HF3 := Lib.hid (HF2.out.grow hgrow3 HR3.out)
    have HW3 := Lib.hid hown3
    clear hown3 hgrow3 x13
    have z13 := cell_of HO3.out 13 _ rfl
    have q13 := free_of HO3.out 13
    refine hK.out _ _ ?_ (fun _ => ?_) (fun hHeld => ?_)
    ·exact k3
    ·exact z13
    replace hHeld := And.intro hHeld.1 (hHeld.2 (by decide))
    clear hK K
    try simp only [Act.put, List.setIfInBounds_toArray, List.set_cons_zero, List.set_cons_succ]
    refine wpAnyK_one (i := 9) (o := { dst := some 28, op := Op.nilCheck (Operand.tmp 19), type := 0, pos := "drawing.go:165", after := #[{ on := 0, ground := Ground.data }, { on := 0, ground := Ground.phase }, { on := 1, ground := Ground.phase }, { on := 2, ground := Ground.phase }, { on := 3, ground := Ground.phase }, { on := 4, ground := Ground.phase }, { on := 5, ground := Ground.phase }, { on := 6, ground := Ground.phase }, { on := 7, ground := Ground.phase }, { on := 8, ground := Ground.phase }], guard := none }) (by kernel_rfl) rfl (fun K hK => ?_)
    go_simp
    refine hK.out _ _ ?_ (fun _ => ?_) (fun hHeld => ?_)
    ·exact k3
    ·exact z13
    replace hHeld := And.intro hHeld.1 (hHeld.2 (by decide))
    clear hK K
    try simp only [Act.put, List.setIfInBounds_toArray, List.set_cons_zero, List.set_cons_succ]
    refine wpAnyK_one (i := 10) (o := { dst := some 29, op := Op.fieldAddr 52 (Operand.tmp 28) 5, type := 0, pos := "drawing.go:165", after := #[{ on := 9, ground := Ground.data }, { on := 0, ground := Ground.phase }, { on := 1, ground := Ground.phase }, { on := 2, ground := Ground.phase }, { on := 3, ground := Ground.phase }, { on := 4, ground := Ground.phase }, { on := 5, ground := Ground.phase }, { on := 6, ground := Ground.phase }, { on := 7, ground := Ground.phase }, { on := 8, ground := Ground.phase }], guard := none }) (by kernel_rfl) rfl (fun K hK => ?_)
    go_simp
    refine hK.out _ _ ?_ (fun _ => ?_) (fun hHeld => ?_)
    ·exact k3
    ·exact z13
    replace hHeld := And.intro hHeld.1 (hHeld.2 (by decide))
    clear hK K
    try simp only [Act.put, List.setIfInBounds_toArray, List.set_cons_zero, List.set_cons_succ]
    refine wpAnyK_one (i := 11) (o := { dst := none, op := Op.store 50 (Operand.tmp 29) (Operand.tmp 27), type := 0, pos := "drawing.go:165", after := #[{ on := 10, ground := Ground.data }, { on := 8, ground := Ground.data }, { on := 8, ground := Ground.chain }, { on := 0, ground := Ground.phase }, { on := 1, ground := Ground.phase }, { on := 2, ground := Ground.phase }, { on := 3, ground := Ground.phase }, { on := 4, ground := Ground.phase }, { on := 5, ground := Ground.phase }, { on := 6, ground := Ground.phase }, { on := 7, ground := Ground.phase }, { on := 8, ground := Ground.phase }], guard := none }) (by kernel_rfl) rfl (fun K hK => ?_)
    go_simp
    refine hK.out _ _ ?_ (fun hne => ?_) (fun hHeld => ?_)
    ·exact ⟨keep_set n4 (k3.1), keep_set n5 (k3.2)⟩
    ·exact absurd rfl hne
    clear hK K
    try simp only [Act.put, List.setIfInBounds_toArray, List.set_cons_zero, List.set_cons_succ]
    refine wpAnyK_done (by kernel_rfl) ?_ _
    go_wp2
    go_roundw
    case rel =>
     refine ⟨m, acc ++ [(px, py)], s2, B3, d3, by rw [List.length_append]; simp; omega, by go_num, HFI2, Lib.hid ?_⟩
     have hl : (acc ++ [(px, py)]).length = acc.length + 1 := by simp
     have hfm : (acc ++ [((px, py) : V)]).flatMap GeW.ptCells = acc.flatMap GeW.ptCells ++ [.int .i64 px, .int .i64 py] := by simp [GeW.ptCells]
     refine ⟨(block_other _ _ _ _ (Ne.symm n3)).trans HB3.out, ?_, ?_, HF3.out.set 13 _⟩
     ·rw [hl]
      exact block_set HO3.out 13 (.slice B3 (acc.length + 1) d3)
     ·rw [hl, hfm]
      exact own_set HW3.out hlo 13 _
    case measure => simp [intOf]
   ·have HX := Lib.hid (HEND.out (by
     have := HFI.out
     rw [rdPts, if_pos rfl] at this
     exact this))
    have hgt : decide ((0 : Int) < ((m + 1 : Nat) : Int)) = true := decide_eq_true (by omega)
    have hgt2 : (0 : Int) < (m : Int) + 1 := by omega
    go_wp2
    go_end0
    exact ⟨rfl, HX.out⟩
end Go.Proofs.YtnmmhcchpcbeeaaGreatDoor.GtW
