/- Walk: replaced, a tree with another node at a path. Conditions: the path leads to a node; the trees lie in blocks of a set. -/
import Derived.Test.YtjjohllfidmkjaaDoorPfN2
import Derived.Test.YtjjohllfidmkjaaDoorPfC2
import Derived.Deep.RegionLaw
import Derived.Laws.OwnMore
import Derived.BigRegion
namespace Go.Proofs.YtjjohllfidmkjaaDoor.PfW
open Go Go.RowKit Go.Proofs.YtjjohllfidmkjaaDoor.Mem Go.Proofs.YtjjohllfidmkjaaDoor.Pf
attribute [local go_sem ↓] Go.wp_at_zero Go.wp_at_succ
/-- At a step of a region that draws its order. -/
theorem step_append_row {P : Program} {w : World} {ops : Array Oper} {o : Oper} {a : Act} {K : Act → World → Prop} {Q : Exit → Act → World → Prop} {E : Prop} (hgd : o.guard = none) (s x : Operand) (t : TypeId)
    (ho : o.op = .call { callee := .builtin .append, args := #[s, x], argTypes := #[t, t] })
    (base : Nat) (e : TypeId) (i : TypeInfo) (z : Value) (size bytes : Nat) (ht : P.underlying t = some (.slice e)) (hi : P.info? e = some i) (hz : i.zero = some z)
    (hsize : i.size = size) (hby : i.bytes = bytes) (hzs : z.cells.size = size) (hsz : 0 < size)
    (v : Value) (n : Nat) (xs : List Value) (hs : a.eval s = v) (hown : w.ownsRow base e size v n xs)
    (A : Option Addr) (m c : Nat) (news : List Value) (hx : a.eval x = .slice A m c) (hr : Row w A news) (hl : news.length = m * size) (h1 : ∀ u ∈ news, u.oneCell' = true)
    (h63 : n + m ≤ maxLen) (hbytes : (n + m) * bytes ≤ 140737488355328) (hbase : base ≤ w.heap.size)
    (h : ∀ v' w', w'.ownsRow base e size v' (n + m) (xs ++ news) → w.grownBy w' v.ownBlock → K (a.put o.dst v') w') :
    if Region.wanted o (yielded ops a.tmps) = true then Oper.wp P o a w K Q else E := by
  have hw : Region.wanted o (yielded ops a.tmps) = true := by simp [Region.wanted, hgd]
  rw [if_pos hw]
  exact wp_append_row w s x t ho base e i z size bytes ht hi hz hsize hby hzs hsz v n xs hs hown A m c news hx hr hl h1 h63 hbytes hbase h
theorem own_new (W : World) (E : TypeId) : (W.alloc (.cells #[] E)).ownsRow W.heap.size E 3 (.slice (some ⟨W.heap.size, 0, none⟩) 0 0) 0 [] :=
  World.ownsRow_lit (base := W.heap.size) (e := E) (size := 3) W #[] 0 (Nat.le_refl _) (by decide) rfl
theorem own_new2 (W : World) (o : Obj) (E : TypeId) : ((W.alloc o).alloc (.cells #[] E)).ownsRow W.heap.size E 3 (.slice (some ⟨W.heap.size + 1, 0, none⟩) 0 0) 0 [] := by
  have h := own_new (W.alloc o) E
  rw [World.size_alloc] at h
  exact own_more h (Nat.le_succ _)
theorem bel2 (W : World) (o1 o2 : Obj) : Below W.heap.size W ((W.alloc o1).alloc o2) := ((Below.refl _ _).alloc (Nat.le_refl _) o1).alloc (by simp) o2
theorem bel_set3 {B g : Nat} {w W : World} (h : Below B w W) (hg : B ≤ g) (x y z : Value) : Below B w (((W.setCell ⟨g, 0, none⟩ x).setCell ⟨g, 1, none⟩ y).setCell ⟨g, 2, none⟩ z) :=
  ((h.setCell (p := ⟨g, 0, none⟩) hg x).setCell (p := ⟨g, 1, none⟩) hg y).setCell (p := ⟨g, 2, none⟩) hg z
theorem own_two {w : World} {base c : Nat} {e : TypeId} {A : Option Addr} {x : Value} {xs : List Value} (h : w.ownsRow base e 3 (.slice A 2 c) 2 (x :: xs)) : ∃ g cur, A = some ⟨g, 0, none⟩ ∧ base ≤ g ∧ g < w.heap.size ∧ w.heap[g]? = some (.cells cur e (0, 0)) ∧ 6 ≤ cur.size ∧ cur.toList.take 6 = x :: xs := by
  rcases h.2 with ⟨_, h0⟩ | ⟨g, cap, cur, hv, hb, hh, hn, hc, hs, ht⟩
  · cases h0
  · cases hv
    exact ⟨g, cur, rfl, hb, lt_of_block hh, hh, by omega, ht⟩
theorem own_set3 {w : World} {base b n : Nat} {e : TypeId} {v : Value} {xs : List Value} (h : w.ownsRow base e 3 v n xs) (hb : v.ownBlock ≠ some b) (x y z : Value) : (((w.setCell ⟨b, 0, none⟩ x).setCell ⟨b, 1, none⟩ y).setCell ⟨b, 2, none⟩ z).ownsRow base e 3 v n xs :=
  ownsRow_setCell_other (ownsRow_setCell_other (ownsRow_setCell_other h hb x) hb y) hb z
theorem row_tail {w : World} {g off : Nat} {x : Value} {xs : List Value} (h : Row w (some ⟨g, off, none⟩) (x :: xs)) : Row w (some ⟨g, off + 1, none⟩) xs := fun hne => by
  obtain ⟨g', off', e, hg, hc⟩ := h (by simp)
  cases e
  refine ⟨g, off + 1, rfl, hg, fun j hj => ?_⟩
  have := hc (j + 1) (by simp; omega)
  rw [show off + 1 + j = off + (j + 1) by omega]
  simpa using this
theorem gq_cells {w : World} {g : Nat} {cur : Array Value} {e : TypeId} {x0 x1 x2 x3 x4 x5 : Value} (h : w.heap[g]? = some (.cells cur e (0, 0))) (ht : cur.toList.take 6 = [x0, x1, x2, x3, x4, x5]) :
    w.cell? ⟨g, 0, none⟩ = some x0 ∧ w.cell? ⟨g, 1, none⟩ = some x1 ∧ w.cell? ⟨g, 2, none⟩ = some x2 ∧ w.cell? ⟨g, 3, none⟩ = some x3 ∧ w.cell? ⟨g, 4, none⟩ = some x4 ∧ w.cell? ⟨g, 5, none⟩ = some x5 := by
  have hc : ∀ k, k < 6 → w.cell? ⟨g, k, none⟩ = [x0, x1, x2, x3, x4, x5][k]? := fun k hk => by
    rw [← ht, List.getElem?_take, if_pos hk, Array.getElem?_toList]
    simp [World.cell?, h]
  exact ⟨hc 0 (by omega), hc 1 (by omega), hc 2 (by omega), hc 3 (by omega), hc 4 (by omega), hc 5 (by omega)⟩
theorem free_cells {w : World} {g : Nat} {cur : Array Value} {e : TypeId} (h : w.heap[g]? = some (.cells cur e (0, 0))) (j : Nat) : w.frozen? ⟨g, j, none⟩ = false := by simp [World.frozen?, h]
theorem row6_0 {cur : Array Value} {x0 x1 x2 x3 x4 x5 : Value} (h : cur.toList.take 6 = [x0, x1, x2, x3, x4, x5]) (a b c : Value) (j : Nat) (hj : j < 6) : (((cur.setIfInBounds 0 a).setIfInBounds 1 b).setIfInBounds 2 c)[j]? = [a, b, c, x3, x4, x5][j]? := by
  have hl : 6 ≤ cur.size := by
    have := congrArg List.length h
    simp at this
    omega
  have hc : ∀ k, k < 6 → cur[k]? = [x0, x1, x2, x3, x4, x5][k]? := fun k hk => by
    rw [← h, List.getElem?_take, if_pos hk, Array.getElem?_toList]
  match j, hj with
  | 0, _ =>
    have hk : 0 < cur.size := by omega
    simp [hk]
  | 1, _ =>
    have hk : 1 < cur.size := by omega
    simp [hk]
  | 2, _ =>
    have hk : 2 < cur.size := by omega
    simp [hk]
  | 3, _ => simp [hc 3 (by omega)]
  | 4, _ => simp [hc 4 (by omega)]
  | 5, _ => simp [hc 5 (by omega)]
theorem row6_1 {cur : Array Value} {x0 x1 x2 x3 x4 x5 : Value} (h : cur.toList.take 6 = [x0, x1, x2, x3, x4, x5]) (a b c : Value) (j : Nat) (hj : j < 6) : (((cur.setIfInBounds 3 a).setIfInBounds 4 b).setIfInBounds 5 c)[j]? = [x0, x1, x2, a, b, c][j]? := by
  have hl : 6 ≤ cur.size := by
    have := congrArg List.length h
    simp at this
    omega
  have hc : ∀ k, k < 6 → cur[k]? = [x0, x1, x2, x3, x4, x5][k]? := fun k hk => by
    rw [← h, List.getElem?_take, if_pos hk, Array.getElem?_toList]
  match j, hj with
  | 0, _ => simp [hc 0 (by omega)]
  | 1, _ => simp [hc 1 (by omega)]
  | 2, _ => simp [hc 2 (by omega)]
  | 3, _ =>
    have hk : 3 < cur.size := by omega
    simp [hk]
  | 4, _ =>
    have hk : 4 < cur.size := by omega
    simp [hk]
  | 5, _ =>
    have hk : 5 < cur.size := by omega
    simp [hk]
theorem three_boxes (w : World) (o1 o2 o3 : Obj) : Below w.heap.size w (((w.alloc o1).alloc o2).alloc o3) ∧ (((w.alloc o1).alloc o2).alloc o3).heap[w.heap.size]? = some o1 ∧ (((w.alloc o1).alloc o2).alloc o3).heap[w.heap.size + 1]? = some o2 ∧ (((w.alloc o1).alloc o2).alloc o3).heap[w.heap.size + 1 + 1]? = some o3 := by
  have h2 := two_boxes w o1 o2
  have e2 : ((w.alloc o1).alloc o2).heap.size = w.heap.size + 1 + 1 := by simp
  have h3 := one_box ((w.alloc o1).alloc o2) o3
  refine ⟨h2.1.trans (h3.1.mono h2.1.size), ?_, ?_, ?_⟩
  · rw [h3.1.block _ (by omega)]; exact h2.2.1
  · rw [h3.1.block _ (by omega)]; exact h2.2.2
  · rw [← e2]; exact h3.2
theorem bel1 (W : World) (o : Obj) : Below W.heap.size W (W.alloc o) := (Below.refl _ _).alloc (Nat.le_refl _) o
set_option maxRecDepth 100000 in
set_option maxHeartbeats 4000000 in
theorem replaced_any (kt : T) (y' : Syst) (t' : T) : ∀ (p : List Nat) (y : Syst) (t : T), nodeAt y t p = some (y', t') → Fit t → p.length ≤ 1000000 → ∀ (S : Nat → Prop) (s9 : Int) (A9 : Option Addr) (m9 c9 : Nat) (B9 : Option Addr) (k9 d9 : Nat) (vs : List Value) (P : Option Addr) (pc : Nat) (w : World),
    TreeIn S w t vs → TreeIn S w kt [.int .i64 s9, .slice A9 m9 c9, .slice B9 k9 d9] → Row w P (natCells p) → p.length ≤ pc →
    Calls Tryd.prog 44 #[.agg vs.toArray, .slice P p.length pc, .agg #[.int .i64 s9, .slice A9 m9 c9, .slice B9 k9 d9]] w (TreeRet S w (repl kt t p))
  | [], y, t, _, _, _, S, s9, A9, m9, c9, B9, k9, d9, vs, P, pc, w, ht, hkt, hp, hroom => by
    have hlen := ht.len
    obtain ⟨x0, x1, x2, rfl⟩ : ∃ x0 x1 x2, vs = [x0, x1, x2] := by
      match vs, hlen with
      | [x0, x1, x2], _ => exact ⟨x0, x1, x2, rfl⟩
    obtain ⟨s, A, n, c, B, m, d, rfl, rfl, rfl⟩ := tree_shape ht
    have HBB := Lib.hid (three_boxes w (.cells #[.int .i64 s, .slice A n c, .slice B m d] 38) (.cells #[.int .i64 s9, .slice A9 m9 c9, .slice B9 k9 d9] 38) (.cells #[.int .i64 s9, .slice A9 m9 c9, .slice B9 k9 d9] 38))
    have HKT := Lib.hid (TreeIn.stays (S' := fun g => S g ∧ g < w.heap.size ∨ w.heap.size ≤ g) (fun g _ hg => HBB.out.1.block g hg) (fun g hs hg => .inl ⟨hs, hg⟩) _ _ hkt)
    have HB := Lib.hid HBB.out.1
    obtain ⟨c0, c1, c2⟩ := cell3 HBB.out.2.2.2
    rw [repl_nil]
    clear ht hkt hp
    go_enter Tryd.func44, Tryd.ntmps44
    go_wp2
    generalize ((w.alloc (.cells #[.int .i64 s, .slice A n c, .slice B m d] 38)).alloc (.cells #[.int .i64 s9, .slice A9 m9 c9, .slice B9 k9 d9] 38)).alloc (.cells #[.int .i64 s9, .slice A9 m9 c9, .slice B9 k9 d9] 38) = W at *
    refine bodyPost_ret (v := .agg #[.int .i64 s9, .slice A9 m9 c9, .slice B9 k9 d9]) (by simp [results, Tryd.results44, go_sem, c0, c1, c2]) rfl ?_
    exact ⟨s9, A9, m9, c9, B9, k9, d9, rfl, HKT.out, HB.out⟩
  | i :: p, y, .mk s ks lf, hn, hf, hpl, S, s9, A9, m9, c9, B9, k9, d9, vs, P, pc, w, ht, hkt, hp, hroom => by
    have IH := Lib.hid (replaced_any kt y' t' p)
    obtain ⟨a, b, k0, k1, hpa, rfl, hor⟩ := node_step hn
    have FK := Lib.hid hf.mk'.2.2
    have HKTR := Lib.hid hkt
    have HPATH := Lib.hid hp
    unfold TreeIn at ht
    obtain ⟨K, kc, B, d, ws, rfl, hc, hd, hr, hk, hlf⟩ := ht
    obtain ⟨gk, ofk, xs0, xA0, xn0, xc0, xB0, xm0, xd0, ek, HTK0, i0, i1, i2⟩ := kid_cells hr hk (Below.refl _ _) (k := 0) (by simp)
    obtain ⟨gk', ofk', xs1, xA1, xn1, xc1, xB1, xm1, xd1, ek', HTK1, i3, i4, i5⟩ := kid_cells hr hk (Below.refl _ _) (k := 1) (by simp)
    subst ek
    cases ek'
    have HBB := Lib.hid (three_boxes w (.cells #[.int .i64 s, .slice (some ⟨gk, ofk, none⟩) 2 kc, .slice B lf.length d] 38) (.cells #[.int .i64 s9, .slice A9 m9 c9, .slice B9 k9 d9] 38) (.cells #[.int .i64 0, .slice none 0 0, .slice none 0 0] 38))
    have hgk : gk < w.heap.size := World.block_lt_of_cell? w _ i0
    rw [Nat.zero_mul, Nat.add_zero] at i0 i1 i2
    rw [Nat.one_mul] at i3 i4 i5
    have HROW : Hid (Row (((w.alloc (.cells #[.int .i64 s, .slice (some ⟨gk, ofk, none⟩) 2 kc, .slice B lf.length d] 38)).alloc (.cells #[.int .i64 s9, .slice A9 m9 c9, .slice B9 k9 d9] 38)).alloc (.cells #[.int .i64 0, .slice none 0 0, .slice none 0 0] 38)) (some ⟨gk, ofk, none⟩) [.int .i64 xs0, .slice xA0 xn0 xc0, .slice xB0 xm0 xd0, .int .i64 xs1, .slice xA1 xn1 xc1, .slice xB1 xm1 xd1]) := Lib.hid (Row.below (fun _ => ⟨gk, ofk, rfl, hgk, fun j hj => by
      match j, hj with
      | 0, _ => exact i0
      | 1, _ => exact i1
      | 2, _ => exact i2
      | 3, _ => exact i3
      | 4, _ => exact i4
      | 5, _ => exact i5
      | j + 6, hj => simp at hj; omega⟩) HBB.out.1)
    have CA : Hid (∀ w', Below (((w.alloc (.cells #[.int .i64 s, .slice (some ⟨gk, ofk, none⟩) 2 kc, .slice B lf.length d] 38)).alloc (.cells #[.int .i64 s9, .slice A9 m9 c9, .slice B9 k9 d9] 38)).alloc (.cells #[.int .i64 0, .slice none 0 0, .slice none 0 0] 38)).heap.size (((w.alloc (.cells #[.int .i64 s, .slice (some ⟨gk, ofk, none⟩) 2 kc, .slice B lf.length d] 38)).alloc (.cells #[.int .i64 s9, .slice A9 m9 c9, .slice B9 k9 d9] 38)).alloc (.cells #[.int .i64 0, .slice none 0 0, .slice none 0 0] 38)) w' → w'.heap[w.heap.size]? = some (.cells #[.int .i64 s, .slice (some ⟨gk, ofk, none⟩) 2 kc, .slice B lf.length d] 38 (0, 0))) := Lib.hid (fun w' hb => (hb.block _ (lt_of_block HBB.out.2.1)).trans HBB.out.2.1)
    have CS : Hid (∀ w', Below (((w.alloc (.cells #[.int .i64 s, .slice (some ⟨gk, ofk, none⟩) 2 kc, .slice B lf.length d] 38)).alloc (.cells #[.int .i64 s9, .slice A9 m9 c9, .slice B9 k9 d9] 38)).alloc (.cells #[.int .i64 0, .slice none 0 0, .slice none 0 0] 38)).heap.size (((w.alloc (.cells #[.int .i64 s, .slice (some ⟨gk, ofk, none⟩) 2 kc, .slice B lf.length d] 38)).alloc (.cells #[.int .i64 s9, .slice A9 m9 c9, .slice B9 k9 d9] 38)).alloc (.cells #[.int .i64 0, .slice none 0 0, .slice none 0 0] 38)) w' → w'.cell? ⟨w.heap.size, 0, none⟩ = some (.int .i64 s) ∧ w'.cell? ⟨w.heap.size, 1, none⟩ = some (.slice (some ⟨gk, ofk, none⟩) 2 kc) ∧ w'.cell? ⟨w.heap.size, 2, none⟩ = some (.slice B lf.length d) ∧ Below (((w.alloc (.cells #[.int .i64 s, .slice (some ⟨gk, ofk, none⟩) 2 kc, .slice B lf.length d] 38)).alloc (.cells #[.int .i64 s9, .slice A9 m9 c9, .slice B9 k9 d9] 38)).alloc (.cells #[.int .i64 0, .slice none 0 0, .slice none 0 0] 38)).heap.size (((w.alloc (.cells #[.int .i64 s, .slice (some ⟨gk, ofk, none⟩) 2 kc, .slice B lf.length d] 38)).alloc (.cells #[.int .i64 s9, .slice A9 m9 c9, .slice B9 k9 d9] 38)).alloc (.cells #[.int .i64 0, .slice none 0 0, .slice none 0 0] 38)) w') := Lib.hid (fun w' hb => by
      obtain ⟨a0, a1, a2⟩ := cell3 (CA.out w' hb)
      exact ⟨a0, a1, a2, hb⟩)
    have hrf := Below.refl (((w.alloc (.cells #[.int .i64 s, .slice (some ⟨gk, ofk, none⟩) 2 kc, .slice B lf.length d] 38)).alloc (.cells #[.int .i64 s9, .slice A9 m9 c9, .slice B9 k9 d9] 38)).alloc (.cells #[.int .i64 0, .slice none 0 0, .slice none 0 0] 38)).heap.size (((w.alloc (.cells #[.int .i64 s, .slice (some ⟨gk, ofk, none⟩) 2 kc, .slice B lf.length d] 38)).alloc (.cells #[.int .i64 s9, .slice A9 m9 c9, .slice B9 k9 d9] 38)).alloc (.cells #[.int .i64 0, .slice none 0 0, .slice none 0 0] 38))
    obtain ⟨j0, ja, jb, jc, jd⟩ := info_parts info_own
    have HTK0 := Lib.hid HTK0
    have HTK1 := Lib.hid HTK1
    have HD := Lib.hid hd
    have HLF := Lib.hid hlf
    clear hkt hp hd hlf
    rcases hor with ⟨rfl, hn1⟩ | ⟨rfl, hn1⟩
    · rw [repl_zero]
      have hroom' : p.length + 1 ≤ pc := by simpa using hroom
      by_cases hp1 : pc = 1
      · obtain rfl : p = [] := List.eq_nil_of_length_eq_zero (by omega)
        subst hp1
        clear hroom'
        have HIH := Lib.hid (IH.out a k0 hn1 (FK.out.get 0 (by simp)) (by simp))
        go_enter Tryd.func44, Tryd.ntmps44
        go_upto_region 3 with fail
        generalize ((w.alloc (.cells #[.int .i64 s, .slice (some ⟨gk, ofk, none⟩) 2 kc, .slice B lf.length d] 38)).alloc (.cells #[.int .i64 s9, .slice A9 m9 c9, .slice B9 k9 d9] 38)).alloc (.cells #[.int .i64 0, .slice none 0 0, .slice none 0 0] 38) = W at *
        go_cut [7] from 12 to 20 (fun t wc => ∃ bo gq cq, t = .pointer (some ⟨bo, 0, none⟩) ∧ wc.heap[bo]? = some (.cells #[.int .i64 s, .slice (some ⟨gq, 0, none⟩) 2 cq, .slice B lf.length d] 38 (0, 0)) ∧ wc.ownsRow W.heap.size 38 3 (.slice (some ⟨gq, 0, none⟩) 2 cq) 2 [.int .i64 xs0, .slice xA0 xn0 xc0, .slice xB0 xm0 xd0, .int .i64 xs1, .slice xA1 xn1 xc1, .slice xB1 xm1 xd1] ∧ Below W.heap.size W wc ∧ W.heap.size ≤ bo ∧ bo ≠ gq)
        case first =>
          go_wp2_with fail
          go_region_held3 (fun w' => w'.cell? ⟨w.heap.size, 0, none⟩ = some (.int .i64 s) ∧ w'.cell? ⟨w.heap.size, 1, none⟩ = some (.slice (some ⟨gk, ofk, none⟩) 2 kc) ∧ w'.cell? ⟨w.heap.size, 2, none⟩ = some (.slice B lf.length d) ∧ Below W.heap.size W w') (first | assumption | exact CS.out _ (below_drew (bel1 _ _)) | exact CS.out _ (bel1 _ _) | exact CS.out _ (below_drew (bel2 _ _ _)) | exact CS.out _ (bel2 _ _ _) | exact CS.out _ hF1 | exact CS.out _ (below_drew hF1) | exact CS.out _ (hF1.alloc (Below.size hF1) _) | exact CS.out _ (below_drew (hF1.alloc (Below.size hF1) _)) | exact CS.out _ (bel_set3 hF1 (Nat.le_refl _) _ _ _) | exact CS.out _ (bel_set3 hF1 (Nat.le_succ _) _ _ _) | exact CS.out _ (below_drew hrf) | exact CS.out _ hrf) (first
            | (refine step_append_row (by rfl) _ _ _ (by rfl) W.heap.size 38 j0 _ 3 56 Tryd.underlying36 ja jb jc jd rfl (by omega) _ 0 [] (by rfl) ((own_new W 38).drew) _ 2 _ [.int .i64 xs0, .slice xA0 xn0 xc0, .slice xB0 xm0 xd0, .int .i64 xs1, .slice xA1 xn1 xc1, .slice xB1 xm1 xd1] (by rfl) (HROW.out.below (below_drew (bel1 W (.cells #[] 38)))) rfl (by intro u hu; simp at hu; rcases hu with rfl | rfl | rfl | rfl | rfl | rfl <;> rfl) (by unfold maxLen; omega) (by omega) (Below.size (below_drew (bel1 W (.cells #[] 38)))) ?_; intro v1 wa ho1 hg1; have hF1 := below_append (below_drew (bel1 W (.cells #[] 38))) (Below.size (below_drew (bel1 W (.cells #[] 38)))) ((own_new W 38).drew) hg1 (Nat.le_refl _); obtain ⟨A1, c1, hv1, hc1⟩ := own_shape ho1; subst hv1; simp only [Nat.zero_add] at ho1 hc1 hg1 hF1 ⊢)
            | (refine step_append_row (by rfl) _ _ _ (by rfl) W.heap.size 38 j0 _ 3 56 Tryd.underlying36 ja jb jc jd rfl (by omega) _ 0 [] (by rfl) (((own_new W 38).alloc (.cells #[.int .i64 0, .slice none 0 0, .slice none 0 0] 38)).drew) _ 2 _ [.int .i64 xs0, .slice xA0 xn0 xc0, .slice xB0 xm0 xd0, .int .i64 xs1, .slice xA1 xn1 xc1, .slice xB1 xm1 xd1] (by rfl) (HROW.out.below (below_drew (bel2 W (.cells #[] 38) (.cells #[.int .i64 0, .slice none 0 0, .slice none 0 0] 38)))) rfl (by intro u hu; simp at hu; rcases hu with rfl | rfl | rfl | rfl | rfl | rfl <;> rfl) (by unfold maxLen; omega) (by omega) (Below.size (below_drew (bel2 W (.cells #[] 38) (.cells #[.int .i64 0, .slice none 0 0, .slice none 0 0] 38)))) ?_; intro v1 wa ho1 hg1; have hF1 := below_append (below_drew (bel2 W (.cells #[] 38) (.cells #[.int .i64 0, .slice none 0 0, .slice none 0 0] 38))) (Below.size (below_drew (bel2 W (.cells #[] 38) (.cells #[.int .i64 0, .slice none 0 0, .slice none 0 0] 38)))) (((own_new W 38).alloc (.cells #[.int .i64 0, .slice none 0 0, .slice none 0 0] 38)).drew) hg1 (Nat.le_refl _); obtain ⟨A1, c1, hv1, hc1⟩ := own_shape ho1; subst hv1; simp only [Nat.zero_add] at ho1 hc1 hg1 hF1 ⊢; have zb : wa.heap[(W.heap.size + 1)]? = some (.cells #[.int .i64 0, .slice none 0 0, .slice none 0 0] 38 (0, 0)) := (hg1.block (W.heap.size + 1) (by simp <;> omega) (by intro h; have h' := Option.some.inj h; simp at h' <;> omega)).trans (two_boxes W (.cells #[] 38) (.cells #[.int .i64 0, .slice none 0 0, .slice none 0 0] 38)).2.2; obtain ⟨z0, z1, z2⟩ := cell3 zb; have zf := free3 zb; have zf0 := zf 0; have zf1 := zf 1; have zf2 := zf 2; have zz := lt_of_block zb; have ZB := Lib.hid zb; clear zb zf)
            | (refine step_append_row (by rfl) _ _ _ (by rfl) W.heap.size 38 j0 _ 3 56 Tryd.underlying36 ja jb jc jd rfl (by omega) _ 0 [] (by rfl) ((own_new2 W (.cells #[.int .i64 0, .slice none 0 0, .slice none 0 0] 38) 38).drew) _ 2 _ [.int .i64 xs0, .slice xA0 xn0 xc0, .slice xB0 xm0 xd0, .int .i64 xs1, .slice xA1 xn1 xc1, .slice xB1 xm1 xd1] (by rfl) (HROW.out.below (below_drew (bel2 W (.cells #[.int .i64 0, .slice none 0 0, .slice none 0 0] 38) (.cells #[] 38)))) rfl (by intro u hu; simp at hu; rcases hu with rfl | rfl | rfl | rfl | rfl | rfl <;> rfl) (by unfold maxLen; omega) (by omega) (Below.size (below_drew (bel2 W (.cells #[.int .i64 0, .slice none 0 0, .slice none 0 0] 38) (.cells #[] 38)))) ?_; intro v1 wa ho1 hg1; have hF1 := below_append (below_drew (bel2 W (.cells #[.int .i64 0, .slice none 0 0, .slice none 0 0] 38) (.cells #[] 38))) (Below.size (below_drew (bel2 W (.cells #[.int .i64 0, .slice none 0 0, .slice none 0 0] 38) (.cells #[] 38)))) ((own_new2 W (.cells #[.int .i64 0, .slice none 0 0, .slice none 0 0] 38) 38).drew) hg1 (Nat.le_refl _); obtain ⟨A1, c1, hv1, hc1⟩ := own_shape ho1; subst hv1; simp only [Nat.zero_add] at ho1 hc1 hg1 hF1 ⊢; have zb : wa.heap[W.heap.size]? = some (.cells #[.int .i64 0, .slice none 0 0, .slice none 0 0] 38 (0, 0)) := (hg1.block W.heap.size (by simp <;> omega) (by intro h; have h' := Option.some.inj h; simp at h' <;> omega)).trans (two_boxes W (.cells #[.int .i64 0, .slice none 0 0, .slice none 0 0] 38) (.cells #[] 38)).2.1; obtain ⟨z0, z1, z2⟩ := cell3 zb; have zf := free3 zb; have zf0 := zf 0; have zf1 := zf 1; have zf2 := zf 2; have zz := lt_of_block zb; have ZB := Lib.hid zb; clear zb zf))
          · go_wp2
            obtain ⟨gq, cur, rfl, h1, h2, _, _, _⟩ := own_two ho1
            go_meet
            case rel => exact ⟨wa.heap.size, gq, c1, rfl, heap_alloc_new _ _, ho1.alloc _, hF1.alloc (Below.size hF1) _, Below.size hF1, by omega⟩
          · go_wp2
            obtain ⟨gq, cur, rfl, h1, h2, h3, h4, _⟩ := own_two ho1
            have hne : gq ≠ W.heap.size + 1 := by
              rintro rfl
              have h5 := h3.symm.trans ZB.out
              cases h5
              simp at h4
            go_meet
            case rel => exact ⟨W.heap.size + 1, gq, c1, rfl, set3 ZB.out _ _ _, own_set3 ho1 (fun e => hne (Option.some.inj e)) _ _ _, bel_set3 hF1 (Nat.le_succ _) _ _ _, Nat.le_succ _, fun e => hne e.symm⟩
          · go_wp2
            obtain ⟨gq, cur, rfl, h1, h2, h3, h4, _⟩ := own_two ho1
            have hne : gq ≠ W.heap.size := by
              rintro rfl
              have h5 := h3.symm.trans ZB.out
              cases h5
              simp at h4
            go_meet
            case rel => exact ⟨W.heap.size, gq, c1, rfl, set3 ZB.out _ _ _, own_set3 ho1 (fun e => hne (Option.some.inj e)) _ _ _, bel_set3 hF1 (Nat.le_refl _) _ _ _, Nat.le_refl _, fun e => hne e.symm⟩
        case rest =>
          obtain ⟨bo, gq, cq, rfl, hbo, hown, hbw, hbo1, hbo2⟩ := hcut
          obtain ⟨gq', cur, eg, hgq1, hgq2, hgq, hcs, hct⟩ := own_two hown
          have hcq : 2 ≤ cq := by
            obtain ⟨_, _, e9, h9⟩ := own_shape hown
            cases e9; exact h9
          cases eg
          have HBW := Lib.hid hbw
          have HBO := Lib.hid hbo
          have HGQ := Lib.hid hgq
          have HCT := Lib.hid hct
          have HFW := Lib.hid (HBB.out.1.trans (hbw.mono HBB.out.1.size))
          have HT0 := Lib.hid (TreeIn.stays (S' := fun g => S g ∧ g < w.heap.size) (fun g _ hg => HFW.out.block g hg) (fun g hs hg => ⟨hs, hg⟩) _ _ HTK0.out)
          have HO1 := Lib.hid (TreeIn.stays (S' := fun g => S g ∧ g < w.heap.size) (fun g _ hg => HFW.out.block g hg) (fun g hs hg => ⟨hs, hg⟩) _ _ HTK1.out)
          have HKT := Lib.hid (TreeIn.stays (S' := fun g => S g ∧ g < w.heap.size) (fun g _ hg => HFW.out.block g hg) (fun g hs hg => ⟨hs, hg⟩) _ _ HKTR.out)
          have HPW := Lib.hid (HPATH.out.below HFW.out)
          have hzw : w.heap.size + 1 + 1 < wc.heap.size := Nat.lt_of_lt_of_le (lt_of_block HBB.out.2.2.2) hbw.size
          have B0 := Lib.hid ((hbw.block _ (lt_of_block HBB.out.2.1)).trans HBB.out.2.1)
          have B1 := Lib.hid ((hbw.block _ (lt_of_block HBB.out.2.2.1)).trans HBB.out.2.2.1)
          have B2 := Lib.hid ((hbw.block _ (lt_of_block HBB.out.2.2.2)).trans HBB.out.2.2.2)
          obtain ⟨gp, ofp, rfl, hgp, hpc⟩ := HPW.out (by simp [natCells, intCells, ints])
          have p0 : wc.cell? ⟨gp, ofp, none⟩ = some (.int .i64 0) := hpc 0 (by simp [natCells, intCells, ints])
          obtain ⟨o0, o1, o2⟩ := cell3 HBO.out
          obtain ⟨t0, t1, t2⟩ := cell3 B0.out
          obtain ⟨u0, u1, u2⟩ := cell3 B1.out
          have l0 := (HFW.out.cell (p := ⟨gk, ofk, none⟩) hgk).trans i0
          have l1 := (HFW.out.cell (p := ⟨gk, ofk + 1, none⟩) hgk).trans i1
          have l2 := (HFW.out.cell (p := ⟨gk, ofk + 2, none⟩) hgk).trans i2
          have hgp0 : gp < w.heap.size := by
            obtain ⟨_, _, e9, h9, _⟩ := HPATH.out (by simp [natCells, intCells, ints])
            cases e9; exact h9
          have hww : w.heap.size < gq := by have := lt_of_block HBB.out.2.2.2; omega
          have hwn1 : w.heap.size ≠ gq := by omega
          have hwn2 : w.heap.size + 1 ≠ gq := by have := lt_of_block HBB.out.2.2.2; omega
          have CT : Hid (∀ w', wc.grownBy w' (some gq) → w'.cell? ⟨bo, 0, none⟩ = some (.int .i64 s) ∧ w'.cell? ⟨bo, 1, none⟩ = some (.slice (some ⟨gq, 0, none⟩) 2 cq) ∧ w'.cell? ⟨gp, ofp, none⟩ = some (.int .i64 0) ∧ w'.cell? ⟨w.heap.size, 1, none⟩ = some (.slice (some ⟨gk, ofk, none⟩) 2 kc) ∧ w'.cell? ⟨gk, ofk, none⟩ = some (.int .i64 xs0) ∧ w'.cell? ⟨gk, ofk + 1, none⟩ = some (.slice xA0 xn0 xc0) ∧ w'.cell? ⟨gk, ofk + 2, none⟩ = some (.slice xB0 xm0 xd0) ∧ w'.cell? ⟨w.heap.size + 1, 0, none⟩ = some (.int .i64 s9) ∧ w'.cell? ⟨w.heap.size + 1, 1, none⟩ = some (.slice A9 m9 c9) ∧ w'.cell? ⟨w.heap.size + 1, 2, none⟩ = some (.slice B9 k9 d9) ∧ wc.grownBy w' (some gq)) := Lib.hid (fun w' hb => by
            have k : ∀ b j, b ≠ gq → b < wc.heap.size → w'.cell? ⟨b, j, none⟩ = wc.cell? ⟨b, j, none⟩ := fun b j h1 h2 => cell_stays (hb.block b h2 (fun e => h1 (Option.some.inj e)))
            have hk1 := Nat.lt_of_lt_of_le hgk HFW.out.size
            exact ⟨(k bo _ hbo2 (lt_of_block HBO.out)).trans o0, (k bo _ hbo2 (lt_of_block HBO.out)).trans o1, (k gp _ (by omega) hgp).trans p0, (k _ _ hwn1 (by omega)).trans t1, (k gk _ (by omega) hk1).trans l0, (k gk _ (by omega) hk1).trans l1, (k gk _ (by omega) hk1).trans l2, (k _ _ hwn2 (by omega)).trans u0, (k _ _ hwn2 (by omega)).trans u1, (k _ _ hwn2 (by omega)).trans u2, hb⟩)
          have hrw := Below.refl wc.heap.size wc
          have HPTL := Lib.hid (row_tail (x := .int .i64 0) (xs := natCells []) HPW.out)
          clear hrf hroom
          have HPT : Hid (Row wc (some ⟨gp, ofp, none⟩) (natCells [])) := Lib.hid (Row.nil _ _)
          clear HPTL
          go_wp2_with fail
          go_region_held3 (fun w' => w'.cell? ⟨bo, 0, none⟩ = some (.int .i64 s) ∧ w'.cell? ⟨bo, 1, none⟩ = some (.slice (some ⟨gq, 0, none⟩) 2 cq) ∧ w'.cell? ⟨gp, ofp, none⟩ = some (.int .i64 0) ∧ w'.cell? ⟨w.heap.size, 1, none⟩ = some (.slice (some ⟨gk, ofk, none⟩) 2 kc) ∧ w'.cell? ⟨gk, ofk, none⟩ = some (.int .i64 xs0) ∧ w'.cell? ⟨gk, ofk + 1, none⟩ = some (.slice xA0 xn0 xc0) ∧ w'.cell? ⟨gk, ofk + 2, none⟩ = some (.slice xB0 xm0 xd0) ∧ w'.cell? ⟨w.heap.size + 1, 0, none⟩ = some (.int .i64 s9) ∧ w'.cell? ⟨w.heap.size + 1, 1, none⟩ = some (.slice A9 m9 c9) ∧ w'.cell? ⟨w.heap.size + 1, 2, none⟩ = some (.slice B9 k9 d9) ∧ wc.grownBy w' (some gq)) (first | assumption | exact CT.out _ (grown_of_below (below_drew hrw)) | exact CT.out _ (grown_of_below hrw) | exact CT.out _ (grown_of_below hbv) | exact CT.out _ (grown_of_below (below_drew hbv)) | exact CT.out _ (grown_set (grown_set (grown_set (grown_of_below hbv) _ _) _ _) _ _)) ((go_at_call 44; refine (HIH.out _ _ _ _ _ _ _ _ _ _ _ _ (HT0.out.below (below_drew hrw)) (HKT.out.below (below_drew hrw)) (HPT.out.below (below_drew hrw)) (by simp)).mono ?_; rintro e wv ⟨sv, Av, nv, cv, Bv, mv, dv, rfl, htv, hbv0⟩; have hbv : Below wc.heap.size wc wv := (below_drew hrw).trans (hbv0.mono (Nat.le_of_eq rfl)); have gv := Lib.hid ((hbv.block gq hgq2).trans HGQ.out); obtain ⟨v0, v1, v2, v3, v4, v5⟩ := gq_cells gv.out HCT.out; have vf := free_cells gv.out; have vf0 := vf 0; have vf1 := vf 1; have vf2 := vf 2; have vz := lt_of_block gv.out))
          have HTV := Lib.hid htv
          have HBO2 := Lib.hid ((hbv.block bo (lt_of_block HBO.out)).trans HBO.out)
          have HB2 := Lib.hid ((hbv.block _ (lt_of_block B2.out)).trans B2.out)
          have hvz := hbv.size
          have ne1 : bo ≠ gq := hbo2
          have ne2 : w.heap.size + 1 + 1 ≠ gq := by have := lt_of_block HBB.out.2.2.2; omega
          have ne3 : w.heap.size + 1 + 1 ≠ bo := by have := lt_of_block HBB.out.2.2.2; omega
          clear htv hbv0
          obtain ⟨m0, m1, m2⟩ := cell3 HBO2.out
          obtain ⟨r0, r1, r2⟩ := cell3 HB2.out
          have q0 := free3 HB2.out 0
          have q1 := free3 HB2.out 1
          have q2 := free3 HB2.out 2
          have qz := lt_of_block HB2.out
          have oz := lt_of_block HBO2.out
          go_wp2
          refine bodyPost_ret (v := .agg #[.int .i64 s, .slice (some ⟨gq, 0, none⟩) 2 cq, .slice B lf.length d]) (by simp [results, Tryd.results44, go_sem, r0, r1, r2]) rfl ?_
          have GV : Hid ((((wv.setCell ⟨gq, 0, none⟩ (.int .i64 sv)).setCell ⟨gq, 1, none⟩ (.slice Av nv cv)).setCell ⟨gq, 2, none⟩ (.slice Bv mv dv)).heap[gq]? = some (.cells (((cur.setIfInBounds 0 (.int .i64 sv)).setIfInBounds 1 (.slice Av nv cv)).setIfInBounds 2 (.slice Bv mv dv)) 38 (0, 0))) := Lib.hid (set_cells _ _ (set_cells _ _ (set_cells _ _ gv.out)))
          have FAR : ∀ g, g ≠ gq → g ≠ w.heap.size + 1 + 1 → ((((((wv.setCell ⟨gq, 0, none⟩ (.int .i64 sv)).setCell ⟨gq, 1, none⟩ (.slice Av nv cv)).setCell ⟨gq, 2, none⟩ (.slice Bv mv dv)).setCell ⟨w.heap.size + 1 + 1, 0, none⟩ (.int .i64 s)).setCell ⟨w.heap.size + 1 + 1, 1, none⟩ (.slice (some ⟨gq, 0, none⟩) 2 cq)).setCell ⟨w.heap.size + 1 + 1, 2, none⟩ (.slice B lf.length d)).heap[g]? = wv.heap[g]? := fun g h1 h2 => by
            rw [three_far _ _ _ _ _ _ h2, Below.heap_setCell _ _ _ _ h1, Below.heap_setCell _ _ _ _ h1, Below.heap_setCell _ _ _ _ h1]
          have GV2 : Hid (((((((wv.setCell ⟨gq, 0, none⟩ (.int .i64 sv)).setCell ⟨gq, 1, none⟩ (.slice Av nv cv)).setCell ⟨gq, 2, none⟩ (.slice Bv mv dv)).setCell ⟨w.heap.size + 1 + 1, 0, none⟩ (.int .i64 s)).setCell ⟨w.heap.size + 1 + 1, 1, none⟩ (.slice (some ⟨gq, 0, none⟩) 2 cq)).setCell ⟨w.heap.size + 1 + 1, 2, none⟩ (.slice B lf.length d)).heap[gq]? = _) := Lib.hid ((three_far _ _ _ _ _ _ (fun e => ne2 e.symm)).trans GV.out)
          have hwz : w.heap.size ≤ gq := by have := lt_of_block HBB.out.2.2.2; omega
          refine ⟨s, _, 2, cq, B, _, d, rfl, ?_, ?_⟩
          · unfold TreeIn
            refine ⟨some ⟨gq, 0, none⟩, cq, B, d, ([.int .i64 sv, .slice Av nv cv, .slice Bv mv dv] ++ ([.int .i64 xs1, .slice xA1 xn1 xc1, .slice xB1 xm1 xd1] ++ [])), rfl, hcq, HD.out, fun _ => ⟨gq, 0, rfl, .inr hwz, lt_of_block GV2.out, fun j hj => ?_⟩, ?_, ?_⟩
            · have hj6 : j < 6 := by simpa using hj
              have h9 : ((((((wv.setCell ⟨gq, 0, none⟩ (.int .i64 sv)).setCell ⟨gq, 1, none⟩ (.slice Av nv cv)).setCell ⟨gq, 2, none⟩ (.slice Bv mv dv)).setCell ⟨w.heap.size + 1 + 1, 0, none⟩ (.int .i64 s)).setCell ⟨w.heap.size + 1 + 1, 1, none⟩ (.slice (some ⟨gq, 0, none⟩) 2 cq)).setCell ⟨w.heap.size + 1 + 1, 2, none⟩ (.slice B lf.length d)).cell? ⟨gq, 0 + j, none⟩ = (((cur.setIfInBounds 0 (.int .i64 sv)).setIfInBounds 1 (.slice Av nv cv)).setIfInBounds 2 (.slice Bv mv dv))[j]? := by
                have h8 := GV2.out
                unfold World.cell?
                rw [h8, Nat.zero_add]
                rfl
              rw [h9]
              exact row6_0 HCT.out _ _ _ j hj6
            · unfold KidsIn
              refine ⟨_, _, rfl, TreeIn.stays (fun g hg _ => FAR g (by rcases hg with ⟨⟨_, hg⟩, _⟩ | hg <;> (have h9 : wc.heap.size ≤ g ∨ g < w.heap.size := (by first | exact .inl hg | exact .inr hg); omega)) (by rcases hg with ⟨⟨_, hg⟩, _⟩ | hg <;> (have h9 : wc.heap.size ≤ g ∨ g < w.heap.size := (by first | exact .inl hg | exact .inr hg); omega))) (fun g hg _ => hg.elim (fun h => .inl h.1) (fun h => .inr (Nat.le_trans HFW.out.size h))) _ _ HTV.out, ?_⟩
              unfold KidsIn
              refine ⟨_, _, rfl, TreeIn.stays (fun g hg _ => FAR g (by have := hg.2; omega) (by have := hg.2; omega)) (fun g hg _ => .inl hg) _ _ (HO1.out.below hbv), ?_⟩
              unfold KidsIn
              rfl
            · exact HLF.out.stays (fun g _ hg => (FAR g (by omega) (by omega)).trans ((hbv.block g (by omega)).trans (HFW.out.block g hg))) (fun g hs hg => .inl ⟨hs, hg⟩)
          · have hb9 := HFW.out.trans (hbv.mono HFW.out.size)
            have hb8 : Below w.heap.size w (((wv.setCell ⟨gq, 0, none⟩ (.int .i64 sv)).setCell ⟨gq, 1, none⟩ (.slice Av nv cv)).setCell ⟨gq, 2, none⟩ (.slice Bv mv dv)) := ((hb9.setCell (p := ⟨gq, 0, none⟩) hwz _).setCell (p := ⟨gq, 1, none⟩) hwz _).setCell (p := ⟨gq, 2, none⟩) hwz _
            exact bel_set3 hb8 (by omega) _ _ _
      · have hq1 : (pc = 1) = False := by simp [hp1]
        have HIH := Lib.hid (IH.out a k0 hn1 (FK.out.get 0 (by simp)) (by simp at hpl; omega))
        go_enter Tryd.func44, Tryd.ntmps44
        go_upto_region 3 with fail
        generalize ((w.alloc (.cells #[.int .i64 s, .slice (some ⟨gk, ofk, none⟩) 2 kc, .slice B lf.length d] 38)).alloc (.cells #[.int .i64 s9, .slice A9 m9 c9, .slice B9 k9 d9] 38)).alloc (.cells #[.int .i64 0, .slice none 0 0, .slice none 0 0] 38) = W at *
        go_cut [7] from 12 to 20 (fun t wc => ∃ bo gq cq, t = .pointer (some ⟨bo, 0, none⟩) ∧ wc.heap[bo]? = some (.cells #[.int .i64 s, .slice (some ⟨gq, 0, none⟩) 2 cq, .slice B lf.length d] 38 (0, 0)) ∧ wc.ownsRow W.heap.size 38 3 (.slice (some ⟨gq, 0, none⟩) 2 cq) 2 [.int .i64 xs0, .slice xA0 xn0 xc0, .slice xB0 xm0 xd0, .int .i64 xs1, .slice xA1 xn1 xc1, .slice xB1 xm1 xd1] ∧ Below W.heap.size W wc ∧ W.heap.size ≤ bo ∧ bo ≠ gq)
        case first =>
          go_wp2_with fail
          go_region_held3 (fun w' => w'.cell? ⟨w.heap.size, 0, none⟩ = some (.int .i64 s) ∧ w'.cell? ⟨w.heap.size, 1, none⟩ = some (.slice (some ⟨gk, ofk, none⟩) 2 kc) ∧ w'.cell? ⟨w.heap.size, 2, none⟩ = some (.slice B lf.length d) ∧ Below W.heap.size W w') (first | assumption | exact CS.out _ (below_drew (bel1 _ _)) | exact CS.out _ (bel1 _ _) | exact CS.out _ (below_drew (bel2 _ _ _)) | exact CS.out _ (bel2 _ _ _) | exact CS.out _ hF1 | exact CS.out _ (below_drew hF1) | exact CS.out _ (hF1.alloc (Below.size hF1) _) | exact CS.out _ (below_drew (hF1.alloc (Below.size hF1) _)) | exact CS.out _ (bel_set3 hF1 (Nat.le_refl _) _ _ _) | exact CS.out _ (bel_set3 hF1 (Nat.le_succ _) _ _ _) | exact CS.out _ (below_drew hrf) | exact CS.out _ hrf) (first
            | (refine step_append_row (by rfl) _ _ _ (by rfl) W.heap.size 38 j0 _ 3 56 Tryd.underlying36 ja jb jc jd rfl (by omega) _ 0 [] (by rfl) ((own_new W 38).drew) _ 2 _ [.int .i64 xs0, .slice xA0 xn0 xc0, .slice xB0 xm0 xd0, .int .i64 xs1, .slice xA1 xn1 xc1, .slice xB1 xm1 xd1] (by rfl) (HROW.out.below (below_drew (bel1 W (.cells #[] 38)))) rfl (by intro u hu; simp at hu; rcases hu with rfl | rfl | rfl | rfl | rfl | rfl <;> rfl) (by unfold maxLen; omega) (by omega) (Below.size (below_drew (bel1 W (.cells #[] 38)))) ?_; intro v1 wa ho1 hg1; have hF1 := below_append (below_drew (bel1 W (.cells #[] 38))) (Below.size (below_drew (bel1 W (.cells #[] 38)))) ((own_new W 38).drew) hg1 (Nat.le_refl _); obtain ⟨A1, c1, hv1, hc1⟩ := own_shape ho1; subst hv1; simp only [Nat.zero_add] at ho1 hc1 hg1 hF1 ⊢)
            | (refine step_append_row (by rfl) _ _ _ (by rfl) W.heap.size 38 j0 _ 3 56 Tryd.underlying36 ja jb jc jd rfl (by omega) _ 0 [] (by rfl) (((own_new W 38).alloc (.cells #[.int .i64 0, .slice none 0 0, .slice none 0 0] 38)).drew) _ 2 _ [.int .i64 xs0, .slice xA0 xn0 xc0, .slice xB0 xm0 xd0, .int .i64 xs1, .slice xA1 xn1 xc1, .slice xB1 xm1 xd1] (by rfl) (HROW.out.below (below_drew (bel2 W (.cells #[] 38) (.cells #[.int .i64 0, .slice none 0 0, .slice none 0 0] 38)))) rfl (by intro u hu; simp at hu; rcases hu with rfl | rfl | rfl | rfl | rfl | rfl <;> rfl) (by unfold maxLen; omega) (by omega) (Below.size (below_drew (bel2 W (.cells #[] 38) (.cells #[.int .i64 0, .slice none 0 0, .slice none 0 0] 38)))) ?_; intro v1 wa ho1 hg1; have hF1 := below_append (below_drew (bel2 W (.cells #[] 38) (.cells #[.int .i64 0, .slice none 0 0, .slice none 0 0] 38))) (Below.size (below_drew (bel2 W (.cells #[] 38) (.cells #[.int .i64 0, .slice none 0 0, .slice none 0 0] 38)))) (((own_new W 38).alloc (.cells #[.int .i64 0, .slice none 0 0, .slice none 0 0] 38)).drew) hg1 (Nat.le_refl _); obtain ⟨A1, c1, hv1, hc1⟩ := own_shape ho1; subst hv1; simp only [Nat.zero_add] at ho1 hc1 hg1 hF1 ⊢; have zb : wa.heap[(W.heap.size + 1)]? = some (.cells #[.int .i64 0, .slice none 0 0, .slice none 0 0] 38 (0, 0)) := (hg1.block (W.heap.size + 1) (by simp <;> omega) (by intro h; have h' := Option.some.inj h; simp at h' <;> omega)).trans (two_boxes W (.cells #[] 38) (.cells #[.int .i64 0, .slice none 0 0, .slice none 0 0] 38)).2.2; obtain ⟨z0, z1, z2⟩ := cell3 zb; have zf := free3 zb; have zf0 := zf 0; have zf1 := zf 1; have zf2 := zf 2; have zz := lt_of_block zb; have ZB := Lib.hid zb; clear zb zf)
            | (refine step_append_row (by rfl) _ _ _ (by rfl) W.heap.size 38 j0 _ 3 56 Tryd.underlying36 ja jb jc jd rfl (by omega) _ 0 [] (by rfl) ((own_new2 W (.cells #[.int .i64 0, .slice none 0 0, .slice none 0 0] 38) 38).drew) _ 2 _ [.int .i64 xs0, .slice xA0 xn0 xc0, .slice xB0 xm0 xd0, .int .i64 xs1, .slice xA1 xn1 xc1, .slice xB1 xm1 xd1] (by rfl) (HROW.out.below (below_drew (bel2 W (.cells #[.int .i64 0, .slice none 0 0, .slice none 0 0] 38) (.cells #[] 38)))) rfl (by intro u hu; simp at hu; rcases hu with rfl | rfl | rfl | rfl | rfl | rfl <;> rfl) (by unfold maxLen; omega) (by omega) (Below.size (below_drew (bel2 W (.cells #[.int .i64 0, .slice none 0 0, .slice none 0 0] 38) (.cells #[] 38)))) ?_; intro v1 wa ho1 hg1; have hF1 := below_append (below_drew (bel2 W (.cells #[.int .i64 0, .slice none 0 0, .slice none 0 0] 38) (.cells #[] 38))) (Below.size (below_drew (bel2 W (.cells #[.int .i64 0, .slice none 0 0, .slice none 0 0] 38) (.cells #[] 38)))) ((own_new2 W (.cells #[.int .i64 0, .slice none 0 0, .slice none 0 0] 38) 38).drew) hg1 (Nat.le_refl _); obtain ⟨A1, c1, hv1, hc1⟩ := own_shape ho1; subst hv1; simp only [Nat.zero_add] at ho1 hc1 hg1 hF1 ⊢; have zb : wa.heap[W.heap.size]? = some (.cells #[.int .i64 0, .slice none 0 0, .slice none 0 0] 38 (0, 0)) := (hg1.block W.heap.size (by simp <;> omega) (by intro h; have h' := Option.some.inj h; simp at h' <;> omega)).trans (two_boxes W (.cells #[.int .i64 0, .slice none 0 0, .slice none 0 0] 38) (.cells #[] 38)).2.1; obtain ⟨z0, z1, z2⟩ := cell3 zb; have zf := free3 zb; have zf0 := zf 0; have zf1 := zf 1; have zf2 := zf 2; have zz := lt_of_block zb; have ZB := Lib.hid zb; clear zb zf))
          · go_wp2
            obtain ⟨gq, cur, rfl, h1, h2, _, _, _⟩ := own_two ho1
            go_meet
            case rel => exact ⟨wa.heap.size, gq, c1, rfl, heap_alloc_new _ _, ho1.alloc _, hF1.alloc (Below.size hF1) _, Below.size hF1, by omega⟩
          · go_wp2
            obtain ⟨gq, cur, rfl, h1, h2, h3, h4, _⟩ := own_two ho1
            have hne : gq ≠ W.heap.size + 1 := by
              rintro rfl
              have h5 := h3.symm.trans ZB.out
              cases h5
              simp at h4
            go_meet
            case rel => exact ⟨W.heap.size + 1, gq, c1, rfl, set3 ZB.out _ _ _, own_set3 ho1 (fun e => hne (Option.some.inj e)) _ _ _, bel_set3 hF1 (Nat.le_succ _) _ _ _, Nat.le_succ _, fun e => hne e.symm⟩
          · go_wp2
            obtain ⟨gq, cur, rfl, h1, h2, h3, h4, _⟩ := own_two ho1
            have hne : gq ≠ W.heap.size := by
              rintro rfl
              have h5 := h3.symm.trans ZB.out
              cases h5
              simp at h4
            go_meet
            case rel => exact ⟨W.heap.size, gq, c1, rfl, set3 ZB.out _ _ _, own_set3 ho1 (fun e => hne (Option.some.inj e)) _ _ _, bel_set3 hF1 (Nat.le_refl _) _ _ _, Nat.le_refl _, fun e => hne e.symm⟩
        case rest =>
          obtain ⟨bo, gq, cq, rfl, hbo, hown, hbw, hbo1, hbo2⟩ := hcut
          obtain ⟨gq', cur, eg, hgq1, hgq2, hgq, hcs, hct⟩ := own_two hown
          have hcq : 2 ≤ cq := by
            obtain ⟨_, _, e9, h9⟩ := own_shape hown
            cases e9; exact h9
          cases eg
          have HBW := Lib.hid hbw
          have HBO := Lib.hid hbo
          have HGQ := Lib.hid hgq
          have HCT := Lib.hid hct
          have HFW := Lib.hid (HBB.out.1.trans (hbw.mono HBB.out.1.size))
          have HT0 := Lib.hid (TreeIn.stays (S' := fun g => S g ∧ g < w.heap.size) (fun g _ hg => HFW.out.block g hg) (fun g hs hg => ⟨hs, hg⟩) _ _ HTK0.out)
          have HO1 := Lib.hid (TreeIn.stays (S' := fun g => S g ∧ g < w.heap.size) (fun g _ hg => HFW.out.block g hg) (fun g hs hg => ⟨hs, hg⟩) _ _ HTK1.out)
          have HKT := Lib.hid (TreeIn.stays (S' := fun g => S g ∧ g < w.heap.size) (fun g _ hg => HFW.out.block g hg) (fun g hs hg => ⟨hs, hg⟩) _ _ HKTR.out)
          have HPW := Lib.hid (HPATH.out.below HFW.out)
          have hzw : w.heap.size + 1 + 1 < wc.heap.size := Nat.lt_of_lt_of_le (lt_of_block HBB.out.2.2.2) hbw.size
          have B0 := Lib.hid ((hbw.block _ (lt_of_block HBB.out.2.1)).trans HBB.out.2.1)
          have B1 := Lib.hid ((hbw.block _ (lt_of_block HBB.out.2.2.1)).trans HBB.out.2.2.1)
          have B2 := Lib.hid ((hbw.block _ (lt_of_block HBB.out.2.2.2)).trans HBB.out.2.2.2)
          obtain ⟨gp, ofp, rfl, hgp, hpc⟩ := HPW.out (by simp [natCells, intCells, ints])
          have p0 : wc.cell? ⟨gp, ofp, none⟩ = some (.int .i64 0) := hpc 0 (by simp [natCells, intCells, ints])
          obtain ⟨o0, o1, o2⟩ := cell3 HBO.out
          obtain ⟨t0, t1, t2⟩ := cell3 B0.out
          obtain ⟨u0, u1, u2⟩ := cell3 B1.out
          have l0 := (HFW.out.cell (p := ⟨gk, ofk, none⟩) hgk).trans i0
          have l1 := (HFW.out.cell (p := ⟨gk, ofk + 1, none⟩) hgk).trans i1
          have l2 := (HFW.out.cell (p := ⟨gk, ofk + 2, none⟩) hgk).trans i2
          have hgp0 : gp < w.heap.size := by
            obtain ⟨_, _, e9, h9, _⟩ := HPATH.out (by simp [natCells, intCells, ints])
            cases e9; exact h9
          have hww : w.heap.size < gq := by have := lt_of_block HBB.out.2.2.2; omega
          have hwn1 : w.heap.size ≠ gq := by omega
          have hwn2 : w.heap.size + 1 ≠ gq := by have := lt_of_block HBB.out.2.2.2; omega
          have CT : Hid (∀ w', wc.grownBy w' (some gq) → w'.cell? ⟨bo, 0, none⟩ = some (.int .i64 s) ∧ w'.cell? ⟨bo, 1, none⟩ = some (.slice (some ⟨gq, 0, none⟩) 2 cq) ∧ w'.cell? ⟨gp, ofp, none⟩ = some (.int .i64 0) ∧ w'.cell? ⟨w.heap.size, 1, none⟩ = some (.slice (some ⟨gk, ofk, none⟩) 2 kc) ∧ w'.cell? ⟨gk, ofk, none⟩ = some (.int .i64 xs0) ∧ w'.cell? ⟨gk, ofk + 1, none⟩ = some (.slice xA0 xn0 xc0) ∧ w'.cell? ⟨gk, ofk + 2, none⟩ = some (.slice xB0 xm0 xd0) ∧ w'.cell? ⟨w.heap.size + 1, 0, none⟩ = some (.int .i64 s9) ∧ w'.cell? ⟨w.heap.size + 1, 1, none⟩ = some (.slice A9 m9 c9) ∧ w'.cell? ⟨w.heap.size + 1, 2, none⟩ = some (.slice B9 k9 d9) ∧ wc.grownBy w' (some gq)) := Lib.hid (fun w' hb => by
            have k : ∀ b j, b ≠ gq → b < wc.heap.size → w'.cell? ⟨b, j, none⟩ = wc.cell? ⟨b, j, none⟩ := fun b j h1 h2 => cell_stays (hb.block b h2 (fun e => h1 (Option.some.inj e)))
            have hk1 := Nat.lt_of_lt_of_le hgk HFW.out.size
            exact ⟨(k bo _ hbo2 (lt_of_block HBO.out)).trans o0, (k bo _ hbo2 (lt_of_block HBO.out)).trans o1, (k gp _ (by omega) hgp).trans p0, (k _ _ hwn1 (by omega)).trans t1, (k gk _ (by omega) hk1).trans l0, (k gk _ (by omega) hk1).trans l1, (k gk _ (by omega) hk1).trans l2, (k _ _ hwn2 (by omega)).trans u0, (k _ _ hwn2 (by omega)).trans u1, (k _ _ hwn2 (by omega)).trans u2, hb⟩)
          have hrw := Below.refl wc.heap.size wc
          have HPTL := Lib.hid (row_tail (x := .int .i64 0) (xs := natCells p) HPW.out)
          have hpr : p.length + 1 ≤ pc := by simpa using hroom
          have hr1 : (1 : Int) ≤ (p.length : Int) + 1 := by omega
          have hr2 : (p.length : Int) + 1 ≤ (pc : Int) := by omega
          clear hrf hroom
          have HPT := HPTL
          clear HPTL
          go_wp2_with fail
          go_region_held3 (fun w' => w'.cell? ⟨bo, 0, none⟩ = some (.int .i64 s) ∧ w'.cell? ⟨bo, 1, none⟩ = some (.slice (some ⟨gq, 0, none⟩) 2 cq) ∧ w'.cell? ⟨gp, ofp, none⟩ = some (.int .i64 0) ∧ w'.cell? ⟨w.heap.size, 1, none⟩ = some (.slice (some ⟨gk, ofk, none⟩) 2 kc) ∧ w'.cell? ⟨gk, ofk, none⟩ = some (.int .i64 xs0) ∧ w'.cell? ⟨gk, ofk + 1, none⟩ = some (.slice xA0 xn0 xc0) ∧ w'.cell? ⟨gk, ofk + 2, none⟩ = some (.slice xB0 xm0 xd0) ∧ w'.cell? ⟨w.heap.size + 1, 0, none⟩ = some (.int .i64 s9) ∧ w'.cell? ⟨w.heap.size + 1, 1, none⟩ = some (.slice A9 m9 c9) ∧ w'.cell? ⟨w.heap.size + 1, 2, none⟩ = some (.slice B9 k9 d9) ∧ wc.grownBy w' (some gq)) (first | assumption | exact CT.out _ (grown_of_below (below_drew hrw)) | exact CT.out _ (grown_of_below hrw) | exact CT.out _ (grown_of_below hbv) | exact CT.out _ (grown_of_below (below_drew hbv)) | exact CT.out _ (grown_set (grown_set (grown_set (grown_of_below hbv) _ _) _ _) _ _)) ((go_at_call 44; refine (HIH.out _ _ _ _ _ _ _ _ _ _ _ _ (HT0.out.below (below_drew hrw)) (HKT.out.below (below_drew hrw)) (HPT.out.below (below_drew hrw)) (by omega)).mono ?_; rintro e wv ⟨sv, Av, nv, cv, Bv, mv, dv, rfl, htv, hbv0⟩; have hbv : Below wc.heap.size wc wv := (below_drew hrw).trans (hbv0.mono (Nat.le_of_eq rfl)); have gv := Lib.hid ((hbv.block gq hgq2).trans HGQ.out); obtain ⟨v0, v1, v2, v3, v4, v5⟩ := gq_cells gv.out HCT.out; have vf := free_cells gv.out; have vf0 := vf 0; have vf1 := vf 1; have vf2 := vf 2; have vz := lt_of_block gv.out))
          have HTV := Lib.hid htv
          have HBO2 := Lib.hid ((hbv.block bo (lt_of_block HBO.out)).trans HBO.out)
          have HB2 := Lib.hid ((hbv.block _ (lt_of_block B2.out)).trans B2.out)
          have hvz := hbv.size
          have ne1 : bo ≠ gq := hbo2
          have ne2 : w.heap.size + 1 + 1 ≠ gq := by have := lt_of_block HBB.out.2.2.2; omega
          have ne3 : w.heap.size + 1 + 1 ≠ bo := by have := lt_of_block HBB.out.2.2.2; omega
          clear htv hbv0
          obtain ⟨m0, m1, m2⟩ := cell3 HBO2.out
          obtain ⟨r0, r1, r2⟩ := cell3 HB2.out
          have q0 := free3 HB2.out 0
          have q1 := free3 HB2.out 1
          have q2 := free3 HB2.out 2
          have qz := lt_of_block HB2.out
          have oz := lt_of_block HBO2.out
          go_wp2
          refine bodyPost_ret (v := .agg #[.int .i64 s, .slice (some ⟨gq, 0, none⟩) 2 cq, .slice B lf.length d]) (by simp [results, Tryd.results44, go_sem, r0, r1, r2]) rfl ?_
          have GV : Hid ((((wv.setCell ⟨gq, 0, none⟩ (.int .i64 sv)).setCell ⟨gq, 1, none⟩ (.slice Av nv cv)).setCell ⟨gq, 2, none⟩ (.slice Bv mv dv)).heap[gq]? = some (.cells (((cur.setIfInBounds 0 (.int .i64 sv)).setIfInBounds 1 (.slice Av nv cv)).setIfInBounds 2 (.slice Bv mv dv)) 38 (0, 0))) := Lib.hid (set_cells _ _ (set_cells _ _ (set_cells _ _ gv.out)))
          have FAR : ∀ g, g ≠ gq → g ≠ w.heap.size + 1 + 1 → ((((((wv.setCell ⟨gq, 0, none⟩ (.int .i64 sv)).setCell ⟨gq, 1, none⟩ (.slice Av nv cv)).setCell ⟨gq, 2, none⟩ (.slice Bv mv dv)).setCell ⟨w.heap.size + 1 + 1, 0, none⟩ (.int .i64 s)).setCell ⟨w.heap.size + 1 + 1, 1, none⟩ (.slice (some ⟨gq, 0, none⟩) 2 cq)).setCell ⟨w.heap.size + 1 + 1, 2, none⟩ (.slice B lf.length d)).heap[g]? = wv.heap[g]? := fun g h1 h2 => by
            rw [three_far _ _ _ _ _ _ h2, Below.heap_setCell _ _ _ _ h1, Below.heap_setCell _ _ _ _ h1, Below.heap_setCell _ _ _ _ h1]
          have GV2 : Hid (((((((wv.setCell ⟨gq, 0, none⟩ (.int .i64 sv)).setCell ⟨gq, 1, none⟩ (.slice Av nv cv)).setCell ⟨gq, 2, none⟩ (.slice Bv mv dv)).setCell ⟨w.heap.size + 1 + 1, 0, none⟩ (.int .i64 s)).setCell ⟨w.heap.size + 1 + 1, 1, none⟩ (.slice (some ⟨gq, 0, none⟩) 2 cq)).setCell ⟨w.heap.size + 1 + 1, 2, none⟩ (.slice B lf.length d)).heap[gq]? = _) := Lib.hid ((three_far _ _ _ _ _ _ (fun e => ne2 e.symm)).trans GV.out)
          have hwz : w.heap.size ≤ gq := by have := lt_of_block HBB.out.2.2.2; omega
          refine ⟨s, _, 2, cq, B, _, d, rfl, ?_, ?_⟩
          · unfold TreeIn
            refine ⟨some ⟨gq, 0, none⟩, cq, B, d, ([.int .i64 sv, .slice Av nv cv, .slice Bv mv dv] ++ ([.int .i64 xs1, .slice xA1 xn1 xc1, .slice xB1 xm1 xd1] ++ [])), rfl, hcq, HD.out, fun _ => ⟨gq, 0, rfl, .inr hwz, lt_of_block GV2.out, fun j hj => ?_⟩, ?_, ?_⟩
            · have hj6 : j < 6 := by simpa using hj
              have h9 : ((((((wv.setCell ⟨gq, 0, none⟩ (.int .i64 sv)).setCell ⟨gq, 1, none⟩ (.slice Av nv cv)).setCell ⟨gq, 2, none⟩ (.slice Bv mv dv)).setCell ⟨w.heap.size + 1 + 1, 0, none⟩ (.int .i64 s)).setCell ⟨w.heap.size + 1 + 1, 1, none⟩ (.slice (some ⟨gq, 0, none⟩) 2 cq)).setCell ⟨w.heap.size + 1 + 1, 2, none⟩ (.slice B lf.length d)).cell? ⟨gq, 0 + j, none⟩ = (((cur.setIfInBounds 0 (.int .i64 sv)).setIfInBounds 1 (.slice Av nv cv)).setIfInBounds 2 (.slice Bv mv dv))[j]? := by
                have h8 := GV2.out
                unfold World.cell?
                rw [h8, Nat.zero_add]
                rfl
              rw [h9]
              exact row6_0 HCT.out _ _ _ j hj6
            · unfold KidsIn
              refine ⟨_, _, rfl, TreeIn.stays (fun g hg _ => FAR g (by rcases hg with ⟨⟨_, hg⟩, _⟩ | hg <;> (have h9 : wc.heap.size ≤ g ∨ g < w.heap.size := (by first | exact .inl hg | exact .inr hg); omega)) (by rcases hg with ⟨⟨_, hg⟩, _⟩ | hg <;> (have h9 : wc.heap.size ≤ g ∨ g < w.heap.size := (by first | exact .inl hg | exact .inr hg); omega))) (fun g hg _ => hg.elim (fun h => .inl h.1) (fun h => .inr (Nat.le_trans HFW.out.size h))) _ _ HTV.out, ?_⟩
              unfold KidsIn
              refine ⟨_, _, rfl, TreeIn.stays (fun g hg _ => FAR g (by have := hg.2; omega) (by have := hg.2; omega)) (fun g hg _ => .inl hg) _ _ (HO1.out.below hbv), ?_⟩
              unfold KidsIn
              rfl
            · exact HLF.out.stays (fun g _ hg => (FAR g (by omega) (by omega)).trans ((hbv.block g (by omega)).trans (HFW.out.block g hg))) (fun g hs hg => .inl ⟨hs, hg⟩)
          · have hb9 := HFW.out.trans (hbv.mono HFW.out.size)
            have hb8 : Below w.heap.size w (((wv.setCell ⟨gq, 0, none⟩ (.int .i64 sv)).setCell ⟨gq, 1, none⟩ (.slice Av nv cv)).setCell ⟨gq, 2, none⟩ (.slice Bv mv dv)) := ((hb9.setCell (p := ⟨gq, 0, none⟩) hwz _).setCell (p := ⟨gq, 1, none⟩) hwz _).setCell (p := ⟨gq, 2, none⟩) hwz _
            exact bel_set3 hb8 (by omega) _ _ _
    · rw [repl_one]
      have hroom' : p.length + 1 ≤ pc := by simpa using hroom
      by_cases hp1 : pc = 1
      · obtain rfl : p = [] := List.eq_nil_of_length_eq_zero (by omega)
        subst hp1
        clear hroom'
        have HIH := Lib.hid (IH.out b k1 hn1 (FK.out.get 1 (by simp)) (by simp))
        go_enter Tryd.func44, Tryd.ntmps44
        go_upto_region 3 with fail
        generalize ((w.alloc (.cells #[.int .i64 s, .slice (some ⟨gk, ofk, none⟩) 2 kc, .slice B lf.length d] 38)).alloc (.cells #[.int .i64 s9, .slice A9 m9 c9, .slice B9 k9 d9] 38)).alloc (.cells #[.int .i64 0, .slice none 0 0, .slice none 0 0] 38) = W at *
        go_cut [7] from 12 to 20 (fun t wc => ∃ bo gq cq, t = .pointer (some ⟨bo, 0, none⟩) ∧ wc.heap[bo]? = some (.cells #[.int .i64 s, .slice (some ⟨gq, 0, none⟩) 2 cq, .slice B lf.length d] 38 (0, 0)) ∧ wc.ownsRow W.heap.size 38 3 (.slice (some ⟨gq, 0, none⟩) 2 cq) 2 [.int .i64 xs0, .slice xA0 xn0 xc0, .slice xB0 xm0 xd0, .int .i64 xs1, .slice xA1 xn1 xc1, .slice xB1 xm1 xd1] ∧ Below W.heap.size W wc ∧ W.heap.size ≤ bo ∧ bo ≠ gq)
        case first =>
          go_wp2_with fail
          go_region_held3 (fun w' => w'.cell? ⟨w.heap.size, 0, none⟩ = some (.int .i64 s) ∧ w'.cell? ⟨w.heap.size, 1, none⟩ = some (.slice (some ⟨gk, ofk, none⟩) 2 kc) ∧ w'.cell? ⟨w.heap.size, 2, none⟩ = some (.slice B lf.length d) ∧ Below W.heap.size W w') (first | assumption | exact CS.out _ (below_drew (bel1 _ _)) | exact CS.out _ (bel1 _ _) | exact CS.out _ (below_drew (bel2 _ _ _)) | exact CS.out _ (bel2 _ _ _) | exact CS.out _ hF1 | exact CS.out _ (below_drew hF1) | exact CS.out _ (hF1.alloc (Below.size hF1) _) | exact CS.out _ (below_drew (hF1.alloc (Below.size hF1) _)) | exact CS.out _ (bel_set3 hF1 (Nat.le_refl _) _ _ _) | exact CS.out _ (bel_set3 hF1 (Nat.le_succ _) _ _ _) | exact CS.out _ (below_drew hrf) | exact CS.out _ hrf) (first
            | (refine step_append_row (by rfl) _ _ _ (by rfl) W.heap.size 38 j0 _ 3 56 Tryd.underlying36 ja jb jc jd rfl (by omega) _ 0 [] (by rfl) ((own_new W 38).drew) _ 2 _ [.int .i64 xs0, .slice xA0 xn0 xc0, .slice xB0 xm0 xd0, .int .i64 xs1, .slice xA1 xn1 xc1, .slice xB1 xm1 xd1] (by rfl) (HROW.out.below (below_drew (bel1 W (.cells #[] 38)))) rfl (by intro u hu; simp at hu; rcases hu with rfl | rfl | rfl | rfl | rfl | rfl <;> rfl) (by unfold maxLen; omega) (by omega) (Below.size (below_drew (bel1 W (.cells #[] 38)))) ?_; intro v1 wa ho1 hg1; have hF1 := below_append (below_drew (bel1 W (.cells #[] 38))) (Below.size (below_drew (bel1 W (.cells #[] 38)))) ((own_new W 38).drew) hg1 (Nat.le_refl _); obtain ⟨A1, c1, hv1, hc1⟩ := own_shape ho1; subst hv1; simp only [Nat.zero_add] at ho1 hc1 hg1 hF1 ⊢)
            | (refine step_append_row (by rfl) _ _ _ (by rfl) W.heap.size 38 j0 _ 3 56 Tryd.underlying36 ja jb jc jd rfl (by omega) _ 0 [] (by rfl) (((own_new W 38).alloc (.cells #[.int .i64 0, .slice none 0 0, .slice none 0 0] 38)).drew) _ 2 _ [.int .i64 xs0, .slice xA0 xn0 xc0, .slice xB0 xm0 xd0, .int .i64 xs1, .slice xA1 xn1 xc1, .slice xB1 xm1 xd1] (by rfl) (HROW.out.below (below_drew (bel2 W (.cells #[] 38) (.cells #[.int .i64 0, .slice none 0 0, .slice none 0 0] 38)))) rfl (by intro u hu; simp at hu; rcases hu with rfl | rfl | rfl | rfl | rfl | rfl <;> rfl) (by unfold maxLen; omega) (by omega) (Below.size (below_drew (bel2 W (.cells #[] 38) (.cells #[.int .i64 0, .slice none 0 0, .slice none 0 0] 38)))) ?_; intro v1 wa ho1 hg1; have hF1 := below_append (below_drew (bel2 W (.cells #[] 38) (.cells #[.int .i64 0, .slice none 0 0, .slice none 0 0] 38))) (Below.size (below_drew (bel2 W (.cells #[] 38) (.cells #[.int .i64 0, .slice none 0 0, .slice none 0 0] 38)))) (((own_new W 38).alloc (.cells #[.int .i64 0, .slice none 0 0, .slice none 0 0] 38)).drew) hg1 (Nat.le_refl _); obtain ⟨A1, c1, hv1, hc1⟩ := own_shape ho1; subst hv1; simp only [Nat.zero_add] at ho1 hc1 hg1 hF1 ⊢; have zb : wa.heap[(W.heap.size + 1)]? = some (.cells #[.int .i64 0, .slice none 0 0, .slice none 0 0] 38 (0, 0)) := (hg1.block (W.heap.size + 1) (by simp <;> omega) (by intro h; have h' := Option.some.inj h; simp at h' <;> omega)).trans (two_boxes W (.cells #[] 38) (.cells #[.int .i64 0, .slice none 0 0, .slice none 0 0] 38)).2.2; obtain ⟨z0, z1, z2⟩ := cell3 zb; have zf := free3 zb; have zf0 := zf 0; have zf1 := zf 1; have zf2 := zf 2; have zz := lt_of_block zb; have ZB := Lib.hid zb; clear zb zf)
            | (refine step_append_row (by rfl) _ _ _ (by rfl) W.heap.size 38 j0 _ 3 56 Tryd.underlying36 ja jb jc jd rfl (by omega) _ 0 [] (by rfl) ((own_new2 W (.cells #[.int .i64 0, .slice none 0 0, .slice none 0 0] 38) 38).drew) _ 2 _ [.int .i64 xs0, .slice xA0 xn0 xc0, .slice xB0 xm0 xd0, .int .i64 xs1, .slice xA1 xn1 xc1, .slice xB1 xm1 xd1] (by rfl) (HROW.out.below (below_drew (bel2 W (.cells #[.int .i64 0, .slice none 0 0, .slice none 0 0] 38) (.cells #[] 38)))) rfl (by intro u hu; simp at hu; rcases hu with rfl | rfl | rfl | rfl | rfl | rfl <;> rfl) (by unfold maxLen; omega) (by omega) (Below.size (below_drew (bel2 W (.cells #[.int .i64 0, .slice none 0 0, .slice none 0 0] 38) (.cells #[] 38)))) ?_; intro v1 wa ho1 hg1; have hF1 := below_append (below_drew (bel2 W (.cells #[.int .i64 0, .slice none 0 0, .slice none 0 0] 38) (.cells #[] 38))) (Below.size (below_drew (bel2 W (.cells #[.int .i64 0, .slice none 0 0, .slice none 0 0] 38) (.cells #[] 38)))) ((own_new2 W (.cells #[.int .i64 0, .slice none 0 0, .slice none 0 0] 38) 38).drew) hg1 (Nat.le_refl _); obtain ⟨A1, c1, hv1, hc1⟩ := own_shape ho1; subst hv1; simp only [Nat.zero_add] at ho1 hc1 hg1 hF1 ⊢; have zb : wa.heap[W.heap.size]? = some (.cells #[.int .i64 0, .slice none 0 0, .slice none 0 0] 38 (0, 0)) := (hg1.block W.heap.size (by simp <;> omega) (by intro h; have h' := Option.some.inj h; simp at h' <;> omega)).trans (two_boxes W (.cells #[.int .i64 0, .slice none 0 0, .slice none 0 0] 38) (.cells #[] 38)).2.1; obtain ⟨z0, z1, z2⟩ := cell3 zb; have zf := free3 zb; have zf0 := zf 0; have zf1 := zf 1; have zf2 := zf 2; have zz := lt_of_block zb; have ZB := Lib.hid zb; clear zb zf))
          · go_wp2
            obtain ⟨gq, cur, rfl, h1, h2, _, _, _⟩ := own_two ho1
            go_meet
            case rel => exact ⟨wa.heap.size, gq, c1, rfl, heap_alloc_new _ _, ho1.alloc _, hF1.alloc (Below.size hF1) _, Below.size hF1, by omega⟩
          · go_wp2
            obtain ⟨gq, cur, rfl, h1, h2, h3, h4, _⟩ := own_two ho1
            have hne : gq ≠ W.heap.size + 1 := by
              rintro rfl
              have h5 := h3.symm.trans ZB.out
              cases h5
              simp at h4
            go_meet
            case rel => exact ⟨W.heap.size + 1, gq, c1, rfl, set3 ZB.out _ _ _, own_set3 ho1 (fun e => hne (Option.some.inj e)) _ _ _, bel_set3 hF1 (Nat.le_succ _) _ _ _, Nat.le_succ _, fun e => hne e.symm⟩
          · go_wp2
            obtain ⟨gq, cur, rfl, h1, h2, h3, h4, _⟩ := own_two ho1
            have hne : gq ≠ W.heap.size := by
              rintro rfl
              have h5 := h3.symm.trans ZB.out
              cases h5
              simp at h4
            go_meet
            case rel => exact ⟨W.heap.size, gq, c1, rfl, set3 ZB.out _ _ _, own_set3 ho1 (fun e => hne (Option.some.inj e)) _ _ _, bel_set3 hF1 (Nat.le_refl _) _ _ _, Nat.le_refl _, fun e => hne e.symm⟩
        case rest =>
          obtain ⟨bo, gq, cq, rfl, hbo, hown, hbw, hbo1, hbo2⟩ := hcut
          obtain ⟨gq', cur, eg, hgq1, hgq2, hgq, hcs, hct⟩ := own_two hown
          have hcq : 2 ≤ cq := by
            obtain ⟨_, _, e9, h9⟩ := own_shape hown
            cases e9; exact h9
          cases eg
          have HBW := Lib.hid hbw
          have HBO := Lib.hid hbo
          have HGQ := Lib.hid hgq
          have HCT := Lib.hid hct
          have HFW := Lib.hid (HBB.out.1.trans (hbw.mono HBB.out.1.size))
          have HT1 := Lib.hid (TreeIn.stays (S' := fun g => S g ∧ g < w.heap.size) (fun g _ hg => HFW.out.block g hg) (fun g hs hg => ⟨hs, hg⟩) _ _ HTK1.out)
          have HO0 := Lib.hid (TreeIn.stays (S' := fun g => S g ∧ g < w.heap.size) (fun g _ hg => HFW.out.block g hg) (fun g hs hg => ⟨hs, hg⟩) _ _ HTK0.out)
          have HKT := Lib.hid (TreeIn.stays (S' := fun g => S g ∧ g < w.heap.size) (fun g _ hg => HFW.out.block g hg) (fun g hs hg => ⟨hs, hg⟩) _ _ HKTR.out)
          have HPW := Lib.hid (HPATH.out.below HFW.out)
          have hzw : w.heap.size + 1 + 1 < wc.heap.size := Nat.lt_of_lt_of_le (lt_of_block HBB.out.2.2.2) hbw.size
          have B0 := Lib.hid ((hbw.block _ (lt_of_block HBB.out.2.1)).trans HBB.out.2.1)
          have B1 := Lib.hid ((hbw.block _ (lt_of_block HBB.out.2.2.1)).trans HBB.out.2.2.1)
          have B2 := Lib.hid ((hbw.block _ (lt_of_block HBB.out.2.2.2)).trans HBB.out.2.2.2)
          obtain ⟨gp, ofp, rfl, hgp, hpc⟩ := HPW.out (by simp [natCells, intCells, ints])
          have p0 : wc.cell? ⟨gp, ofp, none⟩ = some (.int .i64 1) := hpc 0 (by simp [natCells, intCells, ints])
          obtain ⟨o0, o1, o2⟩ := cell3 HBO.out
          obtain ⟨t0, t1, t2⟩ := cell3 B0.out
          obtain ⟨u0, u1, u2⟩ := cell3 B1.out
          have l0 := (HFW.out.cell (p := ⟨gk, ofk + 3, none⟩) hgk).trans i3
          have l1 := (HFW.out.cell (p := ⟨gk, ofk + 3 + 1, none⟩) hgk).trans i4
          have l2 := (HFW.out.cell (p := ⟨gk, ofk + 3 + 2, none⟩) hgk).trans i5
          have hgp0 : gp < w.heap.size := by
            obtain ⟨_, _, e9, h9, _⟩ := HPATH.out (by simp [natCells, intCells, ints])
            cases e9; exact h9
          have hww : w.heap.size < gq := by have := lt_of_block HBB.out.2.2.2; omega
          have hwn1 : w.heap.size ≠ gq := by omega
          have hwn2 : w.heap.size + 1 ≠ gq := by have := lt_of_block HBB.out.2.2.2; omega
          have CT : Hid (∀ w', wc.grownBy w' (some gq) → w'.cell? ⟨bo, 0, none⟩ = some (.int .i64 s) ∧ w'.cell? ⟨bo, 1, none⟩ = some (.slice (some ⟨gq, 0, none⟩) 2 cq) ∧ w'.cell? ⟨gp, ofp, none⟩ = some (.int .i64 1) ∧ w'.cell? ⟨w.heap.size, 1, none⟩ = some (.slice (some ⟨gk, ofk, none⟩) 2 kc) ∧ w'.cell? ⟨gk, ofk + 3, none⟩ = some (.int .i64 xs1) ∧ w'.cell? ⟨gk, ofk + 3 + 1, none⟩ = some (.slice xA1 xn1 xc1) ∧ w'.cell? ⟨gk, ofk + 3 + 2, none⟩ = some (.slice xB1 xm1 xd1) ∧ w'.cell? ⟨w.heap.size + 1, 0, none⟩ = some (.int .i64 s9) ∧ w'.cell? ⟨w.heap.size + 1, 1, none⟩ = some (.slice A9 m9 c9) ∧ w'.cell? ⟨w.heap.size + 1, 2, none⟩ = some (.slice B9 k9 d9) ∧ wc.grownBy w' (some gq)) := Lib.hid (fun w' hb => by
            have k : ∀ b j, b ≠ gq → b < wc.heap.size → w'.cell? ⟨b, j, none⟩ = wc.cell? ⟨b, j, none⟩ := fun b j h1 h2 => cell_stays (hb.block b h2 (fun e => h1 (Option.some.inj e)))
            have hk1 := Nat.lt_of_lt_of_le hgk HFW.out.size
            exact ⟨(k bo _ hbo2 (lt_of_block HBO.out)).trans o0, (k bo _ hbo2 (lt_of_block HBO.out)).trans o1, (k gp _ (by omega) hgp).trans p0, (k _ _ hwn1 (by omega)).trans t1, (k gk _ (by omega) hk1).trans l0, (k gk _ (by omega) hk1).trans l1, (k gk _ (by omega) hk1).trans l2, (k _ _ hwn2 (by omega)).trans u0, (k _ _ hwn2 (by omega)).trans u1, (k _ _ hwn2 (by omega)).trans u2, hb⟩)
          have hrw := Below.refl wc.heap.size wc
          have HPTL := Lib.hid (row_tail (x := .int .i64 1) (xs := natCells []) HPW.out)
          clear hrf hroom
          have HPT : Hid (Row wc (some ⟨gp, ofp, none⟩) (natCells [])) := Lib.hid (Row.nil _ _)
          clear HPTL
          go_wp2_with fail
          go_region_held3 (fun w' => w'.cell? ⟨bo, 0, none⟩ = some (.int .i64 s) ∧ w'.cell? ⟨bo, 1, none⟩ = some (.slice (some ⟨gq, 0, none⟩) 2 cq) ∧ w'.cell? ⟨gp, ofp, none⟩ = some (.int .i64 1) ∧ w'.cell? ⟨w.heap.size, 1, none⟩ = some (.slice (some ⟨gk, ofk, none⟩) 2 kc) ∧ w'.cell? ⟨gk, ofk + 3, none⟩ = some (.int .i64 xs1) ∧ w'.cell? ⟨gk, ofk + 3 + 1, none⟩ = some (.slice xA1 xn1 xc1) ∧ w'.cell? ⟨gk, ofk + 3 + 2, none⟩ = some (.slice xB1 xm1 xd1) ∧ w'.cell? ⟨w.heap.size + 1, 0, none⟩ = some (.int .i64 s9) ∧ w'.cell? ⟨w.heap.size + 1, 1, none⟩ = some (.slice A9 m9 c9) ∧ w'.cell? ⟨w.heap.size + 1, 2, none⟩ = some (.slice B9 k9 d9) ∧ wc.grownBy w' (some gq)) (first | assumption | exact CT.out _ (grown_of_below (below_drew hrw)) | exact CT.out _ (grown_of_below hrw) | exact CT.out _ (grown_of_below hbv) | exact CT.out _ (grown_of_below (below_drew hbv)) | exact CT.out _ (grown_set (grown_set (grown_set (grown_of_below hbv) _ _) _ _) _ _)) ((go_at_call 44; refine (HIH.out _ _ _ _ _ _ _ _ _ _ _ _ (HT1.out.below (below_drew hrw)) (HKT.out.below (below_drew hrw)) (HPT.out.below (below_drew hrw)) (by simp)).mono ?_; rintro e wv ⟨sv, Av, nv, cv, Bv, mv, dv, rfl, htv, hbv0⟩; have hbv : Below wc.heap.size wc wv := (below_drew hrw).trans (hbv0.mono (Nat.le_of_eq rfl)); have gv := Lib.hid ((hbv.block gq hgq2).trans HGQ.out); obtain ⟨v0, v1, v2, v3, v4, v5⟩ := gq_cells gv.out HCT.out; have vf := free_cells gv.out; have vf0 := vf 3; have vf1 := vf 4; have vf2 := vf 5; have vz := lt_of_block gv.out))
          have HTV := Lib.hid htv
          have HBO2 := Lib.hid ((hbv.block bo (lt_of_block HBO.out)).trans HBO.out)
          have HB2 := Lib.hid ((hbv.block _ (lt_of_block B2.out)).trans B2.out)
          have hvz := hbv.size
          have ne1 : bo ≠ gq := hbo2
          have ne2 : w.heap.size + 1 + 1 ≠ gq := by have := lt_of_block HBB.out.2.2.2; omega
          have ne3 : w.heap.size + 1 + 1 ≠ bo := by have := lt_of_block HBB.out.2.2.2; omega
          clear htv hbv0
          obtain ⟨m0, m1, m2⟩ := cell3 HBO2.out
          obtain ⟨r0, r1, r2⟩ := cell3 HB2.out
          have q0 := free3 HB2.out 0
          have q1 := free3 HB2.out 1
          have q2 := free3 HB2.out 2
          have qz := lt_of_block HB2.out
          have oz := lt_of_block HBO2.out
          go_wp2
          refine bodyPost_ret (v := .agg #[.int .i64 s, .slice (some ⟨gq, 0, none⟩) 2 cq, .slice B lf.length d]) (by simp [results, Tryd.results44, go_sem, r0, r1, r2]) rfl ?_
          have GV : Hid ((((wv.setCell ⟨gq, 3, none⟩ (.int .i64 sv)).setCell ⟨gq, 4, none⟩ (.slice Av nv cv)).setCell ⟨gq, 5, none⟩ (.slice Bv mv dv)).heap[gq]? = some (.cells (((cur.setIfInBounds 3 (.int .i64 sv)).setIfInBounds 4 (.slice Av nv cv)).setIfInBounds 5 (.slice Bv mv dv)) 38 (0, 0))) := Lib.hid (set_cells _ _ (set_cells _ _ (set_cells _ _ gv.out)))
          have FAR : ∀ g, g ≠ gq → g ≠ w.heap.size + 1 + 1 → ((((((wv.setCell ⟨gq, 3, none⟩ (.int .i64 sv)).setCell ⟨gq, 4, none⟩ (.slice Av nv cv)).setCell ⟨gq, 5, none⟩ (.slice Bv mv dv)).setCell ⟨w.heap.size + 1 + 1, 0, none⟩ (.int .i64 s)).setCell ⟨w.heap.size + 1 + 1, 1, none⟩ (.slice (some ⟨gq, 0, none⟩) 2 cq)).setCell ⟨w.heap.size + 1 + 1, 2, none⟩ (.slice B lf.length d)).heap[g]? = wv.heap[g]? := fun g h1 h2 => by
            rw [three_far _ _ _ _ _ _ h2, Below.heap_setCell _ _ _ _ h1, Below.heap_setCell _ _ _ _ h1, Below.heap_setCell _ _ _ _ h1]
          have GV2 : Hid (((((((wv.setCell ⟨gq, 3, none⟩ (.int .i64 sv)).setCell ⟨gq, 4, none⟩ (.slice Av nv cv)).setCell ⟨gq, 5, none⟩ (.slice Bv mv dv)).setCell ⟨w.heap.size + 1 + 1, 0, none⟩ (.int .i64 s)).setCell ⟨w.heap.size + 1 + 1, 1, none⟩ (.slice (some ⟨gq, 0, none⟩) 2 cq)).setCell ⟨w.heap.size + 1 + 1, 2, none⟩ (.slice B lf.length d)).heap[gq]? = _) := Lib.hid ((three_far _ _ _ _ _ _ (fun e => ne2 e.symm)).trans GV.out)
          have hwz : w.heap.size ≤ gq := by have := lt_of_block HBB.out.2.2.2; omega
          refine ⟨s, _, 2, cq, B, _, d, rfl, ?_, ?_⟩
          · unfold TreeIn
            refine ⟨some ⟨gq, 0, none⟩, cq, B, d, ([.int .i64 xs0, .slice xA0 xn0 xc0, .slice xB0 xm0 xd0] ++ ([.int .i64 sv, .slice Av nv cv, .slice Bv mv dv] ++ [])), rfl, hcq, HD.out, fun _ => ⟨gq, 0, rfl, .inr hwz, lt_of_block GV2.out, fun j hj => ?_⟩, ?_, ?_⟩
            · have hj6 : j < 6 := by simpa using hj
              have h9 : ((((((wv.setCell ⟨gq, 3, none⟩ (.int .i64 sv)).setCell ⟨gq, 4, none⟩ (.slice Av nv cv)).setCell ⟨gq, 5, none⟩ (.slice Bv mv dv)).setCell ⟨w.heap.size + 1 + 1, 0, none⟩ (.int .i64 s)).setCell ⟨w.heap.size + 1 + 1, 1, none⟩ (.slice (some ⟨gq, 0, none⟩) 2 cq)).setCell ⟨w.heap.size + 1 + 1, 2, none⟩ (.slice B lf.length d)).cell? ⟨gq, 0 + j, none⟩ = (((cur.setIfInBounds 3 (.int .i64 sv)).setIfInBounds 4 (.slice Av nv cv)).setIfInBounds 5 (.slice Bv mv dv))[j]? := by
                have h8 := GV2.out
                unfold World.cell?
                rw [h8, Nat.zero_add]
                rfl
              rw [h9]
              exact row6_1 HCT.out _ _ _ j hj6
            · unfold KidsIn
              refine ⟨_, _, rfl, TreeIn.stays (fun g hg _ => FAR g (by have := hg.2; omega) (by have := hg.2; omega)) (fun g hg _ => .inl hg) _ _ (HO0.out.below hbv), ?_⟩
              unfold KidsIn
              refine ⟨_, _, rfl, TreeIn.stays (fun g hg _ => FAR g (by rcases hg with ⟨⟨_, hg⟩, _⟩ | hg <;> (have h9 : wc.heap.size ≤ g ∨ g < w.heap.size := (by first | exact .inl hg | exact .inr hg); omega)) (by rcases hg with ⟨⟨_, hg⟩, _⟩ | hg <;> (have h9 : wc.heap.size ≤ g ∨ g < w.heap.size := (by first | exact .inl hg | exact .inr hg); omega))) (fun g hg _ => hg.elim (fun h => .inl h.1) (fun h => .inr (Nat.le_trans HFW.out.size h))) _ _ HTV.out, ?_⟩
              unfold KidsIn
              rfl
            · exact HLF.out.stays (fun g _ hg => (FAR g (by omega) (by omega)).trans ((hbv.block g (by omega)).trans (HFW.out.block g hg))) (fun g hs hg => .inl ⟨hs, hg⟩)
          · have hb9 := HFW.out.trans (hbv.mono HFW.out.size)
            have hb8 : Below w.heap.size w (((wv.setCell ⟨gq, 3, none⟩ (.int .i64 sv)).setCell ⟨gq, 4, none⟩ (.slice Av nv cv)).setCell ⟨gq, 5, none⟩ (.slice Bv mv dv)) := ((hb9.setCell (p := ⟨gq, 3, none⟩) hwz _).setCell (p := ⟨gq, 4, none⟩) hwz _).setCell (p := ⟨gq, 5, none⟩) hwz _
            exact bel_set3 hb8 (by omega) _ _ _
      · have hq1 : (pc = 1) = False := by simp [hp1]
        have HIH := Lib.hid (IH.out b k1 hn1 (FK.out.get 1 (by simp)) (by simp at hpl; omega))
        go_enter Tryd.func44, Tryd.ntmps44
        go_upto_region 3 with fail
        generalize ((w.alloc (.cells #[.int .i64 s, .slice (some ⟨gk, ofk, none⟩) 2 kc, .slice B lf.length d] 38)).alloc (.cells #[.int .i64 s9, .slice A9 m9 c9, .slice B9 k9 d9] 38)).alloc (.cells #[.int .i64 0, .slice none 0 0, .slice none 0 0] 38) = W at *
        go_cut [7] from 12 to 20 (fun t wc => ∃ bo gq cq, t = .pointer (some ⟨bo, 0, none⟩) ∧ wc.heap[bo]? = some (.cells #[.int .i64 s, .slice (some ⟨gq, 0, none⟩) 2 cq, .slice B lf.length d] 38 (0, 0)) ∧ wc.ownsRow W.heap.size 38 3 (.slice (some ⟨gq, 0, none⟩) 2 cq) 2 [.int .i64 xs0, .slice xA0 xn0 xc0, .slice xB0 xm0 xd0, .int .i64 xs1, .slice xA1 xn1 xc1, .slice xB1 xm1 xd1] ∧ Below W.heap.size W wc ∧ W.heap.size ≤ bo ∧ bo ≠ gq)
        case first =>
          go_wp2_with fail
          go_region_held3 (fun w' => w'.cell? ⟨w.heap.size, 0, none⟩ = some (.int .i64 s) ∧ w'.cell? ⟨w.heap.size, 1, none⟩ = some (.slice (some ⟨gk, ofk, none⟩) 2 kc) ∧ w'.cell? ⟨w.heap.size, 2, none⟩ = some (.slice B lf.length d) ∧ Below W.heap.size W w') (first | assumption | exact CS.out _ (below_drew (bel1 _ _)) | exact CS.out _ (bel1 _ _) | exact CS.out _ (below_drew (bel2 _ _ _)) | exact CS.out _ (bel2 _ _ _) | exact CS.out _ hF1 | exact CS.out _ (below_drew hF1) | exact CS.out _ (hF1.alloc (Below.size hF1) _) | exact CS.out _ (below_drew (hF1.alloc (Below.size hF1) _)) | exact CS.out _ (bel_set3 hF1 (Nat.le_refl _) _ _ _) | exact CS.out _ (bel_set3 hF1 (Nat.le_succ _) _ _ _) | exact CS.out _ (below_drew hrf) | exact CS.out _ hrf) (first
            | (refine step_append_row (by rfl) _ _ _ (by rfl) W.heap.size 38 j0 _ 3 56 Tryd.underlying36 ja jb jc jd rfl (by omega) _ 0 [] (by rfl) ((own_new W 38).drew) _ 2 _ [.int .i64 xs0, .slice xA0 xn0 xc0, .slice xB0 xm0 xd0, .int .i64 xs1, .slice xA1 xn1 xc1, .slice xB1 xm1 xd1] (by rfl) (HROW.out.below (below_drew (bel1 W (.cells #[] 38)))) rfl (by intro u hu; simp at hu; rcases hu with rfl | rfl | rfl | rfl | rfl | rfl <;> rfl) (by unfold maxLen; omega) (by omega) (Below.size (below_drew (bel1 W (.cells #[] 38)))) ?_; intro v1 wa ho1 hg1; have hF1 := below_append (below_drew (bel1 W (.cells #[] 38))) (Below.size (below_drew (bel1 W (.cells #[] 38)))) ((own_new W 38).drew) hg1 (Nat.le_refl _); obtain ⟨A1, c1, hv1, hc1⟩ := own_shape ho1; subst hv1; simp only [Nat.zero_add] at ho1 hc1 hg1 hF1 ⊢)
            | (refine step_append_row (by rfl) _ _ _ (by rfl) W.heap.size 38 j0 _ 3 56 Tryd.underlying36 ja jb jc jd rfl (by omega) _ 0 [] (by rfl) (((own_new W 38).alloc (.cells #[.int .i64 0, .slice none 0 0, .slice none 0 0] 38)).drew) _ 2 _ [.int .i64 xs0, .slice xA0 xn0 xc0, .slice xB0 xm0 xd0, .int .i64 xs1, .slice xA1 xn1 xc1, .slice xB1 xm1 xd1] (by rfl) (HROW.out.below (below_drew (bel2 W (.cells #[] 38) (.cells #[.int .i64 0, .slice none 0 0, .slice none 0 0] 38)))) rfl (by intro u hu; simp at hu; rcases hu with rfl | rfl | rfl | rfl | rfl | rfl <;> rfl) (by unfold maxLen; omega) (by omega) (Below.size (below_drew (bel2 W (.cells #[] 38) (.cells #[.int .i64 0, .slice none 0 0, .slice none 0 0] 38)))) ?_; intro v1 wa ho1 hg1; have hF1 := below_append (below_drew (bel2 W (.cells #[] 38) (.cells #[.int .i64 0, .slice none 0 0, .slice none 0 0] 38))) (Below.size (below_drew (bel2 W (.cells #[] 38) (.cells #[.int .i64 0, .slice none 0 0, .slice none 0 0] 38)))) (((own_new W 38).alloc (.cells #[.int .i64 0, .slice none 0 0, .slice none 0 0] 38)).drew) hg1 (Nat.le_refl _); obtain ⟨A1, c1, hv1, hc1⟩ := own_shape ho1; subst hv1; simp only [Nat.zero_add] at ho1 hc1 hg1 hF1 ⊢; have zb : wa.heap[(W.heap.size + 1)]? = some (.cells #[.int .i64 0, .slice none 0 0, .slice none 0 0] 38 (0, 0)) := (hg1.block (W.heap.size + 1) (by simp <;> omega) (by intro h; have h' := Option.some.inj h; simp at h' <;> omega)).trans (two_boxes W (.cells #[] 38) (.cells #[.int .i64 0, .slice none 0 0, .slice none 0 0] 38)).2.2; obtain ⟨z0, z1, z2⟩ := cell3 zb; have zf := free3 zb; have zf0 := zf 0; have zf1 := zf 1; have zf2 := zf 2; have zz := lt_of_block zb; have ZB := Lib.hid zb; clear zb zf)
            | (refine step_append_row (by rfl) _ _ _ (by rfl) W.heap.size 38 j0 _ 3 56 Tryd.underlying36 ja jb jc jd rfl (by omega) _ 0 [] (by rfl) ((own_new2 W (.cells #[.int .i64 0, .slice none 0 0, .slice none 0 0] 38) 38).drew) _ 2 _ [.int .i64 xs0, .slice xA0 xn0 xc0, .slice xB0 xm0 xd0, .int .i64 xs1, .slice xA1 xn1 xc1, .slice xB1 xm1 xd1] (by rfl) (HROW.out.below (below_drew (bel2 W (.cells #[.int .i64 0, .slice none 0 0, .slice none 0 0] 38) (.cells #[] 38)))) rfl (by intro u hu; simp at hu; rcases hu with rfl | rfl | rfl | rfl | rfl | rfl <;> rfl) (by unfold maxLen; omega) (by omega) (Below.size (below_drew (bel2 W (.cells #[.int .i64 0, .slice none 0 0, .slice none 0 0] 38) (.cells #[] 38)))) ?_; intro v1 wa ho1 hg1; have hF1 := below_append (below_drew (bel2 W (.cells #[.int .i64 0, .slice none 0 0, .slice none 0 0] 38) (.cells #[] 38))) (Below.size (below_drew (bel2 W (.cells #[.int .i64 0, .slice none 0 0, .slice none 0 0] 38) (.cells #[] 38)))) ((own_new2 W (.cells #[.int .i64 0, .slice none 0 0, .slice none 0 0] 38) 38).drew) hg1 (Nat.le_refl _); obtain ⟨A1, c1, hv1, hc1⟩ := own_shape ho1; subst hv1; simp only [Nat.zero_add] at ho1 hc1 hg1 hF1 ⊢; have zb : wa.heap[W.heap.size]? = some (.cells #[.int .i64 0, .slice none 0 0, .slice none 0 0] 38 (0, 0)) := (hg1.block W.heap.size (by simp <;> omega) (by intro h; have h' := Option.some.inj h; simp at h' <;> omega)).trans (two_boxes W (.cells #[.int .i64 0, .slice none 0 0, .slice none 0 0] 38) (.cells #[] 38)).2.1; obtain ⟨z0, z1, z2⟩ := cell3 zb; have zf := free3 zb; have zf0 := zf 0; have zf1 := zf 1; have zf2 := zf 2; have zz := lt_of_block zb; have ZB := Lib.hid zb; clear zb zf))
          · go_wp2
            obtain ⟨gq, cur, rfl, h1, h2, _, _, _⟩ := own_two ho1
            go_meet
            case rel => exact ⟨wa.heap.size, gq, c1, rfl, heap_alloc_new _ _, ho1.alloc _, hF1.alloc (Below.size hF1) _, Below.size hF1, by omega⟩
          · go_wp2
            obtain ⟨gq, cur, rfl, h1, h2, h3, h4, _⟩ := own_two ho1
            have hne : gq ≠ W.heap.size + 1 := by
              rintro rfl
              have h5 := h3.symm.trans ZB.out
              cases h5
              simp at h4
            go_meet
            case rel => exact ⟨W.heap.size + 1, gq, c1, rfl, set3 ZB.out _ _ _, own_set3 ho1 (fun e => hne (Option.some.inj e)) _ _ _, bel_set3 hF1 (Nat.le_succ _) _ _ _, Nat.le_succ _, fun e => hne e.symm⟩
          · go_wp2
            obtain ⟨gq, cur, rfl, h1, h2, h3, h4, _⟩ := own_two ho1
            have hne : gq ≠ W.heap.size := by
              rintro rfl
              have h5 := h3.symm.trans ZB.out
              cases h5
              simp at h4
            go_meet
            case rel => exact ⟨W.heap.size, gq, c1, rfl, set3 ZB.out _ _ _, own_set3 ho1 (fun e => hne (Option.some.inj e)) _ _ _, bel_set3 hF1 (Nat.le_refl _) _ _ _, Nat.le_refl _, fun e => hne e.symm⟩
        case rest =>
          obtain ⟨bo, gq, cq, rfl, hbo, hown, hbw, hbo1, hbo2⟩ := hcut
          obtain ⟨gq', cur, eg, hgq1, hgq2, hgq, hcs, hct⟩ := own_two hown
          have hcq : 2 ≤ cq := by
            obtain ⟨_, _, e9, h9⟩ := own_shape hown
            cases e9; exact h9
          cases eg
          have HBW := Lib.hid hbw
          have HBO := Lib.hid hbo
          have HGQ := Lib.hid hgq
          have HCT := Lib.hid hct
          have HFW := Lib.hid (HBB.out.1.trans (hbw.mono HBB.out.1.size))
          have HT1 := Lib.hid (TreeIn.stays (S' := fun g => S g ∧ g < w.heap.size) (fun g _ hg => HFW.out.block g hg) (fun g hs hg => ⟨hs, hg⟩) _ _ HTK1.out)
          have HO0 := Lib.hid (TreeIn.stays (S' := fun g => S g ∧ g < w.heap.size) (fun g _ hg => HFW.out.block g hg) (fun g hs hg => ⟨hs, hg⟩) _ _ HTK0.out)
          have HKT := Lib.hid (TreeIn.stays (S' := fun g => S g ∧ g < w.heap.size) (fun g _ hg => HFW.out.block g hg) (fun g hs hg => ⟨hs, hg⟩) _ _ HKTR.out)
          have HPW := Lib.hid (HPATH.out.below HFW.out)
          have hzw : w.heap.size + 1 + 1 < wc.heap.size := Nat.lt_of_lt_of_le (lt_of_block HBB.out.2.2.2) hbw.size
          have B0 := Lib.hid ((hbw.block _ (lt_of_block HBB.out.2.1)).trans HBB.out.2.1)
          have B1 := Lib.hid ((hbw.block _ (lt_of_block HBB.out.2.2.1)).trans HBB.out.2.2.1)
          have B2 := Lib.hid ((hbw.block _ (lt_of_block HBB.out.2.2.2)).trans HBB.out.2.2.2)
          obtain ⟨gp, ofp, rfl, hgp, hpc⟩ := HPW.out (by simp [natCells, intCells, ints])
          have p0 : wc.cell? ⟨gp, ofp, none⟩ = some (.int .i64 1) := hpc 0 (by simp [natCells, intCells, ints])
          obtain ⟨o0, o1, o2⟩ := cell3 HBO.out
          obtain ⟨t0, t1, t2⟩ := cell3 B0.out
          obtain ⟨u0, u1, u2⟩ := cell3 B1.out
          have l0 := (HFW.out.cell (p := ⟨gk, ofk + 3, none⟩) hgk).trans i3
          have l1 := (HFW.out.cell (p := ⟨gk, ofk + 3 + 1, none⟩) hgk).trans i4
          have l2 := (HFW.out.cell (p := ⟨gk, ofk + 3 + 2, none⟩) hgk).trans i5
          have hgp0 : gp < w.heap.size := by
            obtain ⟨_, _, e9, h9, _⟩ := HPATH.out (by simp [natCells, intCells, ints])
            cases e9; exact h9
          have hww : w.heap.size < gq := by have := lt_of_block HBB.out.2.2.2; omega
          have hwn1 : w.heap.size ≠ gq := by omega
          have hwn2 : w.heap.size + 1 ≠ gq := by have := lt_of_block HBB.out.2.2.2; omega
          have CT : Hid (∀ w', wc.grownBy w' (some gq) → w'.cell? ⟨bo, 0, none⟩ = some (.int .i64 s) ∧ w'.cell? ⟨bo, 1, none⟩ = some (.slice (some ⟨gq, 0, none⟩) 2 cq) ∧ w'.cell? ⟨gp, ofp, none⟩ = some (.int .i64 1) ∧ w'.cell? ⟨w.heap.size, 1, none⟩ = some (.slice (some ⟨gk, ofk, none⟩) 2 kc) ∧ w'.cell? ⟨gk, ofk + 3, none⟩ = some (.int .i64 xs1) ∧ w'.cell? ⟨gk, ofk + 3 + 1, none⟩ = some (.slice xA1 xn1 xc1) ∧ w'.cell? ⟨gk, ofk + 3 + 2, none⟩ = some (.slice xB1 xm1 xd1) ∧ w'.cell? ⟨w.heap.size + 1, 0, none⟩ = some (.int .i64 s9) ∧ w'.cell? ⟨w.heap.size + 1, 1, none⟩ = some (.slice A9 m9 c9) ∧ w'.cell? ⟨w.heap.size + 1, 2, none⟩ = some (.slice B9 k9 d9) ∧ wc.grownBy w' (some gq)) := Lib.hid (fun w' hb => by
            have k : ∀ b j, b ≠ gq → b < wc.heap.size → w'.cell? ⟨b, j, none⟩ = wc.cell? ⟨b, j, none⟩ := fun b j h1 h2 => cell_stays (hb.block b h2 (fun e => h1 (Option.some.inj e)))
            have hk1 := Nat.lt_of_lt_of_le hgk HFW.out.size
            exact ⟨(k bo _ hbo2 (lt_of_block HBO.out)).trans o0, (k bo _ hbo2 (lt_of_block HBO.out)).trans o1, (k gp _ (by omega) hgp).trans p0, (k _ _ hwn1 (by omega)).trans t1, (k gk _ (by omega) hk1).trans l0, (k gk _ (by omega) hk1).trans l1, (k gk _ (by omega) hk1).trans l2, (k _ _ hwn2 (by omega)).trans u0, (k _ _ hwn2 (by omega)).trans u1, (k _ _ hwn2 (by omega)).trans u2, hb⟩)
          have hrw := Below.refl wc.heap.size wc
          have HPTL := Lib.hid (row_tail (x := .int .i64 1) (xs := natCells p) HPW.out)
          have hpr : p.length + 1 ≤ pc := by simpa using hroom
          have hr1 : (1 : Int) ≤ (p.length : Int) + 1 := by omega
          have hr2 : (p.length : Int) + 1 ≤ (pc : Int) := by omega
          clear hrf hroom
          have HPT := HPTL
          clear HPTL
          go_wp2_with fail
          go_region_held3 (fun w' => w'.cell? ⟨bo, 0, none⟩ = some (.int .i64 s) ∧ w'.cell? ⟨bo, 1, none⟩ = some (.slice (some ⟨gq, 0, none⟩) 2 cq) ∧ w'.cell? ⟨gp, ofp, none⟩ = some (.int .i64 1) ∧ w'.cell? ⟨w.heap.size, 1, none⟩ = some (.slice (some ⟨gk, ofk, none⟩) 2 kc) ∧ w'.cell? ⟨gk, ofk + 3, none⟩ = some (.int .i64 xs1) ∧ w'.cell? ⟨gk, ofk + 3 + 1, none⟩ = some (.slice xA1 xn1 xc1) ∧ w'.cell? ⟨gk, ofk + 3 + 2, none⟩ = some (.slice xB1 xm1 xd1) ∧ w'.cell? ⟨w.heap.size + 1, 0, none⟩ = some (.int .i64 s9) ∧ w'.cell? ⟨w.heap.size + 1, 1, none⟩ = some (.slice A9 m9 c9) ∧ w'.cell? ⟨w.heap.size + 1, 2, none⟩ = some (.slice B9 k9 d9) ∧ wc.grownBy w' (some gq)) (first | assumption | exact CT.out _ (grown_of_below (below_drew hrw)) | exact CT.out _ (grown_of_below hrw) | exact CT.out _ (grown_of_below hbv) | exact CT.out _ (grown_of_below (below_drew hbv)) | exact CT.out _ (grown_set (grown_set (grown_set (grown_of_below hbv) _ _) _ _) _ _)) ((go_at_call 44; refine (HIH.out _ _ _ _ _ _ _ _ _ _ _ _ (HT1.out.below (below_drew hrw)) (HKT.out.below (below_drew hrw)) (HPT.out.below (below_drew hrw)) (by omega)).mono ?_; rintro e wv ⟨sv, Av, nv, cv, Bv, mv, dv, rfl, htv, hbv0⟩; have hbv : Below wc.heap.size wc wv := (below_drew hrw).trans (hbv0.mono (Nat.le_of_eq rfl)); have gv := Lib.hid ((hbv.block gq hgq2).trans HGQ.out); obtain ⟨v0, v1, v2, v3, v4, v5⟩ := gq_cells gv.out HCT.out; have vf := free_cells gv.out; have vf0 := vf 3; have vf1 := vf 4; have vf2 := vf 5; have vz := lt_of_block gv.out))
          have HTV := Lib.hid htv
          have HBO2 := Lib.hid ((hbv.block bo (lt_of_block HBO.out)).trans HBO.out)
          have HB2 := Lib.hid ((hbv.block _ (lt_of_block B2.out)).trans B2.out)
          have hvz := hbv.size
          have ne1 : bo ≠ gq := hbo2
          have ne2 : w.heap.size + 1 + 1 ≠ gq := by have := lt_of_block HBB.out.2.2.2; omega
          have ne3 : w.heap.size + 1 + 1 ≠ bo := by have := lt_of_block HBB.out.2.2.2; omega
          clear htv hbv0
          obtain ⟨m0, m1, m2⟩ := cell3 HBO2.out
          obtain ⟨r0, r1, r2⟩ := cell3 HB2.out
          have q0 := free3 HB2.out 0
          have q1 := free3 HB2.out 1
          have q2 := free3 HB2.out 2
          have qz := lt_of_block HB2.out
          have oz := lt_of_block HBO2.out
          go_wp2
          refine bodyPost_ret (v := .agg #[.int .i64 s, .slice (some ⟨gq, 0, none⟩) 2 cq, .slice B lf.length d]) (by simp [results, Tryd.results44, go_sem, r0, r1, r2]) rfl ?_
          have GV : Hid ((((wv.setCell ⟨gq, 3, none⟩ (.int .i64 sv)).setCell ⟨gq, 4, none⟩ (.slice Av nv cv)).setCell ⟨gq, 5, none⟩ (.slice Bv mv dv)).heap[gq]? = some (.cells (((cur.setIfInBounds 3 (.int .i64 sv)).setIfInBounds 4 (.slice Av nv cv)).setIfInBounds 5 (.slice Bv mv dv)) 38 (0, 0))) := Lib.hid (set_cells _ _ (set_cells _ _ (set_cells _ _ gv.out)))
          have FAR : ∀ g, g ≠ gq → g ≠ w.heap.size + 1 + 1 → ((((((wv.setCell ⟨gq, 3, none⟩ (.int .i64 sv)).setCell ⟨gq, 4, none⟩ (.slice Av nv cv)).setCell ⟨gq, 5, none⟩ (.slice Bv mv dv)).setCell ⟨w.heap.size + 1 + 1, 0, none⟩ (.int .i64 s)).setCell ⟨w.heap.size + 1 + 1, 1, none⟩ (.slice (some ⟨gq, 0, none⟩) 2 cq)).setCell ⟨w.heap.size + 1 + 1, 2, none⟩ (.slice B lf.length d)).heap[g]? = wv.heap[g]? := fun g h1 h2 => by
            rw [three_far _ _ _ _ _ _ h2, Below.heap_setCell _ _ _ _ h1, Below.heap_setCell _ _ _ _ h1, Below.heap_setCell _ _ _ _ h1]
          have GV2 : Hid (((((((wv.setCell ⟨gq, 3, none⟩ (.int .i64 sv)).setCell ⟨gq, 4, none⟩ (.slice Av nv cv)).setCell ⟨gq, 5, none⟩ (.slice Bv mv dv)).setCell ⟨w.heap.size + 1 + 1, 0, none⟩ (.int .i64 s)).setCell ⟨w.heap.size + 1 + 1, 1, none⟩ (.slice (some ⟨gq, 0, none⟩) 2 cq)).setCell ⟨w.heap.size + 1 + 1, 2, none⟩ (.slice B lf.length d)).heap[gq]? = _) := Lib.hid ((three_far _ _ _ _ _ _ (fun e => ne2 e.symm)).trans GV.out)
          have hwz : w.heap.size ≤ gq := by have := lt_of_block HBB.out.2.2.2; omega
          refine ⟨s, _, 2, cq, B, _, d, rfl, ?_, ?_⟩
          · unfold TreeIn
            refine ⟨some ⟨gq, 0, none⟩, cq, B, d, ([.int .i64 xs0, .slice xA0 xn0 xc0, .slice xB0 xm0 xd0] ++ ([.int .i64 sv, .slice Av nv cv, .slice Bv mv dv] ++ [])), rfl, hcq, HD.out, fun _ => ⟨gq, 0, rfl, .inr hwz, lt_of_block GV2.out, fun j hj => ?_⟩, ?_, ?_⟩
            · have hj6 : j < 6 := by simpa using hj
              have h9 : ((((((wv.setCell ⟨gq, 3, none⟩ (.int .i64 sv)).setCell ⟨gq, 4, none⟩ (.slice Av nv cv)).setCell ⟨gq, 5, none⟩ (.slice Bv mv dv)).setCell ⟨w.heap.size + 1 + 1, 0, none⟩ (.int .i64 s)).setCell ⟨w.heap.size + 1 + 1, 1, none⟩ (.slice (some ⟨gq, 0, none⟩) 2 cq)).setCell ⟨w.heap.size + 1 + 1, 2, none⟩ (.slice B lf.length d)).cell? ⟨gq, 0 + j, none⟩ = (((cur.setIfInBounds 3 (.int .i64 sv)).setIfInBounds 4 (.slice Av nv cv)).setIfInBounds 5 (.slice Bv mv dv))[j]? := by
                have h8 := GV2.out
                unfold World.cell?
                rw [h8, Nat.zero_add]
                rfl
              rw [h9]
              exact row6_1 HCT.out _ _ _ j hj6
            · unfold KidsIn
              refine ⟨_, _, rfl, TreeIn.stays (fun g hg _ => FAR g (by have := hg.2; omega) (by have := hg.2; omega)) (fun g hg _ => .inl hg) _ _ (HO0.out.below hbv), ?_⟩
              unfold KidsIn
              refine ⟨_, _, rfl, TreeIn.stays (fun g hg _ => FAR g (by rcases hg with ⟨⟨_, hg⟩, _⟩ | hg <;> (have h9 : wc.heap.size ≤ g ∨ g < w.heap.size := (by first | exact .inl hg | exact .inr hg); omega)) (by rcases hg with ⟨⟨_, hg⟩, _⟩ | hg <;> (have h9 : wc.heap.size ≤ g ∨ g < w.heap.size := (by first | exact .inl hg | exact .inr hg); omega))) (fun g hg _ => hg.elim (fun h => .inl h.1) (fun h => .inr (Nat.le_trans HFW.out.size h))) _ _ HTV.out, ?_⟩
              unfold KidsIn
              rfl
            · exact HLF.out.stays (fun g _ hg => (FAR g (by omega) (by omega)).trans ((hbv.block g (by omega)).trans (HFW.out.block g hg))) (fun g hs hg => .inl ⟨hs, hg⟩)
          · have hb9 := HFW.out.trans (hbv.mono HFW.out.size)
            have hb8 : Below w.heap.size w (((wv.setCell ⟨gq, 3, none⟩ (.int .i64 sv)).setCell ⟨gq, 4, none⟩ (.slice Av nv cv)).setCell ⟨gq, 5, none⟩ (.slice Bv mv dv)) := ((hb9.setCell (p := ⟨gq, 3, none⟩) hwz _).setCell (p := ⟨gq, 4, none⟩) hwz _).setCell (p := ⟨gq, 5, none⟩) hwz _
            exact bel_set3 hb8 (by omega) _ _ _
end Go.Proofs.YtjjohllfidmkjaaDoor.PfW
