/- Walk: Node. Conditions: the path leads to a node; the tree is well formed, the system little. -/
import Derived.Test.YtjjohllfidmkjaaDoorPfN1
import Derived.Test.YtjjohllfidmkjaaDoorPfC2
import Derived.BigRegion
namespace Go.Proofs.YtjjohllfidmkjaaDoor.PfW
open Go Go.RowKit Go.Proofs.YtjjohllfidmkjaaDoor.Mem Go.Proofs.YtjjohllfidmkjaaDoor.Pf
attribute [local go_sem ↓] Go.wp_at_zero Go.wp_at_succ
theorem free7 {w : World} {b : Nat} {x0 x1 x2 x3 x4 x5 x6 : Value} {t : TypeId} (h : w.heap[b]? = some (.cells #[x0, x1, x2, x3, x4, x5, x6] t (0, 0))) (j : Nat) : w.frozen? ⟨b, j, none⟩ = false := by simp [World.frozen?, h]
theorem set_cells {w : World} {b : Nat} {c : Array Value} {t : TypeId} (j : Nat) (u : Value) (h : w.heap[b]? = some (.cells c t (0, 0))) : (w.setCell ⟨b, j, none⟩ u).heap[b]? = some (.cells (c.setIfInBounds j u) t (0, 0)) := by
  have hlt := lt_of_block h
  have h' : w.heap[b] = .cells c t (0, 0) := by simpa [Array.getElem?_eq_getElem hlt] using h
  show (w.heap.modify b _)[b]? = _
  rw [Array.getElem?_eq_getElem (by simpa using hlt), Array.getElem_modify_self, h']
  rfl
theorem set7 {w : World} {b : Nat} {x0 x1 x2 x3 x4 x5 x6 : Value} {t : TypeId} (h : w.heap[b]? = some (.cells #[x0, x1, x2, x3, x4, x5, x6] t (0, 0))) (v0 v1 v2 v3 v4 v5 v6 : Value) :
    (((((((w.setCell ⟨b, 0, none⟩ v0).setCell ⟨b, 1, none⟩ v1).setCell ⟨b, 2, none⟩ v2).setCell ⟨b, 3, none⟩ v3).setCell ⟨b, 4, none⟩ v4).setCell ⟨b, 5, none⟩ v5).setCell ⟨b, 6, none⟩ v6).heap[b]? = some (.cells #[v0, v1, v2, v3, v4, v5, v6] t (0, 0)) := by
  have e0 : (w.setCell ⟨b, 0, none⟩ v0).heap[b]? = some (.cells #[v0, x1, x2, x3, x4, x5, x6] t (0, 0)) := set_cells 0 v0 h
  have e1 : ((w.setCell ⟨b, 0, none⟩ v0).setCell ⟨b, 1, none⟩ v1).heap[b]? = some (.cells #[v0, v1, x2, x3, x4, x5, x6] t (0, 0)) := set_cells 1 v1 e0
  have e2 : (((w.setCell ⟨b, 0, none⟩ v0).setCell ⟨b, 1, none⟩ v1).setCell ⟨b, 2, none⟩ v2).heap[b]? = some (.cells #[v0, v1, v2, x3, x4, x5, x6] t (0, 0)) := set_cells 2 v2 e1
  have e3 : ((((w.setCell ⟨b, 0, none⟩ v0).setCell ⟨b, 1, none⟩ v1).setCell ⟨b, 2, none⟩ v2).setCell ⟨b, 3, none⟩ v3).heap[b]? = some (.cells #[v0, v1, v2, v3, x4, x5, x6] t (0, 0)) := set_cells 3 v3 e2
  have e4 : (((((w.setCell ⟨b, 0, none⟩ v0).setCell ⟨b, 1, none⟩ v1).setCell ⟨b, 2, none⟩ v2).setCell ⟨b, 3, none⟩ v3).setCell ⟨b, 4, none⟩ v4).heap[b]? = some (.cells #[v0, v1, v2, v3, v4, x5, x6] t (0, 0)) := set_cells 4 v4 e3
  have e5 : ((((((w.setCell ⟨b, 0, none⟩ v0).setCell ⟨b, 1, none⟩ v1).setCell ⟨b, 2, none⟩ v2).setCell ⟨b, 3, none⟩ v3).setCell ⟨b, 4, none⟩ v4).setCell ⟨b, 5, none⟩ v5).heap[b]? = some (.cells #[v0, v1, v2, v3, v4, v5, x6] t (0, 0)) := set_cells 5 v5 e4
  have e6 : (((((((w.setCell ⟨b, 0, none⟩ v0).setCell ⟨b, 1, none⟩ v1).setCell ⟨b, 2, none⟩ v2).setCell ⟨b, 3, none⟩ v3).setCell ⟨b, 4, none⟩ v4).setCell ⟨b, 5, none⟩ v5).setCell ⟨b, 6, none⟩ v6).heap[b]? = some (.cells #[v0, v1, v2, v3, v4, v5, v6] t (0, 0)) := set_cells 6 v6 e5
  exact e6
theorem far7 (w : World) (b g : Nat) (v0 v1 v2 v3 v4 v5 v6 : Value) (h : g ≠ b) :
    (((((((w.setCell ⟨b, 0, none⟩ v0).setCell ⟨b, 1, none⟩ v1).setCell ⟨b, 2, none⟩ v2).setCell ⟨b, 3, none⟩ v3).setCell ⟨b, 4, none⟩ v4).setCell ⟨b, 5, none⟩ v5).setCell ⟨b, 6, none⟩ v6).heap[g]? = w.heap[g]? := by
  rw [Below.heap_setCell _ _ _ _ h, Below.heap_setCell _ _ _ _ h, Below.heap_setCell _ _ _ _ h, Below.heap_setCell _ _ _ _ h, Below.heap_setCell _ _ _ _ h, Below.heap_setCell _ _ _ _ h, Below.heap_setCell _ _ _ _ h]
theorem sets_all {B : Nat} {w W : World} {b g : Nat} {x0 x1 x2 x3 x4 x5 x6 y0 y1 y2 : Value} {t t' : TypeId} (hne : g ≠ b) (hb : B ≤ b) (hg : B ≤ g) (h1 : W.heap[b]? = some (.cells #[x0, x1, x2, x3, x4, x5, x6] t (0, 0))) (h2 : W.heap[g]? = some (.cells #[y0, y1, y2] t' (0, 0))) (hB : Below B w W) (v0 v1 v2 v3 v4 v5 v6 u0 u1 u2 : Value) :
    ((((((((((W.setCell ⟨b, 0, none⟩ v0).setCell ⟨b, 1, none⟩ v1).setCell ⟨b, 2, none⟩ v2).setCell ⟨b, 3, none⟩ v3).setCell ⟨b, 4, none⟩ v4).setCell ⟨b, 5, none⟩ v5).setCell ⟨b, 6, none⟩ v6).setCell ⟨g, 0, none⟩ u0).setCell ⟨g, 1, none⟩ u1).setCell ⟨g, 2, none⟩ u2).heap[b]? = some (.cells #[v0, v1, v2, v3, v4, v5, v6] t (0, 0)) ∧ ((((((((((W.setCell ⟨b, 0, none⟩ v0).setCell ⟨b, 1, none⟩ v1).setCell ⟨b, 2, none⟩ v2).setCell ⟨b, 3, none⟩ v3).setCell ⟨b, 4, none⟩ v4).setCell ⟨b, 5, none⟩ v5).setCell ⟨b, 6, none⟩ v6).setCell ⟨g, 0, none⟩ u0).setCell ⟨g, 1, none⟩ u1).setCell ⟨g, 2, none⟩ u2).heap[g]? = some (.cells #[u0, u1, u2] t' (0, 0)) ∧ (∀ i, i ≠ b → i ≠ g → ((((((((((W.setCell ⟨b, 0, none⟩ v0).setCell ⟨b, 1, none⟩ v1).setCell ⟨b, 2, none⟩ v2).setCell ⟨b, 3, none⟩ v3).setCell ⟨b, 4, none⟩ v4).setCell ⟨b, 5, none⟩ v5).setCell ⟨b, 6, none⟩ v6).setCell ⟨g, 0, none⟩ u0).setCell ⟨g, 1, none⟩ u1).setCell ⟨g, 2, none⟩ u2).heap[i]? = W.heap[i]?) ∧ Below B w ((((((((((W.setCell ⟨b, 0, none⟩ v0).setCell ⟨b, 1, none⟩ v1).setCell ⟨b, 2, none⟩ v2).setCell ⟨b, 3, none⟩ v3).setCell ⟨b, 4, none⟩ v4).setCell ⟨b, 5, none⟩ v5).setCell ⟨b, 6, none⟩ v6).setCell ⟨g, 0, none⟩ u0).setCell ⟨g, 1, none⟩ u1).setCell ⟨g, 2, none⟩ u2) := by
  have a1 := set7 h1 v0 v1 v2 v3 v4 v5 v6
  have a2 := (far7 W b g v0 v1 v2 v3 v4 v5 v6 hne).trans h2
  have a3 := fun i (hi : i ≠ b) => far7 W b i v0 v1 v2 v3 v4 v5 v6 hi
  have a4 := ((((((hB.setCell (p := ⟨b, 0, none⟩) hb v0).setCell (p := ⟨b, 1, none⟩) hb v1).setCell (p := ⟨b, 2, none⟩) hb v2).setCell (p := ⟨b, 3, none⟩) hb v3).setCell (p := ⟨b, 4, none⟩) hb v4).setCell (p := ⟨b, 5, none⟩) hb v5).setCell (p := ⟨b, 6, none⟩) hb v6
  exact ⟨(three_far _ g b u0 u1 u2 (fun e => hne e.symm)).trans a1, set3 a2 u0 u1 u2, fun i hi hj => (three_far _ g i u0 u1 u2 hj).trans (a3 i hi), ((a4.setCell (p := ⟨g, 0, none⟩) hg u0).setCell (p := ⟨g, 1, none⟩) hg u1).setCell (p := ⟨g, 2, none⟩) hg u2⟩
def NodeRet (y' : Syst) (A : Option Addr) (cp n : Nat) (w : World) (e : Ending) (w' : World) : Prop :=
  Below w.heap.size w w' ∧ ∃ (s : Int) (K : Option Addr) (m kc : Nat) (B : Option Addr) (k d : Nat), e = .returned (.tuple #[.agg #[.int .i64 y'.l0, .int .i64 y'.l1, .int .i64 y'.l2, .int .i64 y'.h0, .int .i64 y'.h1, .int .i64 y'.h2, .slice A n cp], .agg #[.int .i64 s, .slice K m kc, .slice B k d], .bool true])
theorem four_boxes (w : World) (o1 o2 o3 o4 : Obj) : Below w.heap.size w ((((w.alloc o1).alloc o2).alloc o3).alloc o4) ∧ ((((w.alloc o1).alloc o2).alloc o3).alloc o4).heap[w.heap.size]? = some o1 ∧ ((((w.alloc o1).alloc o2).alloc o3).alloc o4).heap[w.heap.size + 1]? = some o2 ∧
    ((((w.alloc o1).alloc o2).alloc o3).alloc o4).heap[w.heap.size + 1 + 1]? = some o3 ∧ ((((w.alloc o1).alloc o2).alloc o3).alloc o4).heap[w.heap.size + 1 + 1 + 1]? = some o4 := by
  have h2 := two_boxes w o1 o2
  have e2 : ((w.alloc o1).alloc o2).heap.size = w.heap.size + 1 + 1 := by simp
  have h3 := one_box ((w.alloc o1).alloc o2) o3
  have e3 : (((w.alloc o1).alloc o2).alloc o3).heap.size = w.heap.size + 1 + 1 + 1 := by simp
  have h4 := one_box (((w.alloc o1).alloc o2).alloc o3) o4
  refine ⟨(h2.1.trans (h3.1.mono h2.1.size)).trans (h4.1.mono (by omega)), ?_, ?_, ?_, ?_⟩
  · rw [h4.1.block _ (by omega), h3.1.block _ (by omega)]; exact h2.2.1
  · rw [h4.1.block _ (by omega), h3.1.block _ (by omega)]; exact h2.2.2
  · rw [h4.1.block _ (by omega), ← e2]; exact h3.2
  · rw [← e3]; exact h4.2
set_option maxRecDepth 100000 in
theorem node_res (W : World) (b c : Nat) (tmps : Array Value) (x0 x1 x2 x3 x4 x5 x6 y0 y1 y2 : Value) (ok : Bool) (h6 : tmps[6]?.getD undef = .pointer (some ⟨b, 0, none⟩)) (h7 : tmps[7]?.getD undef = .pointer (some ⟨c, 0, none⟩)) (h8 : tmps[8]?.getD undef = .bool ok)
    (q0 : W.cell? ⟨b, 0, none⟩ = some x0) (q1 : W.cell? ⟨b, 1, none⟩ = some x1) (q2 : W.cell? ⟨b, 2, none⟩ = some x2) (q3 : W.cell? ⟨b, 3, none⟩ = some x3) (q4 : W.cell? ⟨b, 4, none⟩ = some x4) (q5 : W.cell? ⟨b, 5, none⟩ = some x5) (q6 : W.cell? ⟨b, 6, none⟩ = some x6)
    (v0 : W.cell? ⟨c, 0, none⟩ = some y0) (v1 : W.cell? ⟨c, 1, none⟩ = some y1) (v2 : W.cell? ⟨c, 2, none⟩ = some y2) :
    (results Tryd.f43 tmps).run Tryd.prog W = .ok (.tuple #[.agg #[x0, x1, x2, x3, x4, x5, x6], .agg #[y0, y1, y2], .bool ok]) W := by
  simp [results, Tryd.results43, go_sem, q0, q1, q2, q3, q4, q5, q6, v0, v1, v2, h6, h7, h8]
set_option maxRecDepth 100000 in
set_option maxHeartbeats 4000000 in
theorem node_any' (y : Syst) (t : T) (p : List Nat) (y' : Syst) (t' : T) (S : Nat → Prop) (A : Option Addr) (cp : Nat) (s : Int) (K : Option Addr) (m kc : Nat) (B : Option Addr) (k d : Nat) (P : Option Addr) (pc : Nat) (w : World)
    (hy : Little y) (hal : allB t = true) (hn : nodeAt y t p = some (y', t')) (hlen : p.length ≤ 1000000) (ht : TreeIn S w t [.int .i64 s, .slice K m kc, .slice B k d]) (hp : Row w P (natCells p)) :
    Calls Tryd.prog 43 #[sysV y A cp, .agg #[.int .i64 s, .slice K m kc, .slice B k d], .slice P p.length pc] w (NodeRet y' A cp y.rows.length w) := by
  have HBB := Lib.hid (four_boxes w (.cells #[.int .i64 y.l0, .int .i64 y.l1, .int .i64 y.l2, .int .i64 y.h0, .int .i64 y.h1, .int .i64 y.h2, .slice A y.rows.length cp] 25) (.cells #[.int .i64 s, .slice K m kc, .slice B k d] 29) (.cells #[.int .i64 0, .int .i64 0, .int .i64 0, .int .i64 0, .int .i64 0, .int .i64 0, .slice none 0 0] 25) (.cells #[.int .i64 0, .slice none 0 0, .slice none 0 0] 29))
  have hpc : Hid (∀ j, j < p.length → ∃ gp ofp, P = some ⟨gp, ofp, none⟩ ∧ gp < w.heap.size ∧ w.cell? ⟨gp, ofp + j, none⟩ = some (.int .i64 ((p[j]! : Nat) : Int))) := Lib.hid (fun j hj => by
    obtain ⟨g, off, e, hg, hc⟩ := hp (by intro h0; have := nat_len p; rw [h0] at this; simp at this; omega)
    refine ⟨g, off, e, hg, (hc j (by rw [nat_len]; exact hj)).trans ?_⟩
    rw [getElem!_pos p j hj]
    simp [natCells, intCells, ints, hj])
  have HT := Lib.hid (TreeIn.stays (S' := fun g => g < w.heap.size) (fun g _ hg => HBB.out.1.block g hg) (fun g _ hg => hg) _ _ ht)
  have HN := Lib.hid hn
  have HY := Lib.hid hy
  have HAL := Lib.hid hal
  clear ht hp hn hy hal
  unfold sysV
  go_enter Tryd.func43, Tryd.ntmps43
  go_upto_region 2 with fail
  generalize ((((w.alloc (.cells #[.int .i64 y.l0, .int .i64 y.l1, .int .i64 y.l2, .int .i64 y.h0, .int .i64 y.h1, .int .i64 y.h2, .slice A y.rows.length cp] 25)).alloc (.cells #[.int .i64 s, .slice K m kc, .slice B k d] 29)).alloc (.cells #[.int .i64 0, .int .i64 0, .int .i64 0, .int .i64 0, .int .i64 0, .int .i64 0, .slice none 0 0] 25)).alloc (.cells #[.int .i64 0, .slice none 0 0, .slice none 0 0] 29)) = W at *
  go_loopw [9, 10, 11] (fun t _ _ wr => ∃ (j : Nat) (yk : Syst) (tk : T) (s : Int) (K : Option Addr) (m kc : Nat) (B : Option Addr) (k d : Nat), t = .int .i64 j ∧ j ≤ p.length ∧ nodeAt yk tk (p.drop j) = some (y', t') ∧ Little yk ∧ yk.rows = y.rows ∧ allB tk = true ∧
    Hid (wr.heap[w.heap.size]? = some (.cells #[.int .i64 yk.l0, .int .i64 yk.l1, .int .i64 yk.l2, .int .i64 yk.h0, .int .i64 yk.h1, .int .i64 yk.h2, .slice A y.rows.length cp] 25 (0, 0))) ∧ Hid (wr.heap[w.heap.size + 1]? = some (.cells #[.int .i64 s, .slice K m kc, .slice B k d] 29 (0, 0))) ∧ Hid (wr.heap[w.heap.size + 1 + 1]? = some (.cells #[.int .i64 0, .int .i64 0, .int .i64 0, .int .i64 0, .int .i64 0, .int .i64 0, .slice none 0 0] 25 (0, 0))) ∧ Hid (wr.heap[w.heap.size + 1 + 1 + 1]? = some (.cells #[.int .i64 0, .slice none 0 0, .slice none 0 0] 29 (0, 0))) ∧ TreeIn (fun g => g < w.heap.size) wr tk [.int .i64 s, .slice K m kc, .slice B k d] ∧ Below w.heap.size w wr) (fun t _ _ _ => p.length - (intOf t).toNat)
  case atStart => exact ⟨0, y, t, s, K, m, kc, B, k, d, rfl, Nat.zero_le _, HN.out, HY.out, rfl, HAL.out, Lib.hid HBB.out.2.1, Lib.hid HBB.out.2.2.1, Lib.hid HBB.out.2.2.2.1, Lib.hid HBB.out.2.2.2.2, HT.out, HBB.out.1⟩
  case round =>
    clear HN HY HAL HT HBB
    obtain ⟨j, yk, tk, s, K, m, kc, B, k, d, rfl, hj, hn, hlk, hrk, hal, b1, b2, b3, b4, htk, hbel⟩ := hrel
    by_cases hlt : j < p.length
    · rw [List.drop_eq_getElem_cons hlt] at hn
      obtain ⟨sk, ks, lf⟩ := tk
      have hi0 := getElem!_pos p j hlt
      obtain ⟨a, b, k0, k1, hpa, rfl, hor⟩ := node_step hn
      clear hn
      unfold TreeIn at htk
      obtain ⟨A', c', B', d', ws, etk, hc, hd, hr, hk, hlf⟩ := htk
      cases etk
      obtain ⟨hnd, hak⟩ := all_mk hal
      obtain ⟨hs1, hs2⟩ := node_split hnd
      obtain ⟨ha0, ha1⟩ := all_two hak
      obtain ⟨hla, hlb, _, _, ea, eb⟩ := parts_little hpa hlk
      clear hc hd hlf hal hnd hak
      rcases hor with ⟨hi, hn⟩ | ⟨hi, hn⟩
      · rw [← hi0] at hi
        clear hi0
        have HPT := Lib.hid (parts_any yk s A cp wr (by omega) (by omega) hlk.box)
        rw [hpa] at HPT
        unfold sysV at HPT
        rw [hrk] at HPT
        obtain ⟨gk, ofk, s2, A2, n2, c2, B2, m2, d2, ek, HTK, j0, j1, j2⟩ := kid_cells hr hk (Below.refl _ _) (k := 0) (by simp)
        subst ek
        have hgk : gk < w.heap.size := by
          obtain ⟨g', o', e', hS, _⟩ := hr (by intro h0; have := hk.len; rw [h0] at this; simp at this)
          cases e'; exact hS
        have hkb := World.block_lt_of_cell? wr _ j0
        have pj := hpc.out j hlt
        have hj1 : (0 : Int) ≤ (j : Int) := by omega
        have hj2 : (j : Int) < (p.length : Int) := by omega
        rw [hi] at pj
        obtain ⟨gp, ofp, rfl, hgp, pj⟩ := pj
        have pj := (hbel.cell (p := ⟨gp, ofp + j, none⟩) hgp).trans pj
        obtain ⟨x0, x1, x2, x3, x4, x5, x6⟩ := cell7 b1.out
        obtain ⟨y0, y1, y2⟩ := cell3 b2.out
        have HLX := Lib.hid hla
        have HAX := Lib.hid ha0
        have HN := Lib.hid hn
        have HRX := Lib.hid (ea.trans hrk)
        have HTX := Lib.hid HTK
        have hz1 := lt_of_block b1.out
        have hz2 := lt_of_block b2.out
        have HBZ := Lib.hid (lt_of_block b2.out)
        have HBEL := Lib.hid hbel
        have HRK := Lib.hid hrk
        clear hla hlb ha0 ha1 hn ea eb HTK hbel hrk
        go_wp2_with fail
        refine HPT.out.mono ?_
        rintro e w2 ⟨gl, rfl, hgl, hglw, hb2⟩
        have b1' := Lib.hid ((hb2.block _ hz1).trans b1.out)
        have b2' := Lib.hid ((hb2.block _ hz2).trans b2.out)
        have b3' := Lib.hid ((hb2.block _ (lt_of_block b3.out)).trans b3.out)
        have b4' := Lib.hid ((hb2.block _ (lt_of_block b4.out)).trans b4.out)
        have HGL := Lib.hid hgl
        have HB2 := Lib.hid (HBEL.out.trans (hb2.mono HBEL.out.size))
        have HT2 := Lib.hid (HTX.out.below hb2)
        have pj2 := (hb2.cell (p := ⟨gp, ofp + j, none⟩) (Nat.lt_of_lt_of_le hgp HBEL.out.size)).trans pj
        have j0' := (hb2.cell (p := ⟨gk, ofk + 0 * 3, none⟩) hkb).trans j0
        have j1' := (hb2.cell (p := ⟨gk, ofk + 0 * 3 + 1, none⟩) hkb).trans j1
        have j2' := (hb2.cell (p := ⟨gk, ofk + 0 * 3 + 2, none⟩) hkb).trans j2
        clear hb2 hgl x0 x1 x2 x3 x4 x5 x6 y0 y1 y2 pj j0 j1 j2 HPT b1 b2 b3 b4 HTX HBEL
        obtain ⟨x0, x1, x2, x3, x4, x5, x6⟩ := cell7 b1'.out
        obtain ⟨y0, y1, y2⟩ := cell3 b2'.out
        obtain ⟨g0, g1, g2, g3, g4, g5, g6⟩ := (cell14 HGL.out).1
        rw [HRX.out] at g6
        rw [Nat.zero_mul, Nat.add_zero] at j0' j1' j2'
        have f0 := free7 b1'.out
        have f3 := free3 b2'.out
        have hz1 := lt_of_block b1'.out
        have hz2 := lt_of_block b2'.out
        go_wp2_with fail
        go_quiet (fail)
        have ne1 : gl ≠ w.heap.size := by have := lt_of_block b1'.out; have := HBZ.out; omega
        have ne2 : gl ≠ w.heap.size + 1 := by have := HBZ.out; omega
        have ne3 : gk ≠ w.heap.size := by omega
        have ne4 : gk ≠ w.heap.size + 1 := by omega
        have ne5 : gp ≠ w.heap.size := by omega
        have ne6 : gp ≠ w.heap.size + 1 := by omega
        go_wp2_with fail
        go_region
        go_wp2
        go_roundw
        have HV := Lib.hid (sets_all (W := w2.drewN (nq + 1)) (b := w.heap.size) (g := w.heap.size + 1) (by omega) (Nat.le_refl _) (Nat.le_succ _) b1'.out b2'.out (Go.Proofs.YtjjohllfidmkjaaDoor.Mem.below_drewN HB2.out (nq + 1)) (.int .i64 a.l0) (.int .i64 a.l1) (.int .i64 a.l2) (.int .i64 a.h0) (.int .i64 a.h1) (.int .i64 a.h2) (.slice A y.rows.length cp) (.int .i64 s2) (.slice A2 n2 c2) (.slice B2 m2 d2))
        case measure => simp [intOf]; omega
        case rel => exact ⟨j + 1, a, k0, s2, A2, n2, c2, B2, m2, d2, by go_num, by omega, HN.out, HLX.out, HRX.out, HAX.out, Lib.hid HV.out.1, Lib.hid HV.out.2.1, Lib.hid ((HV.out.2.2.1 _ (by omega) (by omega)).trans b3'.out), Lib.hid ((HV.out.2.2.1 _ (by omega) (by omega)).trans b4'.out), TreeIn.stays (fun g hg _ => HV.out.2.2.1 g (by omega) (by omega)) (fun g hg _ => hg) _ _ (HT2.out.below (Go.Proofs.YtjjohllfidmkjaaDoor.Mem.below_drewN (Below.refl _ _) (nq + 1))), HV.out.2.2.2⟩
      · rw [← hi0] at hi
        clear hi0
        have HPT := Lib.hid (parts_any yk s A cp wr (by omega) (by omega) hlk.box)
        rw [hpa] at HPT
        unfold sysV at HPT
        rw [hrk] at HPT
        obtain ⟨gk, ofk, s2, A2, n2, c2, B2, m2, d2, ek, HTK, j0, j1, j2⟩ := kid_cells hr hk (Below.refl _ _) (k := 1) (by simp)
        subst ek
        have hgk : gk < w.heap.size := by
          obtain ⟨g', o', e', hS, _⟩ := hr (by intro h0; have := hk.len; rw [h0] at this; simp at this)
          cases e'; exact hS
        have hkb := World.block_lt_of_cell? wr _ j0
        have pj := hpc.out j hlt
        have hj1 : (0 : Int) ≤ (j : Int) := by omega
        have hj2 : (j : Int) < (p.length : Int) := by omega
        rw [hi] at pj
        obtain ⟨gp, ofp, rfl, hgp, pj⟩ := pj
        have pj := (hbel.cell (p := ⟨gp, ofp + j, none⟩) hgp).trans pj
        obtain ⟨x0, x1, x2, x3, x4, x5, x6⟩ := cell7 b1.out
        obtain ⟨y0, y1, y2⟩ := cell3 b2.out
        have HLX := Lib.hid hlb
        have HAX := Lib.hid ha1
        have HN := Lib.hid hn
        have HRX := Lib.hid (eb.trans hrk)
        have HTX := Lib.hid HTK
        have hz1 := lt_of_block b1.out
        have hz2 := lt_of_block b2.out
        have HBZ := Lib.hid (lt_of_block b2.out)
        have HBEL := Lib.hid hbel
        have HRK := Lib.hid hrk
        clear hla hlb ha0 ha1 hn ea eb HTK hbel hrk
        go_wp2_with fail
        refine HPT.out.mono ?_
        rintro e w2 ⟨gl, rfl, hgl, hglw, hb2⟩
        have b1' := Lib.hid ((hb2.block _ hz1).trans b1.out)
        have b2' := Lib.hid ((hb2.block _ hz2).trans b2.out)
        have b3' := Lib.hid ((hb2.block _ (lt_of_block b3.out)).trans b3.out)
        have b4' := Lib.hid ((hb2.block _ (lt_of_block b4.out)).trans b4.out)
        have HGL := Lib.hid hgl
        have HB2 := Lib.hid (HBEL.out.trans (hb2.mono HBEL.out.size))
        have HT2 := Lib.hid (HTX.out.below hb2)
        have pj2 := (hb2.cell (p := ⟨gp, ofp + j, none⟩) (Nat.lt_of_lt_of_le hgp HBEL.out.size)).trans pj
        have j0' := (hb2.cell (p := ⟨gk, ofk + 1 * 3, none⟩) hkb).trans j0
        have j1' := (hb2.cell (p := ⟨gk, ofk + 1 * 3 + 1, none⟩) hkb).trans j1
        have j2' := (hb2.cell (p := ⟨gk, ofk + 1 * 3 + 2, none⟩) hkb).trans j2
        clear hb2 hgl x0 x1 x2 x3 x4 x5 x6 y0 y1 y2 pj j0 j1 j2 HPT b1 b2 b3 b4 HTX HBEL
        obtain ⟨x0, x1, x2, x3, x4, x5, x6⟩ := cell7 b1'.out
        obtain ⟨y0, y1, y2⟩ := cell3 b2'.out
        obtain ⟨g0, g1, g2, g3, g4, g5, g6⟩ := (cell14 HGL.out).2
        rw [HRX.out] at g6
        rw [Nat.one_mul] at j0' j1' j2'
        have f0 := free7 b1'.out
        have f3 := free3 b2'.out
        have hz1 := lt_of_block b1'.out
        have hz2 := lt_of_block b2'.out
        go_wp2_with fail
        go_quiet (fail)
        have ne1 : gl ≠ w.heap.size := by have := lt_of_block b1'.out; have := HBZ.out; omega
        have ne2 : gl ≠ w.heap.size + 1 := by have := HBZ.out; omega
        have ne3 : gk ≠ w.heap.size := by omega
        have ne4 : gk ≠ w.heap.size + 1 := by omega
        have ne5 : gp ≠ w.heap.size := by omega
        have ne6 : gp ≠ w.heap.size + 1 := by omega
        go_wp2_with fail
        go_region
        go_wp2
        go_roundw
        have HV := Lib.hid (sets_all (W := w2.drewN (nq + 1)) (b := w.heap.size) (g := w.heap.size + 1) (by omega) (Nat.le_refl _) (Nat.le_succ _) b1'.out b2'.out (Go.Proofs.YtjjohllfidmkjaaDoor.Mem.below_drewN HB2.out (nq + 1)) (.int .i64 b.l0) (.int .i64 b.l1) (.int .i64 b.l2) (.int .i64 b.h0) (.int .i64 b.h1) (.int .i64 b.h2) (.slice A y.rows.length cp) (.int .i64 s2) (.slice A2 n2 c2) (.slice B2 m2 d2))
        case measure => simp [intOf]; omega
        case rel => exact ⟨j + 1, b, k1, s2, A2, n2, c2, B2, m2, d2, by go_num, by omega, HN.out, HLX.out, HRX.out, HAX.out, Lib.hid HV.out.1, Lib.hid HV.out.2.1, Lib.hid ((HV.out.2.2.1 _ (by omega) (by omega)).trans b3'.out), Lib.hid ((HV.out.2.2.1 _ (by omega) (by omega)).trans b4'.out), TreeIn.stays (fun g hg _ => HV.out.2.2.1 g (by omega) (by omega)) (fun g hg _ => hg) _ _ (HT2.out.below (Go.Proofs.YtjjohllfidmkjaaDoor.Mem.below_drewN (Below.refl _ _) (nq + 1))), HV.out.2.2.2⟩
    · obtain rfl : j = p.length := by omega
      have dk : decide ((p.length : Int) < (p.length : Int)) = false := decide_eq_false (by omega)
      rw [List.drop_length] at hn
      unfold nodeAt at hn
      cases hn
      obtain ⟨x0, x1, x2, x3, x4, x5, x6⟩ := cell7 b1.out
      obtain ⟨y0, y1, y2⟩ := cell3 b2.out
      obtain ⟨r0, r1, r2, r3, r4, r5, r6⟩ := cell7 b3.out
      obtain ⟨u0, u1, u2⟩ := cell3 b4.out
      have f0 := free7 b3.out
      have f3 := free3 b4.out
      have hz1 := lt_of_block b1.out
      have hz2 := lt_of_block b2.out
      have hz3 := lt_of_block b3.out
      have hz4 := lt_of_block b4.out
      have HBEL := Lib.hid hbel
      clear hbel htk hlk hal
      go_wp2_with fail
      go_region
      go_wp2
      have HV := Lib.hid (sets_all (W := wr) (b := w.heap.size + 1 + 1) (g := w.heap.size + 1 + 1 + 1) (by omega) (by omega) (by omega) b3.out b4.out HBEL.out (.int .i64 y'.l0) (.int .i64 y'.l1) (.int .i64 y'.l2) (.int .i64 y'.h0) (.int .i64 y'.h1) (.int .i64 y'.h2) (.slice A y.rows.length cp) (.int .i64 s) (.slice K m kc) (.slice B k d))
      generalize ((((((((((wr.setCell ⟨w.heap.size + 1 + 1, 0, none⟩ (.int .i64 y'.l0)).setCell ⟨w.heap.size + 1 + 1, 1, none⟩ (.int .i64 y'.l1)).setCell ⟨w.heap.size + 1 + 1, 2, none⟩ (.int .i64 y'.l2)).setCell ⟨w.heap.size + 1 + 1, 3, none⟩ (.int .i64 y'.h0)).setCell ⟨w.heap.size + 1 + 1, 4, none⟩ (.int .i64 y'.h1)).setCell ⟨w.heap.size + 1 + 1, 5, none⟩ (.int .i64 y'.h2)).setCell ⟨w.heap.size + 1 + 1, 6, none⟩ (.slice A y.rows.length cp)).setCell ⟨w.heap.size + 1 + 1 + 1, 0, none⟩ (.int .i64 s)).setCell ⟨w.heap.size + 1 + 1 + 1, 1, none⟩ (.slice K m kc)).setCell ⟨w.heap.size + 1 + 1 + 1, 2, none⟩ (.slice B k d)) = V8 at HV ⊢
      obtain ⟨q0, q1, q2, q3, q4, q5, q6⟩ := cell7 HV.out.1
      obtain ⟨v0, v1, v2⟩ := cell3 HV.out.2.1
      refine bodyPost_ret (node_res V8.drew _ _ _ _ _ _ _ _ _ _ _ _ _ _ rfl rfl rfl q0 q1 q2 q3 q4 q5 q6 v0 v1 v2) rfl ?_
      unfold NodeRet
      refine ⟨?_, s, K, m, kc, B, k, d, rfl⟩
      exact HV.out.2.2.2.trans ⟨rfl, rfl, rfl, Nat.le_refl _, fun _ _ => rfl⟩
end Go.Proofs.YtjjohllfidmkjaaDoor.PfW
