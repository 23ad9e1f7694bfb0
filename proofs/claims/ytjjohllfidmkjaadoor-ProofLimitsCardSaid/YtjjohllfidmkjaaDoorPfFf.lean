/- Walk: Fulfilled. Conditions: a small box, small numbers; the rows lie in memory. -/
import Derived.Test.YtjjohllfidmkjaaDoorPfLt
import Derived.Test.YtjjohllfidmkjaaDoorPfD1
namespace Go.Proofs.YtjjohllfidmkjaaDoor.Pf
open Go
def okB (x y z : Int) (r : R4) : Bool := decide (r.d ≤ r.a * x + r.b * y + r.c * z)
def anyZ (s : Syst) (x y : Int) : Nat → Int → Bool
  | 0, _ => false
  | n + 1, z => s.rows.all (okB x y z) || anyZ s x y n (z + 1)
def anyY (s : Syst) (x : Int) : Nat → Int → Bool
  | 0, _ => false
  | n + 1, y => anyZ s x y (s.h2 + 1 - s.l2).toNat s.l2 || anyY s x n (y + 1)
def anyX (s : Syst) : Nat → Int → Bool
  | 0, _ => false
  | n + 1, x => anyY s x (s.h1 + 1 - s.l1).toNat s.l1 || anyX s n (x + 1)
/-- A point of the box fulfils all rows. -/
def fulfB (s : Syst) : Bool := anyX s (s.h0 + 1 - s.l0).toNat s.l0
theorem nat_at {h x : Int} (hx : x ≤ h) : (h + 1 - x).toNat = (h + 1 - (x + 1)).toNat + 1 := by omega
theorem anyZ_at {s : Syst} {x y z : Int} (h : z ≤ s.h2) : anyZ s x y (s.h2 + 1 - z).toNat z = (s.rows.all (okB x y z) || anyZ s x y (s.h2 + 1 - (z + 1)).toNat (z + 1)) := by rw [nat_at h]; rfl
theorem anyY_at {s : Syst} {x y : Int} (h : y ≤ s.h1) : anyY s x (s.h1 + 1 - y).toNat y = (anyZ s x y (s.h2 + 1 - s.l2).toNat s.l2 || anyY s x (s.h1 + 1 - (y + 1)).toNat (y + 1)) := by rw [nat_at h]; rfl
theorem anyX_at {s : Syst} {x : Int} (h : x ≤ s.h0) : anyX s (s.h0 + 1 - x).toNat x = (anyY s x (s.h1 + 1 - s.l1).toNat s.l1 || anyX s (s.h0 + 1 - (x + 1)).toNat (x + 1)) := by rw [nat_at h]; rfl
theorem anyZ_end {s : Syst} {x y z : Int} (h : s.h2 < z) : anyZ s x y (s.h2 + 1 - z).toNat z = false := by rw [show (s.h2 + 1 - z).toNat = 0 by omega]; rfl
theorem anyY_end {s : Syst} {x y : Int} (h : s.h1 < y) : anyY s x (s.h1 + 1 - y).toNat y = false := by rw [show (s.h1 + 1 - y).toNat = 0 by omega]; rfl
theorem anyX_end {s : Syst} {x : Int} (h : s.h0 < x) : anyX s (s.h0 + 1 - x).toNat x = false := by rw [show (s.h0 + 1 - x).toNat = 0 by omega]; rfl
end Go.Proofs.YtjjohllfidmkjaaDoor.Pf
namespace Go.Proofs.YtjjohllfidmkjaaDoor.PfW
open Go Go.RowKit Go.Proofs.YtjjohllfidmkjaaDoor.Mem Go.Proofs.YtjjohllfidmkjaaDoor.Pf
attribute [local go_sem ↓] Go.wp_at_zero Go.wp_at_succ
set_option maxRecDepth 100000 in
set_option maxHeartbeats 4000000 in
theorem fulfilled_any (s : Syst) (A : Option Addr) (cp : Nat) (w : World) (hy : Little s) (hr : Row w A (s.rows.flatMap r4Cells)) :
    Calls Tryd.prog 19 #[sysV s A cp] w fun e w' => e = .returned (.bool (fulfB s)) ∧ Below w.heap.size w w' := by
  have HBB := Lib.hid (one_box w (.cells #[.int .i64 s.l0, .int .i64 s.l1, .int .i64 s.l2, .int .i64 s.h0, .int .i64 s.h1, .int .i64 s.h2, .slice A s.rows.length cp] 25))
  have HR := Lib.hid (hr.below HBB.out.1)
  have HB := Lib.hid HBB.out.1
  have HX := Lib.hid HBB.out.2
  have HN := Lib.hid hy.num
  have HL := Lib.hid hy.len
  obtain ⟨p0, q0, r0, p1, q1, r1, p2, q2, r2⟩ := hy.box
  obtain ⟨x0, x1, x2, x3, x4, x5, x6⟩ := cell7 HX.out
  clear hr hy HBB
  unfold sysV
  go_enter Tryd.func19, Tryd.ntmps19
  go_wp2
  generalize w.alloc (.cells #[.int .i64 s.l0, .int .i64 s.l1, .int .i64 s.l2, .int .i64 s.h0, .int .i64 s.h1, .int .i64 s.h2, .slice A s.rows.length cp] 25) = W at *
  clear x0 x1 x2 x3 x4 x5 x6
  have CX : Hid (∀ w', Below W.heap.size W w' → w'.heap[w.heap.size]? = some (.cells #[.int .i64 s.l0, .int .i64 s.l1, .int .i64 s.l2, .int .i64 s.h0, .int .i64 s.h1, .int .i64 s.h2, .slice A s.rows.length cp] 25)) := Lib.hid (fun w' hb => (hb.block _ (lt_of_block HX.out)).trans HX.out)
  go_loopw [3, 4, 5, 6, 7, 8] (fun t _ _ _ _ _ wr => ∃ x : Int, s.l0 ≤ x ∧ x ≤ s.h0 + 1 ∧ t = .int .i64 x ∧ Hid (fulfB s = anyX s (s.h0 + 1 - x).toNat x) ∧ Below W.heap.size W wr) (fun t _ _ _ _ _ _ => (s.h0 + 1 - intOf t).toNat)
  case atStart => exact ⟨s.l0, by omega, by omega, rfl, Lib.hid rfl, Below.refl _ _⟩
  case round =>
    obtain ⟨x, hx1, hx2, rfl, hdx, hbx⟩ := hrel
    obtain ⟨x0, x1, x2, x3, x4, x5, x6⟩ := cell7 (CX.out _ hbx)
    by_cases hx : x ≤ s.h0
    · have dx := decide_eq_true hx
      have hdx2 : Hid (fulfB s = (anyY s x (s.h1 + 1 - s.l1).toNat s.l1 || anyX s (s.h0 + 1 - (x + 1)).toNat (x + 1))) := Lib.hid (by rw [hdx.out, anyX_at hx])
      go_wp2
      clear x0 x1 x2 x3 x4 x5 x6 dx hdx
      go_loopw [4, 5, 6, 7, 8] (fun t _ _ _ _ wq => ∃ y : Int, s.l1 ≤ y ∧ y ≤ s.h1 + 1 ∧ t = .int .i64 y ∧ Hid (fulfB s = (anyY s x (s.h1 + 1 - y).toNat y || anyX s (s.h0 + 1 - (x + 1)).toNat (x + 1))) ∧ Below W.heap.size W wq) (fun t _ _ _ _ _ => (s.h1 + 1 - intOf t).toNat)
      case atStart => exact ⟨s.l1, by omega, by omega, rfl, hdx2, hbx⟩
      case round =>
        obtain ⟨y, hy1, hy2, rfl, hdy, hby⟩ := hrel
        obtain ⟨x0, x1, x2, x3, x4, x5, x6⟩ := cell7 (CX.out _ hby)
        by_cases hy : y ≤ s.h1
        · have dy := decide_eq_true hy
          have hdy2 : Hid (fulfB s = ((anyZ s x y (s.h2 + 1 - s.l2).toNat s.l2 || anyY s x (s.h1 + 1 - (y + 1)).toNat (y + 1)) || anyX s (s.h0 + 1 - (x + 1)).toNat (x + 1))) := Lib.hid (by rw [hdy.out, anyY_at hy])
          go_wp2
          clear x0 x1 x2 x3 x4 x5 x6 dy hdy
          go_loopw [5, 6, 7, 8] (fun t _ _ _ wp => ∃ z : Int, s.l2 ≤ z ∧ z ≤ s.h2 + 1 ∧ t = .int .i64 z ∧ Hid (fulfB s = ((anyZ s x y (s.h2 + 1 - z).toNat z || anyY s x (s.h1 + 1 - (y + 1)).toNat (y + 1)) || anyX s (s.h0 + 1 - (x + 1)).toNat (x + 1))) ∧ Below W.heap.size W wp) (fun t _ _ _ _ => (s.h2 + 1 - intOf t).toNat)
          case atStart => exact ⟨s.l2, by omega, by omega, rfl, hdy2, hby⟩
          case round =>
            obtain ⟨z, hz1, hz2, rfl, hdz, hbz⟩ := hrel
            obtain ⟨x0, x1, x2, x3, x4, x5, x6⟩ := cell7 (CX.out _ hbz)
            by_cases hz : z ≤ s.h2
            · have dz := decide_eq_true hz
              have hdz2 : Hid (fulfB s = (((s.rows.all (okB x y z) || anyZ s x y (s.h2 + 1 - (z + 1)).toNat (z + 1)) || anyY s x (s.h1 + 1 - (y + 1)).toNat (y + 1)) || anyX s (s.h0 + 1 - (x + 1)).toNat (x + 1))) := Lib.hid (by rw [hdz.out, anyZ_at hz])
              go_wp2
              clear x0 x1 x2 x3 x4 x5 x6 dz hdz
              go_loopw [6, 7, 8] (fun t u _ wo => ∃ (k : Nat) (b : Bool), k ≤ s.rows.length ∧ t = .bool b ∧ u = .int .i64 k ∧ Hid (s.rows.all (okB x y z) = (b && (s.rows.drop k).all (okB x y z))) ∧ Below W.heap.size W wo) (fun _ u _ _ => s.rows.length - (intOf u).toNat)
              case atStart => exact ⟨0, true, Nat.zero_le _, rfl, rfl, Lib.hid rfl, hbz⟩
              case round =>
                obtain ⟨k, b, hk, rfl, rfl, hdk, hbk⟩ := hrel
                obtain ⟨x0, x1, x2, x3, x4, x5, x6⟩ := cell7 (CX.out _ hbk)
                by_cases hlt : k < s.rows.length
                · have hk1 : (0 : Int) ≤ (k : Int) := by omega
                  have hk2 : (k : Int) < (s.rows.length : Int) := by omega
                  have dk := decide_eq_true hk2
                  have hk5 : k < 5 := by have := HL.out; omega
                  obtain ⟨g, off, rfl, hg, cr⟩ := row_get r4_len (by decide) HR.out (by omega)
                  have y0 := (hbk.cell (p := ⟨g, off + k * 4 + 0, none⟩) hg).trans (cr k hlt 0 (by decide))
                  have y1 := (hbk.cell (p := ⟨g, off + k * 4 + 1, none⟩) hg).trans (cr k hlt 1 (by decide))
                  have y2 := (hbk.cell (p := ⟨g, off + k * 4 + 2, none⟩) hg).trans (cr k hlt 2 (by decide))
                  have y3 := (hbk.cell (p := ⟨g, off + k * 4 + 3, none⟩) hg).trans (cr k hlt 3 (by decide))
                  have hnum := HN.out _ (List.getElem_mem hlt)
                  have hst : Hid (s.rows.all (okB x y z) = ((b && okB x y z s.rows[k]) && (s.rows.drop (k + 1)).all (okB x y z))) := Lib.hid (by rw [hdk.out, List.drop_eq_getElem_cons hlt, List.all_cons, Bool.and_assoc])
                  clear hdk cr
                  generalize s.rows[k] = r at *
                  obtain ⟨ra, rb, rc, rd⟩ := r
                  simp only [r4Cells, List.getElem?_cons_zero, List.getElem?_cons_succ, Nat.add_zero] at y0 y1 y2 y3
                  obtain ⟨n0, n0', n1, n1', n2, n2', n3, n3'⟩ := hnum
                  simp only at n0 n0' n1 n1' n2 n2' n3 n3'
                  obtain ⟨m0, m0'⟩ := mul_bd n0 n0' (show 0 ≤ x by omega) (by omega)
                  obtain ⟨m1, m1'⟩ := mul_bd n1 n1' (show 0 ≤ y by omega) (by omega)
                  obtain ⟨m2, m2'⟩ := mul_bd n2 n2' (show 0 ≤ z by omega) (by omega)
                  have HBO := Lib.hid (one_box wr (.cells #[.int .i64 ra, .int .i64 rb, .int .i64 rc, .int .i64 rd] 74))
                  have HBN := Lib.hid (hbk.trans (HBO.out.1.mono hbk.size))
                  obtain ⟨v0, v1, v2, v3⟩ := cell4 HBO.out.2
                  cases b
                  · go_wp2
                    go_roundw
                    case rel => exact ⟨k + 1, false, by omega, rfl, by go_num, Lib.hid (by rw [hst.out]; simp), HBN.out⟩
                    case measure => simp [intOf]; omega
                  · by_cases hc : rd ≤ ra * x + rb * y + rc * z
                    · have dc := decide_eq_true hc
                      go_wp2
                      try (go_quiet (fail); go_wp2)
                      go_roundw
                      case rel => exact ⟨k + 1, true, by omega, rfl, by go_num, Lib.hid (by rw [hst.out]; unfold okB; simp only [dc, Bool.and_true]), HBN.out⟩
                      case measure => simp [intOf]; omega
                    · have dc := decide_eq_false hc
                      go_wp2
                      try (go_quiet (fail); go_wp2)
                      go_roundw
                      case rel => exact ⟨k + 1, false, by omega, rfl, by go_num, Lib.hid (by rw [hst.out]; unfold okB; simp only [dc, Bool.and_false]), HBN.out⟩
                      case measure => simp [intOf]; omega
                · obtain rfl : k = s.rows.length := by omega
                  have dk : decide ((s.rows.length : Int) < (s.rows.length : Int)) = false := decide_eq_false (by omega)
                  have hall : s.rows.all (okB x y z) = b := by rw [hdk.out, List.drop_length]; simp
                  rw [hall] at hdz2
                  cases b
                  · go_wp2
                    go_roundw
                    case rel => exact ⟨z + 1, by omega, by omega, by go_num, Lib.hid (by rw [hdz2.out, Bool.false_or]), hbk⟩
                    case measure => simp [intOf]; omega
                  · go_wp2
                    go_ret
                    rw [hdz2.out]
                    exact ⟨by simp, HB.out.trans (hbk.mono HB.out.size)⟩
            · have dz : decide (z ≤ s.h2) = false := decide_eq_false hz
              go_wp2
              go_roundw
              case rel => exact ⟨y + 1, by omega, by omega, by go_num, Lib.hid (by rw [hdz.out, anyZ_end (by omega), Bool.false_or]), hbz⟩
              case measure => simp [intOf]; omega
        · have dy : decide (y ≤ s.h1) = false := decide_eq_false hy
          go_wp2
          go_roundw
          case rel => exact ⟨x + 1, by omega, by omega, by go_num, Lib.hid (by rw [hdy.out, anyY_end (by omega), Bool.false_or]), hby⟩
          case measure => simp [intOf]; omega
    · have dx : decide (x ≤ s.h0) = false := decide_eq_false hx
      go_wp2
      go_ret
      rw [hdx.out, anyX_end (by omega)]
      exact ⟨rfl, HB.out.trans (hbx.mono HB.out.size)⟩
end Go.Proofs.YtjjohllfidmkjaaDoor.PfW
