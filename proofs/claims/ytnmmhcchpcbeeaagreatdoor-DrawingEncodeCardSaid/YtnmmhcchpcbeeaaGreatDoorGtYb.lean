/- Walk: the program's names of layers. Conditions: the drawing lies in memory. -/
import Derived.Test.YtnmmhcchpcbeeaaGreatDoorGtYd
import Derived.Test.YtnmmhcchpcbeeaaGreatDoorGtRc
import Derived.Test.YtnmmhcchpcbeeaaGreatDoorDwX
import Derived.Test.YtnmmhcchpcbeeaaGreatDoorShelf
import Derived.Sort.OwnSorted
import Derived.OwnWalk

namespace Go.Proofs.YtnmmhcchpcbeeaaGreatDoor.GtW
open Go Go.RowKit Go.Proofs.YtnmmhcchpcbeeaaGreatDoor.Mem Go.Proofs.YtnmmhcchpcbeeaaGreatDoor.Ge
open Go.Proofs.YtnmmhcchpcbeeaaGreatDoor.GeW
open Go.Sort Go.Shelf
theorem newsOne (w : World) (a : Value) (T : TypeId) : ∀ (j : Nat) (u : Value), [a][j]? = some u → (w.alloc (.cells #[a] T)).cell? ((⟨w.heap.size, 0, none⟩ : Addr).add j) = some u := by
 intro j u hj
 match j, hj with
 | 0, hj => simp at hj; subst hj; simp [Addr.add]
 | j + 1, hj => simp at hj
set_option maxRecDepth 100000 in
set_option maxHeartbeats 2000000 in
theorem layers_any (l : List EntV) (A : Option Addr) (c : Nat) (w : World) (hx : Ents w A l) (hl : l.length ≤ 1000) :
  Calls Tryz.prog 18 #[.slice A l.length c] w fun e w' => ∃ (B : Option Addr) (d : Nat), e = .returned (.slice B (lays (l.map EntV.e)).length d) ∧ Row w' B ((lays (l.map EntV.e)).flatMap ocCells) ∧ Below w.heap.size w w' := by
 have HV := Lib.hid (GeW.drawOk_any l A c w hx)
 rw [show GeW.ents l = l.map EntV.e from rfl] at HV
 have HR0 := Lib.hid hx.1
 clear hx
 obtain ⟨i0, ia, ib, ic, id⟩ := info_parts info_text
 by_cases hv : drawOk (l.map EntV.e) = true
 ·rw [hv] at HV
  have HD : Hid ((lays (l.map EntV.e)).map Prod.fst = Lib.compact ((l.map (·.e.layer)).mergeSort fun x y => decide (x ≤ y))) := Lib.hid (by rw [lays_compact hv, List.map_map]; rfl)
  have HDL := Lib.hid (show (lays (l.map EntV.e)).length = ((lays (l.map EntV.e)).map Prod.fst).length by simp)
  clear hv
  go_enter Tryz.func18, Tryz.ntmps18
  go_wp2_with fail
  refine HV.out.mono ?_
  rintro e w1 ⟨rfl, hb⟩
  have HK1 := Lib.hid (HR0.out.below hb)
  have HKB := Lib.hid hb
  clear hb HR0 HV
  go_wp2_with fail
  go_loopw [3, 11] (fun v t wr => ∃ k : Nat, k ≤ l.length ∧ t = .int .i64 k ∧ wr.ownsRow w1.heap.size 9 1 v k (osc (l.take k)) ∧ Below w1.heap.size w1 wr) (fun _ t _ => l.length - (intOf t).toNat)
  case atStart => exact ⟨0, Nat.zero_le _, rfl, World.ownsRow_nil _ _ _ _, Below.refl _ _⟩
  case round =>
   obtain ⟨k, hk, rfl, hown, hbel⟩ := hrel
   by_cases hlt : k < l.length
   ·obtain ⟨g, off, rfl, hg, ca⟩ := row_get GeW.ent_len (by decide) (HK1.out.below hbel) (by omega)
    have a0 := ca k hlt 0 (by decide)
    have a1 := ca k hlt 1 (by decide)
    have a2 := ca k hlt 2 (by decide)
    have a3 := ca k hlt 3 (by decide)
    have a4 := ca k hlt 4 (by decide)
    have a5 := ca k hlt 5 (by decide)
    have a6 := ca k hlt 6 (by decide)
    have a7 := ca k hlt 7 (by decide)
    have a8 := ca k hlt 8 (by decide)
    have a9 := ca k hlt 9 (by decide)
    have a10 := ca k hlt 10 (by decide)
    have a11 := ca k hlt 11 (by decide)
    have a12 := ca k hlt 12 (by decide)
    have a13 := ca k hlt 13 (by decide)
    clear ca
    have HTS := Lib.hid (osc_snoc l k hlt)
    generalize l[k] = q at *
    obtain ⟨⟨kd, lay, ⟨ax, ay⟩, ⟨bx, b_y⟩, ⟨fx, fy⟩, ⟨tx, ty⟩, ⟨cx, cy⟩, cw, pts⟩, qA, qk⟩ := q
    simp only [entVals, List.getElem?_cons_zero, List.getElem?_cons_succ, Nat.add_zero] at a0 a1 a2 a3 a4 a5 a6 a7 a8 a9 a10 a11 a12 a13 HTS
    generalize (ByteArray.mk lay.toArray) = OB at *
    have C1 : Hid (∀ (j : Nat) (u : Value), [Value.string OB][j]? = some u → ((wr.alloc (.cells #[.int .i64 kd, .string OB, .int .i64 ax, .int .i64 ay, .int .i64 bx, .int .i64 b_y, .int .i64 fx, .int .i64 fy, .int .i64 tx, .int .i64 ty, .int .i64 cx, .int .i64 cy, .bool cw, .slice qA pts.length qk] 52)).alloc (.cells #[.string OB] 9)).cell? ((⟨wr.heap.size + 1, 0, none⟩ : Addr).add j) = some u) := Lib.hid (by
     have := newsOne (wr.alloc (.cells #[.int .i64 kd, .string OB, .int .i64 ax, .int .i64 ay, .int .i64 bx, .int .i64 b_y, .int .i64 fx, .int .i64 fy, .int .i64 tx, .int .i64 ty, .int .i64 cx, .int .i64 cy, .bool cw, .slice qA pts.length qk] 52)) (.string OB) 9
     rw [World.size_alloc] at this
     exact this)
    have C2 : Hid (∀ u ∈ [Value.string OB], u.oneCell' = true) := Lib.hid (by intro u hu; simp at hu; rcases hu with rfl; rfl)
    have C3 : Hid (k + 1 ≤ maxLen ∧ (k + 1) * 16 ≤ 140737488355328) := Lib.hid (by unfold maxLen; omega)
    have C5 : Hid (w1.heap.size ≤ ((wr.alloc (.cells #[.int .i64 kd, .string OB, .int .i64 ax, .int .i64 ay, .int .i64 bx, .int .i64 b_y, .int .i64 fx, .int .i64 fy, .int .i64 tx, .int .i64 ty, .int .i64 cx, .int .i64 cy, .bool cw, .slice qA pts.length qk] 52)).alloc (.cells #[.string OB] 9)).heap.size) := Lib.hid (by have := hbel.size; simp; omega)
    have HOW := Lib.hid ((hown.alloc (.cells #[.int .i64 kd, .string OB, .int .i64 ax, .int .i64 ay, .int .i64 bx, .int .i64 b_y, .int .i64 fx, .int .i64 fy, .int .i64 tx, .int .i64 ty, .int .i64 cx, .int .i64 cy, .bool cw, .slice qA pts.length qk] 52)).alloc (.cells #[.string OB] 9))
    have HBW := Lib.hid ((hbel.alloc hbel.size (.cells #[.int .i64 kd, .string OB, .int .i64 ax, .int .i64 ay, .int .i64 bx, .int .i64 b_y, .int .i64 fx, .int .i64 fy, .int .i64 tx, .int .i64 ty, .int .i64 cx, .int .i64 cy, .bool cw, .slice qA pts.length qk] 52)).alloc (by have := hbel.size; simp; omega) (.cells #[.string OB] 9))
    clear hown hbel
    go_wp2_with (at_builtin; refine wpList_append_own _ rfl _ _ 43 rfl w1.heap.size 9 i0 _ 1 16 Tryz.underlying43 ia ib ic id rfl (by omega) _ _ _ rfl HOW.out ⟨wr.heap.size + 1, 0, none⟩ 1 1 [.string OB] rfl rfl C1.out C2.out C3.out.1 C3.out.2 C5.out ?_)
    intro v' w4 hown4 hg4 _
    have hb4 : Below w1.heap.size w1 w4 := below_append HBW.out C5.out HOW.out hg4 (Nat.le_refl _)
    have HO4 : Hid (w4.ownsRow w1.heap.size 9 1 v' (k + 1) (osc (l.take (k + 1)))) := Lib.hid (by rw [HTS.out]; exact hown4)
    clear hg4 hown4 a0 a1 a2 a3 a4 a5 a6 a7 a8 a9 a10 a11 a12 a13
    go_wp2
    go_roundw
    case rel => exact ⟨k + 1, by omega, by go_num, HO4.out, hb4⟩
    case measure => simp [intOf]; omega
   ·obtain rfl : k = l.length := by omega
    rw [List.take_length] at hown
    have HBW := Lib.hid (HKB.out.trans (hbel.mono HKB.out.size))
    have HB1 := Lib.hid hbel
    have hz0 := hbel.size
    have hml : (l.map (·.e.layer)).length = l.length := by simp
    have HOW := Lib.hid hown
    rcases hown.2 with ⟨rfl, h0⟩ | ⟨g, cap, cur, rfl, hbase, hb, h1, h2, h3, h4⟩
    ·-- nothing to sort
     clear hown hbel
     have hn0 : l = [] := List.eq_nil_of_length_eq_zero h0
     have HN : Hid (lays (l.map EntV.e) = []) := Lib.hid (by
      have := HDL.out
      rw [HD.out, hn0] at this
      exact List.eq_nil_of_length_eq_zero (by rw [hn0, this]; simp [Lib.compact, Lib.compactUpTo]))
     clear h0
     subst hn0
     go_wp2_with fail
     refine (Tryz.slices_Sort_string_none none 0 _).mono ?_
     rintro e w2 ⟨rfl, rfl⟩
     go_wp2_with fail
     refine (Tryz.slices_Compact_string_empty none 0 _).mono ?_
     rintro e w3 ⟨rfl, rfl⟩
     go_wp2
     go_ret
     rw [HN.out]
     exact ⟨none, 0, rfl, Row.nil _ _, HBW.out⟩
    ·clear hown hbel
     have hlt : g < wr.heap.size := (Array.getElem?_eq_some_iff.1 hb).1
     have h4' : cur.toList.take (l.map (·.e.layer)).length = (l.map (·.e.layer)).map encStr := by rw [hml]; simpa [osc] using h4
     have hH := holds_of_block hb h4'
     have HS := Lib.hid (Tryz.slices_Sort_string g 0 cap (l.map (·.e.layer)) wr hH hlt (by rw [hml]; omega))
     rw [hml] at HS
     have hsl : ((l.map (·.e.layer)).mergeSort fun x y => decide (x ≤ y)).length = (l.map (·.e.layer)).length := by simp
     have HSO := Lib.hid (fun nn os => ownsRow_sorted (w := wr) (n := nn) (os := os) (ss := l.map (·.e.layer)) hsl hbase hb (by rw [hml]; exact h1) h2 h3)
     have HSG := Lib.hid (fun nn os => grownBy_sorted (w := wr) (g := g) (n := nn) (os := os) ((l.map (·.e.layer)).mergeSort fun x y => decide (x ≤ y)).toArray)
     have HZL := Lib.hid hsl
     clear hH h4' h4 hsl
     generalize ((l.map (·.e.layer)).mergeSort fun x y => decide (x ≤ y)) = zs at *
     have hzl : zs.length = l.length := by rw [HZL.out, hml]
     go_wp2_with fail
     refine HS.out.mono ?_
     rintro e w2 ⟨rfl, nn, os, hw2⟩
     have hO2 := HSO.out nn os
     have hG2 := HSG.out nn os
     rw [← hw2] at hO2 hG2
     have HB2 : Hid (Below w1.heap.size w1 w2) := Lib.hid (HB1.out.grown hG2 hz0 (fun j hj => by cases hj; exact hbase))
     clear hw2 hG2 HSG HSO HS hb h3
     rw [hml] at hO2
     have HO2 := Lib.hid hO2
     have hz2 := HB2.out.size
     rcases hO2.2 with ⟨h5, h6⟩ | ⟨g', cap', cur', h5, hbase', hb', h7, h8, h9, h10⟩
     ·simp at h5
     ·injection h5 with h5 h5b h5c
      injection h5 with h5
      injection h5 with h5
      subst h5 h5c
      clear hO2
      have h11 : cur'.toList.take zs.length = zs.map encStr := by rw [hzl]; simpa using h10
      have hH := holds_of_block hb' h11
      have HC := Lib.hid (Tryz.slices_Compact_string g 0 cap zs w2 hH (by omega) (by omega))
      rw [hzl] at HC
      have hcl : (Lib.compact zs).length ≤ l.length := by have := compact_len zs.toArray zs.length; unfold Lib.compact; omega
      have hrl : (Lib.compact zs ++ List.replicate (l.length - (Lib.compact zs).length) ([] : List UInt8)).length = zs.length := by rw [List.length_append, List.length_replicate]; omega
      have HCO := Lib.hid (fun nn => ownsRow_sorted (w := w2) (n := nn) (os := #[]) (ss := zs) (ts := Lib.compact zs ++ List.replicate (l.length - (Lib.compact zs).length) []) hrl hbase' hb' (by rw [hzl]; omega) h2 h9)
      have HCG := Lib.hid (fun nn => grownBy_sorted (w := w2) (g := g) (n := nn) (os := #[]) (Lib.compact zs ++ List.replicate (l.length - (Lib.compact zs).length) []).toArray)
      have HRR : Hid ((lays (l.map EntV.e)).flatMap ocCells = (Lib.compact zs).map encStr ∧ (lays (l.map EntV.e)).length = (Lib.compact zs).length) := Lib.hid ⟨by rw [oc_enc, HD.out], by rw [HDL.out, HD.out]⟩
      clear hH h11 h10 hrl hb' h9 h7 h8 HD HDL
      generalize (Lib.compact zs) = cz at *
      go_wp2_with fail
      refine HC.out.mono ?_
      rintro e w3 ⟨rfl, q, hw3⟩
      have hO3 := HCO.out q
      have hG3 := HCG.out q
      rw [grow_empty, ← hw3] at hO3 hG3
      have HB3 : Hid (Below w1.heap.size w1 w3) := Lib.hid (HB2.out.grown hG3 hz2 (fun j hj => by cases hj; exact hbase))
      have HR3 : Hid (Row w3 (some ⟨g, 0, none⟩) (cz.map encStr)) := Lib.hid (Row.head (by
       have := Row.of_own (by rw [hzl] at hO3; exact hO3)
       rw [List.map_append] at this
       exact this))
      clear hw3 hO3 hG3 HC HCO HCG
      have HFB := Lib.hid (HKB.out.trans (HB3.out.mono HKB.out.size))
      go_wp2
      go_ret
      rw [HRR.out.1, HRR.out.2]
      exact ⟨_, _, rfl, HR3.out, HFB.out⟩
 ·rw [show drawOk (l.map EntV.e) = false by simpa using hv] at HV
  have HN := Lib.hid (show lays (l.map EntV.e) = [] by unfold lays; rw [if_neg hv])
  clear hv
  go_enter Tryz.func18, Tryz.ntmps18
  go_wp2_with fail
  refine HV.out.mono ?_
  rintro e w1 ⟨rfl, hb1⟩
  have HB := Lib.hid hb1
  clear hb1
  go_wp2
  go_ret
  rw [HN.out]
  exact ⟨none, 0, rfl, Row.nil _ _, HB.out⟩
end Go.Proofs.YtnmmhcchpcbeeaaGreatDoor.GtW
