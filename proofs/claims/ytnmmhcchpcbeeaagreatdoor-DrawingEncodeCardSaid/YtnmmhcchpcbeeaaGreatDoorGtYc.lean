/- Walk: the reference's names of layers. Conditions: the drawing lies in memory. -/
import Derived.Test.YtnmmhcchpcbeeaaGreatDoorGtYd
import Derived.Test.YtnmmhcchpcbeeaaGreatDoorGtRc
import Derived.Test.YtnmmhcchpcbeeaaGreatDoorGtFb
import Derived.Test.YtnmmhcchpcbeeaaGreatDoorGeCl
import Derived.Deep.QuietTactic
import Derived.Deep.DrawnRows
import Derived.Deep.RegionHeld3
import Derived.StillTailTactics

namespace Go.Proofs.YtnmmhcchpcbeeaaGreatDoor.GtW
open Go Go.RowKit Go.Proofs.YtnmmhcchpcbeeaaGreatDoor.Mem Go.Proofs.YtnmmhcchpcbeeaaGreatDoor.Ge
open Go.Proofs.YtnmmhcchpcbeeaaGreatDoor.GeW
attribute [local go_sem ↓] Go.wp_at_zero Go.wp_at_succ
theorem own_some {w : World} {base : Nat} {e : TypeId} {size n d : Nat} {B : Option Addr} {xs : List Value} (h : w.ownsRow base e size (.slice B n d) n xs) (hn : 0 < n) : ∃ g, B = some ⟨g, 0, none⟩ ∧ base ≤ g ∧ g < w.heap.size := by
 rcases own_cases h with ⟨_, h1, _⟩ | h1
 ·omega
 ·exact h1
set_option maxRecDepth 100000 in
set_option maxHeartbeats 8000000 in
theorem rlayers_any (l : List EntV) (A : Option Addr) (c : Nat) (w : World) (hx : Ents w A l) (hl : l.length ≤ 1000) :
  Calls Tryz.prog 19 #[.slice A l.length c] w fun e w' => ∃ (B : Option Addr) (d : Nat), e = .returned (.slice B (lays (l.map EntV.e)).length d) ∧ Row w' B ((lays (l.map EntV.e)).flatMap ocCells) ∧ Below w.heap.size w w' := by
 have HV := Lib.hid (fun W h => rdrawOk_any l A c W h)
 have HK0 := Lib.hid hx
 clear hx
 obtain ⟨i0, ia, ib, ic, id⟩ := info_parts info_text
 by_cases hv : drawOk (l.map EntV.e) = true
 ·rw [hv] at HV
  have HD := Lib.hid (show lays (l.map EntV.e) = Od.nf Od.sl ((l.map EntV.e).map oz) by unfold lays; rw [if_pos hv])
  have hl100 : l.length ≤ 200 := by unfold drawOk at hv; rw [Bool.and_eq_true, decide_eq_true_eq, List.length_map] at hv; exact hv.1
  clear hv
  obtain ⟨w1, rfl⟩ : ∃ w1 : World, w1 = w := ⟨_, rfl⟩
  have HK1 := HK0
  clear HK0
  go_enter Tryz.func19, Tryz.ntmps19
  go_wp2_with fail
  generalize hb0 : w1.heap.size = b0 at *
  go_loopw [3, 4] (fun v t wr => ∃ (i : Nat) (acc : List Nd), i ≤ l.length ∧ t = .int .i64 i ∧ Hid (acc = Od.nf Od.sl (((l.take i).map EntV.e).map oz)) ∧ Hid (acc.length ≤ i) ∧ wr.ownsRow b0 9 1 v acc.length (acc.flatMap ocCells) ∧ Below b0 w1 wr) (fun _ t _ => l.length - (intOf t).toNat)
  case atStart => exact ⟨0, [], Nat.zero_le _, rfl, Lib.hid rfl, Lib.hid (Nat.le_refl _), World.ownsRow_nil _ _ _ _, Below.refl _ _⟩
  case round =>
   obtain ⟨i, acc, hi, rfl, HA, hacc, hown0, hbel0⟩ := hrel
   by_cases hlt : i < l.length
   ·have hacc1 := hacc.out
    have hacc : acc.length ≤ 1000 := by omega
    have hz0 : b0 ≤ wr.heap.size := by have := hbel0.size; omega
    have HO0 := Lib.hid hown0
    have HB0 := Lib.hid hbel0
    have HR0 := Lib.hid (HK1.out.below (by rw [hb0]; exact hbel0))
    clear hown0 hbel0
    go_wp2_with fail
    refine (HV.out _ HR0.out).mono ?_
    rintro e wo ⟨rfl, hb⟩
    have hown := own_below HO0.out hb
    have HB2 : Hid (Below b0 w1 wo) := Lib.hid (HB0.out.trans (hb.mono hz0))
    have hz2 : b0 ≤ wo.heap.size := Nat.le_trans hz0 hb.size
    have HK2 := Lib.hid (HK1.out.below (by rw [hb0]; exact HB2.out))
    clear hb HO0 HB0 HR0 hz0
    obtain ⟨B, d, rfl, hnd⟩ := own_shape hown
    have HO := Lib.hid hown
    have HRO := Lib.hid (Row.of_own hown)
    clear hown
    have HNX : Hid (Od.nf Od.sl (((l.take (i + 1)).map EntV.e).map oz) = Od.ins Od.sl acc (oz l[i].e)) := Lib.hid (by rw [List.take_succ_eq_append_getElem hlt, List.map_append, List.map_singleton, List.map_append, List.map_singleton, Od.nf_snoc, ← HA.out])
    go_wp2_with fail
    go_loopw [5] (fun t wq => ∃ k : Nat, k ≤ acc.length ∧ t = .int .i64 k ∧ Hid (∀ j (h : j < k), ∃ hj : j < acc.length, Od.sl (acc[j]'hj).1 l[i].e.layer = true) ∧ Below wo.heap.size wo wq) (fun t _ => acc.length - (intOf t).toNat)
    case atStart => exact ⟨0, Nat.zero_le _, rfl, Lib.hid (fun j h => absurd h (Nat.not_lt_zero j)), Below.refl _ _⟩
    case round =>
     obtain ⟨k, hk, rfl, HLT, hbel⟩ := hrel
     have HK3 := Lib.hid (HK2.out.below hbel)
     have HR3 := Lib.hid (HRO.out.below hbel)
     obtain ⟨g, off, rfl, hg, ca⟩ := row_get GeW.ent_len (by decide) HK3.out.1 (by omega)
     have a1 := ca i hlt 1 (by decide)
     have hz3 := hbel.size
     clear ca
     have hi0 : (0 : Int) ≤ (i : Int) := by omega
     have hi1 : (i : Int) < (l.length : Int) := by omega
     by_cases hkl : k < acc.length
     ·obtain ⟨g2, rfl, hgb2, hg3⟩ := own_some HO.out (by omega)
      have cb := row_get0 oc_len HR3.out hkl
      have c0 := cb.2 k hkl 0 (by decide)
      rw [Nat.mul_one, Nat.add_zero] at c0
      have hgr := cb.1
      clear cb
      have dk : decide ((k : Int) < (acc.length : Int)) = true := by simp; omega
      have dk2 : ((k : Int) == (acc.length : Int)) = false := by rw [beq_eq_false_iff_ne]; omega
      have hk0 : (0 : Int) ≤ (k : Int) := by omega
      have hk1 : (k : Int) < (acc.length : Int) := by omega
      have ls := text_less acc[k].1 l[i].e.layer
      have es := text_eq acc[k].1 l[i].e.layer
      by_cases hls : Od.sl acc[k].1 l[i].e.layer = true
      ·rw [hls] at ls
       have HLT2 : Hid (∀ j (h : j < k + 1), ∃ hj : j < acc.length, Od.sl (acc[j]'hj).1 l[i].e.layer = true) := Lib.hid (fun j h => by
        rcases Nat.lt_or_ge j k with h1 | h1
        ·exact HLT.out j h1
        ·obtain rfl : j = k := by omega
         exact ⟨hkl, hls⟩)
       clear hls es dk2
       generalize hN : acc[k] = n at *
       generalize hM : l[i] = m at *
       simp only [entVals, List.getElem?_cons_zero, List.getElem?_cons_succ] at a1
       generalize hMO : m.e.layer = mo at *

       simp only [ocCells, List.getElem?_cons_zero] at c0
       generalize (ByteArray.mk mo.toArray) = OB at *
       generalize (ByteArray.mk n.1.toArray) = OB2 at *
       clear hM hMO hN
       go_wp2_with fail
       go_quiet (fail)
       have HB9 := Lib.hid (below_drewN hbel nq)
       clear hbel a1 c0 ls
       go_wp2
       go_roundw
       case rel => exact ⟨k + 1, by omega, by go_num, HLT2, HB9.out⟩
       case measure => simp [intOf]; omega
      ·have hls0 := show Od.sl acc[k].1 l[i].e.layer = false by simpa using hls
       rw [hls0] at ls
       clear hls
       by_cases he : acc[k].1 = l[i].e.layer
       ·rw [decide_eq_true he] at es
        have HNF : Hid (acc = Od.nf Od.sl (((l.take (i + 1)).map EntV.e).map oz)) := Lib.hid (by
         rw [HNX.out, ins_here acc (oz l[i].e) k hkl (fun j h => (HLT.out j h).2) hls0 (by rw [he]; exact Od.sl_irr _)]
         simp only [oz, Int.add_zero]
         exact (List.set_getElem_self hkl).symm)
        have HLN : Hid (acc.length ≤ i + 1) := Lib.hid (by omega)
        clear hls0 he
        generalize hN : acc[k] = n at *
        generalize hM : l[i] = m at *
        simp only [entVals, List.getElem?_cons_zero, List.getElem?_cons_succ] at a1
        generalize hMO : m.e.layer = mo at *

        simp only [ocCells, List.getElem?_cons_zero] at c0
        generalize (ByteArray.mk mo.toArray) = OB at *
        generalize (ByteArray.mk n.1.toArray) = OB2 at *
        have es2 : (OB2.toList != OB.toList) = false := by unfold bne; rw [es]; rfl
        clear hM hMO hN
        go_wp2_with fail
        go_quiet (fail)
        obtain ⟨na, rfl⟩ : ∃ na : Nat, na = nq := ⟨_, rfl⟩
        go_wp2_with fail
        go_quiet (fail)

        have HRW := Lib.hid (HR3.out.below (below_drewN (below_drewN (Below.refl wr.heap.size wr) na) nq))
        have hbw := Lib.hid (below_drewN (below_drewN hbel na) nq)
        clear hbel
        generalize hW : (wr.drewN na).drewN nq = W at *
        have hgw : g < W.heap.size := by rw [← hW]; exact hg
        have b1 : W.cell? ⟨g, off + i * 14 + 1, none⟩ = some (.string OB) := by rw [← hW]; exact a1
        have hbz : b0 ≤ W.heap.size := by have := hbw.out.size; omega

        have HOV := Lib.hid (own_below HO.out hbw.out)
        have HBV : Hid (Below b0 w1 W) := Lib.hid (HB2.out.trans (hbw.out.mono hz2))
        clear hW a1 b1 hg c0 es es2 ls
        go_wp2
        go_roundw
        case rel => exact ⟨i + 1, _, by omega, by go_num, HNF, HLN, HOV.out, HBV.out⟩
        case measure => simp [intOf]; omega
       ·rw [decide_eq_false he] at es
        have hl2 : Od.sl l[i].e.layer acc[k].1 = true := by
         cases h : Od.sl l[i].e.layer acc[k].1
         ·exact absurd (Od.sl_tri _ _ hls0 h) he
         ·rfl
        obtain ⟨acc2, HAC⟩ : ∃ acc2, Hid (acc2 = acc.take k ++ oz l[i].e :: acc.drop k) := ⟨_, Lib.hid rfl⟩
        have HL2 : Hid (0 + k + 1 + (acc.length - k) = acc2.length) := Lib.hid (by rw [HAC.out]; simp; omega)
        have HLN : Hid (acc2.length ≤ i + 1) := Lib.hid (by rw [← HL2.out]; omega)
        have HNF : Hid (acc2 = Od.nf Od.sl (((l.take (i + 1)).map EntV.e).map oz)) := Lib.hid (by
         rw [HNX.out, HAC.out, ins_new acc (oz l[i].e) k hk (fun j h => (HLT.out j h).2) (fun h => ⟨hls0, hl2⟩)])
        clear he hls0 hl2
        generalize hN : acc[k] = n at *
        generalize hM : l[i] = m at *
        simp only [entVals, List.getElem?_cons_zero, List.getElem?_cons_succ] at a1
        generalize hMO : m.e.layer = mo at *

        simp only [ocCells, List.getElem?_cons_zero] at c0
        generalize hOB : (ByteArray.mk mo.toArray) = OB at *
        have HCN : Hid ([] ++ ((acc.take k).flatMap ocCells) ++ [.string OB] ++ ((acc.drop k).flatMap ocCells) = acc2.flatMap ocCells) := Lib.hid (by rw [HAC.out, ← hOB, ← hMO]; simp [ocCells, oz])
        generalize (ByteArray.mk n.1.toArray) = OB2 at *
        have es2 : (OB2.toList != OB.toList) = true := by unfold bne; rw [es]; rfl
        clear hOB hM hMO hN HAC HNX
        have C1 : Hid (0 + k ≤ maxLen ∧ (0 + k) * 16 ≤ 140737488355328 ∧ (((acc.take k).flatMap ocCells)).length = k * 1 ∧ ∀ u ∈ ((acc.take k).flatMap ocCells), u.oneCell' = true) := Lib.hid ⟨by unfold maxLen; omega, by omega, by rw [flatMap_len oc_len, List.length_take]; omega, oc_cell _⟩
        have C2 : Hid (0 + k + 1 ≤ maxLen ∧ (0 + k + 1) * 16 ≤ 140737488355328 ∧ ([.string OB] : List Value).length = 1 * 1 ∧ ∀ u ∈ ([.string OB] : List Value), u.oneCell' = true) := Lib.hid ⟨by unfold maxLen; omega, by omega, rfl, by intro u hu; simp at hu; rcases hu with rfl; rfl⟩
        have C3 : Hid (0 + k + 1 + (acc.length - k) ≤ maxLen ∧ (0 + k + 1 + (acc.length - k)) * 16 ≤ 140737488355328 ∧ (((acc.drop k).flatMap ocCells) : List Value).length = (acc.length - k) * 1 ∧ ∀ u ∈ (((acc.drop k).flatMap ocCells) : List Value), u.oneCell' = true) := Lib.hid ⟨by unfold maxLen; omega, by omega, by rw [flatMap_len oc_len, List.length_drop], oc_cell _⟩
        go_wp2_with fail
        go_quiet (fail)
        obtain ⟨na, rfl⟩ : ∃ na : Nat, na = nq := ⟨_, rfl⟩
        go_wp2_with fail
        go_quiet (fail)

        have HRW := Lib.hid (HR3.out.below (below_drewN (below_drewN (Below.refl wr.heap.size wr) na) nq))
        have hbw := Lib.hid (below_drewN (below_drewN hbel na) nq)
        clear hbel
        generalize hW : (wr.drewN na).drewN nq = W at *
        have hgw : g < W.heap.size := by rw [← hW]; exact hg
        have b1 : W.cell? ⟨g, off + i * 14 + 1, none⟩ = some (.string OB) := by rw [← hW]; exact a1
        have hbz : b0 ≤ W.heap.size := by have := hbw.out.size; omega

        clear hW a1 hg c0 es es2 ls
        have HTD : Hid (acc.flatMap ocCells = (acc.take k).flatMap ocCells ++ (acc.drop k).flatMap ocCells) := Lib.hid (by rw [← List.flatMap_append, List.take_append_drop])
        have HRT := Lib.hid (Row.head (by rw [← HTD.out]; exact HRW.out))
        have HRD := Lib.hid (show Row W (some ⟨g2, k, none⟩) ((acc.drop k).flatMap ocCells) by
         have h1 : Row W (some ⟨g2, 0, none⟩) ((acc.take k).flatMap ocCells ++ (acc.drop k).flatMap ocCells) := by rw [← HTD.out]; exact HRW.out
         have h2 := Row.rest h1
         rw [C1.out.2.2.1, Nat.zero_add, Nat.mul_one] at h2
         exact h2)
        have hk2 : (k : Int) ≤ (acc.length : Int) := by omega
        have hk3 : (k : Int) ≤ (d : Int) := by omega
        have hdk : ¬ d = k := by omega
        go_wp2_with fail
        go_region_held3 (fun w' => w'.cell? ⟨g, off + i * 14 + 1, none⟩ = some (.string OB)) (first | go_keep | exact (hF3.out.cell (p := ⟨g, _, none⟩) hgw).trans b1 | exact (hF2.out.cell (p := ⟨g, _, none⟩) hgw).trans b1 | exact (hF1.out.cell (p := ⟨g, _, none⟩) hgw).trans b1 | exact ((hF1.out.alloc hF1.out.size _).cell (p := ⟨g, _, none⟩) hgw).trans b1)
         (first
         | (refine step_append_row (by rfl) _ _ _ (by rfl) W.heap.size 9 i0 _ 1 16 Tryz.underlying43 ia ib ic id rfl (by omega) _ 0 [] (by rfl) ((own_empty W W.heap.size 9 1 (Nat.le_refl _)).drew) _ _ _ ((acc.take k).flatMap ocCells) (by rfl) (HRT.out.below (GeW.below_drew (bel1 W (.cells #[] 9)))) C1.out.2.2.1 C1.out.2.2.2 C1.out.1 C1.out.2.1 (by simp <;> omega) ?_; intro v1 wa ho1 hg1; have hF1 := Lib.hid (below_append (GeW.below_drew (bel1 W (.cells #[] 9))) (by simp <;> omega) ((own_empty W W.heap.size 9 1 (Nat.le_refl _)).drew) hg1 (Nat.le_refl _)); have hP := Lib.hid ho1; clear ho1 hg1)
         | (refine step_append_row (by rfl) _ _ _ (by rfl) W.heap.size 9 i0 _ 1 16 Tryz.underlying43 ia ib ic id rfl (by omega) _ 0 [] (by rfl) (((own_empty W W.heap.size 9 1 (Nat.le_refl _)).alloc (.cells #[.string OB] 9)).drew) _ _ _ ((acc.take k).flatMap ocCells) (by rfl) (HRT.out.below (GeW.below_drew ((bel1 W (.cells #[] 9)).alloc (by simp) (.cells #[.string OB] 9)))) C1.out.2.2.1 C1.out.2.2.2 C1.out.1 C1.out.2.1 (by simp <;> omega) ?_; intro v1 wa ho1 hg1; have hF1 := Lib.hid (below_append (GeW.below_drew ((bel1 W (.cells #[] 9)).alloc (by simp) (.cells #[.string OB] 9))) (by simp <;> omega) (((own_empty W W.heap.size 9 1 (Nat.le_refl _)).alloc (.cells #[.string OB] 9)).drew) hg1 (Nat.le_refl _)); have hP := Lib.hid ho1; have HN := Lib.hid (GeW.row_grown (new1_rowB W _ _ _) hg1 (by simp [Value.ownBlock])); clear ho1 hg1)
         | (refine step_append_row (by rfl) _ _ _ (by rfl) W.heap.size 9 i0 _ 1 16 Tryz.underlying43 ia ib ic id rfl (by omega) _ 0 [] (by rfl) (own_emptyC W (.cells #[.string OB] 9) 9 1) _ _ _ ((acc.take k).flatMap ocCells) (by rfl) (HRT.out.below (GeW.below_drew ((bel1 W (.cells #[.string OB] 9)).alloc (by simp) (.cells #[] 9)))) C1.out.2.2.1 C1.out.2.2.2 C1.out.1 C1.out.2.1 (by simp <;> omega) ?_; intro v1 wa ho1 hg1; have hF1 := Lib.hid (below_append (GeW.below_drew ((bel1 W (.cells #[.string OB] 9)).alloc (by simp) (.cells #[] 9))) (by simp <;> omega) (own_emptyC W (.cells #[.string OB] 9) 9 1) hg1 (Nat.le_refl _)); have hP := Lib.hid ho1; have HN := Lib.hid (GeW.row_grown (new1_rowC W _ _ _) hg1 (by simp [Value.ownBlock])); clear ho1 hg1)
         | (refine step_append_row (by rfl) _ _ _ (by rfl) W.heap.size 9 i0 _ 1 16 Tryz.underlying43 ia ib ic id rfl (by omega) _ _ _ (by rfl) (hP.out.alloc _) _ 1 _ [.string OB] (by rfl) (new1_row _ _ _) C2.out.2.2.1 C2.out.2.2.2 C2.out.1 C2.out.2.1 (Below.size (hF1.out.alloc hF1.out.size _)) ?_; intro v2 wb ho2 hg2; have hF2 := Lib.hid (below_append (hF1.out.alloc hF1.out.size _) (Below.size (hF1.out.alloc hF1.out.size _)) (hP.out.alloc _) hg2 (Nat.le_refl _)); have hQ := Lib.hid ho2; clear ho2 hg2)
         | (refine step_append_row (by rfl) _ _ _ (by rfl) W.heap.size 9 i0 _ 1 16 Tryz.underlying43 ia ib ic id rfl (by omega) _ _ _ (by rfl) hP.out _ 1 _ [.string OB] (by rfl) HN.out C2.out.2.2.1 C2.out.2.2.2 C2.out.1 C2.out.2.1 (Below.size hF1.out) ?_; intro v2 wb ho2 hg2; have hF2 := Lib.hid (below_append hF1.out (Below.size hF1.out) hP.out hg2 (Nat.le_refl _)); have hQ := Lib.hid ho2; clear ho2 hg2)
         | (refine step_append_row (by rfl) _ _ _ (by rfl) W.heap.size 9 i0 _ 1 16 Tryz.underlying43 ia ib ic id rfl (by omega) _ _ _ (by rfl) hQ.out _ (acc.length - k) _ ((acc.drop k).flatMap ocCells) (by rfl) (HRD.out.below hF2.out) C3.out.2.2.1 C3.out.2.2.2 C3.out.1 C3.out.2.1 (Below.size hF2.out) ?_; intro v3 wc ho3 hg3; have hF3 := Lib.hid (below_append hF2.out (Below.size hF2.out) hQ.out hg3 (Nat.le_refl _)); have hS := Lib.hid ho3; clear ho3 hg3))
        all_goals
         have HOWN := Lib.hid (own_fit hS.out hbz HL2.out HCN.out)
         have HBEL : Hid (Below b0 w1 wc) := Lib.hid ((HB2.out.trans (hbw.out.mono hz2)).trans (hF3.out.mono hbz))
         clear hS hF3 hF2 hQ hF1 hP b1
         go_wp2
         go_roundw
         case rel => exact ⟨i + 1, _, by omega, by go_num, HNF, HLN, HOWN.out, HBEL.out⟩
         case measure => simp [intOf]; omega
     ·obtain rfl : k = acc.length := by omega
      obtain ⟨acc2, HAC⟩ : ∃ acc2, Hid (acc2 = acc ++ [oz l[i].e]) := ⟨_, Lib.hid rfl⟩
      have HL2 : Hid (0 + acc.length + 1 + 0 = acc2.length) := Lib.hid (by rw [HAC.out]; simp)
      have HLN : Hid (acc2.length ≤ i + 1) := Lib.hid (by rw [← HL2.out]; omega)
      have HNF : Hid (acc2 = Od.nf Od.sl (((l.take (i + 1)).map EntV.e).map oz)) := Lib.hid (by
       rw [HNX.out, HAC.out, ins_new acc (oz l[i].e) acc.length (Nat.le_refl _) (fun j h => (HLT.out j h).2) (fun h => absurd h (Nat.lt_irrefl _)), List.take_length, List.drop_length])
      generalize hM : l[i] = m at *
      simp only [entVals, List.getElem?_cons_zero, List.getElem?_cons_succ] at a1
      generalize hMO : m.e.layer = mo at *

      generalize hOB : (ByteArray.mk mo.toArray) = OB at *
      have HCN : Hid ([] ++ (acc.flatMap ocCells) ++ [.string OB] ++ [] = acc2.flatMap ocCells) := Lib.hid (by rw [HAC.out, ← hOB, ← hMO]; simp [ocCells, oz])
      clear hOB hM hMO HAC HNX
      have dk : decide ((acc.length : Int) < (acc.length : Int)) = false := by simp
      have dk2 : ((acc.length : Int) == (acc.length : Int)) = true := by simp
      have hk0 : (0 : Int) ≤ (acc.length : Int) := by omega
      have hk1 : (acc.length : Int) ≤ (d : Int) := by omega
      have C1 : Hid (0 + acc.length ≤ maxLen ∧ (0 + acc.length) * 16 ≤ 140737488355328 ∧ ((acc.flatMap ocCells)).length = acc.length * 1 ∧ ∀ u ∈ (acc.flatMap ocCells), u.oneCell' = true) := Lib.hid ⟨by unfold maxLen; omega, by omega, by rw [flatMap_len oc_len], oc_cell _⟩
      have C2 : Hid (0 + acc.length + 1 ≤ maxLen ∧ (0 + acc.length + 1) * 16 ≤ 140737488355328 ∧ ([.string OB] : List Value).length = 1 * 1 ∧ ∀ u ∈ ([.string OB] : List Value), u.oneCell' = true) := Lib.hid ⟨by unfold maxLen; omega, by omega, rfl, by intro u hu; simp at hu; rcases hu with rfl; rfl⟩
      have C3 : Hid (0 + acc.length + 1 + 0 ≤ maxLen ∧ (0 + acc.length + 1 + 0) * 16 ≤ 140737488355328 ∧ ([] : List Value).length = 0 * 1 ∧ ∀ u ∈ ([] : List Value), u.oneCell' = true) := Lib.hid ⟨by unfold maxLen; omega, by omega, rfl, by intro u hu; simp at hu⟩
      clear hacc1
      go_wp2_with fail
      go_quiet (fail)
      obtain ⟨na, rfl⟩ : ∃ na : Nat, na = nq := ⟨_, rfl⟩
      go_wp2_with fail
      go_quiet (fail)

      have HRW := Lib.hid (HR3.out.below (below_drewN (below_drewN (Below.refl wr.heap.size wr) na) nq))
      have hbw := Lib.hid (below_drewN (below_drewN hbel na) nq)
      clear hbel
      generalize hW : (wr.drewN na).drewN nq = W at *
      have hgw : g < W.heap.size := by rw [← hW]; exact hg
      have b1 : W.cell? ⟨g, off + i * 14 + 1, none⟩ = some (.string OB) := by rw [← hW]; exact a1
      have hbz : b0 ≤ W.heap.size := by have := hbw.out.size; omega

      clear hW a1 hg
      go_wp2_with fail
      rcases own_cases HO.out with ⟨rfl, hn0, hd0⟩ | ⟨g2, rfl, hg2, hg3⟩
      ·obtain rfl : d = acc.length := by omega
       clear hn0 hd0
       go_region_held3 (fun w' => w'.cell? ⟨g, off + i * 14 + 1, none⟩ = some (.string OB)) (first | go_keep | exact (hF3.out.cell (p := ⟨g, _, none⟩) hgw).trans b1 | exact (hF2.out.cell (p := ⟨g, _, none⟩) hgw).trans b1 | exact (hF1.out.cell (p := ⟨g, _, none⟩) hgw).trans b1 | exact ((hF1.out.alloc hF1.out.size _).cell (p := ⟨g, _, none⟩) hgw).trans b1)
        (first
        | (refine step_append_row (by rfl) _ _ _ (by rfl) W.heap.size 9 i0 _ 1 16 Tryz.underlying43 ia ib ic id rfl (by omega) _ 0 [] (by rfl) ((own_empty W W.heap.size 9 1 (Nat.le_refl _)).drew) _ _ _ (acc.flatMap ocCells) (by rfl) (HRW.out.below (GeW.below_drew (bel1 W (.cells #[] 9)))) C1.out.2.2.1 C1.out.2.2.2 C1.out.1 C1.out.2.1 (by simp <;> omega) ?_; intro v1 wa ho1 hg1; have hF1 := Lib.hid (below_append (GeW.below_drew (bel1 W (.cells #[] 9))) (by simp <;> omega) ((own_empty W W.heap.size 9 1 (Nat.le_refl _)).drew) hg1 (Nat.le_refl _)); have hP := Lib.hid ho1; clear ho1 hg1)
        | (refine step_append_row (by rfl) _ _ _ (by rfl) W.heap.size 9 i0 _ 1 16 Tryz.underlying43 ia ib ic id rfl (by omega) _ 0 [] (by rfl) (((own_empty W W.heap.size 9 1 (Nat.le_refl _)).alloc (.cells #[.string OB] 9)).drew) _ _ _ (acc.flatMap ocCells) (by rfl) (HRW.out.below (GeW.below_drew ((bel1 W (.cells #[] 9)).alloc (by simp) (.cells #[.string OB] 9)))) C1.out.2.2.1 C1.out.2.2.2 C1.out.1 C1.out.2.1 (by simp <;> omega) ?_; intro v1 wa ho1 hg1; have hF1 := Lib.hid (below_append (GeW.below_drew ((bel1 W (.cells #[] 9)).alloc (by simp) (.cells #[.string OB] 9))) (by simp <;> omega) (((own_empty W W.heap.size 9 1 (Nat.le_refl _)).alloc (.cells #[.string OB] 9)).drew) hg1 (Nat.le_refl _)); have hP := Lib.hid ho1; have HN := Lib.hid (GeW.row_grown (new1_rowB W _ _ _) hg1 (by simp [Value.ownBlock])); clear ho1 hg1)
        | (refine step_append_row (by rfl) _ _ _ (by rfl) W.heap.size 9 i0 _ 1 16 Tryz.underlying43 ia ib ic id rfl (by omega) _ 0 [] (by rfl) (own_emptyC W (.cells #[.string OB] 9) 9 1) _ _ _ (acc.flatMap ocCells) (by rfl) (HRW.out.below (GeW.below_drew ((bel1 W (.cells #[.string OB] 9)).alloc (by simp) (.cells #[] 9)))) C1.out.2.2.1 C1.out.2.2.2 C1.out.1 C1.out.2.1 (by simp <;> omega) ?_; intro v1 wa ho1 hg1; have hF1 := Lib.hid (below_append (GeW.below_drew ((bel1 W (.cells #[.string OB] 9)).alloc (by simp) (.cells #[] 9))) (by simp <;> omega) (own_emptyC W (.cells #[.string OB] 9) 9 1) hg1 (Nat.le_refl _)); have hP := Lib.hid ho1; have HN := Lib.hid (GeW.row_grown (new1_rowC W _ _ _) hg1 (by simp [Value.ownBlock])); clear ho1 hg1)
        | (refine step_append_row (by rfl) _ _ _ (by rfl) W.heap.size 9 i0 _ 1 16 Tryz.underlying43 ia ib ic id rfl (by omega) _ _ _ (by rfl) (hP.out.alloc _) _ 1 _ [.string OB] (by rfl) (new1_row _ _ _) C2.out.2.2.1 C2.out.2.2.2 C2.out.1 C2.out.2.1 (Below.size (hF1.out.alloc hF1.out.size _)) ?_; intro v2 wb ho2 hg2; have hF2 := Lib.hid (below_append (hF1.out.alloc hF1.out.size _) (Below.size (hF1.out.alloc hF1.out.size _)) (hP.out.alloc _) hg2 (Nat.le_refl _)); have hQ := Lib.hid ho2; clear ho2 hg2)
        | (refine step_append_row (by rfl) _ _ _ (by rfl) W.heap.size 9 i0 _ 1 16 Tryz.underlying43 ia ib ic id rfl (by omega) _ _ _ (by rfl) hP.out _ 1 _ [.string OB] (by rfl) HN.out C2.out.2.2.1 C2.out.2.2.2 C2.out.1 C2.out.2.1 (Below.size hF1.out) ?_; intro v2 wb ho2 hg2; have hF2 := Lib.hid (below_append hF1.out (Below.size hF1.out) hP.out hg2 (Nat.le_refl _)); have hQ := Lib.hid ho2; clear ho2 hg2)
        | (refine step_append_row (by rfl) _ _ _ (by rfl) W.heap.size 9 i0 _ 1 16 Tryz.underlying43 ia ib ic id rfl (by omega) _ _ _ (by rfl) hQ.out _ 0 _ [] (by rfl) (Row.nil _ _) C3.out.2.2.1 C3.out.2.2.2 C3.out.1 C3.out.2.1 (Below.size hF2.out) ?_; intro v3 wc ho3 hg3; have hF3 := Lib.hid (below_append hF2.out (Below.size hF2.out) hQ.out hg3 (Nat.le_refl _)); have hS := Lib.hid ho3; clear ho3 hg3))
       all_goals
        have HOWN := Lib.hid (own_fit hS.out hbz HL2.out HCN.out)
        have HBEL : Hid (Below b0 w1 wc) := Lib.hid ((HB2.out.trans (hbw.out.mono hz2)).trans (hF3.out.mono hbz))
        clear hS hF3 hF2 hQ hF1 hP b1
        go_wp2
        go_roundw
        case rel => exact ⟨i + 1, _, by omega, by go_num, HNF, HLN, HOWN.out, HBEL.out⟩
        case measure => simp [intOf]; omega
      ·clear hg2 hg3
       by_cases hda : d = acc.length
       ·subst hda
        go_region_held3 (fun w' => w'.cell? ⟨g, off + i * 14 + 1, none⟩ = some (.string OB)) (first | go_keep | exact (hF3.out.cell (p := ⟨g, _, none⟩) hgw).trans b1 | exact (hF2.out.cell (p := ⟨g, _, none⟩) hgw).trans b1 | exact (hF1.out.cell (p := ⟨g, _, none⟩) hgw).trans b1 | exact ((hF1.out.alloc hF1.out.size _).cell (p := ⟨g, _, none⟩) hgw).trans b1)
         (first
         | (refine step_append_row (by rfl) _ _ _ (by rfl) W.heap.size 9 i0 _ 1 16 Tryz.underlying43 ia ib ic id rfl (by omega) _ 0 [] (by rfl) ((own_empty W W.heap.size 9 1 (Nat.le_refl _)).drew) _ _ _ (acc.flatMap ocCells) (by rfl) (HRW.out.below (GeW.below_drew (bel1 W (.cells #[] 9)))) C1.out.2.2.1 C1.out.2.2.2 C1.out.1 C1.out.2.1 (by simp <;> omega) ?_; intro v1 wa ho1 hg1; have hF1 := Lib.hid (below_append (GeW.below_drew (bel1 W (.cells #[] 9))) (by simp <;> omega) ((own_empty W W.heap.size 9 1 (Nat.le_refl _)).drew) hg1 (Nat.le_refl _)); have hP := Lib.hid ho1; clear ho1 hg1)
         | (refine step_append_row (by rfl) _ _ _ (by rfl) W.heap.size 9 i0 _ 1 16 Tryz.underlying43 ia ib ic id rfl (by omega) _ 0 [] (by rfl) (((own_empty W W.heap.size 9 1 (Nat.le_refl _)).alloc (.cells #[.string OB] 9)).drew) _ _ _ (acc.flatMap ocCells) (by rfl) (HRW.out.below (GeW.below_drew ((bel1 W (.cells #[] 9)).alloc (by simp) (.cells #[.string OB] 9)))) C1.out.2.2.1 C1.out.2.2.2 C1.out.1 C1.out.2.1 (by simp <;> omega) ?_; intro v1 wa ho1 hg1; have hF1 := Lib.hid (below_append (GeW.below_drew ((bel1 W (.cells #[] 9)).alloc (by simp) (.cells #[.string OB] 9))) (by simp <;> omega) (((own_empty W W.heap.size 9 1 (Nat.le_refl _)).alloc (.cells #[.string OB] 9)).drew) hg1 (Nat.le_refl _)); have hP := Lib.hid ho1; have HN := Lib.hid (GeW.row_grown (new1_rowB W _ _ _) hg1 (by simp [Value.ownBlock])); clear ho1 hg1)
         | (refine step_append_row (by rfl) _ _ _ (by rfl) W.heap.size 9 i0 _ 1 16 Tryz.underlying43 ia ib ic id rfl (by omega) _ 0 [] (by rfl) (own_emptyC W (.cells #[.string OB] 9) 9 1) _ _ _ (acc.flatMap ocCells) (by rfl) (HRW.out.below (GeW.below_drew ((bel1 W (.cells #[.string OB] 9)).alloc (by simp) (.cells #[] 9)))) C1.out.2.2.1 C1.out.2.2.2 C1.out.1 C1.out.2.1 (by simp <;> omega) ?_; intro v1 wa ho1 hg1; have hF1 := Lib.hid (below_append (GeW.below_drew ((bel1 W (.cells #[.string OB] 9)).alloc (by simp) (.cells #[] 9))) (by simp <;> omega) (own_emptyC W (.cells #[.string OB] 9) 9 1) hg1 (Nat.le_refl _)); have hP := Lib.hid ho1; have HN := Lib.hid (GeW.row_grown (new1_rowC W _ _ _) hg1 (by simp [Value.ownBlock])); clear ho1 hg1)
         | (refine step_append_row (by rfl) _ _ _ (by rfl) W.heap.size 9 i0 _ 1 16 Tryz.underlying43 ia ib ic id rfl (by omega) _ _ _ (by rfl) (hP.out.alloc _) _ 1 _ [.string OB] (by rfl) (new1_row _ _ _) C2.out.2.2.1 C2.out.2.2.2 C2.out.1 C2.out.2.1 (Below.size (hF1.out.alloc hF1.out.size _)) ?_; intro v2 wb ho2 hg2; have hF2 := Lib.hid (below_append (hF1.out.alloc hF1.out.size _) (Below.size (hF1.out.alloc hF1.out.size _)) (hP.out.alloc _) hg2 (Nat.le_refl _)); have hQ := Lib.hid ho2; clear ho2 hg2)
         | (refine step_append_row (by rfl) _ _ _ (by rfl) W.heap.size 9 i0 _ 1 16 Tryz.underlying43 ia ib ic id rfl (by omega) _ _ _ (by rfl) hP.out _ 1 _ [.string OB] (by rfl) HN.out C2.out.2.2.1 C2.out.2.2.2 C2.out.1 C2.out.2.1 (Below.size hF1.out) ?_; intro v2 wb ho2 hg2; have hF2 := Lib.hid (below_append hF1.out (Below.size hF1.out) hP.out hg2 (Nat.le_refl _)); have hQ := Lib.hid ho2; clear ho2 hg2)
         | (refine step_append_row (by rfl) _ _ _ (by rfl) W.heap.size 9 i0 _ 1 16 Tryz.underlying43 ia ib ic id rfl (by omega) _ _ _ (by rfl) hQ.out _ 0 _ [] (by rfl) (Row.nil _ _) C3.out.2.2.1 C3.out.2.2.2 C3.out.1 C3.out.2.1 (Below.size hF2.out) ?_; intro v3 wc ho3 hg3; have hF3 := Lib.hid (below_append hF2.out (Below.size hF2.out) hQ.out hg3 (Nat.le_refl _)); have hS := Lib.hid ho3; clear ho3 hg3))
        all_goals
         have HOWN := Lib.hid (own_fit hS.out hbz HL2.out HCN.out)
         have HBEL : Hid (Below b0 w1 wc) := Lib.hid ((HB2.out.trans (hbw.out.mono hz2)).trans (hF3.out.mono hbz))
         clear hS hF3 hF2 hQ hF1 hP b1
         go_wp2
         go_roundw
         case rel => exact ⟨i + 1, _, by omega, by go_num, HNF, HLN, HOWN.out, HBEL.out⟩
         case measure => simp [intOf]; omega
       ·
        go_region_held3 (fun w' => w'.cell? ⟨g, off + i * 14 + 1, none⟩ = some (.string OB)) (first | go_keep | exact (hF3.out.cell (p := ⟨g, _, none⟩) hgw).trans b1 | exact (hF2.out.cell (p := ⟨g, _, none⟩) hgw).trans b1 | exact (hF1.out.cell (p := ⟨g, _, none⟩) hgw).trans b1 | exact ((hF1.out.alloc hF1.out.size _).cell (p := ⟨g, _, none⟩) hgw).trans b1)
         (first
         | (refine step_append_row (by rfl) _ _ _ (by rfl) W.heap.size 9 i0 _ 1 16 Tryz.underlying43 ia ib ic id rfl (by omega) _ 0 [] (by rfl) ((own_empty W W.heap.size 9 1 (Nat.le_refl _)).drew) _ _ _ (acc.flatMap ocCells) (by rfl) (HRW.out.below (GeW.below_drew (bel1 W (.cells #[] 9)))) C1.out.2.2.1 C1.out.2.2.2 C1.out.1 C1.out.2.1 (by simp <;> omega) ?_; intro v1 wa ho1 hg1; have hF1 := Lib.hid (below_append (GeW.below_drew (bel1 W (.cells #[] 9))) (by simp <;> omega) ((own_empty W W.heap.size 9 1 (Nat.le_refl _)).drew) hg1 (Nat.le_refl _)); have hP := Lib.hid ho1; clear ho1 hg1)
         | (refine step_append_row (by rfl) _ _ _ (by rfl) W.heap.size 9 i0 _ 1 16 Tryz.underlying43 ia ib ic id rfl (by omega) _ 0 [] (by rfl) (((own_empty W W.heap.size 9 1 (Nat.le_refl _)).alloc (.cells #[.string OB] 9)).drew) _ _ _ (acc.flatMap ocCells) (by rfl) (HRW.out.below (GeW.below_drew ((bel1 W (.cells #[] 9)).alloc (by simp) (.cells #[.string OB] 9)))) C1.out.2.2.1 C1.out.2.2.2 C1.out.1 C1.out.2.1 (by simp <;> omega) ?_; intro v1 wa ho1 hg1; have hF1 := Lib.hid (below_append (GeW.below_drew ((bel1 W (.cells #[] 9)).alloc (by simp) (.cells #[.string OB] 9))) (by simp <;> omega) (((own_empty W W.heap.size 9 1 (Nat.le_refl _)).alloc (.cells #[.string OB] 9)).drew) hg1 (Nat.le_refl _)); have hP := Lib.hid ho1; have HN := Lib.hid (GeW.row_grown (new1_rowB W _ _ _) hg1 (by simp [Value.ownBlock])); clear ho1 hg1)
         | (refine step_append_row (by rfl) _ _ _ (by rfl) W.heap.size 9 i0 _ 1 16 Tryz.underlying43 ia ib ic id rfl (by omega) _ 0 [] (by rfl) (own_emptyC W (.cells #[.string OB] 9) 9 1) _ _ _ (acc.flatMap ocCells) (by rfl) (HRW.out.below (GeW.below_drew ((bel1 W (.cells #[.string OB] 9)).alloc (by simp) (.cells #[] 9)))) C1.out.2.2.1 C1.out.2.2.2 C1.out.1 C1.out.2.1 (by simp <;> omega) ?_; intro v1 wa ho1 hg1; have hF1 := Lib.hid (below_append (GeW.below_drew ((bel1 W (.cells #[.string OB] 9)).alloc (by simp) (.cells #[] 9))) (by simp <;> omega) (own_emptyC W (.cells #[.string OB] 9) 9 1) hg1 (Nat.le_refl _)); have hP := Lib.hid ho1; have HN := Lib.hid (GeW.row_grown (new1_rowC W _ _ _) hg1 (by simp [Value.ownBlock])); clear ho1 hg1)
         | (refine step_append_row (by rfl) _ _ _ (by rfl) W.heap.size 9 i0 _ 1 16 Tryz.underlying43 ia ib ic id rfl (by omega) _ _ _ (by rfl) (hP.out.alloc _) _ 1 _ [.string OB] (by rfl) (new1_row _ _ _) C2.out.2.2.1 C2.out.2.2.2 C2.out.1 C2.out.2.1 (Below.size (hF1.out.alloc hF1.out.size _)) ?_; intro v2 wb ho2 hg2; have hF2 := Lib.hid (below_append (hF1.out.alloc hF1.out.size _) (Below.size (hF1.out.alloc hF1.out.size _)) (hP.out.alloc _) hg2 (Nat.le_refl _)); have hQ := Lib.hid ho2; clear ho2 hg2)
         | (refine step_append_row (by rfl) _ _ _ (by rfl) W.heap.size 9 i0 _ 1 16 Tryz.underlying43 ia ib ic id rfl (by omega) _ _ _ (by rfl) hP.out _ 1 _ [.string OB] (by rfl) HN.out C2.out.2.2.1 C2.out.2.2.2 C2.out.1 C2.out.2.1 (Below.size hF1.out) ?_; intro v2 wb ho2 hg2; have hF2 := Lib.hid (below_append hF1.out (Below.size hF1.out) hP.out hg2 (Nat.le_refl _)); have hQ := Lib.hid ho2; clear ho2 hg2)
         | (refine step_append_row (by rfl) _ _ _ (by rfl) W.heap.size 9 i0 _ 1 16 Tryz.underlying43 ia ib ic id rfl (by omega) _ _ _ (by rfl) hQ.out _ 0 _ [] (by rfl) (Row.nil _ _) C3.out.2.2.1 C3.out.2.2.2 C3.out.1 C3.out.2.1 (Below.size hF2.out) ?_; intro v3 wc ho3 hg3; have hF3 := Lib.hid (below_append hF2.out (Below.size hF2.out) hQ.out hg3 (Nat.le_refl _)); have hS := Lib.hid ho3; clear ho3 hg3))
        all_goals
         have HOWN := Lib.hid (own_fit hS.out hbz HL2.out HCN.out)
         have HBEL : Hid (Below b0 w1 wc) := Lib.hid ((HB2.out.trans (hbw.out.mono hz2)).trans (hF3.out.mono hbz))
         clear hS hF3 hF2 hQ hF1 hP b1
         go_wp2
         go_roundw
         case rel => exact ⟨i + 1, _, by omega, by go_num, HNF, HLN, HOWN.out, HBEL.out⟩
         case measure => simp [intOf]; omega
   ·obtain rfl : i = l.length := by omega
    have HAA : Hid (lays (l.map EntV.e) = acc) := Lib.hid (by rw [HA.out, List.take_length]; exact HD.out)
    obtain ⟨B, d, rfl, hnd⟩ := own_shape hown0
    have HRO := Lib.hid (Row.of_own hown0)
    have HBF : Hid (Below w1.heap.size w1 wr) := Lib.hid (by rw [hb0]; exact hbel0)
    clear hown0 hbel0
    go_wp2_with fail
    go_ret
    rw [HAA.out]
    exact ⟨B, d, rfl, HRO.out, HBF.out⟩
 ·rw [show drawOk (l.map EntV.e) = false by simpa using hv] at HV
  have HN := Lib.hid (show lays (l.map EntV.e) = [] by unfold lays; rw [if_neg hv])
  clear hv
  go_enter Tryz.func19, Tryz.ntmps19
  go_wp2
  go_loopw [3, 4] (fun v t wr => v = .slice none 0 0 ∧ t = .int .i64 (0 : Nat) ∧ Below w.heap.size w wr) (fun _ _ _ => 0)
  case atStart => exact ⟨rfl, rfl, Below.refl _ _⟩
  case round =>
   obtain ⟨rfl, rfl, hbel⟩ := hrel
   have HKB := Lib.hid (HK0.out.below hbel)
   have HBB := Lib.hid hbel
   clear hbel
   by_cases hlt : 0 < l.length
   ·go_wp2_with fail
    refine (HV.out _ HKB.out).mono ?_
    rintro e w2 ⟨rfl, hb⟩
    have HB2 := Lib.hid (HBB.out.trans (hb.mono HBB.out.size))
    clear hb
    go_wp2_with fail
    go_ret
    rw [HN.out]
    exact ⟨none, 0, rfl, Row.nil _ _, HB2.out⟩
   ·have h0 : (l.length : Int) = 0 := by omega
    have HB2 := HBB
    go_wp2_with fail
    go_ret
    rw [HN.out]
    exact ⟨none, 0, rfl, Row.nil _ _, HB2.out⟩
end Go.Proofs.YtnmmhcchpcbeeaaGreatDoor.GtW
