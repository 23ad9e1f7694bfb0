/- Walks: how two segments meet; whether a ring is valid. Conditions: the points lie in memory. -/
import Derived.Test.YtnmmhcchpcbeeaaGreatGeMe
import Derived.Test.YtnmmhcchpcbeeaaGreatGeH
import Derived.Deep.CutRange
import Derived.Test.YtnmmhcchpcbeeaaGreatLater

namespace Go.Proofs.YtnmmhcchpcbeeaaGreat.Ge
def bentAt (r : List V) (i : Nat) : Bool := decide (turn (lst r i) (r.getD i (0, 0)) (nxt r i) ≠ 0)
def edgeAt (r : List V) (i : Nat) : S := (r.getD i (0, 0), nxt r i)
theorem edgesN_get {l : List V} {i : Nat} (h : i < l.length) : (edgesN l l.length)[i]'(by rw [edgesN_len]; exact h) = edgeAt l i := by simp [edgesN, edgeAt]
def pairAt (r : List V) (i : Nat) : Bool := allFrom (loose r i) (r.length - (i + 1)) (i + 1)
theorem ringB_from (r : List V) : ringB r = (decide (3 ≤ r.length) && (decide (r.length ≤ 40) && (near r && (decide (0 < area r) && (allFrom (bentAt r) r.length 0 && allFrom (pairAt r) r.length 0))))) := by
  unfold ringB bent
  rw [all_range, all_range]
  have h : allFrom (fun i => (List.range r.length).all fun k => !decide (i < k) || loose r i k) r.length 0 = allFrom (pairAt r) r.length 0 := by
    refine allFrom_congr (fun i _ hi => ?_)
    unfold pairAt
    rw [Bool.eq_iff_iff, all_range, allFrom_iff, allFrom_iff]
    constructor
    · intro h k h1 h2
      have := h k (Nat.zero_le _) (by omega)
      simpa [show i < k by omega] using this
    · intro h k _ h2
      by_cases c : i < k
      · have := h k (by omega) (by omega)
        simp [this]
      · simp [c]
  rw [h]
  rfl
end Go.Proofs.YtnmmhcchpcbeeaaGreat.Ge
namespace Go.Proofs.YtnmmhcchpcbeeaaGreat.GeW
open Go Go.RowKit Go.Proofs.YtnmmhcchpcbeeaaGreat.Mem Go.Proofs.YtnmmhcchpcbeeaaGreat.Ge
attribute [local go_sem ↓] Go.wp_at_zero Go.wp_at_succ
set_option maxRecDepth 100000 in
theorem Meet_any (ax ay bx b_y cx cy dx dy : Int) (w : World) :
    Calls Tryz.prog 112 #[.agg #[.int .i64 ax, .int .i64 ay, .int .i64 bx, .int .i64 b_y], .agg #[.int .i64 cx, .int .i64 cy, .int .i64 dx, .int .i64 dy]] w fun e w' => e = .returned (.int .i64 (meetK ((ax, ay), (bx, b_y)) ((cx, cy), (dx, dy)))) ∧ Below w.heap.size w w' := by
  have HM := Lib.hid (fun W => meet_any ax ay bx b_y cx cy dx dy W)
  have HX := Lib.hid (two_vecs w (.cells #[.int .i64 ax, .int .i64 ay, .int .i64 bx, .int .i64 b_y] 74) (.cells #[.int .i64 cx, .int .i64 cy, .int .i64 dx, .int .i64 dy] 74))
  have HB := Lib.hid (((Below.refl w.heap.size w).alloc (Nat.le_refl _) (.cells #[.int .i64 ax, .int .i64 ay, .int .i64 bx, .int .i64 b_y] 74)).alloc (by simp) (.cells #[.int .i64 cx, .int .i64 cy, .int .i64 dx, .int .i64 dy] 74))
  generalize meetK ((ax, ay), (bx, b_y)) ((cx, cy), (dx, dy)) = k at *
  go_enter Tryz.func112, Tryz.ntmps112
  go_wp2_with fail
  refine (HM.out _).mono ?_
  rintro e w1 ⟨⟨_, rfl, k1, k2, k3, k4, k5, k6, k7, rfl⟩, hb⟩
  have hf : ∀ W : World, (Instr.field 160 (.agg #[.int .i64 k, .int .i64 k1, .int .i64 k2, .int .i64 k3, .int .i64 k4, .int .i64 k5, .int .i64 k6, .int .i64 k7]) 0).run Tryz.prog W = .ok (.int .i64 k) W := fun W => by kernel_rfl
  go_wp2
  go_ret
  exact ⟨rfl, HB.out.trans (hb.mono (Below.size HB.out))⟩
set_option maxRecDepth 100000 in
set_option maxHeartbeats 8000000 in
theorem ring_any (l : List V) (A : Option Addr) (c : Nat) (w : World) (hr : Row w A (l.flatMap ptCells)) (hl : l.length ≤ 17592186043904) :
    Calls Tryz.prog 71 #[.slice A l.length c] w fun e w' => e = .returned (.bool (ringB l)) ∧ Below w.heap.size w w' := by
  have HR := Lib.hid hr
  have HNR := Lib.hid (near_any l A c w hr hl)
  clear hr
  by_cases h3 : 3 ≤ l.length
  case neg =>
    have HV : Hid (ringB l = false) := Lib.hid (by rw [ringB_from]; simp [h3])
    have d1 : decide ((l.length : Int) < 3) = true := decide_eq_true (by omega)
    clear h3 HNR
    go_enter Tryz.func71, Tryz.ntmps71
    go_wp2
    go_ret
    rw [HV.out]
    exact ⟨rfl, Below.refl _ _⟩
  have d1 : decide ((l.length : Int) < 3) = false := decide_eq_false (by omega)
  by_cases h40 : l.length ≤ 40
  case neg =>
    have HV : Hid (ringB l = false) := Lib.hid (by rw [ringB_from]; simp [h40])
    have d2 : decide (40 < (l.length : Int)) = true := decide_eq_true (by omega)
    clear h3 h40 HNR
    go_enter Tryz.func71, Tryz.ntmps71
    go_wp2
    go_ret
    rw [HV.out]
    exact ⟨rfl, Below.refl _ _⟩
  have d2 : decide (40 < (l.length : Int)) = false := decide_eq_false (by omega)
  cases hn : near l
  case false =>
    have HV : Hid (ringB l = false) := Lib.hid (by rw [ringB_from, hn]; simp)
    rw [hn] at HNR
    clear h3 h40 hn
    go_enter Tryz.func71, Tryz.ntmps71
    go_wp2_with fail
    refine (HNR.out).mono ?_
    rintro en1 w1 ⟨rfl, hb1⟩
    go_wp2
    go_ret
    rw [HV.out]
    exact ⟨rfl, hb1⟩
  have HN := Lib.hid hn
  have HAR := Lib.hid (fun W (hW : Below w.heap.size w W) => area_any l A c W (HR.out.below hW) (by omega) hn)
  rw [hn] at HNR
  clear hn
  by_cases ha : 0 < area l
  case neg =>
    have HV : Hid (ringB l = false) := Lib.hid (by rw [ringB_from]; simp [ha])
    have d3 : decide (area l ≤ 0) = true := decide_eq_true (by omega)
    clear ha h3 h40
    generalize area l = a at *
    go_enter Tryz.func71, Tryz.ntmps71
    go_wp2_with fail
    refine (HNR.out).mono ?_
    rintro en1 w1 ⟨rfl, hb1⟩
    go_wp2_with fail
    refine (HAR.out _ hb1).mono ?_
    rintro en2 w2 ⟨rfl, hb20⟩
    have hb2 := hb1.trans (hb20.mono (Below.size hb1))
    go_wp2
    go_ret
    rw [HV.out]
    exact ⟨rfl, hb2⟩
  have d3 : decide (area l ≤ 0) = false := decide_eq_false (by omega)
  have HV : Hid (ringB l = (allFrom (bentAt l) l.length 0 && allFrom (pairAt l) l.length 0)) := Lib.hid (by rw [ringB_from, HN.out]; simp [h3, h40, ha])
  have HED := Lib.hid (fun W (hW : Below w.heap.size w W) => edges_any l A c W (HR.out.below hW) (by omega) (by omega))
  clear ha
  generalize area l = a at *
  go_enter Tryz.func71, Tryz.ntmps71
  go_wp2_with fail
  refine (HNR.out).mono ?_
  rintro en1 w1 ⟨rfl, hb1⟩
  go_wp2_with fail
  refine (HAR.out _ hb1).mono ?_
  rintro en2 w2 ⟨rfl, hb20⟩
  have hb2 := hb1.trans (hb20.mono (Below.size hb1))
  have HB2 := Lib.hid hb2
  clear hb1 hb2 hb20 HNR HAR
  go_wp2
  go_loopw [4, 5, 29] (fun _ _ i wr => ∃ k : Nat, i = .int .i64 (k : Int) ∧ k ≤ l.length ∧ Hid (allFrom (bentAt l) l.length 0 = allFrom (bentAt l) (l.length - k) k) ∧ Hid (Below w.heap.size w wr)) (fun _ _ i _ => l.length - (intOf i).toNat)
  case atStart => exact ⟨0, rfl, Nat.zero_le _, Lib.hid rfl, HB2⟩
  case round =>
    obtain ⟨k, rfl, hk, HD, HB⟩ := hrel
    by_cases hlt : k < l.length
    · have HD1 : Hid (allFrom (bentAt l) l.length 0 = (bentAt l k && allFrom (bentAt l) (l.length - (k + 1)) (k + 1))) := Lib.hid (by rw [HD.out, allFrom_step hlt])
      have h1 := near_get HN.out hlt
      have h2 := near_get HN.out (Nat.mod_lt (k + 1) (show 0 < l.length by omega))
      have h3' := near_get HN.out (Nat.mod_lt (k + l.length - 1) (show 0 < l.length by omega))
      rw [← nxt_get (show 0 < l.length by omega)] at h2
      rw [← lst_get (show 0 < l.length by omega)] at h3'
      obtain ⟨g, off, rfl, hg, hc⟩ := row_get pt_len (by decide) HR.out (by omega)
      have a0 := (HB.out.cell (p := ⟨g, off + k * 2, none⟩) hg).trans (hc k hlt 0 (by decide))
      have a1 := (HB.out.cell (p := ⟨g, off + k * 2 + 1, none⟩) hg).trans (hc k hlt 1 (by decide))
      have HQ : Hid (bentAt l k = decide (turn (lst l k) l[k] (nxt l k) ≠ 0)) := Lib.hid (by unfold bentAt; rw [List.getD_eq_getElem?_getD, List.getElem?_eq_getElem hlt]; rfl)
      have HNX := Lib.hid (fun W (hW : Below w.heap.size w W) => next_any l k (some ⟨g, off, none⟩) c W (HR.out.below hW) hlt (by omega))
      have HLA := Lib.hid (fun W (hW : Below w.heap.size w W) => last_any l k (some ⟨g, off, none⟩) c W (HR.out.below hW) hlt (by omega))
      clear hc
      generalize l[k] = q at *
      obtain ⟨qx, qy⟩ := q
      simp only [ptCells, List.getElem?_cons_zero, List.getElem?_cons_succ] at a0 a1
      generalize nxt l k = p at *
      obtain ⟨px, py⟩ := p
      generalize lst l k = r at *
      obtain ⟨rx, ry⟩ := r
      simp only at h1 h2 h3'
      have HTU := Lib.hid (fun W => turn_any rx ry qx qy px py W (by omega) (by omega) (by omega) (by omega) (by omega) (by omega))
      clear h1 h2 h3'
      generalize bentAt l k = nb at *
      generalize turn (rx, ry) (qx, qy) (px, py) = tn at *
      have HO := Lib.hid (one_vec wr (.cells #[.int .i64 qx, .int .i64 qy] 53))
      go_upto_region 7 with fail
      generalize wr.alloc (.cells #[.int .i64 qx, .int .i64 qy] 53) = W at *
      have HBW := Lib.hid (HB.out.trans (HO.out.1.mono (Below.size HB.out)))
      have CS : Hid (∀ w', Below W.heap.size W w' → w'.cell? ⟨wr.heap.size, 0, none⟩ = some (.int .i64 qx) ∧ w'.cell? ⟨wr.heap.size, 1, none⟩ = some (.int .i64 qy) ∧ Below W.heap.size W w') := Lib.hid (fun w' hb => by
        obtain ⟨a0, a1⟩ := pair_at HO.out.2 hb
        exact ⟨a0, a1, hb⟩)
      obtain ⟨q0, q1, q2⟩ := CS.out W (Below.refl _ _)
      clear a0 a1
      go_region_held3 (fun w' => w'.cell? ⟨wr.heap.size, 0, none⟩ = some (.int .i64 qx) ∧ w'.cell? ⟨wr.heap.size, 1, none⟩ = some (.int .i64 qy) ∧ Below W.heap.size W w')
        (first | assumption | exact CS.out _ (by (repeat (with_reducible first | assumption | exact Below.refl _ _ | refine below_drew ?_ | refine bel_alloc ?_ _ | (refine bel_set ?_ (by simp <;> omega) _)))))
        (first
         | (go_at_call 131; obtain ⟨_, _, hbx⟩ := ‹_ ∧ _ ∧ Below _ _ _›; refine (HLA.out _ (HBW.out.trans (hbx.mono (Below.size HBW.out)))).mono ?_; rintro en5 w5 ⟨rfl, hb50⟩; have hb5 : Below W.heap.size W w5 := hbx.trans (hb50.mono (Below.size hbx)))
         | (go_at_call 132; refine (HNX.out _ (HBW.out.trans (hb5.mono (Below.size HBW.out)))).mono ?_; rintro en6 w6 ⟨rfl, hb60⟩; have hb6 : Below W.heap.size W w6 := hb5.trans (hb60.mono (Below.size hb5)))
         | (go_at_call 130; refine (HTU.out _).mono ?_; rintro en7 w7 ⟨rfl, hb70⟩; have hb7 : Below W.heap.size W w7 := hb6.trans (hb70.mono (Below.size hb6))))
      have HB7 := Lib.hid (HBW.out.trans (hb7.mono (Below.size HBW.out)))
      clear q0 q1 q2 hb5 hb6 hb7
      by_cases ht : tn = 0
      · have t1 : (tn == 0) = true := beq_iff_eq.2 ht
        have t2 : (tn = 0) = True := eq_true ht
        have HNB : Hid (nb = false) := Lib.hid (by rw [HQ.out, ht]; rfl)
        clear ht
        go_wp2
        go_ret
        rw [HV.out, HD1.out, HNB.out]
        exact ⟨rfl, HB7.out⟩
      · have t1 : (tn == 0) = false := beq_eq_false_iff_ne.2 ht
        have t2 : (tn = 0) = False := eq_false ht
        have HNB : Hid (nb = true) := Lib.hid (by rw [HQ.out]; simp [ht])
        clear ht
        go_wp2
        go_roundw
        case rel => exact ⟨k + 1, by go_num, by omega, Lib.hid (by rw [HD1.out, HNB.out]; rfl), HB7⟩
        case measure => simp [intOf]; omega
    · have hk2 : k = l.length := by omega
      subst hk2
      have HV2 : Hid (ringB l = allFrom (pairAt l) l.length 0) := Lib.hid (by rw [HV.out, HD.out, allFrom_end]; rfl)
      clear HV HD HB2
      go_wp2_with fail
      refine (HED.out _ HB.out).mono ?_
      rintro en8 w8 ⟨v, rfl, hown, hb8⟩
      have HB8 := Lib.hid (HB.out.trans (hb8.mono (Below.size HB.out)))
      have HOW := Lib.hid hown
      have hz8 := Below.size HB8.out
      clear hown hb8 HED
      obtain ⟨ge, ce, rfl, hce, hge, hgw, hcell⟩ := own_get seg_len (edgesN_len l l.length).symm HOW.out (by omega)
      have HCE := Lib.hid hcell
      clear hcell
      go_wp2
      go_loopw [7, 8, 47] (fun _ _ i wr => ∃ k : Nat, i = .int .i64 (k : Int) ∧ k ≤ l.length ∧ Hid (allFrom (pairAt l) l.length 0 = allFrom (pairAt l) (l.length - k) k) ∧ Hid (Below w8.heap.size w8 wr)) (fun _ _ i _ => l.length - (intOf i).toNat)
      case atStart => exact ⟨0, rfl, Nat.zero_le _, Lib.hid rfl, Lib.hid (Below.refl _ _)⟩
      case round =>
        obtain ⟨i, rfl, hi, HDI, HBI⟩ := hrel
        by_cases hlt : i < l.length
        · have HD2 : Hid (allFrom (pairAt l) l.length 0 = (pairAt l i && allFrom (pairAt l) (l.length - (i + 1)) (i + 1))) := Lib.hid (by rw [HDI.out, allFrom_step hlt])
          go_wp2
          go_loopw [8] (fun k wr => ∃ j : Nat, k = .int .i64 (j : Int) ∧ i + 1 ≤ j ∧ j ≤ l.length ∧ Hid (pairAt l i = allFrom (loose l i) (l.length - j) j) ∧ Hid (Below w8.heap.size w8 wr)) (fun k _ => l.length - (intOf k).toNat)
          case atStart => exact ⟨i + 1, by go_num, Nat.le_refl _, hlt, Lib.hid rfl, HBI⟩
          case round =>
            obtain ⟨j, rfl, hij, hj, HDJ, HBJ⟩ := hrel
            by_cases hjl : j < l.length
            · have HD3 : Hid (pairAt l i = (loose l i j && allFrom (loose l i) (l.length - (j + 1)) (j + 1))) := Lib.hid (by rw [HDJ.out, allFrom_step hjl])
              go_upto_region 17 with fail
              by_cases c1 : j = i + 1
              · have e1 : ((j : Int) == (i : Int) + 1) = true := beq_iff_eq.2 (by omega)
                have e2 : ((j : Int) = (i : Int) + 1) = True := eq_true (by omega)
                have e3 : ((j : Int) != (i : Int) + 1) = false := bne_eq_false_iff_eq.2 (by omega)
                have e4 : (j == i + 1) = true := beq_iff_eq.2 (by omega)
                have e5 : (j = i + 1) = True := eq_true (by omega)
                have HL : Hid (loose l i j = true) := Lib.hid (by unfold loose; simp [c1])
                clear c1
                go_quiet (fail)
                go_wp2
                go_roundw
                case rel => exact ⟨j + 1, by go_num, by omega, by omega, Lib.hid (by rw [HD3.out, HL.out]; rfl), Lib.hid (Mem.below_drewN HBJ.out _)⟩
                case measure => simp [intOf]; omega
              · have e3 : ((j : Int) != (i : Int) + 1) = true := bne_iff_ne.2 (by omega)
                have hk1 : edgeAt l i = (l.getD i (0, 0), nxt l i) := rfl
                have EI : ∀ p : Later wr, p.w.cell? ⟨ge, i * 4, none⟩ = some (.int .i64 (edgeAt l i).1.1) ∧ p.w.cell? ⟨ge, i * 4 + 1, none⟩ = some (.int .i64 (edgeAt l i).1.2) ∧ p.w.cell? ⟨ge, i * 4 + 2, none⟩ = some (.int .i64 (edgeAt l i).2.1) ∧ p.w.cell? ⟨ge, i * 4 + 3, none⟩ = some (.int .i64 (edgeAt l i).2.2) := fun p => by
                  have hb := HBJ.out.trans (p.h.mono HBJ.out.size)
                  have h := fun a ha => (hb.cell (p := ⟨ge, i * 4 + a, none⟩) hgw).trans (HCE.out i (by rw [edgesN_len]; exact hlt) a ha)
                  rw [edgesN_get hlt] at h
                  exact ⟨h 0 (by decide), h 1 (by decide), h 2 (by decide), h 3 (by decide)⟩
                have EJ : ∀ p : Later wr, p.w.cell? ⟨ge, j * 4, none⟩ = some (.int .i64 (edgeAt l j).1.1) ∧ p.w.cell? ⟨ge, j * 4 + 1, none⟩ = some (.int .i64 (edgeAt l j).1.2) ∧ p.w.cell? ⟨ge, j * 4 + 2, none⟩ = some (.int .i64 (edgeAt l j).2.1) ∧ p.w.cell? ⟨ge, j * 4 + 3, none⟩ = some (.int .i64 (edgeAt l j).2.2) := fun p => by
                  have hb := HBJ.out.trans (p.h.mono HBJ.out.size)
                  have h := fun a ha => (hb.cell (p := ⟨ge, j * 4 + a, none⟩) hgw).trans (HCE.out j (by rw [edgesN_len]; exact hjl) a ha)
                  rw [edgesN_get hjl] at h
                  exact ⟨h 0 (by decide), h 1 (by decide), h 2 (by decide), h 3 (by decide)⟩
                have HL : Hid (loose l i j = ((decide (i = 0) && decide (j + 1 = l.length)) || decide (meetK (edgeAt l i) (edgeAt l j) = 0))) := Lib.hid (by unfold loose; simp [c1]; rfl)
                have HME := Lib.hid (fun W => Meet_any (edgeAt l i).1.1 (edgeAt l i).1.2 (edgeAt l i).2.1 (edgeAt l i).2.2 (edgeAt l j).1.1 (edgeAt l j).1.2 (edgeAt l j).2.1 (edgeAt l j).2.2 W)
                clear c1 hk1
                have HM2 : Hid (meetK (edgeAt l i) (edgeAt l j) = meetK (((edgeAt l i).1.1, (edgeAt l i).1.2), ((edgeAt l i).2.1, (edgeAt l i).2.2)) (((edgeAt l j).1.1, (edgeAt l j).1.2), ((edgeAt l j).2.1, (edgeAt l j).2.2))) := Lib.hid rfl
                rw [HM2.out] at HL
                clear HM2
                generalize edgeAt l i = u at *
                generalize edgeAt l j = v at *
                obtain ⟨⟨ux, uy⟩, uz, ut⟩ := u
                obtain ⟨⟨vx, vy⟩, vz, vt⟩ := v
                simp only at EI EJ HME HL
                generalize meetK ((ux, uy), (uz, ut)) ((vx, vy), (vz, vt)) = mk at *
                have E0 := fun p => (EI p).1
                have E1 := fun p => (EI p).2.1
                have E2 := fun p => (EI p).2.2.1
                have E3 := fun p => (EI p).2.2.2
                have F0 := fun p => (EJ p).1
                have F1 := fun p => (EJ p).2.1
                have F2 := fun p => (EJ p).2.2.1
                have F3 := fun p => (EJ p).2.2.2
                clear EI EJ
                by_cases c2 : i = 0
                · by_cases c3 : j + 1 = l.length
                  · have g1 : ((i : Int) != 0) = false := bne_eq_false_iff_eq.2 (by omega)
                    have g2 : ((j : Int) != (l.length : Int) - 1) = false := bne_eq_false_iff_eq.2 (by omega)
                    have HLT : Hid (loose l i j = true) := Lib.hid (by rw [HL.out]; simp [c2, c3])
                    clear c2 c3 HL
                    refine wp_region_later wr (by kernel_rfl) (by kernel_rfl) (Below.refl _ _) ?_
                    repeat (go_big_quiet_step ((go_at_call 112; exact Calls.later (HME.out _))))
                    refine wpQuiet_nil ?_
                    rintro w9 hex; have hb9 := later_of hex; clear hex
                    have HB9 := Lib.hid (HBJ.out.trans (hb9.mono HBJ.out.size))
                    clear E0 E1 E2 E3 F0 F1 F2 F3 hb9 e3 g1 g2
                    go_wp2
                    go_roundw
                    case rel => exact ⟨j + 1, by go_num, by omega, by omega, Lib.hid (by rw [HD3.out, HLT.out]; rfl), HB9⟩
                    case measure => simp [intOf]; omega
                  · have g1 : ((i : Int) != 0) = false := bne_eq_false_iff_eq.2 (by omega)
                    have g2 : ((j : Int) != (l.length : Int) - 1) = true := bne_iff_ne.2 (by omega)
                    have HNG := Lib.hid c3
                    clear c2 c3
                    refine wp_region_later wr (by kernel_rfl) (by kernel_rfl) (Below.refl _ _) ?_
                    repeat (go_big_quiet_step ((go_at_call 112; exact Calls.later (HME.out _))))
                    refine wpQuiet_nil ?_
                    rintro w9 hex; have hb9 := later_of hex; clear hex
                    have HB9 := Lib.hid (HBJ.out.trans (hb9.mono HBJ.out.size))
                    clear E0 E1 E2 E3 F0 F1 F2 F3 hb9 e3 g1 g2
                    by_cases hm : mk = 0
                    · have m1 : (mk != 0) = false := bne_eq_false_iff_eq.2 hm
                      have HLT : Hid (loose l i j = true) := Lib.hid (by rw [HL.out, hm]; simp)
                      clear hm HL
                      go_wp2
                      go_roundw
                      case rel => exact ⟨j + 1, by go_num, by omega, by omega, Lib.hid (by rw [HD3.out, HLT.out]; rfl), HB9⟩
                      case measure => simp [intOf]; omega
                    · have m1 : (mk != 0) = true := bne_iff_ne.2 hm
                      have HLF : Hid (loose l i j = false) := Lib.hid (by rw [HL.out]; simp [hm, HNG.out])
                      clear hm HL
                      go_wp2
                      go_ret
                      rw [HV2.out, HD2.out, HD3.out, HLF.out]
                      exact ⟨rfl, HB8.out.trans (HB9.out.mono hz8)⟩
                · have g1 : ((i : Int) != 0) = true := bne_iff_ne.2 (by omega)
                  have HNG := Lib.hid c2
                  clear c2
                  refine wp_region_later wr (by kernel_rfl) (by kernel_rfl) (Below.refl _ _) ?_
                  repeat (go_big_quiet_step ((go_at_call 112; exact Calls.later (HME.out _))))
                  refine wpQuiet_nil ?_
                  rintro w9 hex; have hb9 := later_of hex; clear hex
                  have HB9 := Lib.hid (HBJ.out.trans (hb9.mono HBJ.out.size))
                  clear E0 E1 E2 E3 F0 F1 F2 F3 hb9 e3 g1
                  by_cases hm : mk = 0
                  · have m1 : (mk != 0) = false := bne_eq_false_iff_eq.2 hm
                    have HLT : Hid (loose l i j = true) := Lib.hid (by rw [HL.out, hm]; simp)
                    clear hm HL
                    go_wp2
                    go_roundw
                    case rel => exact ⟨j + 1, by go_num, by omega, by omega, Lib.hid (by rw [HD3.out, HLT.out]; rfl), HB9⟩
                    case measure => simp [intOf]; omega
                  · have m1 : (mk != 0) = true := bne_iff_ne.2 hm
                    have HLF : Hid (loose l i j = false) := Lib.hid (by rw [HL.out]; simp [hm, HNG.out])
                    clear hm HL
                    go_wp2
                    go_ret
                    rw [HV2.out, HD2.out, HD3.out, HLF.out]
                    exact ⟨rfl, HB8.out.trans (HB9.out.mono hz8)⟩
            · obtain rfl : j = l.length := by omega
              go_wp2
              go_roundw
              case rel => exact ⟨i + 1, by go_num, by omega, Lib.hid (by rw [HD2.out, HDJ.out, allFrom_end]; rfl), HBJ⟩
              case measure => simp [intOf]; omega
        · obtain rfl : i = l.length := by omega
          go_wp2
          go_ret
          rw [HV2.out, HDI.out, allFrom_end]
          exact ⟨rfl, HB8.out.trans (HBI.out.mono hz8)⟩
end Go.Proofs.YtnmmhcchpcbeeaaGreat.GeW
