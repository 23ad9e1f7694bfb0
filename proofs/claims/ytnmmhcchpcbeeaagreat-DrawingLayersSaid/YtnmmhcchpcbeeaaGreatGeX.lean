/- Walk: the first point that is not needed. Conditions: the points lie in memory and near; at most 200. -/
import Derived.Test.YtnmmhcchpcbeeaaGreatGeE
import Derived.Deep.QuietTactic

namespace Go.Proofs.YtnmmhcchpcbeeaaGreat.Ge
open Go
def needB (l : List V) (i : Nat) : Bool := decide (l.getD i (0, 0) = nxt l i) || decide (turn (lst l i) (l.getD i (0, 0)) (nxt l i) = 0)
/-- The first point from i on, of n more, that is not needed. -/
def needFrom (l : List V) : Nat → Nat → Int
  | 0, _ => -1
  | n + 1, i => if needB l i then (i : Int) else needFrom l n (i + 1)
theorem lst_get {l : List V} {i : Nat} (h : 0 < l.length) : lst l i = l[(i + l.length - 1) % l.length]'(Nat.mod_lt _ h) := by
  unfold lst
  rw [List.getD_eq_getElem?_getD, List.getElem?_eq_getElem (Nat.mod_lt _ h)]
  rfl
end Go.Proofs.YtnmmhcchpcbeeaaGreat.Ge
namespace Go.Proofs.YtnmmhcchpcbeeaaGreat.GeW
open Go Go.RowKit Go.Proofs.YtnmmhcchpcbeeaaGreat.Mem Go.Proofs.YtnmmhcchpcbeeaaGreat.Ge
attribute [local go_sem ↓] Go.wp_at_zero Go.wp_at_succ
set_option maxRecDepth 100000 in
set_option maxHeartbeats 8000000 in
theorem needless_any (l : List V) (A : Option Addr) (c : Nat) (w : World) (hr : Row w A (l.flatMap ptCells)) (hl : l.length ≤ 200) (hn : near l = true) :
    Calls Tryz.prog 101 #[.slice A l.length c] w fun e w' => e = .returned (.int .i64 (needFrom l l.length 0)) ∧ Below w.heap.size w w' := by
  have HR := Lib.hid hr
  have HN := Lib.hid hn
  clear hr hn
  go_enter Tryz.func101, Tryz.ntmps101
  go_wp2
  go_loopw [3, 4, 5, 8] (fun _ _ _ i wr => ∃ k : Nat, i = .int .i64 (k : Int) ∧ k ≤ l.length ∧ Hid (needFrom l l.length 0 = needFrom l (l.length - k) k) ∧ Hid (Below w.heap.size w wr)) (fun _ _ _ i _ => l.length - (intOf i).toNat)
  case atStart => exact ⟨0, rfl, Nat.zero_le _, Lib.hid rfl, Lib.hid (Below.refl _ _)⟩
  case round =>
    obtain ⟨k, rfl, hk, HD, HB⟩ := hrel
    by_cases hlt : k < l.length
    · have HD1 : Hid (needFrom l l.length 0 = if needB l k then (k : Int) else needFrom l (l.length - (k + 1)) (k + 1)) := Lib.hid (by rw [HD.out, show l.length - k = (l.length - (k + 1)) + 1 by omega]; rfl)
      have h1 := near_get HN.out hlt
      have h2 := near_get HN.out (Nat.mod_lt (k + 1) (show 0 < l.length by omega))
      have h3 := near_get HN.out (Nat.mod_lt (k + l.length - 1) (show 0 < l.length by omega))
      rw [← nxt_get (show 0 < l.length by omega)] at h2
      rw [← lst_get (show 0 < l.length by omega)] at h3
      obtain ⟨g, off, rfl, hg, hc⟩ := row_get pt_len (by decide) HR.out (by omega)
      have a0 := (HB.out.cell (p := ⟨g, off + k * 2, none⟩) hg).trans (hc k hlt 0 (by decide))
      have a1 := (HB.out.cell (p := ⟨g, off + k * 2 + 1, none⟩) hg).trans (hc k hlt 1 (by decide))
      have HQ : Hid (needB l k = (decide (l[k] = nxt l k) || decide (turn (lst l k) l[k] (nxt l k) = 0))) := Lib.hid (by unfold needB; rw [List.getD_eq_getElem?_getD, List.getElem?_eq_getElem hlt]; rfl)
      have HNX := Lib.hid (fun W (hW : Below w.heap.size w W) => next_any l k (some ⟨g, off, none⟩) c W (HR.out.below hW) hlt (by omega))
      have HLA := Lib.hid (fun W (hW : Below w.heap.size w W) => last_any l k (some ⟨g, off, none⟩) c W (HR.out.below hW) hlt (by omega))
      clear hc
      generalize l[k] = q at *
      obtain ⟨qx, qy⟩ := q
      simp only [ptCells, List.getElem?_cons_zero, List.getElem?_cons_succ] at a0 a1
      generalize nxt l k = p at *
      obtain ⟨px, py⟩ := p
      generalize lst l k = r at *
      obtain ⟨rx, ry⟩ := r
      simp only at h1 h2 h3
      have HTU := Lib.hid (fun W => turn_any rx ry qx qy px py W (by omega) (by omega) (by omega) (by omega) (by omega) (by omega))
      clear h1 h2 h3
      generalize needB l k = nb at *
      generalize turn (rx, ry) (qx, qy) (px, py) = tn at *
      by_cases hex : qx = px
      · by_cases hey : qy = py
        · have HNB : Hid (nb = true) := Lib.hid (by rw [HQ.out, hex, hey]; simp)
          subst hex
          subst hey
          clear HTU HLA HQ
          have HO := Lib.hid (one_vec wr (.cells #[.int .i64 qx, .int .i64 qy] 53))
          go_wp2_with fail
          generalize wr.alloc (.cells #[.int .i64 qx, .int .i64 qy] 53) = W at *
          have HBW := Lib.hid (HB.out.trans (HO.out.1.mono (Below.size HB.out)))
          refine (HNX.out _ HBW.out).mono ?_
          rintro e w4 ⟨rfl, hb4⟩
          have HB4 := Lib.hid (HBW.out.trans (hb4.mono (Below.size HBW.out)))
          have HX4 := Lib.hid ((hb4.block _ (lt_of_block HO.out.2)).trans HO.out.2)
          have HO5 := Lib.hid (one_vec w4 (.cells #[.int .i64 qx, .int .i64 qy] 53))
          clear hb4 a0 a1
          go_upto_region 5 with fail
          generalize w4.alloc (.cells #[.int .i64 qx, .int .i64 qy] 53) = W5 at *
          have HB5 := Lib.hid (HB4.out.trans (HO5.out.1.mono (Below.size HB4.out)))
          have HX5 := Lib.hid ((HO5.out.1.block _ (lt_of_block HX4.out)).trans HX4.out)
          have CS : Hid (∀ w', Below W5.heap.size W5 w' → w'.cell? ⟨wr.heap.size, 0, none⟩ = some (.int .i64 qx) ∧ w'.cell? ⟨wr.heap.size, 1, none⟩ = some (.int .i64 qy) ∧ w'.cell? ⟨w4.heap.size, 0, none⟩ = some (.int .i64 qx) ∧ w'.cell? ⟨w4.heap.size, 1, none⟩ = some (.int .i64 qy) ∧ Below W5.heap.size W5 w') := Lib.hid (fun w' hb => by
            obtain ⟨a0, a1⟩ := pair_at HX5.out hb
            obtain ⟨b0, b1⟩ := pair_at HO5.out.2 hb
            exact ⟨a0, a1, b0, b1, hb⟩)
          obtain ⟨q0, q1, q2, q3, q4⟩ := CS.out W5 (Below.refl _ _)
          go_quiet (fail)
          go_wp2
          go_ret
          rw [HD1.out, HNB.out]
          exact ⟨rfl, by first | exact below_drew HB5.out | exact Go.Proofs.YtnmmhcchpcbeeaaGreat.Mem.below_drewN HB5.out _⟩
        · subst hex
          have e1 : (qy == py) = false := beq_eq_false_iff_ne.2 hey
          have e2 : (qy = py) = False := eq_false hey
          have HEQ : Hid (decide ((qx, qy) = (qx, py)) = false) := Lib.hid (by simp [hey])
          clear hey
          by_cases ht : tn = 0
          · have HNB : Hid (nb = true) := Lib.hid (by rw [HQ.out, ht]; simp)
            subst ht
            have HO := Lib.hid (one_vec wr (.cells #[.int .i64 qx, .int .i64 qy] 53))
            go_wp2_with fail
            generalize wr.alloc (.cells #[.int .i64 qx, .int .i64 qy] 53) = W at *
            have HBW := Lib.hid (HB.out.trans (HO.out.1.mono (Below.size HB.out)))
            refine (HNX.out _ HBW.out).mono ?_
            rintro e w4 ⟨rfl, hb4⟩
            have HB4 := Lib.hid (HBW.out.trans (hb4.mono (Below.size HBW.out)))
            have HX4 := Lib.hid ((hb4.block _ (lt_of_block HO.out.2)).trans HO.out.2)
            have HO5 := Lib.hid (one_vec w4 (.cells #[.int .i64 qx, .int .i64 py] 53))
            clear hb4 a0 a1
            go_upto_region 5 with fail
            generalize w4.alloc (.cells #[.int .i64 qx, .int .i64 py] 53) = W5 at *
            have HB5 := Lib.hid (HB4.out.trans (HO5.out.1.mono (Below.size HB4.out)))
            have HX5 := Lib.hid ((HO5.out.1.block _ (lt_of_block HX4.out)).trans HX4.out)
            have CS : Hid (∀ w', Below W5.heap.size W5 w' → w'.cell? ⟨wr.heap.size, 0, none⟩ = some (.int .i64 qx) ∧ w'.cell? ⟨wr.heap.size, 1, none⟩ = some (.int .i64 qy) ∧ w'.cell? ⟨w4.heap.size, 0, none⟩ = some (.int .i64 qx) ∧ w'.cell? ⟨w4.heap.size, 1, none⟩ = some (.int .i64 py) ∧ Below W5.heap.size W5 w') := Lib.hid (fun w' hb => by
              obtain ⟨a0, a1⟩ := pair_at HX5.out hb
              obtain ⟨b0, b1⟩ := pair_at HO5.out.2 hb
              exact ⟨a0, a1, b0, b1, hb⟩)
            obtain ⟨q0, q1, q2, q3, q4⟩ := CS.out W5 (Below.refl _ _)
            go_region_held3 (fun w' => w'.cell? ⟨wr.heap.size, 0, none⟩ = some (.int .i64 qx) ∧ w'.cell? ⟨wr.heap.size, 1, none⟩ = some (.int .i64 qy) ∧ w'.cell? ⟨w4.heap.size, 0, none⟩ = some (.int .i64 qx) ∧ w'.cell? ⟨w4.heap.size, 1, none⟩ = some (.int .i64 py) ∧ Below W5.heap.size W5 w')
              (first | assumption | exact CS.out _ (below_drew (by assumption)) | exact CS.out _ (by assumption))
              (first
               | (go_at_call 131; obtain ⟨_, _, _, _, hbx⟩ := ‹_ ∧ _ ∧ _ ∧ _ ∧ Below _ _ _›; refine (HLA.out _ (HB5.out.trans (hbx.mono (Below.size HB5.out)))).mono ?_; rintro e w6 ⟨rfl, hb60⟩; have hb6 : Below W5.heap.size W5 w6 := hbx.trans (hb60.mono (Below.size hbx)))
               | (go_at_call 130; refine (HTU.out _).mono ?_; rintro e w7 ⟨rfl, hb70⟩; have hb7 : Below W5.heap.size W5 w7 := hb6.trans (hb70.mono (Below.size hb6))))
            go_wp2
            go_ret
            rw [HD1.out, HNB.out]
            exact ⟨rfl, HB5.out.trans (hb7.mono (Below.size HB5.out))⟩
          · have t1 : (tn == 0) = false := beq_eq_false_iff_ne.2 ht
            have t2 : (tn = 0) = False := eq_false ht
            have HNB : Hid (nb = false) := Lib.hid (by rw [HQ.out, HEQ.out]; simp [ht])
            clear ht
            have HO := Lib.hid (one_vec wr (.cells #[.int .i64 qx, .int .i64 qy] 53))
            go_wp2_with fail
            generalize wr.alloc (.cells #[.int .i64 qx, .int .i64 qy] 53) = W at *
            have HBW := Lib.hid (HB.out.trans (HO.out.1.mono (Below.size HB.out)))
            refine (HNX.out _ HBW.out).mono ?_
            rintro e w4 ⟨rfl, hb4⟩
            have HB4 := Lib.hid (HBW.out.trans (hb4.mono (Below.size HBW.out)))
            have HX4 := Lib.hid ((hb4.block _ (lt_of_block HO.out.2)).trans HO.out.2)
            have HO5 := Lib.hid (one_vec w4 (.cells #[.int .i64 qx, .int .i64 py] 53))
            clear hb4 a0 a1
            go_upto_region 5 with fail
            generalize w4.alloc (.cells #[.int .i64 qx, .int .i64 py] 53) = W5 at *
            have HB5 := Lib.hid (HB4.out.trans (HO5.out.1.mono (Below.size HB4.out)))
            have HX5 := Lib.hid ((HO5.out.1.block _ (lt_of_block HX4.out)).trans HX4.out)
            have CS : Hid (∀ w', Below W5.heap.size W5 w' → w'.cell? ⟨wr.heap.size, 0, none⟩ = some (.int .i64 qx) ∧ w'.cell? ⟨wr.heap.size, 1, none⟩ = some (.int .i64 qy) ∧ w'.cell? ⟨w4.heap.size, 0, none⟩ = some (.int .i64 qx) ∧ w'.cell? ⟨w4.heap.size, 1, none⟩ = some (.int .i64 py) ∧ Below W5.heap.size W5 w') := Lib.hid (fun w' hb => by
              obtain ⟨a0, a1⟩ := pair_at HX5.out hb
              obtain ⟨b0, b1⟩ := pair_at HO5.out.2 hb
              exact ⟨a0, a1, b0, b1, hb⟩)
            obtain ⟨q0, q1, q2, q3, q4⟩ := CS.out W5 (Below.refl _ _)
            go_region_held3 (fun w' => w'.cell? ⟨wr.heap.size, 0, none⟩ = some (.int .i64 qx) ∧ w'.cell? ⟨wr.heap.size, 1, none⟩ = some (.int .i64 qy) ∧ w'.cell? ⟨w4.heap.size, 0, none⟩ = some (.int .i64 qx) ∧ w'.cell? ⟨w4.heap.size, 1, none⟩ = some (.int .i64 py) ∧ Below W5.heap.size W5 w')
              (first | assumption | exact CS.out _ (below_drew (by assumption)) | exact CS.out _ (by assumption))
              (first
               | (go_at_call 131; obtain ⟨_, _, _, _, hbx⟩ := ‹_ ∧ _ ∧ _ ∧ _ ∧ Below _ _ _›; refine (HLA.out _ (HB5.out.trans (hbx.mono (Below.size HB5.out)))).mono ?_; rintro e w6 ⟨rfl, hb60⟩; have hb6 : Below W5.heap.size W5 w6 := hbx.trans (hb60.mono (Below.size hbx)))
               | (go_at_call 130; refine (HTU.out _).mono ?_; rintro e w7 ⟨rfl, hb70⟩; have hb7 : Below W5.heap.size W5 w7 := hb6.trans (hb70.mono (Below.size hb6))))
            have HBZ := Lib.hid (HB5.out.trans (hb7.mono (Below.size HB5.out)))
            go_wp2
            go_roundw
            case rel => exact ⟨k + 1, by go_num, by omega, Lib.hid (by rw [HD1.out, HNB.out]; rfl), HBZ⟩
            case measure => simp [intOf]; omega
      · have e1 : (qx == px) = false := beq_eq_false_iff_ne.2 hex
        have e2 : (qx = px) = False := eq_false hex
        have HEQ : Hid (decide ((qx, qy) = (px, py)) = false) := Lib.hid (by simp [hex])
        clear hex
        by_cases ht : tn = 0
        · have HNB : Hid (nb = true) := Lib.hid (by rw [HQ.out, ht]; simp)
          subst ht
          have HO := Lib.hid (one_vec wr (.cells #[.int .i64 qx, .int .i64 qy] 53))
          go_wp2_with fail
          generalize wr.alloc (.cells #[.int .i64 qx, .int .i64 qy] 53) = W at *
          have HBW := Lib.hid (HB.out.trans (HO.out.1.mono (Below.size HB.out)))
          refine (HNX.out _ HBW.out).mono ?_
          rintro e w4 ⟨rfl, hb4⟩
          have HB4 := Lib.hid (HBW.out.trans (hb4.mono (Below.size HBW.out)))
          have HX4 := Lib.hid ((hb4.block _ (lt_of_block HO.out.2)).trans HO.out.2)
          have HO5 := Lib.hid (one_vec w4 (.cells #[.int .i64 px, .int .i64 py] 53))
          clear hb4 a0 a1
          go_upto_region 5 with fail
          generalize w4.alloc (.cells #[.int .i64 px, .int .i64 py] 53) = W5 at *
          have HB5 := Lib.hid (HB4.out.trans (HO5.out.1.mono (Below.size HB4.out)))
          have HX5 := Lib.hid ((HO5.out.1.block _ (lt_of_block HX4.out)).trans HX4.out)
          have CS : Hid (∀ w', Below W5.heap.size W5 w' → w'.cell? ⟨wr.heap.size, 0, none⟩ = some (.int .i64 qx) ∧ w'.cell? ⟨wr.heap.size, 1, none⟩ = some (.int .i64 qy) ∧ w'.cell? ⟨w4.heap.size, 0, none⟩ = some (.int .i64 px) ∧ w'.cell? ⟨w4.heap.size, 1, none⟩ = some (.int .i64 py) ∧ Below W5.heap.size W5 w') := Lib.hid (fun w' hb => by
            obtain ⟨a0, a1⟩ := pair_at HX5.out hb
            obtain ⟨b0, b1⟩ := pair_at HO5.out.2 hb
            exact ⟨a0, a1, b0, b1, hb⟩)
          obtain ⟨q0, q1, q2, q3, q4⟩ := CS.out W5 (Below.refl _ _)
          go_region_held3 (fun w' => w'.cell? ⟨wr.heap.size, 0, none⟩ = some (.int .i64 qx) ∧ w'.cell? ⟨wr.heap.size, 1, none⟩ = some (.int .i64 qy) ∧ w'.cell? ⟨w4.heap.size, 0, none⟩ = some (.int .i64 px) ∧ w'.cell? ⟨w4.heap.size, 1, none⟩ = some (.int .i64 py) ∧ Below W5.heap.size W5 w')
            (first | assumption | exact CS.out _ (below_drew (by assumption)) | exact CS.out _ (by assumption))
            (first
             | (go_at_call 131; obtain ⟨_, _, _, _, hbx⟩ := ‹_ ∧ _ ∧ _ ∧ _ ∧ Below _ _ _›; refine (HLA.out _ (HB5.out.trans (hbx.mono (Below.size HB5.out)))).mono ?_; rintro e w6 ⟨rfl, hb60⟩; have hb6 : Below W5.heap.size W5 w6 := hbx.trans (hb60.mono (Below.size hbx)))
             | (go_at_call 130; refine (HTU.out _).mono ?_; rintro e w7 ⟨rfl, hb70⟩; have hb7 : Below W5.heap.size W5 w7 := hb6.trans (hb70.mono (Below.size hb6))))
          go_wp2
          go_ret
          rw [HD1.out, HNB.out]
          exact ⟨rfl, HB5.out.trans (hb7.mono (Below.size HB5.out))⟩
        · have t1 : (tn == 0) = false := beq_eq_false_iff_ne.2 ht
          have t2 : (tn = 0) = False := eq_false ht
          have HNB : Hid (nb = false) := Lib.hid (by rw [HQ.out, HEQ.out]; simp [ht])
          clear ht
          have HO := Lib.hid (one_vec wr (.cells #[.int .i64 qx, .int .i64 qy] 53))
          go_wp2_with fail
          generalize wr.alloc (.cells #[.int .i64 qx, .int .i64 qy] 53) = W at *
          have HBW := Lib.hid (HB.out.trans (HO.out.1.mono (Below.size HB.out)))
          refine (HNX.out _ HBW.out).mono ?_
          rintro e w4 ⟨rfl, hb4⟩
          have HB4 := Lib.hid (HBW.out.trans (hb4.mono (Below.size HBW.out)))
          have HX4 := Lib.hid ((hb4.block _ (lt_of_block HO.out.2)).trans HO.out.2)
          have HO5 := Lib.hid (one_vec w4 (.cells #[.int .i64 px, .int .i64 py] 53))
          clear hb4 a0 a1
          go_upto_region 5 with fail
          generalize w4.alloc (.cells #[.int .i64 px, .int .i64 py] 53) = W5 at *
          have HB5 := Lib.hid (HB4.out.trans (HO5.out.1.mono (Below.size HB4.out)))
          have HX5 := Lib.hid ((HO5.out.1.block _ (lt_of_block HX4.out)).trans HX4.out)
          have CS : Hid (∀ w', Below W5.heap.size W5 w' → w'.cell? ⟨wr.heap.size, 0, none⟩ = some (.int .i64 qx) ∧ w'.cell? ⟨wr.heap.size, 1, none⟩ = some (.int .i64 qy) ∧ w'.cell? ⟨w4.heap.size, 0, none⟩ = some (.int .i64 px) ∧ w'.cell? ⟨w4.heap.size, 1, none⟩ = some (.int .i64 py) ∧ Below W5.heap.size W5 w') := Lib.hid (fun w' hb => by
            obtain ⟨a0, a1⟩ := pair_at HX5.out hb
            obtain ⟨b0, b1⟩ := pair_at HO5.out.2 hb
            exact ⟨a0, a1, b0, b1, hb⟩)
          obtain ⟨q0, q1, q2, q3, q4⟩ := CS.out W5 (Below.refl _ _)
          go_region_held3 (fun w' => w'.cell? ⟨wr.heap.size, 0, none⟩ = some (.int .i64 qx) ∧ w'.cell? ⟨wr.heap.size, 1, none⟩ = some (.int .i64 qy) ∧ w'.cell? ⟨w4.heap.size, 0, none⟩ = some (.int .i64 px) ∧ w'.cell? ⟨w4.heap.size, 1, none⟩ = some (.int .i64 py) ∧ Below W5.heap.size W5 w')
            (first | assumption | exact CS.out _ (below_drew (by assumption)) | exact CS.out _ (by assumption))
            (first
             | (go_at_call 131; obtain ⟨_, _, _, _, hbx⟩ := ‹_ ∧ _ ∧ _ ∧ _ ∧ Below _ _ _›; refine (HLA.out _ (HB5.out.trans (hbx.mono (Below.size HB5.out)))).mono ?_; rintro e w6 ⟨rfl, hb60⟩; have hb6 : Below W5.heap.size W5 w6 := hbx.trans (hb60.mono (Below.size hbx)))
             | (go_at_call 130; refine (HTU.out _).mono ?_; rintro e w7 ⟨rfl, hb70⟩; have hb7 : Below W5.heap.size W5 w7 := hb6.trans (hb70.mono (Below.size hb6))))
          have HBZ := Lib.hid (HB5.out.trans (hb7.mono (Below.size HB5.out)))
          go_wp2
          go_roundw
          case rel => exact ⟨k + 1, by go_num, by omega, Lib.hid (by rw [HD1.out, HNB.out]; rfl), HBZ⟩
          case measure => simp [intOf]; omega
    · have hk2 : k = l.length := by omega
      subst hk2
      go_wp2
      go_ret
      rw [HD.out, Nat.sub_self]
      exact ⟨rfl, HB.out⟩
end Go.Proofs.YtnmmhcchpcbeeaaGreat.GeW
