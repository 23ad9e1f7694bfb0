/- Walk: the ring that a list of points describes. Conditions: the points lie in memory. -/
import Derived.Test.YtnmmhcchpcbeeaaGreatGeCa

namespace Go.Proofs.YtnmmhcchpcbeeaaGreat.Ge
open Go
def delAt (l : List V) (i : Nat) : List V := l.take i ++ l.drop (i + 1)
theorem delAt_len {l : List V} {i : Nat} (h : i < l.length) : (delAt l i).length = l.length - 1 := by
  unfold delAt
  rw [List.length_append, List.length_take, List.length_drop]; omega
def need (l : List V) : Int := needFrom l l.length 0
theorem needFrom_range (l : List V) : ∀ n i, needFrom l n i = -1 ∨ ∃ k : Nat, needFrom l n i = ((i + k : Nat) : Int) ∧ k < n
  | 0, i => .inl rfl
  | n + 1, i => by
    unfold needFrom
    split
    · exact .inr ⟨0, by simp, by omega⟩
    · rcases needFrom_range l n (i + 1) with h | ⟨k, h, hk⟩
      · exact .inl h
      · exact .inr ⟨k + 1, by rw [h]; congr 1; omega, by omega⟩
theorem need_range (l : List V) : need l = -1 ∨ ∃ k : Nat, need l = (k : Int) ∧ k < l.length := by
  rcases needFrom_range l l.length 0 with h | ⟨k, h, hk⟩
  · exact .inl h
  · exact .inr ⟨k, by unfold need; rw [h, Nat.zero_add], hk⟩
/-- The points that are needed. -/
def stripGo : Nat → List V → List V
  | 0, l => l
  | f + 1, l => if need l < 0 then l else stripGo f (delAt l (need l).toNat)
def strip (l : List V) : List V := stripGo l.length l
theorem strip_none {l : List V} (h : need l = -1) : strip l = l := by
  unfold strip
  cases l.length with
  | zero => rfl
  | succ n => unfold stripGo; rw [if_pos (by omega)]
theorem strip_some {l : List V} {k : Nat} (h : need l = (k : Int)) (hk : k < l.length) : strip l = strip (delAt l k) := by
  unfold strip
  rw [delAt_len hk]
  obtain ⟨n, hn⟩ : ∃ n, l.length = n + 1 := ⟨l.length - 1, by omega⟩
  rw [hn, Nat.add_sub_cancel]
  conv => lhs; unfold stripGo
  rw [if_neg (by omega), h, Int.toNat_natCast]
theorem near_del {l : List V} {k : Nat} (h : near l = true) : near (delAt l k) = true := by
  unfold near delAt at *
  rw [List.all_eq_true] at *
  intro x hx
  rcases List.mem_append.1 hx with hx | hx
  · exact h x (List.mem_of_mem_take hx)
  · exact h x (List.mem_of_mem_drop hx)
def upright (l : List V) : List V := if area l < 0 then l.reverse else l
def cleanE (l : List V) : Int := if 200 < l.length then 9 else if near l = false then 2 else if ringB (upright (strip l)) then 0 else 11
def cleanR (l : List V) : List V := if 200 < l.length then [] else if near l = false then [] else canonR (upright (strip l))
end Go.Proofs.YtnmmhcchpcbeeaaGreat.Ge
namespace Go.Proofs.YtnmmhcchpcbeeaaGreat.GeW
open Go Go.RowKit Go.Proofs.YtnmmhcchpcbeeaaGreat.Mem Go.Proofs.YtnmmhcchpcbeeaaGreat.Ge
attribute [local go_sem ↓] Go.wp_at_zero Go.wp_at_succ
def lenV : Value → Nat
  | .slice _ n _ => n
  | _ => 0
theorem own_some {w : World} {base : Nat} {e : TypeId} {size n : Nat} {v : Value} {xs : List Value} (h : w.ownsRow base e size v n xs) (h0 : 0 < n) : ∃ g c, v = .slice (some ⟨g, 0, none⟩) n c ∧ n ≤ c := by
  rcases h.2 with ⟨_, h2⟩ | ⟨g, cap, cur, hv, _, _, hn, _⟩
  · omega
  · exact ⟨g, cap, hv, hn⟩
set_option maxRecDepth 100000 in
set_option maxHeartbeats 4000000 in
theorem clean_any (l : List V) (A : Option Addr) (c : Nat) (w : World) (hr : Row w A (l.flatMap ptCells)) (hl : l.length ≤ 17592186043904) :
    Calls Tryz.prog 44 #[.slice A l.length c] w fun e w' => (∃ v, e = .returned (.tuple #[v, .int .i64 (cleanE l)]) ∧ w'.ownsRow w.heap.size 53 2 v (cleanR l).length ((cleanR l).flatMap ptCells)) ∧ Below w.heap.size w w' := by
  have HR := Lib.hid hr
  clear hr
  by_cases h200 : 200 < l.length
  · have HE : Hid (cleanE l = 9 ∧ cleanR l = []) := Lib.hid ⟨by unfold cleanE; rw [if_pos h200], by unfold cleanR; rw [if_pos h200]⟩
    have d1 : decide (200 < (l.length : Int)) = true := decide_eq_true (by omega)
    rw [HE.out.1, HE.out.2]
    clear HE h200
    go_enter Tryz.func44, Tryz.ntmps44
    go_wp2
    refine bodyPost_ret (v := .tuple #[.slice none 0 0, .int .i64 9]) (by simp [results, Tryz.results44, go_sem]) rfl ⟨⟨_, rfl, World.ownsRow_nil _ _ _ _⟩, Below.refl _ _⟩
  have d1 : decide (200 < (l.length : Int)) = false := decide_eq_false (by omega)
  have HNR := Lib.hid (near_any l A c w HR.out (by omega))
  cases hn : near l
  · have HE : Hid (cleanE l = 2 ∧ cleanR l = []) := Lib.hid ⟨by unfold cleanE; rw [if_neg h200, if_pos hn], by unfold cleanR; rw [if_neg h200, if_pos hn]⟩
    rw [HE.out.1, HE.out.2]
    rw [hn] at HNR
    clear HE h200
    go_enter Tryz.func44, Tryz.ntmps44
    go_wp2_with fail
    refine HNR.out.mono ?_
    rintro e w1 ⟨rfl, hb1⟩
    go_wp2
    refine bodyPost_ret (v := .tuple #[.slice none 0 0, .int .i64 2]) (by simp [results, Tryz.results44, go_sem]) rfl ⟨⟨_, rfl, World.ownsRow_nil _ _ _ _⟩, hb1⟩
  have HE : Hid (cleanE l = (if ringB (upright (strip l)) then 0 else 11) ∧ cleanR l = canonR (upright (strip l))) := Lib.hid ⟨by unfold cleanE; rw [if_neg h200, if_neg (by simp [hn])], by unfold cleanR; rw [if_neg h200, if_neg (by simp [hn])]⟩
  rw [hn] at HNR
  have HN := Lib.hid hn
  have HCL := Lib.hid (fun W (hW : Below w.heap.size w W) => clone_any l A c W (HR.out.below hW) (by omega))
  have h200' : l.length ≤ 200 := by omega
  clear h200 hn
  go_enter Tryz.func44, Tryz.ntmps44
  go_wp2_with fail
  refine HNR.out.mono ?_
  rintro e w1 ⟨rfl, hb1⟩
  go_wp2_with fail
  refine (HCL.out _ hb1).mono ?_
  rintro e w2 ⟨⟨v, rfl, hown2⟩, hb20⟩
  have HB2 := Lib.hid (hb1.trans (hb20.mono hb1.size))
  have HO2 := Lib.hid (own_more hown2 hb1.size)
  obtain ⟨vA, vc, rfl, hvc⟩ := own_shape HO2.out
  have HND := Lib.hid (needless_any l vA vc w2 (Row.of_own HO2.out) h200' HN.out)
  clear hown2 hb20 hb1 HNR HCL
  go_wp2_with fail
  refine HND.out.mono ?_
  rintro e w3 ⟨rfl, hb30⟩
  have HB3 := Lib.hid (HB2.out.trans (hb30.mono HB2.out.size))
  have HO3 := Lib.hid (own_below HO2.out hb30)
  clear hb30 HND HO2 HB2
  go_wp2
  go_loopw [4, 5] (fun v i wr => ∃ r : List V, i = .int .i64 (need r) ∧ r.length ≤ 200 ∧ Hid (near r = true) ∧ Hid (strip l = strip r) ∧ Hid (wr.ownsRow w.heap.size 53 2 v r.length (r.flatMap ptCells)) ∧ Hid (Below w.heap.size w wr)) (fun v _ _ => lenV v)
  case atStart => exact ⟨l, rfl, h200', HN, Lib.hid rfl, HO3, HB3⟩
  case round =>
    clear HN h200' hvc
    obtain ⟨r, rfl, hr200, HN, HS, HO, HB⟩ := hrel
    rcases need_range r with hneed | ⟨k, hneed, hk⟩
    · have HSN : Hid (strip l = r) := Lib.hid (HS.out.trans (strip_none hneed))
      rw [hneed]
      have HX : Hid (cleanE l = (if ringB (upright r) then 0 else 11) ∧ cleanR l = canonR (upright r)) := Lib.hid (by have := HE.out; rw [HSN.out] at this; exact this)
      obtain ⟨rA, rc, rfl, hrc⟩ := own_shape HO.out
      have HAR := Lib.hid (area_any r rA rc wr (Row.of_own HO.out) hr200 HN.out)
      clear hneed HE HS HSN
      go_wp2_with fail
      refine HAR.out.mono ?_
      rintro e w4 ⟨rfl, hb40⟩
      have HB4 := Lib.hid (HB.out.trans (hb40.mono HB.out.size))
      have HO4 := Lib.hid (own_below HO.out (hb40.mono (Nat.le_refl _)))
      clear hb40 HAR HO HB
      by_cases ha : area r < 0
      · have t1 : decide (area r < 0) = true := decide_eq_true ha
        have HU : Hid (upright r = r.reverse) := Lib.hid (by unfold upright; rw [if_pos ha])
        clear ha
        generalize area r = ar at *
        have HRV := Lib.hid (revR_any r w.heap.size r.length (.slice rA r.length rc) w4 rfl HO4.out)
        go_wp2_with fail
        refine HRV.out.mono ?_
        rintro e w5 ⟨rfl, hown5, hb50⟩
        have HB5 := Lib.hid (HB4.out.trans hb50)
        have HO5 := Lib.hid hown5
        clear hown5 hb50 HRV HO4 HB4
        have HV := Lib.hid (ring_any r.reverse rA rc w5 (Row.of_own HO5.out) (by simp; omega))
        have HCN := Lib.hid (fun W (hW : Below w5.heap.size w5 W) => canon_any r.reverse rA rc W ((Row.of_own HO5.out).below hW) (by simp; omega) (by simp; omega))
        have hlen : (r.reverse).length = r.length := by simp
        rw [hlen] at HV HCN
        clear hlen HO5
        cases hv : ringB r.reverse
        · have HE2 : Hid (cleanE l = 11 ∧ cleanR l = []) := Lib.hid (by
            have h := HX.out
            rw [HU.out, hv] at h
            refine ⟨h.1, h.2.trans ?_⟩
            unfold canonR
            rw [hv]
            rfl)
          rw [hv] at HV
          clear HX HU hv
          go_wp2_with fail
          refine HV.out.mono ?_
          rintro e w6 ⟨rfl, hb6⟩
          have HB6 := Lib.hid (HB5.out.trans (hb6.mono HB5.out.size))
          go_wp2
          refine bodyPost_ret (v := .tuple #[.slice none 0 0, .int .i64 11]) (by simp [results, Tryz.results44, go_sem]) rfl (by rw [HE2.out.1, HE2.out.2]; exact ⟨⟨_, rfl, World.ownsRow_nil _ _ _ _⟩, HB6.out⟩)
        · have HE2 : Hid (cleanE l = 0 ∧ cleanR l = canonR (r.reverse)) := Lib.hid (by
            have h := HX.out
            rw [HU.out, hv] at h
            exact h)
          rw [hv] at HV
          clear HX HU hv
          go_wp2_with fail
          refine HV.out.mono ?_
          rintro e w6 ⟨rfl, hb6⟩
          have HB6 := Lib.hid (HB5.out.trans (hb6.mono HB5.out.size))
          go_wp2_with fail
          refine (HCN.out _ hb6).mono ?_
          rintro e w7 ⟨⟨v7, rfl, hown7⟩, hb70⟩
          have HO7 := Lib.hid (own_more hown7 HB6.out.size)
          have HB7 := Lib.hid (HB6.out.trans (hb70.mono HB6.out.size))
          clear hown7 hb70 hb6
          go_wp2
          refine bodyPost_ret (v := .tuple #[v7, .int .i64 0]) (by simp [results, Tryz.results44, go_sem]) rfl (by rw [HE2.out.1, HE2.out.2]; exact ⟨⟨_, rfl, HO7.out⟩, HB7.out⟩)
      · have t1 : decide (area r < 0) = false := decide_eq_false ha
        have HU : Hid (upright r = r) := Lib.hid (by unfold upright; rw [if_neg ha])
        clear ha
        generalize area r = ar at *
        have HV := Lib.hid (ring_any r rA rc w4 (Row.of_own HO4.out) (by omega))
        have HCN := Lib.hid (fun W (hW : Below w4.heap.size w4 W) => canon_any r rA rc W ((Row.of_own HO4.out).below hW) (by omega) (by omega))
        clear HO4
        cases hv : ringB r
        · have HE2 : Hid (cleanE l = 11 ∧ cleanR l = []) := Lib.hid (by
            have h := HX.out
            rw [HU.out, hv] at h
            refine ⟨h.1, h.2.trans ?_⟩
            unfold canonR
            rw [hv]
            rfl)
          rw [hv] at HV
          clear HX HU hv
          go_wp2_with fail
          refine HV.out.mono ?_
          rintro e w6 ⟨rfl, hb6⟩
          have HB6 := Lib.hid (HB4.out.trans (hb6.mono HB4.out.size))
          go_wp2
          refine bodyPost_ret (v := .tuple #[.slice none 0 0, .int .i64 11]) (by simp [results, Tryz.results44, go_sem]) rfl (by rw [HE2.out.1, HE2.out.2]; exact ⟨⟨_, rfl, World.ownsRow_nil _ _ _ _⟩, HB6.out⟩)
        · have HE2 : Hid (cleanE l = 0 ∧ cleanR l = canonR (r)) := Lib.hid (by
            have h := HX.out
            rw [HU.out, hv] at h
            exact h)
          rw [hv] at HV
          clear HX HU hv
          go_wp2_with fail
          refine HV.out.mono ?_
          rintro e w6 ⟨rfl, hb6⟩
          have HB6 := Lib.hid (HB4.out.trans (hb6.mono HB4.out.size))
          go_wp2_with fail
          refine (HCN.out _ hb6).mono ?_
          rintro e w7 ⟨⟨v7, rfl, hown7⟩, hb70⟩
          have HO7 := Lib.hid (own_more hown7 HB6.out.size)
          have HB7 := Lib.hid (HB6.out.trans (hb70.mono HB6.out.size))
          clear hown7 hb70 hb6
          go_wp2
          refine bodyPost_ret (v := .tuple #[v7, .int .i64 0]) (by simp [results, Tryz.results44, go_sem]) rfl (by rw [HE2.out.1, HE2.out.2]; exact ⟨⟨_, rfl, HO7.out⟩, HB7.out⟩)
    · have HSN : Hid (strip l = strip (delAt r k)) := Lib.hid (HS.out.trans (strip_some hneed hk))
      have hlen := delAt_len hk
      have HND' := Lib.hid (near_del (k := k) HN.out)
      obtain ⟨g, rc, rfl, hrc⟩ := own_some HO.out (by omega)
      rw [hneed]
      have HDL := Lib.hid (delete_any r k w.heap.size g r.length rc wr rfl hk (by omega) HO.out)
      have hk0 : (0 : Int) ≤ (k : Int) := by omega
      have hk1 : ¬ (k : Int) < 0 := by omega
      clear hneed HS HN HO
      go_wp2_with fail
      refine HDL.out.mono ?_
      rintro e w4 ⟨rfl, hown4, hb40⟩
      have HB4 := Lib.hid (HB.out.trans hb40)
      have HO4 : Hid (w4.ownsRow w.heap.size 53 2 (.slice (some ⟨g, 0, none⟩) (r.length - 1) rc) (delAt r k).length ((delAt r k).flatMap ptCells)) := Lib.hid (by rw [hlen]; exact hown4)
      have HNL := Lib.hid (needless_any (delAt r k) (some ⟨g, 0, none⟩) rc w4 (Row.of_own hown4) (by omega) HND'.out)
      rw [hlen] at HNL
      clear hown4 hb40 HDL HB
      go_wp2_with fail
      refine HNL.out.mono ?_
      rintro e w5 ⟨rfl, hb50⟩
      have HB5 := Lib.hid (HB4.out.trans (hb50.mono HB4.out.size))
      have HO5 := Lib.hid (own_below HO4.out hb50)
      clear hb50 HNL HO4 HB4
      go_wp2
      go_roundw
      case rel => exact ⟨delAt r k, by unfold need; rw [hlen], by omega, HND', HSN, HO5, HB5⟩
      case measure => simp [lenV]; omega
end Go.Proofs.YtnmmhcchpcbeeaaGreat.GeW
