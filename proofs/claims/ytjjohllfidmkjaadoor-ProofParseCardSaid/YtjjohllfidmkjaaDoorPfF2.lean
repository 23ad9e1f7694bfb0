/- Walks: the program's node and all. Conditions: the tree lies in memory; its rows fit. -/
import Derived.Test.YtjjohllfidmkjaaDoorPfF1
import Derived.Shelf.Abstract
namespace Go.Proofs.YtjjohllfidmkjaaDoor.PfW
open Go Go.RowKit Go.Proofs.YtjjohllfidmkjaaDoor.Mem Go.Proofs.YtjjohllfidmkjaaDoor.Pf

def idx {α : Type} (p : α → Bool) : List α → Nat → Int
  | [], _ => -1
  | x :: r, i => if p x then (i : Int) else idx p r (i + 1)
theorem idx_ge {α : Type} (p : α → Bool) : ∀ (l : List α) (i : Nat), decide ((0 : Int) ≤ idx p l i) = l.any p
  | [], _ => rfl
  | x :: r, i => by
    unfold idx
    rw [List.any_cons]
    cases hp : p x
    · simp only [Bool.false_eq_true, if_false, Bool.false_or]; exact idx_ge p r (i + 1)
    · simp
theorem idx_lt {α : Type} (p : α → Bool) : ∀ (l : List α) (i : Nat), idx p l i < ((i + l.length : Nat) : Int) + (if l.length = 0 then 1 else 0) ∧ (idx p l i = -1 ∨ ((i : Int) ≤ idx p l i ∧ idx p l i < ((i + l.length : Nat) : Int)))
  | [], i => by simp [idx]; omega
  | x :: r, i => by
    have := (idx_lt p r (i + 1)).2
    unfold idx
    simp only [List.length_cons]
    cases hp : p x
    · simp only [Bool.false_eq_true, if_false]
      omega
    · simp only [if_true]
      omega

theorem idx_no {α : Type} (p : α → Bool) (l : List α) (k : Nat) (h : k < l.length) (hp : p l[k] = false) : idx p (l.drop k) k = idx p (l.drop (k + 1)) (k + 1) := by
  rw [List.drop_eq_getElem_cons h, idx, hp]; rfl
theorem idx_yes {α : Type} (p : α → Bool) (l : List α) (k : Nat) (h : k < l.length) (hp : p l[k] = true) : idx p (l.drop k) k = (k : Int) := by
  rw [List.drop_eq_getElem_cons h, idx, hp]; rfl


set_option maxRecDepth 100000 in
theorem node1_any (n : Int) (w : World) : Calls Tryd.prog 77 #[.int .i64 n] w fun e w' => e = .returned (.bool (!smallB n)) ∧ Below w.heap.size w w' := by
  have HS := Lib.hid (fun W => psmall_any n W)
  generalize smallB n = b at *
  go_enter Tryd.func77, Tryd.ntmps77
  go_wp2_with fail
  refine (HS.out _).mono ?_
  rintro e w2 ⟨rfl, hb2⟩
  go_wp2
  go_ret
  exact ⟨rfl, hb2⟩
set_option maxRecDepth 100000 in
theorem indexInts_any (l : List Int) (A : Option Addr) (c : Nat) (w : World) (hr : Row w A (intCells l)) (hl : l.length ≤ 17592186043904) :
    Calls Tryd.prog 85 #[.slice A l.length c, .func (.func 77) #[] #[]] w fun e w' => e = .returned (.int .i64 (idx (fun n => !smallB n) l 0)) ∧ Below w.heap.size w w' := by
  have HR := Lib.hid hr
  clear hr
  have hst := Lib.hid (show idx (fun n => !smallB n) l 0 = idx (fun n => !smallB n) (l.drop 0) 0 by simp)
  go_enter Tryd.func85, Tryd.ntmps85
  go_wp2
  go_loopw [5, 8] (fun _ t wr => ∃ k : Nat, k ≤ l.length ∧ t = .int .i64 k ∧ Hid (idx (fun n => !smallB n) l 0 = idx (fun n => !smallB n) (l.drop k) k) ∧ Below w.heap.size w wr) (fun _ t _ => l.length - (intOf t).toNat)
  case atStart => exact ⟨0, Nat.zero_le _, rfl, hst, Below.refl _ _⟩
  case round =>
    obtain ⟨k, hk, rfl, hd, hbel⟩ := hrel
    by_cases hlt : k < l.length
    · obtain ⟨g, off, rfl, hg, ca⟩ := HR.out (ints_ne hlt)
      have a0 := (hbel.cell (p := ⟨g, off + k, none⟩) hg).trans ((ca k (by rw [ints_len]; exact hlt)).trans (ints_get hlt))
      have hno := Lib.hid (idx_no (fun n => !smallB n) l k hlt)
      have hyes := Lib.hid (idx_yes (fun n => !smallB n) l k hlt)
      have HM := Lib.hid (fun W => node1_any l[k] W)
      have hk1 : (0 : Int) ≤ (k : Int) := by omega
      have hk2 : (k : Int) < (l.length : Int) := by omega
      clear ca
      generalize l[k] = m at *
      generalize (!smallB m) = b at *
      cases b
      · go_wp2_with fail
        refine (HM.out _).mono ?_
        rintro e w2 ⟨rfl, hb2⟩
        go_wp2
        go_roundw
        case rel => exact ⟨k + 1, hlt, by go_num, Lib.hid (hd.out.trans (hno.out trivial)), hbel.trans (hb2.mono hbel.size)⟩
        case measure => simp [intOf]; omega
      · go_wp2_with fail
        refine (HM.out _).mono ?_
        rintro e w2 ⟨rfl, hb2⟩
        go_wp2
        go_ret
        rw [hd.out, hyes.out trivial]
        exact ⟨rfl, hbel.trans (hb2.mono hbel.size)⟩
    · obtain rfl : k = l.length := by omega
      go_wp2
      go_ret
      rw [hd.out, List.drop_length]
      exact ⟨rfl, hbel⟩
theorem containsInts_any (l : List Int) (A : Option Addr) (c : Nat) (w : World) (hr : Row w A (intCells l)) (hl : l.length ≤ 17592186043904) :
    Calls Tryd.prog 76 #[.slice A l.length c, .func (.func 77) #[] #[]] w fun e w' => e = .returned (.bool (!(l.all smallB))) ∧ Below w.heap.size w w' := by
  have hi := Lib.hid (indexInts_any l A c w hr hl)
  have hq := Lib.hid (idx_ge (fun n => !smallB n) l 0)
  have hz : Hid ((l.any fun n => !smallB n) = !(l.all smallB)) := Lib.hid (by simp [List.all_eq_not_any_not])
  clear hr
  go_enter Tryd.func76, Tryd.ntmps76
  go_wp2_with fail
  refine hi.out.mono ?_
  rintro e w1 ⟨rfl, hb1⟩
  go_wp2
  go_ret
  rw [hq.out, hz.out]
  exact ⟨rfl, hb1⟩

set_option maxRecDepth 100000 in
set_option maxHeartbeats 1000000 in
theorem node_any (s : Int) (kn c : Nat) (lf : List Int) (A B : Option Addr) (d : Nat) (w : World) (hr : Row w B (intCells lf)) (hl : lf.length ≤ 17592186043904) :
    Calls Tryd.prog 57 #[.agg #[.int .i64 s, .slice A kn c, .slice B lf.length d]] w fun e w' => e = .returned (.bool (nodeB s kn lf)) ∧ Below w.heap.size w w' := by
  have HC := Lib.hid (fun W (hb : Below w.heap.size w W) => containsInts_any lf B d W (hr.below hb) hl)
  have HSM := Lib.hid (fun W => psmall_any s W)
  have HBB := Lib.hid (one_box w (.cells #[.int .i64 s, .slice A kn c, .slice B lf.length d] 38))
  clear hr
  unfold nodeB
  by_cases hk : 0 < kn
  · rw [if_pos hk]
    by_cases h2 : lf.length = 0
    · obtain rfl : lf = [] := List.eq_nil_of_length_eq_zero h2
      clear HC h2
      rw [decide_eq_true (by rfl : ([] : List Int).length = 0)]
      by_cases h3 : kn ≤ 100
      · rw [decide_eq_true h3]
        simp only [Bool.true_and]
        generalize smallB s = b at *
        go_enter Tryd.func57, Tryd.ntmps57
        go_wp2_with fail
        refine (HSM.out _).mono ?_
        rintro e w2 ⟨rfl, hb2⟩
        go_wp2
        go_ret
        exact ⟨rfl, HBB.out.1.trans (hb2.mono HBB.out.1.size)⟩
      · rw [decide_eq_false h3]
        simp only [Bool.true_and, Bool.false_and]
        have d1 : decide ((kn : Int) ≤ 100) = false := by simp; omega
        go_enter Tryd.func57, Tryd.ntmps57
        go_wp2
        go_ret
        exact ⟨rfl, HBB.out.1⟩
    · rw [decide_eq_false h2]
      simp only [Bool.false_and]
      have d1 : ((lf.length : Int) == 0) = false := by rw [beq_eq_false_iff_ne]; omega
      clear h2
      go_enter Tryd.func57, Tryd.ntmps57
      go_wp2
      go_ret
      exact ⟨rfl, HBB.out.1⟩
  · rw [if_neg hk]
    obtain rfl : kn = 0 := by omega
    clear hk
    by_cases h2 : s = 0
    · subst h2
      rw [decide_eq_true rfl]
      by_cases h3 : lf.length ≤ 40
      · rw [decide_eq_true h3]
        simp only [Bool.true_and]
        generalize lf.all smallB = b at *
        go_enter Tryd.func57, Tryd.ntmps57
        go_wp2_with fail
        refine (HC.out _ HBB.out.1).mono ?_
        rintro e w2 ⟨rfl, hb2⟩
        go_wp2
        go_ret
        exact ⟨by simp, HBB.out.1.trans (hb2.mono HBB.out.1.size)⟩
      · rw [decide_eq_false h3]
        simp only [Bool.true_and, Bool.false_and]
        have d1 : decide ((lf.length : Int) ≤ 40) = false := by simp; omega
        go_enter Tryd.func57, Tryd.ntmps57
        go_wp2
        go_ret
        exact ⟨rfl, HBB.out.1⟩
    · rw [decide_eq_false h2]
      simp only [Bool.false_and]
      have d1 : (s == 0) = false := by rw [beq_eq_false_iff_ne]; omega
      clear h2
      go_enter Tryd.func57, Tryd.ntmps57
      go_wp2
      go_ret
      exact ⟨rfl, HBB.out.1⟩

/-- What is known of all at smaller trees. -/
def AllAt (n : Nat) : Prop := ∀ (S : Nat → Prop) (t : T), nodes t ≤ n → Fit t → ∀ (vs : List Value) (w : World), TreeIn S w t vs →
    Calls Tryd.prog 52 #[.agg vs.toArray] w fun e w' => e = .returned (.bool (allB t)) ∧ Below w.heap.size w w'
set_option maxRecDepth 100000 in
theorem all1_any (n : Nat) (IH : AllAt n) (S : Nat → Prop) (t : T) (h : nodes t ≤ n) (hf : Fit t) (s : Int) (A B : Option Addr) (m c k d : Nat) (w : World) (ht : TreeIn S w t [.int .i64 s, .slice A m c, .slice B k d]) :
    Calls Tryd.prog 70 #[.agg #[.int .i64 s, .slice A m c, .slice B k d]] w fun e w' => e = .returned (.bool (!allB t)) ∧ Below w.heap.size w w' := by
  have HBB := Lib.hid (one_box w (.cells #[.int .i64 s, .slice A m c, .slice B k d] 38))
  have HN := Lib.hid (IH S t h hf [.int .i64 s, .slice A m c, .slice B k d] _ (ht.below HBB.out.1))
  generalize allB t = b at *
  clear IH hf ht h
  go_enter Tryd.func70, Tryd.ntmps70
  go_wp2_with fail
  refine HN.out.mono ?_
  rintro e w2 ⟨rfl, hb2⟩
  go_wp2
  go_ret
  exact ⟨rfl, HBB.out.1.trans (hb2.mono HBB.out.1.size)⟩
set_option maxRecDepth 100000 in
set_option maxHeartbeats 1000000 in
theorem indexTrees_any (n : Nat) (IH : AllAt n) (S : Nat → Prop) (ks : List T) (hn : nodesL ks ≤ n) (hf : FitL ks) (hkl : ks.length ≤ 2513169434843) (A : Option Addr) (c : Nat) (ws : List Value) (w : World) (hr : RowS S w A ws) (hk : KidsIn S w ks ws) :
    Calls Tryd.prog 79 #[.slice A ks.length c, .func (.func 70) #[] #[]] w fun e w' => e = .returned (.int .i64 (idx (fun k => !allB k) ks 0)) ∧ Below w.heap.size w w' := by
  have HK := Lib.hid hk
  have HR := Lib.hid hr
  have HF := Lib.hid hf.get
  have HI := Lib.hid (fun t h1 h2 s A B m c k d w h => all1_any n IH S t h1 h2 s A B m c k d w h)
  clear hk hr hf IH
  have hst := Lib.hid (show idx (fun k => !allB k) ks 0 = idx (fun k => !allB k) (ks.drop 0) 0 by simp)
  go_enter Tryd.func79, Tryd.ntmps79
  go_wp2
  go_loopw [5, 8] (fun _ t wr => ∃ k : Nat, k ≤ ks.length ∧ t = .int .i64 k ∧ Hid (idx (fun k => !allB k) ks 0 = idx (fun k => !allB k) (ks.drop k) k) ∧ Below w.heap.size w wr) (fun _ t _ => ks.length - (intOf t).toNat)
  case atStart => exact ⟨0, Nat.zero_le _, rfl, hst, Below.refl _ _⟩
  case round =>
    obtain ⟨k, hk, rfl, hd, hbel⟩ := hrel
    by_cases hlt : k < ks.length
    · obtain ⟨g, off, xs, xA, xn, xc, xB, xm, xd, rfl, HT, a0, a1, a2⟩ := kid_cells HR.out HK.out hbel hlt
      have hs := nodesL_take ks (k + 1)
      have hs1 := kid_nodes hlt
      have HM := Lib.hid (HI.out ks[k] (by omega) (HF.out k hlt) xs xA xB xn xc xm xd wr HT)
      have hno := Lib.hid (idx_no (fun k => !allB k) ks k hlt)
      have hyes := Lib.hid (idx_yes (fun k => !allB k) ks k hlt)
      have hk1 : (0 : Int) ≤ (k : Int) := by omega
      have hk2 : (k : Int) < (ks.length : Int) := by omega
      clear hs hs1 HT
      generalize (!allB ks[k]) = b at *
      cases b
      · go_wp2_with fail
        refine HM.out.mono ?_
        rintro e w2 ⟨rfl, hb2⟩
        go_wp2
        go_roundw
        case rel => exact ⟨k + 1, hlt, by go_num, Lib.hid (hd.out.trans (hno.out trivial)), hbel.trans (hb2.mono hbel.size)⟩
        case measure => simp [intOf]; omega
      · go_wp2_with fail
        refine HM.out.mono ?_
        rintro e w2 ⟨rfl, hb2⟩
        go_wp2
        go_ret
        rw [hd.out, hyes.out trivial]
        exact ⟨rfl, hbel.trans (hb2.mono hbel.size)⟩
    · obtain rfl : k = ks.length := by omega
      go_wp2
      go_ret
      rw [hd.out, List.drop_length]
      exact ⟨rfl, hbel⟩
theorem containsTrees_any (n : Nat) (IH : AllAt n) (S : Nat → Prop) (ks : List T) (hn : nodesL ks ≤ n) (hf : FitL ks) (hkl : ks.length ≤ 2513169434843) (A : Option Addr) (c : Nat) (ws : List Value) (w : World) (hr : RowS S w A ws) (hk : KidsIn S w ks ws) :
    Calls Tryd.prog 69 #[.slice A ks.length c, .func (.func 70) #[] #[]] w fun e w' => e = .returned (.bool (!allL ks)) ∧ Below w.heap.size w w' := by
  have hi := Lib.hid (indexTrees_any n IH S ks hn hf hkl A c ws w hr hk)
  have hq := Lib.hid (idx_ge (fun k => !allB k) ks 0)
  have hz := Lib.hid (allL_any ks)
  clear hr hk hf IH
  go_enter Tryd.func69, Tryd.ntmps69
  go_wp2_with fail
  refine hi.out.mono ?_
  rintro e w1 ⟨rfl, hb1⟩
  go_wp2
  go_ret
  rw [hq.out, hz.out]
  exact ⟨rfl, hb1⟩
set_option maxRecDepth 100000 in
set_option maxHeartbeats 1000000 in
theorem all_any : ∀ n : Nat, AllAt n
  | 0, _, .mk s ks lf, h, _, _, _, _ => by unfold nodes at h; omega
  | n + 1, S, .mk s ks lf, h, hf, vs, w, ht => by
    have IH := all_any n
    unfold TreeIn at ht
    obtain ⟨A, c, B, d, ws, rfl, hc, hd, hr, hk, hlf⟩ := ht
    have hnk : nodes (.mk s ks lf) = 1 + nodesL ks := by rw [nodes]
    rw [hnk] at h
    obtain ⟨hfl, hfl2, hfk⟩ := hf.mk'
    have HND := Lib.hid (fun W (hb : Below w.heap.size w W) => node_any s ks.length c lf A B d W (hlf.row.below hb) hfl2)
    have HCT := Lib.hid (fun W (hb : Below w.heap.size w W) => containsTrees_any n IH S ks (by omega) hfk hfl A c ws W (hr.stays (Stays.of_below hb) fun _ h _ => h) (hk.below hb))
    have HBB := Lib.hid (one_box w (.cells #[.int .i64 s, .slice A ks.length c, .slice B lf.length d] 38))
    have HV : Hid (allB (.mk s ks lf) = (nodeB s ks.length lf && allL ks)) := Lib.hid (by rw [allB])
    rw [HV.out]
    clear hk hr hlf hc hd hnk hf hfk HV IH
    generalize nodeB s ks.length lf = b1 at *
    generalize allL ks = b2 at *
    cases b1
    · rw [Bool.false_and]
      go_enter Tryd.func52, Tryd.ntmps52
      go_wp2_with fail
      refine (HND.out _ HBB.out.1).mono ?_
      rintro e w2 ⟨rfl, hb2⟩
      go_wp2
      go_ret
      exact ⟨rfl, HBB.out.1.trans (hb2.mono HBB.out.1.size)⟩
    · rw [Bool.true_and]
      go_enter Tryd.func52, Tryd.ntmps52
      go_wp2_with fail
      refine (HND.out _ HBB.out.1).mono ?_
      rintro e w2 ⟨rfl, hb2⟩
      have HX1 := Lib.hid ((hb2.block _ (lt_of_block HBB.out.2)).trans HBB.out.2)
      obtain ⟨x0, x1, x2⟩ := cell3 HX1.out
      have HB2 := Lib.hid (HBB.out.1.trans (hb2.mono HBB.out.1.size))
      clear hb2
      go_wp2_with fail
      refine (HCT.out _ HB2.out).mono ?_
      rintro e w3 ⟨rfl, hb3⟩
      clear x0 x1 x2
      go_wp2
      go_ret
      exact ⟨by simp, HB2.out.trans (hb3.mono HB2.out.size)⟩
end Go.Proofs.YtjjohllfidmkjaaDoor.PfW
