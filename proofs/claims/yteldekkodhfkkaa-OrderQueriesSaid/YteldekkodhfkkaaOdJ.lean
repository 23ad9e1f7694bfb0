/- The law OrderJoined, walked. Conditions: the lists lie in memory. -/
import Derived.Test.YteldekkodhfkkaaOdAw
import Derived.Test.YteldekkodhfkkaaKept
namespace Go.Proofs.Yteldekkodhfkkaa.OdW
open Go Go.RowKit Go.Proofs.Yteldekkodhfkkaa.Mem

theorem normal_two (l : List Od.It) : (normal l).2 = 0 ∨ (normal l).2 = 1 ∨ (normal l).2 = 2 := by
  rcases normal_ways l with ⟨_, e⟩ | ⟨_, _, e⟩ | ⟨_, _, e⟩ <;> rw [e] <;> simp
theorem normal_zero {l : List Od.It} (h : (normal l).2 = 0) : Od.valid l = true ∧ (normal l).1 = (sums l).map toIt := by
  rcases normal_ways l with ⟨_, e⟩ | ⟨_, _, e⟩ | ⟨hv, _, e⟩
  · rw [e] at h; simp at h
  · rw [e] at h; simp at h
  · rw [e]; exact ⟨hv, rfl⟩
theorem normal_same {a b : List Od.It} (ha : Od.valid a = true) (hb : Od.valid b = true) (h : sums a = sums b) : normal a = normal b := by
  unfold normal
  rw [ha, hb, h]
theorem normal_joined {l m : List Od.It} (hl : (normal l).2 = 0) (hm : (normal m).2 = 0) (hlen : l.length + m.length ≤ 60) : normal ((normal l).1 ++ (normal m).1) = normal (l ++ m) := by
  obtain ⟨v1, e1⟩ := normal_zero hl
  obtain ⟨v2, e2⟩ := normal_zero hm
  have hv : Od.valid (l ++ m) = true := valid_of (by simp; omega) (fun x hx => by
    rcases List.mem_append.1 hx with h | h
    · exact Od.valid_ok v1 h
    · exact Od.valid_ok v2 h)
  have n1 : (normal l).1.length ≤ l.length := by
    rw [e1]
    have := nf_len (lt := Od.kl) (l.map kq)
    simpa [sums] using this
  have n2 : (normal m).1.length ≤ m.length := by
    rw [e2]
    have := nf_len (lt := Od.kl) (m.map kq)
    simpa [sums] using this
  refine normal_same (valid_of (by simp; omega) (fun x hx => ?_)) hv ?_
  · rcases List.mem_append.1 hx with h | h
    · exact (normal_item h).1
    · exact (normal_item h).1
  · unfold sums
    rw [e1, e2, List.map_append, map_kq, map_kq, List.map_append]
    exact Od.nf_app Od.kl_tot _ _
theorem few_shorts {l : List Od.It} (h : few l = true) : ∀ m ∈ l, Od.Short m := fun m hm => by
  have := (few_short h).2 m hm
  exact ⟨by omega, by omega⟩
theorem own_empty (w : World) (base : Nat) (e : TypeId) (size : Nat) (hb : base ≤ w.heap.size) : (w.alloc (.cells #[] e)).ownsRow base e size (.slice (some ⟨w.heap.size, 0, none⟩) 0 0) 0 [] :=
  ⟨by simp, .inr ⟨w.heap.size, 0, #[], rfl, hb, heap_alloc_new w _, Nat.le_refl _, by unfold maxLen; omega, by simp, by simp⟩⟩
theorem it_cell (l : List Od.It) : ∀ u ∈ l.flatMap itCells, u.oneCell' = true := by
  intro u hu
  obtain ⟨x, _, hx⟩ := List.mem_flatMap.1 hu
  unfold itCells at hx
  simp at hx
  rcases hx with rfl | rfl | rfl | rfl <;> rfl
theorem shorts_app {a b : List Od.It} (ha : ∀ m ∈ a, Od.Short m) (hb : ∀ m ∈ b, Od.Short m) : ∀ m ∈ a ++ b, Od.Short m := fun m hm => (List.mem_append.1 hm).elim (ha m) (hb m)

set_option maxRecDepth 100000 in
set_option maxHeartbeats 4000000 in
theorem orderJoined_good (l m : List Od.It) (A B : Option Addr) (c d : Nat) (w : World) (hr : Row w A (l.flatMap itCells)) (hs : Row w B (m.flatMap itCells)) (hfl : few l = true) (hfm : few m = true) (hlen : l.length + m.length ≤ 60) (h1 : (normal l).2 = 0) (h2 : (normal m).2 = 0) :
    Calls Try.prog 5 #[.slice A l.length c, .slice B m.length d] w fun e w' => e = .returned (.bool true) ∧ Below w.heap.size w w' := by
  have hsl := few_shorts hfl
  have hsm := few_shorts hfm
  have HFA := Lib.hid (fun A k W h => few_any l A k W h (by omega))
  have HFB := Lib.hid (fun A k W h => few_any m A k W h (by omega))
  rw [hfl] at HFA
  rw [hfm] at HFB
  have HNL := Lib.hid (fun A k W h => normal_any l A k W h (by omega) hsl)
  have HNM := Lib.hid (fun A k W h => normal_any m A k W h (by omega) hsm)
  have HN2 := Lib.hid (fun A k W h => normal_any (l ++ m) A k W h (by rw [List.length_append]; omega) (shorts_app hsl hsm))
  have q1 := normal_len l
  have q2 := normal_len m
  have HN3 := Lib.hid (fun A k W h => normal_any ((normal l).1 ++ (normal m).1) A k W h (by rw [List.length_append]; omega) (shorts_app (normal_short hsl) (normal_short hsm)))
  rw [normal_joined h1 h2 hlen] at HN3
  rw [h1] at HNL
  rw [h2] at HNM
  have q3 := normal_len (l ++ m)
  generalize (normal l).1 = a at *
  generalize (normal m).1 = b at *
  rw [List.length_append] at HN2 HN3
  generalize hX : normal (l ++ m) = X at *
  obtain ⟨xl, xe⟩ := X
  simp only at HN2 HN3 q3
  clear hX
  have HS := Lib.hid (fun A B k j W h1 h2 => rsame_any xl xl A B k j W h1 h2 (by omega) (by omega))
  rw [decide_eq_true rfl] at HS
  have L1 := Lib.hid (flatMap_len it_len l)
  have L2 := Lib.hid (flatMap_len it_len m)
  have L3 := Lib.hid (flatMap_len it_len a)
  have L4 := Lib.hid (flatMap_len it_len b)
  obtain ⟨i0, ia, ib, ic, id⟩ := info_parts info_item
  have HK0 := Lib.hid (((Kept.start w).add hr).add hs)
  clear hr hs hfl hfm h1 h2 hsl hsm
  have d60 : decide ((60 : Int) < (l.length : Int) + (m.length : Int)) = false := by simp; omega
  go_enter Try.func5, Try.ntmps5
  go_wp2_with fail
  refine (awake_any _).mono ?_
  rintro e w1 ⟨rfl, hb⟩
  have HK1 := Lib.hid (HK0.out.below hb)
  clear hb HK0
  go_wp2_with fail
  refine (HFA.out _ _ _ (HK1.out.r 0 rfl)).mono ?_
  rintro e wx ⟨rfl, rfl⟩
  go_wp2_with fail
  refine (HFB.out _ _ _ (HK1.out.r 1 rfl)).mono ?_
  rintro e wx ⟨rfl, rfl⟩
  go_wp2_with fail
  refine (HNL.out _ _ _ (HK1.out.r 0 rfl)).mono ?_
  rintro e w2 ⟨A2, c2, rfl, hr2, hb⟩
  have HK2 := Lib.hid ((HK1.out.below hb).add hr2)
  clear hb HK1 hr2
  go_wp2_with fail
  refine (HNM.out _ _ _ (HK2.out.r 1 rfl)).mono ?_
  rintro e w3 ⟨A3, c3, rfl, hr3, hb⟩
  have HK3 := Lib.hid ((HK2.out.below hb).add hr3)
  have hz3 := HK3.out.bel.size
  clear hb HK2 hr3
  -- APPENDS
  have hE1 := Lib.hid ((Below.refl w3.heap.size w3).alloc (Nat.le_refl _) (.cells #[] 36))
  have HO1 := Lib.hid (own_empty w3 w3.heap.size 36 4 (Nat.le_refl _))
  have hR1 := Lib.hid ((HK3.out.r 0 rfl).below hE1.out)
  have B1 : Hid (0 + l.length ≤ maxLen ∧ (0 + l.length) * 48 ≤ 140737488355328) := Lib.hid (by unfold maxLen; omega)
  have C1 : Hid (0 + l.length + m.length ≤ maxLen ∧ (0 + l.length + m.length) * 48 ≤ 140737488355328) := Lib.hid (by unfold maxLen; omega)
  go_upto_region 10 with (first
    | (at_builtin; refine wpList_append_row _ rfl _ _ 22 rfl w3.heap.size 36 i0 _ 4 48 Try.underlying22 ia ib ic id rfl (by omega) _ _ _ rfl HO1.out A l.length _ (l.flatMap itCells) rfl hR1.out (flatMap_len it_len l) (it_cell l) B1.out.1 B1.out.2 (Below.size hE1.out) ?_; intro va1 wa1 howna1 hga1; have hF1 := Lib.hid (below_append hE1.out hE1.out.size HO1.out hga1 (Nat.le_refl _)); have hP1 := Lib.hid howna1; have hS1 := Lib.hid ((HK3.out.r 1 rfl).below hF1.out); clear howna1 hga1)
    | (at_builtin; refine wpList_append_row _ rfl _ _ 22 rfl w3.heap.size 36 i0 _ 4 48 Try.underlying22 ia ib ic id rfl (by omega) _ _ _ rfl hP1.out B m.length _ (m.flatMap itCells) rfl hS1.out (flatMap_len it_len m) (it_cell m) C1.out.1 C1.out.2 (Below.size hF1.out) ?_; intro vb1 wb1 hownb1 hgb1; have hG1 := Lib.hid (below_append hF1.out hF1.out.size hP1.out hgb1 (Nat.le_refl _)); have hQ1 : Hid (wb1.ownsRow w3.heap.size 36 4 vb1 (l.length + m.length) ((l ++ m).flatMap itCells)) := Lib.hid (by rw [List.flatMap_append]; simpa using hownb1); clear hownb1 hgb1; obtain ⟨Ab1, cb1, rfl, _⟩ := own_shape hQ1.out)
    | (go_at_call 11; refine (HN2.out _ _ _ (Row.of_own hQ1.out)).mono ?_; rintro e w4 ⟨A4, c4, rfl, hr, hb⟩; have HK3b := Lib.hid (((HK3.out.below hG1.out).below hb).add hr); clear hr hb)
    | fail)
  clear hE1 HO1 hR1 B1 C1 hF1 hP1 hS1 hG1 hQ1 HK3 HN2
  have hE2 := Lib.hid ((Below.refl w4.heap.size w4).alloc (Nat.le_refl _) (.cells #[] 36))
  have HO2 := Lib.hid (own_empty w4 w4.heap.size 36 4 (Nat.le_refl _))
  have hR2 := Lib.hid ((HK3b.out.r 2 rfl).below hE2.out)
  have B2 : Hid (0 + a.length ≤ maxLen ∧ (0 + a.length) * 48 ≤ 140737488355328) := Lib.hid (by unfold maxLen; omega)
  have C2 : Hid (0 + a.length + b.length ≤ maxLen ∧ (0 + a.length + b.length) * 48 ≤ 140737488355328) := Lib.hid (by unfold maxLen; omega)
  go_upto_region 11 with (first
    | (at_builtin; refine wpList_append_row _ rfl _ _ 22 rfl w4.heap.size 36 i0 _ 4 48 Try.underlying22 ia ib ic id rfl (by omega) _ _ _ rfl HO2.out A2 a.length _ (a.flatMap itCells) rfl hR2.out (flatMap_len it_len a) (it_cell a) B2.out.1 B2.out.2 (Below.size hE2.out) ?_; intro va2 wa2 howna2 hga2; have hF2 := Lib.hid (below_append hE2.out hE2.out.size HO2.out hga2 (Nat.le_refl _)); have hP2 := Lib.hid howna2; have hS2 := Lib.hid ((HK3b.out.r 3 rfl).below hF2.out); clear howna2 hga2)
    | (at_builtin; refine wpList_append_row _ rfl _ _ 22 rfl w4.heap.size 36 i0 _ 4 48 Try.underlying22 ia ib ic id rfl (by omega) _ _ _ rfl hP2.out A3 b.length _ (b.flatMap itCells) rfl hS2.out (flatMap_len it_len b) (it_cell b) C2.out.1 C2.out.2 (Below.size hF2.out) ?_; intro vb2 wb2 hownb2 hgb2; have hG2 := Lib.hid (below_append hF2.out hF2.out.size hP2.out hgb2 (Nat.le_refl _)); have hQ2 : Hid (wb2.ownsRow w4.heap.size 36 4 vb2 (a.length + b.length) ((a ++ b).flatMap itCells)) := Lib.hid (by rw [List.flatMap_append]; simpa using hownb2); clear hownb2 hgb2; obtain ⟨Ab2, cb2, rfl, _⟩ := own_shape hQ2.out)
    | (go_at_call 11; refine (HN3.out _ _ _ (Row.of_own hQ2.out)).mono ?_; rintro e w5 ⟨A5, c5, rfl, hr, hb⟩; have HK3bb := Lib.hid (((HK3b.out.below hG2.out).below hb).add hr); clear hr hb)
    | fail)
  clear hE2 HO2 hR2 B2 C2 hF2 hP2 hS2 hG2 hQ2 HK3b HN3
  go_wp2_with fail
  refine (HS.out _ _ _ _ _ (HK3bb.out.r 4 rfl) (HK3bb.out.r 5 rfl)).mono ?_
  rintro e w6 ⟨rfl, hb⟩
  have hf := Lib.hid (HK3bb.out.below hb).bel
  clear hb
  go_wp2
  go_ret
  exact ⟨rfl, hf.out⟩
end Go.Proofs.Yteldekkodhfkkaa.OdW
