/- Law walk: ProofParse. -/
import Derived.Test.YtjjohllfidmkjaaDoorPfU9
import Derived.Test.YtjjohllfidmkjaaDoorPfX9
import Derived.Test.YtjjohllfidmkjaaDoorPfAw
import Derived.Test.YtjjohllfidmkjaaDoorPfQ2
import Derived.Test.YtjjohllfidmkjaaDoorPfQ3
import Derived.Deep.RegionHeld3
namespace Go.Proofs.YtjjohllfidmkjaaDoor.Pf
open Go
theorem rParse_fit {s : List UInt8} {t : T} (h : rParse s = some t) (hs : s.length ≤ 1000000) : Fit t := by
  unfold rParse at h
  cases hr : rTree (s.length + 1) 1 s with
  | none => rw [hr] at h; cases h
  | some p =>
    obtain ⟨u, r⟩ := p
    rw [hr] at h
    simp only at h
    split at h
    · cases h
      exact (rTree_some _ _ _ _ _ hr).2.1 hs
    · cases h
def tZ : T := .mk 0 [] []
theorem tZ_in (S : Nat → Prop) (w : World) : TreeIn S w tZ [.int .i64 0, .slice none 0 0, .slice none 0 0] := by
  unfold tZ TreeIn
  exact ⟨none, 0, none, 0, [], rfl, Nat.le_refl _, Nat.le_refl _, fun h => absurd rfl h, by unfold KidsIn; rfl, fun h => absurd rfl h⟩
theorem tZ_fit : Fit tZ := by simp [tZ, Fit, FitL]
theorem tZ_valid : validB tZ = true := by kernel_rfl
theorem tZ_nodes : nodes tZ = 1 := by kernel_rfl
end Go.Proofs.YtjjohllfidmkjaaDoor.Pf
namespace Go.Proofs.YtjjohllfidmkjaaDoor.PfW
open Go Go.RowKit Go.Proofs.YtjjohllfidmkjaaDoor.Mem Go.Proofs.YtjjohllfidmkjaaDoor.Pf
set_option maxRecDepth 100000 in
set_option maxHeartbeats 8000000 in
theorem proofParse_list (s : List UInt8) (w : World) (hG0 : Glob w) (hlen : s.length < 9223372036854775808) :
    Calls Tryd.prog 7 #[.string ⟨s.toArray⟩] w fun e w' => e = .returned (.bool true) ∧ Below w.heap.size w w' := by
  have HG := Lib.hid hG0
  have HAW := Lib.hid (awake_any w hG0)
  have hsz : (ByteArray.mk s.toArray).size = s.length := str_size s
  clear hG0
  by_cases h1000 : 1000 < s.length
  · obtain ⟨SB, hSB⟩ : ∃ SB, SB = ByteArray.mk s.toArray := ⟨_, rfl⟩
    rw [← hSB] at hsz ⊢
    clear hSB
    have d1 : decide ((1000 : Int) < (SB.size : Int)) = true := decide_eq_true (by omega)
    go_enter Tryd.func7, Tryd.ntmps7
    go_wp2_with fail
    refine HAW.out.mono ?_
    rintro e w1 ⟨rfl, hb1⟩
    have HAW1 := Lib.hid (awake_any w1 (HG.out.below hb1))
    have HB1 := Lib.hid hb1
    clear hb1
    go_wp2_with fail
    refine HAW1.out.mono ?_
    rintro e w2 ⟨rfl, hb2⟩
    go_wp2
    go_ret
    exact ⟨rfl, HB1.out.trans (hb2.mono HB1.out.size)⟩
  have hs6 : s.length ≤ 1000000 := by omega
  have HPA := Lib.hid (fun W hg => parse_any s W hg hs6)
  have HPQ := Lib.hid (fun W => rparse_any s W hs6)
  have HEQR := Lib.hid (rParse_eq s hs6)
  rw [HEQR.out] at HPQ
  cases hp : pParse s with
  | none =>
    rw [hp] at HPA HPQ
    clear HEQR hp
    obtain ⟨SB, hSB⟩ : ∃ SB, SB = ByteArray.mk s.toArray := ⟨_, rfl⟩
    rw [← hSB] at hsz HPA HPQ ⊢
    clear hSB
    have d1 : decide ((1000 : Int) < (SB.size : Int)) = false := decide_eq_false (by omega)
    have HSZ := Lib.hid hsz
    clear hsz
    go_enter Tryd.func7, Tryd.ntmps7
    go_wp2_with fail
    refine HAW.out.mono ?_
    rintro e w1 ⟨rfl, hb1⟩
    have HB1 := Lib.hid hb1
    clear hb1 HAW
    have hsz := HSZ.out
    go_wp2_with fail
    refine (HPA.out _ (HG.out.below HB1.out)).mono ?_
    rintro e w2 ⟨hb2, rfl⟩
    have HB2 := Lib.hid (HB1.out.trans (hb2.mono HB1.out.size))
    clear hb2 hsz d1
    have HT1 := Lib.hid (tZ_in (fun _ => True) w2)
    have HFT := Lib.hid tZ_fit
    have HNT : Hid (nodes tZ ≤ 2000) := Lib.hid (by rw [tZ_nodes]; omega)
    have HVT := Lib.hid tZ_valid
    have HPV : Hid (prE tZ = 0) := Lib.hid (by unfold prE; rw [tZ_valid]; rfl)
    have HO3 := Lib.hid (one_box w2 (.cells #[.int .i64 0, .slice none 0 0, .slice none 0 0] 38))
    have HT3 := Lib.hid (HT1.out.below HO3.out.1)
    have HB3 := Lib.hid (HB2.out.trans (HO3.out.1.mono HB2.out.size))
    have HX3 := Lib.hid HO3.out.2
    go_upto_region 4 with fail
    generalize w2.alloc (.cells #[.int .i64 0, .slice none 0 0, .slice none 0 0] 38) = W3 at *
    go_wp2_with fail
    refine (HPQ.out _).mono ?_
    rintro e w4 ⟨hb4, rfl⟩
    have HB4 := Lib.hid (HB3.out.trans (hb4.mono (Below.size HB3.out)))
    have HT4 := Lib.hid (HT3.out.below hb4)
    have HX4 := Lib.hid ((hb4.block _ (lt_of_block HX3.out)).trans HX3.out)
    have HU4 := Lib.hid (tZ_in (fun _ => True) w4)
    clear hb4 HPQ HPA HT3 HX3 HO3 HT1
    have HO5 := Lib.hid (one_box w4 (.cells #[.int .i64 0, .slice none 0 0, .slice none 0 0] 29))
    have HB5 := Lib.hid (HB4.out.trans (HO5.out.1.mono (Below.size HB4.out)))
    have HT5 := Lib.hid (HT4.out.below HO5.out.1)
    have HU5 := Lib.hid (HU4.out.below HO5.out.1)
    have HX5 := Lib.hid ((HO5.out.1.block _ (lt_of_block HX4.out)).trans HX4.out)
    have HY5 := Lib.hid HO5.out.2
    go_upto_region 5 with fail
    generalize w4.alloc (.cells #[.int .i64 0, .slice none 0 0, .slice none 0 0] 29) = W5 at *
    have CS : Hid (∀ w', Below W5.heap.size W5 w' → w'.cell? ⟨w2.heap.size, 0, none⟩ = some (.int .i64 0) ∧ w'.cell? ⟨w2.heap.size, 1, none⟩ = some (.slice none 0 0) ∧ w'.cell? ⟨w2.heap.size, 2, none⟩ = some (.slice none 0 0) ∧ w'.cell? ⟨w4.heap.size, 0, none⟩ = some (.int .i64 0) ∧ w'.cell? ⟨w4.heap.size, 1, none⟩ = some (.slice none 0 0) ∧ w'.cell? ⟨w4.heap.size, 2, none⟩ = some (.slice none 0 0) ∧ Below W5.heap.size W5 w') := Lib.hid (fun w' hb => by
      obtain ⟨a0, a1, a2⟩ := cell3 ((hb.block _ (lt_of_block HX5.out)).trans HX5.out)
      obtain ⟨b0, b1, b2⟩ := cell3 ((hb.block _ (lt_of_block HY5.out)).trans HY5.out)
      exact ⟨a0, a1, a2, b0, b1, b2, hb⟩)
    have HPR := Lib.hid (pprint_any tZ HFT.out (by have := HNT.out; omega) _ 0 none none 0 0 0 0 W5 HT5.out (HG.out.below HB5.out))
    rw [HPV.out] at HPR
    have HV := Lib.hid (fun w' (hb : Below W5.heap.size W5 w') => valid_any tZ HFT.out _ 0 none none 0 0 0 0 w' (HT5.out.below hb))
    rw [HVT.out] at HV
    have HWT := Lib.hid (theirs_any _ tZ (Nat.le_refl _) HFT.out)
    have HSA : Hid (∀ (S S' : Nat → Prop) (vs us : List Value) (w : World), TreeIn S w tZ vs → TreeIn S' w tZ us → Calls Tryd.prog 21 #[.agg vs.toArray, .agg us.toArray] w fun e w' => e = .returned (.bool true) ∧ Below w.heap.size w w') := Lib.hid (by rw [← sameB_self tZ]; exact rsame_any _ tZ tZ (Nat.le_refl _) HFT.out HFT.out)
    obtain ⟨a0, a1, a2, _, _, _, _⟩ := CS.out W5 (Below.refl _ _)
    go_wp2_with fail
    refine HPR.out.mono ?_
    rintro e w6 ⟨rfl, hb6⟩
    clear a0 a1 a2
    obtain ⟨a0, a1, a2, a3, a4, a5, a6⟩ := CS.out w6 hb6
    go_upto_region 6 with fail
    refine wp_region_held_drew (S := fun w' => w'.cell? ⟨w2.heap.size, 0, none⟩ = some (.int .i64 0) ∧ w'.cell? ⟨w2.heap.size, 1, none⟩ = some (.slice none 0 0) ∧ w'.cell? ⟨w2.heap.size, 2, none⟩ = some (.slice none 0 0) ∧ w'.cell? ⟨w4.heap.size, 0, none⟩ = some (.int .i64 0) ∧ w'.cell? ⟨w4.heap.size, 1, none⟩ = some (.slice none 0 0) ∧ w'.cell? ⟨w4.heap.size, 2, none⟩ = some (.slice none 0 0) ∧ Below W5.heap.size W5 w') (by kernel_rfl) ?_ (fun hHeld => ?_)
    · exact CS.out _ (below_drew hb6)
    refine wpAnyH_take (i := 0) (oi := { dst := some 32, op := Op.move (Operand.tmp 4), type := 33, pos := "law.go:65", after := #[], guard := none }) (v := ?_) rfl (by kernel_rfl) (by kernel_rfl) (by kernel_rfl) (fun _ _ _ h => h) (Or.inl ⟨by rfl, ?_⟩) (by assumption) ?_
    rotate_left
    · intro w' hSw
      (try dsimp only at hSw)
      first | (go_simp; done) | (go_simp; with_reducible rfl)
    try simp only [Act.put, List.setIfInBounds_toArray, List.set_cons_zero, List.set_cons_succ]
    refine wpAnyH_take (i := 1) (oi := { dst := some 33, op := Op.move (Operand.tmp 6), type := 33, pos := "law.go:65", after := #[], guard := none }) (v := ?_) rfl (by kernel_rfl) (by kernel_rfl) (by kernel_rfl) (fun _ _ _ h => h) (Or.inl ⟨by rfl, ?_⟩) (by assumption) ?_
    rotate_left
    · intro w' hSw
      (try dsimp only at hSw)
      first | (go_simp; done) | (go_simp; with_reducible rfl)
    try simp only [Act.put, List.setIfInBounds_toArray, List.set_cons_zero, List.set_cons_succ]
    refine wpAnyH_take (i := 2) (oi := { dst := some 34, op := Op.binOp BinOp.eql 33 (Operand.tmp 32) (Operand.tmp 33) 33, type := 4, pos := "law.go:65", after := #[{ on := 0, ground := Ground.data }, { on := 1, ground := Ground.data }], guard := none }) (v := ?_) rfl (by kernel_rfl) (by kernel_rfl) (by kernel_rfl) (fun _ _ _ h => h) (Or.inl ⟨by rfl, ?_⟩) (by assumption) ?_
    rotate_left
    · intro w' hSw
      (try dsimp only at hSw)
      first | (go_simp; done) | (go_simp; with_reducible rfl)
    try simp only [Act.put, List.setIfInBounds_toArray, List.set_cons_zero, List.set_cons_succ]
    refine wpAnyH_take (i := 3) (oi := { dst := some 35, op := Op.move (Operand.tmp 34), type := 4, pos := "law.go:65", after := #[{ on := 2, ground := Ground.data }], guard := none }) (v := ?_) rfl (by kernel_rfl) (by kernel_rfl) (by kernel_rfl) (fun _ _ _ h => h) (Or.inl ⟨by rfl, ?_⟩) (by assumption) ?_
    rotate_left
    · intro w' hSw
      (try dsimp only at hSw)
      first | (go_simp; done) | (go_simp; with_reducible rfl)
    try simp only [Act.put, List.setIfInBounds_toArray, List.set_cons_zero, List.set_cons_succ]
    refine wpAnyH_take (i := 4) (oi := { dst := some 36, op := Op.load 38 (Operand.tmp 3), type := 38, pos := "law.go:65", after := #[{ on := 3, ground := Ground.guard }], guard := some (3, true) }) (v := ?_) rfl (by kernel_rfl) (by kernel_rfl) (by kernel_rfl) (fun _ _ _ h => h) (Or.inl ⟨by rfl, ?_⟩) (by assumption) ?_
    rotate_left
    · intro w' hSw
      (try dsimp only at hSw)
      first | (go_simp; done) | (go_simp; with_reducible rfl)
    try simp only [Act.put, List.setIfInBounds_toArray, List.set_cons_zero, List.set_cons_succ]
    refine wpAnyH_take (i := 6) (oi := { dst := some 38, op := Op.load 29 (Operand.tmp 5), type := 29, pos := "law.go:65", after := #[{ on := 3, ground := Ground.guard }], guard := some (3, true) }) (v := ?_) rfl (by kernel_rfl) (by kernel_rfl) (by kernel_rfl) (fun _ _ _ h => h) (Or.inl ⟨by rfl, ?_⟩) (by assumption) ?_
    rotate_left
    · intro w' hSw
      (try dsimp only at hSw)
      first | (go_simp; done) | (go_simp; with_reducible rfl)
    try simp only [Act.put, List.setIfInBounds_toArray, List.set_cons_zero, List.set_cons_succ]
    refine wpAnyH_ready (rs := [5]) (by kernel_rfl) (by simp) ?_
    refine AllReadyH.cons (o := { dst := some 37, op := Op.call { callee := Callee.value (Operand.func 32), args := #[Operand.tmp 36], argTypes := #[38] }, type := 29, pos := "law.go:65", after := #[{ on := 4, ground := Ground.data }, { on := 3, ground := Ground.chain }, { on := 3, ground := Ground.guard }], guard := some (3, true) }) rfl (fun K hK => ?_) AllReadyH.nil
    go_simp
    go_at_call 32
    refine (HWT.out _ _ _ (HT5.out.below (below_drew hb6))).mono ?_
    rintro e w20 ⟨s3, A3, n3, c3, B3, m3, d3, rfl, ht3, hb200⟩
    have hb20 : Below W5.heap.size W5 w20 := (below_drew hb6).trans (hb200.mono (Below.size (below_drew hb6)))
    refine hK.out _ _ ?_ (fun hHeld => ?_)
    · exact CS.out w20 hb20
    clear hK K
    try simp only [Act.put, List.setIfInBounds_toArray, List.set_cons_zero, List.set_cons_succ]
    refine wpAnyH_ready (rs := [7]) (by kernel_rfl) (by simp) ?_
    refine AllReadyH.cons (o := { dst := some 39, op := Op.call { callee := Callee.value (Operand.func 21), args := #[Operand.tmp 37, Operand.tmp 38], argTypes := #[29, 29] }, type := 4, pos := "law.go:65", after := #[{ on := 5, ground := Ground.data }, { on := 6, ground := Ground.data }, { on := 5, ground := Ground.chain }, { on := 3, ground := Ground.guard }], guard := some (3, true) }) rfl (fun K hK => ?_) AllReadyH.nil
    go_simp
    go_at_call 21
    refine (HSA.out _ _ _ _ _ ht3 (HU5.out.below hb20)).mono ?_
    rintro e w21 ⟨rfl, hb210⟩
    have hb21 : Below W5.heap.size W5 w21 := hb20.trans (hb210.mono (Below.size hb20))
    refine hK.out _ _ ?_ (fun hHeld => ?_)
    · exact CS.out w21 hb21
    clear hK K
    try simp only [Act.put, List.setIfInBounds_toArray, List.set_cons_zero, List.set_cons_succ]
    refine wpAnyH_take (i := 8) (oi := { dst := some 40, op := Op.pick (Operand.tmp 35) (Operand.tmp 39) (Operand.const (Value.bool false)), type := 4, pos := "law.go:65", after := #[{ on := 3, ground := Ground.data }, { on := 7, ground := Ground.data }], guard := none }) (v := ?_) rfl (by kernel_rfl) (by kernel_rfl) (by kernel_rfl) (fun _ _ _ h => h) (Or.inl ⟨by rfl, ?_⟩) (by assumption) ?_
    rotate_left
    · intro w' hSw
      (try dsimp only at hSw)
      first | (go_simp; done) | (go_simp; with_reducible rfl)
    try simp only [Act.put, List.setIfInBounds_toArray, List.set_cons_zero, List.set_cons_succ]
    refine wpAnyH_take (i := 9) (oi := { dst := some 41, op := Op.move (Operand.tmp 40), type := 4, pos := "law.go:65", after := #[{ on := 8, ground := Ground.data }, { on := 7, ground := Ground.chain }], guard := none }) (v := ?_) rfl (by kernel_rfl) (by kernel_rfl) (by kernel_rfl) (fun _ _ _ h => h) (Or.inl ⟨by rfl, ?_⟩) (by assumption) ?_
    rotate_left
    · intro w' hSw
      (try dsimp only at hSw)
      first | (go_simp; done) | (go_simp; with_reducible rfl)
    try simp only [Act.put, List.setIfInBounds_toArray, List.set_cons_zero, List.set_cons_succ]
    refine wpAnyH_take (i := 10) (oi := { dst := some 42, op := Op.move (Operand.tmp 4), type := 33, pos := "law.go:65", after := #[{ on := 9, ground := Ground.guard }], guard := some (9, true) }) (v := ?_) rfl (by kernel_rfl) (by kernel_rfl) (by kernel_rfl) (fun _ _ _ h => h) (Or.inl ⟨by rfl, ?_⟩) (by assumption) ?_
    rotate_left
    · intro w' hSw
      (try dsimp only at hSw)
      first | (go_simp; done) | (go_simp; with_reducible rfl)
    try simp only [Act.put, List.setIfInBounds_toArray, List.set_cons_zero, List.set_cons_succ]
    refine wpAnyH_take (i := 11) (oi := { dst := some 43, op := Op.binOp BinOp.neq 33 (Operand.tmp 42) (Operand.const (Value.int IntKind.i64 0)) 33, type := 4, pos := "law.go:65", after := #[{ on := 10, ground := Ground.data }, { on := 9, ground := Ground.guard }], guard := some (9, true) }) (v := ?_) rfl (by kernel_rfl) (by kernel_rfl) (by kernel_rfl) (fun _ _ _ h => h) (Or.inl ⟨by rfl, ?_⟩) (by assumption) ?_
    rotate_left
    · intro w' hSw
      (try dsimp only at hSw)
      first | (go_simp; done) | (go_simp; with_reducible rfl)
    try simp only [Act.put, List.setIfInBounds_toArray, List.set_cons_zero, List.set_cons_succ]
    refine wpAnyH_take (i := 12) (oi := { dst := some 44, op := Op.move (Operand.tmp 43), type := 4, pos := "law.go:65", after := #[{ on := 11, ground := Ground.data }, { on := 9, ground := Ground.chain }, { on := 9, ground := Ground.guard }], guard := some (9, true) }) (v := ?_) rfl (by kernel_rfl) (by kernel_rfl) (by kernel_rfl) (fun _ _ _ h => h) (Or.inl ⟨by rfl, ?_⟩) (by assumption) ?_
    rotate_left
    · intro w' hSw
      (try dsimp only at hSw)
      first | (go_simp; done) | (go_simp; with_reducible rfl)
    try simp only [Act.put, List.setIfInBounds_toArray, List.set_cons_zero, List.set_cons_succ]
    refine wpAnyH_take (i := 13) (oi := { dst := some 45, op := Op.move (Operand.tmp 8), type := 33, pos := "law.go:65", after := #[{ on := 12, ground := Ground.guard }], guard := some (12, false) }) (v := undef) rfl (by kernel_rfl) (by kernel_rfl) (by kernel_rfl) (fun _ _ _ h => h) (Or.inr ⟨by rfl, rfl⟩) (by assumption) ?_
    try simp only [Act.put, List.setIfInBounds_toArray, List.set_cons_zero, List.set_cons_succ]
    refine wpAnyH_take (i := 14) (oi := { dst := some 46, op := Op.binOp BinOp.eql 33 (Operand.tmp 45) (Operand.const (Value.int IntKind.i64 0)) 33, type := 4, pos := "law.go:65", after := #[{ on := 13, ground := Ground.data }, { on := 12, ground := Ground.guard }], guard := some (12, false) }) (v := undef) rfl (by kernel_rfl) (by kernel_rfl) (by kernel_rfl) (fun _ _ _ h => h) (Or.inr ⟨by rfl, rfl⟩) (by assumption) ?_
    try simp only [Act.put, List.setIfInBounds_toArray, List.set_cons_zero, List.set_cons_succ]
    refine wpAnyH_take (i := 15) (oi := { dst := some 47, op := Op.move (Operand.tmp 46), type := 4, pos := "law.go:65", after := #[{ on := 14, ground := Ground.data }, { on := 12, ground := Ground.chain }, { on := 12, ground := Ground.guard }], guard := some (12, false) }) (v := undef) rfl (by kernel_rfl) (by kernel_rfl) (by kernel_rfl) (fun _ _ _ h => h) (Or.inr ⟨by rfl, rfl⟩) (by assumption) ?_
    try simp only [Act.put, List.setIfInBounds_toArray, List.set_cons_zero, List.set_cons_succ]
    refine wpAnyH_take (i := 16) (oi := { dst := some 48, op := Op.move (Operand.tmp 7), type := 9, pos := "law.go:65", after := #[{ on := 15, ground := Ground.guard }], guard := some (15, true) }) (v := undef) rfl (by kernel_rfl) (by kernel_rfl) (by kernel_rfl) (fun _ _ _ h => h) (Or.inr ⟨by rfl, rfl⟩) (by assumption) ?_
    try simp only [Act.put, List.setIfInBounds_toArray, List.set_cons_zero, List.set_cons_succ]
    refine wpAnyH_take (i := 17) (oi := { dst := some 49, op := Op.move (Operand.tmp 0), type := 9, pos := "law.go:65", after := #[{ on := 15, ground := Ground.guard }], guard := some (15, true) }) (v := undef) rfl (by kernel_rfl) (by kernel_rfl) (by kernel_rfl) (fun _ _ _ h => h) (Or.inr ⟨by rfl, rfl⟩) (by assumption) ?_
    try simp only [Act.put, List.setIfInBounds_toArray, List.set_cons_zero, List.set_cons_succ]
    refine wpAnyH_take (i := 18) (oi := { dst := some 50, op := Op.binOp BinOp.eql 9 (Operand.tmp 48) (Operand.tmp 49) 9, type := 4, pos := "law.go:65", after := #[{ on := 16, ground := Ground.data }, { on := 17, ground := Ground.data }, { on := 15, ground := Ground.guard }], guard := some (15, true) }) (v := undef) rfl (by kernel_rfl) (by kernel_rfl) (by kernel_rfl) (fun _ _ _ h => h) (Or.inr ⟨by rfl, rfl⟩) (by assumption) ?_
    try simp only [Act.put, List.setIfInBounds_toArray, List.set_cons_zero, List.set_cons_succ]
    refine wpAnyH_take (i := 19) (oi := { dst := some 51, op := Op.pick (Operand.tmp 47) (Operand.tmp 50) (Operand.const (Value.bool false)), type := 4, pos := "law.go:65", after := #[{ on := 15, ground := Ground.data }, { on := 18, ground := Ground.data }, { on := 12, ground := Ground.guard }], guard := some (12, false) }) (v := undef) rfl (by kernel_rfl) (by kernel_rfl) (by kernel_rfl) (fun _ _ _ h => h) (Or.inr ⟨by rfl, rfl⟩) (by assumption) ?_
    try simp only [Act.put, List.setIfInBounds_toArray, List.set_cons_zero, List.set_cons_succ]
    refine wpAnyH_take (i := 20) (oi := { dst := some 52, op := Op.move (Operand.tmp 51), type := 4, pos := "law.go:65", after := #[{ on := 19, ground := Ground.data }, { on := 15, ground := Ground.chain }, { on := 12, ground := Ground.guard }], guard := some (12, false) }) (v := undef) rfl (by kernel_rfl) (by kernel_rfl) (by kernel_rfl) (fun _ _ _ h => h) (Or.inr ⟨by rfl, rfl⟩) (by assumption) ?_
    try simp only [Act.put, List.setIfInBounds_toArray, List.set_cons_zero, List.set_cons_succ]
    refine wpAnyH_take (i := 21) (oi := { dst := some 53, op := Op.load 38 (Operand.tmp 3), type := 38, pos := "law.go:65", after := #[{ on := 20, ground := Ground.guard }], guard := some (20, true) }) (v := undef) rfl (by kernel_rfl) (by kernel_rfl) (by kernel_rfl) (fun _ _ _ h => h) (Or.inr ⟨by rfl, rfl⟩) (by assumption) ?_
    try simp only [Act.put, List.setIfInBounds_toArray, List.set_cons_zero, List.set_cons_succ]
    refine wpAnyH_take (i := 22) (oi := { dst := some 54, op := Op.call { callee := Callee.value (Operand.func 24), args := #[Operand.tmp 53], argTypes := #[38] }, type := 4, pos := "law.go:65", after := #[{ on := 21, ground := Ground.data }, { on := 20, ground := Ground.chain }, { on := 20, ground := Ground.guard }], guard := some (20, true) }) (v := undef) rfl (by kernel_rfl) (by kernel_rfl) (by kernel_rfl) (fun _ _ _ h => h) (Or.inr ⟨by rfl, rfl⟩) (by assumption) ?_
    try simp only [Act.put, List.setIfInBounds_toArray, List.set_cons_zero, List.set_cons_succ]
    refine wpAnyH_take (i := 23) (oi := { dst := some 55, op := Op.pick (Operand.tmp 52) (Operand.tmp 54) (Operand.const (Value.bool false)), type := 4, pos := "law.go:65", after := #[{ on := 20, ground := Ground.data }, { on := 22, ground := Ground.data }, { on := 12, ground := Ground.guard }], guard := some (12, false) }) (v := undef) rfl (by kernel_rfl) (by kernel_rfl) (by kernel_rfl) (fun _ _ _ h => h) (Or.inr ⟨by rfl, rfl⟩) (by assumption) ?_
    try simp only [Act.put, List.setIfInBounds_toArray, List.set_cons_zero, List.set_cons_succ]
    refine wpAnyH_take (i := 24) (oi := { dst := some 56, op := Op.pick (Operand.tmp 44) (Operand.const (Value.bool true)) (Operand.tmp 55), type := 4, pos := "law.go:65", after := #[{ on := 12, ground := Ground.data }, { on := 23, ground := Ground.data }, { on := 9, ground := Ground.guard }], guard := some (9, true) }) (v := ?_) rfl (by kernel_rfl) (by kernel_rfl) (by kernel_rfl) (fun _ _ _ h => h) (Or.inl ⟨by rfl, ?_⟩) (by assumption) ?_
    rotate_left
    · intro w' hSw
      (try dsimp only at hSw)
      first | (go_simp; done) | (go_simp; with_reducible rfl)
    try simp only [Act.put, List.setIfInBounds_toArray, List.set_cons_zero, List.set_cons_succ]
    refine wpAnyH_take (i := 25) (oi := { dst := some 57, op := Op.pick (Operand.tmp 41) (Operand.tmp 56) (Operand.const (Value.bool false)), type := 4, pos := "law.go:65", after := #[{ on := 9, ground := Ground.data }, { on := 24, ground := Ground.data }], guard := none }) (v := ?_) rfl (by kernel_rfl) (by kernel_rfl) (by kernel_rfl) (fun _ _ _ h => h) (Or.inl ⟨by rfl, ?_⟩) (by assumption) ?_
    rotate_left
    · intro w' hSw
      (try dsimp only at hSw)
      first | (go_simp; done) | (go_simp; with_reducible rfl)
    try simp only [Act.put, List.setIfInBounds_toArray, List.set_cons_zero, List.set_cons_succ]
    refine wpAnyH_take (i := 26) (oi := { dst := some 2, op := Op.assign (Operand.tmp 57), type := 4, pos := "law.go:65", after := #[{ on := 25, ground := Ground.data }, { on := 22, ground := Ground.chain }, { on := 0, ground := Ground.phase }, { on := 1, ground := Ground.phase }, { on := 2, ground := Ground.phase }, { on := 3, ground := Ground.phase }, { on := 4, ground := Ground.phase }, { on := 5, ground := Ground.phase }, { on := 6, ground := Ground.phase }, { on := 7, ground := Ground.phase }, { on := 8, ground := Ground.phase }, { on := 9, ground := Ground.phase }, { on := 10, ground := Ground.phase }, { on := 11, ground := Ground.phase }, { on := 12, ground := Ground.phase }, { on := 13, ground := Ground.phase }, { on := 14, ground := Ground.phase }, { on := 15, ground := Ground.phase }, { on := 16, ground := Ground.phase }, { on := 17, ground := Ground.phase }, { on := 18, ground := Ground.phase }, { on := 19, ground := Ground.phase }, { on := 20, ground := Ground.phase }, { on := 21, ground := Ground.phase }, { on := 22, ground := Ground.phase }, { on := 23, ground := Ground.phase }, { on := 24, ground := Ground.phase }, { on := 25, ground := Ground.phase }], guard := none }) (v := ?_) rfl (by kernel_rfl) (by kernel_rfl) (by kernel_rfl) (fun _ _ _ h => h) (Or.inl ⟨by rfl, ?_⟩) (by assumption) ?_
    rotate_left
    · intro w' hSw
      (try dsimp only at hSw)
      first | (go_simp; done) | (go_simp; with_reducible rfl)
    try simp only [Act.put, List.setIfInBounds_toArray, List.set_cons_zero, List.set_cons_succ]
    refine wpAnyH_done (by kernel_rfl) ?_ _
    go_wp2
    go_ret
    exact ⟨rfl, HB5.out.trans (hb21.mono HB5.out.size)⟩
  | some t =>
    obtain ⟨hst, hvt, hnt⟩ := parse_some hp
    have HFT := Lib.hid (rParse_fit (HEQR.out.trans hp) hs6)
    have HNT := Lib.hid hnt
    have HVT := Lib.hid hvt
    have HPV : Hid (prT t = s ∧ prE t = 0) := Lib.hid (by unfold prT prE; rw [hvt]; exact ⟨hst.symm, rfl⟩)
    rw [hp] at HPA HPQ
    clear HEQR hp hst hvt hnt
    obtain ⟨SB, hSB⟩ : ∃ SB, SB = ByteArray.mk s.toArray := ⟨_, rfl⟩
    rw [← hSB] at hsz HPA HPQ ⊢
    have HSB := Lib.hid hSB
    clear hSB
    have d1 : decide ((1000 : Int) < (SB.size : Int)) = false := decide_eq_false (by omega)
    have HSZ := Lib.hid hsz
    clear hsz
    go_enter Tryd.func7, Tryd.ntmps7
    go_wp2_with fail
    refine HAW.out.mono ?_
    rintro e w1 ⟨rfl, hb1⟩
    have HB1 := Lib.hid hb1
    clear hb1 HAW
    have hsz := HSZ.out
    go_wp2_with fail
    refine (HPA.out _ (HG.out.below HB1.out)).mono ?_
    rintro e w2 ⟨hb2, s1, A1, n1, c1, B1, m1, e1, rfl, ht1⟩
    have HB2 := Lib.hid (HB1.out.trans (hb2.mono HB1.out.size))
    have HT1 := Lib.hid ht1
    clear hb2 hsz d1 ht1
    obtain ⟨d1, hd1⟩ : ∃ d1, d1 = e1 := ⟨_, rfl⟩
    subst hd1
    have HO3 := Lib.hid (one_box w2 (.cells #[.int .i64 s1, .slice A1 n1 c1, .slice B1 m1 d1] 38))
    have HT3 := Lib.hid (HT1.out.below HO3.out.1)
    have HB3 := Lib.hid (HB2.out.trans (HO3.out.1.mono HB2.out.size))
    have HX3 := Lib.hid HO3.out.2
    go_upto_region 4 with fail
    generalize w2.alloc (.cells #[.int .i64 s1, .slice A1 n1 c1, .slice B1 m1 d1] 38) = W3 at *
    go_wp2_with fail
    refine (HPQ.out _).mono ?_
    rintro e w4 ⟨hb4, s2, A2, n2, c2, B2, m2, d2, rfl, hu4⟩
    have HB4 := Lib.hid (HB3.out.trans (hb4.mono (Below.size HB3.out)))
    have HT4 := Lib.hid (HT3.out.below hb4)
    have HX4 := Lib.hid ((hb4.block _ (lt_of_block HX3.out)).trans HX3.out)
    have HU4 := Lib.hid hu4
    clear hb4 HPQ HPA HT3 HX3 HO3 HT1 hu4
    have HO5 := Lib.hid (one_box w4 (.cells #[.int .i64 s2, .slice A2 n2 c2, .slice B2 m2 d2] 29))
    have HB5 := Lib.hid (HB4.out.trans (HO5.out.1.mono (Below.size HB4.out)))
    have HT5 := Lib.hid (HT4.out.below HO5.out.1)
    have HU5 := Lib.hid (HU4.out.below HO5.out.1)
    have HX5 := Lib.hid ((HO5.out.1.block _ (lt_of_block HX4.out)).trans HX4.out)
    have HY5 := Lib.hid HO5.out.2
    go_upto_region 5 with fail
    generalize w4.alloc (.cells #[.int .i64 s2, .slice A2 n2 c2, .slice B2 m2 d2] 29) = W5 at *
    have CS : Hid (∀ w', Below W5.heap.size W5 w' → w'.cell? ⟨w2.heap.size, 0, none⟩ = some (.int .i64 s1) ∧ w'.cell? ⟨w2.heap.size, 1, none⟩ = some (.slice A1 n1 c1) ∧ w'.cell? ⟨w2.heap.size, 2, none⟩ = some (.slice B1 m1 d1) ∧ w'.cell? ⟨w4.heap.size, 0, none⟩ = some (.int .i64 s2) ∧ w'.cell? ⟨w4.heap.size, 1, none⟩ = some (.slice A2 n2 c2) ∧ w'.cell? ⟨w4.heap.size, 2, none⟩ = some (.slice B2 m2 d2) ∧ Below W5.heap.size W5 w') := Lib.hid (fun w' hb => by
      obtain ⟨a0, a1, a2⟩ := cell3 ((hb.block _ (lt_of_block HX5.out)).trans HX5.out)
      obtain ⟨b0, b1, b2⟩ := cell3 ((hb.block _ (lt_of_block HY5.out)).trans HY5.out)
      exact ⟨a0, a1, a2, b0, b1, b2, hb⟩)
    have HPR := Lib.hid (pprint_any t HFT.out (by have := HNT.out; omega) _ s1 A1 B1 n1 c1 m1 d1 W5 HT5.out (HG.out.below HB5.out))
    rw [HPV.out.1, HPV.out.2, ← HSB.out] at HPR
    have HV := Lib.hid (fun w' (hb : Below W5.heap.size W5 w') => valid_any t HFT.out _ s1 A1 B1 n1 c1 m1 d1 w' (HT5.out.below hb))
    rw [HVT.out] at HV
    have HWT := Lib.hid (theirs_any _ t (Nat.le_refl _) HFT.out)
    have HSA : Hid (∀ (S S' : Nat → Prop) (vs us : List Value) (w : World), TreeIn S w t vs → TreeIn S' w t us → Calls Tryd.prog 21 #[.agg vs.toArray, .agg us.toArray] w fun e w' => e = .returned (.bool true) ∧ Below w.heap.size w w') := Lib.hid (by rw [← sameB_self t]; exact rsame_any _ t t (Nat.le_refl _) HFT.out HFT.out)
    obtain ⟨a0, a1, a2, _, _, _, _⟩ := CS.out W5 (Below.refl _ _)
    go_wp2_with fail
    refine HPR.out.mono ?_
    rintro e w6 ⟨rfl, hb6⟩
    clear a0 a1 a2
    obtain ⟨a0, a1, a2, a3, a4, a5, a6⟩ := CS.out w6 hb6
    go_upto_region 6 with fail
    go_region_held3 (fun w' => w'.cell? ⟨w2.heap.size, 0, none⟩ = some (.int .i64 s1) ∧ w'.cell? ⟨w2.heap.size, 1, none⟩ = some (.slice A1 n1 c1) ∧ w'.cell? ⟨w2.heap.size, 2, none⟩ = some (.slice B1 m1 d1) ∧ w'.cell? ⟨w4.heap.size, 0, none⟩ = some (.int .i64 s2) ∧ w'.cell? ⟨w4.heap.size, 1, none⟩ = some (.slice A2 n2 c2) ∧ w'.cell? ⟨w4.heap.size, 2, none⟩ = some (.slice B2 m2 d2) ∧ Below W5.heap.size W5 w')
      (first | assumption | exact CS.out _ (below_drew (by assumption)) | exact CS.out _ (by assumption))
      (first
        | (go_at_call 32; obtain ⟨_, _, _, _, _, _, hbx⟩ := ‹_ ∧ _ ∧ _ ∧ _ ∧ _ ∧ _ ∧ Below _ _ _›; refine (HWT.out _ _ _ (HT5.out.below hbx)).mono ?_; rintro e w20 ⟨s3, A3, n3, c3, B3, m3, d3, rfl, ht3, hb200⟩; have hb20 : Below W5.heap.size W5 w20 := hbx.trans (hb200.mono (Below.size hbx)))
        | (go_at_call 21; refine (HSA.out _ _ _ _ _ ht3 (HU5.out.below hb20)).mono ?_; rintro e w21 ⟨rfl, hb210⟩; have hb21 : Below W5.heap.size W5 w21 := hb20.trans (hb210.mono (Below.size hb20)))
        | (go_at_call 24; refine (HV.out _ hb21).mono ?_; rintro e w22 ⟨rfl, hb220⟩; have hb22 : Below W5.heap.size W5 w22 := hb21.trans (hb220.mono (Below.size hb21))))
    go_wp2
    go_ret
    exact ⟨rfl, HB5.out.trans (hb22.mono HB5.out.size)⟩
theorem proofParse_walk (s : ByteArray) (w : World) (hs : s.size ≤ maxLen) (hG : Glob w) : Calls Tryd.prog 7 #[.string s] w fun e w' => e = .returned (.bool true) ∧ Below w.heap.size w w' := by
  have h := proofParse_list s.data.toList w hG (by unfold maxLen at hs; rw [Array.length_toList]; show s.size < _; omega)
  exact h
end Go.Proofs.YtjjohllfidmkjaaDoor.PfW
