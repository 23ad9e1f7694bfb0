/- Walk: Made. Conditions: the system is little; the rows lie in memory. -/
import Derived.Test.YtjjohllfidmkjaaDoorPfB5
namespace Go.Proofs.YtjjohllfidmkjaaDoor.PfW
open Go Go.RowKit Go.Proofs.YtjjohllfidmkjaaDoor.Mem Go.Proofs.YtjjohllfidmkjaaDoor.Pf
attribute [local go_sem ↓] Go.wp_at_zero Go.wp_at_succ
/-- Where Made stands. -/
structure ML (y : Syst) (A : Option Addr) (cp : Nat) (w wr : World) : Prop where
  sbox : wr.heap[w.heap.size]? = some (.cells #[.int .i64 y.l0, .int .i64 y.l1, .int .i64 y.l2, .int .i64 y.h0, .int .i64 y.h1, .int .i64 y.h2, .slice A y.rows.length cp] 25 (0, 0))
  rbox : wr.heap[w.heap.size + 1]? = some (.cells #[.int .i64 0, .slice none 0 0, .slice none 0 0] 29 (0, 0))
  rows : RowS (fun g => g < w.heap.size) wr A (y.rows.flatMap r4Cells)
  grow : Below w.heap.size w wr
theorem ML.below {y : Syst} {A : Option Addr} {cp : Nat} {w wr w' : World} (h : ML y A cp w wr) (hb : Below wr.heap.size wr w') : ML y A cp w w' :=
  ⟨(hb.block _ (lt_of_block h.sbox)).trans h.sbox, (hb.block _ (lt_of_block h.rbox)).trans h.rbox, h.rows.stays (Stays.of_below hb) (fun _ h _ => h), h.grow.trans (hb.mono h.grow.size)⟩
theorem ML.set {y : Syst} {A : Option Addr} {cp : Nat} {w wr w' : World} {bx : Nat} {ob : Option Nat} (h : ML y A cp w wr) (hg : wr.grownBy w' ob) (hx : w.heap.size + 1 < bx) (hn : ∀ b, b ≤ bx → some b ≠ ob) (j : Nat) (u : Value) : ML y A cp w (w'.setCell ⟨bx, j, none⟩ u) := by
  have k : ∀ b, b < bx → b < wr.heap.size → (w'.setCell ⟨bx, j, none⟩ u).heap[b]? = wr.heap[b]? := fun b hb hz => by
    rw [Below.heap_setCell _ _ _ _ (by show b ≠ bx; omega), hg.block b hz (hn b (by omega))]
  refine ⟨(k _ (by omega) (lt_of_block h.sbox)).trans h.sbox, (k _ (by omega) (lt_of_block h.rbox)).trans h.rbox, h.rows.stays (fun g hg1 hg2 => k g (by omega) hg2) (fun _ h _ => h), ?_⟩
  refine Below.setCell ⟨hg.os.trans h.grow.os, hg.tape.trans h.grow.tape, hg.output.trans h.grow.output, Nat.le_trans h.grow.size hg.size, fun i hi => ?_⟩ (by show w.heap.size ≤ bx; omega) _
  rw [hg.block i (Nat.lt_of_lt_of_le hi h.grow.size) (hn i (by omega))]
  exact h.grow.block i hi
/-- What Made hands back. -/
def MadeRet (r : Option T) (w : World) (e : Ending) (w' : World) : Prop :=
  match r with
  | none => Below w.heap.size w w' ∧ e = .returned (.tuple #[.agg #[.int .i64 0, .slice none 0 0, .slice none 0 0], .bool false])
  | some t => Below w.heap.size w w' ∧ ∃ (s : Int) (A : Option Addr) (m c : Nat) (B : Option Addr) (k d : Nat), e = .returned (.tuple #[.agg #[.int .i64 s, .slice A m c, .slice B k d], .bool true]) ∧ TreeIn (fun g => w.heap.size ≤ g) w' t [.int .i64 s, .slice A m c, .slice B k d]
set_option maxRecDepth 100000 in
set_option maxHeartbeats 8000000 in
theorem made_any (f : Nat) : ∀ (y : Syst) (A : Option Addr) (cp : Nat) (w : World), Little y → side y ≤ f → Row w A (y.rows.flatMap r4Cells) →
    Calls Tryd.prog 37 #[sysV y A cp] w (MadeRet (made f y) w) := by
  induction f using Nat.strongRecOn with
  | ind f ih =>
  intro y A cp w hy hs hr
  have IH := Lib.hid ih
  have HBB := Lib.hid (two_boxes w (.cells #[.int .i64 y.l0, .int .i64 y.l1, .int .i64 y.l2, .int .i64 y.h0, .int .i64 y.h1, .int .i64 y.h2, .slice A y.rows.length cp] 25) (.cells #[.int .i64 0, .slice none 0 0, .slice none 0 0] 29))
  have HL1 : Hid (ML y A cp w ((w.alloc (.cells #[.int .i64 y.l0, .int .i64 y.l1, .int .i64 y.l2, .int .i64 y.h0, .int .i64 y.h1, .int .i64 y.h2, .slice A y.rows.length cp] 25)).alloc (.cells #[.int .i64 0, .slice none 0 0, .slice none 0 0] 29))) := Lib.hid ⟨HBB.out.2.1, HBB.out.2.2, RowS.stays (S' := fun g => g < w.heap.size) (RowS.all hr) (fun g _ hg => HBB.out.1.block g hg) (fun g _ hg => hg), HBB.out.1⟩
  have HRF := Lib.hid (fun W h => refuted_any y A cp W hy h)
  have HWI := Lib.hid (fun W => widest_any y A cp W hy.box)
  have HPARTS := Lib.hid (fun W => parts_any y (widest y) A cp W (by have := widest_ge hy.box; omega) (by have := widest_le hy.box; omega) hy.box)
  unfold sysV at HRF HWI HPARTS ⊢
  clear hr HBB
  cases hrf : refuted y with
  | some i =>
    have HFE := Lib.hid (made_leaf (f := f) hrf)
    rw [hrf] at HRF
    unfold optI at HRF
    simp only at HRF
    have d1 : decide ((0 : Int) ≤ (i : Int)) = true := decide_eq_true (by omega)
    clear hrf
    go_enter Tryd.func37, Tryd.ntmps37
    go_wp2_with fail
    generalize (w.alloc (.cells #[.int .i64 y.l0, .int .i64 y.l1, .int .i64 y.l2, .int .i64 y.h0, .int .i64 y.h1, .int .i64 y.h2, .slice A y.rows.length cp] 25)).alloc (.cells #[.int .i64 0, .slice none 0 0, .slice none 0 0] 29) = W1 at *
    refine (HRF.out W1 HL1.out.rows.row).mono ?_
    rintro e w2 ⟨rfl, hb2⟩
    have HL2 := Lib.hid (HL1.out.below hb2)
    clear hb2
    obtain ⟨r0, r1, r2⟩ := cell3 HL2.out.rbox
    have q0 := free3 HL2.out.rbox 0
    have q1 := free3 HL2.out.rbox 1
    have q2 := free3 HL2.out.rbox 2
    have qz := lt_of_block HL2.out.rbox
    go_wp2
    have KK := Lib.hid (cell3 ((heap_alloc_old (((w2.setCell ⟨w.heap.size + 1, 0, none⟩ (.int .i64 0)).setCell ⟨w.heap.size + 1, 1, none⟩ (.slice none 0 0)).setCell ⟨w.heap.size + 1, 2, none⟩ (.slice (some ⟨w2.heap.size, 0, none⟩) 1 1)) (.cells #[.int .i64 (i : Int)] 3) (by simpa [World.setCell] using qz)).trans (set3 HL2.out.rbox _ _ _)))
    obtain ⟨k0, k1, k2⟩ := KK.out
    refine bodyPost_ret (v := .tuple #[.agg #[.int .i64 0, .slice none 0 0, .slice (some ⟨w2.heap.size, 0, none⟩) 1 1], .bool true]) (by simp [results, Tryd.results37, go_sem, k0, k1, k2]) rfl ?_
    rw [HFE.out]
    refine ⟨((((HL2.out.grow.setCell (by simp) _).setCell (by simp) _).setCell (by simp) _).alloc (by have := HL2.out.grow.size; simpa [World.setCell] using this) _), _, _, _, _, _, _, _, rfl, ?_⟩
    have h9 := heap_alloc_new (((w2.setCell ⟨w.heap.size + 1, 0, none⟩ (.int .i64 0)).setCell ⟨w.heap.size + 1, 1, none⟩ (.slice none 0 0)).setCell ⟨w.heap.size + 1, 2, none⟩ (.slice (some ⟨w2.heap.size, 0, none⟩) 1 1)) (.cells #[.int .i64 (i : Int)] 3)
    have hsz : (((w2.setCell ⟨w.heap.size + 1, 0, none⟩ (.int .i64 0)).setCell ⟨w.heap.size + 1, 1, none⟩ (.slice none 0 0)).setCell ⟨w.heap.size + 1, 2, none⟩ (.slice (some ⟨w2.heap.size, 0, none⟩) 1 1)).heap.size = w2.heap.size := by simp [World.setCell]
    rw [hsz] at h9
    unfold TreeIn
    refine ⟨none, 0, some ⟨w2.heap.size, 0, none⟩, 1, [], rfl, Nat.le_refl _, Nat.le_refl _, fun hne => absurd rfl hne, by unfold KidsIn; rfl, fun _ => ⟨w2.heap.size, 0, rfl, HL2.out.grow.size, lt_of_block h9, fun j hj => ?_⟩⟩
    obtain rfl : j = 0 := by simpa [intCells] using hj
    exact cell_of_one h9
  | none =>
    rw [hrf] at HRF
    unfold optI at HRF
    simp only at HRF
    by_cases hw : widest y < 0
    · have HPA : Hid (parts y (widest y) = none) := Lib.hid (by unfold parts; rw [if_pos hw])
      have HFE := Lib.hid (made_no (f := f) hrf HPA.out)
      clear hrf
      go_enter Tryd.func37, Tryd.ntmps37
      go_wp2_with fail
      generalize (w.alloc (.cells #[.int .i64 y.l0, .int .i64 y.l1, .int .i64 y.l2, .int .i64 y.h0, .int .i64 y.h1, .int .i64 y.h2, .slice A y.rows.length cp] 25)).alloc (.cells #[.int .i64 0, .slice none 0 0, .slice none 0 0] 29) = W1 at *
      refine (HRF.out W1 HL1.out.rows.row).mono ?_
      rintro e w2 ⟨rfl, hb2⟩
      have HL2 := Lib.hid (HL1.out.below hb2)
      clear hb2
      obtain ⟨s0, s1, s2, s3, s4, s5, s6⟩ := cell7 HL2.out.sbox
      have sz := lt_of_block HL2.out.sbox
      go_wp2_with fail
      refine (HWI.out w2).mono ?_
      rintro e w3 ⟨rfl, hb3⟩
      have HL3 := Lib.hid (HL2.out.below hb3)
      clear hb3 s0 s1 s2 s3 s4 s5 s6 sz
      obtain ⟨s0, s1, s2, s3, s4, s5, s6⟩ := cell7 HL3.out.sbox
      have sz := lt_of_block HL3.out.sbox
      have HPT := Lib.hid (HPARTS.out w3)
      rw [HPA.out] at HPT
      go_wp2_with fail
      refine HPT.out.mono ?_
      rintro e w4 ⟨rfl, hb4⟩
      have HLF := Lib.hid (HL3.out.below hb4)
      clear hb4 s0 s1 s2 s3 s4 s5 s6 sz
      obtain ⟨r0, r1, r2⟩ := cell3 HLF.out.rbox
      have q0 := free3 HLF.out.rbox 0
      have q1 := free3 HLF.out.rbox 1
      have q2 := free3 HLF.out.rbox 2
      have qz := lt_of_block HLF.out.rbox
      go_wp2
      refine bodyPost_ret (v := .tuple #[.agg #[.int .i64 0, .slice none 0 0, .slice none 0 0], .bool false]) (by simp [results, Tryd.results37, go_sem, r0, r1, r2]) rfl ?_
      rw [HFE.out]
      exact ⟨((HLF.out.grow.setCell (by simp) _).setCell (by simp) _).setCell (by simp) _, rfl⟩
    · obtain ⟨a, b, hpa⟩ := widest_parts hy.box (by omega)
      obtain ⟨hla, hlb, hsa, hsb, era, erb⟩ := parts_little hpa hy
      obtain ⟨g, rfl⟩ : ∃ g, f = g + 1 := ⟨f - 1, by omega⟩
      have HFE := Lib.hid (made_step (f := g) hrf hpa)
      have HPA := Lib.hid hpa
      have IHA := Lib.hid (fun X hrx => IH.out g (Nat.lt_succ_self g) a A cp X hla (by omega) hrx)
      have IHB := Lib.hid (fun X hrx => IH.out g (Nat.lt_succ_self g) b A cp X hlb (by omega) hrx)
      have HERA := Lib.hid era
      have HERB := Lib.hid erb
      clear era erb hrf hpa
      obtain ⟨j0, ja, jb, jc, jd⟩ := info_parts info_theirs
      unfold sysV at IHA IHB
      cases hbla : made g a with
      | none =>
        rw [hbla] at HFE
        simp only at HFE
        go_enter Tryd.func37, Tryd.ntmps37
        go_wp2_with fail
        generalize (w.alloc (.cells #[.int .i64 y.l0, .int .i64 y.l1, .int .i64 y.l2, .int .i64 y.h0, .int .i64 y.h1, .int .i64 y.h2, .slice A y.rows.length cp] 25)).alloc (.cells #[.int .i64 0, .slice none 0 0, .slice none 0 0] 29) = W1 at *
        refine (HRF.out W1 HL1.out.rows.row).mono ?_
        rintro e w2 ⟨rfl, hb2⟩
        have HL2 := Lib.hid (HL1.out.below hb2)
        clear hb2
        obtain ⟨s0, s1, s2, s3, s4, s5, s6⟩ := cell7 HL2.out.sbox
        have sz := lt_of_block HL2.out.sbox
        go_wp2_with fail
        refine (HWI.out w2).mono ?_
        rintro e w3 ⟨rfl, hb3⟩
        have HL3 := Lib.hid (HL2.out.below hb3)
        clear hb3 s0 s1 s2 s3 s4 s5 s6 sz
        obtain ⟨s0, s1, s2, s3, s4, s5, s6⟩ := cell7 HL3.out.sbox
        have sz := lt_of_block HL3.out.sbox
        have HPT := Lib.hid (HPARTS.out w3)
        rw [HPA.out] at HPT
        go_wp2_with fail
        refine HPT.out.mono ?_
        rintro e w4 ⟨gl, rfl, hgl, hglw, hb4⟩
        have HL4 := Lib.hid (HL3.out.below hb4)
        have TBO := Lib.hid (one_box w4 (.cells #[.int .i64 (widest y), .slice none 0 0, .slice none 0 0] 29))
        have HG0 := Lib.hid ((TBO.out.1.block _ (lt_of_block hgl)).trans hgl)
        have HLa := Lib.hid (HL4.out.below TBO.out.1)
        have hl3 := lt_of_block HL3.out.rbox
        have hb4z := hb4.size
        have hglz := lt_of_block hgl
        clear s0 s1 s2 s3 s4 s5 s6 sz hb4 hgl HPT HRF
        go_upto_region 9 with fail
        have HS0 : Hid (GSt 29 none w4.heap.size w (widest y) [] (.slice none 0 0) [] (w4.alloc (.cells #[.int .i64 (widest y), .slice none 0 0, .slice none 0 0] 29))) := Lib.hid (GSt.start TBO.out.2 (grown_of_below (r := none) HLa.out.grow) (fun b h => by cases h) (by omega))
        clear TBO HL4 HL3 HL2
        generalize w4.alloc (.cells #[.int .i64 (widest y), .slice none 0 0, .slice none 0 0] 29) = W5 at *
        generalize w4.heap.size = bx at *
        go_wp2_with fail
        refine wp_loop_rounds 3 ?_
        rw [rounds_succ]
        obtain ⟨g0, g1, g2, g3, g4, g5, g6⟩ := (cell14 HG0.out).1
        have gz := lt_of_block HG0.out
        have hbxz := lt_of_block HS0.out.box
        have HVB := Lib.hid (fun y (h : (.slice none 0 0 : Value).ownBlock = some y) => (HS0.out.own.lt y h).2)
        go_wp2_with fail
        refine (IHA.out W5 (by rw [HERA.out]; exact HLa.out.rows.row)).mono ?_
        rw [hbla]
        rintro e w4 ⟨hb4, rfl⟩
        have HLF0 := Lib.hid (HLa.out.below hb4)
        have HZ := Lib.hid (one_box w4 (.cells #[.int .i64 0, .slice none 0 0, .slice none 0 0] 29))
        clear g0 g1 g2 g3 g4 g5 g6 gz hb4
        go_upto_region 14 with fail
        have HLF := Lib.hid (HLF0.out.below HZ.out.1)
        clear HLF0 HZ
        generalize w4.alloc (.cells #[.int .i64 0, .slice none 0 0, .slice none 0 0] 29) = W5 at *
        obtain ⟨r0, r1, r2⟩ := cell3 HLF.out.rbox
        have q0 := free3 HLF.out.rbox 0
        have q1 := free3 HLF.out.rbox 1
        have q2 := free3 HLF.out.rbox 2
        have qz := lt_of_block HLF.out.rbox
        go_wp2
        refine bodyPost_ret (v := .tuple #[.agg #[.int .i64 0, .slice none 0 0, .slice none 0 0], .bool false]) (by simp [results, Tryd.results37, go_sem, r0, r1, r2]) rfl ?_
        rw [HFE.out]
        exact ⟨((HLF.out.grow.setCell (by simp) _).setCell (by simp) _).setCell (by simp) _, rfl⟩
      | some ta =>
        rw [hbla] at HFE
        simp only at HFE
        cases hblb : made g b with
        | none =>
          rw [hblb] at HFE
          simp only at HFE
          go_enter Tryd.func37, Tryd.ntmps37
          go_wp2_with fail
          generalize (w.alloc (.cells #[.int .i64 y.l0, .int .i64 y.l1, .int .i64 y.l2, .int .i64 y.h0, .int .i64 y.h1, .int .i64 y.h2, .slice A y.rows.length cp] 25)).alloc (.cells #[.int .i64 0, .slice none 0 0, .slice none 0 0] 29) = W1 at *
          refine (HRF.out W1 HL1.out.rows.row).mono ?_
          rintro e w2 ⟨rfl, hb2⟩
          have HL2 := Lib.hid (HL1.out.below hb2)
          clear hb2
          obtain ⟨s0, s1, s2, s3, s4, s5, s6⟩ := cell7 HL2.out.sbox
          have sz := lt_of_block HL2.out.sbox
          go_wp2_with fail
          refine (HWI.out w2).mono ?_
          rintro e w3 ⟨rfl, hb3⟩
          have HL3 := Lib.hid (HL2.out.below hb3)
          clear hb3 s0 s1 s2 s3 s4 s5 s6 sz
          obtain ⟨s0, s1, s2, s3, s4, s5, s6⟩ := cell7 HL3.out.sbox
          have sz := lt_of_block HL3.out.sbox
          have HPT := Lib.hid (HPARTS.out w3)
          rw [HPA.out] at HPT
          go_wp2_with fail
          refine HPT.out.mono ?_
          rintro e w4 ⟨gl, rfl, hgl, hglw, hb4⟩
          have HL4 := Lib.hid (HL3.out.below hb4)
          have TBO := Lib.hid (one_box w4 (.cells #[.int .i64 (widest y), .slice none 0 0, .slice none 0 0] 29))
          have HG0 := Lib.hid ((TBO.out.1.block _ (lt_of_block hgl)).trans hgl)
          have HLa := Lib.hid (HL4.out.below TBO.out.1)
          have hl3 := lt_of_block HL3.out.rbox
          have hb4z := hb4.size
          have hglz := lt_of_block hgl
          clear s0 s1 s2 s3 s4 s5 s6 sz hb4 hgl HPT HRF
          go_upto_region 9 with fail
          have HS0 : Hid (GSt 29 none w4.heap.size w (widest y) [] (.slice none 0 0) [] (w4.alloc (.cells #[.int .i64 (widest y), .slice none 0 0, .slice none 0 0] 29))) := Lib.hid (GSt.start TBO.out.2 (grown_of_below (r := none) HLa.out.grow) (fun b h => by cases h) (by omega))
          clear TBO HL4 HL3 HL2
          generalize w4.alloc (.cells #[.int .i64 (widest y), .slice none 0 0, .slice none 0 0] 29) = W5 at *
          generalize w4.heap.size = bx at *
          go_wp2_with fail
          refine wp_loop_rounds 3 ?_
          rw [rounds_succ]
          obtain ⟨g0, g1, g2, g3, g4, g5, g6⟩ := (cell14 HG0.out).1
          have gz := lt_of_block HG0.out
          have hbxz := lt_of_block HS0.out.box
          have HVB := Lib.hid (fun y (h : (.slice none 0 0 : Value).ownBlock = some y) => (HS0.out.own.lt y h).2)
          go_wp2_with fail
          refine (IHA.out W5 (by rw [HERA.out]; exact HLa.out.rows.row)).mono ?_
          rw [hbla]
          rintro e w4 ⟨hb4, s0, A0, m0, c0, B0, k0, d0, rfl, hT4⟩
          have HL4 := Lib.hid (HLa.out.below hb4)
          have HG4 := Lib.hid ((hb4.block _ (lt_of_block HG0.out)).trans HG0.out)
          have HS4 := Lib.hid (HS0.out.step (grown_of_below hb4))
          have HT4 := Lib.hid hT4
          have hz4 := hb4.size
          clear hb4 hT4 g0 g1 g2 g3 g4 g5 g6 gz
          have HZ := Lib.hid ((Below.refl w4.heap.size w4).alloc (Nat.le_refl _) (.cells #[.int .i64 s0, .slice A0 m0 c0, .slice B0 k0 d0] 29))
          have HEL := Lib.hid (cell3 (heap_alloc_new w4 (.cells #[.int .i64 s0, .slice A0 m0 c0, .slice B0 k0 d0] 29)))
          have HZS : Hid ((w4.alloc (.cells #[.int .i64 s0, .slice A0 m0 c0, .slice B0 k0 d0] 29)).heap.size = w4.heap.size + 1) := Lib.hid (by simp)
          have HL5 := Lib.hid (HL4.out.below HZ.out)
          have HG5 := Lib.hid ((HZ.out.block _ (lt_of_block HG4.out)).trans HG4.out)
          have HS5 := Lib.hid (HS4.out.step (grown_of_below HZ.out))
          have HT5 := Lib.hid (HT4.out.below HZ.out)
          obtain ⟨x0, x1, x2⟩ := cell3 HS4.out.box
          have xz := lt_of_block HS4.out.box
          go_upto_region 15 with fail
          clear x0 x1 x2 xz
          obtain ⟨e0, e1, e2⟩ := HEL.out
          obtain ⟨b0', b1', b2'⟩ := cell3 HS5.out.box
          have bf := free3 HS5.out.box 1
          have bz := lt_of_block HS5.out.box
          have hz5 : w4.heap.size < (w4.alloc (.cells #[.int .i64 s0, .slice A0 m0 c0, .slice B0 k0 d0] 29)).heap.size := by rw [HZS.out]; omega
          have OWN := Lib.hid HS5.out.own
          clear HEL HZ HZS HL4 HG4 HS4 HT4
          generalize w4.alloc (.cells #[.int .i64 s0, .slice A0 m0 c0, .slice B0 k0 d0] 29) = Y at *
          go_wp2_with (at_builtin; refine wpList_append_lies _ rfl _ _ 26 rfl (bx + 1) 29 j0 _ 3 56 Tryd.underlying26 ja jb jc jd rfl (by omega) (.slice none 0 0) 0 [] rfl (OWN.out.alloc _) ⟨Y.heap.size, 0, none⟩ 1 1 [.int .i64 s0, .slice A0 m0 c0, .slice B0 k0 d0] rfl rfl (World.news_of_block (cs := #[.int .i64 s0, .slice A0 m0 c0, .slice B0 k0 d0]) (t := 29) (fr := (0, 0)) (heap_alloc_new Y _)) (by simp [Value.oneCell']) (by omega) (by unfold maxLen; omega) (by omega) (by simp; omega) (Y.heap.size + 1) (by simp) ?_)
          intro gq0 cq0 w6 hown6 hgrow6 hat6 _
          have HB6 := Lib.hid ((Below.refl Y.heap.size Y).alloc (Nat.le_refl _) (.cells #[.int .i64 s0, .slice A0 m0 c0, .slice B0 k0 d0] 29))
          have nb : ∀ b, b ≤ bx → some b ≠ (.slice none 0 0 : Value).ownBlock := fun b hb e => by have := (OWN.out.lt b e.symm).1; omega
          have HP6 : Hid (GSt 29 none bx w (widest y) [ta] (.slice (some ⟨gq0, 0, none⟩) 1 cq0) [.int .i64 s0, .slice A0 m0 c0, .slice B0 k0 d0] (w6.setCell ⟨bx, 1, none⟩ (.slice (some ⟨gq0, 0, none⟩) 1 cq0))) := Lib.hid (HS5.out.push HB6.out (HT5.out.below HB6.out) (B0 := W5.heap.size) (by omega) (fun y h => HVB.out y h) (hat6.imp (fun h => h) (fun h => by rw [h]; simp)) hown6 hgrow6)
          have k6 := (hgrow6.block _ (by simp; omega) (nb bx (Nat.le_refl _))).trans ((heap_alloc_old Y _ bz).trans HS5.out.box)
          obtain ⟨g0, g1, g2⟩ := cell3 k6
          have gf1 := free3 k6 1
          have gz := lt_of_block k6
          have HL6 := Lib.hid ((HL5.out.below HB6.out).set (bx := bx) hgrow6 (by omega) nb 1 (.slice (some ⟨gq0, 0, none⟩) 1 cq0))
          have HGL : Hid ((w6.setCell ⟨bx, 1, none⟩ (.slice (some ⟨gq0, 0, none⟩) 1 cq0)).heap[gl]? = _) := Lib.hid ((Below.heap_setCell _ _ _ _ (by show gl ≠ bx; omega)).trans ((hgrow6.block _ (by have := lt_of_block HG5.out; simp; omega) (nb gl (by omega))).trans ((HB6.out.block _ (lt_of_block HG5.out)).trans HG5.out)))
          clear k6 hgrow6 hown6 hat6 b0' b1' b2' bf bz nb e0 e1 e2 OWN HB6 HS5 HT5 HL5 HG5 HVB
          go_wp2_with fail
          generalize w6.setCell ⟨bx, 1, none⟩ (.slice (some ⟨gq0, 0, none⟩) 1 cq0) = V1 at *
          clear g0 g1 g2 gf1 gz
          rw [rounds_succ]
          have HLb := HL6
          have HG1 := HGL
          have HS1 := HP6
          clear HLa HG0 HS0 HL6 HGL HP6
          obtain ⟨g0, g1, g2, g3, g4, g5, g6⟩ := (cell14 HG1.out).2
          have gz := lt_of_block HG1.out
          have hbxz := lt_of_block HS1.out.box
          have HVB := Lib.hid (fun y (h : (.slice (some ⟨gq0, 0, none⟩) 1 cq0 : Value).ownBlock = some y) => (HS1.out.own.lt y h).2)
          go_wp2_with fail
          refine (IHB.out V1 (by rw [HERB.out]; exact HLb.out.rows.row)).mono ?_
          rw [hblb]
          rintro e w4 ⟨hb4, rfl⟩
          have HLF0 := Lib.hid (HLb.out.below hb4)
          have HZ := Lib.hid (one_box w4 (.cells #[.int .i64 0, .slice none 0 0, .slice none 0 0] 29))
          clear g0 g1 g2 g3 g4 g5 g6 gz hb4
          go_upto_region 14 with fail
          have HLF := Lib.hid (HLF0.out.below HZ.out.1)
          clear HLF0 HZ
          generalize w4.alloc (.cells #[.int .i64 0, .slice none 0 0, .slice none 0 0] 29) = W5 at *
          obtain ⟨r0, r1, r2⟩ := cell3 HLF.out.rbox
          have q0 := free3 HLF.out.rbox 0
          have q1 := free3 HLF.out.rbox 1
          have q2 := free3 HLF.out.rbox 2
          have qz := lt_of_block HLF.out.rbox
          go_wp2
          refine bodyPost_ret (v := .tuple #[.agg #[.int .i64 0, .slice none 0 0, .slice none 0 0], .bool false]) (by simp [results, Tryd.results37, go_sem, r0, r1, r2]) rfl ?_
          rw [HFE.out]
          exact ⟨((HLF.out.grow.setCell (by simp) _).setCell (by simp) _).setCell (by simp) _, rfl⟩
        | some tb =>
          rw [hblb] at HFE
          simp only at HFE
          go_enter Tryd.func37, Tryd.ntmps37
          go_wp2_with fail
          generalize (w.alloc (.cells #[.int .i64 y.l0, .int .i64 y.l1, .int .i64 y.l2, .int .i64 y.h0, .int .i64 y.h1, .int .i64 y.h2, .slice A y.rows.length cp] 25)).alloc (.cells #[.int .i64 0, .slice none 0 0, .slice none 0 0] 29) = W1 at *
          refine (HRF.out W1 HL1.out.rows.row).mono ?_
          rintro e w2 ⟨rfl, hb2⟩
          have HL2 := Lib.hid (HL1.out.below hb2)
          clear hb2
          obtain ⟨s0, s1, s2, s3, s4, s5, s6⟩ := cell7 HL2.out.sbox
          have sz := lt_of_block HL2.out.sbox
          go_wp2_with fail
          refine (HWI.out w2).mono ?_
          rintro e w3 ⟨rfl, hb3⟩
          have HL3 := Lib.hid (HL2.out.below hb3)
          clear hb3 s0 s1 s2 s3 s4 s5 s6 sz
          obtain ⟨s0, s1, s2, s3, s4, s5, s6⟩ := cell7 HL3.out.sbox
          have sz := lt_of_block HL3.out.sbox
          have HPT := Lib.hid (HPARTS.out w3)
          rw [HPA.out] at HPT
          go_wp2_with fail
          refine HPT.out.mono ?_
          rintro e w4 ⟨gl, rfl, hgl, hglw, hb4⟩
          have HL4 := Lib.hid (HL3.out.below hb4)
          have TBO := Lib.hid (one_box w4 (.cells #[.int .i64 (widest y), .slice none 0 0, .slice none 0 0] 29))
          have HG0 := Lib.hid ((TBO.out.1.block _ (lt_of_block hgl)).trans hgl)
          have HLa := Lib.hid (HL4.out.below TBO.out.1)
          have hl3 := lt_of_block HL3.out.rbox
          have hb4z := hb4.size
          have hglz := lt_of_block hgl
          clear s0 s1 s2 s3 s4 s5 s6 sz hb4 hgl HPT HRF
          go_upto_region 9 with fail
          have HS0 : Hid (GSt 29 none w4.heap.size w (widest y) [] (.slice none 0 0) [] (w4.alloc (.cells #[.int .i64 (widest y), .slice none 0 0, .slice none 0 0] 29))) := Lib.hid (GSt.start TBO.out.2 (grown_of_below (r := none) HLa.out.grow) (fun b h => by cases h) (by omega))
          clear TBO HL4 HL3 HL2
          generalize w4.alloc (.cells #[.int .i64 (widest y), .slice none 0 0, .slice none 0 0] 29) = W5 at *
          generalize w4.heap.size = bx at *
          go_wp2_with fail
          refine wp_loop_rounds 3 ?_
          rw [rounds_succ]
          obtain ⟨g0, g1, g2, g3, g4, g5, g6⟩ := (cell14 HG0.out).1
          have gz := lt_of_block HG0.out
          have hbxz := lt_of_block HS0.out.box
          have HVB := Lib.hid (fun y (h : (.slice none 0 0 : Value).ownBlock = some y) => (HS0.out.own.lt y h).2)
          go_wp2_with fail
          refine (IHA.out W5 (by rw [HERA.out]; exact HLa.out.rows.row)).mono ?_
          rw [hbla]
          rintro e w4 ⟨hb4, s0, A0, m0, c0, B0, k0, d0, rfl, hT4⟩
          have HL4 := Lib.hid (HLa.out.below hb4)
          have HG4 := Lib.hid ((hb4.block _ (lt_of_block HG0.out)).trans HG0.out)
          have HS4 := Lib.hid (HS0.out.step (grown_of_below hb4))
          have HT4 := Lib.hid hT4
          have hz4 := hb4.size
          clear hb4 hT4 g0 g1 g2 g3 g4 g5 g6 gz
          have HZ := Lib.hid ((Below.refl w4.heap.size w4).alloc (Nat.le_refl _) (.cells #[.int .i64 s0, .slice A0 m0 c0, .slice B0 k0 d0] 29))
          have HEL := Lib.hid (cell3 (heap_alloc_new w4 (.cells #[.int .i64 s0, .slice A0 m0 c0, .slice B0 k0 d0] 29)))
          have HZS : Hid ((w4.alloc (.cells #[.int .i64 s0, .slice A0 m0 c0, .slice B0 k0 d0] 29)).heap.size = w4.heap.size + 1) := Lib.hid (by simp)
          have HL5 := Lib.hid (HL4.out.below HZ.out)
          have HG5 := Lib.hid ((HZ.out.block _ (lt_of_block HG4.out)).trans HG4.out)
          have HS5 := Lib.hid (HS4.out.step (grown_of_below HZ.out))
          have HT5 := Lib.hid (HT4.out.below HZ.out)
          obtain ⟨x0, x1, x2⟩ := cell3 HS4.out.box
          have xz := lt_of_block HS4.out.box
          go_upto_region 15 with fail
          clear x0 x1 x2 xz
          obtain ⟨e0, e1, e2⟩ := HEL.out
          obtain ⟨b0', b1', b2'⟩ := cell3 HS5.out.box
          have bf := free3 HS5.out.box 1
          have bz := lt_of_block HS5.out.box
          have hz5 : w4.heap.size < (w4.alloc (.cells #[.int .i64 s0, .slice A0 m0 c0, .slice B0 k0 d0] 29)).heap.size := by rw [HZS.out]; omega
          have OWN := Lib.hid HS5.out.own
          clear HEL HZ HZS HL4 HG4 HS4 HT4
          generalize w4.alloc (.cells #[.int .i64 s0, .slice A0 m0 c0, .slice B0 k0 d0] 29) = Y at *
          go_wp2_with (at_builtin; refine wpList_append_lies _ rfl _ _ 26 rfl (bx + 1) 29 j0 _ 3 56 Tryd.underlying26 ja jb jc jd rfl (by omega) (.slice none 0 0) 0 [] rfl (OWN.out.alloc _) ⟨Y.heap.size, 0, none⟩ 1 1 [.int .i64 s0, .slice A0 m0 c0, .slice B0 k0 d0] rfl rfl (World.news_of_block (cs := #[.int .i64 s0, .slice A0 m0 c0, .slice B0 k0 d0]) (t := 29) (fr := (0, 0)) (heap_alloc_new Y _)) (by simp [Value.oneCell']) (by omega) (by unfold maxLen; omega) (by omega) (by simp; omega) (Y.heap.size + 1) (by simp) ?_)
          intro gq0 cq0 w6 hown6 hgrow6 hat6 _
          have HB6 := Lib.hid ((Below.refl Y.heap.size Y).alloc (Nat.le_refl _) (.cells #[.int .i64 s0, .slice A0 m0 c0, .slice B0 k0 d0] 29))
          have nb : ∀ b, b ≤ bx → some b ≠ (.slice none 0 0 : Value).ownBlock := fun b hb e => by have := (OWN.out.lt b e.symm).1; omega
          have HP6 : Hid (GSt 29 none bx w (widest y) [ta] (.slice (some ⟨gq0, 0, none⟩) 1 cq0) [.int .i64 s0, .slice A0 m0 c0, .slice B0 k0 d0] (w6.setCell ⟨bx, 1, none⟩ (.slice (some ⟨gq0, 0, none⟩) 1 cq0))) := Lib.hid (HS5.out.push HB6.out (HT5.out.below HB6.out) (B0 := W5.heap.size) (by omega) (fun y h => HVB.out y h) (hat6.imp (fun h => h) (fun h => by rw [h]; simp)) hown6 hgrow6)
          have k6 := (hgrow6.block _ (by simp; omega) (nb bx (Nat.le_refl _))).trans ((heap_alloc_old Y _ bz).trans HS5.out.box)
          obtain ⟨g0, g1, g2⟩ := cell3 k6
          have gf1 := free3 k6 1
          have gz := lt_of_block k6
          have HL6 := Lib.hid ((HL5.out.below HB6.out).set (bx := bx) hgrow6 (by omega) nb 1 (.slice (some ⟨gq0, 0, none⟩) 1 cq0))
          have HGL : Hid ((w6.setCell ⟨bx, 1, none⟩ (.slice (some ⟨gq0, 0, none⟩) 1 cq0)).heap[gl]? = _) := Lib.hid ((Below.heap_setCell _ _ _ _ (by show gl ≠ bx; omega)).trans ((hgrow6.block _ (by have := lt_of_block HG5.out; simp; omega) (nb gl (by omega))).trans ((HB6.out.block _ (lt_of_block HG5.out)).trans HG5.out)))
          clear k6 hgrow6 hown6 hat6 b0' b1' b2' bf bz nb e0 e1 e2 OWN HB6 HS5 HT5 HL5 HG5 HVB
          go_wp2_with fail
          generalize w6.setCell ⟨bx, 1, none⟩ (.slice (some ⟨gq0, 0, none⟩) 1 cq0) = V1 at *
          clear g0 g1 g2 gf1 gz
          rw [rounds_succ]
          have HLb := HL6
          have HG1 := HGL
          have HS1 := HP6
          clear HLa HG0 HS0 HL6 HGL HP6
          obtain ⟨g0, g1, g2, g3, g4, g5, g6⟩ := (cell14 HG1.out).2
          have gz := lt_of_block HG1.out
          have hbxz := lt_of_block HS1.out.box
          have HVB := Lib.hid (fun y (h : (.slice (some ⟨gq0, 0, none⟩) 1 cq0 : Value).ownBlock = some y) => (HS1.out.own.lt y h).2)
          go_wp2_with fail
          refine (IHB.out V1 (by rw [HERB.out]; exact HLb.out.rows.row)).mono ?_
          rw [hblb]
          rintro e w4 ⟨hb4, s1, A1, m1, c1, B1, k1, d1, rfl, hT4⟩
          have HL4 := Lib.hid (HLb.out.below hb4)
          have HG4 := Lib.hid ((hb4.block _ (lt_of_block HG1.out)).trans HG1.out)
          have HS4 := Lib.hid (HS1.out.step (grown_of_below hb4))
          have HT4 := Lib.hid hT4
          have hz4 := hb4.size
          clear hb4 hT4 g0 g1 g2 g3 g4 g5 g6 gz
          have HZ := Lib.hid ((Below.refl w4.heap.size w4).alloc (Nat.le_refl _) (.cells #[.int .i64 s1, .slice A1 m1 c1, .slice B1 k1 d1] 29))
          have HEL := Lib.hid (cell3 (heap_alloc_new w4 (.cells #[.int .i64 s1, .slice A1 m1 c1, .slice B1 k1 d1] 29)))
          have HZS : Hid ((w4.alloc (.cells #[.int .i64 s1, .slice A1 m1 c1, .slice B1 k1 d1] 29)).heap.size = w4.heap.size + 1) := Lib.hid (by simp)
          have HL5 := Lib.hid (HL4.out.below HZ.out)
          have HG5 := Lib.hid ((HZ.out.block _ (lt_of_block HG4.out)).trans HG4.out)
          have HS5 := Lib.hid (HS4.out.step (grown_of_below HZ.out))
          have HT5 := Lib.hid (HT4.out.below HZ.out)
          obtain ⟨x0, x1, x2⟩ := cell3 HS4.out.box
          have xz := lt_of_block HS4.out.box
          go_upto_region 15 with fail
          clear x0 x1 x2 xz
          obtain ⟨e0, e1, e2⟩ := HEL.out
          obtain ⟨b0', b1', b2'⟩ := cell3 HS5.out.box
          have bf := free3 HS5.out.box 1
          have bz := lt_of_block HS5.out.box
          have hz5 : w4.heap.size < (w4.alloc (.cells #[.int .i64 s1, .slice A1 m1 c1, .slice B1 k1 d1] 29)).heap.size := by rw [HZS.out]; omega
          have OWN := Lib.hid HS5.out.own
          clear HEL HZ HZS HL4 HG4 HS4 HT4
          generalize w4.alloc (.cells #[.int .i64 s1, .slice A1 m1 c1, .slice B1 k1 d1] 29) = Y at *
          go_wp2_with (at_builtin; refine wpList_append_lies _ rfl _ _ 26 rfl (bx + 1) 29 j0 _ 3 56 Tryd.underlying26 ja jb jc jd rfl (by omega) (.slice (some ⟨gq0, 0, none⟩) 1 cq0) 1 [.int .i64 s0, .slice A0 m0 c0, .slice B0 k0 d0] rfl (OWN.out.alloc _) ⟨Y.heap.size, 0, none⟩ 1 1 [.int .i64 s1, .slice A1 m1 c1, .slice B1 k1 d1] rfl rfl (World.news_of_block (cs := #[.int .i64 s1, .slice A1 m1 c1, .slice B1 k1 d1]) (t := 29) (fr := (0, 0)) (heap_alloc_new Y _)) (by simp [Value.oneCell']) (by omega) (by unfold maxLen; omega) (by omega) (by simp; omega) (Y.heap.size + 1) (by simp) ?_)
          intro gq1 cq1 w6 hown6 hgrow6 hat6 _
          have HB6 := Lib.hid ((Below.refl Y.heap.size Y).alloc (Nat.le_refl _) (.cells #[.int .i64 s1, .slice A1 m1 c1, .slice B1 k1 d1] 29))
          have nb : ∀ b, b ≤ bx → some b ≠ (.slice (some ⟨gq0, 0, none⟩) 1 cq0 : Value).ownBlock := fun b hb e => by have := (OWN.out.lt b e.symm).1; omega
          have HP6 : Hid (GSt 29 none bx w (widest y) [ta, tb] (.slice (some ⟨gq1, 0, none⟩) 2 cq1) ([.int .i64 s0, .slice A0 m0 c0, .slice B0 k0 d0] ++ [.int .i64 s1, .slice A1 m1 c1, .slice B1 k1 d1]) (w6.setCell ⟨bx, 1, none⟩ (.slice (some ⟨gq1, 0, none⟩) 2 cq1))) := Lib.hid (HS5.out.push HB6.out (HT5.out.below HB6.out) (B0 := V1.heap.size) (by omega) (fun y h => HVB.out y h) (hat6.imp (fun h => h) (fun h => by rw [h]; simp)) hown6 hgrow6)
          have k6 := (hgrow6.block _ (by simp; omega) (nb bx (Nat.le_refl _))).trans ((heap_alloc_old Y _ bz).trans HS5.out.box)
          obtain ⟨g0, g1, g2⟩ := cell3 k6
          have gf1 := free3 k6 1
          have gz := lt_of_block k6
          have HL6 := Lib.hid ((HL5.out.below HB6.out).set (bx := bx) hgrow6 (by omega) nb 1 (.slice (some ⟨gq1, 0, none⟩) 2 cq1))
          clear k6 hgrow6 hown6 hat6 b0' b1' b2' bf bz nb e0 e1 e2 OWN HB6 HS5 HT5 HL5 HG5 HVB
          go_wp2_with fail
          generalize w6.setCell ⟨bx, 1, none⟩ (.slice (some ⟨gq1, 0, none⟩) 2 cq1) = V2 at *
          clear g0 g1 g2 gf1 gz
          rw [rounds_succ]
          have HSF := HP6
          have HLF := HL6
          clear HP6 HL6
          obtain ⟨x0, x1, x2⟩ := cell3 HSF.out.box
          obtain ⟨r0, r1, r2⟩ := cell3 HLF.out.rbox
          have q0 := free3 HLF.out.rbox 0
          have q1 := free3 HLF.out.rbox 1
          have q2 := free3 HLF.out.rbox 2
          have qz := lt_of_block HLF.out.rbox
          have xz := lt_of_block HSF.out.box
          go_wp2
          refine bodyPost_ret (v := .tuple #[.agg #[.int .i64 (widest y), .slice (some ⟨gq1, 0, none⟩) 2 cq1, .slice none 0 0], .bool true]) (by simp [results, Tryd.results37, go_sem, r0, r1, r2]) rfl ?_
          rw [HFE.out]
          refine ⟨((HLF.out.grow.setCell (by simp) _).setCell (by simp) _).setCell (by simp) _, _, _, _, _, _, _, _, rfl, ?_⟩
          have hc2 := HSF.out.own
          obtain ⟨_, _, hv2, hcc⟩ := own_shape hc2
          cases hv2
          exact TreeIn.stays (fun g hg _ => three_far _ _ _ _ _ _ (by omega)) (fun g hg _ => by omega) _ _ (HSF.out.tree hcc)
end Go.Proofs.YtjjohllfidmkjaaDoor.PfW
