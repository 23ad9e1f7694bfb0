/- Walk: the closure of Check over counts, at a full tree. Conditions: the numbers are small; the tree lies in older memory. -/
import Derived.Test.YtjjohllfidmkjaaDoorPfK2
import Derived.Test.YtjjohllfidmkjaaDoorPfC2
namespace Go.Proofs.YtjjohllfidmkjaaDoor.PfW
open Go Go.RowKit Go.Proofs.YtjjohllfidmkjaaDoor.Mem Go.Proofs.YtjjohllfidmkjaaDoor.Pf
attribute [local go_sem ↓] Go.wp_at_zero Go.wp_at_succ
def wrongC (bl bs bp bw : Nat) : Value := .func (.func 63) #[] #[.pointer (some ⟨bl, 0, none⟩), .pointer (some ⟨bs, 0, none⟩), .pointer (some ⟨bp, 0, none⟩), .pointer (some ⟨bw, 0, none⟩)]
/-- What the closure captured. -/
structure CapK (b0 bl bs bp bw base : Nat) (w : World) : Prop where
  hl : w.heap[bl]? = some (.cells #[.func (.func 42) #[] #[]] 69 (0, 0))
  hs : w.heap[bs]? = some (.cells #[.func (.func 39) #[] #[]] 66 (0, 0))
  hw : w.heap[bw]? = some (.cells #[wrongC bl bs bp bw] 102 (0, 0))
  h3 : b0 ≤ bp
  h4 : b0 ≤ bw
  n1 : bl ≠ bp
  n2 : bs ≠ bp
  n3 : bw ≠ bp
  m1 : bl < base
  m2 : bs < base
  m3 : bw < base
theorem CapK.step {b0 bl bs bp bw base : Nat} {w w' : World} {v v' : Value} (h : CapK b0 bl bs bp bw base w) (hs : PStep bp v v' w w') (ho : ∀ g, v.ownBlock = some g → base ≤ g) : CapK b0 bl bs bp bw base w' :=
  ⟨(hs.block _ (lt_of_block h.hl) h.n1 (fun e => by have := ho _ e; have := h.m1; omega)).trans h.hl,
   (hs.block _ (lt_of_block h.hs) h.n2 (fun e => by have := ho _ e; have := h.m2; omega)).trans h.hs,
   (hs.block _ (lt_of_block h.hw) h.n3 (fun e => by have := ho _ e; have := h.m3; omega)).trans h.hw, h.h3, h.h4, h.n1, h.n2, h.n3, h.m1, h.m2, h.m3⟩
def LiveRow (bp : Nat) (v : Value) (w : World) (A : Option Addr) (xs : List Value) : Prop := RowS (fun g => g ≠ bp ∧ v.ownBlock ≠ some g) w A xs
theorem LiveRow.step {bp : Nat} {v v' : Value} {w w' : World} {A : Option Addr} {xs : List Value} (h : LiveRow bp v w A xs) (hs : PStep bp v v' w w') : LiveRow bp v' w' A xs :=
  RowS.stays h (fun g hg hlt => hs.block g hlt hg.1 hg.2) (fun g hg hlt => ⟨hg.1, fun e => by
    rcases hs.own g e with e1 | e1
    · exact hg.2 e1
    · omega⟩)
theorem cpart_cells {S : Nat → Prop} {w : World} {gl ol L l k j : Nat} (hL : (L : Int) - 1 = (l : Int)) (h : RowS S w (some ⟨gl, ol, none⟩) (cparts L k k)) (hj : j < k) : w.cell? ⟨gl, ol + j * 2, none⟩ = some (.int .i64 (l : Int)) ∧ w.cell? ⟨gl, ol + j * 2 + 1, none⟩ = some (.int .i64 (k : Int)) := by
  obtain ⟨g, off, e, _, _, hcr⟩ := h (by intro h0; have := cparts_len L k k; rw [h0] at this; simp at this; omega)
  cases e
  refine ⟨?_, ?_⟩
  · rw [hcr (j * 2) (by rw [cparts_len]; omega), ← hL]
    have h9 := flatMap_get cc_len (List.replicate k (((L : Int) - 1), (k : Int))) j 0 (by simpa using hj) (by decide)
    unfold cparts
    rw [Nat.add_zero] at h9
    rw [h9, List.getElem_replicate]
    rfl
  · rw [show ol + j * 2 + 1 = ol + (j * 2 + 1) by omega, hcr (j * 2 + 1) (by rw [cparts_len]; omega)]
    have h9 := flatMap_get cc_len (List.replicate k (((L : Int) - 1), (k : Int))) j 1 (by simpa using hj) (by decide)
    unfold cparts
    rw [h9, List.getElem_replicate]
    rfl
theorem len_rep (k : Nat) (t : T) : (List.replicate k t).length = k := List.length_replicate
set_option maxRecDepth 100000 in
set_option maxHeartbeats 8000000 in
theorem wrongC_any (k : Nat) (hk : 0 < k) (hk2 : k ≤ 1000) : ∀ (l : Nat), l ≤ 45 → ∀ (b0 bl bs bp bw base : Nat) (vs : List Value) (v : Value) (pl : List Nat) (w : World),
    TreeIn (fun g => g < b0) w (full k l) vs → CapK b0 bl bs bp bw base w → PathIs base bp 27 3 v pl w → pl.length + l ≤ 100 →
    Calls Tryd.prog 63 #[.agg #[.int .i64 (l : Int), .int .i64 (k : Int)], .agg vs.toArray, .pointer (some ⟨bl, 0, none⟩), .pointer (some ⟨bs, 0, none⟩), .pointer (some ⟨bp, 0, none⟩), .pointer (some ⟨bw, 0, none⟩)] w (fun e w' => ∃ v', e = .returned (.bool false) ∧ PathIs base bp 27 3 v' pl w' ∧ PStep bp v v' w w')
  | 0, _, b0, bl, bs, bp, bw, base, vs, v, pl, w, ht, hcap, hpath, _ => by
    unfold full TreeIn at ht
    obtain ⟨K, kc, B, d, ws, rfl, hc, hd, hr, hkd, hlf⟩ := ht
    have HCAP := Lib.hid hcap
    have HPATH := Lib.hid hpath
    have u1 := lt_of_block hcap.hl
    have c1 := cell_of_one hcap.hl
    have HBB := Lib.hid (two_boxes w (.cells #[.int .i64 ((0 : Nat) : Int), .int .i64 (k : Int)] 64) (.cells #[.int .i64 0, .slice K ([] : List T).length kc, .slice B [(k : Int)].length d] 38))
    have HP := Lib.hid (zero_any k B d _ (hlf.row.below HBB.out.1))
    clear hcap hpath hc hd hr hkd hlf
    go_enter Tryd.func63, Tryd.ntmps63
    go_wp2_with fail
    refine HP.out.mono ?_
    rintro e w2 ⟨rfl, hb2⟩
    have HB2 := Lib.hid (HBB.out.1.trans (hb2.mono HBB.out.1.size))
    go_wp2
    go_ret
    exact ⟨v, rfl, HPATH.out.below HB2.out, PStep.of_below HB2.out⟩
  | l + 1, hl, b0, bl, bs, bp, bw, base, vs, v, pl, w, ht, hcap, hpath, hlen => by
    have IH := Lib.hid (wrongC_any k hk hk2 l (by omega))
    unfold full TreeIn at ht
    obtain ⟨K, kc, B, d, ws, rfl, hc, hd, hr, hkd, hlf⟩ := ht
    rw [len_rep] at hc ⊢
    obtain ⟨L, hL⟩ : ∃ L, l + 1 = L := ⟨_, rfl⟩
    rw [hL]
    have HLM := Lib.hid (show (L : Int) - 1 = (l : Int) by omega)
    have hlen' : pl.length + l + 1 ≤ 100 := by omega
    have HCAP := Lib.hid hcap
    have HPATH := Lib.hid hpath
    have HKID := Lib.hid (fun W (hb : Stays (fun g => g < b0) w W) (j : Nat) (hj : j < k) => kid_cells_s hr hkd hb (k := j) (by rw [len_rep]; exact hj))
    have u1 := lt_of_block hcap.hs
    have c1 := cell_of_one hcap.hs
    have HBB := Lib.hid (two_boxes w (.cells #[.int .i64 (L : Int), .int .i64 (k : Int)] 64) (.cells #[.int .i64 (L : Int), .slice K k kc, .slice B ([] : List Int).length d] 38))
    have HPT := Lib.hid (divide_any L k ((w.alloc (.cells #[.int .i64 (L : Int), .int .i64 (k : Int)] 64)).alloc (.cells #[.int .i64 (L : Int), .slice K k kc, .slice B ([] : List Int).length d] 38)) (by omega) (by omega))
    obtain ⟨i0, ia, ib, ic, id⟩ := info_parts info_int
    have k0 : ((k : Int) == 0) = false := by rw [beq_eq_false_iff_ne]; omega
    have k1 : ((k : Int) != (k : Int)) = false := by simp
    clear hcap hpath hc hd hr hkd hlf hL hlen
    go_enter Tryd.func63, Tryd.ntmps63
    go_wp2_with fail
    refine HPT.out.mono ?_
    rintro e w2 ⟨PA, pc, rfl, hpc, hprow, hb2⟩
    have HBA := Lib.hid (HBB.out.1.trans (hb2.mono HBB.out.1.size))
    have HTA := Lib.hid (Live.fresh HPATH.out (x := w.heap.size + 1) (by omega) (hb2.block _ (lt_of_block HBB.out.2.2) |>.trans HBB.out.2.2))
    have HGA : Hid (LiveRow bp v w2 PA (cparts L k k)) := Lib.hid (RowS.stays hprow (fun _ _ _ => rfl) (fun g hg _ => ⟨by have := lt_of_block HPATH.out.1; have := HBB.out.1.size; omega, fun e => by have := HPATH.out.own g e; have := HBB.out.1.size; omega⟩))
    have HPA := Lib.hid (HPATH.out.below HBA.out)
    have HSA := Lib.hid (PStep.of_below (bp := bp) (v := v) HBA.out)
    have HCA := Lib.hid (HCAP.out.step HSA.out (fun g h => (HPATH.out.own g h).1))
    obtain ⟨t0, t1, t2⟩ := cell3 HTA.out.2.2
    clear hb2 hprow HPT c1
    go_wp2
    clear t0 t1 t2 k0 k1
    have HSI : Hid (PStep bp v v w2 w2) := Lib.hid (PStep.of_below (Below.refl _ _))
    go_loopw [11, 12, 44] (fun _ _ i wr => ∃ (j : Nat) (vv : Value), i = .int .i64 (j : Int) ∧ j ≤ k ∧ Hid (PathIs base bp 27 3 vv pl wr) ∧ Hid (PStep bp v vv w2 wr)) (fun _ _ i _ => k - (intOf i).toNat)
    case atStart => exact ⟨0, v, rfl, Nat.zero_le _, HPA, HSI⟩
    case round =>
      obtain ⟨j, vv, rfl, hj, HPX, HSX⟩ := hrel
      by_cases hlt : j < k
      · have e1 : (j : Int) < (k : Int) := by omega
        have e0 : (0 : Int) ≤ (j : Int) := by omega
        have HC1 := Lib.hid (HCA.out.step HSX.out (fun g h => (HPA.out.own g h).1))
        have HG1 := Lib.hid (HGA.out.step HSX.out)
        have HS1 := Lib.hid (HSA.out.trans HSX.out)
        obtain ⟨gk, ofk, xs, xA, xn, xc, xB, xm, xd, ek, HTK, j0, j1, j2⟩ := HKID.out wr (HS1.out.stays (b0 := b0) HCA.out.h3 (fun g h => Nat.le_trans (Nat.le_trans HCA.out.h4 (Nat.le_of_lt HCA.out.m3)) (HPATH.out.own g h).1)) j hlt
        rw [List.getElem_replicate] at HTK
        subst ek
        have HZ := Lib.hid ((Below.refl wr.heap.size wr).alloc (Nat.le_refl _) (.cells #[.int .i64 xs, .slice xA xn xc, .slice xB xm xd] 38))
        have HEB := Lib.hid (Live.fresh HPX.out (Nat.le_refl _) (heap_alloc_new wr (.cells #[.int .i64 xs, .slice xA xn xc, .slice xB xm xd] 38)))
        have HTK1 := Lib.hid (TreeIn.stays (S' := fun g => g < b0) (Stays.of_below HZ.out) (fun x hx _ => hx) _ _ HTK)
        have HPB := Lib.hid (HPX.out.below HZ.out)
        have HGB := Lib.hid (HG1.out.step (PStep.of_below HZ.out))
        have HSB := Lib.hid (HSX.out.trans (PStep.of_below HZ.out))
        have HCB := Lib.hid (HC1.out.step (PStep.of_below (bp := bp) (v := vv) HZ.out) (fun g h => (HPX.out.own g h).1))
        have hpc1 := cell_of_one HPB.out.1
        have hpf := free_of_one HPB.out.1
        have hpz := lt_of_block HPB.out.1
        have hbz := HPB.out.2.2.2
        have hpn := HPX.out.2.2.1
        clear HTK
        go_upto_region 9 with fail
        generalize wr.alloc (.cells #[.int .i64 xs, .slice xA xn xc, .slice xB xm xd] 38) = X at *
        clear j0 j1 j2
        have HOWN := Lib.hid HPB.out.2.1
        go_wp2_with (at_builtin; refine wpList_append_lies _ rfl _ _ 27 rfl base 3 i0 _ 1 8 Tryd.underlying27 ia ib ic id rfl (by omega) vv pl.length (natCells pl) rfl (HOWN.out.alloc _) ⟨X.heap.size, 0, none⟩ 1 1 [.int .i64 (j : Int)] rfl rfl (World.news_of_block (cs := #[.int .i64 (j : Int)]) (t := 3) (fr := (0, 0)) (heap_alloc_new X _)) (by simp [Value.oneCell']) (by omega) (by unfold maxLen; omega) (by omega) (by simp; omega) (X.heap.size + 1) (by simp) ?_)
        intro gq cq w3 hown3 hgrow hat hlt3
        have HPU := Lib.hid (HPB.out.push (i := j) ((Below.refl X.heap.size X).alloc (Nat.le_refl _) _) hown3 hgrow (fun g h => by cases h; exact hat.imp (fun h => h) (fun h => by rw [h]; exact Nat.le_succ _)))
        have k3 := (hgrow.block bp (by simp; omega) (fun e => by have := (HPB.out.own bp e.symm).1; omega)).trans ((heap_alloc_old X _ hpz).trans HPB.out.1)
        have kc3 := cell_of_one k3
        have kf3 := free_of_one k3
        have kz3 := lt_of_block k3
        clear k3 hown3 hgrow hat hpc1 hpf
        go_upto_region 10 with fail
        generalize w3.setCell ⟨bp, 0, none⟩ (.slice (some ⟨gq, 0, none⟩) (pl.length + 1) cq) = Y at *
        clear kc3 kf3 kz3 hlt3
        have HGY := Lib.hid (HGB.out.step HPU.out.2)
        have HEY := Lib.hid (HEB.out.step HPU.out.2)
        have HCY := Lib.hid (HCB.out.step HPU.out.2 (fun g h => (HPB.out.own g h).1))
        have HSY := Lib.hid (HSB.out.trans HPU.out.2)
        have HTKY := Lib.hid (TreeIn.stays (HPU.out.2.stays (b0 := b0) HCB.out.h3 (fun g h => Nat.le_trans (Nat.le_trans HCB.out.h4 (Nat.le_of_lt HCB.out.m3)) (HPB.out.own g h).1)) (fun x hx _ => hx) _ _ HTK1.out)
        obtain ⟨gl, ol, hPA, _, hgl, _⟩ := HGY.out (by intro h0; have := cparts_len L k k; rw [h0] at this; simp at this; omega)
        subst hPA
        obtain ⟨y0, y1⟩ := cpart_cells HLM.out HGY.out hlt
        have f0 := cell_of_one HCY.out.hw
        obtain ⟨e0', e1', e2'⟩ := cell3 HEY.out.2.2
        have z0 := lt_of_block HCY.out.hw
        have z2 := lt_of_block HEY.out.2.2
        unfold wrongC at f0
        clear HGB HEB HCB HSB HTK1 HG1 HC1 HS1
        go_region_held3 (fun w' => w'.cell? ⟨bw, 0, none⟩ = some (.func (.func 63) #[] #[.pointer (some ⟨bl, 0, none⟩), .pointer (some ⟨bs, 0, none⟩), .pointer (some ⟨bp, 0, none⟩), .pointer (some ⟨bw, 0, none⟩)]) ∧ w'.cell? ⟨gl, ol + j * 2, none⟩ = some (.int .i64 (l : Int)) ∧ w'.cell? ⟨gl, ol + j * 2 + 1, none⟩ = some (.int .i64 (k : Int)) ∧ w'.cell? ⟨wr.heap.size, 0, none⟩ = some (.int .i64 xs) ∧ w'.cell? ⟨wr.heap.size, 1, none⟩ = some (.slice xA xn xc) ∧ w'.cell? ⟨wr.heap.size, 2, none⟩ = some (.slice xB xm xd)) (first | go_keep) ((go_at_call 63; refine (IH.out _ _ _ _ _ _ _ _ _ _ (TreeIn.below HTKY.out (below_drew (Below.refl _ _))) (HCY.out.step (PStep.of_below (bp := bp) (below_drew (Below.refl _ _))) (fun g h => (HPU.out.1.own g h).1)) (HPU.out.1.below (below_drew (Below.refl _ _))) (by rw [List.length_append]; simp only [List.length_cons, List.length_nil]; omega)).mono ?_; rintro e w4 ⟨v4, rfl, hp4, hs4⟩; have hs5 : PStep bp (.slice (some ⟨gq, 0, none⟩) (pl.length + 1) cq) v4 Y w4 := (PStep.of_below (below_drew (Below.refl _ _))).trans hs4; have f9 := cell_of_one (HCY.out.step hs5 (fun g h => (HPU.out.1.own g h).1)).hw; unfold wrongC at f9; obtain ⟨p0, p1⟩ := cpart_cells HLM.out (HGY.out.step hs5) hlt; obtain ⟨r0, r1, r2⟩ := cell3 (HEY.out.step hs5).2.2))
        have HP4 := Lib.hid hp4
        have HS4 := Lib.hid (HSY.out.trans hs5)
        clear hp4 hs4 hs5 f9 p0 p1 r0 r1 r2 f0 y0 y1 e0' e1' e2' z0 z2 HPU HGY HEY HCY HSY HTKY HOWN
        obtain ⟨gv, cv, hv4, hn4⟩ := own_form HP4.out (by simp)
        subst hv4
        have HP5 := Lib.hid HP4.out
        clear HP4
        have m1 := cell_of_one HP5.out.1
        have m2 := free_of_one HP5.out.1
        have m3 := lt_of_block HP5.out.1
        have HPO := Lib.hid HP5.out.pop
        have hn5 : pl.length + 1 ≤ cv := by simpa using hn4
        clear hn4
        simp only [List.length_append, List.length_cons, List.length_nil, Nat.zero_add] at m1
        have HS6 := Lib.hid (HS4.out.trans HPO.out.2)
        have HP6 := Lib.hid HPO.out.1
        clear HPO HP5 HS4
        go_wp2
        generalize w4.setCell ⟨bp, 0, none⟩ (.slice (some ⟨gv, 0, none⟩) pl.length cv) = W5 at *
        go_roundw
        case rel => exact ⟨j + 1, _, by go_num, by omega, HP6, HS6⟩
        case measure => simp [intOf]; omega
      · obtain rfl : j = k := by omega
        have e1 : decide ((j : Int) < (j : Int)) = false := decide_eq_false (by omega)
        go_wp2
        go_ret
        exact ⟨vv, rfl, HPX.out, HSA.out.trans HSX.out⟩
end Go.Proofs.YtjjohllfidmkjaaDoor.PfW
