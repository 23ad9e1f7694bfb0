/- Walk: the closure of Check over systems. Conditions: the system is little; the tree is well formed; they lie in older memory. -/
import Derived.Test.YtjjohllfidmkjaaDoorPfW1
import Derived.Test.YtjjohllfidmkjaaDoorPfC1
import Derived.Deep.AppendLies
import Derived.Deep.CutRange
namespace Go.Proofs.YtjjohllfidmkjaaDoor.PfW
open Go Go.RowKit Go.Proofs.YtjjohllfidmkjaaDoor.Mem Go.Proofs.YtjjohllfidmkjaaDoor.Pf
attribute [local go_sem ↓] Go.wp_at_zero Go.wp_at_succ

def wrongF (bl bs bp bw : Nat) : Value := .func (.func 64) #[] #[.pointer (some ⟨bl, 0, none⟩), .pointer (some ⟨bs, 0, none⟩), .pointer (some ⟨bp, 0, none⟩), .pointer (some ⟨bw, 0, none⟩)]
/-- What the closure captured. -/
structure Caps (b0 bl bs bp bw base : Nat) (w : World) : Prop where
  hl : w.heap[bl]? = some (.cells #[.func (.func 46) #[] #[]] 76 (0, 0))
  hs : w.heap[bs]? = some (.cells #[.func (.func 35) #[] #[]] 59 (0, 0))
  hw : w.heap[bw]? = some (.cells #[wrongF bl bs bp bw] 103 (0, 0))
  h1 : b0 ≤ bl
  h2 : b0 ≤ bs
  h3 : b0 ≤ bp
  h4 : b0 ≤ bw
  n1 : bl ≠ bp
  n2 : bs ≠ bp
  n3 : bw ≠ bp
  m1 : bl < base
  m2 : bs < base
  m3 : bw < base
theorem kid_cells_s {S : Nat → Prop} {w wr : World} {A : Option Addr} {ks : List T} {ws : List Value} (HR : RowS S w A ws) (HK : KidsIn S w ks ws) (hs : Stays S w wr) {k : Nat} (hlt : k < ks.length) :
    ∃ g off s xA xn xc xB xm xd, A = some ⟨g, off, none⟩ ∧ TreeIn S wr ks[k] [.int .i64 s, .slice xA xn xc, .slice xB xm xd] ∧
      wr.cell? ⟨g, off + k * 3, none⟩ = some (.int .i64 s) ∧ wr.cell? ⟨g, off + k * 3 + 1, none⟩ = some (.slice xA xn xc) ∧ wr.cell? ⟨g, off + k * 3 + 2, none⟩ = some (.slice xB xm xd) := by
  obtain ⟨g, off, s, xA, xn, xc, xB, xm, xd, e, hT, h0, h1, h2⟩ := kid_cells HR HK (Below.refl _ _) hlt
  have hne : ws ≠ [] := by
    intro h0
    have := HK.len
    rw [h0] at this
    simp at this; omega
  obtain ⟨g', off', e', hS, hg, _⟩ := HR hne
  rw [e] at e'
  cases e'
  have hb := hs g hS hg
  exact ⟨g, off, s, xA, xn, xc, xB, xm, xd, e, TreeIn.stays hs (fun _ h _ => h) _ _ hT, (cell_stays hb).trans h0, (cell_stays hb).trans h1, (cell_stays hb).trans h2⟩
theorem own_form {base bp : Nat} {TI TE : TypeId} {v : Value} {l : List Nat} {w : World} (h : PathIs base bp TI TE v l w) (hn : 0 < l.length) : ∃ g c, v = .slice (some ⟨g, 0, none⟩) l.length c ∧ l.length ≤ c := by
  rcases h.2.1.2 with ⟨_, h1⟩ | ⟨g, cap, cur, rfl, _, _, hc, _⟩
  · have := nat_len l
    rw [h1] at this
    simp at this
    omega
  · exact ⟨g, cap, rfl, hc⟩
theorem Caps.step {b0 bl bs bp bw base : Nat} {w w' : World} {v v' : Value} (h : Caps b0 bl bs bp bw base w) (hs : PStep bp v v' w w') (ho : ∀ g, v.ownBlock = some g → base ≤ g) : Caps b0 bl bs bp bw base w' :=
  ⟨(hs.block _ (lt_of_block h.hl) h.n1 (fun e => by have := ho _ e; have := h.m1; omega)).trans h.hl,
   (hs.block _ (lt_of_block h.hs) h.n2 (fun e => by have := ho _ e; have := h.m2; omega)).trans h.hs,
   (hs.block _ (lt_of_block h.hw) h.n3 (fun e => by have := ho _ e; have := h.m3; omega)).trans h.hw, h.h1, h.h2, h.h3, h.h4, h.n1, h.n2, h.n3, h.m1, h.m2, h.m3⟩
/-- What the closure does. -/
def ClosRet (base bp : Nat) (v : Value) (l : List Nat) (p : Option (List Nat)) (w : World) (e : Ending) (w' : World) : Prop :=
  ∃ v', e = .returned (.bool p.isSome) ∧ PathIs base bp 27 3 v' (l ++ p.getD []) w' ∧ PStep bp v v' w w'
set_option maxRecDepth 100000 in
set_option maxHeartbeats 4000000 in
theorem pwrong_any : ∀ (n : Nat) (t : T), nodes t ≤ n → Fit t → allB t = true → ∀ (y : Syst) (b0 bl bs bp bw base : Nat) (vs : List Value) (A : Option Addr) (cp : Nat) (v : Value) (l : List Nat) (w : World),
    Little y → TreeIn (fun g => g < b0) w t vs → RowS (fun g => g < b0) w A (y.rows.flatMap r4Cells) → Caps b0 bl bs bp bw base w → PathIs base bp 27 3 v l w → l.length + side y ≤ 100 →
    Calls Tryd.prog 64 #[sysV y A cp, .agg vs.toArray, .pointer (some ⟨bl, 0, none⟩), .pointer (some ⟨bs, 0, none⟩), .pointer (some ⟨bp, 0, none⟩), .pointer (some ⟨bw, 0, none⟩)] w (ClosRet base bp v l (wrong t y) w)
  | 0, .mk s ks lf, h, _, _, _, _, _, _, _, _, _, _, _, _, _, _, _, _, _, _, _, _, _ => by unfold nodes at h; omega
  | n + 1, .mk s ks lf, h, hf, hal, y, b0, bl, bs, bp, bw, base, vs, A, cp, v, l, w, hy, ht, hrow, hcap, hpath, hlen => by
    have IH := Lib.hid (pwrong_any n)
    unfold TreeIn at ht
    obtain ⟨K, kc, B, d, ws, rfl, hc, hd, hr, hk, hlf⟩ := ht
    have hnk : nodes (.mk s ks lf) = 1 + nodesL ks := by rw [nodes]
    rw [hnk] at h
    obtain ⟨hfl, hfl2, hfk⟩ := hf.mk'
    obtain ⟨hnd, hak⟩ := all_mk hal
    obtain ⟨hs1, hs2⟩ := node_split hnd
    have HCAP := Lib.hid hcap
    have HPATH := Lib.hid hpath
    have u1 := lt_of_block hcap.hl
    have u2 := lt_of_block hcap.hs
    have u3 := lt_of_block hpath.1
    have u4 := lt_of_block hcap.hw
    have c1 := cell_of_one hcap.hl
    have c2 := cell_of_one hcap.hs
    clear hcap hpath
    unfold sysV
    by_cases h0 : ks.length = 0
    · obtain rfl : ks = [] := List.eq_nil_of_length_eq_zero h0
      have HBB := Lib.hid (two_boxes w (.cells #[.int .i64 y.l0, .int .i64 y.l1, .int .i64 y.l2, .int .i64 y.h0, .int .i64 y.h1, .int .i64 y.h2, .slice A y.rows.length cp] 25) (.cells #[.int .i64 s, .slice K ([] : List T).length kc, .slice B lf.length d] 38))
      have HP := Lib.hid (proves_any y lf A B cp d _ hy.box hy.num (by have := hy.len; omega) (hrow.row.below HBB.out.1) (hlf.row.below HBB.out.1) hfl2)
      unfold sysV at HP
      rw [wrong_leaf]
      clear hrow hlf hr hk hnd hak hal hf hfk IH h h0 hnk
      generalize proves y lf = b at *
      cases b
      all_goals
        go_enter Tryd.func64, Tryd.ntmps64
        go_wp2_with fail
        refine HP.out.mono ?_
        rintro e w2 ⟨rfl, hb2⟩
        have HB2 := Lib.hid (HBB.out.1.trans (hb2.mono HBB.out.1.size))
        go_wp2
        go_ret
        exact ⟨v, rfl, by simpa using HPATH.out.below HB2.out, PStep.of_below HB2.out⟩
    · have HBB := Lib.hid (two_boxes w (.cells #[.int .i64 y.l0, .int .i64 y.l1, .int .i64 y.l2, .int .i64 y.h0, .int .i64 y.h1, .int .i64 y.h2, .slice A y.rows.length cp] 25) (.cells #[.int .i64 s, .slice K ks.length kc, .slice B lf.length d] 38))
      have HP := Lib.hid (parts_any y s A cp ((w.alloc (.cells #[.int .i64 y.l0, .int .i64 y.l1, .int .i64 y.l2, .int .i64 y.h0, .int .i64 y.h1, .int .i64 y.h2, .slice A y.rows.length cp] 25)).alloc (.cells #[.int .i64 s, .slice K ks.length kc, .slice B lf.length d] 38)) (by omega) (by omega) hy.box)
      unfold sysV at HP
      have q0 : ((ks.length : Int) == 0) = false := by rw [beq_eq_false_iff_ne]; omega
      cases hp : parts y s with
      | none =>
        rw [wrong_none h0 hp]
        rw [hp] at HP
        clear hrow hlf hr hk hnd hak hal hf hfk IH h h0 hnk hp
        go_enter Tryd.func64, Tryd.ntmps64
        go_wp2_with fail
        refine HP.out.mono ?_
        rintro e w2 ⟨rfl, hb2⟩
        have HB2 := Lib.hid (HBB.out.1.trans (hb2.mono HBB.out.1.size))
        go_wp2
        go_ret
        exact ⟨v, rfl, by simpa using HPATH.out.below HB2.out, PStep.of_below HB2.out⟩
      | some x =>
        obtain ⟨a, b⟩ := x
        rw [hp] at HP
        by_cases h2 : ks.length = 2
        · obtain ⟨k0, k1, rfl⟩ := two_kids h2
          rw [wrong_two hp]
          obtain ⟨hla, hlb, hsa, hsb, era, erb⟩ := parts_little hp hy
          obtain ⟨ha0, ha1⟩ := all_two hak
          have hn : nodesL [k0, k1] = nodes k0 + (nodes k1 + 0) := by simp [nodesL]
          have HK0 := Lib.hid (fun W (hb : Stays (fun g => g < b0) w W) => kid_cells_s hr hk hb (k := 0) (by simp))
          have HK1 := Lib.hid (fun W (hb : Stays (fun g => g < b0) w W) => kid_cells_s hr hk hb (k := 1) (by simp))
          have HROW := Lib.hid hrow
          have HW0 := Lib.hid (IH.out k0 (by omega) (hfk.get 0 (by simp)) ha0 a)
          have HW1 := Lib.hid (IH.out k1 (by omega) (hfk.get 1 (by simp)) ha1 b)
          have HLA := Lib.hid hla
          have HLB := Lib.hid hlb
          have HERA := Lib.hid era
          have HERB := Lib.hid erb
          unfold sysV at HW0 HW1
          have q2 : (2 != (2 : Int)) = false := by simp
          obtain ⟨i0, ia, ib, ic, id⟩ := info_parts info_int
          clear hrow hlf hr hk hnd hak hal hf hfk IH h h0 hnk hp h2 hn ha0 ha1 hla hlb era erb q0
          have q0 : ((([k0, k1] : List T).length : Int) == 0) = false := by rfl
          cases hw0 : wrong k0 a with
          | some q =>
            rw [hw0] at HW0
            simp only
            clear hw0
            go_enter Tryd.func64, Tryd.ntmps64
            go_wp2_with fail
            refine HP.out.mono ?_
            rintro e w2 ⟨gl, rfl, hg, hgw, hb2⟩
            have HBA := Lib.hid (HBB.out.1.trans (hb2.mono HBB.out.1.size))
            have HTA := Lib.hid (Live.fresh HPATH.out (x := w.heap.size + 1) (by omega) (hb2.block _ (lt_of_block HBB.out.2.2) |>.trans HBB.out.2.2))
            have HGA := Lib.hid (Live.fresh HPATH.out (by have := HBB.out.1.size; omega) hg)
            have HPA := Lib.hid (HPATH.out.below HBA.out)
            have HSA := Lib.hid (PStep.of_below (bp := bp) (v := v) HBA.out)
            have HCA := Lib.hid (HCAP.out.step HSA.out (fun g h => (HPATH.out.own g h).1))
            obtain ⟨t0, t1, t2⟩ := cell3 HTA.out.2.2
            clear hb2 hg HP c1 c2 hgw
            go_wp2
            clear t0 t1 t2
            refine wp_loop_rounds 3 ?_
            rw [rounds_succ]
            obtain ⟨gk0, ofk0, xs0, xA0, xn0, xc0, xB0, xm0, xd0, ek0, HTK, j0, j1, j2⟩ := HK0.out w2 (HSA.out.stays (b0 := b0) HCA.out.h3 (fun g h => Nat.le_trans (Nat.le_trans HCA.out.h4 (Nat.le_of_lt HCA.out.m3)) (HPATH.out.own g h).1))
            subst ek0
            rw [Nat.zero_mul, Nat.add_zero] at j0 j1 j2
            have HZ := Lib.hid ((Below.refl w2.heap.size w2).alloc (Nat.le_refl _) (.cells #[.int .i64 xs0, .slice xA0 xn0 xc0, .slice xB0 xm0 xd0] 38))
            have HEB := Lib.hid (Live.fresh HPA.out (Nat.le_refl _) (heap_alloc_new w2 (.cells #[.int .i64 xs0, .slice xA0 xn0 xc0, .slice xB0 xm0 xd0] 38)))
            have HTK1 := Lib.hid (TreeIn.stays (S' := fun g => g < b0) (Stays.of_below HZ.out) (fun x hx _ => hx) _ _ HTK)
            have HPB := Lib.hid (HPA.out.below HZ.out)
            have HGB := Lib.hid (HGA.out.step (PStep.of_below HZ.out))
            have HTB := Lib.hid (HTA.out.step (PStep.of_below HZ.out))
            have HSB := Lib.hid (HSA.out.trans (PStep.of_below HZ.out))
            have HCB := Lib.hid (HCA.out.step (PStep.of_below (bp := bp) (v := v) HZ.out) (fun g h => (HPA.out.own g h).1))
            have hpc := cell_of_one HPB.out.1
            have hpf := free_of_one HPB.out.1
            have hpz := lt_of_block HPB.out.1
            have hbz := HPB.out.2.2.2
            have ht1 := (cell3 HTA.out.2.2).2.1
            have hpn := HPA.out.2.2.1
            clear HTK
            go_upto_region 9 with fail
            generalize w2.alloc (.cells #[.int .i64 xs0, .slice xA0 xn0 xc0, .slice xB0 xm0 xd0] 38) = X0 at *
            clear j0 j1 j2 ht1
            have HOWN := Lib.hid HPB.out.2.1
            go_wp2_with (at_builtin; refine wpList_append_lies _ rfl _ _ 27 rfl base 3 i0 _ 1 8 Tryd.underlying27 ia ib ic id rfl (by omega) v l.length (natCells l) rfl (HOWN.out.alloc _) ⟨X0.heap.size, 0, none⟩ 1 1 [.int .i64 0] rfl rfl (World.news_of_block (cs := #[.int .i64 0]) (t := 3) (fr := (0, 0)) (heap_alloc_new X0 _)) (by simp [Value.oneCell']) (by omega) (by unfold maxLen; omega) (by omega) (by simp; omega) (X0.heap.size + 1) (by simp) ?_)
            intro gq cq w3 hown3 hgrow hat hlt3
            have HPU := Lib.hid (HPB.out.push (i := 0) ((Below.refl X0.heap.size X0).alloc (Nat.le_refl _) _) hown3 hgrow (fun g h => by cases h; exact hat.imp (fun h => h) (fun h => by rw [h]; exact Nat.le_succ _)))
            have k3 := (hgrow.block bp (by simp; omega) (fun e => by have := (HPB.out.own bp e.symm).1; omega)).trans ((heap_alloc_old X0 _ hpz).trans HPB.out.1)
            have kc3 := cell_of_one k3
            have kf3 := free_of_one k3
            have kz3 := lt_of_block k3
            clear k3 hown3 hgrow hat hpc hpf
            go_upto_region 10 with fail
            generalize w3.setCell ⟨bp, 0, none⟩ (.slice (some ⟨gq, 0, none⟩) (l.length + 1) cq) = Y0 at *
            clear kc3 kf3 kz3 hlt3
            have HGY := Lib.hid (HGB.out.step HPU.out.2)
            have HTY := Lib.hid (HTB.out.step HPU.out.2)
            have HEY := Lib.hid (HEB.out.step HPU.out.2)
            have HCY := Lib.hid (HCB.out.step HPU.out.2 (fun g h => (HPB.out.own g h).1))
            have HSY := Lib.hid (HSB.out.trans HPU.out.2)
            have HTKY := Lib.hid (TreeIn.stays (HPU.out.2.stays (b0 := b0) HCB.out.h3 (fun g h => Nat.le_trans (Nat.le_trans HCB.out.h4 (Nat.le_of_lt HCB.out.m3)) (HPB.out.own g h).1)) (fun x hx _ => hx) _ _ HTK1.out)
            have HRY := Lib.hid (HROW.out.stays (HSY.out.stays (b0 := b0) HCB.out.h3 (fun g h => Nat.le_trans (Nat.le_trans HCB.out.h4 (Nat.le_of_lt HCB.out.m3)) (HPATH.out.own g h).1)) (fun x hx _ => hx))
            have f0 := cell_of_one HCY.out.hw
            obtain ⟨g0, g1, g2, g3, g4, g5, g6⟩ := (cell14 HGY.out.2.2).1
            obtain ⟨e0, e1, e2⟩ := cell3 HEY.out.2.2
            have z0 := lt_of_block HCY.out.hw
            have z1 := lt_of_block HGY.out.2.2
            have z2 := lt_of_block HEY.out.2.2
            unfold wrongF at f0
            clear HGB HTB HEB HCB HSB HTK1 HZ HGA HTA HSA HCA HPA
            go_region_held3 (fun w' => w'.cell? ⟨bw, 0, none⟩ = some (.func (.func 64) #[] #[.pointer (some ⟨bl, 0, none⟩), .pointer (some ⟨bs, 0, none⟩), .pointer (some ⟨bp, 0, none⟩), .pointer (some ⟨bw, 0, none⟩)]) ∧ w'.cell? ⟨gl, 0, none⟩ = some (.int .i64 a.l0) ∧ w'.cell? ⟨gl, 1, none⟩ = some (.int .i64 a.l1) ∧ w'.cell? ⟨gl, 2, none⟩ = some (.int .i64 a.l2) ∧ w'.cell? ⟨gl, 3, none⟩ = some (.int .i64 a.h0) ∧ w'.cell? ⟨gl, 4, none⟩ = some (.int .i64 a.h1) ∧ w'.cell? ⟨gl, 5, none⟩ = some (.int .i64 a.h2) ∧ w'.cell? ⟨gl, 6, none⟩ = some (.slice A a.rows.length cp) ∧ w'.cell? ⟨w2.heap.size, 0, none⟩ = some (.int .i64 xs0) ∧ w'.cell? ⟨w2.heap.size, 1, none⟩ = some (.slice xA0 xn0 xc0) ∧ w'.cell? ⟨w2.heap.size, 2, none⟩ = some (.slice xB0 xm0 xd0)) (first | go_keep) ((go_at_call 64; refine (HW0.out _ _ _ _ _ _ _ _ _ _ _ _ HLA.out (TreeIn.below HTKY.out (below_drew (Below.refl _ _))) (by rw [HERA.out]; exact HRY.out.stays (Stays.of_below (below_drew (Below.refl _ _))) (fun x hx _ => hx)) (HCY.out.step (PStep.of_below (bp := bp) (below_drew (Below.refl _ _))) (fun g h => (HPU.out.1.own g h).1)) (HPU.out.1.below (below_drew (Below.refl _ _))) (by rw [List.length_append]; simp only [List.length_cons, List.length_nil]; omega)).mono ?_; rintro e w4 ⟨v4, rfl, hp4, hs4⟩; have hs5 : PStep bp (.slice (some ⟨gq, 0, none⟩) (l.length + 1) cq) v4 Y0 w4 := (PStep.of_below (below_drew (Below.refl _ _))).trans hs4; have f9 := cell_of_one (HCY.out.step hs5 (fun g h => (HPU.out.1.own g h).1)).hw; unfold wrongF at f9; obtain ⟨p0, p1, p2, p3, p4, p5, p6⟩ := (cell14 (HGY.out.step hs5).2.2).1; obtain ⟨r0, r1, r2⟩ := cell3 (HEY.out.step hs5).2.2))
            have HP4 := Lib.hid hp4
            have HS4 := Lib.hid hs5
            have HGA := Lib.hid (HGY.out.step HS4.out)
            have HTA := Lib.hid (HTY.out.step HS4.out)
            have HCA := Lib.hid (HCY.out.step HS4.out (fun g h => (HPU.out.1.own g h).1))
            have HSA := Lib.hid (HSY.out.trans HS4.out)
            clear hp4 hs4 hs5 f9 p0 p1 p2 p3 p4 p5 p6 r0 r1 r2 f0 g0 g1 g2 g3 g4 g5 g6 e0 e1 e2 z0 z1 z2 HPU HGY HTY HEY HCY HSY HTKY HRY HS4 HOWN
            go_wp2
            go_ret
            exact ⟨v4, rfl, by simpa using HP4.out, HSA.out⟩

          | none =>
            rw [hw0] at HW0
            cases hw1 : wrong k1 b with
            | some q =>
              rw [hw1] at HW1
              simp only
              clear hw0 hw1
              go_enter Tryd.func64, Tryd.ntmps64
              go_wp2_with fail
              refine HP.out.mono ?_
              rintro e w2 ⟨gl, rfl, hg, hgw, hb2⟩
              have HBA := Lib.hid (HBB.out.1.trans (hb2.mono HBB.out.1.size))
              have HTA := Lib.hid (Live.fresh HPATH.out (x := w.heap.size + 1) (by omega) (hb2.block _ (lt_of_block HBB.out.2.2) |>.trans HBB.out.2.2))
              have HGA := Lib.hid (Live.fresh HPATH.out (by have := HBB.out.1.size; omega) hg)
              have HPA := Lib.hid (HPATH.out.below HBA.out)
              have HSA := Lib.hid (PStep.of_below (bp := bp) (v := v) HBA.out)
              have HCA := Lib.hid (HCAP.out.step HSA.out (fun g h => (HPATH.out.own g h).1))
              obtain ⟨t0, t1, t2⟩ := cell3 HTA.out.2.2
              clear hb2 hg HP c1 c2 hgw
              go_wp2
              clear t0 t1 t2
              refine wp_loop_rounds 3 ?_
              rw [rounds_succ]
              obtain ⟨gk0, ofk0, xs0, xA0, xn0, xc0, xB0, xm0, xd0, ek0, HTK, j0, j1, j2⟩ := HK0.out w2 (HSA.out.stays (b0 := b0) HCA.out.h3 (fun g h => Nat.le_trans (Nat.le_trans HCA.out.h4 (Nat.le_of_lt HCA.out.m3)) (HPATH.out.own g h).1))
              subst ek0
              rw [Nat.zero_mul, Nat.add_zero] at j0 j1 j2
              have HZ := Lib.hid ((Below.refl w2.heap.size w2).alloc (Nat.le_refl _) (.cells #[.int .i64 xs0, .slice xA0 xn0 xc0, .slice xB0 xm0 xd0] 38))
              have HEB := Lib.hid (Live.fresh HPA.out (Nat.le_refl _) (heap_alloc_new w2 (.cells #[.int .i64 xs0, .slice xA0 xn0 xc0, .slice xB0 xm0 xd0] 38)))
              have HTK1 := Lib.hid (TreeIn.stays (S' := fun g => g < b0) (Stays.of_below HZ.out) (fun x hx _ => hx) _ _ HTK)
              have HPB := Lib.hid (HPA.out.below HZ.out)
              have HGB := Lib.hid (HGA.out.step (PStep.of_below HZ.out))
              have HTB := Lib.hid (HTA.out.step (PStep.of_below HZ.out))
              have HSB := Lib.hid (HSA.out.trans (PStep.of_below HZ.out))
              have HCB := Lib.hid (HCA.out.step (PStep.of_below (bp := bp) (v := v) HZ.out) (fun g h => (HPA.out.own g h).1))
              have hpc := cell_of_one HPB.out.1
              have hpf := free_of_one HPB.out.1
              have hpz := lt_of_block HPB.out.1
              have hbz := HPB.out.2.2.2
              have ht1 := (cell3 HTA.out.2.2).2.1
              have hpn := HPA.out.2.2.1
              clear HTK
              go_upto_region 9 with fail
              generalize w2.alloc (.cells #[.int .i64 xs0, .slice xA0 xn0 xc0, .slice xB0 xm0 xd0] 38) = X0 at *
              clear j0 j1 j2 ht1
              have HOWN := Lib.hid HPB.out.2.1
              go_wp2_with (at_builtin; refine wpList_append_lies _ rfl _ _ 27 rfl base 3 i0 _ 1 8 Tryd.underlying27 ia ib ic id rfl (by omega) v l.length (natCells l) rfl (HOWN.out.alloc _) ⟨X0.heap.size, 0, none⟩ 1 1 [.int .i64 0] rfl rfl (World.news_of_block (cs := #[.int .i64 0]) (t := 3) (fr := (0, 0)) (heap_alloc_new X0 _)) (by simp [Value.oneCell']) (by omega) (by unfold maxLen; omega) (by omega) (by simp; omega) (X0.heap.size + 1) (by simp) ?_)
              intro gq cq w3 hown3 hgrow hat hlt3
              have HPU := Lib.hid (HPB.out.push (i := 0) ((Below.refl X0.heap.size X0).alloc (Nat.le_refl _) _) hown3 hgrow (fun g h => by cases h; exact hat.imp (fun h => h) (fun h => by rw [h]; exact Nat.le_succ _)))
              have k3 := (hgrow.block bp (by simp; omega) (fun e => by have := (HPB.out.own bp e.symm).1; omega)).trans ((heap_alloc_old X0 _ hpz).trans HPB.out.1)
              have kc3 := cell_of_one k3
              have kf3 := free_of_one k3
              have kz3 := lt_of_block k3
              clear k3 hown3 hgrow hat hpc hpf
              go_upto_region 10 with fail
              generalize w3.setCell ⟨bp, 0, none⟩ (.slice (some ⟨gq, 0, none⟩) (l.length + 1) cq) = Y0 at *
              clear kc3 kf3 kz3 hlt3
              have HGY := Lib.hid (HGB.out.step HPU.out.2)
              have HTY := Lib.hid (HTB.out.step HPU.out.2)
              have HEY := Lib.hid (HEB.out.step HPU.out.2)
              have HCY := Lib.hid (HCB.out.step HPU.out.2 (fun g h => (HPB.out.own g h).1))
              have HSY := Lib.hid (HSB.out.trans HPU.out.2)
              have HTKY := Lib.hid (TreeIn.stays (HPU.out.2.stays (b0 := b0) HCB.out.h3 (fun g h => Nat.le_trans (Nat.le_trans HCB.out.h4 (Nat.le_of_lt HCB.out.m3)) (HPB.out.own g h).1)) (fun x hx _ => hx) _ _ HTK1.out)
              have HRY := Lib.hid (HROW.out.stays (HSY.out.stays (b0 := b0) HCB.out.h3 (fun g h => Nat.le_trans (Nat.le_trans HCB.out.h4 (Nat.le_of_lt HCB.out.m3)) (HPATH.out.own g h).1)) (fun x hx _ => hx))
              have f0 := cell_of_one HCY.out.hw
              obtain ⟨g0, g1, g2, g3, g4, g5, g6⟩ := (cell14 HGY.out.2.2).1
              obtain ⟨e0, e1, e2⟩ := cell3 HEY.out.2.2
              have z0 := lt_of_block HCY.out.hw
              have z1 := lt_of_block HGY.out.2.2
              have z2 := lt_of_block HEY.out.2.2
              unfold wrongF at f0
              clear HGB HTB HEB HCB HSB HTK1 HZ HGA HTA HSA HCA HPA
              go_region_held3 (fun w' => w'.cell? ⟨bw, 0, none⟩ = some (.func (.func 64) #[] #[.pointer (some ⟨bl, 0, none⟩), .pointer (some ⟨bs, 0, none⟩), .pointer (some ⟨bp, 0, none⟩), .pointer (some ⟨bw, 0, none⟩)]) ∧ w'.cell? ⟨gl, 0, none⟩ = some (.int .i64 a.l0) ∧ w'.cell? ⟨gl, 1, none⟩ = some (.int .i64 a.l1) ∧ w'.cell? ⟨gl, 2, none⟩ = some (.int .i64 a.l2) ∧ w'.cell? ⟨gl, 3, none⟩ = some (.int .i64 a.h0) ∧ w'.cell? ⟨gl, 4, none⟩ = some (.int .i64 a.h1) ∧ w'.cell? ⟨gl, 5, none⟩ = some (.int .i64 a.h2) ∧ w'.cell? ⟨gl, 6, none⟩ = some (.slice A a.rows.length cp) ∧ w'.cell? ⟨w2.heap.size, 0, none⟩ = some (.int .i64 xs0) ∧ w'.cell? ⟨w2.heap.size, 1, none⟩ = some (.slice xA0 xn0 xc0) ∧ w'.cell? ⟨w2.heap.size, 2, none⟩ = some (.slice xB0 xm0 xd0)) (first | go_keep) ((go_at_call 64; refine (HW0.out _ _ _ _ _ _ _ _ _ _ _ _ HLA.out (TreeIn.below HTKY.out (below_drew (Below.refl _ _))) (by rw [HERA.out]; exact HRY.out.stays (Stays.of_below (below_drew (Below.refl _ _))) (fun x hx _ => hx)) (HCY.out.step (PStep.of_below (bp := bp) (below_drew (Below.refl _ _))) (fun g h => (HPU.out.1.own g h).1)) (HPU.out.1.below (below_drew (Below.refl _ _))) (by rw [List.length_append]; simp only [List.length_cons, List.length_nil]; omega)).mono ?_; rintro e w4 ⟨v4, rfl, hp4, hs4⟩; have hs5 : PStep bp (.slice (some ⟨gq, 0, none⟩) (l.length + 1) cq) v4 Y0 w4 := (PStep.of_below (below_drew (Below.refl _ _))).trans hs4; have f9 := cell_of_one (HCY.out.step hs5 (fun g h => (HPU.out.1.own g h).1)).hw; unfold wrongF at f9; obtain ⟨p0, p1, p2, p3, p4, p5, p6⟩ := (cell14 (HGY.out.step hs5).2.2).1; obtain ⟨r0, r1, r2⟩ := cell3 (HEY.out.step hs5).2.2))
              have HP4 := Lib.hid hp4
              have HS4 := Lib.hid hs5
              have HGA := Lib.hid (HGY.out.step HS4.out)
              have HTA := Lib.hid (HTY.out.step HS4.out)
              have HCA := Lib.hid (HCY.out.step HS4.out (fun g h => (HPU.out.1.own g h).1))
              have HSA := Lib.hid (HSY.out.trans HS4.out)
              clear hp4 hs4 hs5 f9 p0 p1 p2 p3 p4 p5 p6 r0 r1 r2 f0 g0 g1 g2 g3 g4 g5 g6 e0 e1 e2 z0 z1 z2 HPU HGY HTY HEY HCY HSY HTKY HRY HS4 HOWN
              simp only [Option.getD_none, List.append_nil] at HP4
              obtain ⟨gv, cv, hv4, hn4⟩ := own_form HP4.out (by simp)
              subst hv4
              have HP5 := Lib.hid HP4.out
              clear HP4
              have m1 := cell_of_one HP5.out.1
              have m2 := free_of_one HP5.out.1
              have m3 := lt_of_block HP5.out.1
              have HPO := Lib.hid HP5.out.pop
              have hn5 : l.length + 1 ≤ cv := by simpa using hn4
              clear hn4
              simp only [List.length_append, List.length_cons, List.length_nil, Nat.zero_add] at m1
              have HGB := Lib.hid (HGA.out.step HPO.out.2)
              have HTB := Lib.hid (HTA.out.step HPO.out.2)
              have HCB := Lib.hid (HCA.out.step HPO.out.2 (fun g h => (HP5.out.own g h).1))
              have HSB := Lib.hid (HSA.out.trans HPO.out.2)
              have HPB := Lib.hid HPO.out.1
              clear HGA HTA HCA HSA HPO HP5
              go_wp2
              generalize w4.setCell ⟨bp, 0, none⟩ (.slice (some ⟨gv, 0, none⟩) l.length cv) = W5 at *
              rw [rounds_succ]
              have HGA := HGB
              have HTA := HTB
              have HCA := HCB
              have HSA := HSB
              have HPA := HPB
              clear HGB HTB HCB HSB HPB m1 m2 m3
              obtain ⟨gk1, ofk1, xs1, xA1, xn1, xc1, xB1, xm1, xd1, ek1, HTK, j0, j1, j2⟩ := HK1.out W5 (HSA.out.stays (b0 := b0) HCA.out.h3 (fun g h => Nat.le_trans (Nat.le_trans HCA.out.h4 (Nat.le_of_lt HCA.out.m3)) (HPATH.out.own g h).1))
              cases ek1
              rw [Nat.one_mul] at j0 j1 j2
              have HZ := Lib.hid ((Below.refl W5.heap.size W5).alloc (Nat.le_refl _) (.cells #[.int .i64 xs1, .slice xA1 xn1 xc1, .slice xB1 xm1 xd1] 38))
              have HEB := Lib.hid (Live.fresh HPA.out (Nat.le_refl _) (heap_alloc_new W5 (.cells #[.int .i64 xs1, .slice xA1 xn1 xc1, .slice xB1 xm1 xd1] 38)))
              have HTK1 := Lib.hid (TreeIn.stays (S' := fun g => g < b0) (Stays.of_below HZ.out) (fun x hx _ => hx) _ _ HTK)
              have HPB := Lib.hid (HPA.out.below HZ.out)
              have HGB := Lib.hid (HGA.out.step (PStep.of_below HZ.out))
              have HTB := Lib.hid (HTA.out.step (PStep.of_below HZ.out))
              have HSB := Lib.hid (HSA.out.trans (PStep.of_below HZ.out))
              have HCB := Lib.hid (HCA.out.step (PStep.of_below (bp := bp) (v := (.slice (some ⟨gv, 0, none⟩) l.length cv)) HZ.out) (fun g h => (HPA.out.own g h).1))
              have hpc := cell_of_one HPB.out.1
              have hpf := free_of_one HPB.out.1
              have hpz := lt_of_block HPB.out.1
              have hbz := HPB.out.2.2.2
              have ht1 := (cell3 HTA.out.2.2).2.1
              have hpn := HPA.out.2.2.1
              clear HTK
              go_upto_region 9 with fail
              generalize W5.alloc (.cells #[.int .i64 xs1, .slice xA1 xn1 xc1, .slice xB1 xm1 xd1] 38) = X1 at *
              clear j0 j1 j2 ht1
              have HOWN := Lib.hid HPB.out.2.1
              go_wp2_with (at_builtin; refine wpList_append_lies _ rfl _ _ 27 rfl base 3 i0 _ 1 8 Tryd.underlying27 ia ib ic id rfl (by omega) (.slice (some ⟨gv, 0, none⟩) l.length cv) l.length (natCells l) rfl (HOWN.out.alloc _) ⟨X1.heap.size, 0, none⟩ 1 1 [.int .i64 1] rfl rfl (World.news_of_block (cs := #[.int .i64 1]) (t := 3) (fr := (0, 0)) (heap_alloc_new X1 _)) (by simp [Value.oneCell']) (by omega) (by unfold maxLen; omega) (by omega) (by simp; omega) (X1.heap.size + 1) (by simp) ?_)
              intro gq cq w3 hown3 hgrow hat hlt3
              have HPU := Lib.hid (HPB.out.push (i := 1) ((Below.refl X1.heap.size X1).alloc (Nat.le_refl _) _) hown3 hgrow (fun g h => by cases h; exact hat.imp (fun h => h) (fun h => by rw [h]; exact Nat.le_succ _)))
              have k3 := (hgrow.block bp (by simp; omega) (fun e => by have := (HPB.out.own bp e.symm).1; omega)).trans ((heap_alloc_old X1 _ hpz).trans HPB.out.1)
              have kc3 := cell_of_one k3
              have kf3 := free_of_one k3
              have kz3 := lt_of_block k3
              clear k3 hown3 hgrow hat hpc hpf
              go_upto_region 10 with fail
              generalize w3.setCell ⟨bp, 0, none⟩ (.slice (some ⟨gq, 0, none⟩) (l.length + 1) cq) = Y1 at *
              clear kc3 kf3 kz3 hlt3
              have HGY := Lib.hid (HGB.out.step HPU.out.2)
              have HTY := Lib.hid (HTB.out.step HPU.out.2)
              have HEY := Lib.hid (HEB.out.step HPU.out.2)
              have HCY := Lib.hid (HCB.out.step HPU.out.2 (fun g h => (HPB.out.own g h).1))
              have HSY := Lib.hid (HSB.out.trans HPU.out.2)
              have HTKY := Lib.hid (TreeIn.stays (HPU.out.2.stays (b0 := b0) HCB.out.h3 (fun g h => Nat.le_trans (Nat.le_trans HCB.out.h4 (Nat.le_of_lt HCB.out.m3)) (HPB.out.own g h).1)) (fun x hx _ => hx) _ _ HTK1.out)
              have HRY := Lib.hid (HROW.out.stays (HSY.out.stays (b0 := b0) HCB.out.h3 (fun g h => Nat.le_trans (Nat.le_trans HCB.out.h4 (Nat.le_of_lt HCB.out.m3)) (HPATH.out.own g h).1)) (fun x hx _ => hx))
              have f0 := cell_of_one HCY.out.hw
              obtain ⟨g0, g1, g2, g3, g4, g5, g6⟩ := (cell14 HGY.out.2.2).2
              obtain ⟨e0, e1, e2⟩ := cell3 HEY.out.2.2
              have z0 := lt_of_block HCY.out.hw
              have z1 := lt_of_block HGY.out.2.2
              have z2 := lt_of_block HEY.out.2.2
              unfold wrongF at f0
              clear HGB HTB HEB HCB HSB HTK1 HZ HGA HTA HSA HCA HPA
              go_region_held3 (fun w' => w'.cell? ⟨bw, 0, none⟩ = some (.func (.func 64) #[] #[.pointer (some ⟨bl, 0, none⟩), .pointer (some ⟨bs, 0, none⟩), .pointer (some ⟨bp, 0, none⟩), .pointer (some ⟨bw, 0, none⟩)]) ∧ w'.cell? ⟨gl, 7, none⟩ = some (.int .i64 b.l0) ∧ w'.cell? ⟨gl, 8, none⟩ = some (.int .i64 b.l1) ∧ w'.cell? ⟨gl, 9, none⟩ = some (.int .i64 b.l2) ∧ w'.cell? ⟨gl, 10, none⟩ = some (.int .i64 b.h0) ∧ w'.cell? ⟨gl, 11, none⟩ = some (.int .i64 b.h1) ∧ w'.cell? ⟨gl, 12, none⟩ = some (.int .i64 b.h2) ∧ w'.cell? ⟨gl, 13, none⟩ = some (.slice A b.rows.length cp) ∧ w'.cell? ⟨W5.heap.size, 0, none⟩ = some (.int .i64 xs1) ∧ w'.cell? ⟨W5.heap.size, 1, none⟩ = some (.slice xA1 xn1 xc1) ∧ w'.cell? ⟨W5.heap.size, 2, none⟩ = some (.slice xB1 xm1 xd1)) (first | go_keep) ((go_at_call 64; refine (HW1.out _ _ _ _ _ _ _ _ _ _ _ _ HLB.out (TreeIn.below HTKY.out (below_drew (Below.refl _ _))) (by rw [HERB.out]; exact HRY.out.stays (Stays.of_below (below_drew (Below.refl _ _))) (fun x hx _ => hx)) (HCY.out.step (PStep.of_below (bp := bp) (below_drew (Below.refl _ _))) (fun g h => (HPU.out.1.own g h).1)) (HPU.out.1.below (below_drew (Below.refl _ _))) (by rw [List.length_append]; simp only [List.length_cons, List.length_nil]; omega)).mono ?_; rintro e w6 ⟨v6, rfl, hp4, hs4⟩; have hs5 : PStep bp (.slice (some ⟨gq, 0, none⟩) (l.length + 1) cq) v6 Y1 w6 := (PStep.of_below (below_drew (Below.refl _ _))).trans hs4; have f9 := cell_of_one (HCY.out.step hs5 (fun g h => (HPU.out.1.own g h).1)).hw; unfold wrongF at f9; obtain ⟨p0, p1, p2, p3, p4, p5, p6⟩ := (cell14 (HGY.out.step hs5).2.2).2; obtain ⟨r0, r1, r2⟩ := cell3 (HEY.out.step hs5).2.2))
              have HP4 := Lib.hid hp4
              have HS4 := Lib.hid hs5
              have HGA := Lib.hid (HGY.out.step HS4.out)
              have HTA := Lib.hid (HTY.out.step HS4.out)
              have HCA := Lib.hid (HCY.out.step HS4.out (fun g h => (HPU.out.1.own g h).1))
              have HSA := Lib.hid (HSY.out.trans HS4.out)
              clear hp4 hs4 hs5 f9 p0 p1 p2 p3 p4 p5 p6 r0 r1 r2 f0 g0 g1 g2 g3 g4 g5 g6 e0 e1 e2 z0 z1 z2 HPU HGY HTY HEY HCY HSY HTKY HRY HS4 HOWN
              go_wp2
              go_ret
              exact ⟨v6, rfl, by simpa using HP4.out, HSA.out⟩

            | none =>
              rw [hw1] at HW1
              simp only
              clear hw0 hw1
              go_enter Tryd.func64, Tryd.ntmps64
              go_wp2_with fail
              refine HP.out.mono ?_
              rintro e w2 ⟨gl, rfl, hg, hgw, hb2⟩
              have HBA := Lib.hid (HBB.out.1.trans (hb2.mono HBB.out.1.size))
              have HTA := Lib.hid (Live.fresh HPATH.out (x := w.heap.size + 1) (by omega) (hb2.block _ (lt_of_block HBB.out.2.2) |>.trans HBB.out.2.2))
              have HGA := Lib.hid (Live.fresh HPATH.out (by have := HBB.out.1.size; omega) hg)
              have HPA := Lib.hid (HPATH.out.below HBA.out)
              have HSA := Lib.hid (PStep.of_below (bp := bp) (v := v) HBA.out)
              have HCA := Lib.hid (HCAP.out.step HSA.out (fun g h => (HPATH.out.own g h).1))
              obtain ⟨t0, t1, t2⟩ := cell3 HTA.out.2.2
              clear hb2 hg HP c1 c2 hgw
              go_wp2
              clear t0 t1 t2
              refine wp_loop_rounds 3 ?_
              rw [rounds_succ]
              obtain ⟨gk0, ofk0, xs0, xA0, xn0, xc0, xB0, xm0, xd0, ek0, HTK, j0, j1, j2⟩ := HK0.out w2 (HSA.out.stays (b0 := b0) HCA.out.h3 (fun g h => Nat.le_trans (Nat.le_trans HCA.out.h4 (Nat.le_of_lt HCA.out.m3)) (HPATH.out.own g h).1))
              subst ek0
              rw [Nat.zero_mul, Nat.add_zero] at j0 j1 j2
              have HZ := Lib.hid ((Below.refl w2.heap.size w2).alloc (Nat.le_refl _) (.cells #[.int .i64 xs0, .slice xA0 xn0 xc0, .slice xB0 xm0 xd0] 38))
              have HEB := Lib.hid (Live.fresh HPA.out (Nat.le_refl _) (heap_alloc_new w2 (.cells #[.int .i64 xs0, .slice xA0 xn0 xc0, .slice xB0 xm0 xd0] 38)))
              have HTK1 := Lib.hid (TreeIn.stays (S' := fun g => g < b0) (Stays.of_below HZ.out) (fun x hx _ => hx) _ _ HTK)
              have HPB := Lib.hid (HPA.out.below HZ.out)
              have HGB := Lib.hid (HGA.out.step (PStep.of_below HZ.out))
              have HTB := Lib.hid (HTA.out.step (PStep.of_below HZ.out))
              have HSB := Lib.hid (HSA.out.trans (PStep.of_below HZ.out))
              have HCB := Lib.hid (HCA.out.step (PStep.of_below (bp := bp) (v := v) HZ.out) (fun g h => (HPA.out.own g h).1))
              have hpc := cell_of_one HPB.out.1
              have hpf := free_of_one HPB.out.1
              have hpz := lt_of_block HPB.out.1
              have hbz := HPB.out.2.2.2
              have ht1 := (cell3 HTA.out.2.2).2.1
              have hpn := HPA.out.2.2.1
              clear HTK
              go_upto_region 9 with fail
              generalize w2.alloc (.cells #[.int .i64 xs0, .slice xA0 xn0 xc0, .slice xB0 xm0 xd0] 38) = X0 at *
              clear j0 j1 j2 ht1
              have HOWN := Lib.hid HPB.out.2.1
              go_wp2_with (at_builtin; refine wpList_append_lies _ rfl _ _ 27 rfl base 3 i0 _ 1 8 Tryd.underlying27 ia ib ic id rfl (by omega) v l.length (natCells l) rfl (HOWN.out.alloc _) ⟨X0.heap.size, 0, none⟩ 1 1 [.int .i64 0] rfl rfl (World.news_of_block (cs := #[.int .i64 0]) (t := 3) (fr := (0, 0)) (heap_alloc_new X0 _)) (by simp [Value.oneCell']) (by omega) (by unfold maxLen; omega) (by omega) (by simp; omega) (X0.heap.size + 1) (by simp) ?_)
              intro gq cq w3 hown3 hgrow hat hlt3
              have HPU := Lib.hid (HPB.out.push (i := 0) ((Below.refl X0.heap.size X0).alloc (Nat.le_refl _) _) hown3 hgrow (fun g h => by cases h; exact hat.imp (fun h => h) (fun h => by rw [h]; exact Nat.le_succ _)))
              have k3 := (hgrow.block bp (by simp; omega) (fun e => by have := (HPB.out.own bp e.symm).1; omega)).trans ((heap_alloc_old X0 _ hpz).trans HPB.out.1)
              have kc3 := cell_of_one k3
              have kf3 := free_of_one k3
              have kz3 := lt_of_block k3
              clear k3 hown3 hgrow hat hpc hpf
              go_upto_region 10 with fail
              generalize w3.setCell ⟨bp, 0, none⟩ (.slice (some ⟨gq, 0, none⟩) (l.length + 1) cq) = Y0 at *
              clear kc3 kf3 kz3 hlt3
              have HGY := Lib.hid (HGB.out.step HPU.out.2)
              have HTY := Lib.hid (HTB.out.step HPU.out.2)
              have HEY := Lib.hid (HEB.out.step HPU.out.2)
              have HCY := Lib.hid (HCB.out.step HPU.out.2 (fun g h => (HPB.out.own g h).1))
              have HSY := Lib.hid (HSB.out.trans HPU.out.2)
              have HTKY := Lib.hid (TreeIn.stays (HPU.out.2.stays (b0 := b0) HCB.out.h3 (fun g h => Nat.le_trans (Nat.le_trans HCB.out.h4 (Nat.le_of_lt HCB.out.m3)) (HPB.out.own g h).1)) (fun x hx _ => hx) _ _ HTK1.out)
              have HRY := Lib.hid (HROW.out.stays (HSY.out.stays (b0 := b0) HCB.out.h3 (fun g h => Nat.le_trans (Nat.le_trans HCB.out.h4 (Nat.le_of_lt HCB.out.m3)) (HPATH.out.own g h).1)) (fun x hx _ => hx))
              have f0 := cell_of_one HCY.out.hw
              obtain ⟨g0, g1, g2, g3, g4, g5, g6⟩ := (cell14 HGY.out.2.2).1
              obtain ⟨e0, e1, e2⟩ := cell3 HEY.out.2.2
              have z0 := lt_of_block HCY.out.hw
              have z1 := lt_of_block HGY.out.2.2
              have z2 := lt_of_block HEY.out.2.2
              unfold wrongF at f0
              clear HGB HTB HEB HCB HSB HTK1 HZ HGA HTA HSA HCA HPA
              go_region_held3 (fun w' => w'.cell? ⟨bw, 0, none⟩ = some (.func (.func 64) #[] #[.pointer (some ⟨bl, 0, none⟩), .pointer (some ⟨bs, 0, none⟩), .pointer (some ⟨bp, 0, none⟩), .pointer (some ⟨bw, 0, none⟩)]) ∧ w'.cell? ⟨gl, 0, none⟩ = some (.int .i64 a.l0) ∧ w'.cell? ⟨gl, 1, none⟩ = some (.int .i64 a.l1) ∧ w'.cell? ⟨gl, 2, none⟩ = some (.int .i64 a.l2) ∧ w'.cell? ⟨gl, 3, none⟩ = some (.int .i64 a.h0) ∧ w'.cell? ⟨gl, 4, none⟩ = some (.int .i64 a.h1) ∧ w'.cell? ⟨gl, 5, none⟩ = some (.int .i64 a.h2) ∧ w'.cell? ⟨gl, 6, none⟩ = some (.slice A a.rows.length cp) ∧ w'.cell? ⟨w2.heap.size, 0, none⟩ = some (.int .i64 xs0) ∧ w'.cell? ⟨w2.heap.size, 1, none⟩ = some (.slice xA0 xn0 xc0) ∧ w'.cell? ⟨w2.heap.size, 2, none⟩ = some (.slice xB0 xm0 xd0)) (first | go_keep) ((go_at_call 64; refine (HW0.out _ _ _ _ _ _ _ _ _ _ _ _ HLA.out (TreeIn.below HTKY.out (below_drew (Below.refl _ _))) (by rw [HERA.out]; exact HRY.out.stays (Stays.of_below (below_drew (Below.refl _ _))) (fun x hx _ => hx)) (HCY.out.step (PStep.of_below (bp := bp) (below_drew (Below.refl _ _))) (fun g h => (HPU.out.1.own g h).1)) (HPU.out.1.below (below_drew (Below.refl _ _))) (by rw [List.length_append]; simp only [List.length_cons, List.length_nil]; omega)).mono ?_; rintro e w4 ⟨v4, rfl, hp4, hs4⟩; have hs5 : PStep bp (.slice (some ⟨gq, 0, none⟩) (l.length + 1) cq) v4 Y0 w4 := (PStep.of_below (below_drew (Below.refl _ _))).trans hs4; have f9 := cell_of_one (HCY.out.step hs5 (fun g h => (HPU.out.1.own g h).1)).hw; unfold wrongF at f9; obtain ⟨p0, p1, p2, p3, p4, p5, p6⟩ := (cell14 (HGY.out.step hs5).2.2).1; obtain ⟨r0, r1, r2⟩ := cell3 (HEY.out.step hs5).2.2))
              have HP4 := Lib.hid hp4
              have HS4 := Lib.hid hs5
              have HGA := Lib.hid (HGY.out.step HS4.out)
              have HTA := Lib.hid (HTY.out.step HS4.out)
              have HCA := Lib.hid (HCY.out.step HS4.out (fun g h => (HPU.out.1.own g h).1))
              have HSA := Lib.hid (HSY.out.trans HS4.out)
              clear hp4 hs4 hs5 f9 p0 p1 p2 p3 p4 p5 p6 r0 r1 r2 f0 g0 g1 g2 g3 g4 g5 g6 e0 e1 e2 z0 z1 z2 HPU HGY HTY HEY HCY HSY HTKY HRY HS4 HOWN
              simp only [Option.getD_none, List.append_nil] at HP4
              obtain ⟨gv, cv, hv4, hn4⟩ := own_form HP4.out (by simp)
              subst hv4
              have HP5 := Lib.hid HP4.out
              clear HP4
              have m1 := cell_of_one HP5.out.1
              have m2 := free_of_one HP5.out.1
              have m3 := lt_of_block HP5.out.1
              have HPO := Lib.hid HP5.out.pop
              have hn5 : l.length + 1 ≤ cv := by simpa using hn4
              clear hn4
              simp only [List.length_append, List.length_cons, List.length_nil, Nat.zero_add] at m1
              have HGB := Lib.hid (HGA.out.step HPO.out.2)
              have HTB := Lib.hid (HTA.out.step HPO.out.2)
              have HCB := Lib.hid (HCA.out.step HPO.out.2 (fun g h => (HP5.out.own g h).1))
              have HSB := Lib.hid (HSA.out.trans HPO.out.2)
              have HPB := Lib.hid HPO.out.1
              clear HGA HTA HCA HSA HPO HP5
              go_wp2
              generalize w4.setCell ⟨bp, 0, none⟩ (.slice (some ⟨gv, 0, none⟩) l.length cv) = W5 at *
              rw [rounds_succ]
              have HGA := HGB
              have HTA := HTB
              have HCA := HCB
              have HSA := HSB
              have HPA := HPB
              clear HGB HTB HCB HSB HPB m1 m2 m3
              obtain ⟨gk1, ofk1, xs1, xA1, xn1, xc1, xB1, xm1, xd1, ek1, HTK, j0, j1, j2⟩ := HK1.out W5 (HSA.out.stays (b0 := b0) HCA.out.h3 (fun g h => Nat.le_trans (Nat.le_trans HCA.out.h4 (Nat.le_of_lt HCA.out.m3)) (HPATH.out.own g h).1))
              cases ek1
              rw [Nat.one_mul] at j0 j1 j2
              have HZ := Lib.hid ((Below.refl W5.heap.size W5).alloc (Nat.le_refl _) (.cells #[.int .i64 xs1, .slice xA1 xn1 xc1, .slice xB1 xm1 xd1] 38))
              have HEB := Lib.hid (Live.fresh HPA.out (Nat.le_refl _) (heap_alloc_new W5 (.cells #[.int .i64 xs1, .slice xA1 xn1 xc1, .slice xB1 xm1 xd1] 38)))
              have HTK1 := Lib.hid (TreeIn.stays (S' := fun g => g < b0) (Stays.of_below HZ.out) (fun x hx _ => hx) _ _ HTK)
              have HPB := Lib.hid (HPA.out.below HZ.out)
              have HGB := Lib.hid (HGA.out.step (PStep.of_below HZ.out))
              have HTB := Lib.hid (HTA.out.step (PStep.of_below HZ.out))
              have HSB := Lib.hid (HSA.out.trans (PStep.of_below HZ.out))
              have HCB := Lib.hid (HCA.out.step (PStep.of_below (bp := bp) (v := (.slice (some ⟨gv, 0, none⟩) l.length cv)) HZ.out) (fun g h => (HPA.out.own g h).1))
              have hpc := cell_of_one HPB.out.1
              have hpf := free_of_one HPB.out.1
              have hpz := lt_of_block HPB.out.1
              have hbz := HPB.out.2.2.2
              have ht1 := (cell3 HTA.out.2.2).2.1
              have hpn := HPA.out.2.2.1
              clear HTK
              go_upto_region 9 with fail
              generalize W5.alloc (.cells #[.int .i64 xs1, .slice xA1 xn1 xc1, .slice xB1 xm1 xd1] 38) = X1 at *
              clear j0 j1 j2 ht1
              have HOWN := Lib.hid HPB.out.2.1
              go_wp2_with (at_builtin; refine wpList_append_lies _ rfl _ _ 27 rfl base 3 i0 _ 1 8 Tryd.underlying27 ia ib ic id rfl (by omega) (.slice (some ⟨gv, 0, none⟩) l.length cv) l.length (natCells l) rfl (HOWN.out.alloc _) ⟨X1.heap.size, 0, none⟩ 1 1 [.int .i64 1] rfl rfl (World.news_of_block (cs := #[.int .i64 1]) (t := 3) (fr := (0, 0)) (heap_alloc_new X1 _)) (by simp [Value.oneCell']) (by omega) (by unfold maxLen; omega) (by omega) (by simp; omega) (X1.heap.size + 1) (by simp) ?_)
              intro gq cq w3 hown3 hgrow hat hlt3
              have HPU := Lib.hid (HPB.out.push (i := 1) ((Below.refl X1.heap.size X1).alloc (Nat.le_refl _) _) hown3 hgrow (fun g h => by cases h; exact hat.imp (fun h => h) (fun h => by rw [h]; exact Nat.le_succ _)))
              have k3 := (hgrow.block bp (by simp; omega) (fun e => by have := (HPB.out.own bp e.symm).1; omega)).trans ((heap_alloc_old X1 _ hpz).trans HPB.out.1)
              have kc3 := cell_of_one k3
              have kf3 := free_of_one k3
              have kz3 := lt_of_block k3
              clear k3 hown3 hgrow hat hpc hpf
              go_upto_region 10 with fail
              generalize w3.setCell ⟨bp, 0, none⟩ (.slice (some ⟨gq, 0, none⟩) (l.length + 1) cq) = Y1 at *
              clear kc3 kf3 kz3 hlt3
              have HGY := Lib.hid (HGB.out.step HPU.out.2)
              have HTY := Lib.hid (HTB.out.step HPU.out.2)
              have HEY := Lib.hid (HEB.out.step HPU.out.2)
              have HCY := Lib.hid (HCB.out.step HPU.out.2 (fun g h => (HPB.out.own g h).1))
              have HSY := Lib.hid (HSB.out.trans HPU.out.2)
              have HTKY := Lib.hid (TreeIn.stays (HPU.out.2.stays (b0 := b0) HCB.out.h3 (fun g h => Nat.le_trans (Nat.le_trans HCB.out.h4 (Nat.le_of_lt HCB.out.m3)) (HPB.out.own g h).1)) (fun x hx _ => hx) _ _ HTK1.out)
              have HRY := Lib.hid (HROW.out.stays (HSY.out.stays (b0 := b0) HCB.out.h3 (fun g h => Nat.le_trans (Nat.le_trans HCB.out.h4 (Nat.le_of_lt HCB.out.m3)) (HPATH.out.own g h).1)) (fun x hx _ => hx))
              have f0 := cell_of_one HCY.out.hw
              obtain ⟨g0, g1, g2, g3, g4, g5, g6⟩ := (cell14 HGY.out.2.2).2
              obtain ⟨e0, e1, e2⟩ := cell3 HEY.out.2.2
              have z0 := lt_of_block HCY.out.hw
              have z1 := lt_of_block HGY.out.2.2
              have z2 := lt_of_block HEY.out.2.2
              unfold wrongF at f0
              clear HGB HTB HEB HCB HSB HTK1 HZ HGA HTA HSA HCA HPA
              go_region_held3 (fun w' => w'.cell? ⟨bw, 0, none⟩ = some (.func (.func 64) #[] #[.pointer (some ⟨bl, 0, none⟩), .pointer (some ⟨bs, 0, none⟩), .pointer (some ⟨bp, 0, none⟩), .pointer (some ⟨bw, 0, none⟩)]) ∧ w'.cell? ⟨gl, 7, none⟩ = some (.int .i64 b.l0) ∧ w'.cell? ⟨gl, 8, none⟩ = some (.int .i64 b.l1) ∧ w'.cell? ⟨gl, 9, none⟩ = some (.int .i64 b.l2) ∧ w'.cell? ⟨gl, 10, none⟩ = some (.int .i64 b.h0) ∧ w'.cell? ⟨gl, 11, none⟩ = some (.int .i64 b.h1) ∧ w'.cell? ⟨gl, 12, none⟩ = some (.int .i64 b.h2) ∧ w'.cell? ⟨gl, 13, none⟩ = some (.slice A b.rows.length cp) ∧ w'.cell? ⟨W5.heap.size, 0, none⟩ = some (.int .i64 xs1) ∧ w'.cell? ⟨W5.heap.size, 1, none⟩ = some (.slice xA1 xn1 xc1) ∧ w'.cell? ⟨W5.heap.size, 2, none⟩ = some (.slice xB1 xm1 xd1)) (first | go_keep) ((go_at_call 64; refine (HW1.out _ _ _ _ _ _ _ _ _ _ _ _ HLB.out (TreeIn.below HTKY.out (below_drew (Below.refl _ _))) (by rw [HERB.out]; exact HRY.out.stays (Stays.of_below (below_drew (Below.refl _ _))) (fun x hx _ => hx)) (HCY.out.step (PStep.of_below (bp := bp) (below_drew (Below.refl _ _))) (fun g h => (HPU.out.1.own g h).1)) (HPU.out.1.below (below_drew (Below.refl _ _))) (by rw [List.length_append]; simp only [List.length_cons, List.length_nil]; omega)).mono ?_; rintro e w6 ⟨v6, rfl, hp4, hs4⟩; have hs5 : PStep bp (.slice (some ⟨gq, 0, none⟩) (l.length + 1) cq) v6 Y1 w6 := (PStep.of_below (below_drew (Below.refl _ _))).trans hs4; have f9 := cell_of_one (HCY.out.step hs5 (fun g h => (HPU.out.1.own g h).1)).hw; unfold wrongF at f9; obtain ⟨p0, p1, p2, p3, p4, p5, p6⟩ := (cell14 (HGY.out.step hs5).2.2).2; obtain ⟨r0, r1, r2⟩ := cell3 (HEY.out.step hs5).2.2))
              have HP4 := Lib.hid hp4
              have HS4 := Lib.hid hs5
              have HGA := Lib.hid (HGY.out.step HS4.out)
              have HTA := Lib.hid (HTY.out.step HS4.out)
              have HCA := Lib.hid (HCY.out.step HS4.out (fun g h => (HPU.out.1.own g h).1))
              have HSA := Lib.hid (HSY.out.trans HS4.out)
              clear hp4 hs4 hs5 f9 p0 p1 p2 p3 p4 p5 p6 r0 r1 r2 f0 g0 g1 g2 g3 g4 g5 g6 e0 e1 e2 z0 z1 z2 HPU HGY HTY HEY HCY HSY HTKY HRY HS4 HOWN
              simp only [Option.getD_none, List.append_nil] at HP4
              obtain ⟨gw, cw, hv6, hn4⟩ := own_form HP4.out (by simp)
              subst hv6
              have HP5 := Lib.hid HP4.out
              clear HP4
              have m1 := cell_of_one HP5.out.1
              have m2 := free_of_one HP5.out.1
              have m3 := lt_of_block HP5.out.1
              have HPO := Lib.hid HP5.out.pop
              have hn5 : l.length + 1 ≤ cw := by simpa using hn4
              clear hn4
              simp only [List.length_append, List.length_cons, List.length_nil, Nat.zero_add] at m1
              have HGB := Lib.hid (HGA.out.step HPO.out.2)
              have HTB := Lib.hid (HTA.out.step HPO.out.2)
              have HCB := Lib.hid (HCA.out.step HPO.out.2 (fun g h => (HP5.out.own g h).1))
              have HSB := Lib.hid (HSA.out.trans HPO.out.2)
              have HPB := Lib.hid HPO.out.1
              clear HGA HTA HCA HSA HPO HP5
              go_wp2
              generalize w6.setCell ⟨bp, 0, none⟩ (.slice (some ⟨gw, 0, none⟩) l.length cw) = W7 at *
              rw [rounds_succ]
              go_wp2
              go_ret
              exact ⟨.slice (some ⟨gw, 0, none⟩) l.length cw, rfl, by simpa using HPB.out, HSB.out⟩

        · rw [wrong_many h0 hp h2]
          have q2 : (2 != (ks.length : Int)) = true := by simp; omega
          clear hrow hlf hr hk hnd hak hal hf hfk IH h h0 hnk hp h2
          go_enter Tryd.func64, Tryd.ntmps64
          go_wp2_with fail
          refine HP.out.mono ?_
          rintro e w2 ⟨g, rfl, hg, _, hb2⟩
          have HT := Lib.hid (hb2.block _ (lt_of_block HBB.out.2.2) |>.trans HBB.out.2.2)
          obtain ⟨t0, t1, t2⟩ := cell3 HT.out
          have HB2 := Lib.hid (HBB.out.1.trans (hb2.mono HBB.out.1.size))
          clear hb2 hg
          go_wp2
          go_ret
          exact ⟨v, rfl, by simpa using HPATH.out.below HB2.out, PStep.of_below HB2.out⟩
end Go.Proofs.YtjjohllfidmkjaaDoor.PfW
