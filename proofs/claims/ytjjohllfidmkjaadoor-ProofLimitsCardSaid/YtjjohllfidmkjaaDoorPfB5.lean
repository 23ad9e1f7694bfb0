/- Walk: Build over systems. Conditions: the system is little; the rows lie in memory. -/
import Derived.Test.YtjjohllfidmkjaaDoorPfB4
import Derived.Test.YtjjohllfidmkjaaDoorPfC2
import Derived.Test.YtjjohllfidmkjaaDoorPfF2
import Derived.Test.YtjjohllfidmkjaaDoorPfC3

namespace Go.Proofs.YtjjohllfidmkjaaDoor.PfW
open Go Go.RowKit Go.Proofs.YtjjohllfidmkjaaDoor.Mem Go.Proofs.YtjjohllfidmkjaaDoor.Pf
attribute [local go_sem ↓] Go.wp_at_zero Go.wp_at_succ

def buildF (bn bpl bsp bb : Nat) : Value := .func (.func 55) #[] #[.pointer (some ⟨bn, 0, none⟩), .pointer (some ⟨bpl, 0, none⟩), .pointer (some ⟨bsp, 0, none⟩), .pointer (some ⟨bb, 0, none⟩)]
structure CapB (b0 bn bpl bsp bb : Nat) (w : World) : Prop where
  hpl : w.heap[bpl]? = some (.cells #[.func (.func 36) #[] #[]] 60 (0, 0))
  hsp : w.heap[bsp]? = some (.cells #[.func (.func 35) #[] #[]] 59 (0, 0))
  hb : w.heap[bb]? = some (.cells #[buildF bn bpl bsp bb] 92 (0, 0))
  h1 : b0 ≤ bn
  n1 : bpl ≠ bn
  n2 : bsp ≠ bn
  n3 : bb ≠ bn
theorem CapB.grow {b0 bn bpl bsp bb : Nat} {w w' : World} (h : CapB b0 bn bpl bsp bb w) (hg : w.grownBy w' (some bn)) : CapB b0 bn bpl bsp bb w' :=
  ⟨(hg.block _ (lt_of_block h.hpl) (fun e => h.n1 (by cases e; rfl))).trans h.hpl, (hg.block _ (lt_of_block h.hsp) (fun e => h.n2 (by cases e; rfl))).trans h.hsp, (hg.block _ (lt_of_block h.hb) (fun e => h.n3 (by cases e; rfl))).trans h.hb, h.h1, h.n1, h.n2, h.n3⟩
/-- The box of the result, and what grew. -/
structure FL (bn : Nat) (w wr : World) : Prop where
  rbox : wr.heap[w.heap.size + 1]? = some (.cells #[.int .i64 0, .slice none 0 0, .slice none 0 0] 38 (0, 0))
  grow : w.grownBy wr (some bn)
  lt : bn < w.heap.size
theorem FL.step {bn : Nat} {w wr w' : World} (h : FL bn w wr) (hg : wr.grownBy w' (some bn)) : FL bn w w' :=
  ⟨(hg.block _ (lt_of_block h.rbox) (fun e => by have := h.lt; cases e; omega)).trans h.rbox, gtrans h.grow hg, h.lt⟩
/-- Where the closure stands. -/
structure BL (b0 bn bpl bsp bb : Nat) (y : Syst) (A : Option Addr) (cp n : Nat) (w wr : World) : Prop where
  cap : CapB b0 bn bpl bsp bb wr
  cnt : wr.heap[bn]? = some (.cells #[.int .i64 (n : Int)] 3 (0, 0))
  sbox : wr.heap[w.heap.size]? = some (.cells #[.int .i64 y.l0, .int .i64 y.l1, .int .i64 y.l2, .int .i64 y.h0, .int .i64 y.h1, .int .i64 y.h2, .slice A y.rows.length cp] 25 (0, 0))
  rbox : wr.heap[w.heap.size + 1]? = some (.cells #[.int .i64 0, .slice none 0 0, .slice none 0 0] 38 (0, 0))
  rows : RowS (fun g => g < b0) wr A (y.rows.flatMap r4Cells)
  grow : w.grownBy wr (some bn)
  lt : bn < w.heap.size
theorem BL.fl {b0 bn bpl bsp bb : Nat} {y : Syst} {A : Option Addr} {cp n : Nat} {w wr : World} (h : BL b0 bn bpl bsp bb y A cp n w wr) : FL bn w wr := ⟨h.rbox, h.grow, h.lt⟩
theorem BL.step {b0 bn bpl bsp bb : Nat} {y : Syst} {A : Option Addr} {cp n m : Nat} {w wr w' : World} (h : BL b0 bn bpl bsp bb y A cp n w wr) (hg : wr.grownBy w' (some bn)) (hc : w'.heap[bn]? = some (.cells #[.int .i64 (m : Int)] 3 (0, 0))) : BL b0 bn bpl bsp bb y A cp m w w' :=
  ⟨h.cap.grow hg, hc, (hg.block _ (lt_of_block h.sbox) (fun e => by have := h.lt; cases e; omega)).trans h.sbox, (h.fl.step hg).rbox, h.rows.stays (fun g hg1 hg2 => hg.block g hg2 (fun e => by have := h.cap.h1; cases e; omega)) (fun _ h _ => h), gtrans h.grow hg, h.lt⟩
theorem BL.below {b0 bn bpl bsp bb : Nat} {y : Syst} {A : Option Addr} {cp n : Nat} {w wr w' : World} (h : BL b0 bn bpl bsp bb y A cp n w wr) (hb : Below wr.heap.size wr w') : BL b0 bn bpl bsp bb y A cp n w w' :=
  h.step (grown_of_below hb) ((hb.block _ (lt_of_block h.cnt)).trans h.cnt)
/-- A store into a newer box, behind an append to a newer row. -/
theorem BL.set {b0 bn bpl bsp bb : Nat} {y : Syst} {A : Option Addr} {cp n : Nat} {w wr w' : World} {bx : Nat} {ob : Option Nat} (h : BL b0 bn bpl bsp bb y A cp n w wr) (hg : wr.grownBy w' ob) (hx : w.heap.size + 1 < bx) (hn : ∀ b, b ≤ bx → some b ≠ ob) (hf : bpl < bx) (hf2 : bsp < bx) (hf3 : bb < bx) (hb0 : b0 ≤ bx) (j : Nat) (u : Value) : BL b0 bn bpl bsp bb y A cp n w (w'.setCell ⟨bx, j, none⟩ u) := by
  have hl := h.lt
  have k : ∀ b, b < bx → b < wr.heap.size → (w'.setCell ⟨bx, j, none⟩ u).heap[b]? = wr.heap[b]? := fun b hb hz => by
    rw [Below.heap_setCell _ _ _ _ (by show b ≠ bx; omega), hg.block b hz (hn b (by omega))]
  refine ⟨⟨(k _ hf (lt_of_block h.cap.hpl)).trans h.cap.hpl, (k _ hf2 (lt_of_block h.cap.hsp)).trans h.cap.hsp, (k _ hf3 (lt_of_block h.cap.hb)).trans h.cap.hb, h.cap.h1, h.cap.n1, h.cap.n2, h.cap.n3⟩, (k _ (by omega) (lt_of_block h.cnt)).trans h.cnt, (k _ (by omega) (lt_of_block h.sbox)).trans h.sbox, (k _ (by omega) (lt_of_block h.rbox)).trans h.rbox, h.rows.stays (fun g hg1 hg2 => k g (by omega) hg2) (fun _ h _ => h), ?_, h.lt⟩
  refine gnew ⟨hg.os.trans h.grow.os, hg.tape.trans h.grow.tape, hg.output.trans h.grow.output, Nat.le_trans h.grow.size hg.size, fun i hi hne => ?_⟩ (by omega) _ _
  rw [hg.block i (Nat.lt_of_lt_of_le hi h.grow.size) (hn i (by omega))]
  exact h.grow.block i hi hne
/-- What the closure hands back. -/
def BRet (bn : Nat) (r : Except Int (T × Nat)) (w : World) (e : Ending) (w' : World) : Prop :=
  match r with
  | .error x => w.grownBy w' (some bn) ∧ e = .returned (.tuple #[.agg #[.int .i64 0, .slice none 0 0, .slice none 0 0], .int .i64 x])
  | .ok (t, n) => w.grownBy w' (some bn) ∧ ∃ (s : Int) (A : Option Addr) (m c : Nat) (B : Option Addr) (k d : Nat), e = .returned (.tuple #[.agg #[.int .i64 s, .slice A m c, .slice B k d], .int .i64 0]) ∧ w'.heap[bn]? = some (.cells #[.int .i64 (n : Int)] 3 (0, 0)) ∧ TreeIn (fun g => w.heap.size ≤ g) w' t [.int .i64 s, .slice A m c, .slice B k d]
theorem widest_ge {s : Syst} (hb : Box s) : -1 ≤ widest s := by
  obtain ⟨p0, q0, r0, p1, q1, r1, p2, q2, r2⟩ := hb
  have h3 : wid2 s = 0 ∨ wid2 s = 1 ∨ wid2 s = 2 := by
    unfold wid2 wid1
    split <;> split <;> simp
  unfold widest
  split
  · omega
  · rcases h3 with e | e | e <;> rw [e] <;> simp only [lo, hi] <;> omega
theorem node_leaf (i : Nat) (h : i < 5) : nodeB 0 0 [(i : Int)] = true := by
  simp [nodeB, smallB]
  omega
set_option maxRecDepth 100000 in
set_option maxHeartbeats 8000000 in
theorem build_any (f : Nat) : ∀ (y : Syst) (n d : Nat) (b0 bn bpl bsp bb : Nat) (A : Option Addr) (cp : Nat) (w : World),
    Little y → side y ≤ f → d + f ≤ 40 → n ≤ 2000 → RowS (fun g => g < b0) w A (y.rows.flatMap r4Cells) → CapB b0 bn bpl bsp bb w → w.heap[bn]? = some (.cells #[.int .i64 (n : Int)] 3 (0, 0)) →
    Calls Tryd.prog 55 #[sysV y A cp, .int .i64 (d : Int), .pointer (some ⟨bn, 0, none⟩), .pointer (some ⟨bpl, 0, none⟩), .pointer (some ⟨bsp, 0, none⟩), .pointer (some ⟨bb, 0, none⟩)] w (BRet bn (bld f y n) w) := by
  induction f using Nat.strongRecOn with
  | ind f ih =>
  intro y n d b0 bn bpl bsp bb A cp w hy hs hd hn hr hc hcnt
  have IH := Lib.hid ih
  have hbn := lt_of_block hcnt
  have hpz := lt_of_block hc.hpl
  have hsz := lt_of_block hc.hsp
  have hbz := lt_of_block hc.hb
  have hb0n := hc.h1
  have hz0 : (w.setCell ⟨bn, 0, none⟩ (.int .i64 ((n : Int) + 1))).heap.size = w.heap.size := by simp [World.setCell]
  have HBB := Lib.hid (two_boxes (w.setCell ⟨bn, 0, none⟩ (.int .i64 ((n : Int) + 1))) (.cells #[.int .i64 y.l0, .int .i64 y.l1, .int .i64 y.l2, .int .i64 y.h0, .int .i64 y.h1, .int .i64 y.h2, .slice A y.rows.length cp] 25) (.cells #[.int .i64 0, .slice none 0 0, .slice none 0 0] 38))
  rw [hz0] at HBB
  have HL1 : Hid (BL b0 bn bpl bsp bb y A cp (n + 1) w (((w.setCell ⟨bn, 0, none⟩ (.int .i64 ((n : Int) + 1))).alloc (.cells #[.int .i64 y.l0, .int .i64 y.l1, .int .i64 y.l2, .int .i64 y.h0, .int .i64 y.h1, .int .i64 y.h2, .slice A y.rows.length cp] 25)).alloc (.cells #[.int .i64 0, .slice none 0 0, .slice none 0 0] 38))) := Lib.hid (by
    have e0 : (w.setCell ⟨bn, 0, none⟩ (.int .i64 ((n : Int) + 1))).heap[bn]? = some (.cells #[.int .i64 (((n + 1 : Nat)) : Int)] 3 (0, 0)) := one_setCell hcnt
    have k : ∀ b, b ≠ bn → b < w.heap.size → (((w.setCell ⟨bn, 0, none⟩ (.int .i64 ((n : Int) + 1))).alloc (.cells #[.int .i64 y.l0, .int .i64 y.l1, .int .i64 y.l2, .int .i64 y.h0, .int .i64 y.h1, .int .i64 y.h2, .slice A y.rows.length cp] 25)).alloc (.cells #[.int .i64 0, .slice none 0 0, .slice none 0 0] 38)).heap[b]? = w.heap[b]? := fun b hb hlt => (HBB.out.1.block b hlt).trans (Below.heap_setCell _ _ _ _ hb)
    refine ⟨⟨?_, ?_, ?_, hb0n, hc.n1, hc.n2, hc.n3⟩, ?_, HBB.out.2.1, HBB.out.2.2, ?_, ?_, hbn⟩
    · exact (k _ hc.n1 hpz).trans hc.hpl
    · exact (k _ hc.n2 hsz).trans hc.hsp
    · exact (k _ hc.n3 hbz).trans hc.hb
    · exact (HBB.out.1.block _ hbn).trans e0
    · exact hr.stays (fun g hg1 hg2 => k g (by omega) hg2) (fun _ h _ => h)
    · exact ⟨HBB.out.1.os, HBB.out.1.tape, HBB.out.1.output, Nat.le_trans (Nat.le_of_eq hz0.symm) HBB.out.1.size, fun i hi hne => k i (fun e => hne (by rw [e])) hi⟩)
  have i0 := cell_of_one hcnt
  have i1 := free_of_one hcnt
  clear hz0
  have HPLAN := Lib.hid (fun W h => plan_any y A cp W hy h)
  have HPARTS := Lib.hid (fun W => parts_any y (widest y) A cp W (by have := widest_ge hy.box; omega) (by have := widest_le hy.box; omega) hy.box)
  have hlen := hy.len
  unfold sysV at HPLAN HPARTS ⊢
  clear hcnt hr
  by_cases ho : 2000 < n + 1
  · have HFE := Lib.hid (bld_over (f := f) (s := y) ho)
    have d1 : decide ((2000 : Int) < (n : Int) + 1) = true := decide_eq_true (by omega)
    go_enter Tryd.func55, Tryd.ntmps55
    go_upto_region 2 with fail
    generalize ((w.setCell ⟨bn, 0, none⟩ (.int .i64 ((n : Int) + 1))).alloc (.cells #[.int .i64 y.l0, .int .i64 y.l1, .int .i64 y.l2, .int .i64 y.h0, .int .i64 y.h1, .int .i64 y.h2, .slice A y.rows.length cp] 25)).alloc (.cells #[.int .i64 0, .slice none 0 0, .slice none 0 0] 38) = W1 at *
    clear i0 i1
    have c0 := cell_of_one HL1.out.cnt
    go_upto_region 3 with fail
    have HLF := Lib.hid HL1.out.fl
    obtain ⟨r0, r1, r2⟩ := cell3 HLF.out.rbox
    have q0 := free3 HLF.out.rbox 0
    have q1 := free3 HLF.out.rbox 1
    have q2 := free3 HLF.out.rbox 2
    have qz := lt_of_block HLF.out.rbox
    go_wp2
    refine bodyPost_ret (v := .tuple #[.agg #[.int .i64 0, .slice none 0 0, .slice none 0 0], .int .i64 9]) (by simp [results, Tryd.results55, go_sem, r0, r1, r2]) rfl ?_
    rw [HFE.out]
    exact ⟨gthree HLF.out.grow (by omega) _ _ _, rfl⟩
  have d1 : decide ((2000 : Int) < (n : Int) + 1) = false := decide_eq_false (by omega)
  have d2 : decide ((40 : Int) < (d : Int)) = false := decide_eq_false (by omega)
  cases hrf : refuted y with
  | some i =>
    have HFE := Lib.hid (bld_leaf (f := f) ho hrf)
    have hi := refL_lt hrf
    have hnl := node_leaf i (by omega)
    unfold PlanRet at HPLAN
    rw [hrf] at HPLAN
    simp only at HPLAN
    go_enter Tryd.func55, Tryd.ntmps55
    go_upto_region 2 with fail
    generalize ((w.setCell ⟨bn, 0, none⟩ (.int .i64 ((n : Int) + 1))).alloc (.cells #[.int .i64 y.l0, .int .i64 y.l1, .int .i64 y.l2, .int .i64 y.h0, .int .i64 y.h1, .int .i64 y.h2, .slice A y.rows.length cp] 25)).alloc (.cells #[.int .i64 0, .slice none 0 0, .slice none 0 0] 38) = W1 at *
    clear i0 i1
    have c0 := cell_of_one HL1.out.cnt
    obtain ⟨s0, s1, s2, s3, s4, s5, s6⟩ := cell7 HL1.out.sbox
    have p0 := cell_of_one HL1.out.cap.hpl
    have pz := lt_of_block HL1.out.cap.hpl
    have sz := lt_of_block HL1.out.sbox
    go_wp2_with fail
    refine (HPLAN.out W1 HL1.out.rows.row).mono ?_
    rintro e w2 ⟨hb2, hp2⟩
    have HL2 := Lib.hid (HL1.out.below hb2)
    obtain ⟨gp, rfl, hgp, hgw⟩ := hp2
    have PB := Lib.hid (one_box w2 (.cells #[.int .i64 2, .int .i64 0, .slice (some ⟨gp, 0, none⟩) 1 1] 94))
    have HL3 := Lib.hid (HL2.out.below PB.out.1)
    have G3 := Lib.hid ((PB.out.1.block _ (lt_of_block hgp)).trans hgp)
    clear hb2 s0 s1 s2 s3 s4 s5 s6 p0 pz sz
    go_upto_region 9 with fail
    have P3 := Lib.hid PB.out.2
    clear PB HL2 hgp
    generalize w2.alloc (.cells #[.int .i64 2, .int .i64 0, .slice (some ⟨gp, 0, none⟩) 1 1] 94) = W3 at *
    obtain ⟨u0, u1, u2⟩ := cell3 P3.out
    have uz := lt_of_block P3.out
    have HCL := Lib.hid (Tryd.slices_Clone_int gp 0 1 1 [(i : Int)] W3 (by simp) (by omega) (fun j hj => by
      obtain rfl : j = 0 := by simpa using hj
      exact cell_of_one G3.out))
    go_wp2_with fail
    refine HCL.out.mono ?_
    rintro e w4 ⟨v4, rfl, hv4, _, hb4⟩
    obtain ⟨B4, d4, rfl, hd4⟩ := own_shape hv4
    have HV4 := Lib.hid hv4
    have HL4 := Lib.hid (HL3.out.below hb4)
    have TBO := Lib.hid (one_box w4 (.cells #[.int .i64 0, .slice none 0 0, .slice B4 1 d4] 38))
    have HL5 := Lib.hid (HL4.out.below TBO.out.1)
    have HR5 := Lib.hid (Row.of_own (own_below hv4 TBO.out.1))
    have hb4s := hb4.size
    have hw3 := HL3.out.grow.size
    clear hb4 hv4 u0 u1 u2 uz HCL
    go_upto_region 10 with fail
    have T5 := Lib.hid TBO.out.2
    clear TBO HL4
    generalize w4.alloc (.cells #[.int .i64 0, .slice none 0 0, .slice B4 1 d4] 38) = W5 at *
    obtain ⟨u0, u1, u2⟩ := cell3 T5.out
    have uz := lt_of_block T5.out
    have HND := Lib.hid (node_any 0 0 0 [(i : Int)] none B4 d4 W5 HR5.out (by simp))
    rw [hnl] at HND
    go_wp2_with fail
    refine HND.out.mono ?_
    rintro e w6 ⟨rfl, hb6⟩
    have HLF := Lib.hid (HL5.out.below hb6)
    have T6 := Lib.hid ((hb6.block _ (lt_of_block T5.out)).trans T5.out)
    have HR6 := Lib.hid (HR5.out.below hb6)
    clear hb6 u0 u1 u2 uz HND
    obtain ⟨u0, u1, u2⟩ := cell3 T6.out
    have uz := lt_of_block T6.out
    obtain ⟨r0, r1, r2⟩ := cell3 HLF.out.rbox
    have q0 := free3 HLF.out.rbox 0
    have q1 := free3 HLF.out.rbox 1
    have q2 := free3 HLF.out.rbox 2
    have qz := lt_of_block HLF.out.rbox
    go_wp2
    refine bodyPost_ret (v := .tuple #[.agg #[.int .i64 0, .slice none 0 0, .slice B4 1 d4], .int .i64 0]) (by simp [results, Tryd.results55, go_sem, r0, r1, r2]) rfl ?_
    rw [HFE.out]
    refine ⟨gthree HLF.out.grow (by omega) _ _ _, _, _, _, _, _, _, _, rfl, (three_far _ _ _ _ _ _ (by have := HLF.out.lt; omega)).trans HLF.out.cnt, ?_⟩
    unfold TreeIn
    refine ⟨none, 0, B4, d4, [], rfl, Nat.le_refl _, hd4, fun hne => absurd rfl hne, by unfold KidsIn; rfl, fun hne => ?_⟩
    obtain ⟨g, off, rfl, hg, hcell⟩ := HR6.out (by simp)
    have hge : W3.heap.size ≤ g := by
      rcases HV4.out.2 with ⟨h0, _⟩ | ⟨g', cap, cur, hv, hb', _⟩
      · cases h0
      · cases hv; exact hb'
    have hw3' := lt_of_block HL3.out.rbox
    have hfar := three_far w6 (w.heap.size + 1) g (.int .i64 0) (.slice none 0 0) (.slice (some ⟨g, off, none⟩) 1 d4) (by omega)
    exact ⟨g, off, rfl, by show w.heap.size ≤ g; omega, heap_lt_iff hfar hg, fun j hj => (cell_stays hfar).trans (hcell j hj)⟩
  | none =>
    unfold PlanRet at HPLAN
    rw [hrf] at HPLAN
    simp only at HPLAN
    by_cases hw : widest y < 0
    · have hpn : parts y (widest y) = none := by unfold parts; rw [if_pos hw]
      have HFE := Lib.hid (bld_no (f := f) ho hrf hpn)
      rw [decide_eq_true hw] at HPLAN
      go_enter Tryd.func55, Tryd.ntmps55
      go_upto_region 2 with fail
      generalize ((w.setCell ⟨bn, 0, none⟩ (.int .i64 ((n : Int) + 1))).alloc (.cells #[.int .i64 y.l0, .int .i64 y.l1, .int .i64 y.l2, .int .i64 y.h0, .int .i64 y.h1, .int .i64 y.h2, .slice A y.rows.length cp] 25)).alloc (.cells #[.int .i64 0, .slice none 0 0, .slice none 0 0] 38) = W1 at *
      clear i0 i1
      have c0 := cell_of_one HL1.out.cnt
      obtain ⟨s0, s1, s2, s3, s4, s5, s6⟩ := cell7 HL1.out.sbox
      have p0 := cell_of_one HL1.out.cap.hpl
      have pz := lt_of_block HL1.out.cap.hpl
      have sz := lt_of_block HL1.out.sbox
      go_wp2_with fail
      refine (HPLAN.out W1 HL1.out.rows.row).mono ?_
      rintro e w2 ⟨hb2, hp2⟩
      have HL2 := Lib.hid (HL1.out.below hb2)
      obtain rfl := hp2
      have PB := Lib.hid (one_box w2 (.cells #[.int .i64 0, .int .i64 0, .slice none 0 0] 94))
      have HL3 := Lib.hid (HL2.out.below PB.out.1)
      clear hb2 s0 s1 s2 s3 s4 s5 s6 p0 pz sz
      go_upto_region 7 with fail
      have HLF := Lib.hid HL3.out.fl
      clear PB HL2
      generalize w2.alloc (.cells #[.int .i64 0, .int .i64 0, .slice none 0 0] 94) = W3 at *
      obtain ⟨r0, r1, r2⟩ := cell3 HLF.out.rbox
      have q0 := free3 HLF.out.rbox 0
      have q1 := free3 HLF.out.rbox 1
      have q2 := free3 HLF.out.rbox 2
      have qz := lt_of_block HLF.out.rbox
      go_wp2
      refine bodyPost_ret (v := .tuple #[.agg #[.int .i64 0, .slice none 0 0, .slice none 0 0], .int .i64 8]) (by simp [results, Tryd.results55, go_sem, r0, r1, r2]) rfl ?_
      rw [HFE.out]
      exact ⟨gthree HLF.out.grow (by omega) _ _ _, rfl⟩
    · rw [decide_eq_false hw] at HPLAN
      obtain ⟨a, b, hpa⟩ := widest_parts hy.box (by omega)
      obtain ⟨hla, hlb, hsa, hsb, era, erb⟩ := parts_little hpa hy
      obtain ⟨g, rfl⟩ : ∃ g, f = g + 1 := ⟨f - 1, by omega⟩
      have HFE := Lib.hid (bld_step (f := g) ho hrf hpa)
      have HPA := Lib.hid hpa
      have HSMB : Hid (smallB (widest y) = true) := Lib.hid (by have := widest_le hy.box; simp [smallB]; omega)
      have IHA := Lib.hid (fun X hrx hcx hnx => IH.out g (Nat.lt_succ_self g) a (n + 1) (d + 1) b0 bn bpl bsp bb A cp X hla (by omega) (by omega) (by omega) hrx hcx hnx)
      have HERA := Lib.hid era
      have HERB := Lib.hid erb
      clear era erb
      obtain ⟨j0, ja, jb, jc, jd⟩ := info_parts info_own
      unfold sysV at IHA
      cases hbla : bld g a (n + 1) with
      | error x =>
        have qx : (x != (0 : Int)) = true := by rcases bld_err _ _ _ _ hbla with rfl | rfl <;> rfl
        rw [hbla] at HFE
        simp only at HFE
        go_enter Tryd.func55, Tryd.ntmps55
        go_upto_region 2 with fail
        generalize ((w.setCell ⟨bn, 0, none⟩ (.int .i64 ((n : Int) + 1))).alloc (.cells #[.int .i64 y.l0, .int .i64 y.l1, .int .i64 y.l2, .int .i64 y.h0, .int .i64 y.h1, .int .i64 y.h2, .slice A y.rows.length cp] 25)).alloc (.cells #[.int .i64 0, .slice none 0 0, .slice none 0 0] 38) = W1 at *
        clear i0 i1
        have c0 := cell_of_one HL1.out.cnt
        obtain ⟨s0, s1, s2, s3, s4, s5, s6⟩ := cell7 HL1.out.sbox
        have p0 := cell_of_one HL1.out.cap.hpl
        have pz := lt_of_block HL1.out.cap.hpl
        have sz := lt_of_block HL1.out.sbox
        go_wp2_with fail
        refine (HPLAN.out W1 HL1.out.rows.row).mono ?_
        rintro e w2 ⟨hb2, hp2⟩
        have HL2 := Lib.hid (HL1.out.below hb2)
        obtain rfl := hp2
        have PB := Lib.hid (one_box w2 (.cells #[.int .i64 1, .int .i64 (widest y), .slice none 0 0] 94))
        have HL3 := Lib.hid (HL2.out.below PB.out.1)
        clear hb2 s0 s1 s2 s3 s4 s5 s6 p0 pz sz
        go_upto_region 14 with fail
        have P3 := Lib.hid PB.out.2
        clear PB HL2
        generalize w2.alloc (.cells #[.int .i64 1, .int .i64 (widest y), .slice none 0 0] 94) = W3 at *
        obtain ⟨s0, s1, s2, s3, s4, s5, s6⟩ := cell7 HL3.out.sbox
        have p0 := cell_of_one HL3.out.cap.hsp
        have pz := lt_of_block HL3.out.cap.hsp
        have sz := lt_of_block HL3.out.sbox
        obtain ⟨u0, u1, u2⟩ := cell3 P3.out
        have uz := lt_of_block P3.out
        have HPT := Lib.hid (HPARTS.out W3)
        rw [HPA.out] at HPT
        go_wp2_with fail
        refine HPT.out.mono ?_
        rintro e w4 ⟨gl, rfl, hgl, hglw, hb4⟩
        have HL4 := Lib.hid (HL3.out.below hb4)
        have P4 := Lib.hid ((hb4.block _ (lt_of_block P3.out)).trans P3.out)
        have TBO := Lib.hid (one_box w4 (.cells #[.int .i64 (widest y), .slice none 0 0, .slice none 0 0] 38))
        have HG4 := Lib.hid ((TBO.out.1.block _ (lt_of_block hgl)).trans hgl)
        have HL5 := Lib.hid (HL4.out.below TBO.out.1)
        have hln := HL4.out.lt
        have hl3 := lt_of_block HL3.out.rbox
        have hb4z := hb4.size
        have hglz := lt_of_block hgl
        have HGN : Hid (some gl ≠ some bn) := Lib.hid (fun e => by cases e; omega)
        clear s0 s1 s2 s3 s4 s5 s6 p0 pz sz u0 u1 u2 uz hb4 hgl HPT
        obtain ⟨u0, u1, u2⟩ := cell3 P4.out
        have uz := lt_of_block P4.out
        have P5 := Lib.hid ((TBO.out.1.block _ uz).trans P4.out)
        go_upto_region 19 with fail
        have HS0 : Hid (GSt 38 (some bn) w4.heap.size w (widest y) [] (.slice none 0 0) [] (w4.alloc (.cells #[.int .i64 (widest y), .slice none 0 0, .slice none 0 0] 38))) := Lib.hid (GSt.start TBO.out.2 HL5.out.grow (fun b h => by cases h; exact hln) (by omega))
        clear TBO HL4 HL3 P4 u0 u1 u2 uz
        generalize w4.alloc (.cells #[.int .i64 (widest y), .slice none 0 0, .slice none 0 0] 38) = W5 at *
        generalize w4.heap.size = bx at *
        obtain ⟨u0, u1, u2⟩ := cell3 P5.out
        have uz := lt_of_block P5.out
        have HSM := Lib.hid (fun W => psmall_q (widest y) W)
        rw [HSMB.out] at HSM
        go_wp2_with fail
        refine (HSM.out _).mono ?_
        rintro e w6 ⟨rfl, hw6⟩
        have hw6 := hw6.symm
        subst hw6
        go_wp2_with fail
        have HL0 := HL5
        have HG0 := HG4
        refine wp_loop_rounds 3 ?_
        rw [rounds_succ]
        obtain ⟨g0, g1, g2, g3, g4, g5, g6⟩ := (cell14 HG0.out).1
        have gz := lt_of_block HG0.out
        have HX := Lib.hid (one_box W5 (.cells #[.int .i64 a.l0, .int .i64 a.l1, .int .i64 a.l2, .int .i64 a.h0, .int .i64 a.h1, .int .i64 a.h2, .slice A a.rows.length cp] 25))
        go_upto_region 24 with fail
        clear g0 g1 g2 g3 g4 g5 g6 gz
        have HLX := Lib.hid (HL0.out.below HX.out.1)
        have HGX := Lib.hid ((HX.out.1.block _ (lt_of_block HG0.out)).trans HG0.out)
        have HSX := Lib.hid (HS0.out.step (grown_of_below HX.out.1))
        have HXX := Lib.hid HX.out.2
        have hxz : W5.heap.size < (W5.alloc (.cells #[.int .i64 a.l0, .int .i64 a.l1, .int .i64 a.l2, .int .i64 a.h0, .int .i64 a.h1, .int .i64 a.h2, .slice A a.rows.length cp] 25)).heap.size := lt_of_block HX.out.2
        have hbxz := lt_of_block HS0.out.box
        have HVB := Lib.hid (fun y (h : (.slice none 0 0 : Value).ownBlock = some y) => (HS0.out.own.lt y h).2)
        clear HX
        generalize W5.alloc (.cells #[.int .i64 a.l0, .int .i64 a.l1, .int .i64 a.l2, .int .i64 a.h0, .int .i64 a.h1, .int .i64 a.h2, .slice A a.rows.length cp] 25) = X at *
        obtain ⟨e0, e1, e2, e3, e4, e5, e6⟩ := cell7 HXX.out
        have f0 := cell_of_one HLX.out.cap.hb
        have fz := lt_of_block HLX.out.cap.hb
        unfold buildF at f0
        go_wp2_with fail
        refine (IHA.out X (by rw [HERA.out]; exact HLX.out.rows) HLX.out.cap HLX.out.cnt).mono ?_
        rw [hbla]
        rintro e w4 ⟨hg4, rfl⟩
        have HG4 := Lib.hid hg4
        have HLF0 : Hid (FL bn w w4) := Lib.hid (HLX.out.fl.step hg4)
        have HZ := Lib.hid (one_box w4 (.cells #[.int .i64 0, .slice none 0 0, .slice none 0 0] 38))
        clear e0 e1 e2 e3 e4 e5 e6 f0 fz
        go_upto_region 26 with fail
        have HLF : Hid (FL bn w (w4.alloc (.cells #[.int .i64 0, .slice none 0 0, .slice none 0 0] 38))) := Lib.hid (HLF0.out.step (grown_of_below (r := some bn) HZ.out.1))
        clear HLF0 HZ
        generalize w4.alloc (.cells #[.int .i64 0, .slice none 0 0, .slice none 0 0] 38) = W5 at *
        obtain ⟨r0, r1, r2⟩ := cell3 HLF.out.rbox
        have q0 := free3 HLF.out.rbox 0
        have q1 := free3 HLF.out.rbox 1
        have q2 := free3 HLF.out.rbox 2
        have qz := lt_of_block HLF.out.rbox
        go_wp2
        refine bodyPost_ret (v := .tuple #[.agg #[.int .i64 0, .slice none 0 0, .slice none 0 0], .int .i64 x]) (by simp [results, Tryd.results55, go_sem, r0, r1, r2]) rfl ?_
        rw [HFE.out]
        exact ⟨gthree HLF.out.grow (by omega) _ _ _, rfl⟩
      | ok p =>
        obtain ⟨ta, n1⟩ := p
        have hn1 := bld_count _ _ _ _ _ hbla
        have IHB := Lib.hid (fun X hrx hcx hnx => IH.out g (Nat.lt_succ_self g) b n1 (d + 1) b0 bn bpl bsp bb A cp X hlb (by omega) (by omega) hn1 hrx hcx hnx)
        unfold sysV at IHB
        rw [hbla] at HFE
        simp only at HFE
        cases hblb : bld g b n1 with
        | error x =>
          have qx : (x != (0 : Int)) = true := by rcases bld_err _ _ _ _ hblb with rfl | rfl <;> rfl
          rw [hblb] at HFE
          simp only at HFE
          go_enter Tryd.func55, Tryd.ntmps55
          go_upto_region 2 with fail
          generalize ((w.setCell ⟨bn, 0, none⟩ (.int .i64 ((n : Int) + 1))).alloc (.cells #[.int .i64 y.l0, .int .i64 y.l1, .int .i64 y.l2, .int .i64 y.h0, .int .i64 y.h1, .int .i64 y.h2, .slice A y.rows.length cp] 25)).alloc (.cells #[.int .i64 0, .slice none 0 0, .slice none 0 0] 38) = W1 at *
          clear i0 i1
          have c0 := cell_of_one HL1.out.cnt
          obtain ⟨s0, s1, s2, s3, s4, s5, s6⟩ := cell7 HL1.out.sbox
          have p0 := cell_of_one HL1.out.cap.hpl
          have pz := lt_of_block HL1.out.cap.hpl
          have sz := lt_of_block HL1.out.sbox
          go_wp2_with fail
          refine (HPLAN.out W1 HL1.out.rows.row).mono ?_
          rintro e w2 ⟨hb2, hp2⟩
          have HL2 := Lib.hid (HL1.out.below hb2)
          obtain rfl := hp2
          have PB := Lib.hid (one_box w2 (.cells #[.int .i64 1, .int .i64 (widest y), .slice none 0 0] 94))
          have HL3 := Lib.hid (HL2.out.below PB.out.1)
          clear hb2 s0 s1 s2 s3 s4 s5 s6 p0 pz sz
          go_upto_region 14 with fail
          have P3 := Lib.hid PB.out.2
          clear PB HL2
          generalize w2.alloc (.cells #[.int .i64 1, .int .i64 (widest y), .slice none 0 0] 94) = W3 at *
          obtain ⟨s0, s1, s2, s3, s4, s5, s6⟩ := cell7 HL3.out.sbox
          have p0 := cell_of_one HL3.out.cap.hsp
          have pz := lt_of_block HL3.out.cap.hsp
          have sz := lt_of_block HL3.out.sbox
          obtain ⟨u0, u1, u2⟩ := cell3 P3.out
          have uz := lt_of_block P3.out
          have HPT := Lib.hid (HPARTS.out W3)
          rw [HPA.out] at HPT
          go_wp2_with fail
          refine HPT.out.mono ?_
          rintro e w4 ⟨gl, rfl, hgl, hglw, hb4⟩
          have HL4 := Lib.hid (HL3.out.below hb4)
          have P4 := Lib.hid ((hb4.block _ (lt_of_block P3.out)).trans P3.out)
          have TBO := Lib.hid (one_box w4 (.cells #[.int .i64 (widest y), .slice none 0 0, .slice none 0 0] 38))
          have HG4 := Lib.hid ((TBO.out.1.block _ (lt_of_block hgl)).trans hgl)
          have HL5 := Lib.hid (HL4.out.below TBO.out.1)
          have hln := HL4.out.lt
          have hl3 := lt_of_block HL3.out.rbox
          have hb4z := hb4.size
          have hglz := lt_of_block hgl
          have HGN : Hid (some gl ≠ some bn) := Lib.hid (fun e => by cases e; omega)
          clear s0 s1 s2 s3 s4 s5 s6 p0 pz sz u0 u1 u2 uz hb4 hgl HPT
          obtain ⟨u0, u1, u2⟩ := cell3 P4.out
          have uz := lt_of_block P4.out
          have P5 := Lib.hid ((TBO.out.1.block _ uz).trans P4.out)
          go_upto_region 19 with fail
          have HS0 : Hid (GSt 38 (some bn) w4.heap.size w (widest y) [] (.slice none 0 0) [] (w4.alloc (.cells #[.int .i64 (widest y), .slice none 0 0, .slice none 0 0] 38))) := Lib.hid (GSt.start TBO.out.2 HL5.out.grow (fun b h => by cases h; exact hln) (by omega))
          clear TBO HL4 HL3 P4 u0 u1 u2 uz
          generalize w4.alloc (.cells #[.int .i64 (widest y), .slice none 0 0, .slice none 0 0] 38) = W5 at *
          generalize w4.heap.size = bx at *
          obtain ⟨u0, u1, u2⟩ := cell3 P5.out
          have uz := lt_of_block P5.out
          have HSM := Lib.hid (fun W => psmall_q (widest y) W)
          rw [HSMB.out] at HSM
          go_wp2_with fail
          refine (HSM.out _).mono ?_
          rintro e w6 ⟨rfl, hw6⟩
          have hw6 := hw6.symm
          subst hw6
          go_wp2_with fail
          have HL0 := HL5
          have HG0 := HG4
          refine wp_loop_rounds 3 ?_
          rw [rounds_succ]
          obtain ⟨g0, g1, g2, g3, g4, g5, g6⟩ := (cell14 HG0.out).1
          have gz := lt_of_block HG0.out
          have HX := Lib.hid (one_box W5 (.cells #[.int .i64 a.l0, .int .i64 a.l1, .int .i64 a.l2, .int .i64 a.h0, .int .i64 a.h1, .int .i64 a.h2, .slice A a.rows.length cp] 25))
          go_upto_region 24 with fail
          clear g0 g1 g2 g3 g4 g5 g6 gz
          have HLX := Lib.hid (HL0.out.below HX.out.1)
          have HGX := Lib.hid ((HX.out.1.block _ (lt_of_block HG0.out)).trans HG0.out)
          have HSX := Lib.hid (HS0.out.step (grown_of_below HX.out.1))
          have HXX := Lib.hid HX.out.2
          have hxz : W5.heap.size < (W5.alloc (.cells #[.int .i64 a.l0, .int .i64 a.l1, .int .i64 a.l2, .int .i64 a.h0, .int .i64 a.h1, .int .i64 a.h2, .slice A a.rows.length cp] 25)).heap.size := lt_of_block HX.out.2
          have hbxz := lt_of_block HS0.out.box
          have HVB := Lib.hid (fun y (h : (.slice none 0 0 : Value).ownBlock = some y) => (HS0.out.own.lt y h).2)
          clear HX
          generalize W5.alloc (.cells #[.int .i64 a.l0, .int .i64 a.l1, .int .i64 a.l2, .int .i64 a.h0, .int .i64 a.h1, .int .i64 a.h2, .slice A a.rows.length cp] 25) = X at *
          obtain ⟨e0, e1, e2, e3, e4, e5, e6⟩ := cell7 HXX.out
          have f0 := cell_of_one HLX.out.cap.hb
          have fz := lt_of_block HLX.out.cap.hb
          unfold buildF at f0
          go_wp2_with fail
          refine (IHA.out X (by rw [HERA.out]; exact HLX.out.rows) HLX.out.cap HLX.out.cnt).mono ?_
          rw [hbla]
          rintro e w4 ⟨hg4, s0, A0, m0, c0, B0, k0, d0, rfl, hc4, hT4⟩
          have HL4 := Lib.hid (HLX.out.step hg4 hc4)
          have HG4 := Lib.hid ((hg4.block _ (lt_of_block HGX.out) (HGN.out)).trans HGX.out)
          have HS4 := Lib.hid (HSX.out.step hg4)
          have HT4 := Lib.hid hT4
          have hz4 := hg4.size
          clear hg4 hc4 hT4 HLX HGX HSX HXX e0 e1 e2 e3 e4 e5 e6 f0 fz
          have HZ := Lib.hid ((Below.refl w4.heap.size w4).alloc (Nat.le_refl _) (.cells #[.int .i64 s0, .slice A0 m0 c0, .slice B0 k0 d0] 38))
          have HEL := Lib.hid (cell3 (heap_alloc_new w4 (.cells #[.int .i64 s0, .slice A0 m0 c0, .slice B0 k0 d0] 38)))
          have HZS : Hid ((w4.alloc (.cells #[.int .i64 s0, .slice A0 m0 c0, .slice B0 k0 d0] 38)).heap.size = w4.heap.size + 1) := Lib.hid (by simp)
          have HL5 := Lib.hid (HL4.out.below HZ.out)
          have HG5 := Lib.hid ((HZ.out.block _ (lt_of_block HG4.out)).trans HG4.out)
          have HS5 := Lib.hid (HS4.out.step (grown_of_below HZ.out))
          have HT5 := Lib.hid (HT4.out.below HZ.out)
          obtain ⟨x0, x1, x2⟩ := cell3 HS4.out.box
          have xz := lt_of_block HS4.out.box
          go_upto_region 27 with fail
          clear x0 x1 x2 xz
          obtain ⟨e0, e1, e2⟩ := HEL.out
          obtain ⟨b0', b1', b2'⟩ := cell3 HS5.out.box
          have bf := free3 HS5.out.box 1
          have bz := lt_of_block HS5.out.box
          have hz5 : w4.heap.size < (w4.alloc (.cells #[.int .i64 s0, .slice A0 m0 c0, .slice B0 k0 d0] 38)).heap.size := by rw [HZS.out]; omega
          have OWN := Lib.hid HS5.out.own
          clear HEL HZ HZS HL4 HG4 HS4 HT4
          generalize w4.alloc (.cells #[.int .i64 s0, .slice A0 m0 c0, .slice B0 k0 d0] 38) = Y at *
          go_wp2_with (at_builtin; refine wpList_append_lies _ rfl _ _ 36 rfl (bx + 1) 38 j0 _ 3 56 Tryd.underlying36 ja jb jc jd rfl (by omega) (.slice none 0 0) 0 [] rfl (OWN.out.alloc _) ⟨Y.heap.size, 0, none⟩ 1 1 [.int .i64 s0, .slice A0 m0 c0, .slice B0 k0 d0] rfl rfl (World.news_of_block (cs := #[.int .i64 s0, .slice A0 m0 c0, .slice B0 k0 d0]) (t := 38) (fr := (0, 0)) (heap_alloc_new Y _)) (by simp [Value.oneCell']) (by omega) (by unfold maxLen; omega) (by omega) (by simp; omega) (Y.heap.size + 1) (by simp) ?_)
          intro gq0 cq0 w6 hown6 hgrow6 hat6 _
          have HB6 := Lib.hid ((Below.refl Y.heap.size Y).alloc (Nat.le_refl _) (.cells #[.int .i64 s0, .slice A0 m0 c0, .slice B0 k0 d0] 38))
          have nb : ∀ b, b ≤ bx → some b ≠ (.slice none 0 0 : Value).ownBlock := fun b hb e => by have := (OWN.out.lt b e.symm).1; omega
          have HP6 : Hid (GSt 38 (some bn) bx w (widest y) [ta] (.slice (some ⟨gq0, 0, none⟩) 1 cq0) [.int .i64 s0, .slice A0 m0 c0, .slice B0 k0 d0] (w6.setCell ⟨bx, 1, none⟩ (.slice (some ⟨gq0, 0, none⟩) 1 cq0))) := Lib.hid (HS5.out.push HB6.out (HT5.out.below HB6.out) (B0 := X.heap.size) (by omega) (fun y h => Nat.lt_trans (HVB.out y h) hxz) (hat6.imp (fun h => h) (fun h => by rw [h]; simp)) hown6 hgrow6)
          have k6 := (hgrow6.block _ (by simp; omega) (nb bx (Nat.le_refl _))).trans ((heap_alloc_old Y _ bz).trans HS5.out.box)
          obtain ⟨g0, g1, g2⟩ := cell3 k6
          have gf1 := free3 k6 1
          have gz := lt_of_block k6
          have HL6 := Lib.hid ((HL5.out.below HB6.out).set (bx := bx) hgrow6 (by omega) nb (by omega) (by omega) (by omega) (by omega) 1 (.slice (some ⟨gq0, 0, none⟩) 1 cq0))
          have HGL : Hid ((w6.setCell ⟨bx, 1, none⟩ (.slice (some ⟨gq0, 0, none⟩) 1 cq0)).heap[gl]? = _) := Lib.hid ((Below.heap_setCell _ _ _ _ (by show gl ≠ bx; omega)).trans ((hgrow6.block _ (by have := lt_of_block HG5.out; simp; omega) (nb gl (by omega))).trans ((HB6.out.block _ (lt_of_block HG5.out)).trans HG5.out)))
          clear k6 hgrow6 hown6 hat6 b0' b1' b2' bf bz nb e0 e1 e2 OWN HB6 HS5 HT5 HL5 HG5 HVB
          go_wp2_with fail
          generalize w6.setCell ⟨bx, 1, none⟩ (.slice (some ⟨gq0, 0, none⟩) 1 cq0) = V1 at *
          clear g0 g1 g2 gf1 gz
          rw [rounds_succ]
          have HL1' := HL6
          clear HL1
          have HL1 := HL1'
          have HG1 := HGL
          have HS1 := HP6
          clear HL0 HG0 HS0 HL1' HL6 HGL HP6
          obtain ⟨g0, g1, g2, g3, g4, g5, g6⟩ := (cell14 HG1.out).2
          have gz := lt_of_block HG1.out
          have HX := Lib.hid (one_box V1 (.cells #[.int .i64 b.l0, .int .i64 b.l1, .int .i64 b.l2, .int .i64 b.h0, .int .i64 b.h1, .int .i64 b.h2, .slice A b.rows.length cp] 25))
          go_upto_region 24 with fail
          clear g0 g1 g2 g3 g4 g5 g6 gz
          have HLX := Lib.hid (HL1.out.below HX.out.1)
          have HGX := Lib.hid ((HX.out.1.block _ (lt_of_block HG1.out)).trans HG1.out)
          have HSX := Lib.hid (HS1.out.step (grown_of_below HX.out.1))
          have HXX := Lib.hid HX.out.2
          have hxz : V1.heap.size < (V1.alloc (.cells #[.int .i64 b.l0, .int .i64 b.l1, .int .i64 b.l2, .int .i64 b.h0, .int .i64 b.h1, .int .i64 b.h2, .slice A b.rows.length cp] 25)).heap.size := lt_of_block HX.out.2
          have hbxz := lt_of_block HS1.out.box
          have HVB := Lib.hid (fun y (h : (.slice (some ⟨gq0, 0, none⟩) 1 cq0 : Value).ownBlock = some y) => (HS1.out.own.lt y h).2)
          clear HX
          generalize V1.alloc (.cells #[.int .i64 b.l0, .int .i64 b.l1, .int .i64 b.l2, .int .i64 b.h0, .int .i64 b.h1, .int .i64 b.h2, .slice A b.rows.length cp] 25) = X at *
          obtain ⟨e0, e1, e2, e3, e4, e5, e6⟩ := cell7 HXX.out
          have f0 := cell_of_one HLX.out.cap.hb
          have fz := lt_of_block HLX.out.cap.hb
          unfold buildF at f0
          go_wp2_with fail
          refine (IHB.out X (by rw [HERB.out]; exact HLX.out.rows) HLX.out.cap HLX.out.cnt).mono ?_
          rw [hblb]
          rintro e w4 ⟨hg4, rfl⟩
          have HG4 := Lib.hid hg4
          have HLF0 : Hid (FL bn w w4) := Lib.hid (HLX.out.fl.step hg4)
          have HZ := Lib.hid (one_box w4 (.cells #[.int .i64 0, .slice none 0 0, .slice none 0 0] 38))
          clear e0 e1 e2 e3 e4 e5 e6 f0 fz
          go_upto_region 26 with fail
          have HLF : Hid (FL bn w (w4.alloc (.cells #[.int .i64 0, .slice none 0 0, .slice none 0 0] 38))) := Lib.hid (HLF0.out.step (grown_of_below (r := some bn) HZ.out.1))
          clear HLF0 HZ
          generalize w4.alloc (.cells #[.int .i64 0, .slice none 0 0, .slice none 0 0] 38) = W5 at *
          obtain ⟨r0, r1, r2⟩ := cell3 HLF.out.rbox
          have q0 := free3 HLF.out.rbox 0
          have q1 := free3 HLF.out.rbox 1
          have q2 := free3 HLF.out.rbox 2
          have qz := lt_of_block HLF.out.rbox
          go_wp2
          refine bodyPost_ret (v := .tuple #[.agg #[.int .i64 0, .slice none 0 0, .slice none 0 0], .int .i64 x]) (by simp [results, Tryd.results55, go_sem, r0, r1, r2]) rfl ?_
          rw [HFE.out]
          exact ⟨gthree HLF.out.grow (by omega) _ _ _, rfl⟩
        | ok p =>
          obtain ⟨tb, n2⟩ := p
          rw [hblb] at HFE
          simp only at HFE
          go_enter Tryd.func55, Tryd.ntmps55
          go_upto_region 2 with fail
          generalize ((w.setCell ⟨bn, 0, none⟩ (.int .i64 ((n : Int) + 1))).alloc (.cells #[.int .i64 y.l0, .int .i64 y.l1, .int .i64 y.l2, .int .i64 y.h0, .int .i64 y.h1, .int .i64 y.h2, .slice A y.rows.length cp] 25)).alloc (.cells #[.int .i64 0, .slice none 0 0, .slice none 0 0] 38) = W1 at *
          clear i0 i1
          have c0 := cell_of_one HL1.out.cnt
          obtain ⟨s0, s1, s2, s3, s4, s5, s6⟩ := cell7 HL1.out.sbox
          have p0 := cell_of_one HL1.out.cap.hpl
          have pz := lt_of_block HL1.out.cap.hpl
          have sz := lt_of_block HL1.out.sbox
          go_wp2_with fail
          refine (HPLAN.out W1 HL1.out.rows.row).mono ?_
          rintro e w2 ⟨hb2, hp2⟩
          have HL2 := Lib.hid (HL1.out.below hb2)
          obtain rfl := hp2
          have PB := Lib.hid (one_box w2 (.cells #[.int .i64 1, .int .i64 (widest y), .slice none 0 0] 94))
          have HL3 := Lib.hid (HL2.out.below PB.out.1)
          clear hb2 s0 s1 s2 s3 s4 s5 s6 p0 pz sz
          go_upto_region 14 with fail
          have P3 := Lib.hid PB.out.2
          clear PB HL2
          generalize w2.alloc (.cells #[.int .i64 1, .int .i64 (widest y), .slice none 0 0] 94) = W3 at *
          obtain ⟨s0, s1, s2, s3, s4, s5, s6⟩ := cell7 HL3.out.sbox
          have p0 := cell_of_one HL3.out.cap.hsp
          have pz := lt_of_block HL3.out.cap.hsp
          have sz := lt_of_block HL3.out.sbox
          obtain ⟨u0, u1, u2⟩ := cell3 P3.out
          have uz := lt_of_block P3.out
          have HPT := Lib.hid (HPARTS.out W3)
          rw [HPA.out] at HPT
          go_wp2_with fail
          refine HPT.out.mono ?_
          rintro e w4 ⟨gl, rfl, hgl, hglw, hb4⟩
          have HL4 := Lib.hid (HL3.out.below hb4)
          have P4 := Lib.hid ((hb4.block _ (lt_of_block P3.out)).trans P3.out)
          have TBO := Lib.hid (one_box w4 (.cells #[.int .i64 (widest y), .slice none 0 0, .slice none 0 0] 38))
          have HG4 := Lib.hid ((TBO.out.1.block _ (lt_of_block hgl)).trans hgl)
          have HL5 := Lib.hid (HL4.out.below TBO.out.1)
          have hln := HL4.out.lt
          have hl3 := lt_of_block HL3.out.rbox
          have hb4z := hb4.size
          have hglz := lt_of_block hgl
          have HGN : Hid (some gl ≠ some bn) := Lib.hid (fun e => by cases e; omega)
          clear s0 s1 s2 s3 s4 s5 s6 p0 pz sz u0 u1 u2 uz hb4 hgl HPT
          obtain ⟨u0, u1, u2⟩ := cell3 P4.out
          have uz := lt_of_block P4.out
          have P5 := Lib.hid ((TBO.out.1.block _ uz).trans P4.out)
          go_upto_region 19 with fail
          have HS0 : Hid (GSt 38 (some bn) w4.heap.size w (widest y) [] (.slice none 0 0) [] (w4.alloc (.cells #[.int .i64 (widest y), .slice none 0 0, .slice none 0 0] 38))) := Lib.hid (GSt.start TBO.out.2 HL5.out.grow (fun b h => by cases h; exact hln) (by omega))
          clear TBO HL4 HL3 P4 u0 u1 u2 uz
          generalize w4.alloc (.cells #[.int .i64 (widest y), .slice none 0 0, .slice none 0 0] 38) = W5 at *
          generalize w4.heap.size = bx at *
          obtain ⟨u0, u1, u2⟩ := cell3 P5.out
          have uz := lt_of_block P5.out
          have HSM := Lib.hid (fun W => psmall_q (widest y) W)
          rw [HSMB.out] at HSM
          go_wp2_with fail
          refine (HSM.out _).mono ?_
          rintro e w6 ⟨rfl, hw6⟩
          have hw6 := hw6.symm
          subst hw6
          go_wp2_with fail
          have HL0 := HL5
          have HG0 := HG4
          refine wp_loop_rounds 3 ?_
          rw [rounds_succ]
          obtain ⟨g0, g1, g2, g3, g4, g5, g6⟩ := (cell14 HG0.out).1
          have gz := lt_of_block HG0.out
          have HX := Lib.hid (one_box W5 (.cells #[.int .i64 a.l0, .int .i64 a.l1, .int .i64 a.l2, .int .i64 a.h0, .int .i64 a.h1, .int .i64 a.h2, .slice A a.rows.length cp] 25))
          go_upto_region 24 with fail
          clear g0 g1 g2 g3 g4 g5 g6 gz
          have HLX := Lib.hid (HL0.out.below HX.out.1)
          have HGX := Lib.hid ((HX.out.1.block _ (lt_of_block HG0.out)).trans HG0.out)
          have HSX := Lib.hid (HS0.out.step (grown_of_below HX.out.1))
          have HXX := Lib.hid HX.out.2
          have hxz : W5.heap.size < (W5.alloc (.cells #[.int .i64 a.l0, .int .i64 a.l1, .int .i64 a.l2, .int .i64 a.h0, .int .i64 a.h1, .int .i64 a.h2, .slice A a.rows.length cp] 25)).heap.size := lt_of_block HX.out.2
          have hbxz := lt_of_block HS0.out.box
          have HVB := Lib.hid (fun y (h : (.slice none 0 0 : Value).ownBlock = some y) => (HS0.out.own.lt y h).2)
          clear HX
          generalize W5.alloc (.cells #[.int .i64 a.l0, .int .i64 a.l1, .int .i64 a.l2, .int .i64 a.h0, .int .i64 a.h1, .int .i64 a.h2, .slice A a.rows.length cp] 25) = X at *
          obtain ⟨e0, e1, e2, e3, e4, e5, e6⟩ := cell7 HXX.out
          have f0 := cell_of_one HLX.out.cap.hb
          have fz := lt_of_block HLX.out.cap.hb
          unfold buildF at f0
          go_wp2_with fail
          refine (IHA.out X (by rw [HERA.out]; exact HLX.out.rows) HLX.out.cap HLX.out.cnt).mono ?_
          rw [hbla]
          rintro e w4 ⟨hg4, s0, A0, m0, c0, B0, k0, d0, rfl, hc4, hT4⟩
          have HL4 := Lib.hid (HLX.out.step hg4 hc4)
          have HG4 := Lib.hid ((hg4.block _ (lt_of_block HGX.out) (HGN.out)).trans HGX.out)
          have HS4 := Lib.hid (HSX.out.step hg4)
          have HT4 := Lib.hid hT4
          have hz4 := hg4.size
          clear hg4 hc4 hT4 HLX HGX HSX HXX e0 e1 e2 e3 e4 e5 e6 f0 fz
          have HZ := Lib.hid ((Below.refl w4.heap.size w4).alloc (Nat.le_refl _) (.cells #[.int .i64 s0, .slice A0 m0 c0, .slice B0 k0 d0] 38))
          have HEL := Lib.hid (cell3 (heap_alloc_new w4 (.cells #[.int .i64 s0, .slice A0 m0 c0, .slice B0 k0 d0] 38)))
          have HZS : Hid ((w4.alloc (.cells #[.int .i64 s0, .slice A0 m0 c0, .slice B0 k0 d0] 38)).heap.size = w4.heap.size + 1) := Lib.hid (by simp)
          have HL5 := Lib.hid (HL4.out.below HZ.out)
          have HG5 := Lib.hid ((HZ.out.block _ (lt_of_block HG4.out)).trans HG4.out)
          have HS5 := Lib.hid (HS4.out.step (grown_of_below HZ.out))
          have HT5 := Lib.hid (HT4.out.below HZ.out)
          obtain ⟨x0, x1, x2⟩ := cell3 HS4.out.box
          have xz := lt_of_block HS4.out.box
          go_upto_region 27 with fail
          clear x0 x1 x2 xz
          obtain ⟨e0, e1, e2⟩ := HEL.out
          obtain ⟨b0', b1', b2'⟩ := cell3 HS5.out.box
          have bf := free3 HS5.out.box 1
          have bz := lt_of_block HS5.out.box
          have hz5 : w4.heap.size < (w4.alloc (.cells #[.int .i64 s0, .slice A0 m0 c0, .slice B0 k0 d0] 38)).heap.size := by rw [HZS.out]; omega
          have OWN := Lib.hid HS5.out.own
          clear HEL HZ HZS HL4 HG4 HS4 HT4
          generalize w4.alloc (.cells #[.int .i64 s0, .slice A0 m0 c0, .slice B0 k0 d0] 38) = Y at *
          go_wp2_with (at_builtin; refine wpList_append_lies _ rfl _ _ 36 rfl (bx + 1) 38 j0 _ 3 56 Tryd.underlying36 ja jb jc jd rfl (by omega) (.slice none 0 0) 0 [] rfl (OWN.out.alloc _) ⟨Y.heap.size, 0, none⟩ 1 1 [.int .i64 s0, .slice A0 m0 c0, .slice B0 k0 d0] rfl rfl (World.news_of_block (cs := #[.int .i64 s0, .slice A0 m0 c0, .slice B0 k0 d0]) (t := 38) (fr := (0, 0)) (heap_alloc_new Y _)) (by simp [Value.oneCell']) (by omega) (by unfold maxLen; omega) (by omega) (by simp; omega) (Y.heap.size + 1) (by simp) ?_)
          intro gq0 cq0 w6 hown6 hgrow6 hat6 _
          have HB6 := Lib.hid ((Below.refl Y.heap.size Y).alloc (Nat.le_refl _) (.cells #[.int .i64 s0, .slice A0 m0 c0, .slice B0 k0 d0] 38))
          have nb : ∀ b, b ≤ bx → some b ≠ (.slice none 0 0 : Value).ownBlock := fun b hb e => by have := (OWN.out.lt b e.symm).1; omega
          have HP6 : Hid (GSt 38 (some bn) bx w (widest y) [ta] (.slice (some ⟨gq0, 0, none⟩) 1 cq0) [.int .i64 s0, .slice A0 m0 c0, .slice B0 k0 d0] (w6.setCell ⟨bx, 1, none⟩ (.slice (some ⟨gq0, 0, none⟩) 1 cq0))) := Lib.hid (HS5.out.push HB6.out (HT5.out.below HB6.out) (B0 := X.heap.size) (by omega) (fun y h => Nat.lt_trans (HVB.out y h) hxz) (hat6.imp (fun h => h) (fun h => by rw [h]; simp)) hown6 hgrow6)
          have k6 := (hgrow6.block _ (by simp; omega) (nb bx (Nat.le_refl _))).trans ((heap_alloc_old Y _ bz).trans HS5.out.box)
          obtain ⟨g0, g1, g2⟩ := cell3 k6
          have gf1 := free3 k6 1
          have gz := lt_of_block k6
          have HL6 := Lib.hid ((HL5.out.below HB6.out).set (bx := bx) hgrow6 (by omega) nb (by omega) (by omega) (by omega) (by omega) 1 (.slice (some ⟨gq0, 0, none⟩) 1 cq0))
          have HGL : Hid ((w6.setCell ⟨bx, 1, none⟩ (.slice (some ⟨gq0, 0, none⟩) 1 cq0)).heap[gl]? = _) := Lib.hid ((Below.heap_setCell _ _ _ _ (by show gl ≠ bx; omega)).trans ((hgrow6.block _ (by have := lt_of_block HG5.out; simp; omega) (nb gl (by omega))).trans ((HB6.out.block _ (lt_of_block HG5.out)).trans HG5.out)))
          clear k6 hgrow6 hown6 hat6 b0' b1' b2' bf bz nb e0 e1 e2 OWN HB6 HS5 HT5 HL5 HG5 HVB
          go_wp2_with fail
          generalize w6.setCell ⟨bx, 1, none⟩ (.slice (some ⟨gq0, 0, none⟩) 1 cq0) = V1 at *
          clear g0 g1 g2 gf1 gz
          rw [rounds_succ]
          have HL1' := HL6
          clear HL1
          have HL1 := HL1'
          have HG1 := HGL
          have HS1 := HP6
          clear HL0 HG0 HS0 HL1' HL6 HGL HP6
          obtain ⟨g0, g1, g2, g3, g4, g5, g6⟩ := (cell14 HG1.out).2
          have gz := lt_of_block HG1.out
          have HX := Lib.hid (one_box V1 (.cells #[.int .i64 b.l0, .int .i64 b.l1, .int .i64 b.l2, .int .i64 b.h0, .int .i64 b.h1, .int .i64 b.h2, .slice A b.rows.length cp] 25))
          go_upto_region 24 with fail
          clear g0 g1 g2 g3 g4 g5 g6 gz
          have HLX := Lib.hid (HL1.out.below HX.out.1)
          have HGX := Lib.hid ((HX.out.1.block _ (lt_of_block HG1.out)).trans HG1.out)
          have HSX := Lib.hid (HS1.out.step (grown_of_below HX.out.1))
          have HXX := Lib.hid HX.out.2
          have hxz : V1.heap.size < (V1.alloc (.cells #[.int .i64 b.l0, .int .i64 b.l1, .int .i64 b.l2, .int .i64 b.h0, .int .i64 b.h1, .int .i64 b.h2, .slice A b.rows.length cp] 25)).heap.size := lt_of_block HX.out.2
          have hbxz := lt_of_block HS1.out.box
          have HVB := Lib.hid (fun y (h : (.slice (some ⟨gq0, 0, none⟩) 1 cq0 : Value).ownBlock = some y) => (HS1.out.own.lt y h).2)
          clear HX
          generalize V1.alloc (.cells #[.int .i64 b.l0, .int .i64 b.l1, .int .i64 b.l2, .int .i64 b.h0, .int .i64 b.h1, .int .i64 b.h2, .slice A b.rows.length cp] 25) = X at *
          obtain ⟨e0, e1, e2, e3, e4, e5, e6⟩ := cell7 HXX.out
          have f0 := cell_of_one HLX.out.cap.hb
          have fz := lt_of_block HLX.out.cap.hb
          unfold buildF at f0
          go_wp2_with fail
          refine (IHB.out X (by rw [HERB.out]; exact HLX.out.rows) HLX.out.cap HLX.out.cnt).mono ?_
          rw [hblb]
          rintro e w4 ⟨hg4, s1, A1, m1, c1, B1, k1, d1, rfl, hc4, hT4⟩
          have HL4 := Lib.hid (HLX.out.step hg4 hc4)
          have HG4 := Lib.hid ((hg4.block _ (lt_of_block HGX.out) (HGN.out)).trans HGX.out)
          have HS4 := Lib.hid (HSX.out.step hg4)
          have HT4 := Lib.hid hT4
          have hz4 := hg4.size
          clear hg4 hc4 hT4 HLX HGX HSX HXX e0 e1 e2 e3 e4 e5 e6 f0 fz
          have HZ := Lib.hid ((Below.refl w4.heap.size w4).alloc (Nat.le_refl _) (.cells #[.int .i64 s1, .slice A1 m1 c1, .slice B1 k1 d1] 38))
          have HEL := Lib.hid (cell3 (heap_alloc_new w4 (.cells #[.int .i64 s1, .slice A1 m1 c1, .slice B1 k1 d1] 38)))
          have HZS : Hid ((w4.alloc (.cells #[.int .i64 s1, .slice A1 m1 c1, .slice B1 k1 d1] 38)).heap.size = w4.heap.size + 1) := Lib.hid (by simp)
          have HL5 := Lib.hid (HL4.out.below HZ.out)
          have HG5 := Lib.hid ((HZ.out.block _ (lt_of_block HG4.out)).trans HG4.out)
          have HS5 := Lib.hid (HS4.out.step (grown_of_below HZ.out))
          have HT5 := Lib.hid (HT4.out.below HZ.out)
          obtain ⟨x0, x1, x2⟩ := cell3 HS4.out.box
          have xz := lt_of_block HS4.out.box
          go_upto_region 27 with fail
          clear x0 x1 x2 xz
          obtain ⟨e0, e1, e2⟩ := HEL.out
          obtain ⟨b0', b1', b2'⟩ := cell3 HS5.out.box
          have bf := free3 HS5.out.box 1
          have bz := lt_of_block HS5.out.box
          have hz5 : w4.heap.size < (w4.alloc (.cells #[.int .i64 s1, .slice A1 m1 c1, .slice B1 k1 d1] 38)).heap.size := by rw [HZS.out]; omega
          have OWN := Lib.hid HS5.out.own
          clear HEL HZ HZS HL4 HG4 HS4 HT4
          generalize w4.alloc (.cells #[.int .i64 s1, .slice A1 m1 c1, .slice B1 k1 d1] 38) = Y at *
          go_wp2_with (at_builtin; refine wpList_append_lies _ rfl _ _ 36 rfl (bx + 1) 38 j0 _ 3 56 Tryd.underlying36 ja jb jc jd rfl (by omega) (.slice (some ⟨gq0, 0, none⟩) 1 cq0) 1 [.int .i64 s0, .slice A0 m0 c0, .slice B0 k0 d0] rfl (OWN.out.alloc _) ⟨Y.heap.size, 0, none⟩ 1 1 [.int .i64 s1, .slice A1 m1 c1, .slice B1 k1 d1] rfl rfl (World.news_of_block (cs := #[.int .i64 s1, .slice A1 m1 c1, .slice B1 k1 d1]) (t := 38) (fr := (0, 0)) (heap_alloc_new Y _)) (by simp [Value.oneCell']) (by omega) (by unfold maxLen; omega) (by omega) (by simp; omega) (Y.heap.size + 1) (by simp) ?_)
          intro gq1 cq1 w6 hown6 hgrow6 hat6 _
          have HB6 := Lib.hid ((Below.refl Y.heap.size Y).alloc (Nat.le_refl _) (.cells #[.int .i64 s1, .slice A1 m1 c1, .slice B1 k1 d1] 38))
          have nb : ∀ b, b ≤ bx → some b ≠ (.slice (some ⟨gq0, 0, none⟩) 1 cq0 : Value).ownBlock := fun b hb e => by have := (OWN.out.lt b e.symm).1; omega
          have HP6 : Hid (GSt 38 (some bn) bx w (widest y) [ta, tb] (.slice (some ⟨gq1, 0, none⟩) 2 cq1) ([.int .i64 s0, .slice A0 m0 c0, .slice B0 k0 d0] ++ [.int .i64 s1, .slice A1 m1 c1, .slice B1 k1 d1]) (w6.setCell ⟨bx, 1, none⟩ (.slice (some ⟨gq1, 0, none⟩) 2 cq1))) := Lib.hid (HS5.out.push HB6.out (HT5.out.below HB6.out) (B0 := X.heap.size) (by omega) (fun y h => Nat.lt_trans (HVB.out y h) hxz) (hat6.imp (fun h => h) (fun h => by rw [h]; simp)) hown6 hgrow6)
          have k6 := (hgrow6.block _ (by simp; omega) (nb bx (Nat.le_refl _))).trans ((heap_alloc_old Y _ bz).trans HS5.out.box)
          obtain ⟨g0, g1, g2⟩ := cell3 k6
          have gf1 := free3 k6 1
          have gz := lt_of_block k6
          have HL6 := Lib.hid ((HL5.out.below HB6.out).set (bx := bx) hgrow6 (by omega) nb (by omega) (by omega) (by omega) (by omega) 1 (.slice (some ⟨gq1, 0, none⟩) 2 cq1))
          clear k6 hgrow6 hown6 hat6 b0' b1' b2' bf bz nb e0 e1 e2 OWN HB6 HS5 HT5 HL5 HG5 HVB
          go_wp2_with fail
          generalize w6.setCell ⟨bx, 1, none⟩ (.slice (some ⟨gq1, 0, none⟩) 2 cq1) = V2 at *
          clear g0 g1 g2 gf1 gz
          rw [rounds_succ]
          have HSF := HP6
          have HLF := HL6
          clear HP6 HL6
          obtain ⟨x0, x1, x2⟩ := cell3 HSF.out.box
          obtain ⟨r0, r1, r2⟩ := cell3 HLF.out.rbox
          have q0 := free3 HLF.out.rbox 0
          have q1 := free3 HLF.out.rbox 1
          have q2 := free3 HLF.out.rbox 2
          have qz := lt_of_block HLF.out.rbox
          have xz := lt_of_block HSF.out.box
          go_wp2
          refine bodyPost_ret (v := .tuple #[.agg #[.int .i64 (widest y), .slice (some ⟨gq1, 0, none⟩) 2 cq1, .slice none 0 0], .int .i64 0]) (by simp [results, Tryd.results55, go_sem, r0, r1, r2]) rfl ?_
          rw [HFE.out]
          refine ⟨gthree HLF.out.grow (by omega) _ _ _, _, _, _, _, _, _, _, rfl, (three_far _ _ _ _ _ _ (by have := HLF.out.lt; omega)).trans HLF.out.cnt, ?_⟩
          have hc2 := HSF.out.own
          obtain ⟨_, _, hv2, hcc⟩ := own_shape hc2
          cases hv2
          exact TreeIn.stays (fun g hg _ => three_far _ _ _ _ _ _ (by omega)) (fun g hg _ => by omega) _ _ (HSF.out.tree hcc)
end Go.Proofs.YtjjohllfidmkjaaDoor.PfW

namespace Go.Proofs.YtjjohllfidmkjaaDoor.PfW
open Go Go.RowKit Go.Proofs.YtjjohllfidmkjaaDoor.Mem Go.Proofs.YtjjohllfidmkjaaDoor.Pf
/-- What Build hands back. -/
def BuildRet (r : Except Int (T × Nat)) (w : World) (e : Ending) (w' : World) : Prop :=
  match r with
  | .error x => Below w.heap.size w w' ∧ e = .returned (.tuple #[.agg #[.int .i64 0, .slice none 0 0, .slice none 0 0], .int .i64 x])
  | .ok (t, _) => Below w.heap.size w w' ∧ ∃ (s : Int) (A : Option Addr) (m c : Nat) (B : Option Addr) (k d : Nat), e = .returned (.tuple #[.agg #[.int .i64 s, .slice A m c, .slice B k d], .int .i64 0]) ∧ TreeIn (fun g => w.heap.size ≤ g) w' t [.int .i64 s, .slice A m c, .slice B k d]
set_option maxRecDepth 100000 in
set_option maxHeartbeats 4000000 in
theorem built_any (y : Syst) (A : Option Addr) (cp : Nat) (w : World) (hy : Little y) (hr : Row w A (y.rows.flatMap r4Cells)) :
    Calls Tryd.prog 34 #[sysV y A cp, .func (.func 35) #[] #[], .func (.func 36) #[] #[]] w (BuildRet (bld 27 y 0) w) := by
  have HBB := Lib.hid (five_boxes w (.cells #[.int .i64 y.l0, .int .i64 y.l1, .int .i64 y.l2, .int .i64 y.h0, .int .i64 y.h1, .int .i64 y.h2, .slice A y.rows.length cp] 25) (.cells #[.func (.func 35) #[] #[]] 59) (.cells #[.func (.func 36) #[] #[]] 60) (.cells #[.int .i64 0, .slice none 0 0, .slice none 0 0] 38) (.cells #[.int .i64 0] 3))
  have esz : Hid ((((((w.alloc (.cells #[.int .i64 y.l0, .int .i64 y.l1, .int .i64 y.l2, .int .i64 y.h0, .int .i64 y.h1, .int .i64 y.h2, .slice A y.rows.length cp] 25)).alloc (.cells #[.func (.func 35) #[] #[]] 59)).alloc (.cells #[.func (.func 36) #[] #[]] 60)).alloc (.cells #[.int .i64 0, .slice none 0 0, .slice none 0 0] 38)).alloc (.cells #[.int .i64 0] 3)).heap.size = w.heap.size + 1 + 1 + 1 + 1 + 1) := Lib.hid (by simp)
  have HFN := Lib.hid (one_box (((((w.alloc (.cells #[.int .i64 y.l0, .int .i64 y.l1, .int .i64 y.l2, .int .i64 y.h0, .int .i64 y.h1, .int .i64 y.h2, .slice A y.rows.length cp] 25)).alloc (.cells #[.func (.func 35) #[] #[]] 59)).alloc (.cells #[.func (.func 36) #[] #[]] 60)).alloc (.cells #[.int .i64 0, .slice none 0 0, .slice none 0 0] 38)).alloc (.cells #[.int .i64 0] 3)) (.cells #[.func (.func 55) #[] #[.pointer (some ⟨w.heap.size + 1 + 1 + 1 + 1, 0, none⟩), .pointer (some ⟨w.heap.size + 1 + 1, 0, none⟩), .pointer (some ⟨w.heap.size + 1, 0, none⟩), .pointer (some ⟨w.heap.size + 1 + 1 + 1 + 1 + 1, 0, none⟩)]] 92))
  rw [esz.out] at HFN
  have HBX := Lib.hid (HBB.out.1.trans (HFN.out.1.mono (by omega)))
  have hold : ∀ (b : Nat) (o : Obj), (((((w.alloc (.cells #[.int .i64 y.l0, .int .i64 y.l1, .int .i64 y.l2, .int .i64 y.h0, .int .i64 y.h1, .int .i64 y.h2, .slice A y.rows.length cp] 25)).alloc (.cells #[.func (.func 35) #[] #[]] 59)).alloc (.cells #[.func (.func 36) #[] #[]] 60)).alloc (.cells #[.int .i64 0, .slice none 0 0, .slice none 0 0] 38)).alloc (.cells #[.int .i64 0] 3)).heap[b]? = some o → ((((((w.alloc (.cells #[.int .i64 y.l0, .int .i64 y.l1, .int .i64 y.l2, .int .i64 y.h0, .int .i64 y.h1, .int .i64 y.h2, .slice A y.rows.length cp] 25)).alloc (.cells #[.func (.func 35) #[] #[]] 59)).alloc (.cells #[.func (.func 36) #[] #[]] 60)).alloc (.cells #[.int .i64 0, .slice none 0 0, .slice none 0 0] 38)).alloc (.cells #[.int .i64 0] 3)).alloc (.cells #[.func (.func 55) #[] #[.pointer (some ⟨w.heap.size + 1 + 1 + 1 + 1, 0, none⟩), .pointer (some ⟨w.heap.size + 1 + 1, 0, none⟩), .pointer (some ⟨w.heap.size + 1, 0, none⟩), .pointer (some ⟨w.heap.size + 1 + 1 + 1 + 1 + 1, 0, none⟩)]] 92)).heap[b]? = some o := fun b o h => (HFN.out.1.block b (by rw [← esz.out]; exact lt_of_block h)).trans h
  have B1 := Lib.hid (hold _ _ HBB.out.2.1)
  have B2 := Lib.hid (hold _ _ HBB.out.2.2.1)
  have B3 := Lib.hid (hold _ _ HBB.out.2.2.2.1)
  have B4 := Lib.hid (hold _ _ HBB.out.2.2.2.2.1)
  have B5 := Lib.hid (hold _ _ HBB.out.2.2.2.2.2)
  have B6 := Lib.hid HFN.out.2
  have HCAP : Hid (CapB w.heap.size (w.heap.size + 1 + 1 + 1 + 1) (w.heap.size + 1 + 1) (w.heap.size + 1) (w.heap.size + 1 + 1 + 1 + 1 + 1) ((((((w.alloc (.cells #[.int .i64 y.l0, .int .i64 y.l1, .int .i64 y.l2, .int .i64 y.h0, .int .i64 y.h1, .int .i64 y.h2, .slice A y.rows.length cp] 25)).alloc (.cells #[.func (.func 35) #[] #[]] 59)).alloc (.cells #[.func (.func 36) #[] #[]] 60)).alloc (.cells #[.int .i64 0, .slice none 0 0, .slice none 0 0] 38)).alloc (.cells #[.int .i64 0] 3)).alloc (.cells #[.func (.func 55) #[] #[.pointer (some ⟨w.heap.size + 1 + 1 + 1 + 1, 0, none⟩), .pointer (some ⟨w.heap.size + 1 + 1, 0, none⟩), .pointer (some ⟨w.heap.size + 1, 0, none⟩), .pointer (some ⟨w.heap.size + 1 + 1 + 1 + 1 + 1, 0, none⟩)]] 92))) := Lib.hid ⟨B3.out, B2.out, B6.out, by omega, by omega, by omega, by omega⟩
  have HROW : Hid (RowS (fun g => g < w.heap.size) ((((((w.alloc (.cells #[.int .i64 y.l0, .int .i64 y.l1, .int .i64 y.l2, .int .i64 y.h0, .int .i64 y.h1, .int .i64 y.h2, .slice A y.rows.length cp] 25)).alloc (.cells #[.func (.func 35) #[] #[]] 59)).alloc (.cells #[.func (.func 36) #[] #[]] 60)).alloc (.cells #[.int .i64 0, .slice none 0 0, .slice none 0 0] 38)).alloc (.cells #[.int .i64 0] 3)).alloc (.cells #[.func (.func 55) #[] #[.pointer (some ⟨w.heap.size + 1 + 1 + 1 + 1, 0, none⟩), .pointer (some ⟨w.heap.size + 1 + 1, 0, none⟩), .pointer (some ⟨w.heap.size + 1, 0, none⟩), .pointer (some ⟨w.heap.size + 1 + 1 + 1 + 1 + 1, 0, none⟩)]] 92)) A (y.rows.flatMap r4Cells)) := Lib.hid (RowS.stays (S' := fun g => g < w.heap.size) (RowS.all hr) (fun g _ hg => HBX.out.block g hg) (fun g _ hg => hg))
  have HC := Lib.hid (fun X h1 h2 h3 => build_any 27 y 0 1 w.heap.size (w.heap.size + 1 + 1 + 1 + 1) (w.heap.size + 1 + 1) (w.heap.size + 1) (w.heap.size + 1 + 1 + 1 + 1 + 1) A cp X hy (side_le hy.box) (by omega) (by omega) h1 h2 h3)
  unfold sysV at HC ⊢
  clear hold HBB HFN hr hy esz
  cases hb : bld 27 y 0 with
  | error x =>
    unfold BuildRet
    simp only
    go_enter Tryd.func34, Tryd.ntmps34
    go_upto_region 4 with fail
    generalize ((((((w.alloc (.cells #[.int .i64 y.l0, .int .i64 y.l1, .int .i64 y.l2, .int .i64 y.h0, .int .i64 y.h1, .int .i64 y.h2, .slice A y.rows.length cp] 25)).alloc (.cells #[.func (.func 35) #[] #[]] 59)).alloc (.cells #[.func (.func 36) #[] #[]] 60)).alloc (.cells #[.int .i64 0, .slice none 0 0, .slice none 0 0] 38)).alloc (.cells #[.int .i64 0] 3)).alloc (.cells #[.func (.func 55) #[] #[.pointer (some ⟨w.heap.size + 1 + 1 + 1 + 1, 0, none⟩), .pointer (some ⟨w.heap.size + 1 + 1, 0, none⟩), .pointer (some ⟨w.heap.size + 1, 0, none⟩), .pointer (some ⟨w.heap.size + 1 + 1 + 1 + 1 + 1, 0, none⟩)]] 92)) = X at *
    obtain ⟨a0, a1, a2, a3, a4, a5, a6⟩ := cell7 B1.out
    have f0 := cell_of_one B6.out
    have z1 := lt_of_block B1.out
    have z6 := lt_of_block B6.out
    go_wp2_with fail
    refine (HC.out X HROW.out HCAP.out B5.out).mono ?_
    rw [hb]
    rintro e w4 ⟨hg4, rfl⟩
    have hz4 := hg4.size
    have HB4 : Hid (Below w.heap.size w w4) := Lib.hid ⟨hg4.os.trans HBX.out.os, hg4.tape.trans HBX.out.tape, hg4.output.trans HBX.out.output, Nat.le_trans HBX.out.size hz4, fun i hi => (hg4.block i (by omega) (fun e => by cases e; omega)).trans (HBX.out.block i hi)⟩
    have Z4 := Lib.hid ((hg4.block _ (lt_of_block B4.out) (fun e => by have e' := Option.some.inj e; omega)).trans B4.out)
    clear hg4 a0 a1 a2 a3 a4 a5 a6 f0
    obtain ⟨r0, r1, r2⟩ := cell3 Z4.out
    have q0 := free3 Z4.out 0
    have q1 := free3 Z4.out 1
    have q2 := free3 Z4.out 2
    have qz := lt_of_block Z4.out
    go_wp2
    refine bodyPost_ret (v := .tuple #[.agg #[.int .i64 0, .slice none 0 0, .slice none 0 0], .int .i64 x]) (by simp [results, Tryd.results34, go_sem, r0, r1, r2]) rfl ?_
    have hbl : Below w.heap.size w (((w4.setCell ⟨w.heap.size + 1 + 1 + 1, 0, none⟩ (.int .i64 0)).setCell ⟨w.heap.size + 1 + 1 + 1, 1, none⟩ (.slice none 0 0)).setCell ⟨w.heap.size + 1 + 1 + 1, 2, none⟩ (.slice none 0 0)) := ((HB4.out.setCell (by show w.heap.size ≤ w.heap.size + 1 + 1 + 1; omega) _).setCell (by show w.heap.size ≤ w.heap.size + 1 + 1 + 1; omega) _).setCell (by show w.heap.size ≤ w.heap.size + 1 + 1 + 1; omega) _
    exact ⟨hbl, rfl⟩
  | ok p =>
    obtain ⟨t, n⟩ := p
    unfold BuildRet
    simp only
    go_enter Tryd.func34, Tryd.ntmps34
    go_upto_region 4 with fail
    generalize ((((((w.alloc (.cells #[.int .i64 y.l0, .int .i64 y.l1, .int .i64 y.l2, .int .i64 y.h0, .int .i64 y.h1, .int .i64 y.h2, .slice A y.rows.length cp] 25)).alloc (.cells #[.func (.func 35) #[] #[]] 59)).alloc (.cells #[.func (.func 36) #[] #[]] 60)).alloc (.cells #[.int .i64 0, .slice none 0 0, .slice none 0 0] 38)).alloc (.cells #[.int .i64 0] 3)).alloc (.cells #[.func (.func 55) #[] #[.pointer (some ⟨w.heap.size + 1 + 1 + 1 + 1, 0, none⟩), .pointer (some ⟨w.heap.size + 1 + 1, 0, none⟩), .pointer (some ⟨w.heap.size + 1, 0, none⟩), .pointer (some ⟨w.heap.size + 1 + 1 + 1 + 1 + 1, 0, none⟩)]] 92)) = X at *
    obtain ⟨a0, a1, a2, a3, a4, a5, a6⟩ := cell7 B1.out
    have f0 := cell_of_one B6.out
    have z1 := lt_of_block B1.out
    have z6 := lt_of_block B6.out
    go_wp2_with fail
    refine (HC.out X HROW.out HCAP.out B5.out).mono ?_
    rw [hb]
    rintro e w4 ⟨hg4, s4, A4, m4, c4, K4, k4, d4, rfl, _, hT4⟩
    have hz4 := hg4.size
    have HB4 : Hid (Below w.heap.size w w4) := Lib.hid ⟨hg4.os.trans HBX.out.os, hg4.tape.trans HBX.out.tape, hg4.output.trans HBX.out.output, Nat.le_trans HBX.out.size hz4, fun i hi => (hg4.block i (by omega) (fun e => by cases e; omega)).trans (HBX.out.block i hi)⟩
    have Z4 := Lib.hid ((hg4.block _ (lt_of_block B4.out) (fun e => by have e' := Option.some.inj e; omega)).trans B4.out)
    have HT4 := Lib.hid hT4
    clear hg4 a0 a1 a2 a3 a4 a5 a6 f0
    obtain ⟨r0, r1, r2⟩ := cell3 Z4.out
    have q0 := free3 Z4.out 0
    have q1 := free3 Z4.out 1
    have q2 := free3 Z4.out 2
    have qz := lt_of_block Z4.out
    go_wp2
    refine bodyPost_ret (v := .tuple #[.agg #[.int .i64 s4, .slice A4 m4 c4, .slice K4 k4 d4], .int .i64 0]) (by simp [results, Tryd.results34, go_sem, r0, r1, r2]) rfl ?_
    have hbl : Below w.heap.size w (((w4.setCell ⟨w.heap.size + 1 + 1 + 1, 0, none⟩ (.int .i64 s4)).setCell ⟨w.heap.size + 1 + 1 + 1, 1, none⟩ (.slice A4 m4 c4)).setCell ⟨w.heap.size + 1 + 1 + 1, 2, none⟩ (.slice K4 k4 d4)) := ((HB4.out.setCell (by show w.heap.size ≤ w.heap.size + 1 + 1 + 1; omega) _).setCell (by show w.heap.size ≤ w.heap.size + 1 + 1 + 1; omega) _).setCell (by show w.heap.size ≤ w.heap.size + 1 + 1 + 1; omega) _
    refine ⟨hbl, _, _, _, _, _, _, _, rfl, ?_⟩
    exact TreeIn.stays (fun g hg _ => three_far _ _ _ _ _ _ (by omega)) (fun g hg _ => by omega) _ _ HT4.out
end Go.Proofs.YtjjohllfidmkjaaDoor.PfW
