/- Walk: the closure of Build over counts. Conditions: the numbers are small. -/
import Derived.Test.YtjjohllfidmkjaaDoorPfK2
import Derived.Test.YtjjohllfidmkjaaDoorPfB5
namespace Go.Proofs.YtjjohllfidmkjaaDoor.Pf
open Go
theorem loopK_err {f : Nat → Except Int (T × Nat)} (h : ∀ n x, f n = .error x → x = 9) : ∀ (j : Nat) (acc : List T) (n : Nat) (x : Int), loopK f j acc n = .error x → x = 9
  | 0, acc, n, x, he => by unfold loopK at he; cases he
  | j + 1, acc, n, x, he => by
    unfold loopK at he
    cases hf : f n with
    | error e => rw [hf] at he; cases he; exact h n _ hf
    | ok p =>
      obtain ⟨t, m⟩ := p
      rw [hf] at he
      exact loopK_err h j _ _ x he
theorem bldC_err (k : Nat) : ∀ (l d n : Nat) (x : Int), bldC k l d n = .error x → x = 9
  | 0, d, n, x, h => by
    rw [bldC] at h
    split at h
    · cases h; rfl
    · cases h
  | l + 1, d, n, x, h => by
    rw [bldC] at h
    split at h
    · cases h; rfl
    · split at h
      · cases h; rfl
      · cases hk : loopK (bldC k l (d + 1)) k [] (n + 1) with
        | error e => rw [hk] at h; cases h; exact loopK_err (fun n x => bldC_err k l (d + 1) n x) _ _ _ _ hk
        | ok p => rw [hk] at h; cases h
theorem loopK_count {f : Nat → Except Int (T × Nat)} (h : ∀ n t m, f n = .ok (t, m) → m ≤ 2000) : ∀ (j : Nat) (acc : List T) (n : Nat) (ks : List T) (m : Nat), n ≤ 2000 → loopK f j acc n = .ok (ks, m) → m ≤ 2000
  | 0, acc, n, ks, m, hn, he => by unfold loopK at he; cases he; exact hn
  | j + 1, acc, n, ks, m, hn, he => by
    unfold loopK at he
    cases hf : f n with
    | error e => rw [hf] at he; cases he
    | ok p =>
      obtain ⟨t, m1⟩ := p
      rw [hf] at he
      exact loopK_count h j _ _ ks m (h n t m1 hf) he
theorem bldC_count (k : Nat) : ∀ (l d n : Nat) (t : T) (m : Nat), bldC k l d n = .ok (t, m) → m ≤ 2000
  | 0, d, n, t, m, h => by
    rw [bldC] at h
    split at h
    · cases h
    · cases h; omega
  | l + 1, d, n, t, m, h => by
    rw [bldC] at h
    split at h
    · cases h
    · split at h
      · cases h
      · cases hk : loopK (bldC k l (d + 1)) k [] (n + 1) with
        | error e => rw [hk] at h; cases h
        | ok p =>
          obtain ⟨ks, m1⟩ := p
          rw [hk] at h
          cases h
          exact loopK_count (fun n t m => bldC_count k l (d + 1) n t m) _ _ _ _ _ (by omega) hk
end Go.Proofs.YtjjohllfidmkjaaDoor.Pf
namespace Go.Proofs.YtjjohllfidmkjaaDoor.PfW
open Go Go.RowKit Go.Proofs.YtjjohllfidmkjaaDoor.Mem Go.Proofs.YtjjohllfidmkjaaDoor.Pf
attribute [local go_sem ↓] Go.wp_at_zero Go.wp_at_succ

def buildC (bn bpl bsp bb : Nat) : Value := .func (.func 61) #[] #[.pointer (some ⟨bn, 0, none⟩), .pointer (some ⟨bpl, 0, none⟩), .pointer (some ⟨bsp, 0, none⟩), .pointer (some ⟨bb, 0, none⟩)]
structure CapC (bn bpl bsp bb : Nat) (w : World) : Prop where
  hpl : w.heap[bpl]? = some (.cells #[.func (.func 40) #[] #[]] 67 (0, 0))
  hsp : w.heap[bsp]? = some (.cells #[.func (.func 39) #[] #[]] 66 (0, 0))
  hb : w.heap[bb]? = some (.cells #[buildC bn bpl bsp bb] 98 (0, 0))
  n1 : bpl ≠ bn
  n2 : bsp ≠ bn
  n3 : bb ≠ bn
theorem CapC.grow {bn bpl bsp bb : Nat} {w w' : World} (h : CapC bn bpl bsp bb w) (hg : w.grownBy w' (some bn)) : CapC bn bpl bsp bb w' :=
  ⟨(hg.block _ (lt_of_block h.hpl) (fun e => h.n1 (by cases e; rfl))).trans h.hpl, (hg.block _ (lt_of_block h.hsp) (fun e => h.n2 (by cases e; rfl))).trans h.hsp, (hg.block _ (lt_of_block h.hb) (fun e => h.n3 (by cases e; rfl))).trans h.hb, h.n1, h.n2, h.n3⟩
/-- Where the closure stands. -/
structure BC (bn bpl bsp bb l k n : Nat) (w wr : World) : Prop where
  cap : CapC bn bpl bsp bb wr
  cnt : wr.heap[bn]? = some (.cells #[.int .i64 (n : Int)] 3 (0, 0))
  sbox : wr.heap[w.heap.size]? = some (.cells #[.int .i64 (l : Int), .int .i64 (k : Int)] 64 (0, 0))
  rbox : wr.heap[w.heap.size + 1]? = some (.cells #[.int .i64 0, .slice none 0 0, .slice none 0 0] 38 (0, 0))
  grow : w.grownBy wr (some bn)
  lt : bn < w.heap.size
theorem BC.fl {bn bpl bsp bb l k n : Nat} {w wr : World} (h : BC bn bpl bsp bb l k n w wr) : FL bn w wr := ⟨h.rbox, h.grow, h.lt⟩
theorem BC.step {bn bpl bsp bb l k n m : Nat} {w wr w' : World} (h : BC bn bpl bsp bb l k n w wr) (hg : wr.grownBy w' (some bn)) (hc : w'.heap[bn]? = some (.cells #[.int .i64 (m : Int)] 3 (0, 0))) : BC bn bpl bsp bb l k m w w' :=
  ⟨h.cap.grow hg, hc, (hg.block _ (lt_of_block h.sbox) (fun e => by have := h.lt; cases e; omega)).trans h.sbox, (h.fl.step hg).rbox, gtrans h.grow hg, h.lt⟩
theorem BC.below {bn bpl bsp bb l k n : Nat} {w wr w' : World} (h : BC bn bpl bsp bb l k n w wr) (hb : Below wr.heap.size wr w') : BC bn bpl bsp bb l k n w w' :=
  h.step (grown_of_below hb) ((hb.block _ (lt_of_block h.cnt)).trans h.cnt)
/-- A store into a newer box, behind an append to a newer row. -/
theorem BC.set {bn bpl bsp bb l k n : Nat} {w wr w' : World} {bx : Nat} {ob : Option Nat} (h : BC bn bpl bsp bb l k n w wr) (hg : wr.grownBy w' ob) (hx : w.heap.size + 1 < bx) (hn : ∀ b, b ≤ bx → some b ≠ ob) (hf : bpl < bx) (hf2 : bsp < bx) (hf3 : bb < bx) (j : Nat) (u : Value) : BC bn bpl bsp bb l k n w (w'.setCell ⟨bx, j, none⟩ u) := by
  have hl := h.lt
  have k : ∀ b, b < bx → b < wr.heap.size → (w'.setCell ⟨bx, j, none⟩ u).heap[b]? = wr.heap[b]? := fun b hb hz => by
    rw [Below.heap_setCell _ _ _ _ (by show b ≠ bx; omega), hg.block b hz (hn b (by omega))]
  refine ⟨⟨(k _ hf (lt_of_block h.cap.hpl)).trans h.cap.hpl, (k _ hf2 (lt_of_block h.cap.hsp)).trans h.cap.hsp, (k _ hf3 (lt_of_block h.cap.hb)).trans h.cap.hb, h.cap.n1, h.cap.n2, h.cap.n3⟩, (k _ (by omega) (lt_of_block h.cnt)).trans h.cnt, (k _ (by omega) (lt_of_block h.sbox)).trans h.sbox, (k _ (by omega) (lt_of_block h.rbox)).trans h.rbox, ?_, h.lt⟩
  refine gnew ⟨hg.os.trans h.grow.os, hg.tape.trans h.grow.tape, hg.output.trans h.grow.output, Nat.le_trans h.grow.size hg.size, fun i hi hne => ?_⟩ (by omega) _ _
  rw [hg.block i (Nat.lt_of_lt_of_le hi h.grow.size) (hn i (by omega))]
  exact h.grow.block i hi hne
def endC (x : Int) : Except Int (List T × Nat) → Except Int (T × Nat)
  | .error e => .error e
  | .ok (ks, n2) => .ok (.mk x ks [], n2)
theorem bldC_step {k l d n : Nat} (h1 : ¬ (2000 < n + 1 ∨ 40 < d)) (h2 : ¬ 100 < k) : bldC k (l + 1) d n = endC ((l + 1 : Nat) : Int) (loopK (bldC k l (d + 1)) k [] (n + 1)) := by
  rw [bldC, if_neg h1, if_neg h2]
  unfold endC
  rfl
theorem node_leafC (k : Nat) (h : k ≤ 1000) : nodeB 0 0 [(k : Int)] = true := by
  simp [nodeB, smallB]
  omega
theorem startC {bn bpl bsp bb l k n : Nat} {w : World} (hc : CapC bn bpl bsp bb w) (hcnt : w.heap[bn]? = some (.cells #[.int .i64 (n : Int)] 3 (0, 0))) : BC bn bpl bsp bb l k (n + 1) w (((w.setCell ⟨bn, 0, none⟩ (.int .i64 ((n : Int) + 1))).alloc (.cells #[.int .i64 (l : Int), .int .i64 (k : Int)] 64)).alloc (.cells #[.int .i64 0, .slice none 0 0, .slice none 0 0] 38)) := by
  have hbn := lt_of_block hcnt
  have hz0 : (w.setCell ⟨bn, 0, none⟩ (.int .i64 ((n : Int) + 1))).heap.size = w.heap.size := by simp [World.setCell]
  have HBB := two_boxes (w.setCell ⟨bn, 0, none⟩ (.int .i64 ((n : Int) + 1))) (.cells #[.int .i64 (l : Int), .int .i64 (k : Int)] 64) (.cells #[.int .i64 0, .slice none 0 0, .slice none 0 0] 38)
  rw [hz0] at HBB
  have e0 : (w.setCell ⟨bn, 0, none⟩ (.int .i64 ((n : Int) + 1))).heap[bn]? = some (.cells #[.int .i64 (((n + 1 : Nat)) : Int)] 3 (0, 0)) := one_setCell hcnt
  have k : ∀ b, b ≠ bn → b < w.heap.size → (((w.setCell ⟨bn, 0, none⟩ (.int .i64 ((n : Int) + 1))).alloc (.cells #[.int .i64 (l : Int), .int .i64 (k : Int)] 64)).alloc (.cells #[.int .i64 0, .slice none 0 0, .slice none 0 0] 38)).heap[b]? = w.heap[b]? := fun b hb hlt => (HBB.1.block b hlt).trans (Below.heap_setCell _ _ _ _ hb)
  refine ⟨⟨(k _ hc.n1 (lt_of_block hc.hpl)).trans hc.hpl, (k _ hc.n2 (lt_of_block hc.hsp)).trans hc.hsp, (k _ hc.n3 (lt_of_block hc.hb)).trans hc.hb, hc.n1, hc.n2, hc.n3⟩, (HBB.1.block _ hbn).trans e0, HBB.2.1, HBB.2.2, ?_, hbn⟩
  exact ⟨HBB.1.os, HBB.1.tape, HBB.1.output, Nat.le_trans (Nat.le_of_eq hz0.symm) HBB.1.size, fun i hi hne => k i (fun e => hne (by rw [e])) hi⟩
set_option maxRecDepth 100000 in
set_option maxHeartbeats 8000000 in
theorem buildC_any (k : Nat) (hk : 0 < k) (hk2 : k ≤ 1000) : ∀ (l : Nat), l ≤ 1000 → ∀ (n d bn bpl bsp bb : Nat) (w : World),
    d ≤ 41 → n ≤ 2000 → CapC bn bpl bsp bb w → w.heap[bn]? = some (.cells #[.int .i64 (n : Int)] 3 (0, 0)) →
    Calls Tryd.prog 61 #[.agg #[.int .i64 (l : Int), .int .i64 (k : Int)], .int .i64 (d : Int), .pointer (some ⟨bn, 0, none⟩), .pointer (some ⟨bpl, 0, none⟩), .pointer (some ⟨bsp, 0, none⟩), .pointer (some ⟨bb, 0, none⟩)] w (BRet bn (bldC k l d n) w)
  | 0, _, n, d, bn, bpl, bsp, bb, w, hd, hn, hc, hcnt => by
    have hbn := lt_of_block hcnt
    have HL1 := Lib.hid (startC (l := 0) (k := k) hc hcnt)
    have i0 := cell_of_one hcnt
    have i1 := free_of_one hcnt
    have HPLAN := Lib.hid (fun W => down_any 0 k W)
    unfold DownRet at HPLAN
    simp only at HPLAN
    clear hcnt
    by_cases ho : 2000 < n + 1
    · have HFE : Hid (bldC k 0 d n = .error 9) := Lib.hid (by rw [bldC, if_pos (.inl ho)])
      have d1 : decide ((2000 : Int) < (n : Int) + 1) = true := decide_eq_true (by omega)
      go_enter Tryd.func61, Tryd.ntmps61
      go_upto_region 2 with fail
      generalize (((w.setCell ⟨bn, 0, none⟩ (.int .i64 ((n : Int) + 1))).alloc (.cells #[.int .i64 ((0 : Nat) : Int), .int .i64 (k : Int)] 64)).alloc (.cells #[.int .i64 0, .slice none 0 0, .slice none 0 0] 38)) = W1 at *
      clear i0 i1
      have c0 := cell_of_one HL1.out.cnt
      go_upto_region 3 with fail
      have HLF := Lib.hid HL1.out.fl
      obtain ⟨r0, r1, r2⟩ := cell3 HLF.out.rbox
      have q0 := free3 HLF.out.rbox 0
      have q1 := free3 HLF.out.rbox 1
      have q2 := free3 HLF.out.rbox 2
      have qz := lt_of_block HLF.out.rbox
      go_wp2
      refine bodyPost_ret (v := .tuple #[.agg #[.int .i64 0, .slice none 0 0, .slice none 0 0], .int .i64 9]) (by simp [results, Tryd.results61, go_sem, r0, r1, r2]) rfl ?_
      rw [HFE.out]
      exact ⟨gthree HLF.out.grow (by omega) _ _ _, rfl⟩
    have d1 : decide ((2000 : Int) < (n : Int) + 1) = false := decide_eq_false (by omega)
    by_cases ho2 : 40 < d
    · have HFE : Hid (bldC k 0 d n = .error 9) := Lib.hid (by rw [bldC, if_pos (.inr ho2)])
      have d2 : decide ((40 : Int) < (d : Int)) = true := decide_eq_true (by omega)
      go_enter Tryd.func61, Tryd.ntmps61
      go_upto_region 2 with fail
      generalize (((w.setCell ⟨bn, 0, none⟩ (.int .i64 ((n : Int) + 1))).alloc (.cells #[.int .i64 ((0 : Nat) : Int), .int .i64 (k : Int)] 64)).alloc (.cells #[.int .i64 0, .slice none 0 0, .slice none 0 0] 38)) = W1 at *
      clear i0 i1
      have c0 := cell_of_one HL1.out.cnt
      go_upto_region 3 with fail
      have HLF := Lib.hid HL1.out.fl
      obtain ⟨r0, r1, r2⟩ := cell3 HLF.out.rbox
      have q0 := free3 HLF.out.rbox 0
      have q1 := free3 HLF.out.rbox 1
      have q2 := free3 HLF.out.rbox 2
      have qz := lt_of_block HLF.out.rbox
      go_wp2
      refine bodyPost_ret (v := .tuple #[.agg #[.int .i64 0, .slice none 0 0, .slice none 0 0], .int .i64 9]) (by simp [results, Tryd.results61, go_sem, r0, r1, r2]) rfl ?_
      rw [HFE.out]
      exact ⟨gthree HLF.out.grow (by omega) _ _ _, rfl⟩
    have d2 : decide ((40 : Int) < (d : Int)) = false := decide_eq_false (by omega)
    have HFE : Hid (bldC k 0 d n = .ok (.mk 0 [] [(k : Int)], n + 1)) := Lib.hid (by rw [bldC, if_neg (by omega)])
    have hnl := node_leafC k hk2
    go_enter Tryd.func61, Tryd.ntmps61
    go_upto_region 2 with fail
    generalize (((w.setCell ⟨bn, 0, none⟩ (.int .i64 ((n : Int) + 1))).alloc (.cells #[.int .i64 ((0 : Nat) : Int), .int .i64 (k : Int)] 64)).alloc (.cells #[.int .i64 0, .slice none 0 0, .slice none 0 0] 38)) = W1 at *
    clear i0 i1
    have c0 := cell_of_one HL1.out.cnt
    obtain ⟨s0, s1⟩ := cell2c HL1.out.sbox
    have p0 := cell_of_one HL1.out.cap.hpl
    have pz := lt_of_block HL1.out.cap.hpl
    have sz := lt_of_block HL1.out.sbox
    go_wp2_with fail
    refine (HPLAN.out W1).mono ?_
    rintro e w2 ⟨hb2, hp2⟩
    have HL2 := Lib.hid (HL1.out.below hb2)
    obtain ⟨gp, rfl, hgp, hgw⟩ := hp2
    have PB := Lib.hid (one_box w2 (.cells #[.int .i64 2, .int .i64 0, .slice (some ⟨gp, 0, none⟩) 1 1] 94))
    have HL3 := Lib.hid (HL2.out.below PB.out.1)
    have G3 := Lib.hid ((PB.out.1.block _ (lt_of_block hgp)).trans hgp)
    clear hb2 s0 s1 p0 pz sz
    go_upto_region 9 with fail
    have P3 := Lib.hid PB.out.2
    clear PB HL2 hgp
    generalize w2.alloc (.cells #[.int .i64 2, .int .i64 0, .slice (some ⟨gp, 0, none⟩) 1 1] 94) = W3 at *
    obtain ⟨u0, u1, u2⟩ := cell3 P3.out
    have uz := lt_of_block P3.out
    have HCL := Lib.hid (Tryd.slices_Clone_int gp 0 1 1 [(k : Int)] W3 (by simp) (by omega) (fun j hj => by
      obtain rfl : j = 0 := by simpa using hj
      exact cell_of_one G3.out))
    go_wp2_with fail
    refine HCL.out.mono ?_
    rintro e w4 ⟨v4, rfl, hv4, _, hb4⟩
    obtain ⟨B4, d4, rfl, hd4⟩ := own_shape hv4
    have HV4 := Lib.hid hv4
    have HL4 := Lib.hid (HL3.out.below hb4)
    have TBO := Lib.hid (one_box w4 (.cells #[.int .i64 0, .slice none 0 0, .slice B4 1 d4] 38))
    have HL5 := Lib.hid (HL4.out.below TBO.out.1)
    have HR5 := Lib.hid (Row.of_own (own_below hv4 TBO.out.1))
    have hb4s := hb4.size
    have hw3 := HL3.out.grow.size
    clear hb4 hv4 u0 u1 u2 uz HCL
    go_upto_region 10 with fail
    have T5 := Lib.hid TBO.out.2
    clear TBO HL4
    generalize w4.alloc (.cells #[.int .i64 0, .slice none 0 0, .slice B4 1 d4] 38) = W5 at *
    obtain ⟨u0, u1, u2⟩ := cell3 T5.out
    have uz := lt_of_block T5.out
    have HND := Lib.hid (node_any 0 0 0 [(k : Int)] none B4 d4 W5 HR5.out (by simp))
    rw [hnl] at HND
    go_wp2_with fail
    refine HND.out.mono ?_
    rintro e w6 ⟨rfl, hb6⟩
    have HLF := Lib.hid (HL5.out.below hb6)
    have T6 := Lib.hid ((hb6.block _ (lt_of_block T5.out)).trans T5.out)
    have HR6 := Lib.hid (HR5.out.below hb6)
    clear hb6 u0 u1 u2 uz HND
    obtain ⟨u0, u1, u2⟩ := cell3 T6.out
    have uz := lt_of_block T6.out
    obtain ⟨r0, r1, r2⟩ := cell3 HLF.out.rbox
    have q0 := free3 HLF.out.rbox 0
    have q1 := free3 HLF.out.rbox 1
    have q2 := free3 HLF.out.rbox 2
    have qz := lt_of_block HLF.out.rbox
    go_wp2
    refine bodyPost_ret (v := .tuple #[.agg #[.int .i64 0, .slice none 0 0, .slice B4 1 d4], .int .i64 0]) (by simp [results, Tryd.results61, go_sem, r0, r1, r2]) rfl ?_
    rw [HFE.out]
    refine ⟨gthree HLF.out.grow (by omega) _ _ _, _, _, _, _, _, _, _, rfl, (three_far _ _ _ _ _ _ (by have := HLF.out.lt; omega)).trans HLF.out.cnt, ?_⟩
    unfold TreeIn
    refine ⟨none, 0, B4, d4, [], rfl, Nat.le_refl _, hd4, fun hne => absurd rfl hne, by unfold KidsIn; rfl, fun hne => ?_⟩
    obtain ⟨g, off, rfl, hg, hcell⟩ := HR6.out (by simp)
    have hge : W3.heap.size ≤ g := by
      rcases HV4.out.2 with ⟨h0, _⟩ | ⟨g', cap, cur, hv, hb', _⟩
      · cases h0
      · cases hv; exact hb'
    have hw3' := lt_of_block HL3.out.rbox
    have hfar := three_far w6 (w.heap.size + 1) g (.int .i64 0) (.slice none 0 0) (.slice (some ⟨g, off, none⟩) 1 d4) (by omega)
    exact ⟨g, off, rfl, by show w.heap.size ≤ g; omega, heap_lt_iff hfar hg, fun j hj => (cell_stays hfar).trans (hcell j hj)⟩
  | l + 1, hll, n, d, bn, bpl, bsp, bb, w, hd, hn, hc, hcnt => by
    have IH := Lib.hid (buildC_any k hk hk2 l (by omega))
    have hbn := lt_of_block hcnt
    have hpz := lt_of_block hc.hpl
    have hsz := lt_of_block hc.hsp
    have hbz := lt_of_block hc.hb
    have i0 := cell_of_one hcnt
    have i1 := free_of_one hcnt
    have HPLAN := Lib.hid (fun W => down_any (l + 1) k W)
    unfold DownRet at HPLAN
    simp only at HPLAN
    obtain ⟨L, hL⟩ : ∃ L, l + 1 = L := ⟨_, rfl⟩
    rw [hL] at HPLAN ⊢
    have HL1 := Lib.hid (startC (l := L) (k := k) hc hcnt)
    have HPARTS := Lib.hid (fun W => divide_any L k W (by omega) hk2)
    have HLM := Lib.hid (show (L : Int) - 1 = (l : Int) by omega)
    have HLL := Lib.hid hL
    have HSMB : Hid (smallB (L : Int) = true) := Lib.hid (by simp [smallB]; omega)
    clear hcnt hL
    by_cases ho : 2000 < n + 1
    · have HFE : Hid (bldC k L d n = .error 9) := Lib.hid (by rw [← HLL.out, bldC, if_pos (.inl ho)])
      have d1 : decide ((2000 : Int) < (n : Int) + 1) = true := decide_eq_true (by omega)
      go_enter Tryd.func61, Tryd.ntmps61
      go_upto_region 2 with fail
      generalize (((w.setCell ⟨bn, 0, none⟩ (.int .i64 ((n : Int) + 1))).alloc (.cells #[.int .i64 (L : Int), .int .i64 (k : Int)] 64)).alloc (.cells #[.int .i64 0, .slice none 0 0, .slice none 0 0] 38)) = W1 at *
      clear i0 i1
      have c0 := cell_of_one HL1.out.cnt
      go_upto_region 3 with fail
      have HLF := Lib.hid HL1.out.fl
      obtain ⟨r0, r1, r2⟩ := cell3 HLF.out.rbox
      have q0 := free3 HLF.out.rbox 0
      have q1 := free3 HLF.out.rbox 1
      have q2 := free3 HLF.out.rbox 2
      have qz := lt_of_block HLF.out.rbox
      go_wp2
      refine bodyPost_ret (v := .tuple #[.agg #[.int .i64 0, .slice none 0 0, .slice none 0 0], .int .i64 9]) (by simp [results, Tryd.results61, go_sem, r0, r1, r2]) rfl ?_
      rw [HFE.out]
      exact ⟨gthree HLF.out.grow (by omega) _ _ _, rfl⟩
    have d1 : decide ((2000 : Int) < (n : Int) + 1) = false := decide_eq_false (by omega)
    by_cases ho2 : 40 < d
    · have HFE : Hid (bldC k L d n = .error 9) := Lib.hid (by rw [← HLL.out, bldC, if_pos (.inr ho2)])
      have d2 : decide ((40 : Int) < (d : Int)) = true := decide_eq_true (by omega)
      go_enter Tryd.func61, Tryd.ntmps61
      go_upto_region 2 with fail
      generalize (((w.setCell ⟨bn, 0, none⟩ (.int .i64 ((n : Int) + 1))).alloc (.cells #[.int .i64 (L : Int), .int .i64 (k : Int)] 64)).alloc (.cells #[.int .i64 0, .slice none 0 0, .slice none 0 0] 38)) = W1 at *
      clear i0 i1
      have c0 := cell_of_one HL1.out.cnt
      go_upto_region 3 with fail
      have HLF := Lib.hid HL1.out.fl
      obtain ⟨r0, r1, r2⟩ := cell3 HLF.out.rbox
      have q0 := free3 HLF.out.rbox 0
      have q1 := free3 HLF.out.rbox 1
      have q2 := free3 HLF.out.rbox 2
      have qz := lt_of_block HLF.out.rbox
      go_wp2
      refine bodyPost_ret (v := .tuple #[.agg #[.int .i64 0, .slice none 0 0, .slice none 0 0], .int .i64 9]) (by simp [results, Tryd.results61, go_sem, r0, r1, r2]) rfl ?_
      rw [HFE.out]
      exact ⟨gthree HLF.out.grow (by omega) _ _ _, rfl⟩
    have d2 : decide ((40 : Int) < (d : Int)) = false := decide_eq_false (by omega)
    by_cases hk3 : 100 < k
    · have HFE : Hid (bldC k L d n = .error 9) := Lib.hid (by rw [← HLL.out, bldC, if_neg (by omega), if_pos hk3])
      go_enter Tryd.func61, Tryd.ntmps61
      go_upto_region 2 with fail
      generalize (((w.setCell ⟨bn, 0, none⟩ (.int .i64 ((n : Int) + 1))).alloc (.cells #[.int .i64 (L : Int), .int .i64 (k : Int)] 64)).alloc (.cells #[.int .i64 0, .slice none 0 0, .slice none 0 0] 38)) = W1 at *
      clear i0 i1
      have c0 := cell_of_one HL1.out.cnt
      obtain ⟨s0, s1⟩ := cell2c HL1.out.sbox
      have p0 := cell_of_one HL1.out.cap.hpl
      have pz := lt_of_block HL1.out.cap.hpl
      have sz := lt_of_block HL1.out.sbox
      go_wp2_with fail
      refine (HPLAN.out W1).mono ?_
      rintro e w2 ⟨hb2, hp2⟩
      have HL2 := Lib.hid (HL1.out.below hb2)
      obtain rfl := hp2
      have PB := Lib.hid (one_box w2 (.cells #[.int .i64 1, .int .i64 (L : Int), .slice none 0 0] 94))
      have HL3 := Lib.hid (HL2.out.below PB.out.1)
      clear hb2 s0 s1 p0 pz sz
      go_upto_region 14 with fail
      have P3 := Lib.hid PB.out.2
      clear PB HL2
      generalize w2.alloc (.cells #[.int .i64 1, .int .i64 (L : Int), .slice none 0 0] 94) = W3 at *
      obtain ⟨s0, s1⟩ := cell2c HL3.out.sbox
      have p0 := cell_of_one HL3.out.cap.hsp
      have pz := lt_of_block HL3.out.cap.hsp
      have sz := lt_of_block HL3.out.sbox
      obtain ⟨u0, u1, u2⟩ := cell3 P3.out
      have uz := lt_of_block P3.out
      have HPT := Lib.hid (HPARTS.out W3)
      go_wp2_with fail
      refine HPT.out.mono ?_
      rintro e w4 ⟨PA, pc, rfl, hpc, hprow, hb4⟩
      have HL4 := Lib.hid (HL3.out.below hb4)
      have P4 := Lib.hid ((hb4.block _ (lt_of_block P3.out)).trans P3.out)
      have TBO := Lib.hid (one_box w4 (.cells #[.int .i64 (L : Int), .slice none 0 0, .slice none 0 0] 38))
      have hln := HL4.out.lt
      have hl3 := lt_of_block HL3.out.rbox
      have hb4z := hb4.size
      have HL5 := Lib.hid (HL4.out.below TBO.out.1)
      have HR4 : Hid (RowS (fun g => w.heap.size < g ∧ g < w4.heap.size) (w4.alloc (.cells #[.int .i64 (L : Int), .slice none 0 0, .slice none 0 0] 38)) PA (cparts L k k)) := Lib.hid (hprow.stays (Stays.of_below TBO.out.1) (fun g h1 h2 => ⟨by omega, h2⟩))
      clear s0 s1 p0 pz sz u0 u1 u2 uz hb4 HPT hprow
      obtain ⟨u0, u1, u2⟩ := cell3 P4.out
      have uz := lt_of_block P4.out
      have P5 := Lib.hid ((TBO.out.1.block _ uz).trans P4.out)
      have k0 : ((k : Int) == 0) = false := by rw [beq_eq_false_iff_ne]; omega
      go_upto_region 19 with fail
      have HS0 : Hid (GSt 38 (some bn) w4.heap.size w (L : Int) [] (.slice none 0 0) [] (w4.alloc (.cells #[.int .i64 (L : Int), .slice none 0 0, .slice none 0 0] 38))) := Lib.hid (GSt.start TBO.out.2 HL5.out.grow (fun b h => by cases h; exact hln) (by omega))
      clear TBO HL4 HL3 P4 u0 u1 u2 uz
      generalize w4.alloc (.cells #[.int .i64 (L : Int), .slice none 0 0, .slice none 0 0] 38) = W5 at *
      generalize w4.heap.size = bx at *
      obtain ⟨u0, u1, u2⟩ := cell3 P5.out
      have uz := lt_of_block P5.out
      have HLF := Lib.hid HL5.out.fl
      have d3 : decide ((100 : Int) < (k : Int)) = true := decide_eq_true (by omega)
      go_upto_region 20 with fail
      obtain ⟨r0, r1, r2⟩ := cell3 HLF.out.rbox
      have q0 := free3 HLF.out.rbox 0
      have q1 := free3 HLF.out.rbox 1
      have q2 := free3 HLF.out.rbox 2
      have qz := lt_of_block HLF.out.rbox
      go_wp2
      refine bodyPost_ret (v := .tuple #[.agg #[.int .i64 0, .slice none 0 0, .slice none 0 0], .int .i64 9]) (by simp [results, Tryd.results61, go_sem, r0, r1, r2]) rfl ?_
      rw [HFE.out]
      exact ⟨gthree HLF.out.grow (by omega) _ _ _, rfl⟩
    obtain ⟨KF, HKF⟩ : ∃ KF, Hid (loopK (bldC k l (d + 1)) k [] (n + 1) = KF) := ⟨_, Lib.hid rfl⟩
    have HFE : Hid (bldC k L d n = endC (L : Int) KF) := Lib.hid (by rw [← HLL.out, bldC_step (by omega) hk3, HKF.out])
    obtain ⟨j0, ja, jb, jc, jd⟩ := info_parts info_own
    go_enter Tryd.func61, Tryd.ntmps61
    go_upto_region 2 with fail
    generalize (((w.setCell ⟨bn, 0, none⟩ (.int .i64 ((n : Int) + 1))).alloc (.cells #[.int .i64 (L : Int), .int .i64 (k : Int)] 64)).alloc (.cells #[.int .i64 0, .slice none 0 0, .slice none 0 0] 38)) = W1 at *
    clear i0 i1
    have c0 := cell_of_one HL1.out.cnt
    obtain ⟨s0, s1⟩ := cell2c HL1.out.sbox
    have p0 := cell_of_one HL1.out.cap.hpl
    have pz := lt_of_block HL1.out.cap.hpl
    have sz := lt_of_block HL1.out.sbox
    go_wp2_with fail
    refine (HPLAN.out W1).mono ?_
    rintro e w2 ⟨hb2, hp2⟩
    have HL2 := Lib.hid (HL1.out.below hb2)
    obtain rfl := hp2
    have PB := Lib.hid (one_box w2 (.cells #[.int .i64 1, .int .i64 (L : Int), .slice none 0 0] 94))
    have HL3 := Lib.hid (HL2.out.below PB.out.1)
    clear hb2 s0 s1 p0 pz sz
    go_upto_region 14 with fail
    have P3 := Lib.hid PB.out.2
    clear PB HL2
    generalize w2.alloc (.cells #[.int .i64 1, .int .i64 (L : Int), .slice none 0 0] 94) = W3 at *
    obtain ⟨s0, s1⟩ := cell2c HL3.out.sbox
    have p0 := cell_of_one HL3.out.cap.hsp
    have pz := lt_of_block HL3.out.cap.hsp
    have sz := lt_of_block HL3.out.sbox
    obtain ⟨u0, u1, u2⟩ := cell3 P3.out
    have uz := lt_of_block P3.out
    have HPT := Lib.hid (HPARTS.out W3)
    go_wp2_with fail
    refine HPT.out.mono ?_
    rintro e w4 ⟨PA, pc, rfl, hpc, hprow, hb4⟩
    have HL4 := Lib.hid (HL3.out.below hb4)
    have P4 := Lib.hid ((hb4.block _ (lt_of_block P3.out)).trans P3.out)
    have TBO := Lib.hid (one_box w4 (.cells #[.int .i64 (L : Int), .slice none 0 0, .slice none 0 0] 38))
    have hln := HL4.out.lt
    have hl3 := lt_of_block HL3.out.rbox
    have hb4z := hb4.size
    have HL5 := Lib.hid (HL4.out.below TBO.out.1)
    have HR4 : Hid (RowS (fun g => w.heap.size < g ∧ g < w4.heap.size) (w4.alloc (.cells #[.int .i64 (L : Int), .slice none 0 0, .slice none 0 0] 38)) PA (cparts L k k)) := Lib.hid (hprow.stays (Stays.of_below TBO.out.1) (fun g h1 h2 => ⟨by omega, h2⟩))
    clear s0 s1 p0 pz sz u0 u1 u2 uz hb4 HPT hprow
    obtain ⟨u0, u1, u2⟩ := cell3 P4.out
    have uz := lt_of_block P4.out
    have P5 := Lib.hid ((TBO.out.1.block _ uz).trans P4.out)
    have k0 : ((k : Int) == 0) = false := by rw [beq_eq_false_iff_ne]; omega
    go_upto_region 19 with fail
    have HS0 : Hid (GSt 38 (some bn) w4.heap.size w (L : Int) [] (.slice none 0 0) [] (w4.alloc (.cells #[.int .i64 (L : Int), .slice none 0 0, .slice none 0 0] 38))) := Lib.hid (GSt.start TBO.out.2 HL5.out.grow (fun b h => by cases h; exact hln) (by omega))
    clear TBO HL4 HL3 P4 u0 u1 u2 uz
    generalize w4.alloc (.cells #[.int .i64 (L : Int), .slice none 0 0, .slice none 0 0] 38) = W5 at *
    generalize w4.heap.size = bx at *
    obtain ⟨u0, u1, u2⟩ := cell3 P5.out
    have uz := lt_of_block P5.out
    have d3 : decide ((100 : Int) < (k : Int)) = false := decide_eq_false (by omega)
    have HSM := Lib.hid (fun W => psmall_q (L : Int) W)
    rw [HSMB.out] at HSM
    go_wp2_with fail
    refine (HSM.out _).mono ?_
    rintro e w6 ⟨rfl, hw6⟩
    have hw6 := hw6.symm
    subst hw6
    go_wp2_with fail
    clear u0 u1 u2 uz c0 d1 d2
    have HL5' := HL5
    have HKF' := HKF
    go_loopw [17, 18, 19, 80] (fun _ _ _ i wr => ∃ (m : Nat) (acc : List T) (v : Value) (ws : List Value), i = .int .i64 (acc.length : Int) ∧ acc.length ≤ k ∧ m ≤ 2000 ∧ Hid (loopK (bldC k l (d + 1)) (k - acc.length) acc m = KF) ∧ Hid (BC bn bpl bsp bb L k m w wr) ∧ Hid (RowS (fun g => w.heap.size < g ∧ g < bx) wr PA (cparts L k k)) ∧ Hid (GSt 38 (some bn) bx w (L : Int) acc v ws wr)) (fun _ _ _ i _ => k - (intOf i).toNat)
    case atStart => exact ⟨n + 1, [], .slice none 0 0, [], rfl, Nat.zero_le _, by omega, HKF, HL5, HR4, HS0⟩
    case round =>
      obtain ⟨m, acc, v, ws, rfl, hj, hm, HKI, HL, HR, HS⟩ := hrel
      clear HL5 HL5' HKF HKF' HR4 HS0 HL1 P5 HSM HPLAN HPARTS
      have hbxz := lt_of_block HS.out.box
      by_cases hlt : acc.length < k
      · have e1 : (acc.length : Int) < (k : Int) := by omega
        have e0 : (0 : Int) ≤ (acc.length : Int) := by omega
        have hkj : k - acc.length = (k - (acc.length + 1)) + 1 := by omega
        have HKJ := Lib.hid HKI.out
        rw [hkj] at HKJ
        unfold loopK at HKJ
        obtain ⟨gl, ol, rfl, hgS, hgl, hcr⟩ := HR.out (by intro h0; have := cparts_len L k k; rw [h0] at this; simp at this; omega)
        have y0 : wr.cell? ⟨gl, ol + acc.length * 2, none⟩ = some (.int .i64 (l : Int)) := by
          rw [hcr (acc.length * 2) (by rw [cparts_len]; omega), ← HLM.out]
          have h9 := flatMap_get cc_len (List.replicate k (((L : Int) - 1), (k : Int))) acc.length 0 (by simpa using hlt) (by decide)
          unfold cparts
          rw [Nat.add_zero] at h9
          rw [h9, List.getElem_replicate]
          rfl
        have y1 : wr.cell? ⟨gl, ol + acc.length * 2 + 1, none⟩ = some (.int .i64 (k : Int)) := by
          rw [show ol + acc.length * 2 + 1 = ol + (acc.length * 2 + 1) by omega, hcr (acc.length * 2 + 1) (by rw [cparts_len]; omega)]
          have h9 := flatMap_get cc_len (List.replicate k (((L : Int) - 1), (k : Int))) acc.length 1 (by simpa using hlt) (by decide)
          unfold cparts
          rw [h9, List.getElem_replicate]
          rfl
        have HX := Lib.hid (one_box wr (.cells #[.int .i64 (l : Int), .int .i64 (k : Int)] 64))
        clear hcr
        go_upto_region 24 with fail
        clear y0 y1
        have HLX := Lib.hid (HL.out.below HX.out.1)
        have HRX := Lib.hid (HR.out.stays (Stays.of_below HX.out.1) (fun _ h _ => h))
        have HSX := Lib.hid (HS.out.step (grown_of_below HX.out.1))
        have HXX := Lib.hid HX.out.2
        have hxz : wr.heap.size < (wr.alloc (.cells #[.int .i64 (l : Int), .int .i64 (k : Int)] 64)).heap.size := lt_of_block HX.out.2
        have HVB := Lib.hid (fun y (h : v.ownBlock = some y) => (HS.out.own.lt y h).2)
        clear HX
        generalize wr.alloc (.cells #[.int .i64 (l : Int), .int .i64 (k : Int)] 64) = X at *
        obtain ⟨c0, c1⟩ := cell2c HXX.out
        have f0 := cell_of_one HLX.out.cap.hb
        have fz := lt_of_block HLX.out.cap.hb
        unfold buildC at f0
        cases hb : bldC k l (d + 1) m with
        | error x =>
          have qx : (x != (0 : Int)) = true := by rw [bldC_err _ _ _ _ _ hb]; rfl
          rw [hb] at HKJ
          simp only at HKJ
          have HFE' : Hid (bldC k L d n = .error x) := Lib.hid (by rw [HFE.out, ← HKJ.out]; rfl)
          clear HFE
          have HFE := HFE'
          clear HFE'
          go_wp2_with fail
          refine (IH.out m (d + 1) bn bpl bsp bb X (by omega) hm HLX.out.cap HLX.out.cnt).mono ?_
          rw [hb]
          rintro e w4 ⟨hg4, rfl⟩
          have HLF0 : Hid (FL bn w w4) := Lib.hid (HLX.out.fl.step hg4)
          have HZ := Lib.hid (one_box w4 (.cells #[.int .i64 0, .slice none 0 0, .slice none 0 0] 38))
          clear c0 c1 f0 fz hb hg4
          go_upto_region 26 with fail
          have HLF : Hid (FL bn w (w4.alloc (.cells #[.int .i64 0, .slice none 0 0, .slice none 0 0] 38))) := Lib.hid (HLF0.out.step (grown_of_below (r := some bn) HZ.out.1))
          clear HLF0 HZ
          generalize w4.alloc (.cells #[.int .i64 0, .slice none 0 0, .slice none 0 0] 38) = W5 at *
          obtain ⟨r0, r1, r2⟩ := cell3 HLF.out.rbox
          have q0 := free3 HLF.out.rbox 0
          have q1 := free3 HLF.out.rbox 1
          have q2 := free3 HLF.out.rbox 2
          have qz := lt_of_block HLF.out.rbox
          go_wp2
          refine bodyPost_ret (v := .tuple #[.agg #[.int .i64 0, .slice none 0 0, .slice none 0 0], .int .i64 x]) (by simp [results, Tryd.results61, go_sem, r0, r1, r2]) rfl ?_
          rw [HFE.out]
          exact ⟨gthree HLF.out.grow (by omega) _ _ _, rfl⟩
        | ok p =>
          obtain ⟨t, m1⟩ := p
          have hm1 := bldC_count _ _ _ _ _ _ hb
          rw [hb] at HKJ
          simp only at HKJ
          go_wp2_with fail
          refine (IH.out m (d + 1) bn bpl bsp bb X (by omega) hm HLX.out.cap HLX.out.cnt).mono ?_
          rw [hb]
          rintro e w4 ⟨hg4, s4, A4, m4, c4, B4, k4, d4, rfl, hc4, hT4⟩
          have HL4 := Lib.hid (HLX.out.step hg4 hc4)
          have HR4 := Lib.hid (HRX.out.stays (S' := fun g => w.heap.size < g ∧ g < bx) (fun g h1 h2 => hg4.block g h2 (fun e => by have := HLX.out.lt; cases e; omega)) (fun _ h _ => h))
          have HS4 := Lib.hid (HSX.out.step hg4)
          have HT4 := Lib.hid hT4
          have hz4 := hg4.size
          clear hg4 hc4 hT4 HLX HRX HSX HXX c0 c1 f0 fz hb
          have HZ := Lib.hid ((Below.refl w4.heap.size w4).alloc (Nat.le_refl _) (.cells #[.int .i64 s4, .slice A4 m4 c4, .slice B4 k4 d4] 38))
          have HEL := Lib.hid (cell3 (heap_alloc_new w4 (.cells #[.int .i64 s4, .slice A4 m4 c4, .slice B4 k4 d4] 38)))
          have HZS : Hid ((w4.alloc (.cells #[.int .i64 s4, .slice A4 m4 c4, .slice B4 k4 d4] 38)).heap.size = w4.heap.size + 1) := Lib.hid (by simp)
          have HL6 := Lib.hid (HL4.out.below HZ.out)
          have HR6 := Lib.hid (HR4.out.stays (Stays.of_below HZ.out) (fun _ h _ => h))
          have HS6 := Lib.hid (HS4.out.step (grown_of_below HZ.out))
          have HT6 := Lib.hid (HT4.out.below HZ.out)
          obtain ⟨vA, vc, rfl, hvc⟩ := own_shape HS6.out.own
          obtain ⟨x0, x1, x2⟩ := cell3 HS4.out.box
          have xz := lt_of_block HS4.out.box
          go_upto_region 27 with fail
          clear x0 x1 x2 xz
          obtain ⟨e0', e1', e2'⟩ := HEL.out
          obtain ⟨b0', b1', b2'⟩ := cell3 HS6.out.box
          have bf := free3 HS6.out.box 1
          have bz := lt_of_block HS6.out.box
          have hz5 : w4.heap.size < (w4.alloc (.cells #[.int .i64 s4, .slice A4 m4 c4, .slice B4 k4 d4] 38)).heap.size := by rw [HZS.out]; omega
          have OWN := Lib.hid HS6.out.own
          clear HEL HZ HZS HL4 HR4 HS4 HT4
          generalize w4.alloc (.cells #[.int .i64 s4, .slice A4 m4 c4, .slice B4 k4 d4] 38) = Y at *
          go_wp2_with (at_builtin; refine wpList_append_lies _ rfl _ _ 36 rfl (bx + 1) 38 j0 _ 3 56 Tryd.underlying36 ja jb jc jd rfl (by omega) (.slice vA acc.length vc) acc.length ws rfl (OWN.out.alloc _) ⟨Y.heap.size, 0, none⟩ 1 1 [.int .i64 s4, .slice A4 m4 c4, .slice B4 k4 d4] rfl rfl (World.news_of_block (cs := #[.int .i64 s4, .slice A4 m4 c4, .slice B4 k4 d4]) (t := 38) (fr := (0, 0)) (heap_alloc_new Y _)) (by simp [Value.oneCell']) (by omega) (by unfold maxLen; omega) (by omega) (by simp; omega) (Y.heap.size + 1) (by simp) ?_)
          intro gq cq w6 hown6 hgrow6 hat6 _
          have HB6 := Lib.hid ((Below.refl Y.heap.size Y).alloc (Nat.le_refl _) (.cells #[.int .i64 s4, .slice A4 m4 c4, .slice B4 k4 d4] 38))
          have nb : ∀ b, b ≤ bx → some b ≠ (Value.slice vA acc.length vc).ownBlock := fun b hb e => by have := (OWN.out.lt b e.symm).1; omega
          have HP6 := Lib.hid (HS6.out.push HB6.out (HT6.out.below HB6.out) (B0 := X.heap.size) (by omega) (fun y h => Nat.lt_trans (HVB.out y h) hxz) (hat6.imp (fun h => h) (fun h => by rw [h]; simp)) hown6 hgrow6)
          have k6 := (hgrow6.block _ (by simp; omega) (nb bx (Nat.le_refl _))).trans ((heap_alloc_old Y _ bz).trans HS6.out.box)
          obtain ⟨g0, g1, g2⟩ := cell3 k6
          have gf1 := free3 k6 1
          have gz := lt_of_block k6
          have HL7 := Lib.hid ((HL6.out.below HB6.out).set (bx := bx) hgrow6 (by omega) nb (by omega) (by omega) (by omega) 1 (.slice (some ⟨gq, 0, none⟩) (acc.length + 1) cq))
          have HR7 := Lib.hid ((HR6.out.stays (Stays.of_below HB6.out) (fun _ h _ => h)).stays (S' := fun g => w.heap.size < g ∧ g < bx) (w' := w6.setCell ⟨bx, 1, none⟩ (.slice (some ⟨gq, 0, none⟩) (acc.length + 1) cq)) (fun g h1 h2 => (Below.heap_setCell _ _ _ _ (by show g ≠ bx; omega)).trans (hgrow6.block g h2 (nb g (by omega)))) (fun _ h _ => h))
          clear k6 hgrow6 hown6 hat6 b0' b1' b2' bf bz nb e0' e1' e2' OWN HB6 HS6 HT6 HL6 HR6 HVB
          go_wp2_with fail
          generalize w6.setCell ⟨bx, 1, none⟩ (.slice (some ⟨gq, 0, none⟩) (acc.length + 1) cq) = V1 at *
          clear g0 g1 g2 gf1 gz
          go_wp2
          go_roundw
          case rel => exact ⟨m1, acc ++ [t], _, _, by simp, by simp; omega, hm1, Lib.hid (by rw [List.length_append]; exact HKJ.out), HL7, HR7, HP6⟩
          case measure => simp [intOf]; omega
      · have hje : acc.length = k := by omega
        have HKJ := Lib.hid HKI.out
        rw [show k - acc.length = 0 by omega] at HKJ
        unfold loopK at HKJ
        have HFE' : Hid (bldC k L d n = .ok (.mk (L : Int) acc [], m)) := Lib.hid (by rw [HFE.out, ← HKJ.out]; rfl)
        have e1 : decide ((acc.length : Int) < (k : Int)) = false := decide_eq_false (by omega)
        have HSF := HS
        have HLF := HL
        obtain ⟨vA, vc, rfl, hvc⟩ := own_shape HSF.out.own
        obtain ⟨x0, x1, x2⟩ := cell3 HSF.out.box
        obtain ⟨r0, r1, r2⟩ := cell3 HLF.out.rbox
        have q0 := free3 HLF.out.rbox 0
        have q1 := free3 HLF.out.rbox 1
        have q2 := free3 HLF.out.rbox 2
        have qz := lt_of_block HLF.out.rbox
        have xz := lt_of_block HSF.out.box
        clear hje
        go_wp2
        refine bodyPost_ret (v := .tuple #[.agg #[.int .i64 (L : Int), .slice vA acc.length vc, .slice none 0 0], .int .i64 0]) (by simp [results, Tryd.results61, go_sem, r0, r1, r2]) rfl ?_
        rw [HFE'.out]
        refine ⟨gthree HLF.out.grow (by omega) _ _ _, _, _, _, _, _, _, _, rfl, (three_far _ _ _ _ _ _ (by have := HLF.out.lt; omega)).trans HLF.out.cnt, ?_⟩
        exact TreeIn.stays (fun g hg _ => three_far _ _ _ _ _ _ (by omega)) (fun g hg _ => by omega) _ _ (HSF.out.tree hvc)
end Go.Proofs.YtjjohllfidmkjaaDoor.PfW
