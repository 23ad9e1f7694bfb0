/- Walk: the shapes of a layer. Conditions: the drawing lies in memory, and what Flatten makes of its arcs is known. -/
import Derived.Test.YtnmmhcchpcbeeaaGreatOgS
import Derived.Test.YtnmmhcchpcbeeaaGreatOgP

namespace Go.Proofs.YtnmmhcchpcbeeaaGreat.GeW
open Go Go.RowKit Go.Proofs.YtnmmhcchpcbeeaaGreat.Mem Go.Proofs.YtnmmhcchpcbeeaaGreat.Ge
attribute [local go_sem ↓] Go.wp_at_zero Go.wp_at_succ
set_option maxRecDepth 100000 in
set_option maxHeartbeats 2000000 in
theorem dmeet_any (l m : List V) (A B : Option Addr) (c d : Nat) (w : World) (hr : Row w A (l.flatMap ptCells)) (hs : Row w B (m.flatMap ptCells)) (hl : 2 ≤ l.length ∧ l.length ≤ 200) (hm : 2 ≤ m.length ∧ m.length ≤ 200) :
    Calls Tryz.prog 53 #[.slice A l.length c, .slice B m.length d] w fun e w' => e = .returned (.bool (!apartB l m)) ∧ Below w.heap.size w w' := by
  have HEA := Lib.hid (edges_any l A c w hr hl.2 hl.1)
  have HEB := Lib.hid (fun W (hW : Below w.heap.size w W) => edges_any m B d W (hs.below hW) hm.2 hm.1)
  have HQ : Hid (apartB l m = (edgesN l l.length).all fun x => (edgesN m m.length).all fun y => decide (meetK x y = 0)) := Lib.hid (by unfold apartB; rw [edges_get hl.1, edges_get hm.1]; rfl)
  have hla := edgesN_len l l.length
  have hlb := edgesN_len m m.length
  have HLA := Lib.hid hla.symm
  have HLB := Lib.hid hlb.symm
  generalize apartB l m = ab at *
  generalize edgesN l l.length = ea at *
  generalize edgesN m m.length = eb at *
  have hl1 := hl.1
  have hm1 := hm.1
  have hl2 := hl.2
  have hm2 := hm.2
  clear hr hs hl hm HLA HLB
  generalize l.length = n at *
  generalize m.length = mn at *
  subst hla
  subst hlb
  go_enter Tryz.func53, Tryz.ntmps53
  go_wp2_with fail
  refine HEA.out.mono ?_
  rintro e w1 ⟨v, rfl, hown, hb1⟩
  obtain ⟨ga, ka, rfl, hca, hga, hgaw, hcell⟩ := own_get seg_len rfl hown (by omega)
  have HCga := Lib.hid hcell
  have HB1 := Lib.hid hb1
  clear hcell hown hb1 hga
  go_wp2
  go_loopw [6, 8, 12] (fun _ _ i wr => ∃ k : Nat, i = .int .i64 (k : Int) ∧ k ≤ ea.length ∧ Hid (ab = (ea.drop k).all fun x => eb.all fun y => decide (meetK x y = 0)) ∧ Hid (Below w1.heap.size w1 wr)) (fun _ _ i _ => ea.length - (intOf i).toNat)
  case atStart => exact ⟨0, rfl, Nat.zero_le _, HQ, Lib.hid (Below.refl _ _)⟩
  case round =>
    obtain ⟨k, rfl, hk, HD, HBA⟩ := hrel
    by_cases hltA : k < ea.length
    · have HD1 : Hid (ab = ((eb.all fun y => decide (meetK ea[k] y = 0)) && (ea.drop (k + 1)).all fun x => eb.all fun y => decide (meetK x y = 0))) := Lib.hid (by rw [HD.out, List.drop_eq_getElem_cons hltA, List.all_cons])
      have c0 := (HBA.out.cell (p := ⟨ga, k * 4 + 0, none⟩) hgaw).trans (HCga.out k hltA 0 (by decide))
      have c1 := (HBA.out.cell (p := ⟨ga, k * 4 + 1, none⟩) hgaw).trans (HCga.out k hltA 1 (by decide))
      have c2 := (HBA.out.cell (p := ⟨ga, k * 4 + 2, none⟩) hgaw).trans (HCga.out k hltA 2 (by decide))
      have c3 := (HBA.out.cell (p := ⟨ga, k * 4 + 3, none⟩) hgaw).trans (HCga.out k hltA 3 (by decide))
      generalize ea[k] = e at *
      obtain ⟨⟨ax, ay⟩, bx, b_y⟩ := e
      simp only [segCells, List.getElem?_cons_zero, List.getElem?_cons_succ, Nat.add_zero] at c0 c1 c2 c3
      have hk1 : (0 : Int) ≤ (k : Int) := by omega
      have HO := Lib.hid (one_vec wr (.cells #[.int .i64 ax, .int .i64 ay, .int .i64 bx, .int .i64 b_y] 74))
      have HBW := Lib.hid (HB1.out.trans ((HBA.out.trans (HO.out.1.mono HBA.out.size)).mono HB1.out.size))
      go_wp2_with fail
      clear c0 c1 c2 c3
      generalize wr.alloc (.cells #[.int .i64 ax, .int .i64 ay, .int .i64 bx, .int .i64 b_y] 74) = W at *
      refine (HEB.out _ HBW.out).mono ?_
      rintro e w2 ⟨v, rfl, hown, hb2⟩
      obtain ⟨gb, kb, rfl, hcb, hgb, hgbw, hcell⟩ := own_get seg_len rfl hown (by omega)
      have HCgb := Lib.hid hcell
      have HX2 := Lib.hid ((hb2.block _ (lt_of_block HO.out.2)).trans HO.out.2)
      have HBA2 := Lib.hid (HBA.out.trans ((HO.out.1.trans (hb2.mono HO.out.1.size)).mono HBA.out.size))
      clear hcell hown hb2 hgb HBW HO
      go_wp2
      go_loopw [8, 19] (fun _ i wr => ∃ j : Nat, i = .int .i64 (j : Int) ∧ j ≤ eb.length ∧ Hid ((eb.all fun y => decide (meetK ((ax, ay), bx, b_y) y = 0)) = ((eb.drop j).all fun y => decide (meetK ((ax, ay), bx, b_y) y = 0))) ∧ Hid (Below w2.heap.size w2 wr)) (fun _ i _ => eb.length - (intOf i).toNat)
      case atStart => exact ⟨0, rfl, Nat.zero_le _, Lib.hid rfl, Lib.hid (Below.refl _ _)⟩
      case round =>
        obtain ⟨j, rfl, hj, HDJ, HBB⟩ := hrel
        by_cases hltB : j < eb.length
        · have HD2 : Hid ((eb.all fun y => decide (meetK ((ax, ay), bx, b_y) y = 0)) = (decide (meetK ((ax, ay), bx, b_y) eb[j] = 0) && ((eb.drop (j + 1)).all fun y => decide (meetK ((ax, ay), bx, b_y) y = 0)))) := Lib.hid (by rw [HDJ.out, List.drop_eq_getElem_cons hltB, List.all_cons])
          have d0 := (HBB.out.cell (p := ⟨gb, j * 4 + 0, none⟩) hgbw).trans (HCgb.out j hltB 0 (by decide))
          have d1 := (HBB.out.cell (p := ⟨gb, j * 4 + 1, none⟩) hgbw).trans (HCgb.out j hltB 1 (by decide))
          have d2 := (HBB.out.cell (p := ⟨gb, j * 4 + 2, none⟩) hgbw).trans (HCgb.out j hltB 2 (by decide))
          have d3 := (HBB.out.cell (p := ⟨gb, j * 4 + 3, none⟩) hgbw).trans (HCgb.out j hltB 3 (by decide))
          generalize eb[j] = e at *
          obtain ⟨⟨cx, cy⟩, dx, dy⟩ := e
          simp only [segCells, List.getElem?_cons_zero, List.getElem?_cons_succ, Nat.add_zero] at d0 d1 d2 d3
          have hj1 : (0 : Int) ≤ (j : Int) := by omega
          have HME := Lib.hid (fun W => Meet_any ax ay bx b_y cx cy dx dy W)
          generalize meetK ((ax, ay), bx, b_y) ((cx, cy), dx, dy) = mk at *
          have HO2 := Lib.hid (one_vec wr (.cells #[.int .i64 cx, .int .i64 cy, .int .i64 dx, .int .i64 dy] 74))
          have HB2 := Lib.hid (HBB.out.trans (HO2.out.1.mono HBB.out.size))
          obtain ⟨x0, x1, x2, x3⟩ := quad_at HX2.out HB2.out
          go_wp2_with fail
          refine (HME.out _).mono ?_
          rintro e w3 ⟨rfl, hb3⟩
          have HB3 := Lib.hid (HB2.out.trans (hb3.mono HB2.out.size))
          clear d0 d1 d2 d3 x0 x1 x2 x3 hb3
          by_cases hmk : mk = 0
          · have m1 : (mk != 0) = false := bne_eq_false_iff_eq.2 hmk
            have HD3 : Hid ((eb.all fun y => decide (meetK ((ax, ay), bx, b_y) y = 0)) = ((eb.drop (j + 1)).all fun y => decide (meetK ((ax, ay), bx, b_y) y = 0))) := Lib.hid (by rw [HD2.out, hmk]; rfl)
            clear hmk
            go_wp2
            go_roundw
            case rel => exact ⟨j + 1, by go_num, by omega, HD3, HB3⟩
            case measure => simp [intOf]; omega
          · have m1 : (mk != 0) = true := bne_iff_ne.2 hmk
            have HF : Hid (ab = false) := Lib.hid (by rw [HD1.out, HD2.out, decide_eq_false hmk]; rfl)
            clear hmk
            go_wp2
            go_ret
            rw [HF.out]
            exact ⟨rfl, HB1.out.trans ((HBA2.out.trans (HB3.out.mono HBA2.out.size)).mono HB1.out.size)⟩
        · obtain rfl : j = eb.length := by omega
          have HD3 : Hid (ab = (ea.drop (k + 1)).all fun x => eb.all fun y => decide (meetK x y = 0)) := Lib.hid (by rw [HD1.out, HDJ.out, List.drop_length]; rfl)
          go_wp2
          go_roundw
          case rel => exact ⟨k + 1, by go_num, by omega, HD3, Lib.hid (HBA2.out.trans (HBB.out.mono HBA2.out.size))⟩
          case measure => simp [intOf]; omega
    · obtain rfl : k = ea.length := by omega
      have HF : Hid (ab = true) := Lib.hid (by rw [HD.out, List.drop_length]; rfl)
      go_wp2
      go_ret
      rw [HF.out]
      exact ⟨rfl, HB1.out.trans (HBA.out.mono HB1.out.size)⟩
end Go.Proofs.YtnmmhcchpcbeeaaGreat.GeW

namespace Go.Proofs.YtnmmhcchpcbeeaaGreat.GeW
open Go Go.RowKit Go.Proofs.YtnmmhcchpcbeeaaGreat.Mem Go.Proofs.YtnmmhcchpcbeeaaGreat.Ge
attribute [local go_sem ↓] Go.wp_at_zero Go.wp_at_succ
/-- A valid ring as it lies in memory. -/
def RgIn (w : World) (r : RowV) : Prop := Row w r.A (r.l.flatMap ptCells) ∧ ringB r.l = true ∧ r.l.length ≤ r.k
theorem RgIn.below {w w' : World} {r : RowV} (h : RgIn w r) (hb : Below w.heap.size w w') : RgIn w' r := ⟨h.1.below hb, h.2⟩
def meetR (r s : RowV) : Bool := !apartB r.l s.l
set_option maxRecDepth 100000 in
theorem meets1_any (r s : RowV) (b : Nat) (w : World) (hr : RgIn w r) (hs : RgIn w s) (hb : w.heap[b]? = some (.cells #[rowVal r] 26)) :
    Calls Tryz.prog 52 #[rowVal s, .pointer (some ⟨b, 0, none⟩)] w fun e w' => e = .returned (.bool (meetR r s)) ∧ Below w.heap.size w w' := by
  have n1 := ring_near hr.2.1
  have n2 := ring_near hs.2.1
  have HM := Lib.hid (dmeet_any r.l s.l r.A s.A r.k s.k w hr.1 hs.1 (by omega) (by omega))
  have c0 := cell_of hb 0 _ rfl
  unfold rowVal at c0 ⊢
  unfold meetR
  generalize (!apartB r.l s.l) = bb at *
  clear hr hs hb n1 n2
  go_enter Tryz.func52, Tryz.ntmps52
  go_wp2_with fail
  refine HM.out.mono ?_
  rintro e w2 ⟨rfl, hb2⟩
  go_wp2
  go_ret
  exact ⟨rfl, hb2⟩
set_option maxRecDepth 100000 in
set_option maxHeartbeats 1000000 in
theorem idxMeet_any (r : RowV) (ms : List RowV) (n : Nat) (A : Option Addr) (c b : Nat) (w : World) (hr : Row w A (ms.map rowVal)) (hpt : RgIn w r ∧ ∀ m ∈ ms, RgIn w m) (hb : w.heap[b]? = some (.cells #[rowVal r] 26)) (hl : ms.length ≤ 1000000) (hn : n = ms.length) :
    Calls Tryz.prog 111 #[.slice A n c, .func (.func 52) #[] #[.pointer (some ⟨b, 0, none⟩)]] w fun e w' => e = .returned (.int .i64 (idx (meetR r) ms 0)) ∧ Below w.heap.size w w' := by
  subst hn
  have HR := Lib.hid hr
  have HP := Lib.hid hpt
  have HBX := Lib.hid hb
  clear hr hpt hb
  have hst := Lib.hid (show idx (meetR r) ms 0 = idx (meetR r) (ms.drop 0) 0 by simp)
  go_enter Tryz.func111, Tryz.ntmps111
  go_wp2
  go_loopw [5, 8] (fun _ t wr => ∃ k : Nat, k ≤ ms.length ∧ t = .int .i64 k ∧ Hid (idx (meetR r) ms 0 = idx (meetR r) (ms.drop k) k) ∧ Below w.heap.size w wr) (fun _ t _ => ms.length - (intOf t).toNat)
  case atStart => exact ⟨0, Nat.zero_le _, rfl, hst, Below.refl _ _⟩
  case round =>
    obtain ⟨k, hk, rfl, hd, hbel⟩ := hrel
    by_cases hlt : k < ms.length
    · obtain ⟨g, off, rfl, hg, ca⟩ := row_one HR.out (k := k) (by simpa using hlt)
      have a0 := (hbel.cell (p := ⟨g, off + k, none⟩) hg).trans (ca k (by simpa using hlt))
      rw [List.getElem_map] at a0
      have hno := Lib.hid (idx_no (meetR r) ms k hlt)
      have hyes := Lib.hid (idx_yes (meetR r) ms k hlt)
      have HM := Lib.hid (meets1_any r ms[k] b wr (HP.out.1.below hbel) ((HP.out.2 _ (List.getElem_mem hlt)).below hbel) (p_below HBX.out hbel))
      have hk1 : (0 : Int) ≤ (k : Int) := by omega
      have hk2 : (k : Int) < (ms.length : Int) := by omega
      clear ca
      generalize ms[k] = m at *
      obtain ⟨mv, hmv⟩ : ∃ mv, rowVal m = mv := ⟨_, rfl⟩
      rw [hmv] at a0 HM
      clear hmv
      generalize meetR r m = bb at *
      cases bb
      · go_wp2_with fail
        refine HM.out.mono ?_
        rintro e w2 ⟨rfl, hb2⟩
        have HB2 := Lib.hid (hbel.trans (hb2.mono hbel.size))
        clear hb2
        go_wp2
        go_roundw
        case rel => exact ⟨k + 1, hlt, by go_num, Lib.hid (hd.out.trans (hno.out trivial)), HB2.out⟩
        case measure => simp [intOf]; omega
      · go_wp2_with fail
        refine HM.out.mono ?_
        rintro e w2 ⟨rfl, hb2⟩
        have HB2 := Lib.hid (hbel.trans (hb2.mono hbel.size))
        clear hb2
        go_wp2
        go_ret
        rw [hd.out, hyes.out trivial]
        exact ⟨rfl, HB2.out⟩
    · obtain rfl : k = ms.length := by omega
      go_wp2
      go_ret
      rw [hd.out, List.drop_length]
      exact ⟨rfl, hbel⟩
set_option maxRecDepth 100000 in
set_option maxHeartbeats 1000000 in
theorem anyMeet_any (r : RowV) (ms : List RowV) (n : Nat) (A : Option Addr) (c b : Nat) (w : World) (hr : Row w A (ms.map rowVal)) (hpt : RgIn w r ∧ ∀ m ∈ ms, RgIn w m) (hb : w.heap[b]? = some (.cells #[rowVal r] 26)) (hl : ms.length ≤ 1000000) (hn : n = ms.length) :
    Calls Tryz.prog 51 #[.slice A n c, .func (.func 52) #[] #[.pointer (some ⟨b, 0, none⟩)]] w fun e w' => e = .returned (.bool (ms.any (meetR r))) ∧ Below w.heap.size w w' := by
  have hi := Lib.hid (idxMeet_any r ms n A c b w hr hpt hb hl hn)
  have hq := Lib.hid (idx_ge (meetR r) ms 0)
  clear hr hpt hb hl hn
  generalize idx (meetR r) ms 0 = iv at *
  generalize ms.any (meetR r) = av at *
  go_enter Tryz.func51, Tryz.ntmps51
  go_wp2_with fail
  refine hi.out.mono ?_
  rintro e w1 ⟨rfl, hb1⟩
  go_wp2
  go_ret
  rw [hq.out]
  exact ⟨rfl, hb1⟩
theorem hd_get {l : List V} (h : 0 < l.length) : hd l = l[0] := by
  unfold hd
  cases l with
  | nil => exact absurd h (by decide)
  | cons p t => rfl
set_option maxRecDepth 100000 in
theorem in_any (r s : RowV) (w : World) (hr : RgIn w r) (hs : RgIn w s) :
    Calls Tryz.prog 54 #[rowVal r, rowVal s] w fun e w' => e = .returned (.bool (inB r.l s.l)) ∧ Below w.heap.size w w' := by
  have n1 := ring_near hr.2.1
  have h0 : 0 < r.l.length := by omega
  have hnr : within (hd r.l) 2000 = true := by
    rw [hd_get h0]
    exact List.all_eq_true.1 n1.1 _ (List.getElem_mem h0)
  obtain ⟨g, off, hA, hg, ca⟩ := row_get pt_len (by decide) hr.1 h0
  have HE : Hid (inB r.l s.l = (whereL (edges s.l) (hd r.l) false == 2)) := Lib.hid (by
    unfold inB whereB
    rw [within_more hnr (by omega), hs.2.1]
    rfl)
  have HW := Lib.hid (fun W (hW : Below w.heap.size w W) => where_any s.l (hd r.l).1 (hd r.l).2 s.A s.k W (hs.1.below hW) hs.2.1 hnr)
  have a0 := ca 0 h0 0 (by decide)
  have a1 := ca 0 h0 1 (by decide)
  rw [← hd_get h0] at a0 a1
  rw [HE.out]
  unfold rowVal
  rw [hA]
  clear ca HE hr hs hnr n1 hA
  generalize hd r.l = p at *
  obtain ⟨x, y⟩ := p
  simp only [ptCells, List.getElem?_cons_zero, List.getElem?_cons_succ, Nat.zero_mul, Nat.add_zero] at a0 a1 HW ⊢
  generalize whereL (edges s.l) (x, y) false = wv at *
  generalize r.l.length = n at *
  have d1 : (0 < n) = True := eq_true h0
  have HW1 := Lib.hid (HW.out w (Below.refl _ _))
  clear HW
  go_enter Tryz.func54, Tryz.ntmps54
  go_wp2_with fail
  refine HW1.out.mono ?_
  rintro e w2 ⟨rfl, hb2⟩
  go_wp2
  go_ret
  exact ⟨rfl, hb2⟩
end Go.Proofs.YtnmmhcchpcbeeaaGreat.GeW

namespace Go.Proofs.YtnmmhcchpcbeeaaGreat.GeW
open Go Go.RowKit Go.Proofs.YtnmmhcchpcbeeaaGreat.Mem Go.Proofs.YtnmmhcchpcbeeaaGreat.Ge
attribute [local go_sem ↓] Go.wp_at_zero Go.wp_at_succ
def shapeOf (m : ShapeM) : List V × List (List V) := (m.o.l, holesL m)
def ShapesOut (w : World) (v : Value) (ms : List ShapeM) : Prop := ∃ A c, v = .slice A ms.length c ∧ Row w A (ms.flatMap shapeC) ∧ (∀ m ∈ ms, ShapeIn w m) ∧ ms.length ≤ 1000000
structure ShapesPost (w : World) (rp : Int × List (List V)) (e : Ending) (w' : World) : Prop where
  ex : ∃ (v : Value) (er : Int) (ms : List ShapeM), e = .returned (.tuple #[v, .int .i64 er]) ∧ ShapesOut w' v ms ∧ (rp.1 ≠ 0 → er = rp.1 ∧ ms = []) ∧ (rp.1 = 0 → ShapesR rp.2 er (ms.map shapeOf))
  bel : Below w.heap.size w w'
theorem info_shape : (Tryz.prog.info? 29).map (fun i => (i.zero, i.size, i.bytes)) = some (some (.agg #[.slice none 0 0, .slice none 0 0]), 2, 48) := by kernel_rfl
theorem meets_eq (rs : List RowV) (k : Nat) (h : k < rs.length) : (rs.take k).any (meetR rs[k]) = meetsAt (rs.map RowV.l) k := by
  unfold meetsAt
  rw [getD_map _ _ h, ← List.map_take, List.any_map]
  rfl
theorem getD_ring (rs : List RowV) (k : Nat) (h : k < rs.length) : (rs.map RowV.l).getD k [] = rs[k].l := getD_map _ _ h
set_option maxRecDepth 100000 in
set_option maxHeartbeats 8000000 in
theorem shapes_any (l : List EntV) (A : Option Addr) (c : Nat) (w : World) (layer : List UInt8) (tol : Int) (fl : Ent → List V) (hr : Ents w A l)
    (hfl : ∀ x ∈ l, x.e.kind = 2 → x.e.layer = layer → 1 ≤ tol → tol ≤ 50 → entOk x.e = true → FlatAt x.e tol (fl x.e)) :
    Calls Tryz.prog 18 #[.slice A l.length c, .string ⟨layer.toArray⟩, .int .i64 tol] w fun e w' => ShapesPost w (ringsP fl (ents l) layer tol) e w' := by
  have HRG := Lib.hid (rings_any l A c w layer tol fl hr hfl)
  have HVB := Lib.hid (ringsP_valid fl (ents l) layer tol)
  have HFW := Lib.hid (ringsP_few fl (ents l) layer tol)
  clear hr hfl
  generalize ringsP fl (ents l) layer tol = rp at *
  obtain ⟨ec, ls⟩ := rp
  simp only at HRG HVB HFW
  generalize (ByteArray.mk layer.toArray) = L at *
  go_enter Tryz.func18, Tryz.ntmps18
  go_wp2_with fail
  refine HRG.out.mono ?_
  rintro e w1 ⟨⟨v, rfl, rs, hls, hown, hpt⟩, hb1⟩
  subst hls
  obtain ⟨rA, rc, rfl, hrc⟩ := own_shape hown
  have HB1 := Lib.hid hb1
  have HRW := Lib.hid (Row.of_own hown)
  have HRI : Hid (∀ r ∈ rs, RgIn w1 r) := Lib.hid (fun r hm => ⟨(hpt r hm).1.1, HVB.out _ (List.mem_map_of_mem hm), (hpt r hm).2⟩)
  have hn : rs.length ≤ 200 := by have := HFW.out; rwa [List.length_map] at this
  have hnl : (rs.map RowV.l).length = rs.length := List.length_map _
  clear hb1 hown hpt HRG HFW
  by_cases hec : ec = 0
  case neg =>
    have m1 : (ec != 0) = true := bne_iff_ne.2 hec
    go_wp2
    refine bodyPost_ret (v := .tuple #[.slice none 0 0, .int .i64 ec]) (by simp [results, Tryz.results18, go_sem]) rfl ?_
    exact ⟨⟨_, _, [], rfl, ⟨none, 0, rfl, Row.nil _ _, (fun m hm => by cases hm), Nat.zero_le _⟩, fun _ => ⟨rfl, rfl⟩, fun h => absurd h hec⟩, HB1.out⟩
  case pos =>
    subst hec
    go_wp2_with fail
    go_loopw [10, 11, 36] (fun _ _ i wr => ∃ k : Nat, i = .int .i64 (k : Int) ∧ k ≤ rs.length ∧ Hid (∀ j, j < k → meetsAt (rs.map RowV.l) j = false) ∧ Hid (Below w1.heap.size w1 wr)) (fun _ _ i _ => rs.length - (intOf i).toNat)
    case atStart => exact ⟨0, rfl, Nat.zero_le _, Lib.hid (fun j hj => absurd hj (Nat.not_lt_zero _)), Lib.hid (Below.refl _ _)⟩
    case round =>
      obtain ⟨k, rfl, hk, HNM, HB⟩ := hrel
      by_cases hlt : k < rs.length
      · obtain ⟨g, off, rfl, hg, ca⟩ := row_one HRW.out (k := k) (by simpa using hlt)
        have a0 := (HB.out.cell (p := ⟨g, off + k, none⟩) hg).trans (ca k (by simpa using hlt))
        rw [List.getElem_map] at a0
        have HME := Lib.hid (meets_eq rs k hlt)
        have HRP : Hid (Row w1 (some ⟨g, off, none⟩) ((rs.take k).map rowVal)) := Lib.hid (by
          have h1 := HRW.out
          rw [← List.take_append_drop k rs, List.map_append] at h1
          exact Row.head h1)
        have HRK := Lib.hid (HRI.out _ (List.getElem_mem hlt))
        have HBX := Lib.hid (bel1 wr (.cells #[rowVal rs[k]] 26))
        have HNW := Lib.hid (heap_new wr (.cells #[rowVal rs[k]] 26))
        have HBW := Lib.hid (HB.out.trans (HBX.out.mono HB.out.size))
        have HAM := Lib.hid (anyMeet_any rs[k] (rs.take k) k (some ⟨g, off, none⟩) rc wr.heap.size (wr.alloc (.cells #[rowVal rs[k]] 26)) (HRP.out.below HBW.out) ⟨HRK.out.below HBW.out, fun m hm => (HRI.out m (List.mem_of_mem_take hm)).below HBW.out⟩ HNW.out (by rw [List.length_take]; omega) (by rw [List.length_take]; omega))
        rw [HME.out] at HAM
        obtain ⟨bb, hbb⟩ : ∃ bb, meetsAt (rs.map RowV.l) k = bb := ⟨_, rfl⟩
        rw [hbb] at HAM
        have HMK := Lib.hid hbb
        have hk1 : (0 : Int) ≤ (k : Int) := by omega
        have hk2 : (k : Int) < (rs.length : Int) := by omega
        have hk3 : (k : Int) ≤ (rc : Int) := by omega
        clear ca HME HRP HRK HNW HBX hbb
        obtain ⟨vA, vn, vk, hrv⟩ : ∃ a n b, rowVal rs[k] = .slice a n b := ⟨_, _, _, rfl⟩
        rw [hrv] at a0 HBW HAM
        clear hrv
        go_upto_region 7 with fail
        clear a0
        generalize wr.alloc (.cells #[.slice vA vn vk] 26) = W at *
        go_wp2_with fail
        refine HAM.out.mono ?_
        rintro e w2 ⟨rfl, hb2⟩
        have HB2 := Lib.hid (HBW.out.trans (hb2.mono HBW.out.size))
        clear hb2 HAM
        cases bb
        · go_wp2
          go_roundw
          case rel => exact ⟨k + 1, by go_num, hlt, Lib.hid (fun j hj => by
            rcases Nat.lt_or_ge j k with h | h
            · exact HNM.out j h
            · rw [show j = k by omega]; exact HMK.out), HB2⟩
          case measure => simp [intOf]; omega
        · go_wp2
          refine bodyPost_ret (v := .tuple #[.slice none 0 0, .int .i64 12]) (by simp [results, Tryz.results18, go_sem]) rfl ?_
          exact ⟨⟨_, _, [], rfl, ⟨none, 0, rfl, Row.nil _ _, (fun m hm => by cases hm), Nat.zero_le _⟩, fun h => absurd rfl h, fun _ => shapesR_meet HVB.out (by rw [hnl]; exact hlt) HMK.out⟩, HB1.out.trans (HB2.out.mono HB1.out.size)⟩
      · obtain rfl : k = rs.length := by omega
        have hmk : ∀ W : World, (Instr.makeSlice 80 (.int .i64 (rs.length : Int)) (.int .i64 (rs.length : Int))).run Tryz.prog W = .ok (.slice (some ⟨W.heap.size, 0, none⟩) rs.length rs.length) (W.alloc (.cells (depthRow (rs.map RowV.l) rs.length 0 0).toArray 3)) := fun W => by
          obtain ⟨ii0, iia, iib, iic, iid⟩ := info_parts info_int
          have h := run_make (P := Tryz.prog) W 80 3 ii0 _ Tryz.underlying80 iia iib .i64 .i64 (rs.length : Int) (rs.length : Int) (by omega) (Int.le_refl _) (by rw [iid]; omega) (by omega)
          rw [h, iic, Nat.mul_one, Int.toNat_natCast, depthRow_zero]
          congr 3
          have h2 := toList_madeCells_one (.int .i64 0) rs.length
          have h3 : Value.cells (.int .i64 0) = #[.int .i64 0] := rfl
          rw [h3]
          exact Array.toList_inj.1 (by rw [h2])
        go_upto_region 12 with fail
        have HN0 := Lib.hid (heap_new wr (.cells (depthRow (rs.map RowV.l) rs.length 0 0).toArray 3))
        have HBA := Lib.hid (HB.out.trans ((bel1 wr (.cells (depthRow (rs.map RowV.l) rs.length 0 0).toArray 3)).mono HB.out.size))
        have hdb : w1.heap.size ≤ wr.heap.size := HB.out.size
        clear hmk
        generalize wr.alloc (.cells (depthRow (rs.map RowV.l) rs.length 0 0).toArray 3) = W2 at *
        generalize wr.heap.size = db at *
        have hd2 : db < W2.heap.size := blk_lt HN0.out
        have HBD : Hid (∀ W, Below db W2 W → Below w1.heap.size w1 W) := Lib.hid (fun W hW => HBA.out.trans (hW.mono hdb))
        go_wp2_with fail
        go_loopw [14, 15, 16, 17, 52] (fun _ _ _ _ i wr => ∃ k : Nat, i = .int .i64 (k : Int) ∧ k ≤ rs.length ∧ Hid (wr.heap[db]? = some (.cells (depthRow (rs.map RowV.l) rs.length k 0).toArray 3)) ∧ Hid (Below db W2 wr)) (fun _ _ _ _ i _ => rs.length - (intOf i).toNat)
        case atStart => exact ⟨0, rfl, Nat.zero_le _, HN0, Lib.hid (Below.refl _ _)⟩
        case round =>
          clear HB
          obtain ⟨k, rfl, hk, HD, HB⟩ := hrel
          by_cases hlt : k < rs.length
          · obtain ⟨g, off, rfl, hg, ca⟩ := row_one HRW.out (k := k) (by simpa using hlt)
            have a0 := ((HBD.out _ HB.out).cell (p := ⟨g, off + k, none⟩) hg).trans (ca k (by simpa using hlt))
            rw [List.getElem_map] at a0
            have HCA : Hid (∀ j (hj : j < rs.length), w1.cell? ⟨g, off + j, none⟩ = some (rowVal rs[j])) := Lib.hid (fun j hj => by
              have := ca j (by simpa using hj)
              rwa [List.getElem_map] at this)
            obtain ⟨vA, vn, vk, hrv⟩ : ∃ a n b, rowVal rs[k] = .slice a n b := ⟨_, _, _, rfl⟩
            have HRV := Lib.hid hrv
            rw [hrv] at a0
            have HKR := Lib.hid (HRI.out _ (List.getElem_mem hlt))
            have HGK := Lib.hid (getD_ring rs k hlt)
            have hk1 : (0 : Int) ≤ (k : Int) := by omega
            have hk2 : (k : Int) < (rs.length : Int) := by omega
            clear ca hrv
            go_wp2_with fail
            clear a0
            go_loopw [16, 17, 59] (fun _ _ j wr => ∃ q : Nat, j = .int .i64 (q : Int) ∧ q ≤ rs.length ∧ Hid (wr.heap[db]? = some (.cells (depthRow (rs.map RowV.l) rs.length k q).toArray 3)) ∧ Hid (Below db W2 wr)) (fun _ _ j _ => rs.length - (intOf j).toNat)
            case atStart => exact ⟨0, rfl, Nat.zero_le _, HD, HB⟩
            case round =>
              clear HD HB
              obtain ⟨q, rfl, hq, HD, HB⟩ := hrel
              by_cases hqlt : q < rs.length
              · have c0 := ((HBD.out _ HB.out).cell (p := ⟨g, off + q, none⟩) hg).trans (HCA.out q hqlt)
                have hq1 : (0 : Int) ≤ (q : Int) := by omega
                have hq2 : (q : Int) < (rs.length : Int) := by omega
                have HGQ := Lib.hid (getD_ring rs q hqlt)
                have HIN := Lib.hid (in_any rs[k] rs[q] wr (HKR.out.below (HBD.out _ HB.out)) ((HRI.out _ (List.getElem_mem hqlt)).below (HBD.out _ HB.out)))
                rw [← HGK.out, ← HGQ.out, HRV.out] at HIN
                have HSM := Lib.hid (depthRow_same (rs.map RowV.l) rs.length k q)
                have HST := Lib.hid (depthRow_set (rs.map RowV.l) rs.length k q)
                have HDG : Hid ((depthRow (rs.map RowV.l) rs.length k q).toArray[k]? = some (.int .i64 (depthAt (rs.map RowV.l) k q : Int))) := Lib.hid (by rw [depthRow_get _ _ _ _ _ hlt, depthN_at])
                have hdle := depthAt_le (rs.map RowV.l) k q
                obtain ⟨qA, qn, qk, hqv⟩ : ∃ a n b, rowVal rs[q] = .slice a n b := ⟨_, _, _, rfl⟩
                rw [hqv] at c0 HIN
                clear hqv
                by_cases hkq : k = q
                · subst hkq
                  have m0 : ((k : Int) != (k : Int)) = false := by simp
                  have HD2 : Hid (wr.heap[db]? = some (.cells (depthRow (rs.map RowV.l) rs.length k (k + 1)).toArray 3)) := Lib.hid (by rw [← HSM.out (by simp)]; exact HD.out)
                  clear HIN HST HDG
                  go_wp2_with fail
                  go_roundw
                  case rel => exact ⟨k + 1, by go_num, hqlt, HD2, HB⟩
                  case measure => simp [intOf]; omega
                · have m0 : ((k : Int) != (q : Int)) = true := bne_iff_ne.2 (by omega)
                  generalize inB ((rs.map RowV.l).getD k []) ((rs.map RowV.l).getD q []) = ib at *
                  go_wp2_with fail
                  refine HIN.out.mono ?_
                  rintro e w3 ⟨rfl, hb3⟩
                  have hdw : db < wr.heap.size := blk_lt HD.out
                  have HD3 := Lib.hid (p_below HD.out hb3)
                  have HB3 := Lib.hid (HB.out.trans (hb3.mono (by have := HB.out.size; omega)))
                  clear hb3 HIN c0
                  cases ib
                  · have HD2 : Hid (w3.heap[db]? = some (.cells (depthRow (rs.map RowV.l) rs.length k (q + 1)).toArray 3)) := Lib.hid (by rw [← HSM.out (by simp)]; exact HD3.out)
                    clear HST HDG
                    go_wp2_with fail
                    go_roundw
                    case rel => exact ⟨q + 1, by go_num, hqlt, HD2, HB3⟩
                    case measure => simp [intOf]; omega
                  · have x0 := cell_of HD3.out k _ HDG.out
                    have q0 := free_of HD3.out k
                    have HW2 : Hid ((w3.setCell ⟨db, k, none⟩ (.int .i64 ((depthAt (rs.map RowV.l) k q : Int) + 1))).heap[db]? = some (.cells (depthRow (rs.map RowV.l) rs.length k (q + 1)).toArray 3)) := Lib.hid (by
                      rw [← HST.out (by simp [hkq])]
                      exact block_set HD3.out k _)
                    have HB4 : Hid (Below db W2 (w3.setCell ⟨db, k, none⟩ (.int .i64 ((depthAt (rs.map RowV.l) k q : Int) + 1)))) := Lib.hid (HB3.out.setCell (p := ⟨db, k, none⟩) (Nat.le_refl _) _)
                    have wr1 : IntKind.i64.wrap ((depthAt (rs.map RowV.l) k q : Int) + 1) = (depthAt (rs.map RowV.l) k q : Int) + 1 := by rw [IntKind.wrap_i64]; omega
                    clear HDG HST HSM
                    generalize depthAt (rs.map RowV.l) k q = dv at *
                    go_wp2_with fail
                    go_roundw
                    case rel => exact ⟨q + 1, by go_num, hqlt, HW2, HB4⟩
                    case measure => simp [intOf]; omega
              · obtain rfl : q = rs.length := by omega
                have HD2 : Hid (wr.heap[db]? = some (.cells (depthRow (rs.map RowV.l) rs.length (k + 1) 0).toArray 3)) := Lib.hid (by rw [← depthRow_next]; exact HD.out)
                go_wp2_with fail
                go_roundw
                case rel => exact ⟨k + 1, by go_num, hlt, HD2, HB⟩
                case measure => simp [intOf]; omega
          · obtain rfl : k = rs.length := by omega
            have HEV : Hid (∀ j, j < rs.length → (depthRow (rs.map RowV.l) rs.length rs.length 0).toArray[j]? = some (.int .i64 (depthAt (rs.map RowV.l) j rs.length : Int))) := Lib.hid (fun j hj => by rw [depthRow_get _ _ _ _ _ hj, depthN_done _ hj])
            have hdl : db < wr.heap.size := blk_lt HD.out
            generalize (depthRow (rs.map RowV.l) rs.length rs.length 0).toArray = DA at *
            have HBW : Hid (∀ W, Below wr.heap.size wr W → Below w1.heap.size w1 W) := Lib.hid (fun W hW => HBD.out _ (HB.out.trans (hW.mono (by have := HB.out.size; omega))))
            have HDC : Hid (∀ W, Below wr.heap.size wr W → W.heap[db]? = some (.cells DA 3)) := Lib.hid (fun W hW => p_below HD.out hW)
            clear HB HD HBD HBA hdb
            have HRF := Lib.hid (Below.refl wr.heap.size wr)
            generalize wr = wb at *
            go_wp2_with fail
            go_loopw [18, 19, 20, 21, 22, 23, 83] (fun o _ _ _ _ _ i wr => ∃ (k : Nat) (ms : List ShapeM) (oA : Option Addr) (oc : Nat), o = .slice oA ms.length oc ∧ i = .int .i64 (k : Int) ∧ k ≤ rs.length ∧ Hid (ms.length ≤ k) ∧ Hid (ms.map shapeOf = doneAt (rs.map RowV.l) k) ∧ Hid (∀ j, j < k → evenAt (rs.map RowV.l) j = true → shapeB ((rs.map RowV.l).getD j []) (holesTo (rs.map RowV.l) j (rs.map RowV.l).length) = true) ∧ Hid (wr.ownsRow wb.heap.size 29 2 (.slice oA ms.length oc) ms.length (ms.flatMap shapeC)) ∧ Hid (∀ m ∈ ms, ShapeAt wr m) ∧ Hid (Below wb.heap.size wb wr)) (fun _ _ _ _ _ _ i _ => rs.length - (intOf i).toNat)
            case atStart => exact ⟨0, [], none, 0, rfl, rfl, Nat.zero_le _, Lib.hid (Nat.le_refl _), Lib.hid rfl, Lib.hid (fun j hj => absurd hj (Nat.not_lt_zero _)), Lib.hid (World.ownsRow_nil _ _ _ _), Lib.hid (fun m hm => by cases hm), HRF⟩
            case round =>
              obtain ⟨k, ms, oA, oc, rfl, rfl, hk, HML, HMS, HOKS, HOW, HMA, HB⟩ := hrel
              by_cases hlt : k < rs.length
              · obtain ⟨g, off, rfl, hg, ca⟩ := row_one HRW.out (k := k) (by simpa using hlt)
                have a0 := ((HBW.out _ HB.out).cell (p := ⟨g, off + k, none⟩) hg).trans (ca k (by simpa using hlt))
                rw [List.getElem_map] at a0
                have HCA : Hid (∀ j (hj : j < rs.length), w1.cell? ⟨g, off + j, none⟩ = some (rowVal rs[j])) := Lib.hid (fun j hj => by
                  have := ca j (by simpa using hj)
                  rwa [List.getElem_map] at this)
                have HKM := Lib.hid (List.getElem_mem hlt)
                have HGK := Lib.hid (getD_ring rs k hlt)
                have x0 := cell_of (HDC.out _ HB.out) k _ (HEV.out k hlt)
                have hdle := depthAt_le (rs.map RowV.l) k rs.length
                have hk1 : (0 : Int) ≤ (k : Int) := by omega
                have hk2 : (k : Int) < (rs.length : Int) := by omega
                have HEN : Hid (evenAt (rs.map RowV.l) k = decide (depthAt (rs.map RowV.l) k rs.length % 2 = 0)) := Lib.hid (by unfold evenAt; rw [hnl])
                have HHA : Hid (∀ q, holeAt (rs.map RowV.l) k q = (decide (depthAt (rs.map RowV.l) q rs.length = depthAt (rs.map RowV.l) k rs.length + 1) && inB ((rs.map RowV.l).getD q []) ((rs.map RowV.l).getD k []))) := Lib.hid (fun q => by unfold holeAt; rw [hnl])
                clear ca
                obtain ⟨r, hrr⟩ : ∃ r, rs[k] = r := ⟨_, rfl⟩
                rw [hrr] at a0 HKM HGK
                clear hrr
                obtain ⟨dk, hdk⟩ : ∃ dk, depthAt (rs.map RowV.l) k rs.length = dk := ⟨_, rfl⟩
                have HDK := Lib.hid hdk
                rw [hdk] at x0 HEN hdle
                simp only [hdk] at HHA
                clear hdk
                by_cases hev : dk % 2 = 0
                case neg =>
                  have m1 : (dk : Int) % 2 = 1 := by omega
                  have m2 : Int.tmod (dk : Int) 2 = 1 := by rw [Int.tmod_eq_emod_of_nonneg (by omega)]; exact m1
                  have HE0 : Hid (evenAt (rs.map RowV.l) k = false) := Lib.hid (by rw [HEN.out]; exact decide_eq_false hev)
                  unfold rowVal at a0
                  go_wp2_with fail
                  go_roundw
                  case rel => exact ⟨k + 1, ms, oA, oc, rfl, by go_num, hlt, Lib.hid (Nat.le_succ_of_le HML.out), Lib.hid (by rw [doneAt_odd _ _ HE0.out]; exact HMS.out), Lib.hid (fun j hj he => by
                    rcases Nat.lt_or_ge j k with h | h
                    · exact HOKS.out j h he
                    · rw [show j = k by omega, HE0.out] at he; cases he), HOW, HMA, HB⟩
                  case measure => simp [intOf]; omega
                case pos =>
                  have m1 : (dk : Int) % 2 = 0 := by omega
                  have m2 : Int.tmod (dk : Int) 2 = 0 := by rw [Int.tmod_eq_emod_of_nonneg (by omega)]; exact m1
                  have HE1 : Hid (evenAt (rs.map RowV.l) k = true) := Lib.hid (by rw [HEN.out]; exact decide_eq_true hev)
                  have HNS := Lib.hid (heap_new wr (.cells #[rowVal r, .slice none 0 0] 29))
                  have HBS := Lib.hid (bel1 wr (.cells #[rowVal r, .slice none 0 0] 29))
                  have HWD : Hid (∀ W, Below wr.heap.size (wr.alloc (.cells #[rowVal r, .slice none 0 0] 29)) W → Below wb.heap.size wb W ∧ Below wr.heap.size wr W) := Lib.hid (fun W hW => have h1 := HBS.out.trans hW; ⟨HB.out.trans (h1.mono HB.out.size), h1⟩)
                  clear HBS HEN
                  obtain ⟨vA, vn, vk, hrv⟩ : ∃ a n b, rowVal r = .slice a n b := ⟨_, _, _, rfl⟩
                  have HRV := Lib.hid hrv
                  rw [hrv] at a0 HNS HWD
                  clear hrv
                  go_wp2_with fail
                  clear a0 x0
                  generalize wr.alloc (.cells #[.slice vA vn vk, .slice none 0 0] 29) = W5 at *
                  generalize hsb : wr.heap.size = sb at *
                  have HSZ := Lib.hid hsb
                  clear hsb
                  have hs5 : sb < W5.heap.size := blk_lt HNS.out
                  go_loopw [22, 23, 98] (fun _ _ j wr => ∃ (q : Nat) (hs : List RowV) (hA : Option Addr) (hc : Nat), j = .int .i64 (q : Int) ∧ q ≤ rs.length ∧ Hid (hs.length ≤ q) ∧ Hid (hs.map RowV.l = holesTo (rs.map RowV.l) k q) ∧ Hid (∀ x ∈ hs, x ∈ rs) ∧ Hid (wr.heap[sb]? = some (.cells #[.slice vA vn vk, .slice hA hs.length hc] 29)) ∧ Hid (wr.ownsRow (sb + 1) 26 1 (.slice hA hs.length hc) hs.length (hs.map rowVal)) ∧ Hid (Below sb W5 wr)) (fun _ _ j _ => rs.length - (intOf j).toNat)
                  case atStart => exact ⟨0, [], none, 0, rfl, Nat.zero_le _, Lib.hid (Nat.le_refl _), Lib.hid rfl, Lib.hid (fun x hx => by cases hx), HNS, Lib.hid (World.ownsRow_nil _ _ _ _), Lib.hid (Below.refl _ _)⟩
                  case round =>
                    obtain ⟨q, hs, hA, hc, rfl, hq, HHL, HHM, HHR, HX, HHO, HBI⟩ := hrel
                    by_cases hqlt : q < rs.length
                    · have c0 := ((HBW.out _ (HWD.out _ HBI.out).1).cell (p := ⟨g, off + q, none⟩) hg).trans (HCA.out q hqlt)
                      have hq1 : (0 : Int) ≤ (q : Int) := by omega
                      have hq2 : (q : Int) < (rs.length : Int) := by omega
                      have HGQ := Lib.hid (getD_ring rs q hqlt)
                      have HIN : Hid (∀ W, Below wr.heap.size wr W → Calls Tryz.prog 54 #[rowVal rs[q], .slice vA vn vk] W fun e w' => e = .returned (.bool (inB ((rs.map RowV.l).getD q []) ((rs.map RowV.l).getD k []))) ∧ Below W.heap.size W w') := Lib.hid (fun W hW => by
                        have hb := (HBW.out _ (HWD.out _ HBI.out).1).trans (hW.mono (HBW.out _ (HWD.out _ HBI.out).1).size)
                        rw [HGK.out, HGQ.out, ← HRV.out]
                        exact in_any rs[q] r W ((HRI.out _ (List.getElem_mem hqlt)).below hb) ((HRI.out _ HKM.out).below hb))
                      have HQM := Lib.hid (List.getElem_mem hqlt)
                      have y0 := cell_of (HDC.out _ (HWD.out _ HBI.out).1) k _ (HEV.out k hlt)
                      have y1 := cell_of (HDC.out _ (HWD.out _ HBI.out).1) q _ (HEV.out q hqlt)
                      rw [HDK.out] at y0
                      have hdw : db < wr.heap.size := Nat.lt_of_lt_of_le hdl (HWD.out _ HBI.out).1.size
                      have hql := depthAt_le (rs.map RowV.l) q rs.length
                      have HHQ := Lib.hid (HHA.out q)
                      have HNO := Lib.hid (holesTo_no (rs.map RowV.l) k q)
                      have HYE := Lib.hid (holesTo_yes (rs.map RowV.l) k q)
                      rw [HGQ.out] at HYE
                      obtain ⟨m, hmm⟩ : ∃ m, rs[q] = m := ⟨_, rfl⟩
                      rw [hmm] at c0 HIN HQM HYE
                      clear hmm
                      generalize depthAt (rs.map RowV.l) q rs.length = dq at *
                      generalize inB ((rs.map RowV.l).getD q []) ((rs.map RowV.l).getD k []) = ib at *
                      have wr1 : IntKind.i64.wrap ((dk : Int) + 1) = (dk : Int) + 1 := by rw [IntKind.wrap_i64]; omega
                      have CS : Hid (∀ w', Below wr.heap.size wr w' → w'.cell? ⟨db, q, none⟩ = some (.int .i64 (dq : Int)) ∧ w'.cell? ⟨db, k, none⟩ = some (.int .i64 (dk : Int)) ∧ Below wr.heap.size wr w') := Lib.hid (fun w' hb => ⟨(hb.cell (p := ⟨db, q, none⟩) hdw).trans y1, (hb.cell (p := ⟨db, k, none⟩) hdw).trans y0, hb⟩)
                      obtain ⟨mA, mn, mk, hmv⟩ : ∃ a n b, rowVal m = .slice a n b := ⟨_, _, _, rfl⟩
                      have HMV := Lib.hid hmv
                      rw [hmv] at c0 HIN
                      clear hmv y0 y1
                      go_upto_region 31 with fail
                      clear c0
                      by_cases hdd : dq = dk + 1
                      case neg =>
                        have m3 : ((dq : Int) == (dk : Int) + 1) = false := beq_eq_false_iff_ne.2 (by omega)
                        have HNH : Hid (holeAt (rs.map RowV.l) k q = false) := Lib.hid (by rw [HHQ.out, decide_eq_false hdd]; rfl)
                        refine wp_region_held_drew (S := fun w' => w'.cell? ⟨db, q, none⟩ = some (.int .i64 (dq : Int)) ∧ w'.cell? ⟨db, k, none⟩ = some (.int .i64 (dk : Int)) ∧ Below wr.heap.size wr w') (by kernel_rfl) ?_ (fun hHeld => ?_)
                        · exact CS.out _ (below_drew (Below.refl _ _))
                        refine wpAnyH_take (i := 0) (oi := { dst := some 103, op := Op.move (Operand.tmp 13), type := 80, pos := "drawing.go:328", after := #[], guard := none }) (v := ?_) rfl (by kernel_rfl) (by kernel_rfl) (by kernel_rfl) (fun _ _ _ h => h) (Or.inl ⟨by rfl, ?_⟩) (by assumption) ?_
                        rotate_left
                        · intro w' hSw
                          (try dsimp only at hSw)
                          first | (go_simp; done) | (go_simp; with_reducible rfl)
                        try simp only [Act.put, List.setIfInBounds_toArray, List.set_cons_zero, List.set_cons_succ]
                        refine wpAnyH_take (i := 1) (oi := { dst := some 104, op := Op.move (Operand.tmp 22), type := 3, pos := "drawing.go:328", after := #[], guard := none }) (v := ?_) rfl (by kernel_rfl) (by kernel_rfl) (by kernel_rfl) (fun _ _ _ h => h) (Or.inl ⟨by rfl, ?_⟩) (by assumption) ?_
                        rotate_left
                        · intro w' hSw
                          (try dsimp only at hSw)
                          first | (go_simp; done) | (go_simp; with_reducible rfl)
                        try simp only [Act.put, List.setIfInBounds_toArray, List.set_cons_zero, List.set_cons_succ]
                        refine wpAnyH_take (i := 2) (oi := { dst := some 105, op := Op.indexAddr 80 (Operand.tmp 103) (Operand.tmp 104), type := 0, pos := "drawing.go:328", after := #[{ on := 0, ground := Ground.data }, { on := 1, ground := Ground.data }], guard := none }) (v := ?_) rfl (by kernel_rfl) (by kernel_rfl) (by kernel_rfl) (fun _ _ _ h => h) (Or.inl ⟨by rfl, ?_⟩) (by assumption) ?_
                        rotate_left
                        · intro w' hSw
                          (try dsimp only at hSw)
                          first | (go_simp; done) | (go_simp; with_reducible rfl)
                        try simp only [Act.put, List.setIfInBounds_toArray, List.set_cons_zero, List.set_cons_succ]
                        refine wpAnyH_take (i := 3) (oi := { dst := some 106, op := Op.load 3 (Operand.tmp 105), type := 3, pos := "drawing.go:328", after := #[{ on := 2, ground := Ground.data }], guard := none }) (v := ?_) rfl (by kernel_rfl) (by kernel_rfl) (by kernel_rfl) (fun _ _ _ h => h) (Or.inl ⟨by rfl, ?_⟩) (by assumption) ?_
                        rotate_left
                        · intro w' hSw
                          (try dsimp only at hSw)
                          first | (go_simp; done) | (go_simp; with_reducible rfl)
                        try simp only [Act.put, List.setIfInBounds_toArray, List.set_cons_zero, List.set_cons_succ]
                        refine wpAnyH_take (i := 4) (oi := { dst := some 107, op := Op.move (Operand.tmp 13), type := 80, pos := "drawing.go:328", after := #[], guard := none }) (v := ?_) rfl (by kernel_rfl) (by kernel_rfl) (by kernel_rfl) (fun _ _ _ h => h) (Or.inl ⟨by rfl, ?_⟩) (by assumption) ?_
                        rotate_left
                        · intro w' hSw
                          (try dsimp only at hSw)
                          first | (go_simp; done) | (go_simp; with_reducible rfl)
                        try simp only [Act.put, List.setIfInBounds_toArray, List.set_cons_zero, List.set_cons_succ]
                        refine wpAnyH_take (i := 5) (oi := { dst := some 108, op := Op.move (Operand.tmp 19), type := 3, pos := "drawing.go:328", after := #[], guard := none }) (v := ?_) rfl (by kernel_rfl) (by kernel_rfl) (by kernel_rfl) (fun _ _ _ h => h) (Or.inl ⟨by rfl, ?_⟩) (by assumption) ?_
                        rotate_left
                        · intro w' hSw
                          (try dsimp only at hSw)
                          first | (go_simp; done) | (go_simp; with_reducible rfl)
                        try simp only [Act.put, List.setIfInBounds_toArray, List.set_cons_zero, List.set_cons_succ]
                        refine wpAnyH_take (i := 6) (oi := { dst := some 109, op := Op.indexAddr 80 (Operand.tmp 107) (Operand.tmp 108), type := 0, pos := "drawing.go:328", after := #[{ on := 4, ground := Ground.data }, { on := 5, ground := Ground.data }], guard := none }) (v := ?_) rfl (by kernel_rfl) (by kernel_rfl) (by kernel_rfl) (fun _ _ _ h => h) (Or.inl ⟨by rfl, ?_⟩) (by assumption) ?_
                        rotate_left
                        · intro w' hSw
                          (try dsimp only at hSw)
                          first | (go_simp; done) | (go_simp; with_reducible rfl)
                        try simp only [Act.put, List.setIfInBounds_toArray, List.set_cons_zero, List.set_cons_succ]
                        refine wpAnyH_take (i := 7) (oi := { dst := some 110, op := Op.load 3 (Operand.tmp 109), type := 3, pos := "drawing.go:328", after := #[{ on := 6, ground := Ground.data }], guard := none }) (v := ?_) rfl (by kernel_rfl) (by kernel_rfl) (by kernel_rfl) (fun _ _ _ h => h) (Or.inl ⟨by rfl, ?_⟩) (by assumption) ?_
                        rotate_left
                        · intro w' hSw
                          (try dsimp only at hSw)
                          first | (go_simp; done) | (go_simp; with_reducible rfl)
                        try simp only [Act.put, List.setIfInBounds_toArray, List.set_cons_zero, List.set_cons_succ]
                        refine wpAnyH_take (i := 8) (oi := { dst := some 111, op := Op.binOp BinOp.add 3 (Operand.tmp 110) (Operand.const (Value.int IntKind.i64 1)) 3, type := 3, pos := "drawing.go:328", after := #[{ on := 7, ground := Ground.data }], guard := none }) (v := ?_) rfl (by kernel_rfl) (by kernel_rfl) (by kernel_rfl) (fun _ _ _ h => h) (Or.inl ⟨by rfl, ?_⟩) (by assumption) ?_
                        rotate_left
                        · intro w' hSw
                          (try dsimp only at hSw)
                          first | (go_simp; done) | (go_simp; with_reducible rfl)
                        try simp only [Act.put, List.setIfInBounds_toArray, List.set_cons_zero, List.set_cons_succ]
                        refine wpAnyH_take (i := 9) (oi := { dst := some 112, op := Op.binOp BinOp.eql 3 (Operand.tmp 106) (Operand.tmp 111) 3, type := 4, pos := "drawing.go:328", after := #[{ on := 3, ground := Ground.data }, { on := 8, ground := Ground.data }], guard := none }) (v := ?_) rfl (by kernel_rfl) (by kernel_rfl) (by kernel_rfl) (fun _ _ _ h => h) (Or.inl ⟨by rfl, ?_⟩) (by assumption) ?_
                        rotate_left
                        · intro w' hSw
                          (try dsimp only at hSw)
                          first | (go_simp; done) | (go_simp; with_reducible rfl)
                        try simp only [Act.put, List.setIfInBounds_toArray, List.set_cons_zero, List.set_cons_succ]
                        refine wpAnyH_take (i := 10) (oi := { dst := some 113, op := Op.move (Operand.tmp 112), type := 4, pos := "drawing.go:328", after := #[{ on := 9, ground := Ground.data }], guard := none }) (v := ?_) rfl (by kernel_rfl) (by kernel_rfl) (by kernel_rfl) (fun _ _ _ h => h) (Or.inl ⟨by rfl, ?_⟩) (by assumption) ?_
                        rotate_left
                        · intro w' hSw
                          (try dsimp only at hSw)
                          first | (go_simp; done) | (go_simp; with_reducible rfl)
                        try simp only [Act.put, List.setIfInBounds_toArray, List.set_cons_zero, List.set_cons_succ]
                        refine wpAnyH_take (i := 11) (oi := { dst := some 114, op := Op.move (Operand.tmp 12), type := 61, pos := "drawing.go:328", after := #[{ on := 10, ground := Ground.guard }], guard := some (10, true) }) (v := undef) rfl (by kernel_rfl) (by kernel_rfl) (by kernel_rfl) (fun _ _ _ h => h) (Or.inr ⟨by rfl, rfl⟩) (by assumption) ?_
                        try simp only [Act.put, List.setIfInBounds_toArray, List.set_cons_zero, List.set_cons_succ]
                        refine wpAnyH_take (i := 12) (oi := { dst := some 115, op := Op.move (Operand.tmp 23), type := 26, pos := "drawing.go:328", after := #[{ on := 10, ground := Ground.guard }], guard := some (10, true) }) (v := undef) rfl (by kernel_rfl) (by kernel_rfl) (by kernel_rfl) (fun _ _ _ h => h) (Or.inr ⟨by rfl, rfl⟩) (by assumption) ?_
                        try simp only [Act.put, List.setIfInBounds_toArray, List.set_cons_zero, List.set_cons_succ]
                        refine wpAnyH_take (i := 13) (oi := { dst := some 116, op := Op.move (Operand.tmp 20), type := 26, pos := "drawing.go:328", after := #[{ on := 10, ground := Ground.guard }], guard := some (10, true) }) (v := undef) rfl (by kernel_rfl) (by kernel_rfl) (by kernel_rfl) (fun _ _ _ h => h) (Or.inr ⟨by rfl, rfl⟩) (by assumption) ?_
                        try simp only [Act.put, List.setIfInBounds_toArray, List.set_cons_zero, List.set_cons_succ]
                        refine wpAnyH_take (i := 14) (oi := { dst := some 117, op := Op.call { callee := Callee.value (Operand.tmp 114), args := #[Operand.tmp 115, Operand.tmp 116], argTypes := #[26, 26] }, type := 4, pos := "drawing.go:328", after := #[{ on := 11, ground := Ground.data }, { on := 12, ground := Ground.data }, { on := 13, ground := Ground.data }, { on := 10, ground := Ground.chain }, { on := 10, ground := Ground.guard }], guard := some (10, true) }) (v := undef) rfl (by kernel_rfl) (by kernel_rfl) (by kernel_rfl) (fun _ _ _ h => h) (Or.inr ⟨by rfl, rfl⟩) (by assumption) ?_
                        try simp only [Act.put, List.setIfInBounds_toArray, List.set_cons_zero, List.set_cons_succ]
                        refine wpAnyH_take (i := 15) (oi := { dst := some 118, op := Op.pick (Operand.tmp 113) (Operand.tmp 117) (Operand.const (Value.bool false)), type := 4, pos := "drawing.go:328", after := #[{ on := 10, ground := Ground.data }, { on := 14, ground := Ground.data }], guard := none }) (v := ?_) rfl (by kernel_rfl) (by kernel_rfl) (by kernel_rfl) (fun _ _ _ h => h) (Or.inl ⟨by rfl, ?_⟩) (by assumption) ?_
                        rotate_left
                        · intro w' hSw
                          (try dsimp only at hSw)
                          first | (go_simp; done) | (go_simp; with_reducible rfl)
                        try simp only [Act.put, List.setIfInBounds_toArray, List.set_cons_zero, List.set_cons_succ]
                        refine wpAnyH_done (by kernel_rfl) ?_ _
                        obtain ⟨_, _, hb9⟩ := hHeld
                        have HX9 := Lib.hid (p_below HX.out hb9)
                        have HHO9 := Lib.hid (own_below HHO.out hb9)
                        have HB9 := Lib.hid (HBI.out.trans (hb9.mono (by have := HBI.out.size; omega)))
                        clear hb9
                        go_wp2_with fail
                        go_roundw
                        case rel => exact ⟨q + 1, hs, hA, hc, by go_num, hqlt, Lib.hid (Nat.le_succ_of_le HHL.out), Lib.hid (by rw [HNO.out HNH.out]; exact HHM.out), HHR, HX9, HHO9, HB9⟩
                        case measure => simp [intOf]; omega
                      case pos =>
                        have m3 : ((dq : Int) == (dk : Int) + 1) = true := beq_iff_eq.2 (by omega)
                        have HNH : Hid (holeAt (rs.map RowV.l) k q = ib) := Lib.hid (by rw [HHQ.out, decide_eq_true hdd]; rfl)
                        refine wp_region_held_drew (S := fun w' => w'.cell? ⟨db, q, none⟩ = some (.int .i64 (dq : Int)) ∧ w'.cell? ⟨db, k, none⟩ = some (.int .i64 (dk : Int)) ∧ Below wr.heap.size wr w') (by kernel_rfl) ?_ (fun hHeld => ?_)
                        · exact CS.out _ (below_drew (Below.refl _ _))
                        refine wpAnyH_take (i := 0) (oi := { dst := some 103, op := Op.move (Operand.tmp 13), type := 80, pos := "drawing.go:328", after := #[], guard := none }) (v := ?_) rfl (by kernel_rfl) (by kernel_rfl) (by kernel_rfl) (fun _ _ _ h => h) (Or.inl ⟨by rfl, ?_⟩) (by assumption) ?_
                        rotate_left
                        · intro w' hSw
                          (try dsimp only at hSw)
                          first | (go_simp; done) | (go_simp; with_reducible rfl)
                        try simp only [Act.put, List.setIfInBounds_toArray, List.set_cons_zero, List.set_cons_succ]
                        refine wpAnyH_take (i := 1) (oi := { dst := some 104, op := Op.move (Operand.tmp 22), type := 3, pos := "drawing.go:328", after := #[], guard := none }) (v := ?_) rfl (by kernel_rfl) (by kernel_rfl) (by kernel_rfl) (fun _ _ _ h => h) (Or.inl ⟨by rfl, ?_⟩) (by assumption) ?_
                        rotate_left
                        · intro w' hSw
                          (try dsimp only at hSw)
                          first | (go_simp; done) | (go_simp; with_reducible rfl)
                        try simp only [Act.put, List.setIfInBounds_toArray, List.set_cons_zero, List.set_cons_succ]
                        refine wpAnyH_take (i := 2) (oi := { dst := some 105, op := Op.indexAddr 80 (Operand.tmp 103) (Operand.tmp 104), type := 0, pos := "drawing.go:328", after := #[{ on := 0, ground := Ground.data }, { on := 1, ground := Ground.data }], guard := none }) (v := ?_) rfl (by kernel_rfl) (by kernel_rfl) (by kernel_rfl) (fun _ _ _ h => h) (Or.inl ⟨by rfl, ?_⟩) (by assumption) ?_
                        rotate_left
                        · intro w' hSw
                          (try dsimp only at hSw)
                          first | (go_simp; done) | (go_simp; with_reducible rfl)
                        try simp only [Act.put, List.setIfInBounds_toArray, List.set_cons_zero, List.set_cons_succ]
                        refine wpAnyH_take (i := 3) (oi := { dst := some 106, op := Op.load 3 (Operand.tmp 105), type := 3, pos := "drawing.go:328", after := #[{ on := 2, ground := Ground.data }], guard := none }) (v := ?_) rfl (by kernel_rfl) (by kernel_rfl) (by kernel_rfl) (fun _ _ _ h => h) (Or.inl ⟨by rfl, ?_⟩) (by assumption) ?_
                        rotate_left
                        · intro w' hSw
                          (try dsimp only at hSw)
                          first | (go_simp; done) | (go_simp; with_reducible rfl)
                        try simp only [Act.put, List.setIfInBounds_toArray, List.set_cons_zero, List.set_cons_succ]
                        refine wpAnyH_take (i := 4) (oi := { dst := some 107, op := Op.move (Operand.tmp 13), type := 80, pos := "drawing.go:328", after := #[], guard := none }) (v := ?_) rfl (by kernel_rfl) (by kernel_rfl) (by kernel_rfl) (fun _ _ _ h => h) (Or.inl ⟨by rfl, ?_⟩) (by assumption) ?_
                        rotate_left
                        · intro w' hSw
                          (try dsimp only at hSw)
                          first | (go_simp; done) | (go_simp; with_reducible rfl)
                        try simp only [Act.put, List.setIfInBounds_toArray, List.set_cons_zero, List.set_cons_succ]
                        refine wpAnyH_take (i := 5) (oi := { dst := some 108, op := Op.move (Operand.tmp 19), type := 3, pos := "drawing.go:328", after := #[], guard := none }) (v := ?_) rfl (by kernel_rfl) (by kernel_rfl) (by kernel_rfl) (fun _ _ _ h => h) (Or.inl ⟨by rfl, ?_⟩) (by assumption) ?_
                        rotate_left
                        · intro w' hSw
                          (try dsimp only at hSw)
                          first | (go_simp; done) | (go_simp; with_reducible rfl)
                        try simp only [Act.put, List.setIfInBounds_toArray, List.set_cons_zero, List.set_cons_succ]
                        refine wpAnyH_take (i := 6) (oi := { dst := some 109, op := Op.indexAddr 80 (Operand.tmp 107) (Operand.tmp 108), type := 0, pos := "drawing.go:328", after := #[{ on := 4, ground := Ground.data }, { on := 5, ground := Ground.data }], guard := none }) (v := ?_) rfl (by kernel_rfl) (by kernel_rfl) (by kernel_rfl) (fun _ _ _ h => h) (Or.inl ⟨by rfl, ?_⟩) (by assumption) ?_
                        rotate_left
                        · intro w' hSw
                          (try dsimp only at hSw)
                          first | (go_simp; done) | (go_simp; with_reducible rfl)
                        try simp only [Act.put, List.setIfInBounds_toArray, List.set_cons_zero, List.set_cons_succ]
                        refine wpAnyH_take (i := 7) (oi := { dst := some 110, op := Op.load 3 (Operand.tmp 109), type := 3, pos := "drawing.go:328", after := #[{ on := 6, ground := Ground.data }], guard := none }) (v := ?_) rfl (by kernel_rfl) (by kernel_rfl) (by kernel_rfl) (fun _ _ _ h => h) (Or.inl ⟨by rfl, ?_⟩) (by assumption) ?_
                        rotate_left
                        · intro w' hSw
                          (try dsimp only at hSw)
                          first | (go_simp; done) | (go_simp; with_reducible rfl)
                        try simp only [Act.put, List.setIfInBounds_toArray, List.set_cons_zero, List.set_cons_succ]
                        refine wpAnyH_take (i := 8) (oi := { dst := some 111, op := Op.binOp BinOp.add 3 (Operand.tmp 110) (Operand.const (Value.int IntKind.i64 1)) 3, type := 3, pos := "drawing.go:328", after := #[{ on := 7, ground := Ground.data }], guard := none }) (v := ?_) rfl (by kernel_rfl) (by kernel_rfl) (by kernel_rfl) (fun _ _ _ h => h) (Or.inl ⟨by rfl, ?_⟩) (by assumption) ?_
                        rotate_left
                        · intro w' hSw
                          (try dsimp only at hSw)
                          first | (go_simp; done) | (go_simp; with_reducible rfl)
                        try simp only [Act.put, List.setIfInBounds_toArray, List.set_cons_zero, List.set_cons_succ]
                        refine wpAnyH_take (i := 9) (oi := { dst := some 112, op := Op.binOp BinOp.eql 3 (Operand.tmp 106) (Operand.tmp 111) 3, type := 4, pos := "drawing.go:328", after := #[{ on := 3, ground := Ground.data }, { on := 8, ground := Ground.data }], guard := none }) (v := ?_) rfl (by kernel_rfl) (by kernel_rfl) (by kernel_rfl) (fun _ _ _ h => h) (Or.inl ⟨by rfl, ?_⟩) (by assumption) ?_
                        rotate_left
                        · intro w' hSw
                          (try dsimp only at hSw)
                          first | (go_simp; done) | (go_simp; with_reducible rfl)
                        try simp only [Act.put, List.setIfInBounds_toArray, List.set_cons_zero, List.set_cons_succ]
                        refine wpAnyH_take (i := 10) (oi := { dst := some 113, op := Op.move (Operand.tmp 112), type := 4, pos := "drawing.go:328", after := #[{ on := 9, ground := Ground.data }], guard := none }) (v := ?_) rfl (by kernel_rfl) (by kernel_rfl) (by kernel_rfl) (fun _ _ _ h => h) (Or.inl ⟨by rfl, ?_⟩) (by assumption) ?_
                        rotate_left
                        · intro w' hSw
                          (try dsimp only at hSw)
                          first | (go_simp; done) | (go_simp; with_reducible rfl)
                        try simp only [Act.put, List.setIfInBounds_toArray, List.set_cons_zero, List.set_cons_succ]
                        refine wpAnyH_take (i := 11) (oi := { dst := some 114, op := Op.move (Operand.tmp 12), type := 61, pos := "drawing.go:328", after := #[{ on := 10, ground := Ground.guard }], guard := some (10, true) }) (v := ?_) rfl (by kernel_rfl) (by kernel_rfl) (by kernel_rfl) (fun _ _ _ h => h) (Or.inl ⟨by rfl, ?_⟩) (by assumption) ?_
                        rotate_left
                        · intro w' hSw
                          (try dsimp only at hSw)
                          first | (go_simp; done) | (go_simp; with_reducible rfl)
                        try simp only [Act.put, List.setIfInBounds_toArray, List.set_cons_zero, List.set_cons_succ]
                        refine wpAnyH_take (i := 12) (oi := { dst := some 115, op := Op.move (Operand.tmp 23), type := 26, pos := "drawing.go:328", after := #[{ on := 10, ground := Ground.guard }], guard := some (10, true) }) (v := ?_) rfl (by kernel_rfl) (by kernel_rfl) (by kernel_rfl) (fun _ _ _ h => h) (Or.inl ⟨by rfl, ?_⟩) (by assumption) ?_
                        rotate_left
                        · intro w' hSw
                          (try dsimp only at hSw)
                          first | (go_simp; done) | (go_simp; with_reducible rfl)
                        try simp only [Act.put, List.setIfInBounds_toArray, List.set_cons_zero, List.set_cons_succ]
                        refine wpAnyH_take (i := 13) (oi := { dst := some 116, op := Op.move (Operand.tmp 20), type := 26, pos := "drawing.go:328", after := #[{ on := 10, ground := Ground.guard }], guard := some (10, true) }) (v := ?_) rfl (by kernel_rfl) (by kernel_rfl) (by kernel_rfl) (fun _ _ _ h => h) (Or.inl ⟨by rfl, ?_⟩) (by assumption) ?_
                        rotate_left
                        · intro w' hSw
                          (try dsimp only at hSw)
                          first | (go_simp; done) | (go_simp; with_reducible rfl)
                        try simp only [Act.put, List.setIfInBounds_toArray, List.set_cons_zero, List.set_cons_succ]
                        refine wpAnyH_ready (rs := [14]) (by kernel_rfl) (by simp) ?_
                        refine AllReadyH.cons (o := { dst := some 117, op := Op.call { callee := Callee.value (Operand.tmp 114), args := #[Operand.tmp 115, Operand.tmp 116], argTypes := #[26, 26] }, type := 4, pos := "drawing.go:328", after := #[{ on := 11, ground := Ground.data }, { on := 12, ground := Ground.data }, { on := 13, ground := Ground.data }, { on := 10, ground := Ground.chain }, { on := 10, ground := Ground.guard }], guard := some (10, true) }) rfl (fun K hK => ?_) AllReadyH.nil
                        go_simp
                        obtain ⟨_, _, hbx⟩ := ‹_ ∧ _ ∧ Below _ _ _›
                        refine ((HIN.out _ hbx)).mono ?_
                        rintro e w6 ⟨rfl, hb60⟩
                        have hb6 : Below wr.heap.size wr w6 := hbx.trans (hb60.mono (Below.size hbx))
                        refine hK.out _ _ ?_ (fun hHeld => ?_)
                        · exact CS.out _ hb6
                        clear hK K
                        try simp only [Act.put, List.setIfInBounds_toArray, List.set_cons_zero, List.set_cons_succ]
                        refine wpAnyH_take (i := 15) (oi := { dst := some 118, op := Op.pick (Operand.tmp 113) (Operand.tmp 117) (Operand.const (Value.bool false)), type := 4, pos := "drawing.go:328", after := #[{ on := 10, ground := Ground.data }, { on := 14, ground := Ground.data }], guard := none }) (v := ?_) rfl (by kernel_rfl) (by kernel_rfl) (by kernel_rfl) (fun _ _ _ h => h) (Or.inl ⟨by rfl, ?_⟩) (by assumption) ?_
                        rotate_left
                        · intro w' hSw
                          (try dsimp only at hSw)
                          first | (go_simp; done) | (go_simp; with_reducible rfl)
                        try simp only [Act.put, List.setIfInBounds_toArray, List.set_cons_zero, List.set_cons_succ]
                        refine wpAnyH_done (by kernel_rfl) ?_ _
                        obtain ⟨_, _, hb9⟩ := hHeld
                        generalize w6 = w9 at *
                        have HX9 := Lib.hid (p_below HX.out hb9)
                        have HHO9 := Lib.hid (own_below HHO.out hb9)
                        have HB9 := Lib.hid (HBI.out.trans (hb9.mono (by have := HBI.out.size; omega)))
                        clear hb9 hb6 hb60
                        cases ib
                        · go_wp2_with fail
                          go_roundw
                          case rel => exact ⟨q + 1, hs, hA, hc, by go_num, hqlt, Lib.hid (Nat.le_succ_of_le HHL.out), Lib.hid (by rw [HNO.out HNH.out]; exact HHM.out), HHR, HX9, HHO9, HB9⟩
                          case measure => simp [intOf]; omega
                        · have x1 := cell_of HX9.out 1 _ rfl
                          obtain ⟨ri0, ria, rib, ric, rid⟩ := info_parts info_ring
                          have HOA := Lib.hid (HHO9.out.alloc (.cells #[.slice mA mn mk] 26))
                          have HXA := Lib.hid (p_below HX9.out (bel1 w9 (.cells #[.slice mA mn mk] 26)))
                          have HBA := Lib.hid (HB9.out.trans ((bel1 w9 (.cells #[.slice mA mn mk] 26)).mono (by have := HB9.out.size; omega)))
                          have hhl := HHL.out
                          have C5 : Hid (sb + 1 ≤ (w9.alloc (.cells #[.slice mA mn mk] 26)).heap.size) := Lib.hid (blk_lt HXA.out)
                          have C1 : Hid (∀ u ∈ ([.slice mA mn mk] : List Value), u.oneCell' = true) := Lib.hid (by intro u hu; simp at hu; subst hu; rfl)
                          go_wp2_with (at_builtin; refine wpList_append_row _ rfl _ _ 27 rfl (sb + 1) 26 ri0 _ 1 24 Tryz.underlying27 ria rib ric rid rfl (by omega) _ _ _ rfl HOA.out (some ⟨w9.heap.size, 0, none⟩) 1 1 [.slice mA mn mk] rfl (newN_row w9 [.slice mA mn mk] 26) rfl C1.out (by unfold maxLen; omega) (by omega) C5.out ?_)
                          intro v7 w7 hown7 hg7
                          obtain ⟨B7, d7, rfl, _⟩ := own_shape hown7
                          have HX7 := Lib.hid (heap_keep hg7 (RowW.own HOA.out) (by decide) HXA.out)
                          have HB7 := Lib.hid (below_grown2 HBA.out hg7 (fun b hb => by have := (HOA.out.lt b hb).1; omega) (by have := HBA.out.size; omega))
                          have HO7 := Lib.hid hown7
                          clear hown7 hg7 x1 HOA HXA HBA
                          have x1 := cell_of HX7.out 1 _ rfl
                          have q1 := free_of HX7.out 1
                          have HG8 := Lib.hid (grown_set (grown_refl w7 (some sb)) 1 (.slice B7 (hs.length + 1) d7))
                          have HX8 : Hid ((w7.setCell ⟨sb, 1, none⟩ (.slice B7 (hs.length + 1) d7)).heap[sb]? = some (.cells #[.slice vA vn vk, .slice B7 (hs.length + 1) d7] 29)) := Lib.hid (by simpa using block_set HX7.out 1 (.slice B7 (hs.length + 1) d7))
                          have HO8 := Lib.hid (own_keep HG8.out (RowW.at HX7.out (Nat.zero_le _)) (by decide) HO7.out)
                          have HB8 : Hid (Below sb W5 (w7.setCell ⟨sb, 1, none⟩ (.slice B7 (hs.length + 1) d7))) := Lib.hid (HB7.out.setCell (p := ⟨sb, 1, none⟩) (Nat.le_refl _) _)
                          go_wp2_with fail
                          go_roundw
                          case rel => exact ⟨q + 1, hs ++ [m], B7, d7, by go_num, hqlt, Lib.hid (by rw [List.length_append]; exact Nat.succ_le_succ hhl), Lib.hid (by rw [HYE.out HNH.out, List.map_append, HHM.out]; rfl), Lib.hid (fun x hx => by
                            rcases List.mem_append.1 hx with hx | hx
                            · exact HHR.out x hx
                            · rw [List.mem_singleton.1 hx]; exact HQM.out), Lib.hid (by rw [List.length_append]; exact HX8.out), Lib.hid (by rw [List.length_append, List.map_append, List.map_singleton, HMV.out]; exact HO8.out), HB8⟩
                          case measure => simp [intOf]; omega

                    · obtain rfl : q = rs.length := by omega
                      have hbw := (HWD.out _ HBI.out).1
                      have hbq := (HWD.out _ HBI.out).2
                      rw [← HSZ.out] at hbq
                      have HSI : Hid (ShapeIn wr ⟨r, hs, hA, hc⟩) := Lib.hid (by
                        have hbi := HBW.out _ hbw
                        refine ⟨(HRI.out _ HKM.out).1.below hbi, Row.of_own HHO.out, fun x hx => (HRI.out _ (HHR.out x hx)).1.below hbi, ?_, fun x hx => ?_, ?_⟩
                        · show hs.length ≤ 1000
                          have := HHL.out
                          omega
                        · have hxr : x ∈ rs := by
                            rcases List.mem_cons.1 hx with rfl | hx
                            · exact HKM.out
                            · exact HHR.out x hx
                          have h1 := HRI.out _ hxr
                          exact ⟨by have := (ring_near h1.2.1).2.2; omega, h1.2.2⟩
                        · obtain ⟨_, _, he, hle⟩ := own_shape HHO.out
                          injection he with _ _ he
                          rw [he]
                          exact hle)
                      have HHS : Hid (holesL ⟨r, hs, hA, hc⟩ = holesTo (rs.map RowV.l) k (rs.map RowV.l).length) := Lib.hid (by unfold holesL; rw [hnl]; exact HHM.out)
                      have HVA := Lib.hid (fun W (hW : Below wr.heap.size wr W) => shapeOk_any ⟨r, hs, hA, hc⟩ W (HSI.out.below hW))
                      have HCN := Lib.hid (fun W (hW : Below wr.heap.size wr W) hv => canonS_any ⟨r, hs, hA, hc⟩ W (HSI.out.below hW) hv)
                      have x0 := cell_of HX.out 0 _ rfl
                      have x1 := cell_of HX.out 1 _ rfl
                      have HOI := Lib.hid (own_below HOW.out hbq)
                      have HMI : Hid (∀ m ∈ ms, ShapeAt wr m) := Lib.hid (fun m hm => (HMA.out m hm).below hbq)
                      have HBO := Lib.hid hbw
                      clear hbw hbq HOW HMA HB HSI
                      have HSV : Hid (shapeVals ⟨r, hs, hA, hc⟩ = #[.slice vA vn vk, .slice hA hs.length hc]) := Lib.hid (by unfold shapeVals; rw [HRV.out]; rfl)
                      rw [HSV.out] at HVA HCN
                      have HSB : Hid (shapeB r.l (holesL ⟨r, hs, hA, hc⟩) = shapeB ((rs.map RowV.l).getD k []) (holesTo (rs.map RowV.l) k (rs.map RowV.l).length)) := Lib.hid (by rw [HHS.out, HGK.out])
                      simp only at HVA HCN
                      rw [HSB.out] at HVA HCN
                      obtain ⟨ok, hok⟩ : ∃ ok, shapeB ((rs.map RowV.l).getD k []) (holesTo (rs.map RowV.l) k (rs.map RowV.l).length) = ok := ⟨_, rfl⟩
                      rw [hok] at HVA HCN
                      have HV1 := Lib.hid (HVA.out _ (Below.refl _ _))
                      clear HVA HSB HSV
                      go_wp2_with fail
                      refine HV1.out.mono ?_
                      rintro e w6 ⟨rfl, hb6⟩
                      have HX6 := Lib.hid (p_below HX.out hb6)
                      have HO6 := Lib.hid (own_below HOI.out hb6)
                      have HM6 : Hid (∀ m ∈ ms, ShapeAt w6 m) := Lib.hid (fun m hm => (HMI.out m hm).below hb6)
                      have HB6 := Lib.hid (HBO.out.trans (hb6.mono HBO.out.size))
                      clear x0 x1 HV1
                      cases ok
                      · go_wp2
                        refine bodyPost_ret (v := .tuple #[.slice none 0 0, .int .i64 11]) (by simp [results, Tryz.results18, go_sem]) rfl ?_
                        exact ⟨⟨_, _, [], rfl, ⟨none, 0, rfl, Row.nil _ _, (fun m hm => by cases hm), Nat.zero_le _⟩, fun h => absurd rfl h, fun _ => shapesR_bad HVB.out (by rw [hnl]; exact hlt) HE1.out hok (fun i hi => HNM.out i (by rw [← hnl]; exact hi))⟩, HB1.out.trans ((HBW.out _ HB6.out).mono HB1.out.size)⟩
                      · have HC1 := Lib.hid (HCN.out _ hb6 rfl)
                        clear HCN hb6
                        have x0 := cell_of HX6.out 0 _ rfl
                        have x1 := cell_of HX6.out 1 _ rfl
                        go_wp2_with fail
                        refine HC1.out.mono ?_
                        rintro e w7 ⟨⟨m', rfl, hat, ho', hh'⟩, hb7⟩
                        have HO7 := Lib.hid (own_below HO6.out hb7)
                        have HM7 : Hid (∀ m ∈ ms ++ [m'], ShapeAt w7 m) := Lib.hid (fun m hm => by
                          rcases List.mem_append.1 hm with hm | hm
                          · exact (HM6.out m hm).below hb7
                          · rw [List.mem_singleton.1 hm]; exact hat)
                        have HB7 := Lib.hid (HB6.out.trans (hb7.mono HB6.out.size))
                        have HSO : Hid (shapeOf m' = canonOf (rs.map RowV.l) ((rs.map RowV.l).getD k [])) := Lib.hid (by
                          unfold shapeOf canonOf
                          rw [ho', hh', HHS.out, ← holesTo_all HVB.out (by rw [hnl]; exact hlt), HGK.out])
                        have HMV : Hid (shapeVals m' = #[rowVal m'.o, holesVal m']) := Lib.hid rfl
                        rw [HMV.out]
                        clear hat ho' hh' hb7 x0 x1 HC1
                        obtain ⟨si0, sia, sib, sic, sid⟩ := info_parts info_shape
                        have HOA := Lib.hid (HO7.out.alloc (.cells #[rowVal m'.o, holesVal m'] 29))
                        have HBA := Lib.hid (HB7.out.trans ((bel1 w7 (.cells #[rowVal m'.o, holesVal m'] 29)).mono HB7.out.size))
                        have hml := HML.out
                        have C5 : Hid (wb.heap.size ≤ (w7.alloc (.cells #[rowVal m'.o, holesVal m'] 29)).heap.size) := Lib.hid HBA.out.size
                        have C1 : Hid (∀ u ∈ ([rowVal m'.o, holesVal m'] : List Value), u.oneCell' = true) := Lib.hid (by intro u hu; simp at hu; rcases hu with rfl | rfl <;> rfl)
                        have HMC : Hid (shapeC m' = [rowVal m'.o, holesVal m']) := Lib.hid rfl
                        obtain ⟨mA, mn, mk, hmv⟩ : ∃ a n b, rowVal m'.o = .slice a n b := ⟨_, _, _, rfl⟩
                        obtain ⟨nA, nn, nk, hnv⟩ : ∃ a n b, holesVal m' = .slice a n b := ⟨_, _, _, rfl⟩
                        rw [hmv, hnv] at HOA HBA C5 C1 HMC ⊢
                        clear hmv hnv
                        go_wp2_with (at_builtin; refine wpList_append_row _ rfl _ _ 22 rfl wb.heap.size 29 si0 _ 2 48 Tryz.underlying22 sia sib sic sid rfl (by omega) _ _ _ rfl HOA.out (some ⟨w7.heap.size, 0, none⟩) 1 1 [.slice mA mn mk, .slice nA nn nk] rfl (newN_row w7 [.slice mA mn mk, .slice nA nn nk] 29) rfl C1.out (by unfold maxLen; omega) (by omega) C5.out ?_)
                        intro v8 w8 hown8 hg8
                        obtain ⟨B8, d8, rfl, _⟩ := own_shape hown8
                        have hrw := (RowW.own HOA.out).mono (Nat.zero_le wb.heap.size)
                        have HM8 : Hid (∀ m ∈ ms ++ [m'], ShapeAt w8 m) := Lib.hid (fun m hm => ((HM7.out m hm).below (bel1 w7 _)).keep hg8 hrw (by decide) (by decide))
                        have HB8 := Lib.hid (below_grown2 HBA.out hg8 (fun b hb => (HOA.out.lt b hb).1) HBA.out.size)
                        have HO8 := Lib.hid hown8
                        clear hown8 hg8 hrw HOA HBA
                        go_wp2_with fail
                        go_roundw
                        case rel => exact ⟨k + 1, ms ++ [m'], B8, d8, by rw [List.length_append]; rfl, by go_num, hlt, Lib.hid (by rw [List.length_append]; exact Nat.succ_le_succ hml), Lib.hid (by rw [doneAt_even _ _ HE1.out, List.map_append, HMS.out, List.map_singleton, HSO.out]), Lib.hid (fun j hj he => by
                          rcases Nat.lt_or_ge j k with h | h
                          · exact HOKS.out j h he
                          · rw [show j = k by omega]; exact hok), Lib.hid (by rw [List.length_append, flatMap_snoc, HMC.out]; exact HO8.out), HM8, HB8⟩
                        case measure => simp [intOf]; omega

              · obtain rfl : k = rs.length := by omega
                have HSR := Lib.hid (sortShapes_own ms wr rfl HOW.out (by have := HML.out; omega) (fun m hm => ⟨?hlen, (HMA.out m hm).ro⟩))
                case hlen =>
                  have h1 : shapeOf m ∈ doneAt (rs.map RowV.l) rs.length := by rw [← HMS.out]; exact List.mem_map_of_mem hm
                  rw [← hnl, doneAt_all HVB.out] at h1
                  obtain ⟨r0, hr0, he0⟩ := List.mem_map.1 h1
                  have h2 : m.o.l = beginL r0 := (congrArg Prod.fst he0).symm
                  have h3 := (ring_near (HVB.out r0 (List.mem_filter.1 hr0).1)).2.1
                  rw [h2, begin_len]
                  omega
                go_wp2_with fail
                refine HSR.out.mono ?_
                rintro e w5 ⟨rfl, hg5, l', hp, ha, hrow⟩
                have HB5 := Lib.hid (below_grown2 HB.out hg5 (fun b hb => (HOW.out.lt b hb).1) HB.out.size)
                have hrw := (RowW.own HOW.out).mono (Nat.zero_le wb.heap.size)
                have HM5 : Hid (∀ m ∈ ms, ShapeAt w5 m) := Lib.hid (fun m hm => (HMA.out m hm).keep hg5 hrw (by decide) (by decide))
                have HRR := Lib.hid hrow
                have HPM := Lib.hid hp
                have HAS := Lib.hid ha
                clear hg5 hrw hrow hp ha HSR
                go_wp2
                refine bodyPost_ret (v := .tuple #[.slice oA ms.length oc, .int .i64 0]) (by simp [results, Tryz.results18, go_sem]) rfl ?_
                refine ⟨⟨_, _, l', rfl, ⟨oA, oc, by rw [HPM.out.length_eq], HRR.out, fun m hm => (HM5.out m (HPM.out.mem_iff.1 hm)).sin, by rw [HPM.out.length_eq]; have := HML.out; omega⟩, fun h => absurd rfl h, fun _ => ?_⟩, HB1.out.trans ((HBW.out _ HB5.out).mono HB1.out.size)⟩
                refine shapesR_ok HVB.out (fun i hi => HNM.out i (by rw [← hnl]; exact hi)) (fun i hi he => HOKS.out i (by rw [← hnl]; exact hi) he) ?_ ?_
                · have h1 := HPM.out.map shapeOf
                  rw [HMS.out] at h1
                  rw [hnl]
                  exact h1
                · unfold AscS
                  rw [List.pairwise_map]
                  exact HAS.out
end Go.Proofs.YtnmmhcchpcbeeaaGreat.GeW
