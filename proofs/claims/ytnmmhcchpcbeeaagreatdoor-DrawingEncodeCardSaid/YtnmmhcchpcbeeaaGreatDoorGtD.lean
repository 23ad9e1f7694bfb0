/- Walk: the program's Decode. Conditions: the text has at most a million bytes; the library's variables hold what a start lays. -/
import Derived.Test.YtnmmhcchpcbeeaaGreatDoorGtSe
import Derived.Test.YtnmmhcchpcbeeaaGreatDoorGtRf
import Derived.Deep.LoopGhost

namespace Go.Proofs.YtnmmhcchpcbeeaaGreatDoor.GtW
open Go Go.RowKit Go.Proofs.YtnmmhcchpcbeeaaGreatDoor.Mem Go.Proofs.YtnmmhcchpcbeeaaGreatDoor.Gt Go.Proofs.YtnmmhcchpcbeeaaGreatDoor.Ge
open Go.Proofs.YtnmmhcchpcbeeaaGreatDoor.GeW (EntV entVals PtsIn PtAt Tagged RowT RowW Ents own_keep own_tag ptCells isName2)
attribute [local go_sem ↓] Go.wp_at_zero Go.wp_at_succ
theorem lines_short (s : List UInt8) (hs : s.length ≤ 1000000) : ∀ x ∈ linesOf s, x.length ≤ 1000000 := fun x hx => Nat.le_trans (pieces_size s x ((List.dropLast_sublist _).subset hx)) hs
theorem lines_few (s : List UInt8) : (linesOf s).length ≤ s.length := by
 have := pieces_len s
 unfold linesOf
 rw [List.length_dropLast]
 omega
theorem Row.headR {w : World} {A : Option Addr} {xs ys : List Value} (h : Row w A (xs ++ ys)) : Row w A xs := GeW.Row.head h
theorem nx_good (L : List (List UInt8)) (good : List UInt8 → Bool) (s : Gt.S) : (nx L good s).2.bad = false → good (nx L good s).1 = true := fun h => by
 rcases nx_ways L good s with ⟨h1, e⟩ | ⟨_, _, e⟩ | ⟨_, _, _, e⟩ | ⟨_, _, hg, e⟩
 ·rw [e] at h; simp only at h; rw [h1] at h; cases h
 ·rw [e] at h; cases h
 ·rw [e] at h; cases h
 ·rw [e]; exact hg
theorem nx_some (L : List (List UInt8)) (good : List UInt8 → Bool) (s : Gt.S) {k : List UInt8} (hk : k ≠ []) : (nx L good s).1 = k → (nx L good s).2.bad = false := fun h => by
 rcases nx_ways L good s with ⟨h1, e⟩ | ⟨_, _, e⟩ | ⟨_, _, _, e⟩ | ⟨_, _, hg, e⟩
 ·rw [e] at h; exact absurd h.symm hk
 ·rw [e] at h; exact absurd h.symm hk
 ·rw [e] at h; exact absurd h.symm hk
 ·rw [e]
theorem info_ent : (Tryz.prog.info? 52).map (fun i => (i.zero, i.size, i.bytes)) = some (some (.agg #[.int .i64 0, .string ⟨#[]⟩, .int .i64 0, .int .i64 0, .int .i64 0, .int .i64 0, .int .i64 0, .int .i64 0, .int .i64 0, .int .i64 0, .int .i64 0, .int .i64 0, .bool false, .slice none 0 0]), 14, 136) := by kernel_rfl
set_option maxRecDepth 100000 in
set_option maxHeartbeats 8000000 in
theorem decode_any (s : List UInt8) (hs : s.length ≤ 1000000) (w : World) (hG : Glob w) :
  Calls Tryz.prog 7 #[.string ⟨s.toArray⟩] w fun e w' => ∃ (A : Option Addr) (d : Nat) (xs : List EntV), e = .returned (.tuple #[.slice A xs.length d, .int .i64 ((dec s).2.1 : Nat), .int .i64 (dec s).2.2]) ∧ xs.map EntV.e = (dec s).1 ∧ Ents w' A xs ∧ Below w.heap.size w w' := by
 obtain ⟨i0, ia, ib, ic, id⟩ := info_parts info_ent
 have hfew := lines_few s
 have HSH := Lib.hid (lines_short s hs)
 obtain ⟨LS, HLS⟩ : ∃ LS, Hid (linesOf s = LS) := ⟨_, Lib.hid rfl⟩
 obtain ⟨LP, HLP⟩ : ∃ LP, Hid (lastP s = LP) := ⟨_, Lib.hid rfl⟩
 obtain ⟨FIN, HFIN⟩ : ∃ FIN, Hid (ents LS 202 ⟨0, false⟩ [] = FIN) := ⟨_, Lib.hid rfl⟩
 obtain ⟨DEC, HDEC⟩ : ∃ DEC, Hid (dec s = DEC) := ⟨_, Lib.hid rfl⟩
 have HDE : Hid (DEC = if FIN.1.bad = true ∨ FIN.1.i < LS.length ∨ LP ≠ [] then ([], FIN.1.i, 4) else (FIN.2, 0, 0)) := Lib.hid (by rw [← HDEC.out, ← HFIN.out, ← HLS.out, ← HLP.out]; rfl)
 rw [HDEC.out]
 have HSP := Lib.hid (fun W hW => split_any s hs W hW)
 rw [HLS.out, HLP.out] at HSP
 rw [HLS.out] at hfew HSH
 have HFIN2 := HFIN
 clear HLS HLP HFIN HDEC
 have HG0 := hG.lt
 have hb1 := bel1 w (.cells #[.slice none 0 0] 23)
 have HSP1 := Lib.hid (HSP.out _ (hG.below hb1))
 have hzW1 : (w.alloc (.cells #[.slice none 0 0] 23)).heap.size = w.heap.size + 1 := by simp
 rw [hzW1] at HSP1
 clear HSP
 have hrow : Row ((w.alloc (.cells #[.slice none 0 0] 23)).alloc (.cells ((LS ++ [LP]).map strV).toArray 9)) (some ⟨w.heap.size + 1, 0, none⟩) ((LS ++ [LP]).map strV) := by
  have := GeW.newN_row (w.alloc (.cells #[.slice none 0 0] 23)) ((LS ++ [LP]).map strV) 9
  rw [hzW1] at this
  exact this
 have hb2 := bel1 (w.alloc (.cells #[.slice none 0 0] 23)) (.cells ((LS ++ [LP]).map strV).toArray 9)
 have hzW2 : ((w.alloc (.cells #[.slice none 0 0] 23)).alloc (.cells ((LS ++ [LP]).map strV).toArray 9)).heap.size = w.heap.size + 2 := by simp
 have hdc2 : ((w.alloc (.cells #[.slice none 0 0] 23)).alloc (.cells ((LS ++ [LP]).map strV).toArray 9)).heap[w.heap.size]? = some (.cells #[.slice none 0 0] 23 (0, 0)) := p_below (GeW.heap_alloc_new w _) hb2
 have hG2 := (hG.below hb1).below hb2
 have hbb2 : Below w.heap.size w ((w.alloc (.cells #[.slice none 0 0] 23)).alloc (.cells ((LS ++ [LP]).map strV).toArray 9)) := hb1.trans (hb2.mono (by simp))
 have HW2 : Hid (((w.alloc (.cells #[.slice none 0 0] 23)).alloc (.cells ((LS ++ [LP]).map strV).toArray 9)).heap.size = w.heap.size + 2 ∧ Row ((w.alloc (.cells #[.slice none 0 0] 23)).alloc (.cells ((LS ++ [LP]).map strV).toArray 9)) (some ⟨w.heap.size + 1, 0, none⟩) ((LS ++ [LP]).map strV) ∧ ((w.alloc (.cells #[.slice none 0 0] 23)).alloc (.cells ((LS ++ [LP]).map strV).toArray 9)).heap[w.heap.size]? = some (.cells #[.slice none 0 0] 23 (0, 0)) ∧ Glob ((w.alloc (.cells #[.slice none 0 0] 23)).alloc (.cells ((LS ++ [LP]).map strV).toArray 9)) ∧ Below w.heap.size w ((w.alloc (.cells #[.slice none 0 0] 23)).alloc (.cells ((LS ++ [LP]).map strV).toArray 9))) := Lib.hid ⟨hzW2, hrow, hdc2, hG2, hbb2⟩
 clear hzW2 hrow hdc2 hG2 hbb2 hb1 hb2 hG hzW1
 have hx0 : IntKind.i64.wrap ((LS.length : Int) + 1 - 1) = (LS.length : Int) := by rw [wrapEq]; unfold wrap64; omega
 go_enter Tryz.func7, Tryz.ntmps7
 go_wp2_with fail
 refine HSP1.out.mono ?_
 rintro e w2 ⟨rfl, hw2⟩
 rw [← hw2] at HW2
 clear hw2 HSP1
 obtain ⟨hz2, hrow2, hdc2, hG2, hbb2⟩ := HW2.out
 have HZ2 := Lib.hid hz2
 have HR2 := Lib.hid hrow2
 have HC2 := Lib.hid hdc2
 have HGB2 := Lib.hid hG2
 have HBB2 := Lib.hid hbb2
 clear hrow2 hdc2 hG2 hbb2 HW2
 go_wp2_with fail
 have ho3 : (w2.alloc (.cells #[.slice (some ⟨w.heap.size + 1, 0, none⟩) LS.length (LS.length + 1), .int .i64 0, .bool false] 61)).heap[w.heap.size + 2]? = some (sobj (some ⟨w.heap.size + 1, 0, none⟩) LS.length (LS.length + 1) ⟨0, false⟩) := by
  rw [← hz2]
  exact GeW.heap_alloc_new w2 _
 have hb3 := bel1 w2 (.cells #[.slice (some ⟨w.heap.size + 1, 0, none⟩) LS.length (LS.length + 1), .int .i64 0, .bool false] 61)
 have hz3 : (w2.alloc (.cells #[.slice (some ⟨w.heap.size + 1, 0, none⟩) LS.length (LS.length + 1), .int .i64 0, .bool false] 61)).heap.size = w.heap.size + 3 := by simp [hz2]
 have HR3 := Lib.hid (HR2.out.below hb3)
 have HC3 := Lib.hid (p_below HC2.out hb3)
 have HG3 := Lib.hid (HGB2.out.below hb3)
 have HB3 := Lib.hid (HBB2.out.trans (hb3.mono (by omega)))
 have HO3 := Lib.hid ho3
 clear ho3 hb3 HR2 HC2 HGB2 HBB2 HZ2 hz2
 generalize w2.alloc (.cells #[.slice (some ⟨w.heap.size + 1, 0, none⟩) LS.length (LS.length + 1), .int .i64 0, .bool false] 61) = W3 at *
 have HZ3 := Lib.hid hz3
 clear hz3
 have HS3 : Hid (Sc W3 (w.heap.size + 2) (some ⟨w.heap.size + 1, 0, none⟩) (LS.length + 1) LS ⟨0, false⟩) := Lib.hid ⟨HO3.out, Row.headR (by rw [← List.map_append]; exact HR3.out), (fun g off e => by cases e; omega), by omega, HSH.out, HG3.out, by omega⟩
 have HAP : Hid (Apart (some ⟨w.heap.size + 1, 0, none⟩) w.heap.size) := Lib.hid (fun g off e => by cases e; omega)
 have SCF : Hid (∀ wr st xs B d, DSt W3 wr (w.heap.size + 2) w.heap.size (some ⟨w.heap.size + 1, 0, none⟩) (LS.length + 1) LS st xs B d → Sc wr (w.heap.size + 2) (some ⟨w.heap.size + 1, 0, none⟩) (LS.length + 1) LS st) := Lib.hid (fun wr st xs B d h => HS3.out.of_fr h.fr HAP.out (by omega) h.scn)
 have LAST : Hid (∀ wr st xs B d, DSt W3 wr (w.heap.size + 2) w.heap.size (some ⟨w.heap.size + 1, 0, none⟩) (LS.length + 1) LS st xs B d → wr.cell? ⟨w.heap.size + 1, LS.length, none⟩ = some (strV LP)) := Lib.hid (fun wr st xs B d h => by
  have h1 := HZ3.out
  rw [World.cell?_of_block (a := ⟨w.heap.size + 1, LS.length, none⟩) (h.fr.block (w.heap.size + 1) (by omega) (by omega) (by omega))]
  obtain ⟨g, off, e, hg, hc⟩ := HR3.out (by simp)
  cases e
  have := hc LS.length (by simp)
  rw [Nat.zero_add] at this
  rw [this]
  simp)
 have ENDB : Hid (∀ wr st xs B d, DSt W3 wr (w.heap.size + 2) w.heap.size (some ⟨w.heap.size + 1, 0, none⟩) (LS.length + 1) LS st xs B d → Below w.heap.size w wr) := Lib.hid (fun wr st xs B d h => by
  have h1 := HZ3.out
  exact ⟨h.fr.os.trans HB3.out.os, h.fr.tape.trans HB3.out.tape, h.fr.output.trans HB3.out.output, Nat.le_trans HB3.out.size h.fr.size, fun i hi => (h.fr.block i (by omega) (by omega) (by omega)).trans (HB3.out.block i hi)⟩)
 have HD0 : Hid (DSt W3 W3 (w.heap.size + 2) w.heap.size (some ⟨w.heap.size + 1, 0, none⟩) (LS.length + 1) LS ⟨0, false⟩ [] none 0) := Lib.hid ⟨HO3.out, HC3.out, World.ownsRow_nil _ _ _ _, (fun x hx => by cases hx), Fr.refl _ _ _⟩
 have hsb : w.heap.size + 2 < W3.heap.size := by have := HZ3.out; omega
 have hdcl : w.heap.size < W3.heap.size := by omega
 have hsd : 7 ≤ w.heap.size := by omega
 clear HO3 HR3 HC3 HG3 HB3 HS3 HSH
 generalize hsbe : w.heap.size + 2 = sb at *
 generalize hae : w.heap.size + 1 = ab at *
 have HSBE := Lib.hid hsbe
 have HAE := Lib.hid hae
 clear hsbe hae
 go_loopg [7] 202 (fun f _ wr => ∃ (st : Gt.S) (xs : List EntV) (B : Option Addr) (d : Nat), Hid (ents LS f st (xs.map EntV.e) = FIN) ∧ 202 ≤ f + xs.length + (if st.bad = true then 1 else 0) ∧ xs.length ≤ 200 ∧ Hid (DSt W3 wr sb w.heap.size (some ⟨ab, 0, none⟩) (LS.length + 1) LS st xs B d))
 case atStart => exact ⟨⟨0, false⟩, [], none, 0, HFIN2, by simp, by simp, HD0⟩
 case round =>
  obtain ⟨st, xs, B, d, HFI, hfx, hx2, HD⟩ := hrel
  rcases gk with _ | f
  ·split at hfx <;> omega
  obtain ⟨c0, c1, c2, cf⟩ := scell HD.out.scn
  obtain ⟨si, se⟩ := st
  simp only at c1 c2
  cases se
  ·simp only [Bool.false_eq_true, if_false] at hfx
   have HC1 := Lib.hid (code_any LS (some ⟨ab, 0, none⟩) (LS.length + 1) sb ⟨si, false⟩ 0 wr (SCF.out _ _ _ _ _ HD.out) (by omega))
   go_wp2_with fail
   refine HC1.out.mono ?_
   rintro e w1 ⟨rfl, h1, g1⟩
   have HD1 := Lib.hid (HD.out.step h1.obj g1)
   clear h1 g1 c0 c1 c2 cf HC1
   have HN1 : Hid (ents LS (f + 1) ⟨si, false⟩ (xs.map EntV.e) = FIN) := HFI
   have hdc1 := cell_of HD1.out.res 0 _ rfl
   have HS1 := Lib.hid (SCF.out _ _ _ _ _ HD1.out)
   have HKN := Lib.hid (next_1 25 (Gt.kindOk xs.length) (enters_of Tryz.func25 (by kernel_rfl) rfl) w.heap.size LS (some ⟨ab, 0, none⟩) (LS.length + 1) sb (cd LS 0 ⟨si, false⟩) w1 (fun x _ n => kind1_any x xs.length d w.heap.size B _ hdc1) HS1.out.obj HS1.out.row HS1.out.apart HS1.out.few)
   rw [show nx LS (Gt.kindOk xs.length) (cd LS 0 ⟨si, false⟩) = rdName LS xs.length ⟨si, false⟩ from rfl] at HKN
   have HNI : Hid ((rdName LS xs.length ⟨si, false⟩).2.bad = false → Gt.kindOk xs.length (rdName LS xs.length ⟨si, false⟩).1 = true) := Lib.hid (nx_good LS (Gt.kindOk xs.length) (cd LS 0 ⟨si, false⟩))
   have HNB : Hid ((rdName LS xs.length ⟨si, false⟩).1 = kEof → (rdName LS xs.length ⟨si, false⟩).2.bad = false) := Lib.hid (nx_some LS (Gt.kindOk xs.length) (cd LS 0 ⟨si, false⟩) (by decide))
   have HST : Hid ((rdName LS xs.length ⟨si, false⟩).1 = kEof ∨ (rdName LS xs.length ⟨si, false⟩).2.bad = true → ((rdName LS xs.length ⟨si, false⟩).2, xs.map EntV.e) = FIN) := Lib.hid (fun h => by
    have := HFI.out
    rw [ents_stop f LS ⟨si, false⟩ _ rfl (by rw [List.length_map]; exact h), List.length_map] at this
    exact this)
   have HGO : Hid ((rdName LS xs.length ⟨si, false⟩).1 ≠ kEof → (rdName LS xs.length ⟨si, false⟩).2.bad = false → ents LS f (rdEnt LS (rdName LS xs.length ⟨si, false⟩).1 (rdName LS xs.length ⟨si, false⟩).2).2 (xs.map EntV.e ++ [(rdEnt LS (rdName LS xs.length ⟨si, false⟩).1 (rdName LS xs.length ⟨si, false⟩).2).1]) = FIN) := Lib.hid (fun h h2 => by
    have := HFI.out
    rw [ents_go f LS ⟨si, false⟩ _ rfl (by rw [List.length_map]; exact h) (by rw [List.length_map]; exact h2), List.length_map] at this
    exact this)
   clear HFI HN1
   generalize rdName LS xs.length ⟨si, false⟩ = nm at *
   obtain ⟨kk, s2⟩ := nm
   simp only at HKN HNI HNB HST HGO
   have HRD := Lib.hid (fun W l sq xb hkk hsc h3 n3 hap h7 => read_any LS (some ⟨ab, 0, none⟩) (LS.length + 1) sb sq kk l xb W hkk hsc h3 n3 hap h7)
   have HQK : Hid ((ByteArray.mk kk.toArray).toList = kk) := Lib.hid (by rw [Go.ByteArray.toList_eq])
   obtain ⟨XB, HXB⟩ : ∃ XB, Hid (ByteArray.mk kk.toArray = XB) := ⟨_, Lib.hid rfl⟩
   rw [HXB.out] at HKN HRD HQK
   go_wp2_with fail
   refine HKN.out.mono ?_
   rintro e w2 ⟨rfl, h2, g2⟩
   have HD2 := Lib.hid (HD1.out.step h2 g2)
   clear h2 g2 hdc1 HS1 HKN
   obtain ⟨si2, se2⟩ := s2
   by_cases hk : kk = kEof
   ·have HFE := Lib.hid (HST.out (.inl hk))
    have hse := HNB.out hk
    simp only at hse
    subst hse
    subst hk
    clear HNI HNB HST HGO
    obtain ⟨c0, c1, c2, cf⟩ := scell HD2.out.scn
    simp only at c1 c2
    have hk2 : (XB.toList = [69, 79, 70]) = True := eq_true (by rw [HQK.out]; rfl)
    have hk3 : (XB.toList == [69, 79, 70]) = true := by rw [HQK.out]; rfl
    go_wp2_with fail
    have hdc := cell_of HD2.out.res 0 _ rfl
    have hdf := free_of HD2.out.res 0
    have HNE : Hid (sb ≠ w.heap.size) := Lib.hid (Ne.symm HD2.out.ne)
    have hl0 : (0 : Int) ≤ (LS.length : Int) := by omega
    have hx1 : (LS.length : Int) < (LS.length : Int) + 1 := by omega
    by_cases hsi : si2 < LS.length
    ·have HX : Hid (DEC = ([], si2, 4)) := Lib.hid (by rw [HDE.out, ← HFE.out, if_pos (.inr (.inl hsi))])
     have d1 : decide ((si2 : Int) < (LS.length : Int)) = true := decide_eq_true (by omega)
     have d2 : decide (si2 < LS.length) = true := decide_eq_true hsi
     go_quiet (fail)
     go_wp2_with fail
     have e1 := c1
     refine wp_region_held_drew (S := fun w' => w'.cell? ⟨sb, 1, none⟩ = some (.int .i64 (si2 : Int))) (by kernel_rfl) ?_ (fun hHeld => ?_)
     ·exact e1
     refine wpAnyH_take (i := 0) (oi := { dst := some 71, op := Op.move (Operand.tmp 6), type := 59, pos := "drawing.go:193", after := #[], guard := none }) (v := ?_) rfl (by kernel_rfl) (by kernel_rfl) (by kernel_rfl) (fun _ _ _ h => h) (Or.inl ⟨by rfl, ?_⟩) (by assumption) ?_
     rotate_left
     ·intro w' hSw
      (try dsimp only at hSw)
      first | (go_simp; done) | (go_simp; with_reducible rfl)
     try simp only [Act.put, List.setIfInBounds_toArray, List.set_cons_zero, List.set_cons_succ]
     refine wpAnyH_take (i := 1) (oi := { dst := some 72, op := Op.nilCheck (Operand.tmp 71), type := 0, pos := "drawing.go:193", after := #[{ on := 0, ground := Ground.data }], guard := none }) (v := ?_) rfl (by kernel_rfl) (by kernel_rfl) (by kernel_rfl) (fun _ _ _ h => h) (Or.inl ⟨by rfl, ?_⟩) (by assumption) ?_
     rotate_left
     ·intro w' hSw
      (try dsimp only at hSw)
      first | (go_simp; done) | (go_simp; with_reducible rfl)
     try simp only [Act.put, List.setIfInBounds_toArray, List.set_cons_zero, List.set_cons_succ]
     refine wpAnyH_take (i := 2) (oi := { dst := some 73, op := Op.fieldAddr 61 (Operand.tmp 72) 1, type := 0, pos := "drawing.go:193", after := #[{ on := 1, ground := Ground.data }], guard := none }) (v := ?_) rfl (by kernel_rfl) (by kernel_rfl) (by kernel_rfl) (fun _ _ _ h => h) (Or.inl ⟨by rfl, ?_⟩) (by assumption) ?_
     rotate_left
     ·intro w' hSw
      (try dsimp only at hSw)
      first | (go_simp; done) | (go_simp; with_reducible rfl)
     try simp only [Act.put, List.setIfInBounds_toArray, List.set_cons_zero, List.set_cons_succ]
     refine wpAnyH_take (i := 3) (oi := { dst := some 74, op := Op.load 3 (Operand.tmp 73), type := 3, pos := "drawing.go:193", after := #[{ on := 2, ground := Ground.data }], guard := none }) (v := ?_) rfl (by kernel_rfl) (by kernel_rfl) (by kernel_rfl) (fun _ _ _ h => h) (Or.inl ⟨by rfl, ?_⟩) (by assumption) ?_
     rotate_left
     ·intro w' hSw
      (try dsimp only at hSw)
      first | (go_simp; done) | (go_simp; with_reducible rfl)
     try simp only [Act.put, List.setIfInBounds_toArray, List.set_cons_zero, List.set_cons_succ]
     refine wpAnyH_ready (rs := [4]) (by kernel_rfl) (by simp) ?_
     refine AllReadyH.cons (o := { dst := none, op := Op.store 23 (Operand.tmp 2) (Operand.const (Value.slice none 0 0)), type := 0, pos := "drawing.go:193", after := #[{ on := 0, ground := Ground.textOnly Departure.lateStores }, { on := 1, ground := Ground.textOnly Departure.inlinedCapture }, { on := 2, ground := Ground.textOnly Departure.inlinedCapture }, { on := 3, ground := Ground.textOnly Departure.inlinedCapture }], guard := none }) rfl (fun K hK => ?_) AllReadyH.nil
     go_simp
     refine hK.out _ _ ?_ (fun hHeld => ?_)
     ·exact keep_set HNE.out hHeld
     clear hK K
     try simp only [Act.put, List.setIfInBounds_toArray, List.set_cons_zero, List.set_cons_succ]
     refine wpAnyH_take (i := 5) (oi := { dst := some 3, op := Op.assign (Operand.tmp 74), type := 3, pos := "drawing.go:193", after := #[{ on := 3, ground := Ground.data }, { on := 4, ground := Ground.chain }, { on := 0, ground := Ground.phase }, { on := 1, ground := Ground.phase }, { on := 2, ground := Ground.phase }, { on := 3, ground := Ground.phase }, { on := 4, ground := Ground.phase }], guard := none }) (v := ?_) rfl (by kernel_rfl) (by kernel_rfl) (by kernel_rfl) (fun _ _ _ h => h) (Or.inl ⟨by rfl, ?_⟩) (by assumption) ?_
     rotate_left
     ·intro w' hSw
      (try dsimp only at hSw)
      first | (go_simp; done) | (go_simp; with_reducible rfl)
     try simp only [Act.put, List.setIfInBounds_toArray, List.set_cons_zero, List.set_cons_succ]
     refine wpAnyH_take (i := 6) (oi := { dst := some 4, op := Op.assign (Operand.const (Value.int IntKind.i64 4)), type := 24, pos := "drawing.go:193", after := #[{ on := 5, ground := Ground.chain }, { on := 0, ground := Ground.phase }, { on := 1, ground := Ground.phase }, { on := 2, ground := Ground.phase }, { on := 3, ground := Ground.phase }, { on := 4, ground := Ground.phase }, { on := 5, ground := Ground.phase }], guard := none }) (v := ?_) rfl (by kernel_rfl) (by kernel_rfl) (by kernel_rfl) (fun _ _ _ h => h) (Or.inl ⟨by rfl, ?_⟩) (by assumption) ?_
     rotate_left
     ·intro w' hSw
      (try dsimp only at hSw)
      first | (go_simp; done) | (go_simp; with_reducible rfl)
     try simp only [Act.put, List.setIfInBounds_toArray, List.set_cons_zero, List.set_cons_succ]
     refine wpAnyH_done (by kernel_rfl) ?_ _
     go_wp2
     have HDC := Lib.hid (block_set (w := (w2).drewN (nq + 1)) HD2.out.res 0 (.slice none 0 0))
     have hdc9 := cell_of HDC.out 0 _ rfl
     refine bodyPost_ret (v := .tuple #[.slice none 0 0, .int .i64 (si2 : Int), .int .i64 4]) (by simp [results, Tryz.results7, go_sem, hdc9]) rfl ?_
     rw [HX.out]
     exact ⟨none, 0, [], rfl, rfl, ⟨Row.nil _ _, fun x hx => (by cases hx), Nat.zero_le _⟩, (below_drewN (ENDB.out _ _ _ _ _ HD2.out) (nq + 1)).setCell (p := ⟨w.heap.size, 0, none⟩) (Nat.le_refl _) _⟩
    ·have d1 : decide ((si2 : Int) < (LS.length : Int)) = false := decide_eq_false (by omega)
     have d2 : decide (si2 < LS.length) = false := decide_eq_false hsi
     have hlast := LAST.out _ _ _ _ _ HD2.out
     unfold strV at hlast
     by_cases hlp : LP = []
     ·have HX : Hid (DEC = (xs.map EntV.e, 0, 0)) := Lib.hid (by rw [HDE.out, ← HFE.out, if_neg (by simp [hsi, hlp])])
      subst hlp
      go_quiet (fail)
      go_wp2
      have HDC := Lib.hid (block_set (w := (w2).drewN nq) HD2.out.res 0 (.slice B xs.length d))
      have hdc9 := cell_of HDC.out 0 _ rfl
      refine bodyPost_ret (v := .tuple #[.slice B xs.length d, .int .i64 0, .int .i64 0]) (by simp [results, Tryz.results7, go_sem, hdc9]) rfl ?_
      rw [HX.out]
      have hgs := grown_set (grown_refl ((w2).drewN nq) (some w.heap.size)) 0 (.slice B xs.length d)
      have hrd : RowW ((w2).drewN nq) 0 23 (some w.heap.size) := RowT.weak (fun g e => by
       cases e
       exact ⟨⟨_, _, HD2.out.res⟩, Nat.zero_le _⟩)
      exact ⟨B, d, xs, rfl, rfl, ⟨(Row.of_own (own_set (own_below HD2.out.own (below_drewN (Below.refl _ _) nq)) hdcl 0 _)), fun x hx => (((HD2.out.pts x hx).drewN nq).keep hgs hrd (by decide)).in_, by omega⟩, (below_drewN (ENDB.out _ _ _ _ _ HD2.out) nq).setCell (p := ⟨w.heap.size, 0, none⟩) (Nat.le_refl _) _⟩
     ·have HX : Hid (DEC = ([], si2, 4)) := Lib.hid (by rw [HDE.out, ← HFE.out, if_pos (.inr (.inr hlp))])
      have hl1 : ((ByteArray.mk LP.toArray).toList = []) = False := eq_false (by rw [Go.ByteArray.toList_eq]; simpa using hlp)
      have hl2 : (ByteArray.mk LP.toArray).toList.isEmpty = false := by
       cases h9 : (ByteArray.mk LP.toArray).toList.isEmpty
       ·rfl
       ·rw [List.isEmpty_iff] at h9
        rw [hl1] at h9
        exact h9.elim
      generalize (ByteArray.mk LP.toArray) = LB at *
      go_quiet (fail)
      go_wp2_with fail
      have e1 := c1
      refine wp_region_held_drew (S := fun w' => w'.cell? ⟨sb, 1, none⟩ = some (.int .i64 (si2 : Int))) (by kernel_rfl) ?_ (fun hHeld => ?_)
      ·exact e1
      refine wpAnyH_take (i := 0) (oi := { dst := some 71, op := Op.move (Operand.tmp 6), type := 59, pos := "drawing.go:193", after := #[], guard := none }) (v := ?_) rfl (by kernel_rfl) (by kernel_rfl) (by kernel_rfl) (fun _ _ _ h => h) (Or.inl ⟨by rfl, ?_⟩) (by assumption) ?_
      rotate_left
      ·intro w' hSw
       (try dsimp only at hSw)
       first | (go_simp; done) | (go_simp; with_reducible rfl)
      try simp only [Act.put, List.setIfInBounds_toArray, List.set_cons_zero, List.set_cons_succ]
      refine wpAnyH_take (i := 1) (oi := { dst := some 72, op := Op.nilCheck (Operand.tmp 71), type := 0, pos := "drawing.go:193", after := #[{ on := 0, ground := Ground.data }], guard := none }) (v := ?_) rfl (by kernel_rfl) (by kernel_rfl) (by kernel_rfl) (fun _ _ _ h => h) (Or.inl ⟨by rfl, ?_⟩) (by assumption) ?_
      rotate_left
      ·intro w' hSw
       (try dsimp only at hSw)
       first | (go_simp; done) | (go_simp; with_reducible rfl)
      try simp only [Act.put, List.setIfInBounds_toArray, List.set_cons_zero, List.set_cons_succ]
      refine wpAnyH_take (i := 2) (oi := { dst := some 73, op := Op.fieldAddr 61 (Operand.tmp 72) 1, type := 0, pos := "drawing.go:193", after := #[{ on := 1, ground := Ground.data }], guard := none }) (v := ?_) rfl (by kernel_rfl) (by kernel_rfl) (by kernel_rfl) (fun _ _ _ h => h) (Or.inl ⟨by rfl, ?_⟩) (by assumption) ?_
      rotate_left
      ·intro w' hSw
       (try dsimp only at hSw)
       first | (go_simp; done) | (go_simp; with_reducible rfl)
      try simp only [Act.put, List.setIfInBounds_toArray, List.set_cons_zero, List.set_cons_succ]
      refine wpAnyH_take (i := 3) (oi := { dst := some 74, op := Op.load 3 (Operand.tmp 73), type := 3, pos := "drawing.go:193", after := #[{ on := 2, ground := Ground.data }], guard := none }) (v := ?_) rfl (by kernel_rfl) (by kernel_rfl) (by kernel_rfl) (fun _ _ _ h => h) (Or.inl ⟨by rfl, ?_⟩) (by assumption) ?_
      rotate_left
      ·intro w' hSw
       (try dsimp only at hSw)
       first | (go_simp; done) | (go_simp; with_reducible rfl)
      try simp only [Act.put, List.setIfInBounds_toArray, List.set_cons_zero, List.set_cons_succ]
      refine wpAnyH_ready (rs := [4]) (by kernel_rfl) (by simp) ?_
      refine AllReadyH.cons (o := { dst := none, op := Op.store 23 (Operand.tmp 2) (Operand.const (Value.slice none 0 0)), type := 0, pos := "drawing.go:193", after := #[{ on := 0, ground := Ground.textOnly Departure.lateStores }, { on := 1, ground := Ground.textOnly Departure.inlinedCapture }, { on := 2, ground := Ground.textOnly Departure.inlinedCapture }, { on := 3, ground := Ground.textOnly Departure.inlinedCapture }], guard := none }) rfl (fun K hK => ?_) AllReadyH.nil
      go_simp
      refine hK.out _ _ ?_ (fun hHeld => ?_)
      ·exact keep_set HNE.out hHeld
      clear hK K
      try simp only [Act.put, List.setIfInBounds_toArray, List.set_cons_zero, List.set_cons_succ]
      refine wpAnyH_take (i := 5) (oi := { dst := some 3, op := Op.assign (Operand.tmp 74), type := 3, pos := "drawing.go:193", after := #[{ on := 3, ground := Ground.data }, { on := 4, ground := Ground.chain }, { on := 0, ground := Ground.phase }, { on := 1, ground := Ground.phase }, { on := 2, ground := Ground.phase }, { on := 3, ground := Ground.phase }, { on := 4, ground := Ground.phase }], guard := none }) (v := ?_) rfl (by kernel_rfl) (by kernel_rfl) (by kernel_rfl) (fun _ _ _ h => h) (Or.inl ⟨by rfl, ?_⟩) (by assumption) ?_
      rotate_left
      ·intro w' hSw
       (try dsimp only at hSw)
       first | (go_simp; done) | (go_simp; with_reducible rfl)
      try simp only [Act.put, List.setIfInBounds_toArray, List.set_cons_zero, List.set_cons_succ]
      refine wpAnyH_take (i := 6) (oi := { dst := some 4, op := Op.assign (Operand.const (Value.int IntKind.i64 4)), type := 24, pos := "drawing.go:193", after := #[{ on := 5, ground := Ground.chain }, { on := 0, ground := Ground.phase }, { on := 1, ground := Ground.phase }, { on := 2, ground := Ground.phase }, { on := 3, ground := Ground.phase }, { on := 4, ground := Ground.phase }, { on := 5, ground := Ground.phase }], guard := none }) (v := ?_) rfl (by kernel_rfl) (by kernel_rfl) (by kernel_rfl) (fun _ _ _ h => h) (Or.inl ⟨by rfl, ?_⟩) (by assumption) ?_
      rotate_left
      ·intro w' hSw
       (try dsimp only at hSw)
       first | (go_simp; done) | (go_simp; with_reducible rfl)
      try simp only [Act.put, List.setIfInBounds_toArray, List.set_cons_zero, List.set_cons_succ]
      refine wpAnyH_done (by kernel_rfl) ?_ _
      go_wp2
      have HDC := Lib.hid (block_set (w := (w2).drewN (nq + 1)) HD2.out.res 0 (.slice none 0 0))
      have hdc9 := cell_of HDC.out 0 _ rfl
      refine bodyPost_ret (v := .tuple #[.slice none 0 0, .int .i64 (si2 : Int), .int .i64 4]) (by simp [results, Tryz.results7, go_sem, hdc9]) rfl ?_
      rw [HX.out]
      exact ⟨none, 0, [], rfl, rfl, ⟨Row.nil _ _, fun x hx => (by cases hx), Nat.zero_le _⟩, (below_drewN (ENDB.out _ _ _ _ _ HD2.out) (nq + 1)).setCell (p := ⟨w.heap.size, 0, none⟩) (Nat.le_refl _) _⟩
   ·have hk2 : (XB.toList = [69, 79, 70]) = False := eq_false (by rw [HQK.out]; exact hk)
    have hk3 : (XB.toList == [69, 79, 70]) = false := by rw [HQK.out]; exact beq_eq_false_iff_ne.2 hk
    obtain ⟨c0, c1, c2, cf⟩ := scell HD2.out.scn
    simp only at c1 c2
    cases se2
    ·have hko := HNI.out rfl
     have HGO2 := Lib.hid (HGO.out hk rfl)
     obtain ⟨hn2, hkk⟩ := kind_go hko hk
     clear HNI HNB HST HGO hko
     have HC3 := Lib.hid (code_any LS (some ⟨ab, 0, none⟩) (LS.length + 1) sb ⟨si2, false⟩ 8 w2 (SCF.out _ _ _ _ _ HD2.out) (by omega))
     go_wp2_with fail
     refine HC3.out.mono ?_
     rintro e w3 ⟨rfl, h3, g3⟩
     have HD3 := Lib.hid (HD2.out.step h3.obj g3)
     clear h3 g3 c0 c1 c2 cf HC3
     have HS3 := Lib.hid (SCF.out _ _ _ _ _ HD3.out)
     have HIN := Lib.hid (next_0 26 Lex.isName (enters_of Tryz.func26 (by kernel_rfl) rfl) LS (some ⟨ab, 0, none⟩) (LS.length + 1) sb (cd LS 8 ⟨si2, false⟩) w3 (fun x hx n => (isName2 x (HS3.out.short x hx) _).mono (fun e w' h => ⟨h.1, by rw [h.2]; exact Below.refl _ _⟩)) HS3.out.obj HS3.out.row HS3.out.apart HS3.out.few)
     have HLY := Lib.hid (nx_line (L := LS) (good := Lex.isName) (s := cd LS 8 ⟨si2, false⟩))
     have HGO3 : Hid (ents LS f (rdKind LS kk (nx LS Lex.isName (cd LS 8 ⟨si2, false⟩)).1 (nx LS Lex.isName (cd LS 8 ⟨si2, false⟩)).2).2 (xs.map EntV.e ++ [(rdKind LS kk (nx LS Lex.isName (cd LS 8 ⟨si2, false⟩)).1 (nx LS Lex.isName (cd LS 8 ⟨si2, false⟩)).2).1]) = FIN) := HGO2
     have HSHORT := Lib.hid HS3.out.short
     clear HGO2 HS3
     generalize nx LS Lex.isName (cd LS 8 ⟨si2, false⟩) = ly at *
     obtain ⟨ll, s4⟩ := ly
     simp only at HIN HLY HGO3
     have HLL : Hid (ll.length ≤ 1000000) := Lib.hid (by
      rcases HLY.out with h | ⟨h, _⟩
      ·rw [h]; simp
      ·exact HSHORT.out _ h)
     clear HLY HSHORT
     go_wp2_with fail
     refine HIN.out.mono ?_
     rintro e w4 ⟨rfl, h4, g4⟩
     have HD4 := Lib.hid (HD3.out.step h4 g4)
     clear h4 g4 HIN
     have hab : ab < w4.heap.size := by have h1 := HD4.out.fr.size; have h2 := HZ3.out; have h3 := HAE.out; omega
     have hsb4 := blk_lt HD4.out.scn
     have hw47 : 7 ≤ w4.heap.size := by have h3 := HAE.out; omega
     have hb5 := bel1 w4 (.cells #[.int .i64 0, .string ⟨ll.toArray⟩, .int .i64 0, .int .i64 0, .int .i64 0, .int .i64 0, .int .i64 0, .int .i64 0, .int .i64 0, .int .i64 0, .int .i64 0, .int .i64 0, .bool false, .slice none 0 0] 52)
     have HR5 := Lib.hid (HRD.out _ ll s4 w4.heap.size hkk ((SCF.out _ _ _ _ _ HD4.out).below hb5) (GeW.heap_alloc_new w4 _) (by omega) (fun g off e => by cases e; omega) (by omega))
     have HLR : Hid ((rdKind LS kk ll s4).1.layer = ll) := Lib.hid (rd_layer LS kk ll s4)
     have HPR := rd_pts LS kk ll s4
     generalize rdKind LS kk ll s4 = rk at *
     obtain ⟨E, s6⟩ := rk
     simp only at HR5 HLR HPR HGO3
     go_wp2_with fail
     refine HR5.out.mono ?_
     rintro e w6 ⟨rfl, hs6, ⟨B9, d9, ho6, hw6⟩, hf6⟩
     have HG6 : Hid (w4.grownBy w6 (some sb)) := Lib.hid ⟨hf6.os.trans hb5.os, hf6.tape.trans hb5.tape, hf6.output.trans hb5.output, Nat.le_trans hb5.size hf6.size, fun i hi hne => (hf6.block i (by have := hb5.size; omega) (fun e => hne (by rw [e])) (by omega)).trans (hb5.block i hi)⟩
     have HD6 := Lib.hid (HD4.out.step hs6.obj HG6.out)
     have HO6 := Lib.hid ho6
     obtain ⟨_, _, e9, hd9⟩ := own_shape hw6
     cases e9
     have HPV : Hid (PtV w6 ⟨E, B9, d9⟩) := Lib.hid ⟨PtAt.of_own hw6, Nat.le_trans HPR (by omega), hd9, by rw [HLR.out]; exact HLL.out⟩
     clear hs6 ho6 hw6 hf6 hb5 HR5 HPR hd9
     have hdc6 := cell_of HD6.out.res 0 _ rfl
     have z0 := cell_of HO6.out 0 _ rfl
     have z1 := cell_of HO6.out 1 _ rfl
     have z2 := cell_of HO6.out 2 _ rfl
     have z3 := cell_of HO6.out 3 _ rfl
     have z4 := cell_of HO6.out 4 _ rfl
     have z5 := cell_of HO6.out 5 _ rfl
     have z6 := cell_of HO6.out 6 _ rfl
     have z7 := cell_of HO6.out 7 _ rfl
     have z8 := cell_of HO6.out 8 _ rfl
     have z9 := cell_of HO6.out 9 _ rfl
     have z10 := cell_of HO6.out 10 _ rfl
     have z11 := cell_of HO6.out 11 _ rfl
     have z12 := cell_of HO6.out 12 _ rfl
     have z13 := cell_of HO6.out 13 _ rfl
     have CN := Lib.hid (World.news_of_block (cs := #[.int .i64 E.kind, .string ⟨E.layer.toArray⟩, .int .i64 E.a.1, .int .i64 E.a.2, .int .i64 E.b.1, .int .i64 E.b.2, .int .i64 E.f.1, .int .i64 E.f.2, .int .i64 E.t.1, .int .i64 E.t.2, .int .i64 E.c.1, .int .i64 E.c.2, .bool E.cw, .slice B9 E.pts.length d9]) (t := 52) (fr := (0, 0)) (GeW.heap_alloc_new w6 _))
     have C2 : Hid (∀ u ∈ ([.int .i64 E.kind, .string ⟨E.layer.toArray⟩, .int .i64 E.a.1, .int .i64 E.a.2, .int .i64 E.b.1, .int .i64 E.b.2, .int .i64 E.f.1, .int .i64 E.f.2, .int .i64 E.t.1, .int .i64 E.t.2, .int .i64 E.c.1, .int .i64 E.c.2, .bool E.cw, .slice B9 E.pts.length d9] : List Value), u.oneCell' = true) := Lib.hid (by intro u hu; simp at hu; rcases hu with rfl | rfl | rfl | rfl | rfl | rfl | rfl | rfl | rfl | rfl | rfl | rfl | rfl | rfl <;> rfl)
     have C3 : Hid (xs.length + 1 ≤ maxLen ∧ (xs.length + 1) * 136 ≤ 140737488355328) := Lib.hid (by unfold maxLen; omega)
     have C5 : Hid (W3.heap.size ≤ (w6.alloc (.cells #[.int .i64 E.kind, .string ⟨E.layer.toArray⟩, .int .i64 E.a.1, .int .i64 E.a.2, .int .i64 E.b.1, .int .i64 E.b.2, .int .i64 E.f.1, .int .i64 E.f.2, .int .i64 E.t.1, .int .i64 E.t.2, .int .i64 E.c.1, .int .i64 E.c.2, .bool E.cw, .slice B9 E.pts.length d9] 52)).heap.size) := Lib.hid (by have := HD6.out.fr.size; simp; omega)
     have HOW := Lib.hid (HD6.out.own.alloc (.cells #[.int .i64 E.kind, .string ⟨E.layer.toArray⟩, .int .i64 E.a.1, .int .i64 E.a.2, .int .i64 E.b.1, .int .i64 E.b.2, .int .i64 E.f.1, .int .i64 E.f.2, .int .i64 E.t.1, .int .i64 E.t.2, .int .i64 E.c.1, .int .i64 E.c.2, .bool E.cw, .slice B9 E.pts.length d9] 52))
     go_wp2_with (at_builtin; refine wpList_append_own _ rfl _ _ 23 rfl W3.heap.size 52 i0 _ 14 136 Tryz.underlying23 ia ib ic id rfl (by omega) _ _ _ rfl HOW.out ⟨w6.heap.size, 0, none⟩ 1 1 [.int .i64 E.kind, .string ⟨E.layer.toArray⟩, .int .i64 E.a.1, .int .i64 E.a.2, .int .i64 E.b.1, .int .i64 E.b.2, .int .i64 E.f.1, .int .i64 E.f.2, .int .i64 E.t.1, .int .i64 E.t.2, .int .i64 E.c.1, .int .i64 E.c.2, .bool E.cw, .slice B9 E.pts.length d9] rfl rfl CN.out C2.out C3.out.1 C3.out.2 C5.out ?_)
     intro v7 w7 hown7 hg7 _
     obtain ⟨B7, d7, rfl, _⟩ := own_shape hown7
     have hb7 := bel1 w6 (.cells #[.int .i64 E.kind, .string ⟨E.layer.toArray⟩, .int .i64 E.a.1, .int .i64 E.a.2, .int .i64 E.b.1, .int .i64 E.b.2, .int .i64 E.f.1, .int .i64 E.f.2, .int .i64 E.t.1, .int .i64 E.t.2, .int .i64 E.c.1, .int .i64 E.c.2, .bool E.cw, .slice B9 E.pts.length d9] 52)
     have HD7 := Lib.hid (HD6.out.below hb7)
     have HP7 := Lib.hid (DSt.push HD7.out (HPV.out.keep (grown_below (grown_refl w6 none) hb7) (RowW.none _ _ 52) (by decide)) hsb hdcl hown7 hg7)
     have hro : ∀ k, (Value.slice B xs.length d).ownBlock = some k → W3.heap.size ≤ k := fun k hk => (HD7.out.own.lt k hk).1
     have HDC7 := Lib.hid (old_block hg7 hro hdcl HD7.out.res)
     have hdc7 := cell_of HDC7.out 0 _ rfl
     have hdf7 := free_of HDC7.out 0
     clear hown7 hg7 hb7 hro hdc6 z0 z1 z2 z3 z4 z5 z6 z7 z8 z9 z10 z11 z12 z13
     go_wp2
     go_roundg f
     case measure => omega
     case rel => exact ⟨s6, xs ++ [⟨E, B9, d9⟩], B7, d7, by rw [List.map_append]; exact HGO3, by rw [List.length_append]; simp only [List.length_singleton]; split <;> omega, by rw [List.length_append]; simp; omega, HP7⟩
    ·have HFE := Lib.hid (HST.out (.inr rfl))
     have HFG : Hid (ents LS f ⟨si2, true⟩ (xs.map EntV.e) = FIN) := Lib.hid (by
      obtain ⟨f2, rfl⟩ : ∃ f2, f = f2 + 1 := ⟨f - 1, by omega⟩
      rw [← HFE.out, ents, if_pos (.inl rfl), if_pos rfl])
     clear HNI HNB HST HGO
     go_wp2_with fail
     go_roundg f
     case measure => omega
     case rel => exact ⟨_, xs, B, d, HFG, by simp; omega, hx2, HD2⟩
  ·have HFE : Hid ((⟨si, true⟩, xs.map EntV.e) = FIN) := Lib.hid (by
    have := HFI.out
    rwa [ents, if_pos (.inl rfl), if_pos rfl] at this)
   clear HFI cf
   go_wp2_with fail
   have hdc := cell_of HD.out.res 0 _ rfl
   have hdf := free_of HD.out.res 0
   have HNE : Hid (sb ≠ w.heap.size) := Lib.hid (Ne.symm HD.out.ne)
   have hl0 : (0 : Int) ≤ (LS.length : Int) := by omega
   have hx1 : (LS.length : Int) < (LS.length : Int) + 1 := by omega
   have HX : Hid (DEC = ([], si, 4)) := Lib.hid (by rw [HDE.out, ← HFE.out, if_pos (.inl rfl)])
   go_quiet (fail)
   go_wp2_with fail
   have e1 := c1
   refine wp_region_held_drew (S := fun w' => w'.cell? ⟨sb, 1, none⟩ = some (.int .i64 (si : Int))) (by kernel_rfl) ?_ (fun hHeld => ?_)
   ·exact e1
   refine wpAnyH_take (i := 0) (oi := { dst := some 71, op := Op.move (Operand.tmp 6), type := 59, pos := "drawing.go:193", after := #[], guard := none }) (v := ?_) rfl (by kernel_rfl) (by kernel_rfl) (by kernel_rfl) (fun _ _ _ h => h) (Or.inl ⟨by rfl, ?_⟩) (by assumption) ?_
   rotate_left
   ·intro w' hSw
    (try dsimp only at hSw)
    first | (go_simp; done) | (go_simp; with_reducible rfl)
   try simp only [Act.put, List.setIfInBounds_toArray, List.set_cons_zero, List.set_cons_succ]
   refine wpAnyH_take (i := 1) (oi := { dst := some 72, op := Op.nilCheck (Operand.tmp 71), type := 0, pos := "drawing.go:193", after := #[{ on := 0, ground := Ground.data }], guard := none }) (v := ?_) rfl (by kernel_rfl) (by kernel_rfl) (by kernel_rfl) (fun _ _ _ h => h) (Or.inl ⟨by rfl, ?_⟩) (by assumption) ?_
   rotate_left
   ·intro w' hSw
    (try dsimp only at hSw)
    first | (go_simp; done) | (go_simp; with_reducible rfl)
   try simp only [Act.put, List.setIfInBounds_toArray, List.set_cons_zero, List.set_cons_succ]
   refine wpAnyH_take (i := 2) (oi := { dst := some 73, op := Op.fieldAddr 61 (Operand.tmp 72) 1, type := 0, pos := "drawing.go:193", after := #[{ on := 1, ground := Ground.data }], guard := none }) (v := ?_) rfl (by kernel_rfl) (by kernel_rfl) (by kernel_rfl) (fun _ _ _ h => h) (Or.inl ⟨by rfl, ?_⟩) (by assumption) ?_
   rotate_left
   ·intro w' hSw
    (try dsimp only at hSw)
    first | (go_simp; done) | (go_simp; with_reducible rfl)
   try simp only [Act.put, List.setIfInBounds_toArray, List.set_cons_zero, List.set_cons_succ]
   refine wpAnyH_take (i := 3) (oi := { dst := some 74, op := Op.load 3 (Operand.tmp 73), type := 3, pos := "drawing.go:193", after := #[{ on := 2, ground := Ground.data }], guard := none }) (v := ?_) rfl (by kernel_rfl) (by kernel_rfl) (by kernel_rfl) (fun _ _ _ h => h) (Or.inl ⟨by rfl, ?_⟩) (by assumption) ?_
   rotate_left
   ·intro w' hSw
    (try dsimp only at hSw)
    first | (go_simp; done) | (go_simp; with_reducible rfl)
   try simp only [Act.put, List.setIfInBounds_toArray, List.set_cons_zero, List.set_cons_succ]
   refine wpAnyH_ready (rs := [4]) (by kernel_rfl) (by simp) ?_
   refine AllReadyH.cons (o := { dst := none, op := Op.store 23 (Operand.tmp 2) (Operand.const (Value.slice none 0 0)), type := 0, pos := "drawing.go:193", after := #[{ on := 0, ground := Ground.textOnly Departure.lateStores }, { on := 1, ground := Ground.textOnly Departure.inlinedCapture }, { on := 2, ground := Ground.textOnly Departure.inlinedCapture }, { on := 3, ground := Ground.textOnly Departure.inlinedCapture }], guard := none }) rfl (fun K hK => ?_) AllReadyH.nil
   go_simp
   refine hK.out _ _ ?_ (fun hHeld => ?_)
   ·exact keep_set HNE.out hHeld
   clear hK K
   try simp only [Act.put, List.setIfInBounds_toArray, List.set_cons_zero, List.set_cons_succ]
   refine wpAnyH_take (i := 5) (oi := { dst := some 3, op := Op.assign (Operand.tmp 74), type := 3, pos := "drawing.go:193", after := #[{ on := 3, ground := Ground.data }, { on := 4, ground := Ground.chain }, { on := 0, ground := Ground.phase }, { on := 1, ground := Ground.phase }, { on := 2, ground := Ground.phase }, { on := 3, ground := Ground.phase }, { on := 4, ground := Ground.phase }], guard := none }) (v := ?_) rfl (by kernel_rfl) (by kernel_rfl) (by kernel_rfl) (fun _ _ _ h => h) (Or.inl ⟨by rfl, ?_⟩) (by assumption) ?_
   rotate_left
   ·intro w' hSw
    (try dsimp only at hSw)
    first | (go_simp; done) | (go_simp; with_reducible rfl)
   try simp only [Act.put, List.setIfInBounds_toArray, List.set_cons_zero, List.set_cons_succ]
   refine wpAnyH_take (i := 6) (oi := { dst := some 4, op := Op.assign (Operand.const (Value.int IntKind.i64 4)), type := 24, pos := "drawing.go:193", after := #[{ on := 5, ground := Ground.chain }, { on := 0, ground := Ground.phase }, { on := 1, ground := Ground.phase }, { on := 2, ground := Ground.phase }, { on := 3, ground := Ground.phase }, { on := 4, ground := Ground.phase }, { on := 5, ground := Ground.phase }], guard := none }) (v := ?_) rfl (by kernel_rfl) (by kernel_rfl) (by kernel_rfl) (fun _ _ _ h => h) (Or.inl ⟨by rfl, ?_⟩) (by assumption) ?_
   rotate_left
   ·intro w' hSw
    (try dsimp only at hSw)
    first | (go_simp; done) | (go_simp; with_reducible rfl)
   try simp only [Act.put, List.setIfInBounds_toArray, List.set_cons_zero, List.set_cons_succ]
   refine wpAnyH_done (by kernel_rfl) ?_ _
   go_wp2
   have HDC := Lib.hid (block_set (w := (wr).drewN (nq + 1)) HD.out.res 0 (.slice none 0 0))
   have hdc9 := cell_of HDC.out 0 _ rfl
   refine bodyPost_ret (v := .tuple #[.slice none 0 0, .int .i64 (si : Int), .int .i64 4]) (by simp [results, Tryz.results7, go_sem, hdc9]) rfl ?_
   rw [HX.out]
   exact ⟨none, 0, [], rfl, rfl, ⟨Row.nil _ _, fun x hx => (by cases hx), Nat.zero_le _⟩, (below_drewN (ENDB.out _ _ _ _ _ HD.out) (nq + 1)).setCell (p := ⟨w.heap.size, 0, none⟩) (Nat.le_refl _) _⟩
end Go.Proofs.YtnmmhcchpcbeeaaGreatDoor.GtW
