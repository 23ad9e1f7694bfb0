/- Walks: a drawing of the program as one of the reference; whether two drawings of the same lines are equal; whether a shape has few vertices. Conditions: they lie in memory. -/
import Derived.Test.YtnmmhcchpcbeeaaGreatSh7
import Derived.Test.YtnmmhcchpcbeeaaGreatDwV
import Derived.Test.YtnmmhcchpcbeeaaGreatEqV
import Derived.Deep.CutRange

namespace Go.Proofs.YtnmmhcchpcbeeaaGreat.GeW
open Go Go.RowKit Go.Proofs.YtnmmhcchpcbeeaaGreat.Mem Go.Proofs.YtnmmhcchpcbeeaaGreat.Ge
attribute [local go_sem ↓] Go.wp_at_zero Go.wp_at_succ
def shapeL (m : ShapeM) : List Value := [rowVal m.o, holesVal m]
theorem shapeL_len (m : ShapeM) : (shapeL m).length = 2 := rfl
def okAll (ms : List ShapeM) : Bool := ms.all fun m => shapeB m.o.l (holesL m)
def allEdges (ms : List ShapeM) : List S := ms.flatMap fun m => edgesAll (ringsM m)
theorem allEdges_snoc (ms : List ShapeM) (m : ShapeM) : allEdges (ms ++ [m]) = allEdges ms ++ edgesAll (ringsM m) := by simp [allEdges]
def drawP (ms : List ShapeM) (layer : List UInt8) : List S × Int :=
  if okAll ms then (if Lex.isName layer then (if (allEdges ms).length ≤ 200 then (allEdges ms, 0) else ([], 9)) else ([], 6)) else ([], 11)
def lineCells (L : ByteArray) (e : S) : List Value := [.int .i64 1, .string L, .int .i64 e.1.1, .int .i64 e.1.2, .int .i64 e.2.1, .int .i64 e.2.2, .int .i64 0, .int .i64 0, .int .i64 0, .int .i64 0, .int .i64 0, .int .i64 0, .bool false, .slice none 0 0]
theorem line_len (L : ByteArray) (e : S) : (lineCells L e).length = 14 := rfl
theorem line_one (L : ByteArray) (es : List S) : ∀ u ∈ es.flatMap (lineCells L), u.oneCell' = true := by
  intro u hu
  obtain ⟨x, _, hx⟩ := List.mem_flatMap.1 hu
  unfold lineCells at hx
  simp at hx
  rcases hx with rfl | rfl | rfl | rfl | rfl | rfl | rfl | rfl | rfl <;> rfl
structure ShapesIn (w : World) (A : Option Addr) (ms : List ShapeM) : Prop where
  row : Row w A (ms.flatMap shapeL)
  each : ∀ m ∈ ms, ShapeIn w m
  few : ms.length ≤ 100
  parts : ∀ m ∈ ms, m.hs.length ≤ 20
theorem ShapesIn.below {w w' : World} {A : Option Addr} {ms : List ShapeM} (h : ShapesIn w A ms) (hb : Below w.heap.size w w') : ShapesIn w' A ms :=
  ⟨h.row.below hb, fun m hm => (h.each m hm).below hb, h.few, h.parts⟩
theorem okRings {m : ShapeM} (h : shapeB m.o.l (holesL m) = true) : ∀ x ∈ ringsM m, 2 ≤ x.l.length ∧ x.l.length ≤ 40 := by
  intro x hx
  unfold shapeB at h
  simp only [Bool.and_eq_true, List.all_eq_true] at h
  have : ringB x.l = true := by
    rcases List.mem_cons.1 hx with rfl | hx
    · exact h.2.1 _ (by simp)
    · exact h.2.1 _ (List.mem_cons_of_mem _ (List.mem_map_of_mem hx))
  have := ring_near this
  omega
theorem okEdges {m : ShapeM} (h : shapeB m.o.l (holesL m) = true) (hf : m.hs.length ≤ 20) : (edgesAll (ringsM m)).length ≤ 21 * 40 := by
  refine Nat.le_trans (edgesAll_len 40 _ (fun x hx => (okRings h x hx).2)) (Nat.mul_le_mul_right _ ?_)
  simp [ringsM]
  omega
theorem okPos {m : ShapeM} (h : shapeB m.o.l (holesL m) = true) : 0 < (edgesAll (ringsM m)).length := by
  have h1 := (okRings h m.o (by simp [ringsM])).1
  have e : edgesAll (ringsM m) = edgesN m.o.l m.o.l.length ++ edgesAll m.hs := by simp [edgesAll, ringsM]
  rw [e, List.length_append, edgesN_len]
  omega
theorem allEdges_len : ∀ ms : List ShapeM, okAll ms = true → (∀ m ∈ ms, m.hs.length ≤ 20) → (allEdges ms).length ≤ ms.length * 840
  | [], _, _ => by simp [allEdges]
  | m :: ms, h, hf => by
    unfold okAll at h
    rw [List.all_cons, Bool.and_eq_true] at h
    have h1 := okEdges h.1 (hf m (by simp))
    have h2 := allEdges_len ms h.2 (fun x hx => hf x (by simp [hx]))
    have e : allEdges (m :: ms) = edgesAll (ringsM m) ++ allEdges ms := by simp [allEdges]
    rw [e, List.length_append, List.length_cons, Nat.add_mul]
    omega
theorem okAll_take {ms : List ShapeM} (h : okAll ms = true) (k : Nat) : okAll (ms.take k) = true := by
  unfold okAll at *
  rw [List.all_eq_true] at *
  exact fun x hx => h x (List.mem_of_mem_take hx)
theorem info_ent : (Tryz.prog.info? 66).map (fun i => (i.zero, i.size, i.bytes)) = some (some (.agg #[.int .i64 0, .string ⟨#[]⟩, .int .i64 0, .int .i64 0, .int .i64 0, .int .i64 0, .int .i64 0, .int .i64 0, .int .i64 0, .int .i64 0, .int .i64 0, .int .i64 0, .bool false, .slice none 0 0]), 14, 136) := by kernel_rfl
set_option maxRecDepth 100000 in
theorem badShape_any (m : ShapeM) (w : World) (h : ShapeIn w m) : Calls Tryz.prog 34 #[.agg #[.slice m.o.A m.o.l.length m.o.k, .slice m.B m.hs.length m.k]] w fun e w' => e = .returned (.bool (!shapeB m.o.l (holesL m))) ∧ Below w.heap.size w w' := by
  have HO := Lib.hid (one_vec w (.cells #[.slice m.o.A m.o.l.length m.o.k, .slice m.B m.hs.length m.k] 29))
  have HV := Lib.hid (shapeOk_any m (w.alloc (.cells #[.slice m.o.A m.o.l.length m.o.k, .slice m.B m.hs.length m.k] 29)) (h.below HO.out.1))
  have HUN : Hid (shapeVals m = #[.slice m.o.A m.o.l.length m.o.k, .slice m.B m.hs.length m.k]) := Lib.hid rfl
  rw [HUN.out] at HV
  have c0 : (w.alloc (.cells #[.slice m.o.A m.o.l.length m.o.k, .slice m.B m.hs.length m.k] 29)).cell? ⟨w.heap.size, 0, none⟩ = some (.slice m.o.A m.o.l.length m.o.k) := by rw [Lib.cell_of_heap HO.out.2]; rfl
  have c1 : (w.alloc (.cells #[.slice m.o.A m.o.l.length m.o.k, .slice m.B m.hs.length m.k] 29)).cell? ⟨w.heap.size, 1, none⟩ = some (.slice m.B m.hs.length m.k) := by rw [Lib.cell_of_heap HO.out.2]; rfl
  generalize shapeB m.o.l (holesL m) = b at *
  clear h HUN
  go_enter Tryz.func34, Tryz.ntmps34
  go_wp2_with fail
  refine HV.out.mono ?_
  rintro e w2 ⟨rfl, hb2⟩
  go_wp2
  go_ret
  exact ⟨rfl, HO.out.1.trans (hb2.mono HO.out.1.size)⟩
def badS (m : ShapeM) : Bool := !shapeB m.o.l (holesL m)
set_option maxRecDepth 100000 in
set_option maxHeartbeats 1000000 in
theorem idxShapes_any (ms : List ShapeM) (A : Option Addr) (c : Nat) (w : World) (hr : ShapesIn w A ms) :
    Calls Tryz.prog 85 #[.slice A ms.length c, .func (.func 34) #[] #[]] w fun e w' => e = .returned (.int .i64 (idx badS ms 0)) ∧ Below w.heap.size w w' := by
  have HR := Lib.hid hr
  have hfw := hr.few
  clear hr
  have hst := Lib.hid (show idx badS ms 0 = idx badS (ms.drop 0) 0 by simp)
  go_enter Tryz.func85, Tryz.ntmps85
  go_wp2
  go_loopw [5, 8] (fun _ t wr => ∃ k : Nat, k ≤ ms.length ∧ t = .int .i64 k ∧ Hid (idx badS ms 0 = idx badS (ms.drop k) k) ∧ Below w.heap.size w wr) (fun _ t _ => ms.length - (intOf t).toNat)
  case atStart => exact ⟨0, Nat.zero_le _, rfl, hst, Below.refl _ _⟩
  case round =>
    obtain ⟨k, hk, rfl, hd, hbel⟩ := hrel
    by_cases hlt : k < ms.length
    · obtain ⟨g, off, rfl, hg, ca⟩ := row_get shapeL_len (by decide) HR.out.row (by omega)
      have a0 := (hbel.cell (p := ⟨g, off + k * 2, none⟩) hg).trans (ca k hlt 0 (by decide))
      have a1 := (hbel.cell (p := ⟨g, off + k * 2 + 1, none⟩) hg).trans (ca k hlt 1 (by decide))
      have hno := Lib.hid (idx_no badS ms k hlt)
      have hyes := Lib.hid (idx_yes badS ms k hlt)
      have HM := Lib.hid (fun W (hW : Below w.heap.size w W) => badShape_any ms[k] W ((HR.out.each _ (List.getElem_mem hlt)).below hW))
      have HBD : Hid (badS ms[k] = !shapeB ms[k].o.l (holesL ms[k])) := Lib.hid rfl
      have hk1 : (0 : Int) ≤ (k : Int) := by omega
      have hk2 : (k : Int) < (ms.length : Int) := by omega
      clear ca
      generalize ms[k] = m at *
      simp only [shapeL, rowVal, holesVal, List.getElem?_cons_zero, List.getElem?_cons_succ] at a0 a1
      rw [← HBD.out] at HM
      generalize badS m = b at *
      cases b
      · go_wp2_with fail
        refine (HM.out _ hbel).mono ?_
        rintro e w2 ⟨rfl, hb2⟩
        have HB2 := Lib.hid (hbel.trans (hb2.mono hbel.size))
        clear hb2
        go_wp2
        go_roundw
        case rel => exact ⟨k + 1, hlt, by go_num, Lib.hid (hd.out.trans (hno.out trivial)), HB2.out⟩
        case measure => simp [intOf]; omega
      · go_wp2_with fail
        refine (HM.out _ hbel).mono ?_
        rintro e w2 ⟨rfl, hb2⟩
        have HB2 := Lib.hid (hbel.trans (hb2.mono hbel.size))
        clear hb2
        go_wp2
        go_ret
        rw [hd.out, hyes.out trivial]
        exact ⟨rfl, HB2.out⟩
    · obtain rfl : k = ms.length := by omega
      go_wp2
      go_ret
      rw [hd.out, List.drop_length]
      exact ⟨rfl, hbel⟩
theorem anyBad_any (ms : List ShapeM) (A : Option Addr) (c : Nat) (w : World) (hr : ShapesIn w A ms) :
    Calls Tryz.prog 33 #[.slice A ms.length c, .func (.func 34) #[] #[]] w fun e w' => e = .returned (.bool (!okAll ms)) ∧ Below w.heap.size w w' := by
  have hi := Lib.hid (idxShapes_any ms A c w hr)
  have hq := Lib.hid (idx_ge badS ms 0)
  have hz : Hid (ms.any badS = !okAll ms) := Lib.hid (by unfold okAll; simp [List.all_eq_not_any_not]; rfl)
  clear hr
  go_enter Tryz.func33, Tryz.ntmps33
  go_wp2_with fail
  refine hi.out.mono ?_
  rintro e w1 ⟨rfl, hb1⟩
  go_wp2
  go_ret
  rw [hq.out, hz.out]
  exact ⟨rfl, hb1⟩
set_option maxRecDepth 100000 in
set_option maxHeartbeats 4000000 in
theorem draw_any (ms : List ShapeM) (A : Option Addr) (c : Nat) (layer : List UInt8) (w : World) (hr : ShapesIn w A ms) (hlay : layer.length ≤ 1000000) :
    Calls Tryz.prog 10 #[.slice A ms.length c, .string ⟨layer.toArray⟩] w fun e w' => (∃ v, e = .returned (.tuple #[v, .int .i64 (drawP ms layer).2]) ∧ w'.ownsRow w.heap.size 66 14 v (drawP ms layer).1.length ((drawP ms layer).1.flatMap (lineCells ⟨layer.toArray⟩))) ∧ Below w.heap.size w w' := by
  have HR := Lib.hid hr
  have hfw := hr.few
  have HCF := Lib.hid (anyBad_any ms A c w hr)
  have HIN := Lib.hid (fun W => isName2 layer hlay W)
  obtain ⟨i0, ia, ib, ic, id⟩ := info_parts info_ent
  obtain ⟨dp, HDP⟩ : ∃ dp, Hid (dp = drawP ms layer) := ⟨_, Lib.hid rfl⟩
  rw [← HDP.out]
  clear hr hlay
  cases hok : okAll ms
  case false =>
    have HE : Hid (dp = ([], 11)) := Lib.hid (by rw [HDP.out]; unfold drawP; rw [hok]; rfl)
    rw [hok] at HCF
    clear hok
    go_enter Tryz.func10, Tryz.ntmps10
    go_wp2_with fail
    refine HCF.out.mono ?_
    rintro e w1 ⟨rfl, HBX⟩
    go_wp2
    refine bodyPost_ret (v := .tuple #[.slice none 0 0, .int .i64 11]) (by simp [results, Tryz.results10, go_sem]) rfl ?_
    rw [HE.out]
    exact ⟨⟨_, rfl, World.ownsRow_nil _ _ _ _⟩, HBX⟩
  case true =>
    have HOK := Lib.hid hok
    rw [hok] at HCF
    clear hok
    cases hnm : Lex.isName layer
    case false =>
      have HE : Hid (dp = ([], 6)) := Lib.hid (by rw [HDP.out]; unfold drawP; rw [HOK.out, hnm]; rfl)
      rw [hnm] at HIN
      clear hnm
      generalize (⟨layer.toArray⟩ : ByteArray) = L at *
      go_enter Tryz.func10, Tryz.ntmps10
      go_wp2_with fail
      refine HCF.out.mono ?_
      rintro e w1 ⟨rfl, HBX⟩
      go_wp2_with fail
      refine (HIN.out _).mono ?_
      rintro e w2 ⟨rfl, rfl⟩
      go_wp2
      refine bodyPost_ret (v := .tuple #[.slice none 0 0, .int .i64 6]) (by simp [results, Tryz.results10, go_sem]) rfl ?_
      rw [HE.out]
      exact ⟨⟨_, rfl, World.ownsRow_nil _ _ _ _⟩, HBX⟩
    case true =>
      have HE : Hid (dp = if (allEdges ms).length ≤ 200 then (allEdges ms, 0) else ([], 9)) := Lib.hid (by rw [HDP.out]; unfold drawP; rw [HOK.out, hnm]; rfl)
      rw [hnm] at HIN
      clear hnm
      generalize (⟨layer.toArray⟩ : ByteArray) = L at *
      go_enter Tryz.func10, Tryz.ntmps10
      go_wp2_with fail
      refine HCF.out.mono ?_
      rintro e w1 ⟨rfl, hb1⟩
      go_wp2_with fail
      refine (HIN.out _).mono ?_
      rintro e w2 ⟨rfl, rfl⟩
      have HB1 := Lib.hid hb1
      have HR1 := Lib.hid (HR.out.below hb1)
      clear hb1 HCF HIN
      go_wp2
      go_loopw [6, 8, 10, 18] (fun o _ _ i wr => ∃ k : Nat, i = .int .i64 (k : Int) ∧ k ≤ ms.length ∧ Hid (wr.ownsRow w2.heap.size 66 14 o (allEdges (ms.take k)).length ((allEdges (ms.take k)).flatMap (lineCells L))) ∧ Hid (Below w2.heap.size w2 wr)) (fun _ _ _ i _ => ms.length - (intOf i).toNat)
      case atStart => exact ⟨0, rfl, Nat.zero_le _, Lib.hid (World.ownsRow_nil _ _ _ _), Lib.hid (Below.refl _ _)⟩
      case round =>
        obtain ⟨k, rfl, hk, HOW, HB⟩ := hrel
        by_cases hlt : k < ms.length
        · have HTK : Hid (allEdges (ms.take (k + 1)) = allEdges (ms.take k) ++ edgesAll (ringsM ms[k])) := Lib.hid (by rw [List.take_succ_eq_append_getElem hlt, allEdges_snoc])
          obtain ⟨oA, oc, rfl, hoc⟩ := own_shape HOW.out
          have hel : (allEdges (ms.take k)).length ≤ 100 * 840 := Nat.le_trans (allEdges_len _ (okAll_take HOK.out k) (fun m hm => HR1.out.parts m (List.mem_of_mem_take hm))) (Nat.mul_le_mul_right _ (by rw [List.length_take]; omega))
          obtain ⟨g, off, rfl, hg, ca⟩ := row_get shapeL_len (by decide) HR1.out.row (by omega)
          have a0 := (HB.out.cell (p := ⟨g, off + k * 2, none⟩) hg).trans (ca k hlt 0 (by decide))
          have a1 := (HB.out.cell (p := ⟨g, off + k * 2 + 1, none⟩) hg).trans (ca k hlt 1 (by decide))
          have hmm := List.getElem_mem hlt
          have hsb : shapeB ms[k].o.l (holesL ms[k]) = true := by have := HOK.out; unfold okAll at this; exact List.all_eq_true.1 this _ hmm
          have HSE := Lib.hid (fun W (hW : Below w2.heap.size w2 W) => shapeEdges_any ms[k] W ((HR1.out.each _ hmm).below hW) (fun x hx => ⟨(okRings hsb x hx).1, Nat.le_trans (okRings hsb x hx).2 (by omega)⟩))
          have hee := okEdges hsb (HR1.out.parts _ hmm)
          have hep := okPos hsb
          clear ca hmm hsb
          have HUN : Hid (shapeVals ms[k] = #[.slice ms[k].o.A ms[k].o.l.length ms[k].o.k, .slice ms[k].B ms[k].hs.length ms[k].k]) := Lib.hid rfl
          rw [HUN.out] at HSE
          clear HUN
          generalize ms[k] = m at *
          simp only [shapeL, rowVal, holesVal, List.getElem?_cons_zero, List.getElem?_cons_succ] at a0 a1
          obtain ⟨es, hes⟩ : ∃ es, es = edgesAll (ringsM m) := ⟨_, rfl⟩
          rw [← hes] at HTK HSE hee hep
          clear hes
          obtain ⟨ea, hea⟩ : ∃ ea, Hid (ea = allEdges (ms.take k)) := ⟨_, Lib.hid rfl⟩
          rw [← hea.out] at HTK hel
          have hk1 : (0 : Int) ≤ (k : Int) := by omega
          have hk2 : (k : Int) < (ms.length : Int) := by omega
          have HO := Lib.hid (one_vec wr (.cells #[.slice m.o.A m.o.l.length m.o.k, .slice m.B m.hs.length m.k] 29))
          have HBW := Lib.hid (HB.out.trans (HO.out.1.mono HB.out.size))
          have HOW1 : Hid ((wr.alloc (.cells #[.slice m.o.A m.o.l.length m.o.k, .slice m.B m.hs.length m.k] 29)).ownsRow w2.heap.size 66 14 (.slice oA ea.length oc) ea.length (ea.flatMap (lineCells L))) := Lib.hid (by rw [hea.out]; exact HOW.out.alloc _)
          rw [← hea.out]
          clear hea
          have e0 : (wr.alloc (.cells #[.slice m.o.A m.o.l.length m.o.k, .slice m.B m.hs.length m.k] 29)).cell? ⟨wr.heap.size, 0, none⟩ = some (.slice m.o.A m.o.l.length m.o.k) := by rw [Lib.cell_of_heap HO.out.2]; rfl
          have e1 : (wr.alloc (.cells #[.slice m.o.A m.o.l.length m.o.k, .slice m.B m.hs.length m.k] 29)).cell? ⟨wr.heap.size, 1, none⟩ = some (.slice m.B m.hs.length m.k) := by rw [Lib.cell_of_heap HO.out.2]; rfl
          go_wp2_with fail
          clear e0 e1 a0 a1
          generalize wr.alloc (.cells #[.slice m.o.A m.o.l.length m.o.k, .slice m.B m.hs.length m.k] 29) = W at *
          refine (HSE.out _ HBW.out).mono ?_
          rintro e w3 ⟨⟨v3, rfl, hown3⟩, hb3⟩
          have HEO3 := Lib.hid hown3
          obtain ⟨g3, k3, rfl, hk3, hg3b, hg3, _⟩ := own_get seg_len rfl hown3 hep
          have HB3 := Lib.hid (HBW.out.trans (hb3.mono HBW.out.size))
          have HO3 := Lib.hid (own_below HOW1.out hb3)
          clear hown3 hb3 HOW1
          go_wp2
          go_loopw [6, 10, 25] (fun o _ i wr => ∃ j : Nat, i = .int .i64 (j : Int) ∧ j ≤ es.length ∧ Hid (wr.ownsRow w2.heap.size 66 14 o (ea ++ es.take j).length ((ea ++ es.take j).flatMap (lineCells L))) ∧ Hid (wr.ownsRow W.heap.size 74 4 (.slice (some ⟨g3, 0, none⟩) es.length k3) es.length (es.flatMap segCells)) ∧ Hid (Below w2.heap.size w2 wr)) (fun _ _ i _ => es.length - (intOf i).toNat)
          case atStart => exact ⟨0, rfl, Nat.zero_le _, Lib.hid (by rw [List.take_zero, List.append_nil]; exact HO3.out), HEO3, HB3⟩
          case round =>
            obtain ⟨j, rfl, hj, HOJ, HEJ, HBJ⟩ := hrel
            obtain ⟨oA, oc, rfl, hoc⟩ := own_shape HOJ.out
            by_cases hjl : j < es.length
            · have HTJ : Hid (ea ++ es.take (j + 1) = (ea ++ es.take j) ++ [es[j]]) := Lib.hid (by rw [List.take_succ_eq_append_getElem hjl, List.append_assoc])
              have hll : (ea ++ es.take j).length ≤ 100 * 840 + 21 * 40 := by rw [List.length_append, List.length_take]; omega
              obtain ⟨gq, oq, hq, hgq, cq⟩ := row_get seg_len (by decide) (Row.of_own HEJ.out) (by omega)
              simp only [Option.some.injEq, Addr.mk.injEq] at hq
              obtain ⟨hq1, hq2, _⟩ := hq
              subst hq1 hq2
              have d0 := cq j hjl 0 (by decide)
              have d1 := cq j hjl 1 (by decide)
              have d2 := cq j hjl 2 (by decide)
              have d3 := cq j hjl 3 (by decide)
              generalize es[j] = q at *
              obtain ⟨⟨ax, ay⟩, bx, b_y⟩ := q
              simp only [segCells, List.getElem?_cons_zero, List.getElem?_cons_succ, Nat.add_zero, Nat.zero_add] at d0 d1 d2 d3
              generalize ea ++ es.take j = cur at *
              have hj1 : (0 : Int) ≤ (j : Int) := by omega
              have hj2 : (j : Int) < (es.length : Int) := by omega
              have HOB := Lib.hid (one_vec wr (.cells #[.int .i64 ax, .int .i64 ay, .int .i64 bx, .int .i64 b_y] 74))
              have HBE := Lib.hid (HBJ.out.trans (HOB.out.1.mono HBJ.out.size))
              obtain ⟨x0, x1, x2, x3⟩ := quad_at HOB.out.2 (Below.refl _ _)
              have HO4 := Lib.hid (HOJ.out.alloc (.cells #[.int .i64 ax, .int .i64 ay, .int .i64 bx, .int .i64 b_y] 74))
              have HE4 := Lib.hid (HEJ.out.alloc (.cells #[.int .i64 ax, .int .i64 ay, .int .i64 bx, .int .i64 b_y] 74))
              have C2 : Hid (cur.length + 1 ≤ maxLen ∧ (cur.length + 1) * 136 ≤ 140737488355328 ∧ ∀ u ∈ ([.int .i64 1, .string L, .int .i64 ax, .int .i64 ay, .int .i64 bx, .int .i64 b_y, .int .i64 0, .int .i64 0, .int .i64 0, .int .i64 0, .int .i64 0, .int .i64 0, .bool false, .slice none 0 0] : List Value), u.oneCell' = true) := Lib.hid ⟨by unfold maxLen; omega, by omega, by
                have := line_one L [((ax, ay), bx, b_y)]
                simpa [lineCells] using this⟩
              clear cq
              go_upto_region 12 with fail
              clear d0 d1 d2 d3
              generalize wr.alloc (.cells #[.int .i64 ax, .int .i64 ay, .int .i64 bx, .int .i64 b_y] 74) = W5 at *
              go_wp2_with (at_builtin; refine wpList_append_row _ rfl _ _ 30 rfl w2.heap.size 66 i0 _ 14 136 Tryz.underlying30 ia ib ic id rfl (by omega) _ _ _ rfl (HO4.out.alloc (.cells #[.int .i64 1, .string L, .int .i64 ax, .int .i64 ay, .int .i64 bx, .int .i64 b_y, .int .i64 0, .int .i64 0, .int .i64 0, .int .i64 0, .int .i64 0, .int .i64 0, .bool false, .slice none 0 0] 66)) (some ⟨W5.heap.size, 0, none⟩) 1 1 [.int .i64 1, .string L, .int .i64 ax, .int .i64 ay, .int .i64 bx, .int .i64 b_y, .int .i64 0, .int .i64 0, .int .i64 0, .int .i64 0, .int .i64 0, .int .i64 0, .bool false, .slice none 0 0] rfl (newN_row W5 [.int .i64 1, .string L, .int .i64 ax, .int .i64 ay, .int .i64 bx, .int .i64 b_y, .int .i64 0, .int .i64 0, .int .i64 0, .int .i64 0, .int .i64 0, .int .i64 0, .bool false, .slice none 0 0] 66) rfl C2.out.2.2 C2.out.1 C2.out.2.1 (by have := HBE.out.size; simp <;> omega) ?_; intro v' wa hown hg1; have HF1 := Lib.hid (below_append (HBE.out.alloc HBE.out.size (.cells #[.int .i64 1, .string L, .int .i64 ax, .int .i64 ay, .int .i64 bx, .int .i64 b_y, .int .i64 0, .int .i64 0, .int .i64 0, .int .i64 0, .int .i64 0, .int .i64 0, .bool false, .slice none 0 0] 66)) (by have := HBE.out.size; simp <;> omega) (HO4.out.alloc (.cells #[.int .i64 1, .string L, .int .i64 ax, .int .i64 ay, .int .i64 bx, .int .i64 b_y, .int .i64 0, .int .i64 0, .int .i64 0, .int .i64 0, .int .i64 0, .int .i64 0, .bool false, .slice none 0 0] 66)) hg1 (Nat.le_refl _)); have HE5 := Lib.hid (own_keep hg1 ((RowT.own (HO4.out.alloc (.cells #[.int .i64 1, .string L, .int .i64 ax, .int .i64 ay, .int .i64 bx, .int .i64 b_y, .int .i64 0, .int .i64 0, .int .i64 0, .int .i64 0, .int .i64 0, .int .i64 0, .bool false, .slice none 0 0] 66))).weak) (by decide) (HE4.out.alloc (.cells #[.int .i64 1, .string L, .int .i64 ax, .int .i64 ay, .int .i64 bx, .int .i64 b_y, .int .i64 0, .int .i64 0, .int .i64 0, .int .i64 0, .int .i64 0, .int .i64 0, .bool false, .slice none 0 0] 66))); have HP := Lib.hid hown; clear hown hg1)
              clear x0 x1 x2 x3
              go_wp2
              go_roundw
              case rel => exact ⟨j + 1, by go_num, by omega, Lib.hid (by rw [HTJ.out]; simpa [List.flatMap_append, lineCells] using HP.out), HE5, HF1⟩
              case measure => simp [intOf]; omega
            · obtain rfl : j = es.length := by omega
              have HTF : Hid (allEdges (ms.take (k + 1)) = ea ++ es.take es.length) := Lib.hid (by rw [HTK.out, List.take_length])
              go_wp2
              go_roundw
              case rel => exact ⟨k + 1, by go_num, by omega, Lib.hid (by rw [HTF.out]; exact HOJ.out), HBJ⟩
              case measure => simp [intOf]; omega
        · obtain rfl : k = ms.length := by omega
          obtain ⟨oA, oc, rfl, hoc⟩ := own_shape HOW.out
          have HTL : Hid (ms.take ms.length = ms) := Lib.hid List.take_length
          rw [HTL.out] at HOW ⊢
          have HBX0 := Lib.hid (HB1.out.trans (HB.out.mono HB1.out.size))
          have HOX := Lib.hid (own_more HOW.out HB1.out.size)
          clear HTL
          generalize allEdges ms = ea at *
          by_cases h200 : ea.length ≤ 200
          · have d2 : decide (200 < (ea.length : Int)) = false := decide_eq_false (by omega)
            have HEE : Hid (dp = (ea, 0)) := Lib.hid (by rw [HE.out, if_pos h200])
            clear h200
            go_wp2
            refine bodyPost_ret (v := .tuple #[.slice oA ea.length oc, .int .i64 0]) (by simp [results, Tryz.results10, go_sem]) rfl ?_
            rw [HEE.out]
            exact ⟨⟨_, rfl, HOX.out⟩, HBX0.out⟩
          · have d2 : decide (200 < (ea.length : Int)) = true := decide_eq_true (by omega)
            have HEE : Hid (dp = ([], 9)) := Lib.hid (by rw [HE.out, if_neg h200])
            clear h200
            go_wp2
            refine bodyPost_ret (v := .tuple #[.slice none 0 0, .int .i64 9]) (by simp [results, Tryz.results10, go_sem]) rfl ?_
            rw [HEE.out]
            exact ⟨⟨_, rfl, World.ownsRow_nil _ _ _ _⟩, HBX0.out⟩
end Go.Proofs.YtnmmhcchpcbeeaaGreat.GeW

namespace Go.Proofs.YtnmmhcchpcbeeaaGreat.GeW
open Go Go.RowKit Go.Proofs.YtnmmhcchpcbeeaaGreat.Mem Go.Proofs.YtnmmhcchpcbeeaaGreat.Ge
open Go.Proofs.YtnmmhcchpcbeeaaGreat.LexW (isName_any risName_any)
attribute [local go_sem ↓] Go.wp_at_zero Go.wp_at_succ
theorem risName2 (s : List UInt8) (hs : s.length ≤ 1000000) (w : World) : Calls Tryz.prog 38 #[.string ⟨s.toArray⟩] w fun e w' => e = .returned (.bool (Lex.isName s)) ∧ w' = w := by
  have := risName_any ⟨s.toArray⟩ w (by simpa [ByteArray.size] using hs)
  refine this.mono ?_
  rintro e w' ⟨rfl, rfl⟩
  exact ⟨rfl, rfl⟩
theorem info_rent : (Tryz.prog.info? 57).map (fun i => (i.zero, i.size, i.bytes)) = some (some (.agg #[.int .i64 0, .string ⟨#[]⟩, .int .i64 0, .int .i64 0, .int .i64 0, .int .i64 0, .int .i64 0, .int .i64 0, .int .i64 0, .int .i64 0, .int .i64 0, .int .i64 0, .bool false, .slice none 0 0]), 14, 136) := by kernel_rfl
theorem shape_rsame (m : ShapeM) : rshapeB m.o.l (holesL m) = shapeB m.o.l (holesL m) := shape_same _ _
set_option maxRecDepth 100000 in
set_option maxHeartbeats 4000000 in
theorem rdraw_any (ms : List ShapeM) (A : Option Addr) (c : Nat) (layer : List UInt8) (w : World) (hr : ShapesIn w A ms) (hlay : layer.length ≤ 1000000) :
    Calls Tryz.prog 11 #[.slice A ms.length c, .string ⟨layer.toArray⟩] w fun e w' => (∃ v, e = .returned (.tuple #[v, .int .i64 (drawP ms layer).2]) ∧ w'.ownsRow w.heap.size 57 14 v (drawP ms layer).1.length ((drawP ms layer).1.flatMap (lineCells ⟨layer.toArray⟩))) ∧ Below w.heap.size w w' := by
  have HR := Lib.hid hr
  have hfw := hr.few
  have HIN := Lib.hid (fun W => risName2 layer hlay W)
  obtain ⟨i0, ia, ib, ic, id⟩ := info_parts info_rent
  obtain ⟨dp, HDP⟩ : ∃ dp, Hid (dp = drawP ms layer) := ⟨_, Lib.hid rfl⟩
  rw [← HDP.out]
  have HE : Hid (dp = if okAll ms = true then (if Lex.isName layer = true then (if (allEdges ms).length ≤ 200 then (allEdges ms, 0) else ([], 9)) else ([], 6)) else ([], 11)) := Lib.hid (by rw [HDP.out]; rfl)
  clear hr hlay HDP
  generalize (⟨layer.toArray⟩ : ByteArray) = L at *
  go_enter Tryz.func11, Tryz.ntmps11
  go_wp2
  go_loopw [6, 7, 8, 9] (fun o i _ _ wr => ∃ k : Nat, i = .int .i64 (k : Int) ∧ k ≤ ms.length ∧ Hid (okAll (ms.take k) = true) ∧ Hid (wr.ownsRow w.heap.size 57 14 o (allEdges (ms.take k)).length ((allEdges (ms.take k)).flatMap (lineCells L))) ∧ Hid (Below w.heap.size w wr)) (fun _ i _ _ _ => ms.length - (intOf i).toNat)
  case atStart => exact ⟨0, rfl, Nat.zero_le _, Lib.hid rfl, Lib.hid (World.ownsRow_nil _ _ _ _), Lib.hid (Below.refl _ _)⟩
  case round =>
    obtain ⟨k, rfl, hk, HOK, HOW, HB⟩ := hrel
    by_cases hlt : k < ms.length
    · have HTK : Hid (allEdges (ms.take (k + 1)) = allEdges (ms.take k) ++ edgesAll (ringsM ms[k])) := Lib.hid (by rw [List.take_succ_eq_append_getElem hlt, allEdges_snoc])
      have HOK1 : Hid (shapeB ms[k].o.l (holesL ms[k]) = true → okAll (ms.take (k + 1)) = true) := Lib.hid (fun h => by
        have := HOK.out
        unfold okAll at *
        rw [List.take_succ_eq_append_getElem hlt, List.all_append, this]
        simp [h])
      have HNO : Hid (shapeB ms[k].o.l (holesL ms[k]) = false → okAll ms = false) := Lib.hid (fun h => by
        unfold okAll
        rw [List.all_eq_false]
        exact ⟨ms[k], List.getElem_mem hlt, by simp [h]⟩)
      obtain ⟨oA, oc, rfl, hoc⟩ := own_shape HOW.out
      have hel : (allEdges (ms.take k)).length ≤ 100 * 840 := Nat.le_trans (allEdges_len _ HOK.out (fun m hm => HR.out.parts m (List.mem_of_mem_take hm))) (Nat.mul_le_mul_right _ (by rw [List.length_take]; omega))
      obtain ⟨g, off, rfl, hg, ca⟩ := row_get shapeL_len (by decide) HR.out.row (by omega)
      have a0 := (HB.out.cell (p := ⟨g, off + k * 2, none⟩) hg).trans (ca k hlt 0 (by decide))
      have a1 := (HB.out.cell (p := ⟨g, off + k * 2 + 1, none⟩) hg).trans (ca k hlt 1 (by decide))
      have hmm := List.getElem_mem hlt
      have HSV := Lib.hid (fun W (hW : Below w.heap.size w W) => rshapeOk_any ms[k] W ((HR.out.each _ hmm).below hW))
      have HSE := Lib.hid (fun (hsb : shapeB ms[k].o.l (holesL ms[k]) = true) W (hW : Below w.heap.size w W) => rshapeEdges_any ms[k] W ((HR.out.each _ hmm).below hW) (fun x hx => ⟨(okRings hsb x hx).1, Nat.le_trans (okRings hsb x hx).2 (by omega)⟩))
      have HEE := Lib.hid (fun (hsb : shapeB ms[k].o.l (holesL ms[k]) = true) => okEdges hsb (HR.out.parts _ hmm))
      have HEP := Lib.hid (fun (hsb : shapeB ms[k].o.l (holesL ms[k]) = true) => okPos hsb)
      rw [shape_rsame] at HSV
      have HUN : Hid (shapeVals ms[k] = #[.slice ms[k].o.A ms[k].o.l.length ms[k].o.k, .slice ms[k].B ms[k].hs.length ms[k].k]) := Lib.hid rfl
      rw [HUN.out] at HSE HSV
      have A0 := Lib.hid (ca k hlt 0 (by decide))
      have A1 := Lib.hid (ca k hlt 1 (by decide))
      clear hmm HUN ca
      generalize ms[k] = m at *
      simp only [shapeL, rowVal, holesVal, List.getElem?_cons_zero, List.getElem?_cons_succ] at a0 a1 A0 A1
      obtain ⟨es, hes⟩ : ∃ es, es = edgesAll (ringsM m) := ⟨_, rfl⟩
      rw [← hes] at HTK HSE HEE HEP
      clear hes
      have hk1 : (0 : Int) ≤ (k : Int) := by omega
      have hk2 : (k : Int) < (ms.length : Int) := by omega
      cases hsb : shapeB m.o.l (holesL m)
      case false =>
        have HF0 : Hid (dp = ([], 11)) := Lib.hid (by rw [HE.out, HNO.out hsb]; rfl)
        rw [hsb] at HSV
        clear hsb
        go_wp2_with fail
        refine (HSV.out _ HB.out).mono ?_
        rintro e w3 ⟨rfl, hb3⟩
        have HB3 := Lib.hid (HB.out.trans (hb3.mono HB.out.size))
        clear hb3 a0 a1
        go_wp2
        refine bodyPost_ret (v := .tuple #[.slice none 0 0, .int .i64 11]) (by simp [results, Tryz.results11, go_sem]) rfl ?_
        rw [HF0.out]
        exact ⟨⟨_, rfl, World.ownsRow_nil _ _ _ _⟩, HB3.out⟩
      case true =>
        have HOK2 := Lib.hid (HOK1.out hsb)
        have HSE2 := Lib.hid (HSE.out hsb)
        have hee := HEE.out hsb
        have hep := HEP.out hsb
        rw [hsb] at HSV
        clear hsb HSE HEE HEP HOK1 HNO
        obtain ⟨ea, hea⟩ : ∃ ea, Hid (ea = allEdges (ms.take k)) := ⟨_, Lib.hid rfl⟩
        rw [← hea.out] at HTK hel HOW
        rw [← hea.out]
        clear hea
        go_wp2_with fail
        refine (HSV.out _ HB.out).mono ?_
        rintro e w3 ⟨rfl, hb3⟩
        have HB3 := Lib.hid (HB.out.trans (hb3.mono HB.out.size))
        have HO3 := Lib.hid (own_below HOW.out hb3)
        clear hb3 a0 a1
        have a0 := (HB3.out.cell (p := ⟨g, off + k * 2, none⟩) hg).trans A0.out
        have a1 := (HB3.out.cell (p := ⟨g, off + k * 2 + 1, none⟩) hg).trans A1.out
        go_wp2_with fail
        refine (HSE2.out _ HB3.out).mono ?_
        rintro e w4 ⟨⟨v4, rfl, hown4⟩, hb4⟩
        have HEO4 := Lib.hid hown4
        obtain ⟨g3, k3, rfl, hk3, hg3b, hg3, _⟩ := own_get seg_len rfl hown4 hep
        have HB4 := Lib.hid (HB3.out.trans (hb4.mono HB3.out.size))
        have HO4 := Lib.hid (own_below HO3.out hb4)
        clear hown4 hb4 a0 a1
        go_wp2
        go_loopw [6, 9] (fun o i wr => ∃ j : Nat, i = .int .i64 (j : Int) ∧ j ≤ es.length ∧ Hid (wr.ownsRow w.heap.size 57 14 o (ea ++ es.take j).length ((ea ++ es.take j).flatMap (lineCells L))) ∧ Hid (wr.ownsRow w3.heap.size 74 4 (.slice (some ⟨g3, 0, none⟩) es.length k3) es.length (es.flatMap segCells)) ∧ Hid (Below w.heap.size w wr)) (fun _ i _ => es.length - (intOf i).toNat)
        case atStart => exact ⟨0, rfl, Nat.zero_le _, Lib.hid (by rw [List.take_zero, List.append_nil]; exact HO4.out), HEO4, HB4⟩
        case round =>
          obtain ⟨j, rfl, hj, HOJ, HEJ, HBJ⟩ := hrel
          obtain ⟨oA, oc, rfl, hoc⟩ := own_shape HOJ.out
          by_cases hjl : j < es.length
          · have HTJ : Hid (ea ++ es.take (j + 1) = (ea ++ es.take j) ++ [es[j]]) := Lib.hid (by rw [List.take_succ_eq_append_getElem hjl, List.append_assoc])
            have hll : (ea ++ es.take j).length ≤ 100 * 840 + 21 * 40 := by rw [List.length_append, List.length_take]; omega
            have CEL := Lib.hid (fun (W' : World) (h : W'.ownsRow w3.heap.size 74 4 (.slice (some ⟨g3, 0, none⟩) es.length k3) es.length (es.flatMap segCells)) (a : Nat) (ha : a < 4) => (show W'.cell? ⟨g3, j * 4 + a, none⟩ = (segCells es[j])[a]? from by
              obtain ⟨gq, oq, hq, hgq, cq⟩ := row_get seg_len (by decide) (Row.of_own h) (by omega)
              simp only [Option.some.injEq, Addr.mk.injEq] at hq
              obtain ⟨hq1, hq2, _⟩ := hq
              subst hq1 hq2
              have := cq j hjl a ha
              rwa [Nat.zero_add] at this))
            have d0 := CEL.out _ HEJ.out 0 (by decide)
            have d1 := CEL.out _ HEJ.out 1 (by decide)
            have d2 := CEL.out _ HEJ.out 2 (by decide)
            have d3 := CEL.out _ HEJ.out 3 (by decide)
            generalize es[j] = q at *
            obtain ⟨⟨ax, ay⟩, bx, b_y⟩ := q
            simp only [segCells, List.getElem?_cons_zero, List.getElem?_cons_succ, Nat.add_zero] at d0 d1 d2 d3
            generalize ea ++ es.take j = cur at *
            have hj1 : (0 : Int) ≤ (j : Int) := by omega
            have hj2 : (j : Int) < (es.length : Int) := by omega
            have C2 : Hid (cur.length + 1 ≤ maxLen ∧ (cur.length + 1) * 136 ≤ 140737488355328 ∧ ([.int .i64 1, .string L, .int .i64 ax, .int .i64 ay, .int .i64 bx, .int .i64 b_y, .int .i64 0, .int .i64 0, .int .i64 0, .int .i64 0, .int .i64 0, .int .i64 0, .bool false, .slice none 0 0] : List Value).length = 1 * 14 ∧ ∀ u ∈ ([.int .i64 1, .string L, .int .i64 ax, .int .i64 ay, .int .i64 bx, .int .i64 b_y, .int .i64 0, .int .i64 0, .int .i64 0, .int .i64 0, .int .i64 0, .int .i64 0, .bool false, .slice none 0 0] : List Value), u.oneCell' = true) := Lib.hid ⟨by unfold maxLen; omega, by omega, rfl, by
              have := line_one L [((ax, ay), bx, b_y)]
              simpa [lineCells] using this⟩
            have hzw := HBJ.out.size
            go_wp2_with fail
            go_region_held3 (fun w' => w'.cell? ⟨g3, j * 4, none⟩ = some (.int .i64 ax) ∧ w'.cell? ⟨g3, j * 4 + 1, none⟩ = some (.int .i64 ay) ∧ w'.cell? ⟨g3, j * 4 + 2, none⟩ = some (.int .i64 bx) ∧ w'.cell? ⟨g3, j * 4 + 3, none⟩ = some (.int .i64 b_y)) (first | go_keep | exact HC5.out)
              (first | (refine step_append_row (by rfl) _ _ _ (by rfl) w.heap.size 57 i0 _ 14 136 Tryz.underlying34 ia ib ic id rfl (by omega) _ _ _ (by rfl) ((HOJ.out.drew).alloc (.cells #[.int .i64 1, .string L, .int .i64 ax, .int .i64 ay, .int .i64 bx, .int .i64 b_y, .int .i64 0, .int .i64 0, .int .i64 0, .int .i64 0, .int .i64 0, .int .i64 0, .bool false, .slice none 0 0] 57)) _ 1 _ [.int .i64 1, .string L, .int .i64 ax, .int .i64 ay, .int .i64 bx, .int .i64 b_y, .int .i64 0, .int .i64 0, .int .i64 0, .int .i64 0, .int .i64 0, .int .i64 0, .bool false, .slice none 0 0] (by rfl) (newN_row _ [.int .i64 1, .string L, .int .i64 ax, .int .i64 ay, .int .i64 bx, .int .i64 b_y, .int .i64 0, .int .i64 0, .int .i64 0, .int .i64 0, .int .i64 0, .int .i64 0, .bool false, .slice none 0 0] _) C2.out.2.2.1 C2.out.2.2.2 C2.out.1 C2.out.2.1 (by simp <;> omega) ?_; intro v1 wa ho1 hg1; have hF1 := Lib.hid (below_append ((below_drew HBJ.out).alloc hzw (.cells #[.int .i64 1, .string L, .int .i64 ax, .int .i64 ay, .int .i64 bx, .int .i64 b_y, .int .i64 0, .int .i64 0, .int .i64 0, .int .i64 0, .int .i64 0, .int .i64 0, .bool false, .slice none 0 0] 57)) (by simp <;> omega) ((HOJ.out.drew).alloc (.cells #[.int .i64 1, .string L, .int .i64 ax, .int .i64 ay, .int .i64 bx, .int .i64 b_y, .int .i64 0, .int .i64 0, .int .i64 0, .int .i64 0, .int .i64 0, .int .i64 0, .bool false, .slice none 0 0] 57)) hg1 (Nat.le_refl _)); have HE5 := Lib.hid (own_keep hg1 ((RowT.own ((HOJ.out.drew).alloc (.cells #[.int .i64 1, .string L, .int .i64 ax, .int .i64 ay, .int .i64 bx, .int .i64 b_y, .int .i64 0, .int .i64 0, .int .i64 0, .int .i64 0, .int .i64 0, .int .i64 0, .bool false, .slice none 0 0] 57))).weak) (by decide) ((HEJ.out.drew).alloc (.cells #[.int .i64 1, .string L, .int .i64 ax, .int .i64 ay, .int .i64 bx, .int .i64 b_y, .int .i64 0, .int .i64 0, .int .i64 0, .int .i64 0, .int .i64 0, .int .i64 0, .bool false, .slice none 0 0] 57))); have HC5 : Hid (wa.cell? ⟨g3, j * 4, none⟩ = some (.int .i64 ax) ∧ wa.cell? ⟨g3, j * 4 + 1, none⟩ = some (.int .i64 ay) ∧ wa.cell? ⟨g3, j * 4 + 2, none⟩ = some (.int .i64 bx) ∧ wa.cell? ⟨g3, j * 4 + 3, none⟩ = some (.int .i64 b_y)) := Lib.hid ⟨CEL.out _ HE5.out 0 (by decide), CEL.out _ HE5.out 1 (by decide), CEL.out _ HE5.out 2 (by decide), CEL.out _ HE5.out 3 (by decide)⟩; have hP := Lib.hid ho1; clear ho1 hg1))
            all_goals
              clear HC5 CEL
              go_wp2
              go_roundw
              case rel => exact ⟨j + 1, by go_num, by omega, Lib.hid (by rw [HTJ.out]; simpa [List.flatMap_append, lineCells] using hP.out), HE5, hF1⟩
              case measure => simp [intOf]; omega
          · obtain rfl : j = es.length := by omega
            have HTF : Hid (allEdges (ms.take (k + 1)) = ea ++ es.take es.length) := Lib.hid (by rw [HTK.out, List.take_length])
            go_wp2
            go_roundw
            case rel => exact ⟨k + 1, by go_num, by omega, HOK2, Lib.hid (by rw [HTF.out]; exact HOJ.out), HBJ⟩
            case measure => simp [intOf]; omega
    · obtain rfl : k = ms.length := by omega
      obtain ⟨oA, oc, rfl, hoc⟩ := own_shape HOW.out
      have HTL : Hid (ms.take ms.length = ms) := Lib.hid List.take_length
      rw [HTL.out] at HOW HOK ⊢
      clear HTL
      have HE2 : Hid (dp = if Lex.isName layer = true then (if (allEdges ms).length ≤ 200 then (allEdges ms, 0) else ([], 9)) else ([], 6)) := Lib.hid (by rw [HE.out, if_pos HOK.out])
      generalize allEdges ms = ea at *
      cases hnm : Lex.isName layer
      · have HEE : Hid (dp = ([], 6)) := Lib.hid (by rw [HE2.out, hnm]; rfl)
        rw [hnm] at HIN
        clear hnm
        go_wp2_with fail
        refine (HIN.out _).mono ?_
        rintro e w2 ⟨rfl, rfl⟩
        go_wp2
        refine bodyPost_ret (v := .tuple #[.slice none 0 0, .int .i64 6]) (by simp [results, Tryz.results11, go_sem]) rfl ?_
        rw [HEE.out]
        exact ⟨⟨_, rfl, World.ownsRow_nil _ _ _ _⟩, HB.out⟩
      · rw [hnm] at HIN
        by_cases h200 : ea.length ≤ 200
        · have d2 : decide (200 < (ea.length : Int)) = false := decide_eq_false (by omega)
          have HEE : Hid (dp = (ea, 0)) := Lib.hid (by rw [HE2.out, hnm, if_pos rfl, if_pos h200])
          clear h200 hnm
          go_wp2_with fail
          refine (HIN.out _).mono ?_
          rintro e w2 ⟨rfl, rfl⟩
          go_wp2
          refine bodyPost_ret (v := .tuple #[.slice oA ea.length oc, .int .i64 0]) (by simp [results, Tryz.results11, go_sem]) rfl ?_
          rw [HEE.out]
          exact ⟨⟨_, rfl, HOW.out⟩, HB.out⟩
        · have d2 : decide (200 < (ea.length : Int)) = true := decide_eq_true (by omega)
          have HEE : Hid (dp = ([], 9)) := Lib.hid (by rw [HE2.out, hnm, if_pos rfl, if_neg h200])
          clear h200 hnm
          go_wp2_with fail
          refine (HIN.out _).mono ?_
          rintro e w2 ⟨rfl, rfl⟩
          go_wp2
          refine bodyPost_ret (v := .tuple #[.slice none 0 0, .int .i64 9]) (by simp [results, Tryz.results11, go_sem]) rfl ?_
          rw [HEE.out]
          exact ⟨⟨_, rfl, World.ownsRow_nil _ _ _ _⟩, HB.out⟩
end Go.Proofs.YtnmmhcchpcbeeaaGreat.GeW

namespace Go.Proofs.YtnmmhcchpcbeeaaGreat.GeW
open Go Go.RowKit Go.Proofs.YtnmmhcchpcbeeaaGreat.Mem Go.Proofs.YtnmmhcchpcbeeaaGreat.Ge
attribute [local go_sem ↓] Go.wp_at_zero Go.wp_at_succ
set_option maxRecDepth 100000 in
set_option maxHeartbeats 2000000 in
theorem theirs_any (es : List S) (L : ByteArray) (A : Option Addr) (c : Nat) (w : World) (hr : Row w A (es.flatMap (lineCells L))) (hl : es.length ≤ 1000) :
    Calls Tryz.prog 13 #[.slice A es.length c] w fun e w' => (∃ v, e = .returned v ∧ w'.ownsRow w.heap.size 57 14 v es.length (es.flatMap (lineCells L))) ∧ Below w.heap.size w w' := by
  have HR := Lib.hid hr
  obtain ⟨i0, ia, ib, ic, id⟩ := info_parts info_rent
  clear hr
  go_enter Tryz.func13, Tryz.ntmps13
  go_wp2
  go_loopw [3, 4] (fun o i wr => ∃ j : Nat, i = .int .i64 (j : Int) ∧ j ≤ es.length ∧ Hid (wr.ownsRow w.heap.size 57 14 o (es.take j).length ((es.take j).flatMap (lineCells L))) ∧ Hid (Below w.heap.size w wr)) (fun _ i _ => es.length - (intOf i).toNat)
  case atStart => exact ⟨0, rfl, Nat.zero_le _, Lib.hid (World.ownsRow_nil _ _ _ _), Lib.hid (Below.refl _ _)⟩
  case round =>
    obtain ⟨j, rfl, hj, HOJ, HB⟩ := hrel
    by_cases hlt : j < es.length
    · have HTJ : Hid (es.take (j + 1) = es.take j ++ [es[j]]) := Lib.hid (List.take_succ_eq_append_getElem hlt)
      have hll : (es.take j).length ≤ 1000 := by rw [List.length_take]; omega
      obtain ⟨oA, oc, rfl, hoc⟩ := own_shape HOJ.out
      obtain ⟨g, off, rfl, hg, ca⟩ := row_get (line_len L) (by decide) HR.out (by omega)
      have a0 := (HB.out.cell (p := ⟨g, off + j * 14 + 0, none⟩) hg).trans (ca j hlt 0 (by decide))
      have a1 := (HB.out.cell (p := ⟨g, off + j * 14 + 1, none⟩) hg).trans (ca j hlt 1 (by decide))
      have a2 := (HB.out.cell (p := ⟨g, off + j * 14 + 2, none⟩) hg).trans (ca j hlt 2 (by decide))
      have a3 := (HB.out.cell (p := ⟨g, off + j * 14 + 3, none⟩) hg).trans (ca j hlt 3 (by decide))
      have a4 := (HB.out.cell (p := ⟨g, off + j * 14 + 4, none⟩) hg).trans (ca j hlt 4 (by decide))
      have a5 := (HB.out.cell (p := ⟨g, off + j * 14 + 5, none⟩) hg).trans (ca j hlt 5 (by decide))
      have a6 := (HB.out.cell (p := ⟨g, off + j * 14 + 6, none⟩) hg).trans (ca j hlt 6 (by decide))
      have a7 := (HB.out.cell (p := ⟨g, off + j * 14 + 7, none⟩) hg).trans (ca j hlt 7 (by decide))
      have a8 := (HB.out.cell (p := ⟨g, off + j * 14 + 8, none⟩) hg).trans (ca j hlt 8 (by decide))
      have a9 := (HB.out.cell (p := ⟨g, off + j * 14 + 9, none⟩) hg).trans (ca j hlt 9 (by decide))
      have a10 := (HB.out.cell (p := ⟨g, off + j * 14 + 10, none⟩) hg).trans (ca j hlt 10 (by decide))
      have a11 := (HB.out.cell (p := ⟨g, off + j * 14 + 11, none⟩) hg).trans (ca j hlt 11 (by decide))
      have a12 := (HB.out.cell (p := ⟨g, off + j * 14 + 12, none⟩) hg).trans (ca j hlt 12 (by decide))
      have a13 := (HB.out.cell (p := ⟨g, off + j * 14 + 13, none⟩) hg).trans (ca j hlt 13 (by decide))
      generalize es[j] = q at *
      obtain ⟨⟨ax, ay⟩, bx, b_y⟩ := q
      simp only [lineCells, List.getElem?_cons_zero, List.getElem?_cons_succ, Nat.add_zero] at a0 a1 a2 a3 a4 a5 a6 a7 a8 a9 a10 a11 a12 a13
      generalize es.take j = cur at *
      have hj1 : (0 : Int) ≤ (j : Int) := by omega
      have hj2 : (j : Int) < (es.length : Int) := by omega
      have C2 : Hid (cur.length + 1 ≤ maxLen ∧ (cur.length + 1) * 136 ≤ 140737488355328 ∧ ∀ u ∈ ([.int .i64 1, .string L, .int .i64 ax, .int .i64 ay, .int .i64 bx, .int .i64 b_y, .int .i64 0, .int .i64 0, .int .i64 0, .int .i64 0, .int .i64 0, .int .i64 0, .bool false, .slice none 0 0] : List Value), u.oneCell' = true) := Lib.hid ⟨by unfold maxLen; omega, by omega, by
        have := line_one L [((ax, ay), bx, b_y)]
        simpa [lineCells] using this⟩
      clear ca
      go_wp2_with (at_builtin; refine wpList_append_row _ rfl _ _ 34 rfl w.heap.size 57 i0 _ 14 136 Tryz.underlying34 ia ib ic id rfl (by omega) _ _ _ rfl (HOJ.out.alloc (.cells #[.int .i64 1, .string L, .int .i64 ax, .int .i64 ay, .int .i64 bx, .int .i64 b_y, .int .i64 0, .int .i64 0, .int .i64 0, .int .i64 0, .int .i64 0, .int .i64 0, .bool false, .slice none 0 0] 57)) (some ⟨wr.heap.size, 0, none⟩) 1 1 [.int .i64 1, .string L, .int .i64 ax, .int .i64 ay, .int .i64 bx, .int .i64 b_y, .int .i64 0, .int .i64 0, .int .i64 0, .int .i64 0, .int .i64 0, .int .i64 0, .bool false, .slice none 0 0] rfl (newN_row wr [.int .i64 1, .string L, .int .i64 ax, .int .i64 ay, .int .i64 bx, .int .i64 b_y, .int .i64 0, .int .i64 0, .int .i64 0, .int .i64 0, .int .i64 0, .int .i64 0, .bool false, .slice none 0 0] 57) rfl C2.out.2.2 C2.out.1 C2.out.2.1 (by have := HB.out.size; simp <;> omega) ?_; intro v' wa hown hg1; have HF1 := Lib.hid (below_append (HB.out.alloc HB.out.size (.cells #[.int .i64 1, .string L, .int .i64 ax, .int .i64 ay, .int .i64 bx, .int .i64 b_y, .int .i64 0, .int .i64 0, .int .i64 0, .int .i64 0, .int .i64 0, .int .i64 0, .bool false, .slice none 0 0] 57)) (by have := HB.out.size; simp <;> omega) (HOJ.out.alloc (.cells #[.int .i64 1, .string L, .int .i64 ax, .int .i64 ay, .int .i64 bx, .int .i64 b_y, .int .i64 0, .int .i64 0, .int .i64 0, .int .i64 0, .int .i64 0, .int .i64 0, .bool false, .slice none 0 0] 57)) hg1 (Nat.le_refl _)); have HP := Lib.hid hown; clear hown hg1)
      clear a0 a1 a2 a3 a4 a5 a6 a7 a8 a9 a10 a11 a12 a13
      go_wp2
      go_roundw
      case rel => exact ⟨j + 1, by go_num, by omega, Lib.hid (by rw [HTJ.out]; simpa [List.flatMap_append, lineCells] using HP.out), HF1⟩
      case measure => simp [intOf]; omega
    · obtain rfl : j = es.length := by omega
      have HT : Hid (es = es.take es.length) := Lib.hid List.take_length.symm
      have HEL : Hid ((es.take es.length).length = es.length ∧ (es.take es.length).flatMap (lineCells L) = es.flatMap (lineCells L)) := Lib.hid (by rw [List.take_length]; exact ⟨rfl, rfl⟩)
      have HOF := HOJ.out
      rw [HEL.out.1, HEL.out.2] at HOF
      have HO := Lib.hid HOF
      clear HOF
      go_wp2
      go_ret
      exact ⟨⟨_, rfl, HO.out⟩, HB.out⟩
theorem sameNil_any (w : World) : Calls Tryz.prog 39 #[.slice none 0 0, .slice none 0 0] w fun e w' => e = .returned (.bool true) ∧ Below w.heap.size w w' := by
  go_enter Tryz.func39, Tryz.ntmps39
  go_wp2
  go_loopw [5] (fun i wr => i = .int .i64 0 ∧ Hid (Below w.heap.size w wr)) (fun i _ => (intOf i).toNat)
  case atStart => exact ⟨rfl, Lib.hid (Below.refl _ _)⟩
  case round =>
    obtain ⟨rfl, HB⟩ := hrel
    go_wp2
    go_ret
    exact ⟨rfl, HB.out⟩
theorem ba_self (L : ByteArray) : (L == L) = true := by
  cases L with
  | mk d => first | exact beq_self_eq_true d | (show (d == d) = true; simp) | (show decide _ = true; simp)
theorem cells14 {w : World} {b : Nat} {ax ay bx b_y : Int} {L : ByteArray} (h : w.heap[b]? = some (.cells #[.int .i64 1, .string L, .int .i64 ax, .int .i64 ay, .int .i64 bx, .int .i64 b_y, .int .i64 0, .int .i64 0, .int .i64 0, .int .i64 0, .int .i64 0, .int .i64 0, .bool false, .slice none 0 0] 57 (0, 0))) : w.cell? ⟨b, 0, none⟩ = some (.int .i64 1) ∧ w.cell? ⟨b, 1, none⟩ = some (.string L) ∧ w.cell? ⟨b, 2, none⟩ = some (.int .i64 ax) ∧ w.cell? ⟨b, 3, none⟩ = some (.int .i64 ay) ∧ w.cell? ⟨b, 4, none⟩ = some (.int .i64 bx) ∧ w.cell? ⟨b, 5, none⟩ = some (.int .i64 b_y) ∧ w.cell? ⟨b, 6, none⟩ = some (.int .i64 0) ∧ w.cell? ⟨b, 7, none⟩ = some (.int .i64 0) ∧ w.cell? ⟨b, 8, none⟩ = some (.int .i64 0) ∧ w.cell? ⟨b, 9, none⟩ = some (.int .i64 0) ∧ w.cell? ⟨b, 10, none⟩ = some (.int .i64 0) ∧ w.cell? ⟨b, 11, none⟩ = some (.int .i64 0) ∧ w.cell? ⟨b, 12, none⟩ = some (.bool false) ∧ w.cell? ⟨b, 13, none⟩ = some (.slice none 0 0) := by
  refine ⟨?_, ?_, ?_, ?_, ?_, ?_, ?_, ?_, ?_, ?_, ?_, ?_, ?_, ?_⟩ <;> simp [World.cell?, h]
set_option maxRecDepth 100000 in
set_option maxHeartbeats 4000000 in
theorem sameLines_any (es : List S) (L : ByteArray) (A B : Option Addr) (c d : Nat) (w : World) (hr : Row w A (es.flatMap (lineCells L))) (hs : Row w B (es.flatMap (lineCells L))) (hl : es.length ≤ 1000) :
    Calls Tryz.prog 12 #[.slice A es.length c, .slice B es.length d] w fun e w' => e = .returned (.bool true) ∧ Below w.heap.size w w' := by
  have HR := Lib.hid hr
  have HS := Lib.hid hs
  have HSN := Lib.hid (fun W => sameNil_any W)
  have n1 : ((es.length : Int) != (es.length : Int)) = false := bne_self_eq_false ..
  clear hr hs
  go_enter Tryz.func12, Tryz.ntmps12
  go_wp2
  go_loopw [5, 6, 7] (fun i _ _ wr => ∃ j : Nat, i = .int .i64 (j : Int) ∧ j ≤ es.length ∧ Hid (Below w.heap.size w wr)) (fun i _ _ _ => es.length - (intOf i).toNat)
  case atStart => exact ⟨0, rfl, Nat.zero_le _, Lib.hid (Below.refl _ _)⟩
  case round =>
    obtain ⟨j, rfl, hj, HB⟩ := hrel
    by_cases hlt : j < es.length
    · obtain ⟨g, o1, rfl, hg, ca⟩ := row_get (line_len L) (by decide) HR.out (by omega)
      obtain ⟨g2, o2, rfl, hg2, cb⟩ := row_get (line_len L) (by decide) HS.out (by omega)
      have a0 := (HB.out.cell (p := ⟨g, o1 + j * 14 + 0, none⟩) hg).trans (ca j hlt 0 (by decide))
      have a1 := (HB.out.cell (p := ⟨g, o1 + j * 14 + 1, none⟩) hg).trans (ca j hlt 1 (by decide))
      have a2 := (HB.out.cell (p := ⟨g, o1 + j * 14 + 2, none⟩) hg).trans (ca j hlt 2 (by decide))
      have a3 := (HB.out.cell (p := ⟨g, o1 + j * 14 + 3, none⟩) hg).trans (ca j hlt 3 (by decide))
      have a4 := (HB.out.cell (p := ⟨g, o1 + j * 14 + 4, none⟩) hg).trans (ca j hlt 4 (by decide))
      have a5 := (HB.out.cell (p := ⟨g, o1 + j * 14 + 5, none⟩) hg).trans (ca j hlt 5 (by decide))
      have a6 := (HB.out.cell (p := ⟨g, o1 + j * 14 + 6, none⟩) hg).trans (ca j hlt 6 (by decide))
      have a7 := (HB.out.cell (p := ⟨g, o1 + j * 14 + 7, none⟩) hg).trans (ca j hlt 7 (by decide))
      have a8 := (HB.out.cell (p := ⟨g, o1 + j * 14 + 8, none⟩) hg).trans (ca j hlt 8 (by decide))
      have a9 := (HB.out.cell (p := ⟨g, o1 + j * 14 + 9, none⟩) hg).trans (ca j hlt 9 (by decide))
      have a10 := (HB.out.cell (p := ⟨g, o1 + j * 14 + 10, none⟩) hg).trans (ca j hlt 10 (by decide))
      have a11 := (HB.out.cell (p := ⟨g, o1 + j * 14 + 11, none⟩) hg).trans (ca j hlt 11 (by decide))
      have a12 := (HB.out.cell (p := ⟨g, o1 + j * 14 + 12, none⟩) hg).trans (ca j hlt 12 (by decide))
      have a13 := (HB.out.cell (p := ⟨g, o1 + j * 14 + 13, none⟩) hg).trans (ca j hlt 13 (by decide))
      have b0 := (HB.out.cell (p := ⟨g2, o2 + j * 14 + 0, none⟩) hg2).trans (cb j hlt 0 (by decide))
      have b1 := (HB.out.cell (p := ⟨g2, o2 + j * 14 + 1, none⟩) hg2).trans (cb j hlt 1 (by decide))
      have b2 := (HB.out.cell (p := ⟨g2, o2 + j * 14 + 2, none⟩) hg2).trans (cb j hlt 2 (by decide))
      have b3 := (HB.out.cell (p := ⟨g2, o2 + j * 14 + 3, none⟩) hg2).trans (cb j hlt 3 (by decide))
      have b4 := (HB.out.cell (p := ⟨g2, o2 + j * 14 + 4, none⟩) hg2).trans (cb j hlt 4 (by decide))
      have b5 := (HB.out.cell (p := ⟨g2, o2 + j * 14 + 5, none⟩) hg2).trans (cb j hlt 5 (by decide))
      have b6 := (HB.out.cell (p := ⟨g2, o2 + j * 14 + 6, none⟩) hg2).trans (cb j hlt 6 (by decide))
      have b7 := (HB.out.cell (p := ⟨g2, o2 + j * 14 + 7, none⟩) hg2).trans (cb j hlt 7 (by decide))
      have b8 := (HB.out.cell (p := ⟨g2, o2 + j * 14 + 8, none⟩) hg2).trans (cb j hlt 8 (by decide))
      have b9 := (HB.out.cell (p := ⟨g2, o2 + j * 14 + 9, none⟩) hg2).trans (cb j hlt 9 (by decide))
      have b10 := (HB.out.cell (p := ⟨g2, o2 + j * 14 + 10, none⟩) hg2).trans (cb j hlt 10 (by decide))
      have b11 := (HB.out.cell (p := ⟨g2, o2 + j * 14 + 11, none⟩) hg2).trans (cb j hlt 11 (by decide))
      have b12 := (HB.out.cell (p := ⟨g2, o2 + j * 14 + 12, none⟩) hg2).trans (cb j hlt 12 (by decide))
      have b13 := (HB.out.cell (p := ⟨g2, o2 + j * 14 + 13, none⟩) hg2).trans (cb j hlt 13 (by decide))
      have hgr : g < wr.heap.size := Nat.lt_of_lt_of_le hg HB.out.size
      have hgr2 : g2 < wr.heap.size := Nat.lt_of_lt_of_le hg2 HB.out.size
      generalize es[j] = q at *
      obtain ⟨⟨ax, ay⟩, bx, b_y⟩ := q
      simp only [lineCells, List.getElem?_cons_zero, List.getElem?_cons_succ, Nat.add_zero] at a0 a1 a2 a3 a4 a5 a6 a7 a8 a9 a10 a11 a12 a13 b0 b1 b2 b3 b4 b5 b6 b7 b8 b9 b10 b11 b12 b13
      have hj1 : (0 : Int) ≤ (j : Int) := by omega
      have hj2 : (j : Int) < (es.length : Int) := by omega
      have HCA : Hid (wr.cell? ⟨g, o1 + j * 14, none⟩ = some (.int .i64 1) ∧ wr.cell? ⟨g, o1 + j * 14 + 1, none⟩ = some (.string L) ∧ wr.cell? ⟨g, o1 + j * 14 + 2, none⟩ = some (.int .i64 ax) ∧ wr.cell? ⟨g, o1 + j * 14 + 3, none⟩ = some (.int .i64 ay) ∧ wr.cell? ⟨g, o1 + j * 14 + 4, none⟩ = some (.int .i64 bx) ∧ wr.cell? ⟨g, o1 + j * 14 + 5, none⟩ = some (.int .i64 b_y) ∧ wr.cell? ⟨g, o1 + j * 14 + 6, none⟩ = some (.int .i64 0) ∧ wr.cell? ⟨g, o1 + j * 14 + 7, none⟩ = some (.int .i64 0) ∧ wr.cell? ⟨g, o1 + j * 14 + 8, none⟩ = some (.int .i64 0) ∧ wr.cell? ⟨g, o1 + j * 14 + 9, none⟩ = some (.int .i64 0) ∧ wr.cell? ⟨g, o1 + j * 14 + 10, none⟩ = some (.int .i64 0) ∧ wr.cell? ⟨g, o1 + j * 14 + 11, none⟩ = some (.int .i64 0) ∧ wr.cell? ⟨g, o1 + j * 14 + 12, none⟩ = some (.bool false) ∧ wr.cell? ⟨g, o1 + j * 14 + 13, none⟩ = some (.slice none 0 0)) := Lib.hid ⟨a0, a1, a2, a3, a4, a5, a6, a7, a8, a9, a10, a11, a12, a13⟩
      have HCB : Hid (wr.cell? ⟨g2, o2 + j * 14, none⟩ = some (.int .i64 1) ∧ wr.cell? ⟨g2, o2 + j * 14 + 1, none⟩ = some (.string L) ∧ wr.cell? ⟨g2, o2 + j * 14 + 2, none⟩ = some (.int .i64 ax) ∧ wr.cell? ⟨g2, o2 + j * 14 + 3, none⟩ = some (.int .i64 ay) ∧ wr.cell? ⟨g2, o2 + j * 14 + 4, none⟩ = some (.int .i64 bx) ∧ wr.cell? ⟨g2, o2 + j * 14 + 5, none⟩ = some (.int .i64 b_y) ∧ wr.cell? ⟨g2, o2 + j * 14 + 6, none⟩ = some (.int .i64 0) ∧ wr.cell? ⟨g2, o2 + j * 14 + 7, none⟩ = some (.int .i64 0) ∧ wr.cell? ⟨g2, o2 + j * 14 + 8, none⟩ = some (.int .i64 0) ∧ wr.cell? ⟨g2, o2 + j * 14 + 9, none⟩ = some (.int .i64 0) ∧ wr.cell? ⟨g2, o2 + j * 14 + 10, none⟩ = some (.int .i64 0) ∧ wr.cell? ⟨g2, o2 + j * 14 + 11, none⟩ = some (.int .i64 0) ∧ wr.cell? ⟨g2, o2 + j * 14 + 12, none⟩ = some (.bool false) ∧ wr.cell? ⟨g2, o2 + j * 14 + 13, none⟩ = some (.slice none 0 0)) := Lib.hid ⟨b0, b1, b2, b3, b4, b5, b6, b7, b8, b9, b10, b11, b12, b13⟩
      have CS : Hid (∀ w', Below wr.heap.size wr w' → w'.cell? ⟨g, o1 + j * 14, none⟩ = some (.int .i64 1) ∧ w'.cell? ⟨g, o1 + j * 14 + 1, none⟩ = some (.string L) ∧ w'.cell? ⟨g, o1 + j * 14 + 2, none⟩ = some (.int .i64 ax) ∧ w'.cell? ⟨g, o1 + j * 14 + 3, none⟩ = some (.int .i64 ay) ∧ w'.cell? ⟨g, o1 + j * 14 + 4, none⟩ = some (.int .i64 bx) ∧ w'.cell? ⟨g, o1 + j * 14 + 5, none⟩ = some (.int .i64 b_y) ∧ w'.cell? ⟨g, o1 + j * 14 + 6, none⟩ = some (.int .i64 0) ∧ w'.cell? ⟨g, o1 + j * 14 + 7, none⟩ = some (.int .i64 0) ∧ w'.cell? ⟨g, o1 + j * 14 + 8, none⟩ = some (.int .i64 0) ∧ w'.cell? ⟨g, o1 + j * 14 + 9, none⟩ = some (.int .i64 0) ∧ w'.cell? ⟨g, o1 + j * 14 + 10, none⟩ = some (.int .i64 0) ∧ w'.cell? ⟨g, o1 + j * 14 + 11, none⟩ = some (.int .i64 0) ∧ w'.cell? ⟨g, o1 + j * 14 + 12, none⟩ = some (.bool false) ∧ w'.cell? ⟨g, o1 + j * 14 + 13, none⟩ = some (.slice none 0 0) ∧ w'.cell? ⟨g2, o2 + j * 14, none⟩ = some (.int .i64 1) ∧ w'.cell? ⟨g2, o2 + j * 14 + 1, none⟩ = some (.string L) ∧ w'.cell? ⟨g2, o2 + j * 14 + 2, none⟩ = some (.int .i64 ax) ∧ w'.cell? ⟨g2, o2 + j * 14 + 3, none⟩ = some (.int .i64 ay) ∧ w'.cell? ⟨g2, o2 + j * 14 + 4, none⟩ = some (.int .i64 bx) ∧ w'.cell? ⟨g2, o2 + j * 14 + 5, none⟩ = some (.int .i64 b_y) ∧ w'.cell? ⟨g2, o2 + j * 14 + 6, none⟩ = some (.int .i64 0) ∧ w'.cell? ⟨g2, o2 + j * 14 + 7, none⟩ = some (.int .i64 0) ∧ w'.cell? ⟨g2, o2 + j * 14 + 8, none⟩ = some (.int .i64 0) ∧ w'.cell? ⟨g2, o2 + j * 14 + 9, none⟩ = some (.int .i64 0) ∧ w'.cell? ⟨g2, o2 + j * 14 + 10, none⟩ = some (.int .i64 0) ∧ w'.cell? ⟨g2, o2 + j * 14 + 11, none⟩ = some (.int .i64 0) ∧ w'.cell? ⟨g2, o2 + j * 14 + 12, none⟩ = some (.bool false) ∧ w'.cell? ⟨g2, o2 + j * 14 + 13, none⟩ = some (.slice none 0 0) ∧ Below wr.heap.size wr w') := Lib.hid (fun w' hb => ⟨(hb.cell (p := ⟨g, _, none⟩) hgr).trans a0, (hb.cell (p := ⟨g, _, none⟩) hgr).trans a1, (hb.cell (p := ⟨g, _, none⟩) hgr).trans a2, (hb.cell (p := ⟨g, _, none⟩) hgr).trans a3, (hb.cell (p := ⟨g, _, none⟩) hgr).trans a4, (hb.cell (p := ⟨g, _, none⟩) hgr).trans a5, (hb.cell (p := ⟨g, _, none⟩) hgr).trans a6, (hb.cell (p := ⟨g, _, none⟩) hgr).trans a7, (hb.cell (p := ⟨g, _, none⟩) hgr).trans a8, (hb.cell (p := ⟨g, _, none⟩) hgr).trans a9, (hb.cell (p := ⟨g, _, none⟩) hgr).trans a10, (hb.cell (p := ⟨g, _, none⟩) hgr).trans a11, (hb.cell (p := ⟨g, _, none⟩) hgr).trans a12, (hb.cell (p := ⟨g, _, none⟩) hgr).trans a13, (hb.cell (p := ⟨g2, _, none⟩) hgr2).trans b0, (hb.cell (p := ⟨g2, _, none⟩) hgr2).trans b1, (hb.cell (p := ⟨g2, _, none⟩) hgr2).trans b2, (hb.cell (p := ⟨g2, _, none⟩) hgr2).trans b3, (hb.cell (p := ⟨g2, _, none⟩) hgr2).trans b4, (hb.cell (p := ⟨g2, _, none⟩) hgr2).trans b5, (hb.cell (p := ⟨g2, _, none⟩) hgr2).trans b6, (hb.cell (p := ⟨g2, _, none⟩) hgr2).trans b7, (hb.cell (p := ⟨g2, _, none⟩) hgr2).trans b8, (hb.cell (p := ⟨g2, _, none⟩) hgr2).trans b9, (hb.cell (p := ⟨g2, _, none⟩) hgr2).trans b10, (hb.cell (p := ⟨g2, _, none⟩) hgr2).trans b11, (hb.cell (p := ⟨g2, _, none⟩) hgr2).trans b12, (hb.cell (p := ⟨g2, _, none⟩) hgr2).trans b13, hb⟩)
      clear ca cb
      have q4 := Below.refl wr.heap.size wr
      go_upto_region 6 with fail
      go_cut [6, 7] from 19 to 26 (fun p q wc => ∃ b1 b2, p = .pointer (some ⟨b1, 0, none⟩) ∧ q = .pointer (some ⟨b2, 0, none⟩) ∧ wc.heap[b1]? = some (.cells #[.int .i64 1, .string L, .int .i64 ax, .int .i64 ay, .int .i64 bx, .int .i64 b_y, .int .i64 0, .int .i64 0, .int .i64 0, .int .i64 0, .int .i64 0, .int .i64 0, .bool false, .slice none 0 0] 57 (0, 0)) ∧ wc.heap[b2]? = some (.cells #[.int .i64 1, .string L, .int .i64 ax, .int .i64 ay, .int .i64 bx, .int .i64 b_y, .int .i64 0, .int .i64 0, .int .i64 0, .int .i64 0, .int .i64 0, .int .i64 0, .bool false, .slice none 0 0] 57 (0, 0)) ∧ Below wr.heap.size wr wc)
      case first =>
        go_wp2_with fail
        go_region_held3 (fun w' => w'.cell? ⟨g, o1 + j * 14, none⟩ = some (.int .i64 1) ∧ w'.cell? ⟨g, o1 + j * 14 + 1, none⟩ = some (.string L) ∧ w'.cell? ⟨g, o1 + j * 14 + 2, none⟩ = some (.int .i64 ax) ∧ w'.cell? ⟨g, o1 + j * 14 + 3, none⟩ = some (.int .i64 ay) ∧ w'.cell? ⟨g, o1 + j * 14 + 4, none⟩ = some (.int .i64 bx) ∧ w'.cell? ⟨g, o1 + j * 14 + 5, none⟩ = some (.int .i64 b_y) ∧ w'.cell? ⟨g, o1 + j * 14 + 6, none⟩ = some (.int .i64 0) ∧ w'.cell? ⟨g, o1 + j * 14 + 7, none⟩ = some (.int .i64 0) ∧ w'.cell? ⟨g, o1 + j * 14 + 8, none⟩ = some (.int .i64 0) ∧ w'.cell? ⟨g, o1 + j * 14 + 9, none⟩ = some (.int .i64 0) ∧ w'.cell? ⟨g, o1 + j * 14 + 10, none⟩ = some (.int .i64 0) ∧ w'.cell? ⟨g, o1 + j * 14 + 11, none⟩ = some (.int .i64 0) ∧ w'.cell? ⟨g, o1 + j * 14 + 12, none⟩ = some (.bool false) ∧ w'.cell? ⟨g, o1 + j * 14 + 13, none⟩ = some (.slice none 0 0) ∧ w'.cell? ⟨g2, o2 + j * 14, none⟩ = some (.int .i64 1) ∧ w'.cell? ⟨g2, o2 + j * 14 + 1, none⟩ = some (.string L) ∧ w'.cell? ⟨g2, o2 + j * 14 + 2, none⟩ = some (.int .i64 ax) ∧ w'.cell? ⟨g2, o2 + j * 14 + 3, none⟩ = some (.int .i64 ay) ∧ w'.cell? ⟨g2, o2 + j * 14 + 4, none⟩ = some (.int .i64 bx) ∧ w'.cell? ⟨g2, o2 + j * 14 + 5, none⟩ = some (.int .i64 b_y) ∧ w'.cell? ⟨g2, o2 + j * 14 + 6, none⟩ = some (.int .i64 0) ∧ w'.cell? ⟨g2, o2 + j * 14 + 7, none⟩ = some (.int .i64 0) ∧ w'.cell? ⟨g2, o2 + j * 14 + 8, none⟩ = some (.int .i64 0) ∧ w'.cell? ⟨g2, o2 + j * 14 + 9, none⟩ = some (.int .i64 0) ∧ w'.cell? ⟨g2, o2 + j * 14 + 10, none⟩ = some (.int .i64 0) ∧ w'.cell? ⟨g2, o2 + j * 14 + 11, none⟩ = some (.int .i64 0) ∧ w'.cell? ⟨g2, o2 + j * 14 + 12, none⟩ = some (.bool false) ∧ w'.cell? ⟨g2, o2 + j * 14 + 13, none⟩ = some (.slice none 0 0) ∧ Below wr.heap.size wr w')
          (first | assumption | exact CS.out _ (by (repeat (with_reducible first | assumption | exact Below.refl _ _ | refine below_drew ?_ | refine bel_alloc ?_ _ | (refine bel_set ?_ (by simp <;> omega) _)))))
          (first | fail | fail)
        all_goals
          go_wp2_with fail
          go_meet
        all_goals first
          | exact ⟨_, _, rfl, rfl, (two_vecs wr _ _).1, (two_vecs wr _ _).2, by (repeat (with_reducible first | assumption | exact Below.refl _ _ | refine below_drew ?_ | refine bel_alloc ?_ _ | (refine bel_set ?_ (by simp <;> omega) _)))⟩
          | exact ⟨_, _, rfl, rfl, (two_vecs wr _ _).2, (two_vecs wr _ _).1, by (repeat (with_reducible first | assumption | exact Below.refl _ _ | refine below_drew ?_ | refine bel_alloc ?_ _ | (refine bel_set ?_ (by simp <;> omega) _)))⟩
      case rest =>
        obtain ⟨g8, g9, rfl, rfl, hg8, hg9, hbc⟩ := hcut
        have HBC := Lib.hid (HB.out.trans (hbc.mono HB.out.size))
        clear a0 a1 a2 a3 a4 a5 a6 a7 a8 a9 a10 a11 a12 a13 b0 b1 b2 b3 b4 b5 b6 b7 b8 b9 b10 b11 b12 b13 CS HCA HCB q4
        obtain ⟨a0, a1, a2, a3, a4, a5, a6, a7, a8, a9, a10, a11, a12, a13⟩ := cells14 hg8
        obtain ⟨b0, b1, b2, b3, b4, b5, b6, b7, b8, b9, b10, b11, b12, b13⟩ := cells14 hg9
        have e1 : ∀ W, (binOp .neq 53 (.agg #[.int .i64 ax, .int .i64 ay]) (.agg #[.int .i64 ax, .int .i64 ay])).run Tryz.prog W = .ok (.bool false) W := fun W => by rw [neq_vec, decide_eq_true rfl]; rfl
        have e2 : ∀ W, (binOp .neq 53 (.agg #[.int .i64 bx, .int .i64 b_y]) (.agg #[.int .i64 bx, .int .i64 b_y])).run Tryz.prog W = .ok (.bool false) W := fun W => by rw [neq_vec, decide_eq_true rfl]; rfl
        have e3 : ∀ W, (binOp .neq 55 (.agg #[.int .i64 0, .int .i64 0, .int .i64 0, .int .i64 0, .int .i64 0, .int .i64 0, .bool false]) (.agg #[.int .i64 0, .int .i64 0, .int .i64 0, .int .i64 0, .int .i64 0, .int .i64 0, .bool false])).run Tryz.prog W = .ok (.bool false) W := fun W => by kernel_rfl
        have e4 : (L != L) = false := by rw [bne, ba_self L]; rfl
        go_wp2_with fail
        refine (HSN.out _).mono ?_
        rintro e w9 ⟨rfl, hb9⟩
        have HB9 := Lib.hid (HBC.out.trans (hb9.mono HBC.out.size))
        clear a0 a1 a2 a3 a4 a5 a6 a7 a8 a9 a10 a11 a12 a13 b0 b1 b2 b3 b4 b5 b6 b7 b8 b9 b10 b11 b12 b13 hb9 e1 e2 e3 e4
        go_wp2
        go_roundw
        case rel => exact ⟨j + 1, by go_num, by omega, HB9⟩
        case measure => simp [intOf]; omega
    · obtain rfl : j = es.length := by omega
      go_wp2
      go_ret
      exact ⟨rfl, HB.out⟩
end Go.Proofs.YtnmmhcchpcbeeaaGreat.GeW
