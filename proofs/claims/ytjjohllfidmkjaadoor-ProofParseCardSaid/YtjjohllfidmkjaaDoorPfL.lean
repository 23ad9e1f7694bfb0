/- Walk: the program's reader of leaves. Conditions: the reader lies in memory; the library's variables hold what a start lays; the text has at most a million bytes. -/
import Derived.Test.YtjjohllfidmkjaaDoorPfH
import Derived.Test.YtjjohllfidmkjaaDoorPfC1
import Derived.Test.YtjjohllfidmkjaaDoorPfQ2
import Derived.Deep.LoopGhost
import Derived.Deep.AppendLies
import Derived.Outline
namespace Go.Proofs.YtjjohllfidmkjaaDoor.PfW
open Go Go.RowKit Go.Proofs.YtjjohllfidmkjaaDoor.Mem Go.Proofs.YtjjohllfidmkjaaDoor.Pf
attribute [local go_sem ↓] Go.wp_at_zero Go.wp_at_succ

def LeafRet (br nd : Nat) (r : Option (List Int × List UInt8)) (w : World) (e : Ending) (w' : World) : Prop :=
  w.grownBy w' (some br) ∧ match r with
    | some (l, t) => ∃ A c, e = .returned (.tuple #[.agg #[.int .i64 0, .slice none 0 0, .slice A l.length c], .bool true]) ∧ w'.heap[br]? = some (rdO t nd) ∧ l.length ≤ c ∧ RowS (fun g => w.heap.size ≤ g) w' A (intCells l)
    | none => e = .returned (.tuple #[.agg #[.int .i64 0, .slice none 0 0, .slice none 0 0], .bool false]) ∧ ∃ t, w'.heap[br]? = some (rdO t nd) ∧ t.length ≤ 1000000
/-- Where the reader of a leaf stands. -/
structure LeafSt (br nd : Nat) (w : World) (acc : List Int) (s : List UInt8) (v : Value) (wr : World) : Prop where
  rd : wr.heap[br]? = some (rdO s nd)
  res : wr.heap[w.heap.size]? = some (.cells #[.int .i64 0, .slice none 0 0, .slice none 0 0] 38 (0, 0))
  box : wr.heap[w.heap.size + 1]? = some (.cells #[.int .i64 0, .slice none 0 0, v] 38 (0, 0))
  own : wr.ownsRow (w.heap.size + 2) 3 1 v acc.length (intCells acc)
  grow : w.grownBy wr (some br)
  lt : br < w.heap.size
  few : acc.length ≤ 40
  len : s.length ≤ 1000000
theorem LeafSt.step {br nd : Nat} {w wr w' : World} {acc : List Int} {s t : List UInt8} {v : Value} (h : LeafSt br nd w acc s v wr) (hr : w'.heap[br]? = some (rdO t nd)) (hg : wr.grownBy w' (some br)) (hl : t.length ≤ 1000000) : LeafSt br nd w acc t v w' := by
  have hlt := h.own.lt
  have h1 := lt_of_block h.res
  have h2 := lt_of_block h.box
  have h3 := h.lt
  refine ⟨hr, (hg.block _ h1 (by intro e; cases e; omega)).trans h.res, (hg.block _ h2 (by intro e; cases e; omega)).trans h.box, ⟨h.own.1, ?_⟩, grown_trans h.grow hg, h3, h.few, hl⟩
  rcases h.own.2 with h0 | ⟨g, cap, cur, hv, hb, hh, r⟩
  · exact .inl h0
  · refine .inr ⟨g, cap, cur, hv, hb, ?_, r⟩
    rw [hg.block g (lt_of_block hh) (by intro e; cases e; omega)]; exact hh
theorem grown_new {w w' : World} {b k : Nat} (h : w.grownBy w' (some b)) (hk : w.heap.size ≤ k) (j : Nat) (v : Value) : w.grownBy (w'.setCell ⟨k, j, none⟩ v) (some b) :=
  ⟨h.os, h.tape, h.output, by have := h.size; show w.heap.size ≤ (w'.setCell _ _).heap.size; simp [World.setCell]; exact this, fun i hi hne => by rw [Below.heap_setCell _ _ _ _ (by show i ≠ k; omega)]; exact h.block i hi hne⟩
theorem three_new_set {w w' : World} {b k : Nat} (h : w.grownBy w' (some b)) (hk : w.heap.size ≤ k) (x y z : Value) : w.grownBy (((w'.setCell ⟨k, 0, none⟩ x).setCell ⟨k, 1, none⟩ y).setCell ⟨k, 2, none⟩ z) (some b) :=
  grown_new (grown_new (grown_new h hk 0 x) hk 1 y) hk 2 z
theorem three_far (w : World) (k g : Nat) (x y z : Value) (h : g ≠ k) : (((w.setCell ⟨k, 0, none⟩ x).setCell ⟨k, 1, none⟩ y).setCell ⟨k, 2, none⟩ z).heap[g]? = w.heap[g]? := by
  rw [Below.heap_setCell _ _ _ _ h, Below.heap_setCell _ _ _ _ h, Below.heap_setCell _ _ _ _ h]
theorem LeafSt.push {br nd : Nat} {w wr w1 w2 : World} {acc : List Int} {s : List UInt8} {v : Value} {x : Int} {g c : Nat} (h : LeafSt br nd w acc s v wr) (hb : Below wr.heap.size wr w1)
    (hown : w2.ownsRow (w.heap.size + 2) 3 1 (.slice (some ⟨g, 0, none⟩) (acc.length + 1) c) (acc.length + 1) (intCells acc ++ [.int .i64 x])) (hg : w1.grownBy w2 v.ownBlock) (hf : acc.length < 40) :
    LeafSt br nd w (acc ++ [x]) s (.slice (some ⟨g, 0, none⟩) (acc.length + 1) c) (w2.setCell ⟨w.heap.size + 1, 2, none⟩ (.slice (some ⟨g, 0, none⟩) (acc.length + 1) c)) := by
  have hlt := h.own.lt
  have h1 := lt_of_block h.res
  have h2 := lt_of_block h.box
  have h3 := h.lt
  have hz := hb.size
  have ne : ∀ k, k < w.heap.size + 2 → some k ≠ v.ownBlock := fun k hk e => by have := hlt k e.symm; omega
  have hgo := hown.lt g rfl
  have bx2 : w2.heap[w.heap.size + 1]? = some (.cells #[.int .i64 0, .slice none 0 0, v] 38 (0, 0)) := (hg.block _ (by omega) (ne _ (by omega))).trans ((hb.block _ h2).trans h.box)
  refine ⟨?_, ?_, ?_, ?_, ?_, h3, ?_, h.len⟩
  · rw [Below.heap_setCell _ _ _ _ (by show br ≠ w.heap.size + 1; omega), hg.block _ (by omega) (ne _ (by omega)), hb.block _ (by omega)]; exact h.rd
  · rw [Below.heap_setCell _ _ _ _ (by show w.heap.size ≠ w.heap.size + 1; omega), hg.block _ (by omega) (ne _ (by omega)), hb.block _ (by omega)]; exact h.res
  · have hlt2 := lt_of_block bx2
    have h' : w2.heap[w.heap.size + 1] = .cells #[.int .i64 0, .slice none 0 0, v] 38 (0, 0) := by simpa [Array.getElem?_eq_getElem hlt2] using bx2
    show (w2.heap.modify _ _)[w.heap.size + 1]? = _
    rw [Array.getElem?_eq_getElem (by simpa using hlt2), Array.getElem_modify_self, h']; rfl
  · rw [List.length_append]
    have e : intCells (acc ++ [x]) = intCells acc ++ [.int .i64 x] := by simp [intCells]
    rw [e]
    exact ownsRow_setCell_other hown (fun e => by have e' : some g = some (w.heap.size + 1) := e; cases e'; omega) _
  · have hg2 : w.grownBy w2 (some br) := ⟨hg.os.trans (hb.os.trans h.grow.os), hg.tape.trans (hb.tape.trans h.grow.tape), hg.output.trans (hb.output.trans h.grow.output), Nat.le_trans h.grow.size (Nat.le_trans hb.size hg.size), fun i hi hne => by
      rw [hg.block i (by have := h.grow.size; omega) (ne i (by omega)), hb.block i (by have := h.grow.size; omega)]; exact h.grow.block i hi hne⟩
    exact grown_new hg2 (by omega) 2 _
  · rw [List.length_append]; simp; omega
theorem leaf_end {f : Nat} {acc : List Int} {s : List UInt8} (h : hp s 41 = true) : pLeaf (f + 1) acc s = some (acc, tp s 41) := by rw [pLeaf, if_pos h]
theorem leaf_sep {f : Nat} {acc : List Int} {s : List UInt8} (h : hp s 41 = false) (h1 : 0 < acc.length) (h2 : hp s 32 = false) : pLeaf (f + 1) acc s = none := by rw [pLeaf, if_neg (by rw [h]; simp), if_pos ⟨h1, h2⟩]
theorem leaf_full {f : Nat} {acc : List Int} {s : List UInt8} (h : hp s 41 = false) (h2 : hp s 32 = true) (h1 : acc.length = 40) : pLeaf (f + 1) acc s = none := by rw [pLeaf, if_neg (by rw [h]; simp), if_neg (by rw [h2]; simp), if_pos h1]
theorem leaf_go {f : Nat} {acc : List Int} {s r : List UInt8} (h : hp s 41 = false) (h1 : (acc.length = 0 ∧ r = s) ∨ (0 < acc.length ∧ hp s 32 = true ∧ acc.length ≠ 40 ∧ r = tp s 32)) :
    pLeaf (f + 1) acc s = match pNum r with | none => none | some (n, r2) => pLeaf f (acc ++ [n]) r2 := by
  rcases h1 with ⟨h1, rfl⟩ | ⟨h1, h2, h3, rfl⟩
  · rw [pLeaf, if_neg (by rw [h]; simp), if_neg (by omega), if_neg (by omega), if_neg (by omega)]
    cases pNum r <;> rfl
  · rw [pLeaf, if_neg (by rw [h]; simp), if_neg (by rw [h2]; simp), if_neg h3, if_pos h1]
    cases pNum (tp s 32) <;> rfl
theorem heap_lt_iff {w w' : World} {g : Nat} (h : w'.heap[g]? = w.heap[g]?) (hlt : g < w.heap.size) : g < w'.heap.size := by
  rw [Array.getElem?_eq_getElem hlt] at h
  exact lt_of_block h
theorem info_int' : (Tryd.prog.info? 3).map (fun i => (i.zero, i.size, i.bytes)) = some (some (.int .i64 0), 1, 8) := by kernel_rfl
set_option maxRecDepth 100000 in
set_option maxHeartbeats 4000000 in
theorem leaf_any (F : Nat) (s : List UInt8) (nd br : Nat) (w : World) (hG : Glob w) (h3 : 3 ≤ br) (hs : s.length ≤ 1000000) (hF : s.length < F) (hb : w.heap[br]? = some (rdO s nd)) :
    Calls Tryd.prog 72 #[.pointer (some ⟨br, 0, none⟩)] w (LeafRet br nd (pLeaf F [] s) w) := by
  have HG := Lib.hid hG
  have HBB := Lib.hid (two_boxes w (.cells #[.int .i64 0, .slice none 0 0, .slice none 0 0] 38) (.cells #[.int .i64 0, .slice none 0 0, .slice none 0 0] 38))
  have hlt := lt_of_block hb
  have HS0 : Hid (LeafSt br nd w [] s (.slice none 0 0) ((w.alloc (.cells #[.int .i64 0, .slice none 0 0, .slice none 0 0] 38)).alloc (.cells #[.int .i64 0, .slice none 0 0, .slice none 0 0] 38))) := Lib.hid ⟨(HBB.out.1.block _ hlt).trans hb, HBB.out.2.1, HBB.out.2.2, World.ownsRow_nil _ _ _ _, grown_of_below HBB.out.1, hlt, by simp, hs⟩
  obtain ⟨i0, ia, ib, ic, id⟩ := info_parts info_int'
  obtain ⟨FIN, hFI⟩ : ∃ FIN, Hid (pLeaf F [] s = FIN) := ⟨_, Lib.hid rfl⟩
  rw [hFI.out]
  have HFF := Lib.hid hF
  clear hb hG hs hF
  go_enter Tryd.func72, Tryd.ntmps72
  go_wp2
  generalize (w.alloc (.cells #[.int .i64 0, .slice none 0 0, .slice none 0 0] 38)).alloc (.cells #[.int .i64 0, .slice none 0 0, .slice none 0 0] 38) = W0 at *
  go_loopg [5] F (fun f _ wr => ∃ (acc : List Int) (t : List UInt8) (v : Value), Hid (pLeaf f acc t = FIN) ∧ Hid (t.length < f) ∧ Hid (LeafSt br nd w acc t v wr))
  case atStart => exact ⟨[], s, .slice none 0 0, hFI, HFF, HS0⟩
  case round =>
    obtain ⟨acc, t, v, HFI, HLT, HS⟩ := hrel
    rcases gk with _ | f
    · exact absurd HLT.out (Nat.not_lt_zero _)
    have HK := Lib.hid (skip_any t 41 nd br wr HS.out.rd)
    clear hFI HFF HS0
    cases hq : hp t 41
    · have HNO := Lib.hid hq
      have htp := tp_no hq
      rw [hq, htp] at HK
      clear hq htp
      by_cases ha : acc.length = 0
      · obtain rfl : acc = [] := List.eq_nil_of_length_eq_zero ha
        clear ha
        go_wp2_with fail
        refine HK.out.mono ?_
        rintro e w1 ⟨rfl, hr1, hg1⟩
        have HS1 := Lib.hid (HS.out.step hr1 hg1 HS.out.len)
        clear hr1 hg1
        obtain ⟨vA, vc, rfl, hvc⟩ := own_shape HS1.out.own
        obtain ⟨b0, b1, b2⟩ := cell3 HS1.out.box
        simp only [List.length_nil] at b2
        cases hn : pNum t with
        | none =>
          have HFE : Hid (FIN = none) := Lib.hid (by rw [← HFI.out, leaf_go HNO.out (.inl ⟨rfl, rfl⟩), hn])
          have HN := Lib.hid (number_any t nd br _ (HG.out.grown HS1.out.grow h3) HS1.out.len HS1.out.rd)
          rw [hn] at HN
          clear hn
          go_wp2_with fail
          refine HN.out.mono ?_
          rintro e w4 ⟨hg4, ⟨x4, rfl⟩, t4, hr4, hl4⟩
          have HSF := Lib.hid (HS1.out.step hr4 hg4 hl4)
          clear hg4 hr4 hl4
          obtain ⟨r0, r1, r2⟩ := cell3 HSF.out.res
          have q0 := free3 HSF.out.res 0
          have q1 := free3 HSF.out.res 1
          have q2 := free3 HSF.out.res 2
          have qz := lt_of_block HSF.out.res
          go_wp2
          refine bodyPost_ret (v := .tuple #[.agg #[.int .i64 0, .slice none 0 0, .slice none 0 0], .bool false]) (by simp [results, Tryd.results72, go_sem, r0, r1, r2]) rfl ?_
          rw [HFE.out]
          exact ⟨three_new_set HSF.out.grow (Nat.le_refl _) _ _ _, rfl, _, (three_far _ _ _ _ _ _ (by have := HSF.out.lt; omega)).trans HSF.out.rd, HSF.out.len⟩
        | some p =>
          obtain ⟨x, r2⟩ := p
          have HFE : Hid (pLeaf f (([] : List Int) ++ [x]) r2 = FIN) := Lib.hid (by rw [← HFI.out, leaf_go HNO.out (.inl ⟨rfl, rfl⟩), hn])
          have hrl := pNum_len hn
          have HRL : Hid (r2.length < f) := Lib.hid (by have := HLT.out; have := Nat.le_refl t.length; omega)
          have HN := Lib.hid (number_any t nd br _ (HG.out.grown HS1.out.grow h3) HS1.out.len HS1.out.rd)
          have hll := HS1.out.len
          rw [hn] at HN
          clear hn
          go_wp2_with fail
          refine HN.out.mono ?_
          rintro e w4 ⟨hg4, rfl, hr4⟩
          have HS4 := Lib.hid (HS1.out.step hr4 hg4 (by omega))
          clear hg4 hr4 hrl hll
          obtain ⟨b0, b1, b2⟩ := cell3 HS4.out.box
          have bf := free3 HS4.out.box 2
          have bz := lt_of_block HS4.out.box
          have OWN := Lib.hid HS4.out.own
          have hfew := HS4.out.few
          have hzz : w.heap.size + 2 ≤ w4.heap.size := by omega
          go_wp2_with (at_builtin; refine wpList_append_lies _ rfl _ _ 27 rfl (w.heap.size + 2) 3 i0 _ 1 8 Tryd.underlying27 ia ib ic id rfl (by omega) (.slice vA 0 vc) 0 (intCells ([] : List Int)) rfl (OWN.out.alloc _) ⟨w4.heap.size, 0, none⟩ 1 1 [.int .i64 x] rfl rfl (World.news_of_block (cs := #[.int .i64 x]) (t := 3) (fr := (0, 0)) (heap_alloc_new w4 _)) (by simp [Value.oneCell']) (by omega) (by unfold maxLen; omega) (by omega) (by simp; omega) (w4.heap.size + 1) (by simp) ?_)
          intro gq cq w5 hown5 hgrow5 _ _
          have HP5 := Lib.hid (HS4.out.push ((Below.refl w4.heap.size w4).alloc (Nat.le_refl _) _) hown5 hgrow5 (by simp))
          have nb : some (w.heap.size + 1) ≠ (Value.slice vA 0 vc).ownBlock := fun e => by have := (OWN.out.lt _ e.symm).1; omega
          have k5 := (hgrow5.block _ (by simp; omega) nb).trans ((heap_alloc_old w4 _ bz).trans HS4.out.box)
          obtain ⟨d0, d1, d2⟩ := cell3 k5
          have df := free3 k5 2
          have dz := lt_of_block k5
          clear k5 hgrow5 hown5 b0 b1 b2 bf bz nb
          go_wp2
          go_roundg f
          case measure => omega
          case rel => exact ⟨([] : List Int) ++ [x], r2, _, HFE, HRL, HP5⟩
      · have hk32 := Lib.hid (fun W h => skip_any t 32 nd br W h)
        have hpos : 0 < acc.length := by omega
        cases hq2 : hp t 32
        · have HFE : Hid (FIN = none) := Lib.hid (by rw [← HFI.out, leaf_sep HNO.out hpos hq2])
          rw [hq2, tp_no hq2] at hk32
          clear hq2
          go_wp2_with fail
          refine HK.out.mono ?_
          rintro e w1 ⟨rfl, hr1, hg1⟩
          have HS1 := Lib.hid (HS.out.step hr1 hg1 HS.out.len)
          clear hr1 hg1
          obtain ⟨vA, vc, rfl, hvc⟩ := own_shape HS1.out.own
          obtain ⟨b0, b1, b2⟩ := cell3 HS1.out.box
          go_wp2_with fail
          refine (hk32.out _ HS1.out.rd).mono ?_
          rintro e w2 ⟨rfl, hr2, hg2⟩
          have HSF := Lib.hid (HS1.out.step hr2 hg2 HS1.out.len)
          clear hr2 hg2 b0 b1 b2
          obtain ⟨r0, r1, r2⟩ := cell3 HSF.out.res
          have q0 := free3 HSF.out.res 0
          have q1 := free3 HSF.out.res 1
          have q2 := free3 HSF.out.res 2
          have qz := lt_of_block HSF.out.res
          go_wp2
          refine bodyPost_ret (v := .tuple #[.agg #[.int .i64 0, .slice none 0 0, .slice none 0 0], .bool false]) (by simp [results, Tryd.results72, go_sem, r0, r1, r2]) rfl ?_
          rw [HFE.out]
          exact ⟨three_new_set HSF.out.grow (Nat.le_refl _) _ _ _, rfl, _, (three_far _ _ _ _ _ _ (by have := HSF.out.lt; omega)).trans HSF.out.rd, HSF.out.len⟩
        · have HQ2 := Lib.hid hq2
          have htl := tp_len hq2
          rw [hq2] at hk32
          clear hq2
          by_cases h40 : acc.length = 40
          · have HFE : Hid (FIN = none) := Lib.hid (by rw [← HFI.out, leaf_full HNO.out HQ2.out h40])
            have e40 : ((acc.length : Int) == 40) = true := by simp; omega
            go_wp2_with fail
            refine HK.out.mono ?_
            rintro e w1 ⟨rfl, hr1, hg1⟩
            have HS1 := Lib.hid (HS.out.step hr1 hg1 HS.out.len)
            clear hr1 hg1
            obtain ⟨vA, vc, rfl, hvc⟩ := own_shape HS1.out.own
            obtain ⟨b0, b1, b2⟩ := cell3 HS1.out.box
            go_wp2_with fail
            refine (hk32.out _ HS1.out.rd).mono ?_
            rintro e w2 ⟨rfl, hr2, hg2⟩
            have HSF := Lib.hid (HS1.out.step hr2 hg2 (by have := HS1.out.len; omega))
            clear hr2 hg2 b0 b1 b2
            obtain ⟨b0, b1, b2⟩ := cell3 HSF.out.box
            obtain ⟨r0, r1, r2⟩ := cell3 HSF.out.res
            have q0 := free3 HSF.out.res 0
            have q1 := free3 HSF.out.res 1
            have q2 := free3 HSF.out.res 2
            have qz := lt_of_block HSF.out.res
            go_wp2
            refine bodyPost_ret (v := .tuple #[.agg #[.int .i64 0, .slice none 0 0, .slice none 0 0], .bool false]) (by simp [results, Tryd.results72, go_sem, r0, r1, r2]) rfl ?_
            rw [HFE.out]
            exact ⟨three_new_set HSF.out.grow (Nat.le_refl _) _ _ _, rfl, _, (three_far _ _ _ _ _ _ (by have := HSF.out.lt; omega)).trans HSF.out.rd, HSF.out.len⟩
          · have e40 : ((acc.length : Int) == 40) = false := by rw [beq_eq_false_iff_ne]; omega
            go_wp2_with fail
            refine HK.out.mono ?_
            rintro e w1 ⟨rfl, hr1, hg1⟩
            have HS1 := Lib.hid (HS.out.step hr1 hg1 HS.out.len)
            clear hr1 hg1
            obtain ⟨vA, vc, rfl, hvc⟩ := own_shape HS1.out.own
            obtain ⟨b0, b1, b2⟩ := cell3 HS1.out.box
            go_wp2_with fail
            refine (hk32.out _ HS1.out.rd).mono ?_
            rintro e w2 ⟨rfl, hr2, hg2⟩
            have HS2 := Lib.hid (HS1.out.step hr2 hg2 (by have := HS1.out.len; omega))
            clear hr2 hg2 b0 b1 b2
            obtain ⟨b0, b1, b2⟩ := cell3 HS2.out.box
            cases hn : pNum (tp t 32) with
            | none =>
              have HFE : Hid (FIN = none) := Lib.hid (by rw [← HFI.out, leaf_go HNO.out (.inr ⟨hpos, HQ2.out, h40, rfl⟩), hn])
              have HN := Lib.hid (number_any (tp t 32) nd br _ (HG.out.grown HS2.out.grow h3) HS2.out.len HS2.out.rd)
              rw [hn] at HN
              clear hn
              go_wp2_with fail
              refine HN.out.mono ?_
              rintro e w4 ⟨hg4, ⟨x4, rfl⟩, t4, hr4, hl4⟩
              have HSF := Lib.hid (HS2.out.step hr4 hg4 hl4)
              clear hg4 hr4 hl4
              obtain ⟨r0, r1, r2⟩ := cell3 HSF.out.res
              have q0 := free3 HSF.out.res 0
              have q1 := free3 HSF.out.res 1
              have q2 := free3 HSF.out.res 2
              have qz := lt_of_block HSF.out.res
              go_wp2
              refine bodyPost_ret (v := .tuple #[.agg #[.int .i64 0, .slice none 0 0, .slice none 0 0], .bool false]) (by simp [results, Tryd.results72, go_sem, r0, r1, r2]) rfl ?_
              rw [HFE.out]
              exact ⟨three_new_set HSF.out.grow (Nat.le_refl _) _ _ _, rfl, _, (three_far _ _ _ _ _ _ (by have := HSF.out.lt; omega)).trans HSF.out.rd, HSF.out.len⟩
            | some p =>
              obtain ⟨x, r2⟩ := p
              have HFE : Hid (pLeaf f (acc ++ [x]) r2 = FIN) := Lib.hid (by rw [← HFI.out, leaf_go HNO.out (.inr ⟨hpos, HQ2.out, h40, rfl⟩), hn])
              have hrl := pNum_len hn
              have HRL : Hid (r2.length < f) := Lib.hid (by have := HLT.out; have := htl; omega)
              have HN := Lib.hid (number_any (tp t 32) nd br _ (HG.out.grown HS2.out.grow h3) HS2.out.len HS2.out.rd)
              have hll := HS2.out.len
              rw [hn] at HN
              clear hn
              go_wp2_with fail
              refine HN.out.mono ?_
              rintro e w4 ⟨hg4, rfl, hr4⟩
              have HS4 := Lib.hid (HS2.out.step hr4 hg4 (by omega))
              clear hg4 hr4 hrl hll
              obtain ⟨b0, b1, b2⟩ := cell3 HS4.out.box
              have bf := free3 HS4.out.box 2
              have bz := lt_of_block HS4.out.box
              have OWN := Lib.hid HS4.out.own
              have hfew := HS4.out.few
              have hzz : w.heap.size + 2 ≤ w4.heap.size := by omega
              go_wp2_with (at_builtin; refine wpList_append_lies _ rfl _ _ 27 rfl (w.heap.size + 2) 3 i0 _ 1 8 Tryd.underlying27 ia ib ic id rfl (by omega) (.slice vA acc.length vc) acc.length (intCells acc) rfl (OWN.out.alloc _) ⟨w4.heap.size, 0, none⟩ 1 1 [.int .i64 x] rfl rfl (World.news_of_block (cs := #[.int .i64 x]) (t := 3) (fr := (0, 0)) (heap_alloc_new w4 _)) (by simp [Value.oneCell']) (by omega) (by unfold maxLen; omega) (by omega) (by simp; omega) (w4.heap.size + 1) (by simp) ?_)
              intro gq cq w5 hown5 hgrow5 _ _
              have HP5 := Lib.hid (HS4.out.push ((Below.refl w4.heap.size w4).alloc (Nat.le_refl _) _) hown5 hgrow5 (by omega))
              have nb : some (w.heap.size + 1) ≠ (Value.slice vA acc.length vc).ownBlock := fun e => by have := (OWN.out.lt _ e.symm).1; omega
              have k5 := (hgrow5.block _ (by simp; omega) nb).trans ((heap_alloc_old w4 _ bz).trans HS4.out.box)
              obtain ⟨d0, d1, d2⟩ := cell3 k5
              have df := free3 k5 2
              have dz := lt_of_block k5
              clear k5 hgrow5 hown5 b0 b1 b2 bf bz nb
              go_wp2
              go_roundg f
              case measure => omega
              case rel => exact ⟨acc ++ [x], r2, _, HFE, HRL, HP5⟩
    · have HFE : Hid (FIN = some (acc, tp t 41)) := Lib.hid (by rw [← HFI.out, leaf_end hq])
      have htl := tp_len hq
      rw [hq] at HK
      clear hq
      go_wp2_with fail
      refine HK.out.mono ?_
      rintro e w1 ⟨rfl, hr1, hg1⟩
      have HS1 := Lib.hid (HS.out.step hr1 hg1 (by have := HS.out.len; omega))
      clear hr1 hg1
      obtain ⟨vA, vc, rfl, hvc⟩ := own_shape HS1.out.own
      obtain ⟨b0, b1, b2⟩ := cell3 HS1.out.box
      obtain ⟨r0, r1, r2⟩ := cell3 HS1.out.res
      have q0 := free3 HS1.out.res 0
      have q1 := free3 HS1.out.res 1
      have q2 := free3 HS1.out.res 2
      have qz := lt_of_block HS1.out.res
      go_wp2
      refine bodyPost_ret (v := .tuple #[.agg #[.int .i64 0, .slice none 0 0, .slice vA acc.length vc], .bool true]) (by simp [results, Tryd.results72, go_sem, r0, r1, r2]) rfl ?_
      rw [HFE.out]
      refine ⟨three_new_set HS1.out.grow (Nat.le_refl _) _ _ _, vA, vc, rfl, (three_far _ _ _ _ _ _ (by have := HS1.out.lt; omega)).trans HS1.out.rd, hvc, ?_⟩
      intro hne
      obtain ⟨g, off, rfl, hg, hc⟩ := Row.of_own HS1.out.own hne
      have hgo : w.heap.size + 2 ≤ g := by
        rcases HS1.out.own.2 with ⟨h0, _⟩ | ⟨g', cap, cur, hv, hb', _⟩
        · cases h0
        · cases hv; exact hb'
      have hfar := three_far w1 w.heap.size g (.int .i64 0) (.slice none 0 0) (.slice (some ⟨g, off, none⟩) acc.length vc) (by omega)
      exact ⟨g, off, rfl, by omega, heap_lt_iff hfar hg, fun j hj => (cell_stays hfar).trans (hc j hj)⟩
end Go.Proofs.YtjjohllfidmkjaaDoor.PfW
