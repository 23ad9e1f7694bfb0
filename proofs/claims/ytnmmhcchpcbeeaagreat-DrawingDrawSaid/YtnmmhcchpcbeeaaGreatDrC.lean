/- DrawingDraw: Draw returns the specified drawing or error. Conditions: none. -/
import Derived.Test.YtnmmhcchpcbeeaaGreatMem
import Derived.Deep.Slices
import Derived.ChangeArms
import Derived.Test.YtnmmhcchpcbeeaaGreatDr3
import Derived.OpenShut
import Derived.Lib.SmallJoins
import Derived.Test.YtnmmhcchpcbeeaaGreatRgW
import Derived.Test.YtnmmhcchpcbeeaaGreatRf6
import Derived.HandedShaped
import Derived.Handed
import Derived.ProofKit
import Derived.Test.YtnmmhcchpcbeeaaGreatRows

namespace Go.Proofs.YtnmmhcchpcbeeaaGreat.Mem
open Go Go.RowKit

theorem choose_lt' {α : Type} {p : Nat → α → Prop} : ∀ (m : Nat), (∀ i, i < m → ∃ a, p i a) → ∃ l : List α, l.length = m ∧ ∀ i (h : i < l.length), p i l[i]
  | 0, _ => ⟨[], rfl, fun i h => by simp at h⟩
  | m + 1, h => by
    obtain ⟨l, hl, hp⟩ := choose_lt' m fun i hi => h i (by omega)
    obtain ⟨a, ha⟩ := h m (by omega)
    refine ⟨l ++ [a], by simp [hl], fun i hi => ?_⟩
    by_cases hlt : i < l.length
    · rw [List.getElem_append_left hlt]; exact hp i hlt
    · have hi' : i = l.length := by simp at hi; omega
      subst hi'
      rw [List.getElem_append_right (Nat.le_refl _)]
      simp only [Nat.sub_self, List.getElem_cons_zero]
      rw [hl]; exact ha

theorem flatten_get {n : Nat} : ∀ (l : List (List Value)), (∀ c ∈ l, c.length = n) → ∀ (i f : Nat) (h : i < l.length), f < n → l.flatten[i * n + f]? = l[i][f]?
  | [], _, i, f, h, _ => by simp at h
  | c :: r, hc, 0, f, _, hf => by
    have := hc c (by simp)
    show (c ++ r.flatten)[0 * n + f]? = _
    rw [Nat.zero_mul, Nat.zero_add, List.getElem?_append_left (by omega)]; rfl
  | c :: r, hc, i + 1, f, h, hf => by
    have h0 := hc c (by simp)
    show (c ++ r.flatten)[(i + 1) * n + f]? = _
    have e : (i + 1) * n + f - c.length = i * n + f := by rw [h0, Nat.add_mul]; omega
    rw [List.getElem?_append_right (by rw [h0, Nat.add_mul]; omega), e, flatten_get r (fun c' h' => hc c' (by simp [h'])) i f (by simpa using h) hf]; rfl
theorem flatten_len {n : Nat} : ∀ (l : List (List Value)), (∀ c ∈ l, c.length = n) → l.flatten.length = l.length * n
  | [], _ => by simp
  | c :: r, hc => by
    have h0 := hc c (by simp)
    have := flatten_len r fun c' h' => hc c' (by simp [h'])
    rw [List.flatten_cons, List.length_append, this, h0, List.length_cons, Nat.add_mul]; omega

theorem addr_add (a : Addr) (h : a.spot = none) (i : Nat) : a.add i = ⟨a.block, a.off + i, none⟩ := by
  obtain ⟨b, o, s⟩ := a
  simp only at h
  subst h
  by_cases h0 : i = 0
  · subst h0; rfl
  · show (if i = 0 then _ else _) = _
    rw [if_neg h0]

section
variable {H : Type} {enc : TypeId × Value → H} {P : Program} {w : World} {held : Bool}
theorem weights_all {e : TypeId} {d : DataW H} {k : Nat} : ∀ (l : List (DataW H)), d ∈ l → k ∈ d.weights P e → k ∈ DataW.weightsAll P e l
  | x :: r, hd, hk => by
    unfold DataW.weightsAll
    rcases List.mem_cons.1 hd with rfl | h
    · exact List.mem_append_left _ hk
    · exact List.mem_append_right _ (weights_all r h hk)
theorem weights_slice {t e : TypeId} (ht : P.underlying t = some (.slice e)) {elems rest : List (DataW H)} (hw : ∀ k ∈ (DataW.slice elems rest).weights P t, k ≤ reachBytes) :
    elems.length * P.bytesOf e ≤ reachBytes ∧ ∀ d ∈ elems, ∀ k ∈ d.weights P e, k ≤ reachBytes := by
  have h0 : (DataW.slice elems rest).weights P t = (elems.length + rest.length) * P.bytesOf e :: (DataW.weightsAll P e elems ++ DataW.weightsAll P e rest) := by
    rw [DataW.weights, ht]
  rw [h0] at hw
  refine ⟨?_, fun d hd k hk => hw k (List.mem_cons_of_mem _ (List.mem_append_left _ (weights_all elems hd hk)))⟩
  have := hw _ (List.mem_cons_self ..)
  rw [Nat.add_mul] at this
  omega
theorem open_fuel {t e : TypeId} {A : Option Addr} {len cap fuel : Nat} {x : DataW H × List MemPlace} (ht : P.underlying t = some (.slice e)) (hn : 0 < P.cellsOf e)
    (h : DataW.trod enc P w 0 (fun _ => true) held fuel t [.slice A len cap] = some x) :
    ∃ (css : List (List Value)) (n : Nat) (elems rest : List (DataW H)), css.length = len ∧ Row w A css.flatten ∧ len ≤ cap ∧ n < fuel ∧ (len = 0 ∨ x.1 = .slice elems rest ∧ elems.length = len) ∧
      ∀ cs ∈ css, cs.length = P.cellsOf e ∧ ∃ y, DataW.trod enc P w 0 (fun _ => true) held n e cs = some y ∧ y.1 ∈ elems := by
  rcases DataW.trod_slice ht h with ⟨h0, hx⟩ | ⟨a, len', cap', elems, rest, n, rfl, h0, rfl, _, hl, hm, hlen, hel, _, _⟩
  · simp only [List.cons.injEq, Value.slice.injEq, and_true] at h0
    obtain ⟨rfl, rfl, rfl⟩ := h0
    have hf : 0 < fuel := by
      rcases fuel with _ | _
      · simp [DataW.trod] at h
      · omega
    exact ⟨[], 0, [], [], rfl, Row.nil _ _, Nat.le_refl _, hf, .inl rfl, by simp⟩
  · simp only [List.cons.injEq, Value.slice.injEq, and_true] at h0
    obtain ⟨rfl, rfl, rfl⟩ := h0
    obtain ⟨l, hll, hlp⟩ := choose_lt' (p := fun i cs => w.cells? 0 (a.add (i * P.cellsOf e)) (P.cellsOf e) = some cs ∧ ∃ y, DataW.trod enc P w 0 (fun _ => true) held n e cs = some y ∧ y.1 ∈ elems.map (·.1)) len fun i hi => by
      have h1 := hel i hi
      rw [List.getElem?_eq_getElem (by omega)] at h1
      obtain ⟨cs, h2, h3⟩ := Option.bind_eq_some_iff.1 h1
      exact ⟨cs, h2, _, h3, List.mem_map_of_mem (List.getElem_mem _)⟩
    have hlen : ∀ cs ∈ l, cs.length = P.cellsOf e := by
      intro cs hcs
      obtain ⟨i, hi, rfl⟩ := List.getElem_of_mem hcs
      exact (World.cells?_some (hlp i hi).1).2.1
    refine ⟨l, n, elems.map (·.1), rest.map (·.1), hll, ?_, hl, Nat.lt_succ_self n, .inr ⟨rfl, by rw [List.length_map]; omega⟩, fun cs hcs => ⟨hlen cs hcs, ?_⟩⟩
    · intro hne
      have hfl := flatten_len l hlen
      have hpos : 0 < l.length := by
        rcases l with _ | _
        · exact absurd rfl hne
        · simp
      have cell := fun (i : Nat) (hi : i < l.length) => (World.cells?_some (hlp i hi).1).2.2
      have hsome : ∃ v, w.cell? a = some v := by
        have h2 := cell 0 hpos 0 hn
        rw [Nat.zero_mul] at h2
        simp only [Addr.add, if_true] at h2
        rw [h2, List.getElem?_eq_getElem (by rw [hlen _ (List.getElem_mem hpos)]; exact hn)]
        exact ⟨_, rfl⟩
      obtain ⟨v, hv⟩ := hsome
      have hspot : a.spot = none := by
        unfold World.cell? at hv
        split at hv
        · split at hv
          · cases hv
          · rename_i hs; simpa using hs
        · cases hv
      have hb : a.block < w.heap.size := by
        by_cases hlt : a.block < w.heap.size
        · exact hlt
        · unfold World.cell? at hv
          rw [Array.getElem?_eq_none (Nat.le_of_not_lt hlt)] at hv
          cases hv
      refine ⟨a.block, a.off, ?_, hb, fun j hj => ?_⟩
      · obtain ⟨b, o, s⟩ := a
        simp only at hspot
        subst hspot; rfl
      · rw [hfl] at hj
        have hi : j / P.cellsOf e < l.length := Nat.div_lt_of_lt_mul (by rw [Nat.mul_comm]; exact hj)
        have hf : j % P.cellsOf e < P.cellsOf e := Nat.mod_lt _ hn
        have hj2 : j = j / P.cellsOf e * P.cellsOf e + j % P.cellsOf e := by rw [Nat.mul_comm]; exact (Nat.div_add_mod _ _).symm
        have h2 := cell _ hi _ hf
        have h3 := flatten_get l hlen _ _ hi hf
        rw [← hj2] at h3
        rw [h3, ← h2, addr_add a hspot, addr_add _ rfl]
        simp only
        rw [Nat.add_assoc, ← hj2]
    · obtain ⟨i, hi, rfl⟩ := List.getElem_of_mem hcs
      exact (hlp i hi).2
end
end Go.Proofs.YtnmmhcchpcbeeaaGreat.Mem

namespace Go.Proofs.YtnmmhcchpcbeeaaGreat.GeW
open Go Go.RowKit Go.Proofs.YtnmmhcchpcbeeaaGreat.Mem Go.Proofs.YtnmmhcchpcbeeaaGreat.Ge
attribute [local go_sem ↓] Go.wp_at_zero Go.wp_at_succ
theorem wrapEq (x : Int) : IntKind.i64.wrap x = wrap64 x := by rw [IntKind.wrap_i64]; unfold wrap64; omega
structure ShapeRaw (w : World) (m : ShapeM) : Prop where
  ro : Row w m.o.A (m.o.l.flatMap ptCells)
  rB : Row w m.B (m.hs.map rowVal)
  rh : ∀ r ∈ m.hs, Row w r.A (r.l.flatMap ptCells)
  len : ∀ r ∈ ringsM m, r.l.length ≤ 8796093022208 ∧ r.l.length ≤ r.k
  room : m.hs.length ≤ m.k
  some : m.hs.length ≤ 8796093022208
theorem ShapeRaw.below {w w' : World} {m : ShapeM} (h : ShapeRaw w m) (hb : Below w.heap.size w w') : ShapeRaw w' m :=
  ⟨h.ro.below hb, h.rB.below hb, fun r hr => (h.rh r hr).below hb, h.len, h.room, h.some⟩
def fewB (m : ShapeM) : Bool := decide (m.hs.length ≤ 8) && decide (total (m.o.l :: holesL m) ≤ 100)
theorem total_mem : ∀ (ls : List (List V)) (l : List V), l ∈ ls → l.length ≤ total ls
  | [], l, h => by cases h
  | x :: r, l, h => by
    rw [total]
    rcases List.mem_cons.1 h with rfl | h
    · omega
    · have := total_mem r l h
      omega
theorem ShapeRaw.few {w : World} {m : ShapeM} (h : ShapeRaw w m) (hf : fewB m = true) : ShapeIn w m := by
  unfold fewB at hf
  simp only [Bool.and_eq_true, decide_eq_true_eq] at hf
  refine ⟨h.ro, h.rB, h.rh, by omega, fun r hr => ⟨?_, (h.len r hr).2⟩, h.room⟩
  have : r.l ∈ m.o.l :: holesL m := by
    rcases List.mem_cons.1 hr with rfl | hr
    · simp
    · exact List.mem_cons_of_mem _ (List.mem_map_of_mem hr)
  have := total_mem _ _ this
  omega
set_option maxRecDepth 100000 in
set_option maxHeartbeats 1000000 in
theorem few_any (m : ShapeM) (w : World) (h : ShapeRaw w m) :
    Calls Tryz.prog 9 #[.agg #[.slice m.o.A m.o.l.length m.o.k, .slice m.B m.hs.length m.k]] w fun e w' => e = .returned (.bool (fewB m)) ∧ Below w.heap.size w w' := by
  have HO := Lib.hid (one_vec w (.cells #[.slice m.o.A m.o.l.length m.o.k, .slice m.B m.hs.length m.k] 29))
  have HB0 := Lib.hid HO.out.1
  have H2 := Lib.hid HO.out.2
  have HRB := Lib.hid (h.rB.below HB0.out)
  have HLN := Lib.hid h.len
  have hsm := h.some
  have HFB : Hid (fewB m = (decide (m.hs.length ≤ 8) && decide (total (m.o.l :: holesL m) ≤ 100))) := Lib.hid rfl
  generalize fewB m = fb at *
  clear h
  go_enter Tryz.func9, Tryz.ntmps9
  go_upto_region 1 with fail
  generalize hWA : w.alloc (.cells #[.slice m.o.A m.o.l.length m.o.k, .slice m.B m.hs.length m.k] 29) = W at *
  have HBW : Hid (Below W.heap.size W W) := Lib.hid (Below.refl _ _)
  have c0 : W.cell? ⟨w.heap.size, 0, none⟩ = some (.slice m.o.A m.o.l.length m.o.k) := by rw [Lib.cell_of_heap ((HBW.out.block _ (lt_of_block H2.out)).trans H2.out)]; rfl
  have c1 : W.cell? ⟨w.heap.size, 1, none⟩ = some (.slice m.B m.hs.length m.k) := by rw [Lib.cell_of_heap ((HBW.out.block _ (lt_of_block H2.out)).trans H2.out)]; rfl
  clear hWA
  go_wp2
  clear c0 c1
  go_loopw [3, 4] (fun n i wr => ∃ (k : Nat) (v : Int), n = .int .i64 v ∧ i = .int .i64 (k : Int) ∧ k ≤ m.hs.length ∧ Hid (k ≤ 8 → v = (total (m.o.l :: (holesL m).take k) : Nat)) ∧ Hid (Below W.heap.size W wr)) (fun _ i _ => m.hs.length - (intOf i).toNat)
  case atStart => exact ⟨0, _, rfl, rfl, Nat.zero_le _, Lib.hid (fun _ => by simp [total]), HBW⟩
  case round =>
    obtain ⟨k, v, rfl, rfl, hk, HV, HB⟩ := hrel
    have c0 : wr.cell? ⟨w.heap.size, 0, none⟩ = some (.slice m.o.A m.o.l.length m.o.k) := by rw [Lib.cell_of_heap ((HB.out.block _ (lt_of_block H2.out)).trans H2.out)]; rfl
    have c1 : wr.cell? ⟨w.heap.size, 1, none⟩ = some (.slice m.B m.hs.length m.k) := by rw [Lib.cell_of_heap ((HB.out.block _ (lt_of_block H2.out)).trans H2.out)]; rfl
    by_cases hlt : k < m.hs.length
    · have HTN : Hid ((total (m.o.l :: (holesL m).take (k + 1)) : Int) = (total (m.o.l :: (holesL m).take k) : Int) + (m.hs[k].l.length : Int)) := Lib.hid (by
        have e : (holesL m).take (k + 1) = (holesL m).take k ++ [m.hs[k].l] := by
          rw [List.take_succ_eq_append_getElem (by simpa [holesL] using hlt)]
          simp [holesL]
        rw [e, ← List.cons_append, total_snoc]
        omega)
      have HTL : Hid (k ≤ 8 → total (m.o.l :: (holesL m).take k) ≤ 9 * 8796093022208) := Lib.hid (fun h8 => by
        refine Nat.le_trans (total_le 8796093022208 _ (fun y hy => ?_)) (Nat.mul_le_mul_right _ ?_)
        · rcases List.mem_cons.1 hy with rfl | hy
          · exact (HLN.out m.o (by simp [ringsM])).1
          · obtain ⟨z, hz, rfl⟩ := List.mem_map.1 (List.mem_of_mem_take hy)
            exact (HLN.out z (List.mem_cons_of_mem _ hz)).1
        · simp [holesL]
          omega)
      have HLX : Hid (m.hs[k].l.length ≤ 8796093022208) := Lib.hid (HLN.out _ (List.mem_cons_of_mem _ (List.getElem_mem hlt))).1
      obtain ⟨g, off, hB, hg, hc⟩ := row_one HRB.out (k := k) (by simpa using hlt)
      have ck := (HB.out.cell (p := ⟨g, off + k, none⟩) hg).trans (hc k (by simpa using hlt))
      rw [List.getElem_map] at ck
      generalize m.hs[k] = x at *
      unfold rowVal at ck
      have hk1 : (0 : Int) ≤ (k : Int) := by omega
      have hk2 : (k : Int) < (m.hs.length : Int) := by omega
      have HV2 : Hid (k + 1 ≤ 8 → IntKind.i64.wrap (v + (x.l.length : Int)) = (total (m.o.l :: (holesL m).take (k + 1)) : Nat)) := Lib.hid (fun h8 => by
        have e1 := HV.out (by omega)
        have e2 := HTL.out (by omega)
        have e3 := HLX.out
        have e4 := HTN.out
        rw [e4, ← e1]
        rw [IntKind.wrap_i64]
        omega)
      clear hc
      rw [hB] at c1 ⊢
      go_wp2
      go_roundw
      case rel => exact ⟨k + 1, _, rfl, by go_num, by omega, Lib.hid (fun h => by rw [← wrapEq]; exact HV2.out h), HB⟩
      case measure => simp [intOf]; omega
    · obtain rfl : k = m.hs.length := by omega
      have HTL : Hid ((holesL m).take m.hs.length = holesL m) := Lib.hid (by rw [show m.hs.length = (holesL m).length by simp [holesL], List.take_length])
      rw [HTL.out] at HV
      by_cases h8 : m.hs.length ≤ 8
      · have d8 : decide ((m.hs.length : Int) ≤ 8) = true := decide_eq_true (by omega)
        have hv := HV.out h8
        by_cases h100 : total (m.o.l :: holesL m) ≤ 100
        · have d1 : decide (v ≤ 100) = true := decide_eq_true (by omega)
          have HF : Hid (fb = true) := Lib.hid (by rw [HFB.out, decide_eq_true h8, decide_eq_true h100]; rfl)
          clear hv h8 h100 HTL HV
          go_wp2
          go_ret
          rw [HF.out]
          exact ⟨rfl, HB0.out.trans (HB.out.mono HB0.out.size)⟩
        · have d1 : decide (v ≤ 100) = false := decide_eq_false (by omega)
          have HF : Hid (fb = false) := Lib.hid (by rw [HFB.out, decide_eq_false h100]; simp)
          clear hv h8 h100 HTL HV
          go_wp2
          go_ret
          rw [HF.out]
          exact ⟨rfl, HB0.out.trans (HB.out.mono HB0.out.size)⟩
      · have d8 : decide ((m.hs.length : Int) ≤ 8) = false := decide_eq_false (by omega)
        have HF : Hid (fb = false) := Lib.hid (by rw [HFB.out, decide_eq_false h8]; rfl)
        clear h8 HTL HV
        go_wp2
        go_ret
        rw [HF.out]
        exact ⟨rfl, HB0.out.trans (HB.out.mono HB0.out.size)⟩
/-! ### Shapes opened -/
theorem cells_vec : Tryz.prog.cellsOf 53 = 2 := by kernel_rfl
theorem cells_ring : Tryz.prog.cellsOf 26 = 1 := by kernel_rfl
theorem cells_rings : Tryz.prog.cellsOf 27 = 1 := by kernel_rfl
theorem cells_shape : Tryz.prog.cellsOf 29 = 2 := by kernel_rfl
theorem cells_int : Tryz.prog.cellsOf 3 = 1 := by kernel_rfl
theorem two {α : Type} {l : List α} (h : l.length = 2) : ∃ a b, l = [a, b] := by
  match l, h with
  | [a, b], _ => exact ⟨a, b, rfl⟩
section
variable {H : Type} {enc : TypeId × Value → H} {w : World} {held : Bool}
theorem slice_of {P : Program} {t e : TypeId} {fuel : Nat} {cs : List Value} {x : DataW H × List MemPlace} (ht : P.underlying t = some (.slice e)) (h : DataW.trod enc P w 0 (fun _ => true) held fuel t cs = some x) : ∃ A len cap, cs = [.slice A len cap] := by
  rcases DataW.trod_slice ht h with ⟨h0, _⟩ | ⟨a, len', cap', _, _, _, _, h0, _⟩
  · exact ⟨_, _, _, h0⟩
  · exact ⟨_, _, _, h0⟩
theorem one_cells (A : Option Addr) (len cap : Nat) : (Value.slice A len cap).cells.toList = [Value.slice A len cap] := by simp [Value.cells]
theorem bytes_ring : Tryz.prog.bytesOf 26 = 24 := by kernel_rfl
theorem bytes_vec : Tryz.prog.bytesOf 53 = 16 := by kernel_rfl
theorem open_point (cs : List Value) (n : Nat) (y : DataW H × List MemPlace) (hy : DataW.trod enc Tryz.prog w 0 (fun _ => true) held n 53 cs = some y) : ∃ v : V, cs = ptCells v := by
  obtain ⟨xs, m, _, _, hl, hxs, hf⟩ := DataW.trod_struct Tryz.underlying53 hy
  rw [cells_vec] at hl
  have h0 : DataW.trod enc Tryz.prog w 0 (fun _ => true) held m 3 ((cs.drop 0).take (Tryz.prog.cellsOf 3)) = xs[0]? := hf 0 _ rfl
  have h1 : DataW.trod enc Tryz.prog w 0 (fun _ => true) held m 3 ((cs.drop 1).take (Tryz.prog.cellsOf 3)) = xs[1]? := hf 1 _ rfl
  rw [cells_int] at h0 h1
  have hxs2 : xs.length = 2 := hxs
  rw [List.getElem?_eq_getElem (by omega)] at h0 h1
  obtain ⟨c0, e0, _, _⟩ := DataW.trod_int Tryz.underlying3 h0
  obtain ⟨c1, e1, _, _⟩ := DataW.trod_int Tryz.underlying3 h1
  clear h0 h1 hf
  obtain ⟨a, b, rfl⟩ := two hl
  simp only [List.drop_zero, List.take_succ_cons, List.take_zero, List.drop_succ_cons, List.cons.injEq, and_true] at e0 e1
  subst e0 e1
  exact ⟨(c0, c1), rfl⟩
theorem list_of {α : Type} (f : α → List Value) (good : α → Prop) : ∀ (css : List (List Value)), (∀ cs ∈ css, ∃ x, good x ∧ cs = f x) → ∃ xs : List α, xs.length = css.length ∧ css.flatten = xs.flatMap f ∧ ∀ x ∈ xs, good x
  | [], _ => ⟨[], rfl, rfl, by simp⟩
  | c :: r, h => by
    obtain ⟨x, hx, rfl⟩ := h c (by simp)
    obtain ⟨xs, h1, h2, h3⟩ := list_of f good r fun c' h' => h c' (by simp [h'])
    exact ⟨x :: xs, by simp [h1], by rw [List.flatten_cons, h2, List.flatMap_cons], by simpa [hx] using h3⟩
def RingRaw (w : World) (r : RowV) : Prop := Row w r.A (r.l.flatMap ptCells) ∧ r.l.length ≤ 8796093022208 ∧ r.l.length ≤ r.k
theorem open_ring (cs : List Value) (n : Nat) (y : DataW H × List MemPlace) (hy : DataW.trod enc Tryz.prog w 0 (fun _ => true) held n 26 cs = some y) (hw : ∀ k ∈ y.1.weights Tryz.prog 26, k ≤ reachBytes) : ∃ r : RowV, RingRaw w r ∧ cs = [rowVal r] := by
  obtain ⟨A, len, cap, rfl⟩ := slice_of Tryz.underlying26 hy
  obtain ⟨css, n1, el, re, k1, k2, k3, k4, k5, k6⟩ := open_fuel Tryz.underlying26 (by rw [cells_vec]; decide) hy
  obtain ⟨l, q1, q2, _⟩ := list_of ptCells (fun _ => True) css fun cs hcs => by
    obtain ⟨_, y, hy, _⟩ := k6 cs hcs
    obtain ⟨v, hv⟩ := open_point cs n1 y hy
    exact ⟨v, trivial, hv⟩
  have f1 : len ≤ 8796093022208 := by
    rcases k5 with h0 | ⟨hx, hlen⟩
    · omega
    · rw [hx] at hw
      have := (weights_slice Tryz.underlying26 hw).1
      rw [bytes_vec, hlen] at this
      have hr : reachBytes = 140737488351232 := rfl
      rw [hr] at this
      omega
  rw [q2] at k2
  have hl : l.length = len := by omega
  refine ⟨⟨l, A, cap⟩, ⟨k2, by show l.length ≤ _; omega, by show l.length ≤ cap; omega⟩, ?_⟩
  unfold rowVal
  rw [hl]
theorem open_shape (cs : List Value) (n : Nat) (y : DataW H × List MemPlace) (hy : DataW.trod enc Tryz.prog w 0 (fun _ => true) held n 29 cs = some y) (hw : ∀ k ∈ y.1.weights Tryz.prog 29, k ≤ reachBytes) : ∃ m : ShapeM, ShapeRaw w m ∧ cs = shapeL m := by
  obtain ⟨xs, n', rfl, rfl, hl, hxs, hf⟩ := DataW.trod_struct Tryz.underlying29 hy
  rw [cells_shape] at hl
  have hxs2 : xs.length = 2 := hxs
  obtain ⟨x0, x1, rfl⟩ := two hxs2
  obtain ⟨a, b, rfl⟩ := two hl
  have h0 : DataW.trod enc Tryz.prog w 0 (fun _ => true) held n' 26 (([a, b].drop 0).take (Tryz.prog.cellsOf 26)) = some x0 := hf 0 _ rfl
  have h1 : DataW.trod enc Tryz.prog w 0 (fun _ => true) held n' 27 (([a, b].drop 1).take (Tryz.prog.cellsOf 27)) = some x1 := hf 1 _ rfl
  rw [cells_ring] at h0
  rw [cells_rings] at h1
  simp only [List.drop_zero, List.take_succ_cons, List.take_zero, List.drop_succ_cons] at h0 h1
  have hW : (DataW.agg ([x0, x1].map (·.1))).weights Tryz.prog 29 = x0.1.weights Tryz.prog 26 ++ (x1.1.weights Tryz.prog 27 ++ []) := by
    rw [DataW.weights, Tryz.underlying29]
    rfl
  simp only [hW] at hw
  have hw0 : ∀ k ∈ x0.1.weights Tryz.prog 26, k ≤ reachBytes := fun k hk => hw k (List.mem_append_left _ hk)
  have hw1 : ∀ k ∈ x1.1.weights Tryz.prog 27, k ≤ reachBytes := fun k hk => hw k (List.mem_append_right _ (List.mem_append_left _ hk))
  obtain ⟨ro, hro, e0⟩ := open_ring _ _ _ h0 hw0
  obtain ⟨B, len, cap, e1⟩ := slice_of Tryz.underlying27 h1
  simp only [List.cons.injEq, and_true] at e0 e1
  subst e0 e1
  obtain ⟨css, n1, el, re, k1, k2, k3, k4, k5, k6⟩ := open_fuel Tryz.underlying27 (by rw [cells_ring]; decide) h1
  obtain ⟨hs, q1, q2, q3⟩ := list_of (fun r => [rowVal r]) (RingRaw w) css fun cs hcs => by
    obtain ⟨_, y, hy, hin⟩ := k6 cs hcs
    refine open_ring cs n1 y hy ?_
    rcases k5 with h0 | ⟨hx, _⟩
    · have : css = [] := List.length_eq_zero_iff.1 (k1.trans h0)
      subst this
      cases hcs
    · rw [hx] at hw1
      exact (weights_slice Tryz.underlying27 hw1).2 _ hin
  have hl : hs.length = len := by omega
  have e : hs.flatMap (fun r => [rowVal r]) = hs.map rowVal := by
    clear q1 q2 q3 hl
    induction hs with
    | nil => rfl
    | cons x r ih => rw [List.flatMap_cons, ih]; rfl
  rw [q2, e] at k2
  refine ⟨⟨ro, hs, B, cap⟩, ⟨hro.1, k2, fun r hr => (q3 r hr).1, fun r hr => ?_, by show hs.length ≤ cap; omega, ?_⟩, ?_⟩
  · rcases List.mem_cons.1 hr with rfl | hr
    · exact hro.2
    · exact (q3 r hr).2
  · show hs.length ≤ _
    rcases k5 with h0 | ⟨hx, hlen⟩
    · omega
    · rw [hx] at hw1
      have := (weights_slice Tryz.underlying27 hw1).1
      rw [bytes_ring, hlen] at this
      have hr : reachBytes = 140737488351232 := rfl
      rw [hr] at this
      omega
  · unfold shapeL holesVal
    rw [hl]
structure ShapesRaw (w : World) (A : Option Addr) (len cap : Nat) (ms : List ShapeM) : Prop where
  len : ms.length = len
  each : ∀ m ∈ ms, ShapeRaw w m
  row : Row w A (ms.flatMap shapeL)
theorem open_shapes {A : Option Addr} {len cap : Nat} {d : DataW H} {p : List MemPlace} (h : DataW.Trod enc Tryz.prog w 0 (fun _ => true) held 22 (.slice A len cap) d p) (hw : ∀ k ∈ d.weights Tryz.prog 22, k ≤ reachBytes) :
    ∃ ms : List ShapeM, ShapesRaw w A len cap ms := by
  obtain ⟨fuel, hf⟩ := h
  rw [one_cells] at hf
  obtain ⟨css, n1, el, re, k1, k2, k3, k4, k5, k6⟩ := open_fuel Tryz.underlying22 (by rw [cells_shape]; decide) hf
  obtain ⟨ms, q1, q2, q3⟩ := list_of shapeL (ShapeRaw w) css fun cs hcs => by
    obtain ⟨_, y, hy, hin⟩ := k6 cs hcs
    refine open_shape cs n1 y hy ?_
    rcases k5 with h0 | ⟨hx, _⟩
    · have : css = [] := List.length_eq_zero_iff.1 (k1.trans h0)
      subst this
      cases hcs
    · simp only at hx
      subst hx
      exact (weights_slice Tryz.underlying22 hw).2 _ hin
  rw [q2] at k2
  exact ⟨ms, by omega, q3, k2⟩
end
end Go.Proofs.YtnmmhcchpcbeeaaGreat.GeW

namespace Go.Proofs.YtnmmhcchpcbeeaaGreat.GeW
open Go Go.RowKit Go.Proofs.YtnmmhcchpcbeeaaGreat.Mem Go.Proofs.YtnmmhcchpcbeeaaGreat.Ge
def exV : List EntV := exD.map fun e => ⟨e, none, 0⟩
def exCells : Array Value := (exV.flatMap entVals).toArray
theorem ex_cells : exCells = #[.int .i64 1, .string ⟨#[99, 117, 116]⟩, .int .i64 0, .int .i64 0, .int .i64 4, .int .i64 0, .int .i64 0, .int .i64 0, .int .i64 0, .int .i64 0, .int .i64 0, .int .i64 0, .bool false, .slice none 0 0,
  .int .i64 1, .string ⟨#[99, 117, 116]⟩, .int .i64 4, .int .i64 4, .int .i64 4, .int .i64 0, .int .i64 0, .int .i64 0, .int .i64 0, .int .i64 0, .int .i64 0, .int .i64 0, .bool false, .slice none 0 0,
  .int .i64 1, .string ⟨#[99, 117, 116]⟩, .int .i64 4, .int .i64 4, .int .i64 0, .int .i64 0, .int .i64 0, .int .i64 0, .int .i64 0, .int .i64 0, .int .i64 0, .int .i64 0, .bool false, .slice none 0 0] := by rfl
theorem row_block {w : World} {g : Nat} {cs : Array Value} {T : TypeId} (h : w.heap[g]? = some (.cells cs T (0, 0))) : Row w (some ⟨g, 0, none⟩) cs.toList := fun _ =>
  ⟨g, 0, rfl, (Array.getElem?_eq_some_iff.1 h).1, fun j _ => by simp [World.cell?, h]⟩
theorem ex_ents (w : World) (T : TypeId) : Ents (w.alloc (.cells exCells T)) (some ⟨w.heap.size, 0, none⟩) exV := by
  refine ⟨?_, ?_, by decide⟩
  · have := row_block (one_vec w (.cells exCells T)).2
    simpa [exCells] using this
  · intro x hx
    unfold exV at hx
    obtain ⟨e, he, rfl⟩ := List.mem_map.1 hx
    have : e.pts = [] ∧ e.layer.length = 3 := by
      simp only [exD, List.mem_cons, List.not_mem_nil, or_false] at he
      rcases he with rfl | rfl | rfl <;> exact ⟨rfl, rfl⟩
    refine ⟨by rw [this.1]; exact Row.nil _ _, by rw [this.1]; simp, by rw [this.1]; simp, by rw [this.2]; decide⟩
theorem ex_rings_any (w : World) (A : Option Addr) (h : Ents w A exV) (c : Nat) : Calls Tryz.prog 15 #[.slice A 3 c, .string ⟨#[99, 117, 116]⟩, .int .i64 1] w fun e w' => (∃ (g c : Nat) (v : Option Addr × Nat), e = .returned (.tuple #[.slice (some ⟨g, 0, none⟩) 1 c, .int .i64 0]) ∧ w'.cell? ⟨g, 0, none⟩ = some (.slice v.1 3 v.2) ∧ Row w' v.1 ([(0, 0), (4, 0), (4, 4)].flatMap ptCells)) ∧ Below w.heap.size w w' := by
  have h1 := rings_any exV A c w [99, 117, 116] 1 (fun _ => []) h (fun x hx h2 => by
    unfold exV at hx
    obtain ⟨e, he, rfl⟩ := List.mem_map.1 hx
    simp only [exD, List.mem_cons, List.not_mem_nil, or_false] at he
    rcases he with rfl | rfl | rfl <;> cases h2)
  have he : ents exV = exD := rfl
  rw [he, ex_rings] at h1
  refine h1.mono ?_
  rintro e w' ⟨⟨v, rfl, rs, hrs, how, hpts⟩, hb⟩
  refine ⟨?_, hb⟩
  have hl : rs.length = 1 := by
    have := congrArg List.length hrs
    simpa using this
  obtain ⟨r, rfl⟩ := List.length_eq_one_iff.1 hl
  obtain ⟨g, c', rfl, _⟩ := own_some how (by simp)
  have hr : r.l = [(0, 0), (4, 0), (4, 4)] := by simpa using hrs
  refine ⟨g, c', (r.A, r.k), rfl, ?_, ?_⟩
  · rw [(own_cells how 0 (by simp)).1]
    show some (rowVal r) = _
    unfold rowVal
    rw [hr]
    rfl
  · rw [← hr]
    exact (hpts r (by simp)).1.1
theorem tri_row (w : World) (T : TypeId) : Row (w.alloc (.cells #[.int .i64 0, .int .i64 0, .int .i64 4, .int .i64 0, .int .i64 4, .int .i64 4] T)) (some ⟨w.heap.size, 0, none⟩) (([(0, 0), (4, 0), (4, 4)] : List V).flatMap ptCells) :=
  row_block (one_vec w (.cells #[.int .i64 0, .int .i64 0, .int .i64 4, .int .i64 0, .int .i64 4, .int .i64 4] T)).2
set_option maxRecDepth 100000 in
set_option maxHeartbeats 1000000 in
theorem awake_any (w : World) : Calls Tryz.prog 8 #[] w fun e w' => e = .returned (.bool true) ∧ Below w.heap.size w w' := by
  have hE := ex_ents w 66
  have HB1 := Lib.hid (one_vec w (.cells exCells 66)).1
  rw [ex_cells] at hE HB1
  have HE := Lib.hid hE
  have HRA := Lib.hid (ex_rings_any _ _ hE 3)
  clear hE
  go_enter Tryz.func8, Tryz.ntmps8
  go_wp2_with fail
  refine HRA.out.mono ?_
  rintro e w2 ⟨⟨g, c, v, rfl, hc, hrow⟩, hb2⟩
  have HB2 := Lib.hid (HB1.out.trans (hb2.mono HB1.out.size))
  have HE2 := Lib.hid (HE.out.below hb2)
  have HRow := Lib.hid hrow
  have HT := Lib.hid (one_vec w2 (.cells #[.int .i64 0, .int .i64 0, .int .i64 4, .int .i64 0, .int .i64 4, .int .i64 4] 53)).1
  have HS := Lib.hid (same6_any [(0, 0), (4, 0), (4, 4)] [(0, 0), (4, 0), (4, 4)] v.1 (some ⟨w2.heap.size, 0, none⟩) v.2 3 (w2.alloc (.cells #[.int .i64 0, .int .i64 0, .int .i64 4, .int .i64 0, .int .i64 4, .int .i64 4] 53)) (HRow.out.below HT.out) (tri_row w2 _) (by decide) (by decide))
  clear hrow hb2 HE HB1 HRA
  obtain ⟨vA, vk⟩ := v
  simp only at hc
  go_wp2_with fail
  refine HS.out.mono ?_
  rintro e w4 ⟨rfl, hb4⟩
  have HB4 := Lib.hid ((HB2.out.trans (HT.out.mono HB2.out.size)).trans (hb4.mono (HB2.out.trans (HT.out.mono HB2.out.size)).size))
  have HV := Lib.hid (drawOk_any exV _ 3 w4 ((HE2.out.below HT.out).below hb4))
  clear hb4 HS HE2 HB2 HT hc
  go_wp2_with fail
  refine HV.out.mono ?_
  rintro e w5 ⟨rfl, hb5⟩
  go_wp2
  go_ret
  rw [show drawOk (ents exV) = true from ex_ok]
  exact ⟨rfl, HB4.out.trans (hb5.mono HB4.out.size)⟩
end Go.Proofs.YtnmmhcchpcbeeaaGreat.GeW

namespace Go.Proofs.YtnmmhcchpcbeeaaGreat.GeW
open Go Go.RowKit Go.Proofs.YtnmmhcchpcbeeaaGreat.Mem Go.Proofs.YtnmmhcchpcbeeaaGreat.Ge
attribute [local go_sem ↓] Go.wp_at_zero Go.wp_at_succ
theorem drawP_len (ms : List ShapeM) (layer : List UInt8) : (drawP ms layer).1.length ≤ 200 := by
  unfold drawP
  split
  · split
    · split
      · assumption
      · simp
    · simp
  · simp
set_option maxRecDepth 100000 in
set_option maxHeartbeats 4000000 in
theorem drawLaw_walk (A : Option Addr) (len cap : Nat) (ms : List ShapeM) (L : ByteArray) (w : World) (h : ShapesRaw w A len cap ms) :
    Calls Tryz.prog 3 #[.slice A len cap, .string L] w fun e w' => e = .returned (.bool true) ∧ Below w.heap.size w w' := by
  obtain ⟨layer, rfl⟩ : ∃ l : List UInt8, L = ⟨l.toArray⟩ := ⟨L.data.toList, by cases L; simp⟩
  obtain ⟨rfl, heach, hrow⟩ := h
  have HRW := Lib.hid hrow
  have HEA := Lib.hid heach
  have hsz : (ByteArray.mk layer.toArray).size = layer.length := by simp [ByteArray.size]
  have HAW := Lib.hid (awake_any w)
  clear hrow heach
  by_cases h4 : ms.length ≤ 4
  case neg =>
    have d4 : decide (4 < (ms.length : Int)) = true := decide_eq_true (by omega)
    clear h4 hsz
    generalize (ByteArray.mk layer.toArray) = L at *
    go_enter Tryz.func3, Tryz.ntmps3
    go_wp2_with fail
    refine HAW.out.mono ?_
    rintro e w1 ⟨rfl, hb1⟩
    go_wp2
    go_ret
    exact ⟨rfl, hb1⟩
  case pos =>
    have d4 : decide (4 < (ms.length : Int)) = false := decide_eq_false (by omega)
    by_cases h40 : layer.length ≤ 40
    case neg =>
      have d40 : decide (40 < ((ByteArray.mk layer.toArray).size : Int)) = true := decide_eq_true (by omega)
      clear h4 h40 hsz
      generalize (ByteArray.mk layer.toArray) = L at *
      go_enter Tryz.func3, Tryz.ntmps3
      go_wp2_with fail
      refine HAW.out.mono ?_
      rintro e w1 ⟨rfl, hb1⟩
      go_wp2
      go_ret
      exact ⟨rfl, hb1⟩
    case pos =>
      have d40 : decide (40 < ((ByteArray.mk layer.toArray).size : Int)) = false := decide_eq_false (by omega)
      have HD1 := Lib.hid (fun W (hS : ShapesIn W A ms) => draw_any ms A cap layer W hS (by omega))
      have HD2 := Lib.hid (fun W (hS : ShapesIn W A ms) => rdraw_any ms A cap layer W hS (by omega))
      have HDL := Lib.hid (drawP_len ms layer)
      clear h40 hsz
      generalize (ByteArray.mk layer.toArray) = L at *
      go_enter Tryz.func3, Tryz.ntmps3
      go_wp2_with fail
      refine HAW.out.mono ?_
      rintro e w1 ⟨rfl, hb1⟩
      have HB1 := Lib.hid hb1
      clear hb1 HAW
      go_wp2
      clear d40
      go_loopw [5] (fun i wr => ∃ k : Nat, i = .int .i64 (k : Int) ∧ k ≤ ms.length ∧ Hid (∀ m ∈ ms.take k, fewB m = true) ∧ Hid (Below w.heap.size w wr)) (fun i _ => ms.length - (intOf i).toNat)
      case atStart => exact ⟨0, rfl, Nat.zero_le _, Lib.hid (by simp), HB1⟩
      case round =>
        obtain ⟨k, rfl, hk, HFW, HB⟩ := hrel
        by_cases hlt : k < ms.length
        · have HFN : Hid (fewB ms[k] = true → ∀ m ∈ ms.take (k + 1), fewB m = true) := Lib.hid (fun hf m hm => by
            rw [List.take_succ_eq_append_getElem hlt] at hm
            rcases List.mem_append.1 hm with hm | hm
            · exact HFW.out m hm
            · simp at hm
              subst hm
              exact hf)
          obtain ⟨g, off, rfl, hg, ca⟩ := row_get shapeL_len (by decide) HRW.out (by omega)
          have a0 := (HB.out.cell (p := ⟨g, off + k * 2, none⟩) hg).trans (ca k hlt 0 (by decide))
          have a1 := (HB.out.cell (p := ⟨g, off + k * 2 + 1, none⟩) hg).trans (ca k hlt 1 (by decide))
          have HFA := Lib.hid (fun W (hW : Below w.heap.size w W) => few_any ms[k] W ((HEA.out _ (List.getElem_mem hlt)).below hW))
          have hk1 : (0 : Int) ≤ (k : Int) := by omega
          have hk2 : (k : Int) < (ms.length : Int) := by omega
          clear ca
          generalize ms[k] = m at *
          simp only [shapeL, rowVal, holesVal, List.getElem?_cons_zero, List.getElem?_cons_succ] at a0 a1
          cases hf : fewB m
          · rw [hf] at HFA
            clear hf
            go_wp2_with fail
            refine (HFA.out _ HB.out).mono ?_
            rintro e w2 ⟨rfl, hb2⟩
            have HB2 := Lib.hid (HB.out.trans (hb2.mono HB.out.size))
            clear hb2
            go_wp2
            go_ret
            exact ⟨rfl, HB2.out⟩
          · have HF2 := Lib.hid (HFN.out hf)
            rw [hf] at HFA
            clear hf
            go_wp2_with fail
            refine (HFA.out _ HB.out).mono ?_
            rintro e w2 ⟨rfl, hb2⟩
            have HB2 := Lib.hid (HB.out.trans (hb2.mono HB.out.size))
            clear hb2
            go_wp2
            go_roundw
            case rel => exact ⟨k + 1, by go_num, by omega, HF2, HB2⟩
            case measure => simp [intOf]; omega
        · obtain rfl : k = ms.length := by omega
          have HSI : Hid (∀ W, Below w.heap.size w W → ShapesIn W A ms) := Lib.hid (fun W hW => by
            have hall := HFW.out
            rw [List.take_length] at hall
            refine ⟨HRW.out.below hW, fun m hm => ((HEA.out m hm).below hW).few (hall m hm), by omega, fun m hm => ?_⟩
            have := hall m hm
            unfold fewB at this
            simp only [Bool.and_eq_true, decide_eq_true_eq] at this
            omega)
          have HE1 := Lib.hid (HD1.out wr (HSI.out wr HB.out))
          have HE2 := Lib.hid (fun W (hW : Below w.heap.size w W) => HD2.out W (HSI.out W hW))
          obtain ⟨⟨es, ec⟩, hdp⟩ : ∃ x, drawP ms layer = x := ⟨_, rfl⟩
          rw [hdp] at HE1 HE2 HDL
          simp only at HE1 HE2 HDL
          have hel := HDL.out
          have e1 : (ec == ec) = true := beq_self_eq_true ec
          clear hdp HD1 HD2 HSI HDL
          go_wp2_with fail
          refine HE1.out.mono ?_
          rintro e w2 ⟨⟨v2, rfl, hown2⟩, hb2⟩
          obtain ⟨A2, k2, rfl, _⟩ := own_shape hown2
          have HB2 := Lib.hid (HB.out.trans (hb2.mono HB.out.size))
          have HR2 := Lib.hid (Row.of_own hown2)
          clear hown2 hb2
          go_wp2_with fail
          refine (HE2.out _ HB2.out).mono ?_
          rintro e w3 ⟨⟨v3, rfl, hown3⟩, hb3⟩
          obtain ⟨A3, k3, rfl, _⟩ := own_shape hown3
          have HB3 := Lib.hid (HB2.out.trans (hb3.mono HB2.out.size))
          have HR3 := Lib.hid (Row.of_own hown3)
          have HTH := Lib.hid (theirs_any es L A2 k2 w3 (HR2.out.below hb3) (by omega))
          clear hown3 hb3
          go_wp2_with fail
          refine HTH.out.mono ?_
          rintro e w4 ⟨⟨v4, rfl, hown4⟩, hb4⟩
          obtain ⟨A4, k4, rfl, _⟩ := own_shape hown4
          have HB4 := Lib.hid (HB3.out.trans (hb4.mono HB3.out.size))
          have HSA := Lib.hid (sameLines_any es L A4 A3 k4 k3 w4 (Row.of_own hown4) (HR3.out.below hb4) (by omega))
          clear hown4 hb4
          go_wp2_with fail
          refine HSA.out.mono ?_
          rintro e w5 ⟨rfl, hb5⟩
          have HB5 := Lib.hid (HB4.out.trans (hb5.mono HB4.out.size))
          go_wp2
          go_ret
          exact ⟨rfl, HB5.out⟩
end Go.Proofs.YtnmmhcchpcbeeaaGreat.GeW

namespace Go.Proofs.YtnmmhcchpcbeeaaGreat.GeW
open Go Go.RowKit
theorem handed6 {H : Type} {enc : TypeId × Value → H} {a : Assume} {C : Checked} {os : Os} {f : FuncId} {fn : Func} {s : ChangeSpec} {conds : List PathCond} {apart fresh handsOn again : Bool}
    (own : ownKnob C.prog.godebug = none) (started : os.Started) (noInit : C.prog.inits.idxOf? f = none) (hfn : C.prog.funcs[f]? = some fn)
    (witness : ∃ (w : World) (tape : Tape) (i : Input), w.os = os ∧ (w.forCall tape i).Shaped C.prog ∧ i.vars = [] ∧ Input.okWide C.prog (w.forCall tape i) .any w.heap.size f i ∧
      s.pre6 enc C.prog fn conds apart (w.forCall tape i).memory i.args ∧ a.holds C.prog (lone (Frame.enter C.prog f i.args .normal) [] (w.forCall tape i)))
    (contract : ∀ (W : World) (base : Nat) (args : Array Value) (ds gs : List (DataW H)) (before : List MemPlace),
      (∀ (j : Nat) t v, fn.params[j]? = some t → args[j]? = some v → Value.okWide C.prog W .any base t v) →
      DataW.Whole enc C.prog fn.params.toList s.vars apart W args.toList ds gs before →
      (DataW.weightsEach C.prog (fn.params.toList ++ s.plain.varTypes C.prog) (ds ++ gs)).all (· ≤ reachBytes) = true →
      Calls C.prog f args W fun e W' => ∃ v, e = .returned v ∧ s.post enc C.prog fn apart fresh handsOn again W args v W') :
    ReturnsInHanded a C os f .any (s.pre6 enc C.prog fn conds apart) (s.post enc C.prog fn apart fresh handsOn again) := by
  refine returnsInHanded_of_calls own started noInit witness ?_
  intro w tape i _ hsh _ hok hpre _
  obtain ⟨_, _, _, fn', hfn', _, _, _, _, hval⟩ := hok
  obtain rfl : fn' = fn := Option.some.inj (hfn'.symm.trans hfn)
  obtain ⟨⟨ds, gs, before, hw, _⟩, hz⟩ := hpre
  refine (contract (w.forCall tape i) w.heap.size i.args ds gs before hval (DataW.Whole.of_heap (w' := w.forCall tape i) (by rfl) hw) (hz.weights hw)).mono fun e W' ⟨v, he, hp⟩ => ?_
  subst he
  exact ChangeSpec.post_blind hp
end Go.Proofs.YtnmmhcchpcbeeaaGreat.GeW

namespace Go.Proofs.YtnmmhcchpcbeeaaGreat.DrawingDrawDone
open Go.ChangeShapes Go.WideShapes Go.ChangeAt Go.RowKit
open Go.ChangeMaps (open_string shut_string)

theorem own : ownKnob Tryz.prog.godebug = none := by kernel_rfl
theorem laidOut : laidOutB Tryz.prog = true := by kernel_rfl

set_option maxRecDepth 100000 in
theorem lifted (os : Os) (started : os.Started) (H : Type) (enc : TypeId × Value → H) :
    ReturnsInHanded {} Tryz.checked os 3 .any (Rows.drawingDrawSpec.pre6 enc Tryz.prog Tryz.f3 Rows.drawingDrawRow.domain false) (Rows.drawingDrawSpec.post enc Tryz.prog Tryz.f3 false true false false) := by
  refine GeW.handed6 (C := Tryz.checked) own started (by kernel_rfl) Tryz.func3
    (ChangeSpec.witness6 (enc := enc) (C := Tryz.checked) false ⟨#[], #[.slice none 0 0, .string ⟨#[]⟩], []⟩ 8 (by kernel_rfl) (by kernel_rfl) (by kernel_rfl) (by kernel_rfl)) ?_
  intro W base args ds gs before hval0 hW hz0
  have hz : (DataW.weightsEach Tryz.prog (Tryz.f3.params.toList ++ Rows.drawingDrawSpec.plain.varTypes Tryz.prog) (ds ++ gs)).all (· ≤ reachBytes) = true := hz0
  have hval : ∀ (j : Nat) t v, Tryz.f3.params[j]? = some t → args[j]? = some v → Value.okWide Tryz.prog W .any base t v := hval0
  have hW' := hW
  obtain ⟨p, q, hA0, hV, rfl, hfz, hnd⟩ := hW
  have hA : DataW.TrodAll enc Tryz.prog W 0 (fun _ => true) true Tryz.f3.params.toList args.toList ds p := hA0
  rw [Tryz.params3] at hA hval hz
  obtain ⟨v0, vs0, d0, ds0, p0, q0, hargs, rfl, rfl, h0, r0⟩ := trodAll_cons hA
  obtain ⟨v1, vs1, d1, ds1, p1, q1, rfl, rfl, rfl, h1, r1⟩ := trodAll_cons r0
  obtain ⟨rfl, rfl, rfl⟩ := trodAll_nil r1
  obtain rfl : args = #[v0, v1] := by cases args; simp_all
  obtain ⟨rfl, rfl⟩ := trodVars_none hV
  have k0 := h0
  have lt0 : ∀ x ∈ p0, x.block < W.heap.size := by obtain ⟨m, hm⟩ := k0; exact DataW.trod_lt m _ _ _ hm
  obtain ⟨A0, len0, cap0, rfl⟩ := okWide_slice Tryz.underlying22 (hval 0 22 v0 rfl rfl)
  obtain ⟨x0, s0⟩ := GeW.open_shapes h0 (fun k hk => by simpa using List.all_eq_true.1 hz k (DataW.weights_mem_each (j := 0) rfl rfl k hk))
  obtain ⟨x1, rfl, rfl, rfl, s1⟩ := open_string Tryz.underlying9 (hval 1 9 v1 rfl rfl) h1
  clear hA0 hval0 hz0
  simp only [List.append_nil] at hW'
  refine (GeW.drawLaw_walk A0 len0 cap0 x0 x1 W s0).mono fun e W' ⟨he, bel⟩ => ?_
  subst he
  exact ⟨_, rfl, _, _, _, [], _, [], hW', trodAll_mk1 (shut_bool Tryz.underlying4 _), (trodAll_cons_mk (Below.trod laidOut (by kernel_rfl) (of_decide_eq_true (by kernel_rfl)) k0 bel lt0) (trodAll_cons_mk (shut_string Tryz.underlying9 s1) trodAll_mk0)), rfl, bel.frame _, fun h => by cases h⟩

theorem said : Rows.DrawingDrawSaid :=
  OpenClaim.holds_of_wide 3 Tryz.f3 rfl rfl rfl rfl rfl rfl rfl ⟨rfl, rfl, rfl, rfl, rfl⟩ rfl rfl rfl rfl rfl (by kernel_rfl) Tryz.func3 (by kernel_rfl)
    (of_decide_eq_true (by kernel_rfl)) (by unfold Func.isWrapper; first | (rw [if_pos (by decide +kernel)]; kernel_rfl) | (rw [if_neg (by decide +kernel)]; exact ⟨rfl, rfl⟩))
    (fun os started H enc _ => lifted os started H enc)
#print axioms said
end Go.Proofs.YtnmmhcchpcbeeaaGreat.DrawingDrawDone
