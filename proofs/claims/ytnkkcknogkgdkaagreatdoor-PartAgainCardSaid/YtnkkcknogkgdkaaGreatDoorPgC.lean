/- PartAgain's arguments opened, and the library's table at its row. Conditions: none. -/
import Derived.Test.YtnkkcknogkgdkaaGreatDoorMem2
import Derived.Deep.Slices
import Derived.ChangeArms
import Derived.Test.YtnkkcknogkgdkaaGreatDoorRows
import Derived.Test.YtnkkcknogkgdkaaGreatDoorPgB
import Derived.OpenShut
import Derived.MakeChecks
import Derived.Stop.LaidErr

namespace Go.Proofs.YtnkkcknogkgdkaaGreatDoor.Mem
open Go Go.RowKit

theorem choose_lt' {α : Type} {p : Nat → α → Prop} : ∀ (m : Nat), (∀ i, i < m → ∃ a, p i a) → ∃ l : List α, l.length = m ∧ ∀ i (h : i < l.length), p i l[i]
 | 0, _ => ⟨[], rfl, fun i h => by simp at h⟩
 | m + 1, h => by
  obtain ⟨l, hl, hp⟩ := choose_lt' m fun i hi => h i (by omega)
  obtain ⟨a, ha⟩ := h m (by omega)
  refine ⟨l ++ [a], by simp [hl], fun i hi => ?_⟩
  by_cases hlt : i < l.length
  ·rw [List.getElem_append_left hlt]; exact hp i hlt
  ·have hi' : i = l.length := by simp at hi; omega
   subst hi'
   rw [List.getElem_append_right (Nat.le_refl _)]
   simp only [Nat.sub_self, List.getElem_cons_zero]
   rw [hl]; exact ha

theorem flatten_get {n : Nat} : ∀ (l : List (List Value)), (∀ c ∈ l, c.length = n) → ∀ (i f : Nat) (h : i < l.length), f < n → l.flatten[i * n + f]? = l[i][f]?
 | [], _, i, f, h, _ => by simp at h
 | c :: r, hc, 0, f, _, hf => by
  have := hc c (by simp)
  show (c ++ r.flatten)[0 * n + f]? = _
  rw [Nat.zero_mul, Nat.zero_add, List.getElem?_append_left (by omega)]; rfl
 | c :: r, hc, i + 1, f, h, hf => by
  have h0 := hc c (by simp)
  show (c ++ r.flatten)[(i + 1) * n + f]? = _
  have e : (i + 1) * n + f - c.length = i * n + f := by rw [h0, Nat.add_mul]; omega
  rw [List.getElem?_append_right (by rw [h0, Nat.add_mul]; omega), e, flatten_get r (fun c' h' => hc c' (by simp [h'])) i f (by simpa using h) hf]; rfl
theorem flatten_len {n : Nat} : ∀ (l : List (List Value)), (∀ c ∈ l, c.length = n) → l.flatten.length = l.length * n
 | [], _ => by simp
 | c :: r, hc => by
  have h0 := hc c (by simp)
  have := flatten_len r fun c' h' => hc c' (by simp [h'])
  rw [List.flatten_cons, List.length_append, this, h0, List.length_cons, Nat.add_mul]; omega

theorem addr_add (a : Addr) (h : a.spot = none) (i : Nat) : a.add i = ⟨a.block, a.off + i, none⟩ := by
 obtain ⟨b, o, s⟩ := a
 simp only at h
 subst h
 by_cases h0 : i = 0
 ·subst h0; rfl
 ·show (if i = 0 then _ else _) = _
  rw [if_neg h0]

section
variable {H : Type} {enc : TypeId × Value → H} {P : Program} {w : World} {held : Bool}
theorem open_cells {t e : TypeId} {A : Option Addr} {len cap : Nat} {d : DataW H} {p : List MemPlace} (ht : P.underlying t = some (.slice e)) (hn : 0 < P.cellsOf e)
  (h : DataW.Trod enc P w 0 (fun _ => true) held t (.slice A len cap) d p) :
  ∃ css : List (List Value), css.length = len ∧ (∀ cs ∈ css, cs.length = P.cellsOf e ∧ ∃ n y, DataW.trod enc P w 0 (fun _ => true) held n e cs = some y) ∧ Row w A css.flatten ∧ len ≤ maxLen ∧ len ≤ cap := by
 obtain ⟨fuel, h⟩ := h
 have hc : (Value.slice A len cap).cells.toList = [Value.slice A len cap] := by simp [Value.cells]
 have h1 := Deep.open_slice ht h
 try rw [hc] at h1
 rcases h1 with ⟨h0, _⟩ | ⟨a, len', cap', m, n, D, Pl, h0, _, hl, hm, hmm, _, hx⟩
 ·simp only [List.cons.injEq, Value.slice.injEq, and_true] at h0
  obtain ⟨rfl, rfl, rfl⟩ := h0
  exact ⟨[], rfl, by simp, Row.nil _ _, Nat.zero_le _, Nat.le_refl _⟩
 ·simp only [List.cons.injEq, Value.slice.injEq, and_true] at h0
  obtain ⟨rfl, rfl, rfl⟩ := h0
  simp only [if_true] at hmm
  subst hmm
  obtain ⟨l, hll, hlp⟩ := choose_lt' len fun i hi => hx i (by omega)
  have hlen : ∀ cs ∈ l, cs.length = P.cellsOf e := by
   intro cs hcs
   obtain ⟨i, hi, rfl⟩ := List.getElem_of_mem hcs
   exact (World.cells?_some (hlp i hi).1).2.1
  refine ⟨l, hll, fun cs hcs => ⟨hlen cs hcs, ?_⟩, ?_, by omega, hl⟩
  ·obtain ⟨i, hi, rfl⟩ := List.getElem_of_mem hcs
   exact ⟨n, _, (hlp i hi).2⟩
  ·intro hne
   have hfl := flatten_len l hlen
   have hpos : 0 < l.length := by
    rcases l with _ | _
    ·exact absurd rfl hne
    ·simp
   have cell := fun (i : Nat) (hi : i < l.length) => (World.cells?_some (hlp i hi).1).2.2
   have hsome : ∃ v, w.cell? a = some v := by
    have h2 := cell 0 hpos 0 hn
    rw [Nat.zero_mul] at h2
    simp only [Addr.add, if_true] at h2
    rw [h2, List.getElem?_eq_getElem (by rw [hlen _ (List.getElem_mem hpos)]; exact hn)]
    exact ⟨_, rfl⟩
   obtain ⟨v, hv⟩ := hsome
   have hspot : a.spot = none := by
    unfold World.cell? at hv
    split at hv
    ·split at hv
     ·cases hv
     ·rename_i hs; simpa using hs
    ·cases hv
   have hb : a.block < w.heap.size := by
    by_cases hlt : a.block < w.heap.size
    ·exact hlt
    ·unfold World.cell? at hv
     rw [Array.getElem?_eq_none (Nat.le_of_not_lt hlt)] at hv
     cases hv
   refine ⟨a.block, a.off, ?_, hb, fun j hj => ?_⟩
   ·obtain ⟨b, o, s⟩ := a
    simp only at hspot
    subst hspot; rfl
   ·rw [hfl] at hj
    have hi : j / P.cellsOf e < l.length := Nat.div_lt_of_lt_mul (by rw [Nat.mul_comm]; exact hj)
    have hf : j % P.cellsOf e < P.cellsOf e := Nat.mod_lt _ hn
    have hj2 : j = j / P.cellsOf e * P.cellsOf e + j % P.cellsOf e := by rw [Nat.mul_comm]; exact (Nat.div_add_mod _ _).symm
    have h2 := cell _ hi _ hf
    have h3 := flatten_get l hlen _ _ hi hf
    rw [← hj2] at h3
    rw [h3, ← h2, addr_add a hspot, addr_add _ rfl]
    simp only
    rw [Nat.add_assoc, ← hj2]
theorem list_typed {α : Type} (f : α → List Value) (good : α → Prop) : ∀ (css : List (List Value)), (∀ cs ∈ css, ∃ x, good x ∧ cs = f x) → ∃ xs : List α, css = xs.map f ∧ ∀ x ∈ xs, good x
 | [], _ => ⟨[], rfl, by simp⟩
 | c :: r, h => by
  obtain ⟨x, hx, rfl⟩ := h c (by simp)
  obtain ⟨xs, rfl, hxs⟩ := list_typed f good r fun c' h' => h c' (by simp [h'])
  exact ⟨x :: xs, rfl, by simpa [hx] using hxs⟩
/-- Opened, each element typed. -/
theorem open_typed {t e : TypeId} {A : Option Addr} {len cap : Nat} {d : DataW H} {p : List MemPlace} (ht : P.underlying t = some (.slice e)) (hn : 0 < P.cellsOf e)
  {α : Type} (f : α → List Value) (good : α → Prop)
  (hel : ∀ cs n y, DataW.trod enc P w 0 (fun _ => true) held n e cs = some y → ∃ x, good x ∧ cs = f x)
  (h : DataW.Trod enc P w 0 (fun _ => true) held t (.slice A len cap) d p) :
  ∃ xs : List α, xs.length = len ∧ (∀ x ∈ xs, good x) ∧ Row w A (xs.flatMap f) ∧ len ≤ maxLen ∧ len ≤ cap := by
 obtain ⟨css, h1, h2, h3, h4, h5⟩ := open_cells ht hn h
 obtain ⟨xs, rfl, hxs⟩ := list_typed f good css fun cs hcs => by
  obtain ⟨_, n, y, hy⟩ := h2 cs hcs
  exact hel cs n y hy
 exact ⟨xs, by simpa using h1, hxs, by rw [List.flatMap_def]; exact h3, h4, h5⟩
end
end Go.Proofs.YtnkkcknogkgdkaaGreatDoor.Mem

namespace Go.Proofs.YtnkkcknogkgdkaaGreatDoor.PaW
open Go Go.RowKit Go.Proofs.YtnkkcknogkgdkaaGreatDoor.Mem Go.Proofs.YtnkkcknogkgdkaaGreatDoor.Pa
theorem var?_lt {P : Program} {W : World} {n : String} {g : Nat} {cs : Array Value} (hg : P.globalNamed n = some g) (h : W.var? P n = some cs) : g < W.heap.size := by
 unfold World.var? at h
 rw [hg] at h
 by_cases hl : g < W.heap.size
 ·exact hl
 ·simp only [Option.bind_some, Array.getElem?_eq_none (Nat.le_of_not_lt hl)] at h
  cases h
set_option maxRecDepth 100000 in
theorem glob_of {W : World} (h : laidMetH Tryz.prog Rows.partAgainRow.laid W) : Glob W := by
 rw [MakeChecks.laidMetH_plain _ _ _ (by kernel_rfl)] at h
 have h3 : laidMet Tryz.prog (("internal/strconv.uint64pow10", Lib.tabData .u64 Lib.pow10Tab) :: [("strconv.ErrRange", Rows.laid_strconv_ErrRange), ("strconv.ErrSyntax", Rows.laid_strconv_ErrSyntax)]) W := laidMet.tail (laidMet.tail h)
 have ht : Lib.TabIs Tryz.prog W "internal/strconv.uint64pow10" .u64 Lib.pow10Tab := Lib.tabIs_of_head gPow (t := 271) (e := 211) (n := 20) (by kernel_rfl) (by kernel_rfl) (by kernel_rfl) (by kernel_rfl) (by kernel_rfl) h3
 exact ⟨ht, var?_lt gPow ht⟩
theorem cells_u8 : Tryz.prog.cellsOf 5 = 1 := by kernel_rfl
section
variable {H : Type} {enc : TypeId × Value → H} {w : World} {held : Bool}
theorem open_gaps {A : Option Addr} {len cap : Nat} {d : DataW H} {p : List MemPlace}
  (h : DataW.Trod enc Tryz.prog w 0 (fun _ => true) held 82 (.slice A len cap) d p) :
  ∃ xs : List Nat, xs.length = len ∧ (∀ x ∈ xs, x < 256) ∧ Row w A (xs.flatMap gapCell) ∧ len ≤ maxLen ∧ len ≤ cap :=
 open_typed Tryz.underlying82 (by rw [cells_u8]; decide) gapCell (fun x => x < 256) (fun cs n y hy => by
  obtain ⟨v, rfl, _, hw⟩ := DataW.trod_int Tryz.underlying5 hy
  have hb := bounds_u8 hw
  exact ⟨v.toNat, by omega, by unfold gapCell; rw [Int.toNat_of_nonneg hb.1]⟩) h
end
theorem partAgain_bytes (x : ByteArray) (G : Option Addr) (glen gcap : Nat) (xs : List Nat) (W : World) (hx : xs.length = glen ∧ (∀ x ∈ xs, x < 256) ∧ Row W G (xs.flatMap gapCell) ∧ glen ≤ maxLen ∧ glen ≤ gcap) (hG : Glob W) :
  Calls Tryz.prog 10 #[.string x, .slice G glen gcap] W fun e w' => e = .returned (.bool true) ∧ Below W.heap.size W w' := by
 have := partAgain_walk awake_any x.data.toList xs G glen gcap W hG hx.1 hx.2.2.1 hx.2.1
 simpa using this
end Go.Proofs.YtnkkcknogkgdkaaGreatDoor.PaW
