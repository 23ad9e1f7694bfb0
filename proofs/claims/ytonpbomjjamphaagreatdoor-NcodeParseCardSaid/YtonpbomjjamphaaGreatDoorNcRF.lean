/- A range over a function whose iterator keeps what is left in a variable of its own, which it has captured: the box b. -/
import Derived.RangeFuncNested
import Derived.RangeFuncBound
import Derived.RangeFuncCalls
import Derived.RangeFuncLeaves
import Derived.Shelf.Abstract
import Derived.Shelf.RegionOpen
import Derived.WalkKit
import Derived.OwnWalkIn
import Derived.TacticsInMore
import Derived.LoopNIn
import Derived.LoopIn
namespace Go.Proofs.YtonpbomjjamphaaGreatDoor.NcW
open Go Go.RowKit

/-- Nothing that lay has turned but the box b. -/
structure Turn (b : Nat) (w w' : World) : Prop where
  os : w'.os = w.os
  tape : w'.tape = w.tape
  output : w'.output = w.output
  size : w.heap.size ≤ w'.heap.size
  block : ∀ k, k < w.heap.size → k ≠ b → w'.heap[k]? = w.heap[k]?

theorem Turn.of_below {b : Nat} {w w' : World} (h : Below w.heap.size w w') : Turn b w w' := ⟨h.os, h.tape, h.output, h.size, fun k hk _ => h.block k hk⟩

theorem Turn.put {b : Nat} (w : World) (v : Value) : Turn b w (w.setCell ⟨b, 0, none⟩ v) := ⟨rfl, rfl, rfl, by simp [World.setCell], fun _ _ hne => Below.heap_setCell _ _ _ _ hne⟩

/-- What a round that goes on leaves as it lay: the box, and the library's first variable. -/
structure Leaves (b : Nat) (A B : World) : Prop where
  own : B.heap[b]? = A.heap[b]?
  first : B.heap[0]? = A.heap[0]?
theorem Leaves.trans {b : Nat} {A B C : World} (h : Leaves b A B) (k : Leaves b B C) : Leaves b A C := ⟨k.own.trans h.own, k.first.trans h.first⟩
theorem Leaves.put {b l : Nat} (A : World) (o : Obj) (h : b < l) : Leaves b A (A.putObj l o) := ⟨World.putObj_heap_other (by omega), World.putObj_heap_other (by omega)⟩

variable {F : Fence} {n : Nat} {P : Program}

/-- The iterator's word: all of xs, one by one, or, where a round has said 'no more', a part. -/
def GivesAll {α : Type} (F : Fence) (n : Nat) (P : Program) (g : Nat) (lb : Array Value) (encs : α → Array Value) (b : Nat) (xs : List α) (w : World) : Prop :=
  ∀ (l : Nat) (J Jx : List α → World → Prop) (W : World), Below w.heap.size w W → (∀ s A B, J s A → Turn b A B → J s B) → (∀ s A B, Jx s A → Turn b A B → Jx s B) →
    (∀ pre x A, J pre A → pre ++ [x] <+: xs → YieldAt F (n - 1) P l (encs x) A fun e B =>
      (e = .returned (.bool true) ∧ J (pre ++ [x]) B ∧ Leaves b A B) ∨ (e = .returned (.bool false) ∧ Jx (pre ++ [x]) B)) →
    J [] W →
    CallsIn F n P g (#[.func (.yield l) #[] #[]] ++ lb) W fun e B => (∃ v, e = .returned v) ∧ (J xs B ∨ ∃ pre, pre <+: xs ∧ Jx pre B)

def goesOn {α : Type} (b : Nat) (I : List α → World → Prop) (Ix : Code → List α → World → Prop) (xs : List α) (W : World) : Exit → Act → World → Prop
  | .normal, _, B => KeepsOthers W B ∧ Leaves b W B ∧ I xs B
  | .ret, _, B => KeepsOthers W B ∧ Ix .ret xs B
  | .exit i, _, B => KeepsOthers W B ∧ Ix (.exit i) xs B
  | .goto t, _, B => KeepsOthers W B ∧ Ix (.goto t) xs B
  | .panic _, _, _ => False
  | .outgrown, _, _ => False

theorem wpIn_rangeFunc_box {α : Type} {g : Operand} {ps : Array Tmp} {assign body : Code} {Q : Exit → Act → World → Prop} {a : Act} {w : World}
    (hro : F.round = none) (h1 : 1 ≤ n) {gf : Nat} {lb : Array Value} (hg : a.eval g = .func (.func gf) #[] lb) (hFg : F.fn gf) (eg : ∀ args w, (callFunc gf args).run P w = .ok (.enter gf args) w)
    {encs : α → Array Value} {b : Nat} (hb : b < w.heap.size) {xs : List α} (hseq : GivesAll F (n - 1) P gf lb encs b xs w) (hps : ∀ x, (encs x).size = ps.size)
    (I : List α → World → Prop) (Ix : Code → List α → World → Prop)
    (hI : ∀ s A B, I s A → Turn b A B → I s B) (hI2 : ∀ s A l o o', I s A → w.heap.size ≤ l → A.heap[l]? = some o → o.isCells = false → I s (A.putObj l o'))
    (hX : ∀ c s A B, Ix c s A → Turn b A B → Ix c s B) (hX2 : ∀ c s A l o o', Ix c s A → w.heap.size ≤ l → A.heap[l]? = some o → o.isCells = false → Ix c s (A.putObj l o'))
    (h0 : I [] w) (a₁ : α → Act)
    (hassign : ∀ (l : Nat) (x : α) (W : World) (K : Act → World → Prop), K (a₁ x) W →
      assign.wpIn (F.inRound l) (n - 1 - 1) P (Exit.then K (fun _ _ _ => False)) { tmps := (ps.zip (encs x)).foldl (fun t (p, v) => t.setIfInBounds p v) a.tmps, defers := [] } W)
    (hbody : ∀ (l : Nat) (pre : List α) (x : α) (W : World), I pre W → pre ++ [x] <+: xs → body.wpIn (F.inRound l) (n - 1 - 1) P (goesOn b I Ix (pre ++ [x]) W) (a₁ x) W)
    (hdone : ∀ (D : Nat) (W : World), w.heap.size ≤ D → I xs W → W.heap[D]? = some (.deferred (some [])) → Q .normal { a with defers := { target := .collected D, args := #[] } :: a.defers } W)
    (hstop : ∀ (D : Nat) (c : Code) (pre : List α) (W : World), w.heap.size ≤ D → pre <+: xs → Ix c pre W → W.heap[D]? = some (.deferred (some [])) → c.wpIn F n P Q { a with defers := { target := .collected D, args := #[] } :: a.defers } W) :
    (Code.rangeFunc g ps assign body).wpIn F n P Q a w := by
  refine wpIn_rangeFunc fun fn hfn => ?_
  rw [hro]
  generalize hD : w.heap.size = D at *
  let rec' : LoopState → Option Code → Loop := fun st pe => { state := st, pending := pe, fn, tmps := a.tmps, params := ps, assign, body, defers := D }
  let W1 := (w.alloc (.deferred (some []))).alloc (.loop (rec' .ready none))
  have hr1 : W1.heap[D + 1]? = some (.loop (rec' .ready none)) := by
    have := World.alloc_heap_new (w.alloc (.deferred (some []))) (.loop (rec' .ready none)); rwa [World.size_alloc, hD] at this
  have hd1 : W1.heap[D]? = some (.deferred (some [])) := by
    rw [← hD]; exact (Below.heap_alloc _ _ _ (by simp)).trans (World.alloc_heap_new w _)
  have hB1 : Below D w W1 := by rw [← hD]; exact (((Below.refl _ w).alloc (Nat.le_refl _) _).alloc (by simp) _)
  have hi1 : I [] W1 := hI _ _ _ h0 (Turn.of_below (by rw [hD]; exact hB1))
  have turnRec : ∀ {A B : World} {k : Nat} {o : Obj}, Turn b A B → D ≤ k → A.heap[k]? = some o → B.heap[k]? = some o := fun ht hk ho =>
    (ht.block _ (Array.getElem?_eq_some_iff.1 ho).1 (by omega)).trans ho
  refine ⟨D + 1, [{ target := .collected D, args := #[] }], W1, { target := .fn (.func gf) lb, args := #[.func (.yield (D + 1)) #[] #[]] }, W1, gf, #[.func (.yield (D + 1)) #[] #[]] ++ lb, W1, ?_, ?_, ?_, ?_, fun _ => h1, ?_⟩
  · have := run_enterLoop_outer (P := P) (w := w) fn a.tmps ps assign body
    rw [hD] at this; exact this
  · simp only [resolve, hg]
    simp [go_sem]
  · intro f' hf'; simp [Target.leads] at hf'; subst hf'; exact hFg
  · simp [invoke, go_sem, eg]
  · refine (hseq (D + 1) (fun pre W => I pre W ∧ W.heap[D + 1]? = some (.loop (rec' .ready none)) ∧ W.heap[D]? = some (.deferred (some [])))
      (fun pre W => ∃ c, Ix c pre W ∧ W.heap[D + 1]? = some (.loop (rec' .done (some c))) ∧ W.heap[D]? = some (.deferred (some [])))
      W1 (by rw [hD]; exact hB1)
      (fun s A B h ht => ⟨hI _ _ _ h.1 ht, turnRec ht (by omega) h.2.1, turnRec ht (by omega) h.2.2⟩)
      (fun s A B h ht => by obtain ⟨c, h⟩ := h; exact ⟨c, hX _ _ _ _ h.1 ht, turnRec ht (by omega) h.2.1, turnRec ht (by omega) h.2.2⟩)
      ?_ ⟨hi1, hr1, hd1⟩).mono ?_
    · rintro pre x A ⟨hi, hr, hd⟩ hpre
      have hlt := (Array.getElem?_eq_some_iff.1 hr).1
      refine ⟨fn, _, assign, body, run_yield (r := rec' .ready none) hr (hps x), roundIn_of_wpIn hfn (hassign _ x A _ ⟨_, run_beginRound hr rfl, ?_⟩)⟩
      have hr2 : (A.putObj (D + 1) (.loop (rec' .busy none))).heap[D + 1]? = some (.loop (rec' .busy none)) := World.putObj_heap_same hlt
      have hd2 : (A.putObj (D + 1) (.loop (rec' .busy none))).heap[D]? = some (.deferred (some [])) := (World.putObj_heap_other (by omega)).trans hd
      have hb2 : Leaves b A (A.putObj (D + 1) (.loop (rec' .busy none))) := Leaves.put _ _ (by omega)
      refine wpIn_mono (hbody _ pre x _ (hI2 _ _ _ _ _ hi (by omega) hr rfl) hpre) ?_
      rintro e a3 B hp
      have hend : ∀ j, KeepsOthers (A.putObj (D + 1) (.loop (rec' .busy none))) B → B.heap[D + 1]? = some (.loop (rec' .busy none)) ∧ B.heap[D]? = some (.deferred (some [])) ∧ (Instr.endRound (D + 1) j).run P B = .ok (.bool j.isNone) (B.putObj (D + 1) (.loop (rec' (if j.isNone then .ready else .done) j))) ∧
          (B.putObj (D + 1) (.loop (rec' (if j.isNone then .ready else .done) j))).heap[D + 1]? = some (.loop (rec' (if j.isNone then .ready else .done) j)) ∧ (B.putObj (D + 1) (.loop (rec' (if j.isNone then .ready else .done) j))).heap[D]? = some (.deferred (some [])) := fun j hk => by
        have hr3 := hk.same _ _ hr2 rfl
        have hd3 := hk.same _ _ hd2 rfl
        exact ⟨hr3, hd3, run_endRound j hr3, World.putObj_heap_same (Array.getElem?_eq_some_iff.1 hr3).1, (World.putObj_heap_other (by omega)).trans hd3⟩
      cases e with
      | normal =>
        obtain ⟨hk, hbl, hi3⟩ := hp
        obtain ⟨hr3, _, hrun, hr4, hd4⟩ := hend none hk
        exact ⟨_, _, hrun, .inl ⟨rfl, ⟨hI2 _ _ _ _ _ hi3 (by omega) hr3 rfl, hr4, hd4⟩, (hb2.trans hbl).trans (Leaves.put _ _ (by omega))⟩⟩
      | ret =>
        obtain ⟨hk, hi3⟩ := hp
        obtain ⟨hr3, _, hrun, hr4, hd4⟩ := hend (some .ret) hk
        exact ⟨_, _, hrun, .inr ⟨rfl, .ret, hX2 _ _ _ _ _ _ hi3 (by omega) hr3 rfl, hr4, hd4⟩⟩
      | exit i =>
        obtain ⟨hk, hi3⟩ := hp
        obtain ⟨hr3, _, hrun, hr4, hd4⟩ := hend (some (.exit i)) hk
        exact ⟨_, _, hrun, .inr ⟨rfl, .exit i, hX2 _ _ _ _ _ _ hi3 (by omega) hr3 rfl, hr4, hd4⟩⟩
      | goto t =>
        obtain ⟨hk, hi3⟩ := hp
        obtain ⟨hr3, _, hrun, hr4, hd4⟩ := hend (some (.goto t)) hk
        exact ⟨_, _, hrun, .inr ⟨rfl, .goto t, hX2 _ _ _ _ _ _ hi3 (by omega) hr3 rfl, hr4, hd4⟩⟩
      | panic ch => exact hp.elim
      | outgrown => exact hp.elim
    · rintro e B ⟨⟨v, rfl⟩, (⟨hi, hr, hd⟩ | ⟨pre, hpre, c, hx, hr, hd⟩)⟩
      · exact ⟨none, _, run_endLoop (r := rec' .ready none) hr (by simp [rec']), hdone D _ (by omega) (hI2 _ _ _ _ _ hi (by omega) hr rfl) ((World.putObj_heap_other (by omega)).trans hd)⟩
      · exact ⟨some c, _, run_endLoop (r := rec' .done (some c)) hr (by simp [rec']), hstop D c pre _ (by omega) hpre (hX2 _ _ _ _ _ _ hx (by omega) hr rfl) ((World.putObj_heap_other (by omega)).trans hd)⟩
end Go.Proofs.YtonpbomjjamphaaGreatDoor.NcW
