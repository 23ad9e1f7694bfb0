/- A region that draws its order, whose operations only read and whose callees lay blocks of their own, walked once: the class of the worlds that hold what a world held. No function is in sight. Conditions: none. -/
import Derived.Test.YtnmmhcchpcbeeaaGreatMem
import Derived.Deep.Quiet
import Derived.BigQuiet

namespace Go.Proofs.YtnmmhcchpcbeeaaGreat.Mem
open Go Go.RowKit
/-- A world behind W: what W held is there. -/
structure Later (W : World) where
  w : World
  h : Below W.heap.size W w
instance (W : World) : Inhabited (Later W) := ⟨⟨W, Below.refl _ _⟩⟩
theorem wp_region_later {P : Program} (W : World) {id : Nat} {Q : Exit → Act → World → Prop} {a : Act} {w : World} {l : List Oper} (hm : P.follows .mixedOrders = true) (hB : Region.lexB .any l.toArray = true) (hW : Below W.heap.size W w)
    (h : wpQuiet P l.toArray (fun w' => ∃ p : Later W, w' = p.w) (fun a' => ∀ w', (∃ p : Later W, w' = p.w) → Q .normal a' w') l a) : (Code.region id l.toArray true).wp P Q a w :=
  wp_region_quiet (C := fun w' => ∃ p : Later W, w' = p.w) hm hB ⟨⟨w.drew, ⟨hW.os, hW.tape, hW.output, hW.size, hW.block⟩⟩, rfl⟩ (by simpa using h)
theorem later_of {W w' : World} (h : ∃ p : Later W, w' = p.w) : Below W.heap.size W w' := by
  obtain ⟨p, rfl⟩ := h
  exact p.h
theorem Calls.later {P : Program} {W : World} {f : FuncId} {args : Array Value} {p : Later W} {v : Value}
    (h : Calls P f args p.w fun e w' => e = .returned v ∧ Below p.w.heap.size p.w w') : Calls P f args p.w fun e w'' => e = .returned v ∧ ∃ q : Later W, w'' = q.w :=
  h.mono fun _ w'' ⟨he, hb⟩ => ⟨he, ⟨w'', p.h.trans (hb.mono p.h.size)⟩, rfl⟩
theorem Calls.later_same {P : Program} {W : World} {f : FuncId} {args : Array Value} {p : Later W} {v : Value}
    (h : Calls P f args p.w fun e w' => e = .returned v ∧ w' = p.w) : Calls P f args p.w fun e w'' => e = .returned v ∧ ∃ q : Later W, w'' = q.w :=
  h.mono fun _ _ ⟨he, hb⟩ => ⟨he, p, hb⟩
theorem later_cell {W : World} {a : Addr} {v : Value} (hb : a.block < W.heap.size) (h : W.cell? a = some v) (p : Later W) : p.w.cell? a = some v :=
  (p.h.cell (p := a) hb).trans h
end Go.Proofs.YtnmmhcchpcbeeaaGreat.Mem
