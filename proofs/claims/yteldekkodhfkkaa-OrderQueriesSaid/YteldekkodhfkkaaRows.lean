/-
  No cell of these rows narrows 'for every input' (looked for: loops, veiled, ifaces, maps, wideKeys, modest, calm, conditions, laid).
  DERIVED. THE GIVEN ROWS OF THIS SEAT. 6 by the template 'for every input the law returns true; each argument reads behind the call as it read before'; 0 by the template 'total and deterministic' (their statements: YteldekkodhfkkaaTotals.lean).
  GIVEN WITH THE SEED: the statements are not yours to turn. If you find one false, say at which input.
  Laid BY PROGRAM, IN A SANDBOX (cutbox-rows.mjs): the forced cells as the released guide's own fill.sh prints them over the translation e573ea9f2e8949fe… (all of the seat's roots in one cut). By AI agents, Wed Nov 11 2026. No macro, syntax, notation, axiom, sorry.
-/
import Derived.Test.YteldekkodhfkkaaChecked
import GoSem.Claim
import GoSem.ClaimJoined
import GoSem.ClaimMapViews
import Derived.JoinedTies
import Derived.KernelRfl
namespace Go.Proofs.Yteldekkodhfkkaa
/- THE CELL 'sum', in the pinned program and in every row, IS THE sha256 OF THE DUMP (.gsa) THAT YteldekkodhfkkaaProg.lean LOADS. Nothing in Lean hashes anything: it is a label: what it is worth is what the hold of that sum in a sandbox is worth. -/
noncomputable def Try.pinned : Pinned := { name := "yteldekkodhfkkaa", sum := "e573ea9f2e8949fee70bdd3537f7cdf0731905ba3d7bcc5e9ee02a97b7de575a", checked := Try.checked }
namespace Rows
def none {H : Type} : Left H := { results := [], args := [] }

/-- 'fretsawlaw24.OrderNormal': WHATEVER THE INPUT: true; the input reads as it did. -/
def orderNormalSpec : ChangeSpec := { name := "orderNormal", fn := fun _ => fun
  | [d] => { results := [.lit (.bool true)], args := [d] }
  | _ => none }
def orderNormalRow : OpenClaim := { program := "yteldekkodhfkkaa", sum := "e573ea9f2e8949fee70bdd3537f7cdf0731905ba3d7bcc5e9ee02a97b7de575a", func := "fretsaw/fretsawlaw24.OrderNormal", spec := "orderNormal", unfollowed := true, recurses := true, plainKeys := false, apart := false }
def OrderNormalSaid : Prop := orderNormalRow.holds Try.pinned (OpenSpec.ofChange orderNormalSpec)

/-- ITS FALSE NEIGHBOUR: 'it returns false'. Refute it at one input. -/
def orderNormalWrong : ChangeSpec := { name := "orderNormal", fn := fun _ => fun
  | [d] => { results := [.lit (.bool false)], args := [d] }
  | _ => none }
def OrderNormalWrongFalsely : Prop := orderNormalRow.holds Try.pinned (OpenSpec.ofChange orderNormalWrong)

/-- 'fretsawlaw24.OrderAgain': WHATEVER THE INPUT: true; the input reads as it did. -/
def orderAgainSpec : ChangeSpec := { name := "orderAgain", fn := fun _ => fun
  | [d1, d2] => { results := [.lit (.bool true)], args := [d1, d2] }
  | _ => none }
def orderAgainRow : OpenClaim := { program := "yteldekkodhfkkaa", sum := "e573ea9f2e8949fee70bdd3537f7cdf0731905ba3d7bcc5e9ee02a97b7de575a", func := "fretsaw/fretsawlaw24.OrderAgain", spec := "orderAgain", unfollowed := true, recurses := true, plainKeys := false, apart := false }
def OrderAgainSaid : Prop := orderAgainRow.holds Try.pinned (OpenSpec.ofChange orderAgainSpec)

/-- ITS FALSE NEIGHBOUR: 'it returns false'. Refute it at one input. -/
def orderAgainWrong : ChangeSpec := { name := "orderAgain", fn := fun _ => fun
  | [d1, d2] => { results := [.lit (.bool false)], args := [d1, d2] }
  | _ => none }
def OrderAgainWrongFalsely : Prop := orderAgainRow.holds Try.pinned (OpenSpec.ofChange orderAgainWrong)

/-- 'fretsawlaw24.OrderJoined': WHATEVER THE INPUT: true; the input reads as it did. -/
def orderJoinedSpec : ChangeSpec := { name := "orderJoined", fn := fun _ => fun
  | [d1, d2] => { results := [.lit (.bool true)], args := [d1, d2] }
  | _ => none }
def orderJoinedRow : OpenClaim := { program := "yteldekkodhfkkaa", sum := "e573ea9f2e8949fee70bdd3537f7cdf0731905ba3d7bcc5e9ee02a97b7de575a", func := "fretsaw/fretsawlaw24.OrderJoined", spec := "orderJoined", unfollowed := true, recurses := true, plainKeys := false, apart := false }
def OrderJoinedSaid : Prop := orderJoinedRow.holds Try.pinned (OpenSpec.ofChange orderJoinedSpec)

/-- ITS FALSE NEIGHBOUR: 'it returns false'. Refute it at one input. -/
def orderJoinedWrong : ChangeSpec := { name := "orderJoined", fn := fun _ => fun
  | [d1, d2] => { results := [.lit (.bool false)], args := [d1, d2] }
  | _ => none }
def OrderJoinedWrongFalsely : Prop := orderJoinedRow.holds Try.pinned (OpenSpec.ofChange orderJoinedWrong)

/-- 'fretsawlaw24.OrderDelivery': WHATEVER THE INPUT: true; the input reads as it did. -/
def orderDeliverySpec : ChangeSpec := { name := "orderDelivery", fn := fun _ => fun
  | [d1, d2, d3] => { results := [.lit (.bool true)], args := [d1, d2, d3] }
  | _ => none }
def orderDeliveryRow : OpenClaim := { program := "yteldekkodhfkkaa", sum := "e573ea9f2e8949fee70bdd3537f7cdf0731905ba3d7bcc5e9ee02a97b7de575a", func := "fretsaw/fretsawlaw24.OrderDelivery", spec := "orderDelivery", unfollowed := true, recurses := true, plainKeys := false, apart := false }
def OrderDeliverySaid : Prop := orderDeliveryRow.holds Try.pinned (OpenSpec.ofChange orderDeliverySpec)

/-- ITS FALSE NEIGHBOUR: 'it returns false'. Refute it at one input. -/
def orderDeliveryWrong : ChangeSpec := { name := "orderDelivery", fn := fun _ => fun
  | [d1, d2, d3] => { results := [.lit (.bool false)], args := [d1, d2, d3] }
  | _ => none }
def OrderDeliveryWrongFalsely : Prop := orderDeliveryRow.holds Try.pinned (OpenSpec.ofChange orderDeliveryWrong)

/-- 'fretsawlaw24.OrderSteps': WHATEVER THE INPUT: true; the input reads as it did. -/
def orderStepsSpec : ChangeSpec := { name := "orderSteps", fn := fun _ => fun
  | [d1, d2, d3] => { results := [.lit (.bool true)], args := [d1, d2, d3] }
  | _ => none }
def orderStepsRow : OpenClaim := { program := "yteldekkodhfkkaa", sum := "e573ea9f2e8949fee70bdd3537f7cdf0731905ba3d7bcc5e9ee02a97b7de575a", func := "fretsaw/fretsawlaw24.OrderSteps", spec := "orderSteps", unfollowed := true, recurses := true, plainKeys := false, apart := false }
def OrderStepsSaid : Prop := orderStepsRow.holds Try.pinned (OpenSpec.ofChange orderStepsSpec)

/-- ITS FALSE NEIGHBOUR: 'it returns false'. Refute it at one input. -/
def orderStepsWrong : ChangeSpec := { name := "orderSteps", fn := fun _ => fun
  | [d1, d2, d3] => { results := [.lit (.bool false)], args := [d1, d2, d3] }
  | _ => none }
def OrderStepsWrongFalsely : Prop := orderStepsRow.holds Try.pinned (OpenSpec.ofChange orderStepsWrong)

/-- 'fretsawlaw24.OrderQueries': WHATEVER THE INPUT: true; the input reads as it did. -/
def orderQueriesSpec : ChangeSpec := { name := "orderQueries", fn := fun _ => fun
  | [d1, d2, d3] => { results := [.lit (.bool true)], args := [d1, d2, d3] }
  | _ => none }
def orderQueriesRow : OpenClaim := { program := "yteldekkodhfkkaa", sum := "e573ea9f2e8949fee70bdd3537f7cdf0731905ba3d7bcc5e9ee02a97b7de575a", func := "fretsaw/fretsawlaw24.OrderQueries", spec := "orderQueries", unfollowed := true, recurses := true, plainKeys := false, apart := false }
def OrderQueriesSaid : Prop := orderQueriesRow.holds Try.pinned (OpenSpec.ofChange orderQueriesSpec)

/-- ITS FALSE NEIGHBOUR: 'it returns false'. Refute it at one input. -/
def orderQueriesWrong : ChangeSpec := { name := "orderQueries", fn := fun _ => fun
  | [d1, d2, d3] => { results := [.lit (.bool false)], args := [d1, d2, d3] }
  | _ => none }
def OrderQueriesWrongFalsely : Prop := orderQueriesRow.holds Try.pinned (OpenSpec.ofChange orderQueriesWrong)

/- THE SECOND FORM. 'bulk': how many values and letters a reading holds, each counted each time it is reached (what is shared counts as often as it is met; a slice's spare places count too). A statement '..UptoSaid' is the law's where the arguments, and the package variables that the reading takes, are together of bulk at most 1048576: NARROWER than '..Said'. Prove '..Said' where nothing that the law and all that it calls make is longer than what came in: it says more and counts as full. Else prove '..UptoSaid'. A law counts once. -/
mutual
def uptoBulk {H : Type} : DataW H → Nat
  | .lit (.string bytes) => bytes.length + 1
  | .lit _ => 1
  | .nil => 1
  | .ptr d => uptoBulk d + 1
  | .slice elems spare => uptoBulkAll elems + uptoBulkAll spare + 1
  | .agg parts => uptoBulkAll parts + 1
  | .iface _ d => uptoBulk d + 1
  | .map entries => uptoBulkEntries entries + 1
  | .held _ => 1
def uptoBulkAll {H : Type} : List (DataW H) → Nat
  | [] => 0
  | d :: r => uptoBulk d + uptoBulkAll r
def uptoBulkEntries {H : Type} : List (Lit × DataW H) → Nat
  | [] => 0
  | x :: r => uptoBulkEntry x + uptoBulkEntries r
def uptoBulkEntry {H : Type} : Lit × DataW H → Nat
  | (.string bytes, d) => bytes.length + uptoBulk d + 1
  | (_, d) => uptoBulk d + 1
 end
def uptoSmall : (H : Type) → List (DataW H) → Bool := fun _ ds => decide (uptoBulkAll ds ≤ 1048576)
def OpenSpec.upto (s : _root_.Go.ChangeSpec) : _root_.Go.OpenSpec := { _root_.Go.OpenSpec.ofChange s with cond := some uptoSmall }

/-- 'fretsawlaw24.OrderNormal', WHERE WHAT IT READS IS OF BULK AT MOST 1048576: true; the input reads as it did. -/
def orderNormalUptoRow : OpenClaim := { program := "yteldekkodhfkkaa", sum := "e573ea9f2e8949fee70bdd3537f7cdf0731905ba3d7bcc5e9ee02a97b7de575a", func := "fretsaw/fretsawlaw24.OrderNormal", spec := "orderNormal", unfollowed := true, recurses := true, plainKeys := false, apart := false, narrowed := true }
def OrderNormalUptoSaid : Prop := orderNormalUptoRow.holds Try.pinned (OpenSpec.upto orderNormalSpec)

/-- 'fretsawlaw24.OrderAgain', WHERE WHAT IT READS IS OF BULK AT MOST 1048576: true; the input reads as it did. -/
def orderAgainUptoRow : OpenClaim := { program := "yteldekkodhfkkaa", sum := "e573ea9f2e8949fee70bdd3537f7cdf0731905ba3d7bcc5e9ee02a97b7de575a", func := "fretsaw/fretsawlaw24.OrderAgain", spec := "orderAgain", unfollowed := true, recurses := true, plainKeys := false, apart := false, narrowed := true }
def OrderAgainUptoSaid : Prop := orderAgainUptoRow.holds Try.pinned (OpenSpec.upto orderAgainSpec)

/-- 'fretsawlaw24.OrderJoined', WHERE WHAT IT READS IS OF BULK AT MOST 1048576: true; the input reads as it did. -/
def orderJoinedUptoRow : OpenClaim := { program := "yteldekkodhfkkaa", sum := "e573ea9f2e8949fee70bdd3537f7cdf0731905ba3d7bcc5e9ee02a97b7de575a", func := "fretsaw/fretsawlaw24.OrderJoined", spec := "orderJoined", unfollowed := true, recurses := true, plainKeys := false, apart := false, narrowed := true }
def OrderJoinedUptoSaid : Prop := orderJoinedUptoRow.holds Try.pinned (OpenSpec.upto orderJoinedSpec)

/-- 'fretsawlaw24.OrderDelivery', WHERE WHAT IT READS IS OF BULK AT MOST 1048576: true; the input reads as it did. -/
def orderDeliveryUptoRow : OpenClaim := { program := "yteldekkodhfkkaa", sum := "e573ea9f2e8949fee70bdd3537f7cdf0731905ba3d7bcc5e9ee02a97b7de575a", func := "fretsaw/fretsawlaw24.OrderDelivery", spec := "orderDelivery", unfollowed := true, recurses := true, plainKeys := false, apart := false, narrowed := true }
def OrderDeliveryUptoSaid : Prop := orderDeliveryUptoRow.holds Try.pinned (OpenSpec.upto orderDeliverySpec)

/-- 'fretsawlaw24.OrderSteps', WHERE WHAT IT READS IS OF BULK AT MOST 1048576: true; the input reads as it did. -/
def orderStepsUptoRow : OpenClaim := { program := "yteldekkodhfkkaa", sum := "e573ea9f2e8949fee70bdd3537f7cdf0731905ba3d7bcc5e9ee02a97b7de575a", func := "fretsaw/fretsawlaw24.OrderSteps", spec := "orderSteps", unfollowed := true, recurses := true, plainKeys := false, apart := false, narrowed := true }
def OrderStepsUptoSaid : Prop := orderStepsUptoRow.holds Try.pinned (OpenSpec.upto orderStepsSpec)

/-- 'fretsawlaw24.OrderQueries', WHERE WHAT IT READS IS OF BULK AT MOST 1048576: true; the input reads as it did. -/
def orderQueriesUptoRow : OpenClaim := { program := "yteldekkodhfkkaa", sum := "e573ea9f2e8949fee70bdd3537f7cdf0731905ba3d7bcc5e9ee02a97b7de575a", func := "fretsaw/fretsawlaw24.OrderQueries", spec := "orderQueries", unfollowed := true, recurses := true, plainKeys := false, apart := false, narrowed := true }
def OrderQueriesUptoSaid : Prop := orderQueriesUptoRow.holds Try.pinned (OpenSpec.upto orderQueriesSpec)

end Rows
end Go.Proofs.Yteldekkodhfkkaa
