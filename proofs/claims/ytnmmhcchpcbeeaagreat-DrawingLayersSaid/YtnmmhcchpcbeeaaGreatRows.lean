/-
  No cell of these rows narrows 'for every input' (looked for: loops, veiled, ifaces, maps, wideKeys, modest, calm, conditions, laid).
  DERIVED. THE GIVEN ROWS OF THIS SEAT. 5 by the template 'for every input the law returns true; each argument reads behind the call as it read before'; 0 by the template 'total and deterministic' (their statements: YtnmmhcchpcbeeaaGreatTotals.lean).
  GIVEN WITH THE SEED: the statements are not yours to turn. If you find one false, say at which input.
  Laid BY PROGRAM, IN A SANDBOX (cutbox-rows.mjs): the forced cells as the released guide's own fill.sh prints them over the translation ae7159ff87a83900… (all of the seat's roots in one cut). By AI agents, Wed Nov 11 2026. No macro, syntax, notation, axiom, sorry.
-/
import Derived.Test.YtnmmhcchpcbeeaaGreatChecked
import GoSem.Claim
import GoSem.ClaimJoined
import GoSem.ClaimMapViews
import Derived.JoinedTies
import Derived.KernelRfl
namespace Go.Proofs.YtnmmhcchpcbeeaaGreat
/- THE CELL 'sum', in the pinned program and in every row, IS THE sha256 OF THE DUMP (.gsa) THAT YtnmmhcchpcbeeaaGreatProg.lean LOADS. Nothing in Lean hashes anything: it is a label: what it is worth is what the hold of that sum in a sandbox is worth. -/
noncomputable def Tryz.pinned : Pinned := { name := "ytnmmhcchpcbeeaagreat", sum := "ae7159ff87a83900cff0072ca9fe4cdb6cbf293ea76e9a406d8a924d537057fc", checked := Tryz.checked }
namespace Rows
def none {H : Type} : Left H := { results := [], args := [] }

/-- 'fretsawlaw23.DrawingDraw': WHATEVER THE INPUT: true; the input reads as it did. -/
def drawingDrawSpec : ChangeSpec := { name := "drawingDraw", fn := fun _ => fun
  | [d1, d2] => { results := [.lit (.bool true)], args := [d1, d2] }
  | _ => none }
def drawingDrawRow : OpenClaim := { program := "ytnmmhcchpcbeeaagreat", sum := "ae7159ff87a83900cff0072ca9fe4cdb6cbf293ea76e9a406d8a924d537057fc", func := "fretsaw/fretsawlaw23.DrawingDraw", spec := "drawingDraw", inPlace := ["math.sqrt"], unfollowed := true, recurses := true, plainKeys := false, apart := false }
def DrawingDrawSaid : Prop := drawingDrawRow.holds Tryz.pinned (OpenSpec.ofChange drawingDrawSpec)

/-- ITS FALSE NEIGHBOUR: 'it returns false'. Refute it at one input. -/
def drawingDrawWrong : ChangeSpec := { name := "drawingDraw", fn := fun _ => fun
  | [d1, d2] => { results := [.lit (.bool false)], args := [d1, d2] }
  | _ => none }
def DrawingDrawWrongFalsely : Prop := drawingDrawRow.holds Tryz.pinned (OpenSpec.ofChange drawingDrawWrong)

/-- 'fretsawlaw23.DrawingRings': WHATEVER THE INPUT: true; the input reads as it did. -/
def drawingRingsSpec : ChangeSpec := { name := "drawingRings", fn := fun _ => fun
  | [d1, d2, d3] => { results := [.lit (.bool true)], args := [d1, d2, d3] }
  | _ => none }
def drawingRingsRow : OpenClaim := { program := "ytnmmhcchpcbeeaagreat", sum := "ae7159ff87a83900cff0072ca9fe4cdb6cbf293ea76e9a406d8a924d537057fc", func := "fretsaw/fretsawlaw23.DrawingRings", spec := "drawingRings", inPlace := ["math.sqrt"], unfollowed := true, recurses := true, plainKeys := false, apart := false }
def DrawingRingsSaid : Prop := drawingRingsRow.holds Tryz.pinned (OpenSpec.ofChange drawingRingsSpec)

/-- ITS FALSE NEIGHBOUR: 'it returns false'. Refute it at one input. -/
def drawingRingsWrong : ChangeSpec := { name := "drawingRings", fn := fun _ => fun
  | [d1, d2, d3] => { results := [.lit (.bool false)], args := [d1, d2, d3] }
  | _ => none }
def DrawingRingsWrongFalsely : Prop := drawingRingsRow.holds Tryz.pinned (OpenSpec.ofChange drawingRingsWrong)

/-- 'fretsawlaw23.DrawingOrder': WHATEVER THE INPUT: true; the input reads as it did. -/
def drawingOrderSpec : ChangeSpec := { name := "drawingOrder", fn := fun _ => fun
  | [d1, d2, d3] => { results := [.lit (.bool true)], args := [d1, d2, d3] }
  | _ => none }
def drawingOrderRow : OpenClaim := { program := "ytnmmhcchpcbeeaagreat", sum := "ae7159ff87a83900cff0072ca9fe4cdb6cbf293ea76e9a406d8a924d537057fc", func := "fretsaw/fretsawlaw23.DrawingOrder", spec := "drawingOrder", inPlace := ["math.sqrt"], unfollowed := true, recurses := true, plainKeys := false, apart := false }
def DrawingOrderSaid : Prop := drawingOrderRow.holds Tryz.pinned (OpenSpec.ofChange drawingOrderSpec)

/-- ITS FALSE NEIGHBOUR: 'it returns false'. Refute it at one input. -/
def drawingOrderWrong : ChangeSpec := { name := "drawingOrder", fn := fun _ => fun
  | [d1, d2, d3] => { results := [.lit (.bool false)], args := [d1, d2, d3] }
  | _ => none }
def DrawingOrderWrongFalsely : Prop := drawingOrderRow.holds Tryz.pinned (OpenSpec.ofChange drawingOrderWrong)

/-- 'fretsawlaw23.DrawingLayers': WHATEVER THE INPUT: true; the input reads as it did. -/
def drawingLayersSpec : ChangeSpec := { name := "drawingLayers", fn := fun _ => fun
  | [d1, d2, d3] => { results := [.lit (.bool true)], args := [d1, d2, d3] }
  | _ => none }
def drawingLayersRow : OpenClaim := { program := "ytnmmhcchpcbeeaagreat", sum := "ae7159ff87a83900cff0072ca9fe4cdb6cbf293ea76e9a406d8a924d537057fc", func := "fretsaw/fretsawlaw23.DrawingLayers", spec := "drawingLayers", inPlace := ["math.sqrt"], unfollowed := true, recurses := true, plainKeys := false, apart := false }
def DrawingLayersSaid : Prop := drawingLayersRow.holds Tryz.pinned (OpenSpec.ofChange drawingLayersSpec)

/-- ITS FALSE NEIGHBOUR: 'it returns false'. Refute it at one input. -/
def drawingLayersWrong : ChangeSpec := { name := "drawingLayers", fn := fun _ => fun
  | [d1, d2, d3] => { results := [.lit (.bool false)], args := [d1, d2, d3] }
  | _ => none }
def DrawingLayersWrongFalsely : Prop := drawingLayersRow.holds Tryz.pinned (OpenSpec.ofChange drawingLayersWrong)

/-- 'fretsawlaw23.DrawingDrawn': WHATEVER THE INPUT: true; the input reads as it did. -/
def drawingDrawnSpec : ChangeSpec := { name := "drawingDrawn", fn := fun _ => fun
  | [d] => { results := [.lit (.bool true)], args := [d] }
  | _ => none }
def drawingDrawnRow : OpenClaim := { program := "ytnmmhcchpcbeeaagreat", sum := "ae7159ff87a83900cff0072ca9fe4cdb6cbf293ea76e9a406d8a924d537057fc", func := "fretsaw/fretsawlaw23.DrawingDrawn", spec := "drawingDrawn", inPlace := ["math.sqrt"], unfollowed := true, recurses := true, plainKeys := false, apart := false }
def DrawingDrawnSaid : Prop := drawingDrawnRow.holds Tryz.pinned (OpenSpec.ofChange drawingDrawnSpec)

/-- ITS FALSE NEIGHBOUR: 'it returns false'. Refute it at one input. -/
def drawingDrawnWrong : ChangeSpec := { name := "drawingDrawn", fn := fun _ => fun
  | [d] => { results := [.lit (.bool false)], args := [d] }
  | _ => none }
def DrawingDrawnWrongFalsely : Prop := drawingDrawnRow.holds Tryz.pinned (OpenSpec.ofChange drawingDrawnWrong)

/- THE SECOND FORM. 'bulk': how many values and letters a reading holds, each counted each time it is reached (what is shared counts as often as it is met; a slice's spare places count too). A statement '..UptoSaid' is the law's where the arguments, and the package variables that the reading takes, are together of bulk at most 1048576: NARROWER than '..Said'. Prove '..Said' where nothing that the law and all that it calls make is longer than what came in: it says more and counts as full. Else prove '..UptoSaid'. A law counts once. -/
mutual
def uptoBulk {H : Type} : DataW H → Nat
  | .lit (.string bytes) => bytes.length + 1
  | .lit _ => 1
  | .nil => 1
  | .ptr d => uptoBulk d + 1
  | .slice elems spare => uptoBulkAll elems + uptoBulkAll spare + 1
  | .agg parts => uptoBulkAll parts + 1
  | .iface _ d => uptoBulk d + 1
  | .map entries => uptoBulkEntries entries + 1
  | .held _ => 1
def uptoBulkAll {H : Type} : List (DataW H) → Nat
  | [] => 0
  | d :: r => uptoBulk d + uptoBulkAll r
def uptoBulkEntries {H : Type} : List (Lit × DataW H) → Nat
  | [] => 0
  | x :: r => uptoBulkEntry x + uptoBulkEntries r
def uptoBulkEntry {H : Type} : Lit × DataW H → Nat
  | (.string bytes, d) => bytes.length + uptoBulk d + 1
  | (_, d) => uptoBulk d + 1
 end
def uptoSmall : (H : Type) → List (DataW H) → Bool := fun _ ds => decide (uptoBulkAll ds ≤ 1048576)
def OpenSpec.upto (s : _root_.Go.ChangeSpec) : _root_.Go.OpenSpec := { _root_.Go.OpenSpec.ofChange s with cond := some uptoSmall }

/-- 'fretsawlaw23.DrawingDraw', WHERE WHAT IT READS IS OF BULK AT MOST 1048576: true; the input reads as it did. -/
def drawingDrawUptoRow : OpenClaim := { program := "ytnmmhcchpcbeeaagreat", sum := "ae7159ff87a83900cff0072ca9fe4cdb6cbf293ea76e9a406d8a924d537057fc", func := "fretsaw/fretsawlaw23.DrawingDraw", spec := "drawingDraw", inPlace := ["math.sqrt"], unfollowed := true, recurses := true, plainKeys := false, apart := false, narrowed := true }
def DrawingDrawUptoSaid : Prop := drawingDrawUptoRow.holds Tryz.pinned (OpenSpec.upto drawingDrawSpec)

/-- 'fretsawlaw23.DrawingRings', WHERE WHAT IT READS IS OF BULK AT MOST 1048576: true; the input reads as it did. -/
def drawingRingsUptoRow : OpenClaim := { program := "ytnmmhcchpcbeeaagreat", sum := "ae7159ff87a83900cff0072ca9fe4cdb6cbf293ea76e9a406d8a924d537057fc", func := "fretsaw/fretsawlaw23.DrawingRings", spec := "drawingRings", inPlace := ["math.sqrt"], unfollowed := true, recurses := true, plainKeys := false, apart := false, narrowed := true }
def DrawingRingsUptoSaid : Prop := drawingRingsUptoRow.holds Tryz.pinned (OpenSpec.upto drawingRingsSpec)

/-- 'fretsawlaw23.DrawingOrder', WHERE WHAT IT READS IS OF BULK AT MOST 1048576: true; the input reads as it did. -/
def drawingOrderUptoRow : OpenClaim := { program := "ytnmmhcchpcbeeaagreat", sum := "ae7159ff87a83900cff0072ca9fe4cdb6cbf293ea76e9a406d8a924d537057fc", func := "fretsaw/fretsawlaw23.DrawingOrder", spec := "drawingOrder", inPlace := ["math.sqrt"], unfollowed := true, recurses := true, plainKeys := false, apart := false, narrowed := true }
def DrawingOrderUptoSaid : Prop := drawingOrderUptoRow.holds Tryz.pinned (OpenSpec.upto drawingOrderSpec)

/-- 'fretsawlaw23.DrawingLayers', WHERE WHAT IT READS IS OF BULK AT MOST 1048576: true; the input reads as it did. -/
def drawingLayersUptoRow : OpenClaim := { program := "ytnmmhcchpcbeeaagreat", sum := "ae7159ff87a83900cff0072ca9fe4cdb6cbf293ea76e9a406d8a924d537057fc", func := "fretsaw/fretsawlaw23.DrawingLayers", spec := "drawingLayers", inPlace := ["math.sqrt"], unfollowed := true, recurses := true, plainKeys := false, apart := false, narrowed := true }
def DrawingLayersUptoSaid : Prop := drawingLayersUptoRow.holds Tryz.pinned (OpenSpec.upto drawingLayersSpec)

/-- 'fretsawlaw23.DrawingDrawn', WHERE WHAT IT READS IS OF BULK AT MOST 1048576: true; the input reads as it did. -/
def drawingDrawnUptoRow : OpenClaim := { program := "ytnmmhcchpcbeeaagreat", sum := "ae7159ff87a83900cff0072ca9fe4cdb6cbf293ea76e9a406d8a924d537057fc", func := "fretsaw/fretsawlaw23.DrawingDrawn", spec := "drawingDrawn", inPlace := ["math.sqrt"], unfollowed := true, recurses := true, plainKeys := false, apart := false, narrowed := true }
def DrawingDrawnUptoSaid : Prop := drawingDrawnUptoRow.holds Tryz.pinned (OpenSpec.upto drawingDrawnSpec)

end Rows
end Go.Proofs.YtnmmhcchpcbeeaaGreat
