/- Drawings, as plain data: entities and which are valid. No function is in sight. Conditions: none. -/
import Derived.Test.YtnmmhcchpcbeeaaGreatDwA
import Derived.Test.YtnmmhcchpcbeeaaGreatLexPlain

namespace Go.Proofs.YtnmmhcchpcbeeaaGreat.Ge
open Go
structure Ent where
  kind : Int
  layer : List UInt8
  a : V
  b : V
  f : V
  t : V
  c : V
  cw : Bool
  pts : List V
  deriving DecidableEq
def z0 : V := (0, 0)
def noLine (x : Ent) : Bool := decide (x.a = x.b) && decide (x.a = z0)
def noArc (x : Ent) : Bool := decide (x.f = z0) && (decide (x.t = z0) && (decide (x.c = z0) && !x.cw))
def noPts (x : Ent) : Bool := decide (x.pts.length = 0)
def lineOk (x : Ent) : Bool := !decide (x.a = x.b) && (within x.a 2000 && (within x.b 2000 && (noArc x && noPts x)))
def turnOk (x : Ent) : Bool := noLine x && (arcOk x.f x.t x.c && noPts x)
def polyOk (x : Ent) : Bool := noLine x && (noArc x && (decide (3 ≤ x.pts.length) && (decide (x.pts.length ≤ 40) && near x.pts)))
def entOk (x : Ent) : Bool := Lex.isName x.layer && (if x.kind = 1 then lineOk x else if x.kind = 2 then turnOk x else if x.kind = 3 then polyOk x else false)
def drawOk (d : List Ent) : Bool := decide (d.length ≤ 200) && d.all entOk
end Go.Proofs.YtnmmhcchpcbeeaaGreat.Ge
namespace Go.Proofs.YtnmmhcchpcbeeaaGreat.GeW
open Go Go.RowKit Go.Proofs.YtnmmhcchpcbeeaaGreat.Mem Go.Proofs.YtnmmhcchpcbeeaaGreat.Ge
/-- An entity as it lies in memory: with the address of its points. -/
structure EntV where
  e : Ent
  A : Option Addr
  k : Nat
def entVals (x : EntV) : List Value := [.int .i64 x.e.kind, .string ⟨x.e.layer.toArray⟩, .int .i64 x.e.a.1, .int .i64 x.e.a.2, .int .i64 x.e.b.1, .int .i64 x.e.b.2, .int .i64 x.e.f.1, .int .i64 x.e.f.2, .int .i64 x.e.t.1, .int .i64 x.e.t.2, .int .i64 x.e.c.1, .int .i64 x.e.c.2, .bool x.e.cw, .slice x.A x.e.pts.length x.k]
theorem ent_len (x : EntV) : (entVals x).length = 14 := rfl
def PtsIn (w : World) (x : EntV) : Prop := Row w x.A (x.e.pts.flatMap ptCells) ∧ x.e.pts.length ≤ 1000000 ∧ x.e.pts.length ≤ x.k ∧ x.e.layer.length ≤ 1000000
theorem PtsIn.below {w w' : World} {x : EntV} (h : PtsIn w x) (hb : Below w.heap.size w w') : PtsIn w' x := ⟨h.1.below hb, h.2⟩
end Go.Proofs.YtnmmhcchpcbeeaaGreat.GeW
