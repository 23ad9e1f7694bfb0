/- The text of parts, plain: what is printed is lexed as the tokens of the sources, and they are read back. No function is in sight. Conditions: none. -/
import Derived.Test.YtnkkcknogkgdkaaGreatDoorLexLaws
import Derived.Test.YtnkkcknogkgdkaaGreatDoorPfA

namespace Go.Proofs.YtnkkcknogkgdkaaGreatDoor.Wd
open Go
open Go.Proofs.YtnkkcknogkgdkaaGreatDoor.Lex (Tok LR key Word stop)

/-! ### Numerals -/
end Go.Proofs.YtnkkcknogkgdkaaGreatDoor.Wd

namespace Go.Proofs.YtnkkcknogkgdkaaGreatDoor.Pa
open Go
open Go.Proofs.YtnkkcknogkgdkaaGreatDoor.Ge (V within)
open Go.Proofs.YtnkkcknogkgdkaaGreatDoor.Lex (Tok key lex LR stop Word letter digit inner isName)

/-! ### Texts that are lexed as tokens of given keys, wherever they stand -/
abbrev K := Int × List UInt8 × Int
/-! ### What is printed -/
/-! ### The keys of what is printed -/
/-! ### Which sources are valid -/
def stepOk (first : Bool) (s : Step) : Bool := within s.to 2000 && (within s.center 2000 && ((s.arc || (decide (s.center = (0, 0)) && !s.cw)) && !(first && s.arc)))
def stepsOk : List Step → Bool
 | [] => true
 | s :: r => stepOk true s && r.all (stepOk false)
def outlineOk (o : Outline) : Bool :=
 if o.circle = true then within o.center 2000 && (decide (1 ≤ o.radius) && (decide (o.radius ≤ 2000) && decide (o.steps.length = 0)))
 else stepsOk o.steps && (decide (o.center = (0, 0)) && (decide (o.radius = 0) && (decide (1 ≤ o.steps.length) && decide (o.steps.length ≤ 40))))
def turnsOk : List Int → Bool
 | [] => false
 | [a] => decide (0 ≤ a) && decide (a ≤ 7)
 | a :: b :: r => decide (0 ≤ a) && (decide (a ≤ 7) && (decide (a < b) && turnsOk (b :: r)))
def namedOk (name grade : List UInt8) (g : Int) (ts : List Int) : Bool := isName name && (isName grade && (decide (0 ≤ g) && (decide (g ≤ 2) && turnsOk ts)))
def sourceOk (x : Source) : Bool := namedOk x.name x.grade x.grain x.turns && (decide (1 ≤ x.tol) && (decide (x.tol ≤ 50) && (outlineOk x.outer && (decide (x.holes.length ≤ 6) && x.holes.all outlineOk))))
def sourcesOk (l : List Source) : Bool := l.all sourceOk && decide (l.length ≤ 20)

/-! ### The text's keys -/
end Go.Proofs.YtnkkcknogkgdkaaGreatDoor.Pa
