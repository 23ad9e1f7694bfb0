/- Numerals, names and marks are words of the lexer; no program is in sight. Conditions: none. -/
import Derived.Test.YtnkkcknogkgdkaaGreatDoorLexLaws

namespace Go.Proofs.YtnkkcknogkgdkaaGreatDoor.Wd
open Go
open Go.Proofs.YtnkkcknogkgdkaaGreatDoor.Lex (Tok LR key Word stop)

/-! ### Numerals -/
end Go.Proofs.YtnkkcknogkgdkaaGreatDoor.Wd
