/- The Lex chapter's walks, together. Conditions: none. -/
import Derived.Test.YteldekkodhfkkaaGreatDoorLexW7
import Derived.Test.YteldekkodhfkkaaGreatDoorLexW11
import Derived.Test.YteldekkodhfkkaaGreatDoorLexW14
import Derived.Test.YteldekkodhfkkaaGreatDoorLexW15
