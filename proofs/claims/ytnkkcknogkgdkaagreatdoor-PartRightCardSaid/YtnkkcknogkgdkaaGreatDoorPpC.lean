/- What Print writes, plain: its pieces are short; walks: the builder is written to, its length. Conditions: as stated. -/
import Derived.Test.YtnkkcknogkgdkaaGreatDoorPpA
import Derived.Test.YtnkkcknogkgdkaaGreatDoorPaM
import Derived.Test.YtnkkcknogkgdkaaGreatDoorPaV
import Derived.Test.YtnkkcknogkgdkaaGreatDoorPaSize

namespace Go.Proofs.YtnkkcknogkgdkaaGreatDoor.PaW
open Go Go.RowKit Go.Proofs.YtnkkcknogkgdkaaGreatDoor.Mem Go.Proofs.YtnkkcknogkgdkaaGreatDoor.Pa
open Go.Proofs.YtnkkcknogkgdkaaGreatDoor.Ge (V)
open Go.Proofs.YtnkkcknogkgdkaaGreatDoor.Lex (Tok)
open Go.Proofs.YtnkkcknogkgdkaaGreatDoor.LexW (tokCells)
attribute [local go_sem ↓] Go.wp_at_zero Go.wp_at_succ

open Go.Proofs.YtnkkcknogkgdkaaGreatDoor.Ge (within)
open Go.Proofs.YtnkkcknogkgdkaaGreatDoor.PqW (writeString_k strCells_mk byteCells_app isBuilder_below b_new)
theorem pt_len {v:V} (hv:(-9223372036854775808≤v.1∧v.1≤9223372036854775807)∧(-9223372036854775808≤v.2∧v.2≤9223372036854775807)):(pointT v).length≤46:=by
 have h1:=Lib.itoa_length_le v.1 hv.1.1 hv.1.2
 have h2:=Lib.itoa_length_le v.2 hv.2.1 hv.2.2
 simp only [pointT,List.length_cons,List.length_append,List.length_nil]
 omega
end Go.Proofs.YtnkkcknogkgdkaaGreatDoor.PaW

namespace Go.Proofs.YtnkkcknogkgdkaaGreatDoor.PaW
open Go Go.RowKit Go.Proofs.YtnkkcknogkgdkaaGreatDoor.Mem Go.Proofs.YtnkkcknogkgdkaaGreatDoor.Pa
open Go.Proofs.YtnkkcknogkgdkaaGreatDoor.Ge (V)
open Go.Proofs.YtnkkcknogkgdkaaGreatDoor.Lex (Tok)
open Go.Proofs.YtnkkcknogkgdkaaGreatDoor.LexW (tokCells)
attribute [local go_sem ↓] Go.wp_at_zero Go.wp_at_succ

open Go.Proofs.YtnkkcknogkgdkaaGreatDoor.Ge (within)
open Go.Proofs.YtnkkcknogkgdkaaGreatDoor.PqW (writeString_k strCells_mk byteCells_app isBuilder_below b_new)
structure SOk (x:Pa.Source):Prop where
 name:x.name.length≤16
 grade:x.grade.length≤16
 grain:0≤x.grain∧x.grain≤2
 turns:∀ t∈x.turns,0≤t∧t≤7
 tol:1≤x.tol∧x.tol≤50
 outer:outlineOk x.outer=true
 holes:x.holes.length≤6
 hole:∀ o∈x.holes,outlineOk o=true
end Go.Proofs.YtnkkcknogkgdkaaGreatDoor.PaW
