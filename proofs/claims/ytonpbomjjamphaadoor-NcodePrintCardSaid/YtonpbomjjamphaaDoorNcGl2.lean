/- What the library's variables hold at the worlds of the rows of NcodeNumbers and NcodePrint: the lists of laid variables are alike. -/
import Derived.Test.YtonpbomjjamphaaDoorNcGl
namespace Go.Proofs.YtonpbomjjamphaaDoor.NcW
open Go Go.RowKit Go.Proofs.YtonpbomjjamphaaDoor.Mem
theorem glob_numbers {W : World} (h : laidMetH Tryd.prog Rows.ncodeNumbersRow.laid W) (hs : W.ShapedOpen Tryd.prog) : Glob W := glob_of (show laidMetH Tryd.prog Rows.ncodeLinesRow.laid W from h) hs
theorem glob_print {W : World} (h : laidMetH Tryd.prog Rows.ncodePrintRow.laid W) (hs : W.ShapedOpen Tryd.prog) : Glob W := glob_of (show laidMetH Tryd.prog Rows.ncodeLinesRow.laid W from h) hs
end Go.Proofs.YtonpbomjjamphaaDoor.NcW
