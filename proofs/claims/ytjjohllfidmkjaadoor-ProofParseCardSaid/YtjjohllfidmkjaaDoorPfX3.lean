/- Numbers appended to a row of bytes. Conditions: the library's table lies as a start lays it. -/
import Derived.Test.YtjjohllfidmkjaaDoorPfG
import Derived.Test.YtjjohllfidmkjaaDoorPfX1
namespace Go.Proofs.YtjjohllfidmkjaaDoor.PfW
open Go Go.RowKit Go.Proofs.YtjjohllfidmkjaaDoor.Mem Go.Proofs.YtjjohllfidmkjaaDoor.Pf
theorem append_num (B n : Nat) (i : Int) (hs : -9223372036854775808 ≤ i ∧ i ≤ 9223372036854775807) (sv : Value) (xs : List Value) (w : World) (hown : w.ownsRow B 5 1 sv n xs) (hB : 3 ≤ B) (hBw : B ≤ w.heap.size) (hlim : n + 21 ≤ 140737488355328) (hG : Glob w) :
    Calls Tryd.prog 67 #[sv, .int .i64 i, .int .i64 10] w fun e w' => ∃ v', e = .returned v' ∧ w'.ownsRow B 5 1 v' (n + (Lib.itoa i).length) (xs ++ Lib.byteCells (Lib.itoa i)) ∧ Below B w w' ∧ Lib.OthersKept 5 none w w' :=
  (Tryd.strconv_AppendInt_10 B n i hs.1 hs.2 sv xs w hown hBw hlim (fun _ hb => (hG.below3 (hb.mono hB)).tab)).mono fun _ _ h => h
end Go.Proofs.YtjjohllfidmkjaaDoor.PfW
