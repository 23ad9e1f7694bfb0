/- From the card's condition to the table of powers of ten. Conditions: none. -/
import Derived.Test.YthcfkfehcmkhnaaDoorRows
import Derived.Test.YthcfkfehcmkhnaaDoorLexW14
import Derived.MakeChecks
import Derived.Stop.LaidErr
namespace Go.Proofs.YthcfkfehcmkhnaaDoor.LexW
open Go Go.RowKit Go.Proofs.YthcfkfehcmkhnaaDoor.Mem

theorem var?_lt {P : Program} {W : World} {n : String} {g : Nat} {cs : Array Value} (hg : P.globalNamed n = some g) (h : W.var? P n = some cs) : g < W.heap.size := by
  unfold World.var? at h
  rw [hg] at h
  by_cases hl : g < W.heap.size
  · exact hl
  · simp only [Option.bind_some, Array.getElem?_eq_none (Nat.le_of_not_lt hl)] at h
    cases h
set_option maxRecDepth 100000 in
theorem laid_of {W : World} (h : laidMetH Tryd.prog Rows.lexOffsetsRow.laid W) : Laid W := by
  rw [MakeChecks.laidMetH_plain _ _ _ (by kernel_rfl)] at h
  have h3 : laidMet Tryd.prog (("internal/strconv.uint64pow10", Lib.tabData .u64 Lib.pow10Tab) :: [("strconv.ErrRange", Rows.laid_strconv_ErrRange), ("strconv.ErrSyntax", Rows.laid_strconv_ErrSyntax)]) W := laidMet.tail (laidMet.tail h)
  have ht : Lib.TabIs Tryd.prog W "internal/strconv.uint64pow10" .u64 Lib.pow10Tab := Lib.tabIs_of_head gPow (t := 90) (e := 69) (n := 20) (by kernel_rfl) (by kernel_rfl) (by kernel_rfl) (by kernel_rfl) (by kernel_rfl) h3
  exact ⟨ht, var?_lt gPow ht⟩
end Go.Proofs.YthcfkfehcmkhnaaDoor.LexW
