/- Walks: small of both; the reference's Equal. Conditions: the rows lie in memory. -/
import Derived.Test.YtjjohllfidmkjaaDoorPfM1
import Derived.Test.YtjjohllfidmkjaaDoorPfQ1
namespace Go.Proofs.YtjjohllfidmkjaaDoor.PfW
open Go Go.RowKit Go.Proofs.YtjjohllfidmkjaaDoor.Mem Go.Proofs.YtjjohllfidmkjaaDoor.Pf

set_option maxRecDepth 100000 in
theorem rsmall_any (n : Int) (w : World) : Calls Tryd.prog 66 #[.int .i64 n] w fun e w' => e = .returned (.bool (smallB n)) ∧ Below w.heap.size w w' := by
  unfold Pf.smallB
  by_cases h1 : -1073741824 ≤ n
  · rw [decide_eq_true h1]
    have hz : decide (-1073741824 ≤ n) = true := decide_eq_true h1
    go_enter Tryd.func66, Tryd.ntmps66
    go_wp2
    go_ret
    exact ⟨by simp, Below.refl _ _⟩
  · rw [decide_eq_false h1]
    have hz : decide (-1073741824 ≤ n) = false := decide_eq_false h1
    go_enter Tryd.func66, Tryd.ntmps66
    go_wp2
    go_ret
    exact ⟨by simp, Below.refl _ _⟩
set_option maxRecDepth 100000 in
theorem psmall_any (n : Int) (w : World) : Calls Tryd.prog 58 #[.int .i64 n] w fun e w' => e = .returned (.bool (smallB n)) ∧ Below w.heap.size w w' := by
  unfold Pf.smallB
  by_cases h1 : -1073741824 ≤ n
  · rw [decide_eq_true h1]
    have hz : decide (-1073741824 ≤ n) = true := decide_eq_true h1
    go_enter Tryd.func58, Tryd.ntmps58
    go_wp2
    go_ret
    exact ⟨by simp, Below.refl _ _⟩
  · rw [decide_eq_false h1]
    have hz : decide (-1073741824 ≤ n) = false := decide_eq_false h1
    go_enter Tryd.func58, Tryd.ntmps58
    go_wp2
    go_ret
    exact ⟨by simp, Below.refl _ _⟩
set_option maxRecDepth 100000 in
theorem psmall_q (n : Int) (w : World) : Calls Tryd.prog 58 #[.int .i64 n] w fun e w' => e = .returned (.bool (smallB n)) ∧ w' = w := by
  unfold Pf.smallB
  by_cases h1 : -1073741824 ≤ n
  · rw [decide_eq_true h1]
    have hz : decide (-1073741824 ≤ n) = true := decide_eq_true h1
    go_enter Tryd.func58, Tryd.ntmps58
    go_wp2
    go_ret
    exact ⟨by simp, rfl⟩
  · rw [decide_eq_false h1]
    have hz : decide (-1073741824 ≤ n) = false := decide_eq_false h1
    go_enter Tryd.func58, Tryd.ntmps58
    go_wp2
    go_ret
    exact ⟨by simp, rfl⟩
end Go.Proofs.YtjjohllfidmkjaaDoor.PfW
