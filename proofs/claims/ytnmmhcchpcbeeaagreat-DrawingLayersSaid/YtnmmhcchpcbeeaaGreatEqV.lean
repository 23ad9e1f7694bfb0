/- '==' and '!=' of points and of arcs, as the model runs them. Conditions: none. -/
import Derived.Test.YtnmmhcchpcbeeaaGreatGeV
import Derived.Laws.StructEq

namespace Go.Proofs.YtnmmhcchpcbeeaaGreat.GeW
open Go Go.RowKit Go.Proofs.YtnmmhcchpcbeeaaGreat.Mem Go.Proofs.YtnmmhcchpcbeeaaGreat.Ge
theorem eql_vec (x y u v : Int) (w : World) : (binOp .eql 53 (.agg #[.int .i64 x, .int .i64 y]) (.agg #[.int .i64 u, .int .i64 v])).run Tryz.prog w = .ok (.bool (decide ((x, y) = (u, v)))) w := by
  have u3 := Tryz.underlying3
  have a3 := Tryz.isAgg3
  have z3 := Tryz.sizeOf3
  have hS : Tryz.prog.underlying 53 = some (.struct (Tryz.prog.fieldsOf 53)) := by kernel_rfl
  have hp : Tryz.prog.stoodInHeld 53 = false := by kernel_rfl
  rw [run_eql_struct, show (10000 : Nat) = 9999 + 1 from rfl, run_equalIn_agg w 9999 53 _ _ hS hp]
  simp only [Program.fieldsOf, Tryz.underlying53]
  go_simp
  by_cases h1 : x = u <;> by_cases h2 : y = v <;> simp [h1, h2]
theorem neq_vec (x y u v : Int) (w : World) : (binOp .neq 53 (.agg #[.int .i64 x, .int .i64 y]) (.agg #[.int .i64 u, .int .i64 v])).run Tryz.prog w = .ok (.bool (!decide ((x, y) = (u, v)))) w := by
  have u3 := Tryz.underlying3
  have a3 := Tryz.isAgg3
  have z3 := Tryz.sizeOf3
  have hS : Tryz.prog.underlying 53 = some (.struct (Tryz.prog.fieldsOf 53)) := by kernel_rfl
  have hp : Tryz.prog.stoodInHeld 53 = false := by kernel_rfl
  rw [run_neq_struct, show (10000 : Nat) = 9999 + 1 from rfl, run_equalIn_agg w 9999 53 _ _ hS hp]
  simp only [Program.fieldsOf, Tryz.underlying53]
  go_simp
  by_cases h1 : x = u <;> by_cases h2 : y = v <;> simp [h1, h2]
set_option maxHeartbeats 1000000 in
theorem eql_arc (a b c d e f a' b' c' d' e' f' : Int) (g g' : Bool) (w : World) : (binOp .eql 55 (.agg #[.int .i64 a, .int .i64 b, .int .i64 c, .int .i64 d, .int .i64 e, .int .i64 f, .bool g]) (.agg #[.int .i64 a', .int .i64 b', .int .i64 c', .int .i64 d', .int .i64 e', .int .i64 f', .bool g'])).run Tryz.prog w = .ok (.bool ((decide ((a, b) = (a', b')) && (decide ((c, d) = (c', d')) && (decide ((e, f) = (e', f')) && decide (g = g')))))) w := by
  have u3 := Tryz.underlying3
  have a3 := Tryz.isAgg3
  have z3 := Tryz.sizeOf3
  have u4 := Tryz.underlying4
  have a4 := Tryz.isAgg4
  have z4 := Tryz.sizeOf4
  have av := Tryz.isAgg53
  have zv := Tryz.sizeOf53
  have hS : Tryz.prog.underlying 53 = some (.struct (Tryz.prog.fieldsOf 53)) := by kernel_rfl
  have hp : Tryz.prog.stoodInHeld 53 = false := by kernel_rfl
  have hS2 : Tryz.prog.underlying 55 = some (.struct (Tryz.prog.fieldsOf 55)) := by kernel_rfl
  have hp2 : Tryz.prog.stoodInHeld 55 = false := by kernel_rfl
  have hv : ∀ (x y u v : Int) (w : World), (Op.equalIn 9999 53 (.agg #[.int .i64 x, .int .i64 y]) (.agg #[.int .i64 u, .int .i64 v])).run Tryz.prog w = .ok (decide ((x, y) = (u, v))) w := by
    intro x y u v w
    rw [show (9999 : Nat) = 9998 + 1 from rfl, run_equalIn_agg w 9998 53 _ _ hS hp]
    simp only [Program.fieldsOf, Tryz.underlying53]
    go_simp
    by_cases h1 : x = u <;> by_cases h2 : y = v <;> simp [h1, h2]
  rw [run_eql_struct, show (10000 : Nat) = 9999 + 1 from rfl, run_equalIn_agg w 9999 55 _ _ hS2 hp2]
  simp only [Program.fieldsOf, Tryz.underlying55]
  clear hS hp hS2 hp2
  go_simp
  by_cases h1 : a = a' <;> by_cases h2 : b = b' <;> by_cases h3 : c = c' <;> by_cases h4 : d = d' <;> by_cases h5 : e = e' <;> by_cases h6 : f = f' <;> by_cases h7 : g = g' <;> simp [h1, h2, h3, h4, h5, h6, h7]
set_option maxHeartbeats 1000000 in
theorem neq_arc (a b c d e f a' b' c' d' e' f' : Int) (g g' : Bool) (w : World) : (binOp .neq 55 (.agg #[.int .i64 a, .int .i64 b, .int .i64 c, .int .i64 d, .int .i64 e, .int .i64 f, .bool g]) (.agg #[.int .i64 a', .int .i64 b', .int .i64 c', .int .i64 d', .int .i64 e', .int .i64 f', .bool g'])).run Tryz.prog w = .ok (.bool (!(decide ((a, b) = (a', b')) && (decide ((c, d) = (c', d')) && (decide ((e, f) = (e', f')) && decide (g = g')))))) w := by
  have u3 := Tryz.underlying3
  have a3 := Tryz.isAgg3
  have z3 := Tryz.sizeOf3
  have u4 := Tryz.underlying4
  have a4 := Tryz.isAgg4
  have z4 := Tryz.sizeOf4
  have av := Tryz.isAgg53
  have zv := Tryz.sizeOf53
  have hS : Tryz.prog.underlying 53 = some (.struct (Tryz.prog.fieldsOf 53)) := by kernel_rfl
  have hp : Tryz.prog.stoodInHeld 53 = false := by kernel_rfl
  have hS2 : Tryz.prog.underlying 55 = some (.struct (Tryz.prog.fieldsOf 55)) := by kernel_rfl
  have hp2 : Tryz.prog.stoodInHeld 55 = false := by kernel_rfl
  have hv : ∀ (x y u v : Int) (w : World), (Op.equalIn 9999 53 (.agg #[.int .i64 x, .int .i64 y]) (.agg #[.int .i64 u, .int .i64 v])).run Tryz.prog w = .ok (decide ((x, y) = (u, v))) w := by
    intro x y u v w
    rw [show (9999 : Nat) = 9998 + 1 from rfl, run_equalIn_agg w 9998 53 _ _ hS hp]
    simp only [Program.fieldsOf, Tryz.underlying53]
    go_simp
    by_cases h1 : x = u <;> by_cases h2 : y = v <;> simp [h1, h2]
  rw [run_neq_struct, show (10000 : Nat) = 9999 + 1 from rfl, run_equalIn_agg w 9999 55 _ _ hS2 hp2]
  simp only [Program.fieldsOf, Tryz.underlying55]
  clear hS hp hS2 hp2
  go_simp
  by_cases h1 : a = a' <;> by_cases h2 : b = b' <;> by_cases h3 : c = c' <;> by_cases h4 : d = d' <;> by_cases h5 : e = e' <;> by_cases h6 : f = f' <;> by_cases h7 : g = g' <;> simp [h1, h2, h3, h4, h5, h6, h7]
end Go.Proofs.YtnmmhcchpcbeeaaGreat.GeW
