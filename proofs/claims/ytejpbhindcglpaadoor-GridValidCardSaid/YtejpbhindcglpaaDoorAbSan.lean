/- Contracts of functions of the program over the abstract semantics. -/
import Derived.Test.YtejpbhindcglpaaDoorAbTb
namespace Go.Ab.Fn
open Go.Ab Go.Proofs
set_option maxRecDepth 1000000
def offs : B := .row 12 [.int .i64 0, .int .i64 0, .int .i64 0, .int .i64 1, .int .i64 0, .int .i64 2, .int .i64 1, .int .i64 0, .int .i64 1, .int .i64 1, .int .i64 1, .int .i64 2] .lf false
def H00 (N : Nat) : Hp := ⟨.nd (some offs) .lf .lf, N⟩
/- small ones first -/
theorem t1 : evVal tab.get 1000 12 [.agg [.int .i64 0, .int .i64 0, .nils]] (H00 5) = some (.one (.bool true)) := by kernel_rfl
theorem t2 : evVal tab.get 1000 24 [.one .nils, .one .nils] (H00 5) = some (.one (.int .i64 (-1))) := by kernel_rfl
end Go.Ab.Fn
