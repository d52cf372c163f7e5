/- Contracts of functions of the program over the abstract semantics. -/
import Derived.Test.YtejpbhindcglpaaDoorAbSan
namespace Go.Ab.Fn
open Go.Ab Go.Proofs
set_option maxRecDepth 1000000
theorem san : evVal tab.get 5000 10 [] (H00 5) = some (.one (.bool true)) := by kernel_rfl
end Go.Ab.Fn
