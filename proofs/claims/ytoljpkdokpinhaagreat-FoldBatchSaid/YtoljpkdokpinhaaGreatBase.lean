/- The program keeps the orders of evaluation mixed. Conditions: none. -/
import Derived.Test.YtoljpkdokpinhaaGreatProg
import Derived.Test.YtoljpkdokpinhaaGreatSxN
namespace Go.Proofs.YtoljpkdokpinhaaGreat
open Go.Sx
set_option maxRecDepth 100000
set_option linter.unusedVariables false
set_option linter.unusedSimpArgs false
theorem mix : Tryz.prog.follows .mixedOrders = true := by kernel_rfl
end Go.Proofs.YtoljpkdokpinhaaGreat
