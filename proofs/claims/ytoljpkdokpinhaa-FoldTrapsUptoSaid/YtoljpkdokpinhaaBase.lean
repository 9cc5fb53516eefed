/- The program keeps the orders of evaluation mixed. Conditions: none. -/
import Derived.Test.YtoljpkdokpinhaaProg
import Derived.Test.YtoljpkdokpinhaaSxN
namespace Go.Proofs.Ytoljpkdokpinhaa
open Go.Sx
set_option maxRecDepth 100000
set_option linter.unusedVariables false
set_option linter.unusedSimpArgs false
theorem mix : Try.prog.follows .mixedOrders = true := by kernel_rfl
end Go.Proofs.Ytoljpkdokpinhaa
