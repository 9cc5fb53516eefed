/- Bytes as elements. Conditions: none. -/
import Derived.Test.YtlkfkcgnlnbdeaaProg
import Derived.Test.YtlkfkcgnlnbdeaaBase
import Derived.Test.YtlkfkcgnlnbdeaaSxN
namespace Go.Proofs.Ytlkfkcgnlnbdeaa
open Go.Sx
set_option maxRecDepth 100000
set_option linter.unusedVariables false
set_option linter.unusedSimpArgs false
theorem e8 : ElemOk Try.prog 79 5 (Enc.int .u8).sz 1 := ElemOk.mk' (z := .int .u8 0) (by kernel_rfl) (by kernel_rfl) (by kernel_rfl)
end Go.Proofs.Ytlkfkcgnlnbdeaa
