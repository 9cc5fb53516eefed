/- Bytes and an error. Conditions: none. -/
import Derived.Test.YtlkfkcgnlnbdeaaProg
import Derived.Test.YtlkfkcgnlnbdeaaE8
namespace Go.Proofs.Ytlkfkcgnlnbdeaa
open Go.Sx
set_option maxRecDepth 100000
set_option linter.unusedVariables false
set_option linter.unusedSimpArgs false

def BytesErr (w : World) (r : List Int × Int) (v : Value) (w' : World) : Prop := ∃ a n c, v = .tuple #[.slice a n c, .int .i64 r.2] ∧ Own w' w.heap.size 5 (Enc.int .u8) a n c r.1 ∧ Grew w w'
theorem BytesErr.no {w w' : World} (hg : Grew w w') (e : Int) : BytesErr w ([], e) (.tuple #[.slice none 0 0, .int .i64 e]) w' := ⟨none, 0, 0, rfl, Own.nil _ _ _ _, hg⟩

end Go.Proofs.Ytlkfkcgnlnbdeaa
