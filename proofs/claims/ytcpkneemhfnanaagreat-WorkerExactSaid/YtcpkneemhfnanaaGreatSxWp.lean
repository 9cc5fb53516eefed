/- A worker with one attempt: what it answers. Conditions: none. -/
import Derived.Test.YtcpkneemhfnanaaGreatSxWo
import Derived.Test.YtcpkneemhfnanaaGreatSxVg
namespace Go.Sx
set_option linter.unusedVariables false
def W0 (p : Bd) : Ac := ⟨p, 1, []⟩
def W1 (p : Bd) (a : AttV) : Ac := ⟨p, 1, [(3, a)]⟩
section
variable {p : Bd} {s : SrcV} {f : List Int}
end
end Go.Sx
