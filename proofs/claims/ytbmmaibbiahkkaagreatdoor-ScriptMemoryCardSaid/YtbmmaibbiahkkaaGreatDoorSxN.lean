/- Numbers and words as bytes, in plain lists. Conditions: none. -/
import Derived.Test.YtbmmaibbiahkkaaGreatDoorSxM
namespace Go.Sx
set_option linter.unusedSimpArgs false
set_option linter.unusedVariables false
def u64m : Int := 18446744073709551616
def Bytes (l : List Int) : Prop := ∀ c ∈ l, 0 ≤ c ∧ c < 256
end Go.Sx
