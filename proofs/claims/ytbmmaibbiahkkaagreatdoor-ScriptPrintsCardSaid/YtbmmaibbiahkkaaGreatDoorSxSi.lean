/- What the laws over scripts ask of texts and lists. Conditions: none. -/
import Derived.Test.YtbmmaibbiahkkaaGreatDoorSxSc
namespace Go.Sx
set_option linter.unusedSimpArgs false
open Go.Lib
end Go.Sx
