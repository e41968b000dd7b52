/- strings.Builder: copyCheck and WriteByte of a builder that the call has made. -/
import Derived.Test.YtofhcgbihonckaaGreatDoorZ2
import Derived.Lib.Strings
import Derived.Lib.Walk
import Derived.Lib.Builder
import Derived.Lib.AppendStr
import Derived.Lib.UnsafeStr
import Derived.Laws.Externs

set_option linter.unusedVariables false
set_option linter.unusedSimpArgs false
set_option linter.unusedSectionVars false

namespace Go.Proofs.YtofhcgbihonckaaGreatDoor
open Go.RowKit

end Go.Proofs.YtofhcgbihonckaaGreatDoor
