/- Contracts of name, Name, Label, hex, sign, escape, number of token. -/
import Derived.Test.YtofhcgbihonckaaGreatDoorZ4
import Derived.Test.YtofhcgbihonckaaGreatDoorZ22

set_option linter.unusedVariables false
set_option linter.unusedSimpArgs false
set_option linter.unusedSectionVars false

namespace Go.Proofs.YtofhcgbihonckaaGreatDoor
open Go.RowKit

end Go.Proofs.YtofhcgbihonckaaGreatDoor
