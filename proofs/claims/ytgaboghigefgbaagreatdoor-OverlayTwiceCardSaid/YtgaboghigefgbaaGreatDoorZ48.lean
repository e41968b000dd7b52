/- The tape of bringupmake: source texts. -/
import Derived.Test.YtgaboghigefgbaaGreatDoorZ28
import Derived.Test.YtgaboghigefgbaaGreatDoorZ18
import Derived.Test.YtgaboghigefgbaaGreatDoorZ15
import Derived.Test.YtgaboghigefgbaaGreatDoorZ6
import Derived.Deep.LoopGhost
import Derived.Deep.RegionWith
import Derived.Laws.IdiomStrings
import Derived.IntWalk
set_option linter.all false
namespace Go.Proofs.YtgaboghigefgbaaGreatDoor
open Go.RowKit
end Go.Proofs.YtgaboghigefgbaaGreatDoor
