/- Lemmas on the way to the law; no conditions. -/
import Derived.Test.YtgaboghigefgbaaGreatDoorZ40
import Derived.Test.YtgaboghigefgbaaGreatDoorZ38
import Derived.Test.YtgaboghigefgbaaGreatDoorZ34
import Derived.Deep.RegionWith
import Derived.Laws.IdiomStrings
set_option linter.all false
namespace Go.Proofs.YtgaboghigefgbaaGreatDoor
open Go.RowKit
end Go.Proofs.YtgaboghigefgbaaGreatDoor
