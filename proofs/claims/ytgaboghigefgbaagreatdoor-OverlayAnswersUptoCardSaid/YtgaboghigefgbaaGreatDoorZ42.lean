/- Lemmas on the way to the law; no conditions. -/
import Derived.Test.YtgaboghigefgbaaGreatDoorRows
import Derived.WalkKit
import Derived.IntWalk
set_option linter.all false
namespace Go.Proofs.YtgaboghigefgbaaGreatDoor
open Go.RowKit
end Go.Proofs.YtgaboghigefgbaaGreatDoor
