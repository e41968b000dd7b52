/- Numbers put together of parts: or is a sum. -/
import Derived.Test.YtgaboghigefgbaaGreatDoorRows
import Derived.WalkKit
import Derived.IntWalk
set_option linter.all false
namespace Go.Proofs.YtgaboghigefgbaaGreatDoor
open Go.RowKit
end Go.Proofs.YtgaboghigefgbaaGreatDoor
