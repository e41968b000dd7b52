/- What a row's world gives of the library's variable. -/
import Derived.Test.YtgaboghigefgbaaGreatDoorZ7
import Derived.Shelf.Vars
set_option linter.all false
namespace Go.Proofs.YtgaboghigefgbaaGreatDoor
theorem QBp{w:World}(h:w.ShapedOpen Tryz.prog):Qog w:=
 cell_of_shapedOpen_int (zero:=#[.int .i64 0]) h (of_decide_eq_true (by kernel_rfl)) (by kernel_rfl) rfl (by kernel_rfl) (by kernel_rfl) Tryz.underlying3
end Go.Proofs.YtgaboghigefgbaaGreatDoor
