/- Lemmas on the way to the law; no conditions. -/
import Derived.Test.YtgaboghigefgbaaGreatDoorZ9
import Derived.Shelf.Vars
set_option linter.all false
namespace Go.Proofs.YtgaboghigefgbaaGreatDoor
theorem Q3t{w:World}(h:w.ShapedOpen Tryz.prog):Qah w:=
 cell_of_shapedOpen_int (zero:=#[.int .i64 0]) h (of_decide_eq_true (by kernel_rfl)) (by kernel_rfl) rfl (by kernel_rfl) (by kernel_rfl) Tryz.underlying3
end Go.Proofs.YtgaboghigefgbaaGreatDoor
