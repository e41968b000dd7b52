/- What a row's world gives of the library's variable. -/
import Derived.Test.YtiojnbhomjkkgaaGreatDoorZ9
import Derived.Shelf.Vars

set_option linter.unusedVariables false
set_option linter.unusedSimpArgs false
set_option linter.unusedSectionVars false

namespace Go.Proofs.YtiojnbhomjkkgaaGreatDoor
theorem lay_of {w : World} (h : w.ShapedOpen Tryz.prog) : Lay0 w :=
  cell_of_shapedOpen_int (zero := #[.int .i64 0]) h (of_decide_eq_true (by kernel_rfl)) (by kernel_rfl) rfl (by kernel_rfl) (by kernel_rfl) Tryz.underlying3
end Go.Proofs.YtiojnbhomjkkgaaGreatDoor
