/- What a tied row's world gives: the library's variable, the library's tables. -/
import Derived.Test.YtiojnbhomjkkgaaGreatDoorZ11
import Derived.Test.YtiojnbhomjkkgaaGreatDoorZ12
import Derived.LaidMore
import Derived.Lib.LaidTab
import Derived.MakeChecks
import Derived.Handed

set_option linter.unusedVariables false
set_option linter.unusedSimpArgs false
set_option linter.unusedSectionVars false

namespace Go.Proofs.YtiojnbhomjkkgaaGreatDoor
/-- The tables that the rows list. -/
def laidX : List (String × DataW Unit) := [("math/bits.deBruijn32tab", Rows.laid_math_bits_deBruijn32tab), ("math/bits.deBruijn64tab", Rows.laid_math_bits_deBruijn64tab), ("internal/strconv.uint64pow10", Rows.laid_internal_strconv_uint64pow10)]
theorem laid_tail {P : Program} {x : String × DataW Unit} {r : List (String × DataW Unit)} {w : World} (h : laidMet P (x :: r) w) : laidMet P r w := by
  obtain ⟨ps, hv, hnd, hrows⟩ := h
  obtain ⟨n, d⟩ := x
  obtain ⟨g, t, cs, fuel, p, q, _, _, _, _, hq, rfl⟩ := hv
  exact ⟨q, hq, List.Nodup.sublist (List.sublist_append_right _ _) hnd, fun b off hm => hrows b off (List.mem_append_right _ hm)⟩
def tab64 : List Int := ((match (Rows.laid_math_bits_deBruijn64tab : DataW Unit) with | .agg l => l | _ => []).map fun (d : DataW Unit) => match d with | .lit (.int _ z) => z | _ => 0)
theorem layB_of {W : World} (h : laidMetH Tryz.prog laidX W) : LayB W := by
  rw [MakeChecks.laidMetH_plain _ _ _ (by kernel_rfl)] at h
  have h2 := laid_tail h
  have e : (Rows.laid_math_bits_deBruijn64tab : DataW Unit) = Lib.tabData .u8 tab64 := by kernel_rfl
  rw [e] at h2
  have hT := Lib.tabIs_of_head (k := .u8) (zs := tab64) (name := "math/bits.deBruijn64tab") (g := 3) (t := 277) (e := 5) (n := 64) (by kernel_rfl) (by kernel_rfl) Tryz.underlying277 Tryz.underlying5 (by kernel_rfl) (by kernel_rfl) h2
  exact hT.cell (by kernel_rfl) 15 (by decide)
theorem door_met (os : Os) (args : Array Value) : laidMetH Tryz.prog laidX ((World.doorLaid Tryz.prog 24 os).forCall (fun _ _ => 0) ⟨#[], args, []⟩).memory :=
  laidMetH_of_parts3 (fuel := 8) (laidMet_of_run' 8 (by kernel_rfl) (by kernel_rfl)) (by kernel_rfl) (by kernel_rfl)
end Go.Proofs.YtiojnbhomjkkgaaGreatDoor
