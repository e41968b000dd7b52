/- Texts put together. -/
import Derived.Test.YtofhcgbihonckaaZ5
import Derived.WalkKit

set_option linter.unusedVariables false
set_option linter.unusedSimpArgs false
set_option linter.unusedSectionVars false

namespace Go.Proofs.Ytofhcgbihonckaa
open Go.RowKit

theorem str_app (x : List UInt8) (y : List UInt8) : (⟨x.toArray⟩ : ByteArray) ++ ⟨y.toArray⟩ = ⟨(x ++ y).toArray⟩ := ByteArray.mk_append_mk x y
/-- Two strings put together give this one. -/
def Adds (a b c : ByteArray) : Prop := ∀ wx : World, (Op.stringOp .add a b).run Try.prog wx = .ok (.string c) wx
theorem adds_of (x y : List UInt8) (h : x.length + y.length ≤ 9223372036854775807) : Adds ⟨x.toArray⟩ ⟨y.toArray⟩ ⟨(x ++ y).toArray⟩ := by
  intro wx
  rw [run_string_add_sum wx _ _ (by simpa [ByteArray.size] using h), str_app]
end Go.Proofs.Ytofhcgbihonckaa
