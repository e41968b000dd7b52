/- Texts put together. -/
import Derived.Test.YtiojnbhomjkkgaaGreatDoorZ8
import Derived.WalkKit

set_option linter.unusedVariables false
set_option linter.unusedSimpArgs false
set_option linter.unusedSectionVars false

namespace Go.Proofs.YtiojnbhomjkkgaaGreatDoor
open Go.RowKit

theorem str_app (x : List UInt8) (y : List UInt8) : (⟨x.toArray⟩ : ByteArray) ++ ⟨y.toArray⟩ = ⟨(x ++ y).toArray⟩ := ByteArray.mk_append_mk x y
/-- Two strings put together give this one. -/
def Adds (a b c : ByteArray) : Prop := ∀ wx : World, (Op.stringOp .add a b).run Tryz.prog wx = .ok (.string c) wx
theorem adds_of (x y : List UInt8) (h : x.length + y.length ≤ 9223372036854775807) : Adds ⟨x.toArray⟩ ⟨y.toArray⟩ ⟨(x ++ y).toArray⟩ := by
  intro wx
  rw [run_string_add_sum wx _ _ (by simpa [ByteArray.size] using h), str_app]
theorem mk_toList (s : ByteArray) : (⟨s.data.toList.toArray⟩ : ByteArray) = s := by apply ByteArray.ext; simp
theorem adds_any (a b : ByteArray) (h : a.size + b.size ≤ 9223372036854775807) : Adds a b ⟨(a.data.toList ++ b.data.toList).toArray⟩ := by
  have := adds_of a.data.toList b.data.toList (by simpa using h)
  rwa [mk_toList, mk_toList] at this
theorem size_mk (l : List UInt8) : (⟨l.toArray⟩ : ByteArray).size = l.length := by show l.toArray.size = _; simp
theorem adds_ex (a b : ByteArray) (h : a.size + b.size ≤ 9223372036854775807) : ∃ c, Adds a b c ∧ c.size = a.size + b.size ∧ c.data.toList = a.data.toList ++ b.data.toList :=
  ⟨_, adds_any a b h, by rw [size_mk]; simp, rfl⟩
end Go.Proofs.YtiojnbhomjkkgaaGreatDoor
