/-
  DERIVED: THE SHELF's CONTRACTS AT THIS DUMP, IN PLAIN WORDS (tools/lay-plain.mjs out of 'TrySh2.lean', which tools/lay-shelf.mjs wrote): THE SAME DECLARATIONS UNDER THE SAME NAMES: 'import', 'namespace', 'open', 'def', 'theorem' AND NOTHING ELSE: no command of the shelf's: FOR A HAND-IN. Each laying: the table of numbers ('.._ren') and one theorem, a field a fact of the dump's own or the kernel's comparison; each contract: ONE APPLICATION.
-/
import Derived.Shelf.SlGeneric
import Derived.Shelf.SlSortCmp.Whole1
import Derived.Ground.SlsfProg
import Derived.Test.YtjfkjnakmmkkiaaProg
namespace Go.Proofs
open Go.Shelf
def Try.slsort_ren : Go.Shelf.Ren := ⟨fun | 6 => 99 | 15 => 120 | 14 => 119 | 28 => 135 | 29 => 136 | 20 => 127 | 21 => 128 | 22 => 129 | 23 => 130 | 24 => 131 | 25 => 132 | 26 => 133 | 27 => 134 | 46 => 141 | 47 => 142 | 48 => 143 | 49 => 144 | 50 => 145 | 57 => 150 | n => n, fun | 22 => 22 | 24 => 3 | 25 => 45 | 3 => 3 | 39 => 54 | 0 => 0 | 53 => 53 | 55 => 159 | 4 => 4 | 46 => 152 | 45 => 151 | 50 => 71 | 5 => 5 | 9 => 9 | 66 => 161 | 70 => 165 | 76 => 167 | 77 => 168 | n => n, fun | n => n⟩
theorem Try.slsort : Go.Proofs.SlLaysF.n6 Try.prog Try.slsort_ren := {
  mixed := by kernel_rfl
  f6 := ⟨Try.f99.name, by decide, Try.func99.trans (congrArg some (by kernel_rfl))⟩
  f14 := ⟨Try.f119.name, by decide, Try.func119.trans (congrArg some (by kernel_rfl))⟩
  f15 := Try.func120.trans (congrArg some (by kernel_rfl))
  f20 := ⟨Try.f127.name, by decide, Try.func127.trans (congrArg some (by kernel_rfl))⟩
  f21 := ⟨Try.f128.name, by decide, Try.func128.trans (congrArg some (by kernel_rfl))⟩
  f22 := ⟨Try.f129.name, by decide, Try.func129.trans (congrArg some (by kernel_rfl))⟩
  f23 := ⟨Try.f130.name, by decide, Try.func130.trans (congrArg some (by kernel_rfl))⟩
  f24 := ⟨Try.f131.name, by decide, Try.func131.trans (congrArg some (by kernel_rfl))⟩
  f25 := ⟨Try.f132.name, by decide, Try.func132.trans (congrArg some (by kernel_rfl))⟩
  f26 := ⟨Try.f133.name, by decide, Try.func133.trans (congrArg some (by kernel_rfl))⟩
  f27 := ⟨Try.f134.name, by decide, Try.func134.trans (congrArg some (by kernel_rfl))⟩
  f28 := Try.func135.trans (congrArg some (by kernel_rfl))
  f29 := Try.func136.trans (congrArg some (by kernel_rfl))
  f46 := ⟨Try.f141.name, by decide, Try.func141.trans (congrArg some (by kernel_rfl))⟩
  f47 := Try.func142.trans (congrArg some (by kernel_rfl))
  f48 := Try.func143.trans (congrArg some (by kernel_rfl))
  f49 := ⟨Try.f144.name, by decide, Try.func144.trans (congrArg some (by kernel_rfl))⟩
  f50 := ⟨Try.f145.name, by decide, Try.func145.trans (congrArg some (by kernel_rfl))⟩
  f57 := ⟨Try.f150.name, by decide, Try.func150.trans (congrArg some (by kernel_rfl))⟩
  t0 := Try.underlying0
  a0 := Try.isAgg0
  z0 := Try.sizeOf0
  v0 := Try.zeroValue0
  t3 := Try.underlying3
  a3 := Try.isAgg3
  z3 := Try.sizeOf3
  v3 := Try.zeroValue3
  t4 := Try.underlying4
  a4 := Try.isAgg4
  z4 := Try.sizeOf4
  v4 := Try.zeroValue4
  t5 := Try.underlying5
  a5 := Try.isAgg5
  z5 := Try.sizeOf5
  v5 := Try.zeroValue5
  t9 := Try.underlying9
  a9 := Try.isAgg9
  z9 := Try.sizeOf9
  v9 := Try.zeroValue9
  t22 := Try.underlying22
  a22 := Try.isAgg22
  z22 := Try.sizeOf22
  v22 := Try.zeroValue22
  a24 := Try.isAgg3
  z24 := Try.sizeOf3
  t25 := Try.underlying45
  a25 := Try.isAgg45
  z25 := Try.sizeOf45
  v25 := Try.zeroValue45
  t39 := Try.underlying54
  a39 := Try.isAgg54
  z39 := Try.sizeOf54
  v39 := Try.zeroValue54
  t45 := Try.underlying151
  a45 := Try.isAgg151
  z45 := Try.sizeOf151
  v45 := Try.zeroValue151
  t46 := Try.underlying152
  a46 := Try.isAgg152
  z46 := Try.sizeOf152
  v46 := Try.zeroValue152
  t50 := Try.underlying71
  a50 := Try.isAgg71
  z50 := Try.sizeOf71
  v50 := Try.zeroValue71
  t53 := Try.underlying53
  a53 := Try.isAgg53
  z53 := Try.sizeOf53
  v53 := Try.zeroValue53
  t55 := Try.underlying159
  a55 := Try.isAgg159
  z55 := Try.sizeOf159
  v55 := Try.zeroValue159
  t66 := Try.underlying161
  a66 := Try.isAgg161
  z66 := Try.sizeOf161
  v66 := Try.zeroValue161
  t70 := Try.underlying165
  a70 := Try.isAgg165
  z70 := Try.sizeOf165
  v70 := Try.zeroValue165
  t76 := Try.underlying167
  a76 := Try.isAgg167
  z76 := Try.sizeOf167
  v76 := Try.zeroValue167
  t77 := Try.underlying168
  a77 := Try.isAgg168
  z77 := Try.sizeOf168
  v77 := Try.zeroValue168 }
end Go.Proofs
