/- The contract of blanks of token. -/
import Derived.Test.YtofhcgbihonckaaGreatDoorZ4
import Derived.Test.YtofhcgbihonckaaGreatDoorZ23
import Derived.Test.YtofhcgbihonckaaGreatDoorZ12
import Derived.Test.YtofhcgbihonckaaGreatDoorZ2
import Derived.Deep.LoopGhost

set_option linter.unusedVariables false
set_option linter.unusedSimpArgs false
set_option linter.unusedSectionVars false

namespace Go.Proofs.YtofhcgbihonckaaGreatDoor
open Go.RowKit

theorem rd_ne0 {w : World} {b : Nat} {s : ByteArray} {i : Nat} {file line col : Int} {t : TypeId} (h : Holds w b (rdCells s i file line col) t) (h0 : Lay0 w) : b ≠ 0 := by
  rintro rfl
  obtain ⟨m, h0⟩ := h0
  have := (h.cell 0).symm.trans h0
  simp [rdCells] at this

theorem blk_room (s : ByteArray) (i f : Nat) (hi : i ≤ s.size) : i + (blk f (s.data.toList.drop i)).1 ≤ s.size := by
  have := blk_le f (s.data.toList.drop i)
  simp at this; omega

theorem adv_more (l : List UInt8) (i j n : Nat) (h : i ≤ j) (p : Int × Int) : adv ((l.drop j).take n) (adv ((l.drop i).take (j - i)) p) = adv ((l.drop i).take (j + n - i)) p := by
  rw [← adv_append]
  congr 1
  rw [show j + n - i = (j - i) + n from by omega, List.take_add, List.drop_drop, show i + (j - i) = j from by omega]

theorem rest_hd (s : ByteArray) (j : Nat) (h : j < s.size) : (s.extract j s.size).data.toList.headD 0 = s[j] := by
  rw [drop_toList, drop_cons s j h]; rfl

theorem blk_sep {f : Nat} {c : UInt8} {r : List UInt8} (h : sepB c.toNat = true) : blk (f + 1) (c :: r) = ((blk f r).1 + 1, (blk f r).2) := by simp [blk, h]
theorem blk_line {f : Nat} {c : UInt8} {r : List UInt8} (h : sepB c.toNat = false) (h2 : Lib.hasPrefix (c :: r) [47, 47] = true) : blk (f + 1) (c :: r) = ((blk f ((c :: r).drop (runB notNlB (c :: r)))).1 + runB notNlB (c :: r), (blk f ((c :: r).drop (runB notNlB (c :: r)))).2) := by
  simp only [blk]; rw [if_neg (by simp [h]), if_pos h2]
theorem blk_bad {f : Nat} {c : UInt8} {r : List UInt8} (h : sepB c.toNat = false) (h2 : Lib.hasPrefix (c :: r) [47, 47] = false) (h3 : Lib.hasPrefix (c :: r) [47, 42] = true) (h4 : Lib.index ((c :: r).drop 2) [42, 47] < 0) : blk (f + 1) (c :: r) = (0, true) := by
  simp only [blk]; rw [if_neg (by simp [h]), if_neg (by simp [h2]), if_pos h3, if_pos h4]
theorem blk_note {f : Nat} {c : UInt8} {r : List UInt8} (h : sepB c.toNat = false) (h2 : Lib.hasPrefix (c :: r) [47, 47] = false) (h3 : Lib.hasPrefix (c :: r) [47, 42] = true) (n : Nat) (h4 : Lib.index ((c :: r).drop 2) [42, 47] = n) : blk (f + 1) (c :: r) = ((blk f ((c :: r).drop (n + 4))).1 + (n + 4), (blk f ((c :: r).drop (n + 4))).2) := by
  simp only [blk]; rw [if_neg (by simp [h]), if_neg (by simp [h2]), if_pos h3, if_neg (by omega), h4]; rfl
theorem blk_none {f : Nat} {c : UInt8} {r : List UInt8} (h : sepB c.toNat = false) (h2 : Lib.hasPrefix (c :: r) [47, 47] = false) (h3 : Lib.hasPrefix (c :: r) [47, 42] = false) : blk (f + 1) (c :: r) = (0, false) := by
  simp only [blk]; rw [if_neg (by simp [h]), if_neg (by simp [h2]), if_neg (by simp [h3])]

end Go.Proofs.YtofhcgbihonckaaGreatDoor
