/- Numbers put together of parts: or is a sum. -/
import Derived.Test.YtofhcgbihonckaaGreatDoorRows
import Derived.WalkKit
import Derived.IntWalk

set_option linter.unusedVariables false
set_option linter.unusedSimpArgs false
set_option linter.unusedSectionVars false

namespace Go.Proofs.YtofhcgbihonckaaGreatDoor
open Go.RowKit

theorem or_add (k x y : Nat) (h : y < 2 ^ k) (hx : 2 ^ k ∣ x) (hs : x + y < 9223372036854775808) : bits .or .i64 (x : Int) (y : Int) = ((x + y : Nat) : Int) := by
  obtain ⟨a, rfl⟩ := hx
  have e1 : (BitVec.ofInt 64 ((2 ^ k * a : Nat) : Int)).toNat = 2 ^ k * a := by
    rw [BitVec.toNat_ofInt]; norm_cast; omega
  have e2 : (BitVec.ofInt 64 ((y : Nat) : Int)).toNat = y := by
    rw [BitVec.toNat_ofInt]; norm_cast; omega
  show IntKind.i64.wrap ((((BitVec.ofInt 64 ((2 ^ k * a : Nat) : Int)) ||| (BitVec.ofInt 64 ((y : Nat) : Int))).toNat : Nat) : Int) = _
  rw [BitVec.toNat_or, e1, e2, ← Nat.two_pow_add_eq_or_of_lt h]
  exact IntWalk.i64_in _ (by omega)
/-- Four bytes are a number. -/
def wordT (a b c d : UInt8) : Int := (a.toNat : Int) * 16777216 + (b.toNat : Int) * 65536 + (c.toNat : Int) * 256 + (d.toNat : Int)
theorem wrap_byte (a : UInt8) : IntKind.i64.wrap (a.toNat : Int) = a.toNat := by have := a.toNat_lt; exact IntWalk.i64_in _ (by omega)
theorem wrap_mul (a : UInt8) (m : Nat) (hm : m ≤ 16777216) : IntKind.i64.wrap ((a.toNat : Int) * m) = (a.toNat : Int) * m := by
  have := a.toNat_lt
  have h2 : a.toNat * m ≤ 256 * 16777216 := Nat.mul_le_mul (by omega) hm
  have h3 : (a.toNat : Int) * m = ((a.toNat * m : Nat) : Int) := by simp
  rw [h3]
  exact IntWalk.i64_in _ (by omega)
theorem word_or (a b c d : UInt8) : bits .or .i64 (bits .or .i64 (bits .or .i64 ((a.toNat : Int) * 16777216) ((b.toNat : Int) * 65536)) ((c.toNat : Int) * 256)) (d.toNat : Int) = wordT a b c d := by
  have ha := a.toNat_lt
  have hb := b.toNat_lt
  have hc := c.toNat_lt
  have hd := d.toNat_lt
  have e1 := or_add 24 (a.toNat * 16777216) (b.toNat * 65536) (by omega) ⟨a.toNat, by omega⟩ (by omega)
  have e2 := or_add 16 (a.toNat * 16777216 + b.toNat * 65536) (c.toNat * 256) (by omega) ⟨a.toNat * 256 + b.toNat, by omega⟩ (by omega)
  have e3 := or_add 8 (a.toNat * 16777216 + b.toNat * 65536 + c.toNat * 256) d.toNat (by omega) ⟨a.toNat * 65536 + b.toNat * 256 + c.toNat, by omega⟩ (by omega)
  simp only [Int.natCast_add, Int.natCast_mul, show ((16777216 : Nat) : Int) = 16777216 from rfl, show ((65536 : Nat) : Int) = 65536 from rfl, show ((256 : Nat) : Int) = 256 from rfl] at e1 e2 e3
  rw [e1, e2, e3]; rfl
theorem wordT_bd (a b c d : UInt8) : 0 ≤ wordT a b c d ∧ wordT a b c d ≤ 4294967295 := by
  have ha := a.toNat_lt
  have hb := b.toNat_lt
  have hc := c.toNat_lt
  have hd := d.toNat_lt
  unfold wordT; omega
end Go.Proofs.YtofhcgbihonckaaGreatDoor
