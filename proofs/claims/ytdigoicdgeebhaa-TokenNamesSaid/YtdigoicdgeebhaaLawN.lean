/- based of the laws on tokens: a number's digits. -/
import Derived.Test.YtdigoicdgeebhaaTokK
import Derived.Deep.LoopGhost
namespace Go.Proofs.Ytdigoicdgeebhaa
open Go.RowKit

def digCh (cap : Bool) (d : Nat) : UInt8 := if d < 10 then (48 + d).toUInt8 else if cap then (55 + d).toUInt8 else (87 + d).toUInt8
def digitsT (base : Nat) (cap : Bool) : Nat → Nat → List UInt8 → List UInt8
  | 0, _, acc => acc
  | f + 1, n, acc => if n = 0 then acc else digitsT base cap f (n / base) (digCh cap (n % base) :: acc)
def basedT (base : Nat) (cap : Bool) (n : Nat) : List UInt8 := digitsT base cap (n / base) (n / base) [digCh cap (n % base)]

theorem dig_small (d : Nat) (h : d < 16) : (⟨#[48, 49, 50, 51, 52, 53, 54, 55, 56, 57, 97, 98, 99, 100, 101, 102]⟩ : ByteArray).extract d (d + 1) = ⟨#[digCh false d]⟩ := by
  have : ∀ x : Fin 16, (⟨#[48, 49, 50, 51, 52, 53, 54, 55, 56, 57, 97, 98, 99, 100, 101, 102]⟩ : ByteArray).extract x (x + 1) = ⟨#[digCh false x]⟩ := by decide +kernel
  exact this ⟨d, h⟩
theorem dig_great (d : Nat) (h : d < 16) : (⟨#[48, 49, 50, 51, 52, 53, 54, 55, 56, 57, 65, 66, 67, 68, 69, 70]⟩ : ByteArray).extract d (d + 1) = ⟨#[digCh true d]⟩ := by
  have : ∀ x : Fin 16, (⟨#[48, 49, 50, 51, 52, 53, 54, 55, 56, 57, 65, 66, 67, 68, 69, 70]⟩ : ByteArray).extract x (x + 1) = ⟨#[digCh true x]⟩ := by decide +kernel
  exact this ⟨d, h⟩

theorem size_one (x : UInt8) : (⟨#[x]⟩ : ByteArray).size = 1 := rfl
set_option maxHeartbeats 1000000 in
theorem based_any (n base : Int) (cap : Bool) (w : World) (h0 : 0 ≤ n) (h1 : n ≤ 1099511627776) (hb0 : 2 ≤ base) (hb1 : base ≤ 16) :
    Calls Try.prog 18 #[.int .i64 n, .int .i64 base, .bool cap] w fun e w' => e = .returned (.string ⟨(basedT base.toNat cap n.toNat).toArray⟩) ∧ ∃ k, w' = w.drewN k := by
  obtain ⟨n, rfl⟩ := Int.eq_ofNat_of_zero_le h0
  obtain ⟨base, rfl⟩ := Int.eq_ofNat_of_zero_le (by omega : 0 ≤ base)
  simp only [Int.toNat_natCast]
  have hm : n % base < base := Nat.mod_lt _ (by omega)
  have hm' : ((n : Int) % base) < base := by omega
  have hm0 : 0 ≤ ((n : Int) % base) := by omega
  have hq1 : n / base ≤ n := Nat.div_le_self _ _
  have hq1' : ((n : Int) / base) ≤ 1099511627776 := by rw [← Int.natCast_ediv]; omega
  have hq0' : 0 ≤ ((n : Int) / base) := Int.natCast_ediv n base ▸ Int.natCast_nonneg _
  have hR := Lib.hid (show basedT base cap n = digitsT base cap (n / base) (n / base) [digCh cap (n % base)] from rfl)
  generalize basedT base cap n = R at hR
  go_enter Try.func18, Try.ntmps18
  cases cap with
  | false =>
    go_wp2
    go_quiet (fail)
    go_wp2
    rw [dig_small (n % base) (by omega)]
    go_loopg [0, 8] (n / base) (fun f i s8 wr => ∃ (m nd : Nat) (acc : List UInt8) (sb : ByteArray), i = .int .i64 m ∧ s8 = .string sb ∧ Hid (sb = ⟨acc.toArray⟩) ∧ sb.size + f ≤ 2199023255552 ∧ m ≤ f ∧ m ≤ 1099511627776 ∧ Hid (R = digitsT base false f m acc) ∧ wr = w.drewN nd)
    case atStart => exact ⟨n / base, _, [digCh false (n % base)], ⟨#[digCh false (n % base)]⟩, by rw [Int.natCast_ediv], rfl, rfl, by rw [size_one]; omega, Nat.le_refl _, by omega, hR, rfl⟩
    case round =>
      obtain ⟨m, nd, acc, sb, rfl, rfl, hsb, hsz, hmf, hmb, hE, rfl⟩ := hrel
      clear hm hm' hm0 hq1 hq1' hq0'
      by_cases hz : 0 < m
      · obtain ⟨f, rfl⟩ : ∃ f', gk = f' + 1 := ⟨gk - 1, by omega⟩
        have hm : m % base < base := Nat.mod_lt _ (by omega)
        have hm' : ((m : Int) % base) < base := by omega
        have hm0 : 0 ≤ ((m : Int) % base) := by omega
        have hq2 : m / base < m := Nat.div_lt_self hz (by omega)
        have hq1' : ((m : Int) / base) ≤ 1099511627776 := by rw [← Int.natCast_ediv]; omega
        have hq0' : 0 ≤ ((m : Int) / base) := Int.natCast_ediv m base ▸ Int.natCast_nonneg _
        have hE2 := Lib.hid (show R = digitsT base false f (m / base) (digCh false (m % base) :: acc) from by rw [hE.out]; simp only [digitsT]; rw [if_neg (by omega)])
        have hadd : ∀ wx : World, (Op.stringOp .add ((⟨#[48, 49, 50, 51, 52, 53, 54, 55, 56, 57, 97, 98, 99, 100, 101, 102]⟩ : ByteArray).extract (m % base) (m % base + 1)) sb).run Try.prog wx = .ok (.string ((⟨#[48, 49, 50, 51, 52, 53, 54, 55, 56, 57, 97, 98, 99, 100, 101, 102]⟩ : ByteArray).extract (m % base) (m % base + 1) ++ sb)) wx := fun wx => run_string_add_sum wx _ _ (by rw [dig_small (m % base) (by omega), size_one]; omega)
        go_wp2
        go_quiet (fail)
        go_wp2
        go_roundg f
        case measure => omega
        case rel => exact ⟨m / base, _, digCh false (m % base) :: acc, _, by rw [Int.natCast_ediv], rfl, by show _ = _; rw [hsb.out, dig_small (m % base) (by omega)]; exact ByteArray.mk_append_mk [_] acc, by rw [dig_small (m % base) (by omega), ByteArray.size_append, size_one]; omega, by omega, by omega, hE2, rfl⟩
      · obtain rfl : m = 0 := by omega
        have hE2 := Lib.hid (show R = acc from by rw [hE.out]; cases gk <;> simp [digitsT])
        go_wp2
        go_ret
        exact ⟨by rw [hE2.out, ← hsb.out]; rfl, _, rfl⟩
  | true =>
    go_wp2
    go_quiet (fail)
    go_wp2
    rw [dig_great (n % base) (by omega)]
    go_loopg [0, 8] (n / base) (fun f i s8 wr => ∃ (m nd : Nat) (acc : List UInt8) (sb : ByteArray), i = .int .i64 m ∧ s8 = .string sb ∧ Hid (sb = ⟨acc.toArray⟩) ∧ sb.size + f ≤ 2199023255552 ∧ m ≤ f ∧ m ≤ 1099511627776 ∧ Hid (R = digitsT base true f m acc) ∧ wr = w.drewN nd)
    case atStart => exact ⟨n / base, _, [digCh true (n % base)], ⟨#[digCh true (n % base)]⟩, by rw [Int.natCast_ediv], rfl, rfl, by rw [size_one]; omega, Nat.le_refl _, by omega, hR, rfl⟩
    case round =>
      obtain ⟨m, nd, acc, sb, rfl, rfl, hsb, hsz, hmf, hmb, hE, rfl⟩ := hrel
      clear hm hm' hm0 hq1 hq1' hq0'
      by_cases hz : 0 < m
      · obtain ⟨f, rfl⟩ : ∃ f', gk = f' + 1 := ⟨gk - 1, by omega⟩
        have hm : m % base < base := Nat.mod_lt _ (by omega)
        have hm' : ((m : Int) % base) < base := by omega
        have hm0 : 0 ≤ ((m : Int) % base) := by omega
        have hq2 : m / base < m := Nat.div_lt_self hz (by omega)
        have hq1' : ((m : Int) / base) ≤ 1099511627776 := by rw [← Int.natCast_ediv]; omega
        have hq0' : 0 ≤ ((m : Int) / base) := Int.natCast_ediv m base ▸ Int.natCast_nonneg _
        have hE2 := Lib.hid (show R = digitsT base true f (m / base) (digCh true (m % base) :: acc) from by rw [hE.out]; simp only [digitsT]; rw [if_neg (by omega)])
        have hadd : ∀ wx : World, (Op.stringOp .add ((⟨#[48, 49, 50, 51, 52, 53, 54, 55, 56, 57, 65, 66, 67, 68, 69, 70]⟩ : ByteArray).extract (m % base) (m % base + 1)) sb).run Try.prog wx = .ok (.string ((⟨#[48, 49, 50, 51, 52, 53, 54, 55, 56, 57, 65, 66, 67, 68, 69, 70]⟩ : ByteArray).extract (m % base) (m % base + 1) ++ sb)) wx := fun wx => run_string_add_sum wx _ _ (by rw [dig_great (m % base) (by omega), size_one]; omega)
        go_wp2
        go_quiet (fail)
        go_wp2
        go_roundg f
        case measure => omega
        case rel => exact ⟨m / base, _, digCh true (m % base) :: acc, _, by rw [Int.natCast_ediv], rfl, by show _ = _; rw [hsb.out, dig_great (m % base) (by omega)]; exact ByteArray.mk_append_mk [_] acc, by rw [dig_great (m % base) (by omega), ByteArray.size_append, size_one]; omega, by omega, by omega, hE2, rfl⟩
      · obtain rfl : m = 0 := by omega
        have hE2 := Lib.hid (show R = acc from by rw [hE.out]; cases gk <;> simp [digitsT])
        go_wp2
        go_ret
        exact ⟨by rw [hE2.out, ← hsb.out]; rfl, _, rfl⟩
end Go.Proofs.Ytdigoicdgeebhaa
