/- The tape: Range and Pick. -/
import Derived.Test.YtjfkjnakmmkkiaaMake
namespace Go.Proofs.Ytjfkjnakmmkkiaa
open Go.RowKit

set_option maxHeartbeats 1000000 in
theorem mk_Range (B b : Nat) (lo hi : Int) (w : World) (h : Tape B w b) (h0 : -1000 ≤ lo) (h1 : lo ≤ hi) (h2 : hi ≤ 4611686018427387) :
    Calls Try.prog 18 #[.pointer (some ⟨b, 0, none⟩), .int .i64 lo, .int .i64 hi] w fun e w' => ∃ r, e = .returned (.int .i64 r) ∧ lo ≤ r ∧ r ≤ hi ∧ Tape B w' b ∧ Keeps (· = b) w w' := by
  go_enter Try.func18, Try.ntmps18
  go_wp2_with fail
  refine (mk_N B b (hi - lo + 1) _ h (by omega) (by omega)).mono ?_
  rintro e w1 ⟨r, rfl, r0, r1, hT, hK⟩
  go_wp2_with fail
  go_ret
  exact ⟨_, rfl, by omega, by omega, hT, hK⟩

set_option maxHeartbeats 1000000 in
theorem mk_Pick (B b g o cap : Nat) (l : List Int) (w : World) (h : Tape B w b) (h0 : 0 < l.length) (h1 : l.length ≤ 1000) (hne : g ≠ b) (hc : ∀ (i : Nat) (h : i < l.length), w.cell? ⟨g, o + i, none⟩ = some (.int .i64 l[i])) :
    Calls Try.prog 19 #[.pointer (some ⟨b, 0, none⟩), .slice (some ⟨g, o, none⟩) l.length cap] w fun e w' => ∃ r, e = .returned (.int .i64 r) ∧ r ∈ l ∧ Tape B w' b ∧ Keeps (· = b) w w' := by
  have HC := Lib.hid hc; clear hc
  go_enter Try.func19, Try.ntmps19
  go_wp2_with fail
  refine (mk_N B b l.length _ h (by omega) (by omega)).mono ?_
  rintro e w1 ⟨r, rfl, r0, r1, hT, hK⟩
  obtain ⟨k, rfl⟩ := Int.eq_ofNat_of_zero_le r0
  have hk : k < l.length := by omega
  have hcell : w1.cell? ⟨g, o + k, none⟩ = some (.int .i64 l[k]) := (hK.cell (p := ⟨g, o + k, none⟩) (World.block_lt_of_cell? w _ (HC.out k hk)) hne).trans (HC.out k hk)
  go_wp2_with fail
  go_ret
  exact ⟨_, rfl, List.getElem_mem hk, hT, hK⟩
end Go.Proofs.Ytjfkjnakmmkkiaa
