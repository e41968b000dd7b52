/- Contracts of bringuplaw11: number. -/
import Derived.Test.YtjfkjnakmmkkiaaGroA
import Derived.Test.YtjfkjnakmmkkiaaBitS
namespace Go.Proofs.Ytjfkjnakmmkkiaa
open Go.RowKit

theorem and_cell (n : Int) (h0 : 0 ≤ n) (h1 : n ≤ 4611686018427387903) : bits .and .i64 n 4294967295 = n % 4294967296 := by
  obtain ⟨k, rfl⟩ := Int.eq_ofNat_of_zero_le h0
  have e1 : (BitVec.ofInt 64 (k : Int)).toNat = k := by
    rw [BitVec.toNat_ofInt]; norm_cast; omega
  have e2 : (BitVec.ofInt 64 (4294967295 : Int)).toNat = 2 ^ 32 - 1 := by rfl
  show IntKind.i64.wrap ((((BitVec.ofInt 64 (k : Int)) &&& (BitVec.ofInt 64 (4294967295 : Int))).toNat : Nat) : Int) = _
  rw [BitVec.toNat_and, e1, e2, Nat.and_two_pow_sub_one_eq_mod]
  rw [IntWalk.i64_in _ (by omega)]
  omega
theorem list_one (w : World) (x : Int) (t : TypeId) : ListAt (w.alloc (.cells #[.int .i64 x] t)).heap.size (w.alloc (.cells #[.int .i64 x] t)) (.slice (some ⟨w.heap.size, 0, none⟩) 1 1) [x] := by
  refine ⟨some ⟨w.heap.size, 0, none⟩, 1, rfl, Nat.le_refl _, by omega, fun _ => ⟨w.heap.size, 0, rfl, by simp, fun i hi => ?_⟩⟩
  have h := Holds.new w #[.int .i64 x] t
  match i, hi with
  | 0, _ => exact h.cell 0
theorem list_two (w : World) (x y : Int) (t : TypeId) : ListAt (w.alloc (.cells #[.int .i64 x, .int .i64 y] t)).heap.size (w.alloc (.cells #[.int .i64 x, .int .i64 y] t)) (.slice (some ⟨w.heap.size, 0, none⟩) 2 2) [x, y] := by
  refine ⟨some ⟨w.heap.size, 0, none⟩, 2, rfl, Nat.le_refl _, by omega, fun _ => ⟨w.heap.size, 0, rfl, by simp, fun i hi => ?_⟩⟩
  have h := Holds.new w #[.int .i64 x, .int .i64 y] t
  match i, hi with
  | 0, _ => exact h.cell 0
  | 1, _ => exact h.cell 1

set_option maxRecDepth 100000 in
set_option maxHeartbeats 2000000 in
theorem law_number (n cells : Int) (w : World) (h0 : 0 ≤ n) (h1 : n ≤ 4611686018427387903) (hc : cells = 2 ∨ n ≤ 4294967295) :
    Calls Try.prog 21 #[.int .i64 n, .int .i64 cells] w fun e w' => e = .returned (.string ⟨(growT (if cells = 2 then [n / 4294967296, n % 4294967296] else [n])).toArray⟩) ∧ Below w.heap.size w w' := by
  by_cases h2 : cells = 2
  · subst h2
    rw [if_pos rfl]
    have hand := and_cell n h0 h1
    have hbd := Lib.hid (show ∀ x ∈ [n / 4294967296, n % 4294967296], 0 ≤ x ∧ x ≤ 4294967295 from by intro x hx; simp at hx; rcases hx with rfl | rfl <;> omega)
    go_enter Try.func21, Try.ntmps21
    go_wp2_with fail
    refine (grow_Cells _ _ _ (list_two w _ _ _) (by exact hbd.out) (by simp)).mono ?_
    rintro e w1 ⟨rfl, hb⟩
    go_wp2_with fail
    go_ret
    exact ⟨rfl, ((Below.refl w.heap.size w).alloc (Nat.le_refl _) _).trans (hb.mono (by simp))⟩
  · have hcb : (cells == 2) = false := by simpa using h2
    rw [if_neg h2]
    have hn1 : n ≤ 4294967295 := by omega
    have hbd := Lib.hid (show ∀ x ∈ [n], 0 ≤ x ∧ x ≤ 4294967295 from by intro x hx; simp at hx; subst hx; omega)
    clear hc h2
    go_enter Try.func21, Try.ntmps21
    go_wp2_with fail
    refine (grow_Cells _ _ _ (list_one w _ _) (by exact hbd.out) (by simp)).mono ?_
    rintro e w1 ⟨rfl, hb⟩
    go_wp2_with fail
    go_ret
    exact ⟨rfl, ((Below.refl w.heap.size w).alloc (Nat.le_refl _) _).trans (hb.mono (by simp))⟩
end Go.Proofs.Ytjfkjnakmmkkiaa
