/- awake of bringuplaw11. -/
import Derived.Test.YtjfkjnakmmkkiaaLawI
namespace Go.Proofs.Ytjfkjnakmmkkiaa
open Go.RowKit

theorem list_three (w : World) (x y z : Int) (t : TypeId) : ListAt (w.alloc (.cells #[.int .i64 x, .int .i64 y, .int .i64 z] t)).heap.size (w.alloc (.cells #[.int .i64 x, .int .i64 y, .int .i64 z] t)) (.slice (some ⟨w.heap.size, 0, none⟩) 3 3) [x, y, z] := by
  refine ⟨some ⟨w.heap.size, 0, none⟩, 3, rfl, Nat.le_refl _, by omega, fun _ => ⟨w.heap.size, 0, rfl, by simp, fun i hi => ?_⟩⟩
  have h := Holds.new w #[.int .i64 x, .int .i64 y, .int .i64 z] t
  match i, hi with
  | 0, _ => exact h.cell 0
  | 1, _ => exact h.cell 1
  | 2, _ => exact h.cell 2

theorem Holds.newB {w : World} {B : Nat} (hB : w.heap.size = B) (cs : Array Value) (t : TypeId) : Holds (w.alloc (.cells cs t)) B cs t := by
  subst hB; exact Holds.new w cs t
theorem list_twoB {w : World} {B : Nat} (hB : w.heap.size = B) (x y : Int) (t : TypeId) : ListAt (w.alloc (.cells #[.int .i64 x, .int .i64 y] t)).heap.size (w.alloc (.cells #[.int .i64 x, .int .i64 y] t)) (.slice (some ⟨B, 0, none⟩) 2 2) [x, y] := by
  subst hB; exact list_two w x y t

set_option maxRecDepth 100000 in
set_option maxHeartbeats 2000000 in
theorem law_awake (w : World) :
    Calls Try.prog 14 #[] w fun e w' => e = .returned (.bool true) ∧ Below w.heap.size w w' := by
  have b1 := Lib.hid (show ∀ x ∈ [(0 : Int), 4096, 256], 0 ≤ x ∧ x ≤ 4294967295 from by decide)
  have b2 := Lib.hid (show ∀ x ∈ [(16 : Int), 4], 0 ≤ x ∧ x ≤ 4294967295 from by decide)
  go_enter Try.func14, Try.ntmps14
  go_wp2_with fail
  refine (grow_Cells _ _ _ (list_three w _ _ _ _) (by exact b1.out) (by simp)).mono ?_
  rintro e w1 ⟨rfl, hb1⟩
  have hb2 := ((Below.refl w.heap.size w).alloc (Nat.le_refl _) _).trans (hb1.mono (by simp))
  generalize hv1 : growT [0, 4096, 256] = V1
  have HV1 := Lib.hid hv1; clear hv1
  have hs1 := hb2.size
  have hP0 := (Holds.new w1 #[.string ⟨#[114, 97, 110, 103, 101, 115]⟩, .string ⟨V1.toArray⟩] 48).alloc (.cells #[.int .i64 16, .int .i64 4] 3)
  go_wp2_with fail
  refine (grow_Cells [16, 4] _ _ (by exact list_twoB (by simp) 16 4 _) (by exact b2.out) (by simp)).mono ?_
  rintro e w2 ⟨rfl, hb3⟩
  have hb4 := ((hb2.alloc hs1 _).alloc (by simp; omega) _).trans (hb3.mono (by simp; omega))
  have hP1 := hP0.keeps (Keeps.of_fresh hb3 (fun _ => False)) (fun e => e)
  clear hP0
  generalize hv2 : growT [16, 4] = V2
  have HV2 := Lib.hid hv2; clear hv2
  have hs2 := hb4.size
  go_wp2_with fail
  refine (address_Translate (fun g => g < _) _ tAwake 2 0 _ (by
    have hv1 := HV1.out
    have hv2 := HV2.out
    subst hv1; subst hv2
    exact tAwake_in (((hP1.alloc _).alloc _).alloc _) (((Holds.new w2 _ _).alloc _).alloc _) ((Holds.newB (by simp) _ _).alloc _))).mono ?_
  rintro e w3 ⟨rfl, hb5⟩
  simp only [tAwake_trans]
  have hk5 := Keeps.of_fresh hb5 (fun _ => False)
  have hT := (Holds.newB (w := (w2.alloc _).alloc _) (B := w2.heap.size + 1 + 1) (by simp) _ _).keeps hk5 (fun e => e)
  have bx := hT.cell 0
  have blt := hT.lt
  go_wp2_with fail
  refine (address_Regions (fun g => g < _) _ tAwake 2 _ (by
    have hv1 := HV1.out
    have hv2 := HV2.out
    subst hv1; subst hv2
    exact tAwake_in (((((hP1.alloc _).alloc _).alloc _).keeps hk5 (fun e => e)).alloc _) (((((Holds.new w2 _ _).alloc _).alloc _).keeps hk5 (fun e => e)).alloc _) ((((Holds.newB (by simp) _ _).alloc _).keeps hk5 (fun e => e)).alloc _))).mono ?_
  rintro e w4 ⟨rv, rfl, hown, hb6⟩
  simp only [tAwake_regions] at hown ⊢
  have hk6 := Keeps.of_fresh hb6 (fun _ => False)
  have hR := (Holds.new w3 #[.int .i64 4112, .int .i64 4] 37).keeps hk6 (fun e => e)
  have r0 := hR.cell 0
  have r1 := hR.cell 1
  have rlt := hR.lt
  obtain ⟨gl, cl, rfl, q1, q2, q3, f0, f1⟩ := pair_cells_at (l := [(16, 4)]) hown 0 (by decide)
  have hb7 := (((((hb4.alloc hs2 _).alloc (by simp; omega) _).alloc (by simp; omega) _).trans (hb5.mono (by simp; omega))))
  have hb8 := (hb7.alloc hb7.size _).trans (hb6.mono (by simp; have := hb7.size; omega))
  go_wp2_with fail
  go_ret
  exact ⟨rfl, hb8⟩
end Go.Proofs.Ytjfkjnakmmkkiaa
