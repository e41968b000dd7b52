/- Contracts of package walk: the order of siblings, and slices.SortFunc over it. -/
import Derived.Test.YtjfkjnakmmkkiaaGreatZ9
import Derived.Test.YtjfkjnakmmkkiaaGreatZ1
import Derived.Test.YtjfkjnakmmkkiaaGreatShelf2
import Derived.Shelf.SlSortCmp.Whole1

namespace Go.Proofs.YtjfkjnakmmkkiaaGreat
open Go.RowKit Go.Sort

/-- How two nodes of a list compare, by their names. -/
def cmpK (L : List NodeT) (n : Nat) (x y : Fin n) : Int := cmpS (nameOf L x) (nameOf L y)
def encK (n : Nat) (x : Fin n) : Value := .int .i64 (x.val : Int)
theorem cmpS_neg (a b : ByteArray) : decide (cmpS a b < 0) = ltS a b := by
  unfold cmpS
  cases h : ltS a b with
  | true => simp
  | false =>
    rw [if_neg (by simp)]
    split <;> simp
theorem ltS_ntrans {a b c : ByteArray} (h1 : ltS a b = false) (h2 : ltS b c = false) : ltS a c = false := by
  cases h : ltS a c with
  | false => rfl
  | true =>
    rcases ltS_total h1 with rfl | h3
    · rw [h] at h2; cases h2
    · rw [ltS_trans h3 h] at h2; cases h2
theorem cmpK_lt (L : List NodeT) (n : Nat) (x y : Fin n) : ltOf (cmpK L n) x y = ltS (nameOf L x) (nameOf L y) := cmpS_neg _ _
theorem cmpK_swo (L : List NodeT) (n : Nat) : SWO (ltOf (cmpK L n)) := by
  refine ⟨fun x => ?_, fun x y z h1 h2 => ?_, fun x y z h1 h2 => ?_⟩
  · rw [cmpK_lt]; exact ltS_irrefl _
  · rw [cmpK_lt] at *; exact ltS_trans h1 h2
  · rw [cmpK_lt] at *; exact ltS_ntrans h1 h2

set_option maxHeartbeats 1000000 in
theorem walk_closure (R : Nat → Prop) (lb : Nat) (v : Value) (L : List NodeT) (x y : Fin L.length) (w : World) (hB : Holds w lb #[v] 23) (hL : NodesIn R w v L) :
    Calls Tryz.prog 143 #[.int .i64 (x.val : Int), .int .i64 (y.val : Int), .pointer (some ⟨lb, 0, none⟩)] w fun e w' => e = .returned (.int .i64 (cmpK L L.length x y)) ∧ ∃ q, w' = w.drewN q := by
  obtain ⟨a, cap, rfl, hc1, hc2⟩ := hL.shape
  obtain ⟨g, o, pa, pc, hae, hg, c0, c1, c2, -, -, -, b0, -, -⟩ := hL.at x.val x.isLt
  obtain ⟨g', o', pa', pc', hae', -, d0, d1, d2, -, -, -, e0, -, -⟩ := hL.at y.val y.isLt
  subst hae
  simp only [Option.some.injEq, Addr.mk.injEq, and_true] at hae'
  obtain ⟨rfl, rfl⟩ := hae'
  have bx := hB.cell 0
  have hx := x.isLt
  have hy := y.isLt
  have hcm := Lib.hid (fun wx => cmp_Compare (L[x.val]).name (L[y.val]).name wx)
  have HK := Lib.hid (show cmpK L L.length x y = cmpS (L[x.val]).name (L[y.val]).name from by unfold cmpK; rw [nameOf_at hx, nameOf_at hy])
  have x0 : (0 : Int) ≤ (x.val : Int) := by omega
  have x1 : (x.val : Int) < (L.length : Int) := by omega
  have y0 : (0 : Int) ≤ (y.val : Int) := by omega
  have y1 : (y.val : Int) < (L.length : Int) := by omega
  clear hL hB
  generalize L[x.val] = nx at *
  generalize L[y.val] = ny at *
  go_enter Tryz.func143, Tryz.ntmps143
  go_wp2_with fail
  go_quiet ((go_at_call 129; exact (hcm.out _).mono fun _ _ ⟨p, q⟩ => ⟨p, _, q.symm⟩))
  go_wp2_with fail
  go_ret
  exact ⟨ret_int HK.out.symm, _, rfl⟩
end Go.Proofs.YtjfkjnakmmkkiaaGreat
