/- Contracts of bringupgrow: Small. -/
import Derived.Test.YthkoaakicdhnpaaGreatZ3
import Derived.Deep.LoopGhost

namespace Go.Proofs.YthkoaakicdhnpaaGreat
open Go.RowKit

/-- The call returns a truth value and changes nothing old. -/
def YesNo (w : World) (e : Ending) (w' : World) : Prop := ∃ b, e = .returned (.bool b) ∧ Below w.heap.size w w'
set_option maxRecDepth 100000 in
set_option maxHeartbeats 2000000 in
/-- Small answers; which way does not matter to the laws. -/
theorem grow_Small (R : Nat → Prop) (v : Value) (T : List NodeT) (w : World) (hT : NodesIn R w v T) :
    Calls Tryz.prog 4 #[.agg #[v]] w (YesNo w) := by
  obtain ⟨a, cap, rfl, hc1, hc2⟩ := hT.shape
  have HT := Lib.hid hT; clear hT
  go_enter Tryz.func4, Tryz.ntmps4
  go_wp2_with fail
  go_loopg [3, 4] T.length (fun f x y wr => ∃ (k : Nat) (n : Int), x = .int .i64 n ∧ y = .int .i64 k ∧ k ≤ T.length ∧ T.length ≤ k + f ∧ Holds wr w.heap.size #[.slice a T.length cap] 25 ∧ Below w.heap.size w wr)
  case atStart => exact ⟨0, T.length, rfl, rfl, by omega, by omega, Holds.new w _ _, (Below.refl _ _).alloc (Nat.le_refl _) _⟩
  case round =>
    obtain ⟨k, n, rfl, rfl, hk1, hk2, hX, hb⟩ := hrel
    have hbs := hb.size
    have x0 := hX.cell 0
    have xl := hX.lt
    by_cases hlt : k < T.length
    · have hlt' : (k : Int) < (T.length : Int) := by omega
      by_cases h9 : n < 900
      · obtain ⟨g, o, pa, pc, rfl, hg, c0, c1, c2, hp, p1, p2, b0, b1, b2⟩ := (HT.out.new hb).at k hlt
        clear hp
        generalize T[k].props.length = pl at *
        go_wp2_with fail
        go_roundg (gk - 1)
        case measure => omega
        case rel => exact ⟨k + 1, _, rfl, by go_num, by omega, by omega, hX, hb⟩
      · have h9' : 900 ≤ n := by omega
        go_wp2_with fail
        go_ret
        exact ⟨_, rfl, hb⟩
    · have hlt' : ¬ (k : Int) < (T.length : Int) := by omega
      go_wp2_with fail
      go_ret
      exact ⟨_, rfl, hb⟩
end Go.Proofs.YthkoaakicdhnpaaGreat
