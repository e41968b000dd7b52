/- Trees in memory. -/
import Derived.Test.YtjfkjnakmmkkiaaTreS
import Derived.Test.YtjfkjnakmmkkiaaMem
namespace Go.Proofs.Ytjfkjnakmmkkiaa
open Go.RowKit

/-- A slice of properties; its cells lie in blocks of R. -/
def PropsIn (R : Nat → Prop) (w : World) (v : Value) (ps : List PropT) : Prop :=
  ∃ (a : Option Addr) (cap : Nat), v = .slice a ps.length cap ∧ ps.length ≤ cap ∧ cap ≤ 9223372036854775807 ∧
    (0 < ps.length → ∃ g o, a = some ⟨g, o, none⟩ ∧ R g ∧ ∀ (k : Nat) (h : k < ps.length), w.cell? ⟨g, o + k * 2, none⟩ = some (.string ps[k].name) ∧ w.cell? ⟨g, o + k * 2 + 1, none⟩ = some (.string ps[k].value) ∧
      ps[k].name.size ≤ 9223372036854775807 ∧ ps[k].value.size ≤ 9223372036854775807)
/-- A slice of nodes. -/
def NodesIn (R : Nat → Prop) (w : World) (v : Value) (T : List NodeT) : Prop :=
  ∃ (a : Option Addr) (cap : Nat), v = .slice a T.length cap ∧ T.length ≤ cap ∧ cap ≤ 9223372036854775807 ∧
    (0 < T.length → ∃ g o, a = some ⟨g, o, none⟩ ∧ R g ∧ ∀ (k : Nat) (h : k < T.length), ∃ pv, w.cell? ⟨g, o + k * 3, none⟩ = some (.int .i64 T[k].parent) ∧ w.cell? ⟨g, o + k * 3 + 1, none⟩ = some (.string T[k].name) ∧
      w.cell? ⟨g, o + k * 3 + 2, none⟩ = some pv ∧ PropsIn R w pv T[k].props ∧ T[k].name.size ≤ 9223372036854775807 ∧ -9223372036854775808 ≤ T[k].parent ∧ T[k].parent ≤ 9223372036854775807)

theorem PropsIn.shape {R : Nat → Prop} {w : World} {v : Value} {ps : List PropT} (h : PropsIn R w v ps) : ∃ a cap, v = .slice a ps.length cap ∧ ps.length ≤ cap ∧ cap ≤ 9223372036854775807 := by
  obtain ⟨a, cap, e, h1, h2, _⟩ := h; exact ⟨a, cap, e, h1, h2⟩
theorem NodesIn.shape {R : Nat → Prop} {w : World} {v : Value} {T : List NodeT} (h : NodesIn R w v T) : ∃ a cap, v = .slice a T.length cap ∧ T.length ≤ cap ∧ cap ≤ 9223372036854775807 := by
  obtain ⟨a, cap, e, h1, h2, _⟩ := h; exact ⟨a, cap, e, h1, h2⟩
theorem PropsIn.at {R : Nat → Prop} {w : World} {a : Option Addr} {n cap : Nat} {ps : List PropT} (h : PropsIn R w (.slice a n cap) ps) (k : Nat) (hk : k < ps.length) :
    ∃ g o, a = some ⟨g, o, none⟩ ∧ g < w.heap.size ∧ w.cell? ⟨g, o + k * 2, none⟩ = some (.string ps[k].name) ∧ w.cell? ⟨g, o + k * 2 + 1, none⟩ = some (.string ps[k].value) ∧ ps[k].name.size ≤ 9223372036854775807 ∧ ps[k].value.size ≤ 9223372036854775807 := by
  obtain ⟨a', cap', e, h1, h2, h3⟩ := h
  cases e
  obtain ⟨g, o, rfl, _, hc⟩ := h3 (by omega)
  obtain ⟨c0, c1, b0, b1⟩ := hc k hk
  exact ⟨g, o, rfl, World.block_lt_of_cell? w _ c0, c0, c1, b0, b1⟩
theorem NodesIn.at {R : Nat → Prop} {w : World} {a : Option Addr} {n cap : Nat} {T : List NodeT} (h : NodesIn R w (.slice a n cap) T) (k : Nat) (hk : k < T.length) :
    ∃ g o pa pc, a = some ⟨g, o, none⟩ ∧ g < w.heap.size ∧ w.cell? ⟨g, o + k * 3, none⟩ = some (.int .i64 T[k].parent) ∧ w.cell? ⟨g, o + k * 3 + 1, none⟩ = some (.string T[k].name) ∧
      w.cell? ⟨g, o + k * 3 + 2, none⟩ = some (.slice pa T[k].props.length pc) ∧ PropsIn R w (.slice pa T[k].props.length pc) T[k].props ∧ T[k].props.length ≤ pc ∧ pc ≤ 9223372036854775807 ∧
      T[k].name.size ≤ 9223372036854775807 ∧ -9223372036854775808 ≤ T[k].parent ∧ T[k].parent ≤ 9223372036854775807 := by
  obtain ⟨a', cap', e, h1, h2, h3⟩ := h
  cases e
  obtain ⟨g, o, rfl, _, hc⟩ := h3 (by omega)
  obtain ⟨pv, c0, c1, c2, hp, b0, b1, b2⟩ := hc k hk
  obtain ⟨pa, pc, rfl, p1, p2⟩ := hp.shape
  exact ⟨g, o, pa, pc, rfl, World.block_lt_of_cell? w _ c0, c0, c1, c2, hp, p1, p2, b0, b1, b2⟩
theorem PropsIn.keeps {R S : Nat → Prop} {w w' : World} {v : Value} {ps : List PropT} (h : PropsIn R w v ps) (k : Keeps S w w') (hs : ∀ g, R g → ¬ S g) : PropsIn R w' v ps := by
  obtain ⟨a, cap, e, h1, h2, h3⟩ := h
  refine ⟨a, cap, e, h1, h2, fun h0 => ?_⟩
  obtain ⟨g, o, ea, hR, hc⟩ := h3 h0
  refine ⟨g, o, ea, hR, fun j hj => ?_⟩
  obtain ⟨c0, c1, b0, b1⟩ := hc j hj
  have hg := World.block_lt_of_cell? w _ c0
  exact ⟨(k.cell (p := ⟨g, o + j * 2, none⟩) hg (hs g hR)).trans c0, (k.cell (p := ⟨g, o + j * 2 + 1, none⟩) hg (hs g hR)).trans c1, b0, b1⟩
theorem NodesIn.keeps {R S : Nat → Prop} {w w' : World} {v : Value} {T : List NodeT} (h : NodesIn R w v T) (k : Keeps S w w') (hs : ∀ g, R g → ¬ S g) : NodesIn R w' v T := by
  obtain ⟨a, cap, e, h1, h2, h3⟩ := h
  refine ⟨a, cap, e, h1, h2, fun h0 => ?_⟩
  obtain ⟨g, o, ea, hR, hc⟩ := h3 h0
  refine ⟨g, o, ea, hR, fun j hj => ?_⟩
  obtain ⟨pv, c0, c1, c2, hp, b0, b1, b2⟩ := hc j hj
  have hg := World.block_lt_of_cell? w _ c0
  exact ⟨pv, (k.cell (p := ⟨g, o + j * 3, none⟩) hg (hs g hR)).trans c0, (k.cell (p := ⟨g, o + j * 3 + 1, none⟩) hg (hs g hR)).trans c1, (k.cell (p := ⟨g, o + j * 3 + 2, none⟩) hg (hs g hR)).trans c2, hp.keeps k hs, b0, b1, b2⟩
theorem NodesIn.new {R : Nat → Prop} {w w' : World} {v : Value} {T : List NodeT} (h : NodesIn R w v T) (b : Below w.heap.size w w') : NodesIn R w' v T := h.keeps (Keeps.of_fresh b (fun _ => False)) (fun _ _ e => e)
theorem PropsIn.new {R : Nat → Prop} {w w' : World} {v : Value} {ps : List PropT} (h : PropsIn R w v ps) (b : Below w.heap.size w w') : PropsIn R w' v ps := h.keeps (Keeps.of_fresh b (fun _ => False)) (fun _ _ e => e)
theorem NodesIn.mono {R R' : Nat → Prop} {w : World} {v : Value} {T : List NodeT} (h : NodesIn R w v T) (hs : ∀ g, R g → R' g) : NodesIn R' w v T := by
  obtain ⟨a, cap, e, h1, h2, h3⟩ := h
  refine ⟨a, cap, e, h1, h2, fun h0 => ?_⟩
  obtain ⟨g, o, ea, hR, hc⟩ := h3 h0
  refine ⟨g, o, ea, hs g hR, fun j hj => ?_⟩
  obtain ⟨pv, c0, c1, c2, hp, r⟩ := hc j hj
  refine ⟨pv, c0, c1, c2, ?_, r⟩
  obtain ⟨a, cap, e, h1, h2, h3⟩ := hp
  refine ⟨a, cap, e, h1, h2, fun h0 => ?_⟩
  obtain ⟨g, o, ea, hR, hc⟩ := h3 h0
  exact ⟨g, o, ea, hs g hR, hc⟩
/-- Draws turn no block. -/
theorem below_draws {B : Nat} {a w : World} (h : Below B a w) (n : Nat) : Below B a (w.drewN n) := ⟨h.os, h.tape, h.output, h.size, h.block⟩
end Go.Proofs.Ytjfkjnakmmkkiaa
