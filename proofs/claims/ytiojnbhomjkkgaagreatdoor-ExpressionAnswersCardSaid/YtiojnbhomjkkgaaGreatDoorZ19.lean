/- Trees in memory. | Rows of nodes and of properties, as a call makes them. | Trees that a call has made: rows of nodes, each with a row of properties. -/
import Derived.Test.YtiojnbhomjkkgaaGreatDoorZ4
import Derived.Test.YtiojnbhomjkkgaaGreatDoorZ1
import Derived.Laws.OwnMore

set_option linter.unusedVariables false
set_option linter.unusedSimpArgs false
set_option linter.unusedSectionVars false

namespace Go.Proofs.YtiojnbhomjkkgaaGreatDoor
open Go.RowKit

/-- A slice of properties; its cells lie in blocks of R. -/
def PropsIn (R : Nat → Prop) (w : World) (v : Value) (ps : List PropT) : Prop :=
  ∃ (a : Option Addr) (cap : Nat), v = .slice a ps.length cap ∧ ps.length ≤ cap ∧ cap ≤ 9223372036854775807 ∧
    (0 < ps.length → ∃ g o, a = some ⟨g, o, none⟩ ∧ R g ∧ ∀ (k : Nat) (h : k < ps.length), w.cell? ⟨g, o + k * 2, none⟩ = some (.string ps[k].name) ∧ w.cell? ⟨g, o + k * 2 + 1, none⟩ = some (.string ps[k].value) ∧
      ps[k].name.size ≤ 9223372036854775807 ∧ ps[k].value.size ≤ 9223372036854775807)
/-- A slice of nodes. -/
def NodesIn (R : Nat → Prop) (w : World) (v : Value) (T : List NodeT) : Prop :=
  ∃ (a : Option Addr) (cap : Nat), v = .slice a T.length cap ∧ T.length ≤ cap ∧ cap ≤ 9223372036854775807 ∧
    (0 < T.length → ∃ g o, a = some ⟨g, o, none⟩ ∧ R g ∧ ∀ (k : Nat) (h : k < T.length), ∃ pv, w.cell? ⟨g, o + k * 3, none⟩ = some (.int .i64 T[k].parent) ∧ w.cell? ⟨g, o + k * 3 + 1, none⟩ = some (.string T[k].name) ∧
      w.cell? ⟨g, o + k * 3 + 2, none⟩ = some pv ∧ PropsIn R w pv T[k].props ∧ T[k].name.size ≤ 9223372036854775807 ∧ -9223372036854775808 ≤ T[k].parent ∧ T[k].parent ≤ 9223372036854775807)

theorem PropsIn.shape {R : Nat → Prop} {w : World} {v : Value} {ps : List PropT} (h : PropsIn R w v ps) : ∃ a cap, v = .slice a ps.length cap ∧ ps.length ≤ cap ∧ cap ≤ 9223372036854775807 := by
  obtain ⟨a, cap, e, h1, h2, _⟩ := h; exact ⟨a, cap, e, h1, h2⟩
theorem NodesIn.shape {R : Nat → Prop} {w : World} {v : Value} {T : List NodeT} (h : NodesIn R w v T) : ∃ a cap, v = .slice a T.length cap ∧ T.length ≤ cap ∧ cap ≤ 9223372036854775807 := by
  obtain ⟨a, cap, e, h1, h2, _⟩ := h; exact ⟨a, cap, e, h1, h2⟩
theorem PropsIn.at {R : Nat → Prop} {w : World} {a : Option Addr} {n cap : Nat} {ps : List PropT} (h : PropsIn R w (.slice a n cap) ps) (k : Nat) (hk : k < ps.length) :
    ∃ g o, a = some ⟨g, o, none⟩ ∧ g < w.heap.size ∧ w.cell? ⟨g, o + k * 2, none⟩ = some (.string ps[k].name) ∧ w.cell? ⟨g, o + k * 2 + 1, none⟩ = some (.string ps[k].value) ∧ ps[k].name.size ≤ 9223372036854775807 ∧ ps[k].value.size ≤ 9223372036854775807 := by
  obtain ⟨a', cap', e, h1, h2, h3⟩ := h
  cases e
  obtain ⟨g, o, rfl, _, hc⟩ := h3 (by omega)
  obtain ⟨c0, c1, b0, b1⟩ := hc k hk
  exact ⟨g, o, rfl, World.block_lt_of_cell? w _ c0, c0, c1, b0, b1⟩
theorem NodesIn.at {R : Nat → Prop} {w : World} {a : Option Addr} {n cap : Nat} {T : List NodeT} (h : NodesIn R w (.slice a n cap) T) (k : Nat) (hk : k < T.length) :
    ∃ g o pa pc, a = some ⟨g, o, none⟩ ∧ g < w.heap.size ∧ w.cell? ⟨g, o + k * 3, none⟩ = some (.int .i64 T[k].parent) ∧ w.cell? ⟨g, o + k * 3 + 1, none⟩ = some (.string T[k].name) ∧
      w.cell? ⟨g, o + k * 3 + 2, none⟩ = some (.slice pa T[k].props.length pc) ∧ PropsIn R w (.slice pa T[k].props.length pc) T[k].props ∧ T[k].props.length ≤ pc ∧ pc ≤ 9223372036854775807 ∧
      T[k].name.size ≤ 9223372036854775807 ∧ -9223372036854775808 ≤ T[k].parent ∧ T[k].parent ≤ 9223372036854775807 := by
  obtain ⟨a', cap', e, h1, h2, h3⟩ := h
  cases e
  obtain ⟨g, o, rfl, _, hc⟩ := h3 (by omega)
  obtain ⟨pv, c0, c1, c2, hp, b0, b1, b2⟩ := hc k hk
  obtain ⟨pa, pc, rfl, p1, p2⟩ := hp.shape
  exact ⟨g, o, pa, pc, rfl, World.block_lt_of_cell? w _ c0, c0, c1, c2, hp, p1, p2, b0, b1, b2⟩
theorem PropsIn.keeps {R S : Nat → Prop} {w w' : World} {v : Value} {ps : List PropT} (h : PropsIn R w v ps) (k : Keeps S w w') (hs : ∀ g, R g → ¬ S g) : PropsIn R w' v ps := by
  obtain ⟨a, cap, e, h1, h2, h3⟩ := h
  refine ⟨a, cap, e, h1, h2, fun h0 => ?_⟩
  obtain ⟨g, o, ea, hR, hc⟩ := h3 h0
  refine ⟨g, o, ea, hR, fun j hj => ?_⟩
  obtain ⟨c0, c1, b0, b1⟩ := hc j hj
  have hg := World.block_lt_of_cell? w _ c0
  exact ⟨(k.cell (p := ⟨g, o + j * 2, none⟩) hg (hs g hR)).trans c0, (k.cell (p := ⟨g, o + j * 2 + 1, none⟩) hg (hs g hR)).trans c1, b0, b1⟩
theorem NodesIn.keeps {R S : Nat → Prop} {w w' : World} {v : Value} {T : List NodeT} (h : NodesIn R w v T) (k : Keeps S w w') (hs : ∀ g, R g → ¬ S g) : NodesIn R w' v T := by
  obtain ⟨a, cap, e, h1, h2, h3⟩ := h
  refine ⟨a, cap, e, h1, h2, fun h0 => ?_⟩
  obtain ⟨g, o, ea, hR, hc⟩ := h3 h0
  refine ⟨g, o, ea, hR, fun j hj => ?_⟩
  obtain ⟨pv, c0, c1, c2, hp, b0, b1, b2⟩ := hc j hj
  have hg := World.block_lt_of_cell? w _ c0
  exact ⟨pv, (k.cell (p := ⟨g, o + j * 3, none⟩) hg (hs g hR)).trans c0, (k.cell (p := ⟨g, o + j * 3 + 1, none⟩) hg (hs g hR)).trans c1, (k.cell (p := ⟨g, o + j * 3 + 2, none⟩) hg (hs g hR)).trans c2, hp.keeps k hs, b0, b1, b2⟩
theorem NodesIn.new {R : Nat → Prop} {w w' : World} {v : Value} {T : List NodeT} (h : NodesIn R w v T) (b : Below w.heap.size w w') : NodesIn R w' v T := h.keeps (Keeps.of_fresh b (fun _ => False)) (fun _ _ e => e)
theorem PropsIn.new {R : Nat → Prop} {w w' : World} {v : Value} {ps : List PropT} (h : PropsIn R w v ps) (b : Below w.heap.size w w') : PropsIn R w' v ps := h.keeps (Keeps.of_fresh b (fun _ => False)) (fun _ _ e => e)
theorem NodesIn.mono {R R' : Nat → Prop} {w : World} {v : Value} {T : List NodeT} (h : NodesIn R w v T) (hs : ∀ g, R g → R' g) : NodesIn R' w v T := by
  obtain ⟨a, cap, e, h1, h2, h3⟩ := h
  refine ⟨a, cap, e, h1, h2, fun h0 => ?_⟩
  obtain ⟨g, o, ea, hR, hc⟩ := h3 h0
  refine ⟨g, o, ea, hs g hR, fun j hj => ?_⟩
  obtain ⟨pv, c0, c1, c2, hp, r⟩ := hc j hj
  refine ⟨pv, c0, c1, c2, ?_, r⟩
  obtain ⟨a, cap, e, h1, h2, h3⟩ := hp
  refine ⟨a, cap, e, h1, h2, fun h0 => ?_⟩
  obtain ⟨g, o, ea, hR, hc⟩ := h3 h0
  exact ⟨g, o, ea, hs g hR, hc⟩
/-- Draws turn no block. -/
theorem below_draws {B : Nat} {a w : World} (h : Below B a w) (n : Nat) : Below B a (w.drewN n) := ⟨h.os, h.tape, h.output, h.size, h.block⟩
end Go.Proofs.YtiojnbhomjkkgaaGreatDoor

namespace Go.Proofs.YtiojnbhomjkkgaaGreatDoor
open Go.RowKit

def nodeCells : List NodeT → List Value → List Value
  | n :: T, pv :: pvs => .int .i64 n.parent :: .string n.name :: pv :: nodeCells T pvs
  | _, _ => []
def propCells : List PropT → List Value
  | [] => []
  | p :: ps => .string p.name :: .string p.value :: propCells ps
theorem nodeCells_len : ∀ (T : List NodeT) (pvs : List Value), pvs.length = T.length → (nodeCells T pvs).length = T.length * 3
  | [], [], _ => rfl
  | n :: T, pv :: pvs, h => by simp only [nodeCells, List.length_cons]; rw [nodeCells_len T pvs (by simpa using h)]; omega
theorem propCells_len : ∀ ps : List PropT, (propCells ps).length = ps.length * 2
  | [] => rfl
  | p :: ps => by simp only [propCells, List.length_cons]; rw [propCells_len ps]; omega
theorem nodeCells_at : ∀ (T : List NodeT) (pvs : List Value) (k : Nat) (hk : k < T.length) (hp : k < pvs.length), pvs.length = T.length →
    (nodeCells T pvs)[k * 3]? = some (.int .i64 T[k].parent) ∧ (nodeCells T pvs)[k * 3 + 1]? = some (.string T[k].name) ∧ (nodeCells T pvs)[k * 3 + 2]? = some pvs[k]
  | n :: T, pv :: pvs, 0, _, _, _ => ⟨rfl, rfl, rfl⟩
  | n :: T, pv :: pvs, k + 1, hk, hp, h => by
    have := nodeCells_at T pvs k (by simpa using hk) (by simpa using hp) (by simpa using h)
    rw [show (k + 1) * 3 = k * 3 + 3 from by omega]
    exact this
theorem propCells_at : ∀ (ps : List PropT) (k : Nat) (hk : k < ps.length), (propCells ps)[k * 2]? = some (.string ps[k].name) ∧ (propCells ps)[k * 2 + 1]? = some (.string ps[k].value)
  | p :: ps, 0, _ => ⟨rfl, rfl⟩
  | p :: ps, k + 1, hk => by
    have := propCells_at ps k (by simpa using hk)
    rw [show (k + 1) * 2 = k * 2 + 2 from by omega]
    exact this
theorem nodeCells_snoc : ∀ (T : List NodeT) (pvs : List Value) (n : NodeT) (pv : Value), pvs.length = T.length → nodeCells (T ++ [n]) (pvs ++ [pv]) = nodeCells T pvs ++ [.int .i64 n.parent, .string n.name, pv]
  | [], [], _, _, _ => rfl
  | n :: T, p :: pvs, m, pv, h => by simp only [nodeCells, List.cons_append]; rw [nodeCells_snoc T pvs m pv (by simpa using h)]
theorem propCells_app : ∀ (a b : List PropT), propCells (a ++ b) = propCells a ++ propCells b
  | [], _ => rfl
  | p :: a, b => by simp only [propCells, List.cons_append]; rw [propCells_app a b]
theorem propCells_one : ∀ ps : List PropT, ∀ u ∈ propCells ps, u.oneCell' = true
  | [], u, h => by cases h
  | p :: ps, u, h => by
    rcases List.mem_cons.1 h with rfl | h
    · rfl
    · rcases List.mem_cons.1 h with rfl | h
      · rfl
      · exact propCells_one ps u h
theorem cells_of_at (w : World) (g o : Nat) (xs : List Value) (h : ∀ j, j < xs.length → w.cell? ⟨g, o + j, none⟩ = xs[j]?) : ∀ j u, xs[j]? = some u → w.cell? ((⟨g, o, none⟩ : Addr).add j) = some u := by
  intro j u hu
  have hadd : (⟨g, o, none⟩ : Addr).add j = ⟨g, o + j, none⟩ := by unfold Addr.add; split <;> simp_all
  rw [hadd, h j (List.getElem?_eq_some_iff.1 hu).1, hu]
def NodeOk (n : NodeT) : Prop := n.name.size ≤ 9223372036854775807 ∧ -9223372036854775808 ≤ n.parent ∧ n.parent ≤ 9223372036854775807
theorem nodeOk_mk (p : Int) (s : ByteArray) (l : List PropT) (h1 : s.size ≤ 1000) (h2 : -1 ≤ p) (h3 : p ≤ 1000) : NodeOk ⟨p, s, l⟩ := ⟨by show s.size ≤ _; omega, by show _ ≤ p; omega, by show p ≤ _; omega⟩
def PropOk (p : PropT) : Prop := p.name.size ≤ 9223372036854775807 ∧ p.value.size ≤ 9223372036854775807
/-- A row of properties that the call made is a slice of properties. -/
theorem props_row {R : Nat → Prop} {w : World} {base : Nat} {E : TypeId} {v : Value} {ps : List PropT} (h : w.ownsRow base E 2 v ps.length (propCells ps)) (hb : ∀ p ∈ ps, PropOk p) (hR : ∀ g, base ≤ g → R g) : PropsIn R w v ps := by
  rcases h.2 with ⟨rfl, h0⟩ | ⟨g, cap, cur, rfl, hb2, hh, hcap, hmax, _⟩
  · exact ⟨none, 0, by rw [h0], by omega, by omega, fun hp => by omega⟩
  · have hm : cap ≤ 9223372036854775807 := by unfold maxLen at hmax; omega
    refine ⟨some ⟨g, 0, none⟩, cap, rfl, hcap, hm, fun _ => ⟨g, 0, rfl, hR g hb2, fun k hk => ?_⟩⟩
    obtain ⟨a0, a1⟩ := propCells_at ps k hk
    have c := fun j (hj : j < ps.length * 2) => h.cellAt j hj
    obtain ⟨o1, o2⟩ := hb ps[k] (List.getElem_mem hk)
    rw [Nat.zero_add]
    exact ⟨(c _ (by omega)).trans a0, (c _ (by omega)).trans a1, o1, o2⟩
/-- A row of nodes that the call made is a slice of nodes. -/
theorem nodes_row {R : Nat → Prop} {w : World} {base : Nat} {E : TypeId} {v : Value} {T : List NodeT} {pvs : List Value} (h : w.ownsRow base E 3 v T.length (nodeCells T pvs)) (hl : pvs.length = T.length)
    (hp : ∀ k (h : k < T.length) (h2 : k < pvs.length), PropsIn R w pvs[k] T[k].props) (hb : ∀ n ∈ T, NodeOk n) (hR : ∀ g, base ≤ g → R g) : NodesIn R w v T := by
  rcases h.2 with ⟨rfl, h0⟩ | ⟨g, cap, cur, rfl, hb2, hh, hcap, hmax, _⟩
  · exact ⟨none, 0, by rw [h0], by omega, by omega, fun hp => by omega⟩
  · have hm : cap ≤ 9223372036854775807 := by unfold maxLen at hmax; omega
    refine ⟨some ⟨g, 0, none⟩, cap, rfl, hcap, hm, fun _ => ⟨g, 0, rfl, hR g hb2, fun k hk => ?_⟩⟩
    obtain ⟨a0, a1, a2⟩ := nodeCells_at T pvs k hk (by omega) hl
    have c := fun j (hj : j < T.length * 3) => h.cellAt j hj
    obtain ⟨o1, o2, o3⟩ := hb T[k] (List.getElem_mem hk)
    rw [Nat.zero_add]
    exact ⟨_, (c _ (by omega)).trans a0, (c _ (by omega)).trans a1, (c _ (by omega)).trans a2, hp k hk (by omega), o1, o2, o3⟩
/-- The cells of a slice of nodes, as an append takes them. -/
theorem NodesIn.row {R : Nat → Prop} {w : World} {a : Option Addr} {n cap : Nat} {T : List NodeT} (h : NodesIn R w (.slice a n cap) T) (h0 : 0 < T.length) :
    ∃ g o pvs, a = some ⟨g, o, none⟩ ∧ g < w.heap.size ∧ R g ∧ pvs.length = T.length ∧ (∀ k (h : k < T.length) (h2 : k < pvs.length), PropsIn R w pvs[k] T[k].props) ∧ (∀ n ∈ T, NodeOk n) ∧
      (∀ j u, (nodeCells T pvs)[j]? = some u → w.cell? ((⟨g, o, none⟩ : Addr).add j) = some u) ∧ ∀ u ∈ nodeCells T pvs, u.oneCell' = true := by
  obtain ⟨a', cap', e, h1, h2, h3⟩ := h
  cases e
  obtain ⟨g, o, rfl, hR, hc⟩ := h3 h0
  have hl : ((List.range T.length).map fun k => (w.cell? ⟨g, o + k * 3 + 2, none⟩).getD undef).length = T.length := by simp
  have hat : ∀ k (h : k < T.length) (h2 : k < ((List.range T.length).map fun k => (w.cell? ⟨g, o + k * 3 + 2, none⟩).getD undef).length), w.cell? ⟨g, o + k * 3 + 2, none⟩ = some ((List.range T.length).map fun k => (w.cell? ⟨g, o + k * 3 + 2, none⟩).getD undef)[k] ∧ PropsIn R w ((List.range T.length).map fun k => (w.cell? ⟨g, o + k * 3 + 2, none⟩).getD undef)[k] T[k].props := by
    intro k hk h2
    obtain ⟨pv, _, _, c2, hp, _⟩ := hc k hk
    simp [c2, hp]
  generalize ((List.range T.length).map fun k => (w.cell? ⟨g, o + k * 3 + 2, none⟩).getD undef) = pvs at hl hat
  have hg := World.block_lt_of_cell? w _ (hat 0 h0 (by omega)).1
  have hcells : ∀ j (hj : j < (nodeCells T pvs).length), w.cell? ⟨g, o + j, none⟩ = (nodeCells T pvs)[j]? ∧ ∃ u, (nodeCells T pvs)[j]? = some u ∧ u.oneCell' = true := by
    intro j hj
    rw [nodeCells_len T pvs hl] at hj
    have hk : j / 3 < T.length := by omega
    obtain ⟨a0, a1, a2⟩ := nodeCells_at T pvs (j / 3) hk (by omega) hl
    obtain ⟨pv, c0, c1, _, _⟩ := hc (j / 3) hk
    obtain ⟨c2, hp⟩ := hat (j / 3) hk (by omega)
    obtain ⟨pa, pc, hpe, _⟩ := hp.shape
    have : j = j / 3 * 3 ∨ j = j / 3 * 3 + 1 ∨ j = j / 3 * 3 + 2 := by omega
    rcases this with e | e | e
    · rw [e, a0]; exact ⟨c0, _, rfl, rfl⟩
    · rw [e, a1]; exact ⟨by rw [← Nat.add_assoc]; exact c1, _, rfl, rfl⟩
    · rw [e, a2]; exact ⟨by rw [← Nat.add_assoc]; exact c2, _, rfl, by rw [hpe]; rfl⟩
  refine ⟨g, o, pvs, rfl, hg, hR, hl, fun k h h2 => (hat k h h2).2, ?_, cells_of_at w g o _ (fun j hj => (hcells j hj).1), ?_⟩
  · intro n hn
    obtain ⟨k, hk, rfl⟩ := List.mem_iff_getElem.1 hn
    obtain ⟨pv, _, _, _, _, b0, b1, b2⟩ := hc k hk
    exact ⟨b0, b1, b2⟩
  · intro u hu
    obtain ⟨j, hj, rfl⟩ := List.mem_iff_getElem.1 hu
    obtain ⟨u, h1, h2⟩ := (hcells j hj).2
    rw [List.getElem?_eq_getElem hj] at h1
    cases h1; exact h2
/-- The cells of a slice of properties, as an append takes them. -/
theorem PropsIn.row {R : Nat → Prop} {w : World} {a : Option Addr} {n cap : Nat} {ps : List PropT} (h : PropsIn R w (.slice a n cap) ps) (h0 : 0 < ps.length) :
    ∃ g o, a = some ⟨g, o, none⟩ ∧ g < w.heap.size ∧ R g ∧ (∀ p ∈ ps, PropOk p) ∧ (∀ j u, (propCells ps)[j]? = some u → w.cell? ((⟨g, o, none⟩ : Addr).add j) = some u) ∧ ∀ u ∈ propCells ps, u.oneCell' = true := by
  obtain ⟨a', cap', e, h1, h2, h3⟩ := h
  cases e
  obtain ⟨g, o, rfl, hR, hc⟩ := h3 h0
  have hcells : ∀ j (hj : j < (propCells ps).length), w.cell? ⟨g, o + j, none⟩ = (propCells ps)[j]? ∧ ∃ u, (propCells ps)[j]? = some u ∧ u.oneCell' = true := by
    intro j hj
    rw [propCells_len ps] at hj
    have hk : j / 2 < ps.length := by omega
    obtain ⟨a0, a1⟩ := propCells_at ps (j / 2) hk
    obtain ⟨c0, c1, _⟩ := hc (j / 2) hk
    have : j = j / 2 * 2 ∨ j = j / 2 * 2 + 1 := by omega
    rcases this with e | e
    · rw [e, a0]; exact ⟨c0, _, rfl, rfl⟩
    · rw [e, a1]; exact ⟨by rw [← Nat.add_assoc]; exact c1, _, rfl, rfl⟩
  refine ⟨g, o, rfl, World.block_lt_of_cell? w _ (hc 0 h0).1, hR, ?_, cells_of_at w g o _ (fun j hj => (hcells j hj).1), ?_⟩
  · intro p hp
    obtain ⟨k, hk, rfl⟩ := List.mem_iff_getElem.1 hp
    obtain ⟨_, _, b0, b1⟩ := hc k hk
    exact ⟨b0, b1⟩
  · intro u hu
    obtain ⟨j, hj, rfl⟩ := List.mem_iff_getElem.1 hu
    obtain ⟨u, h1, h2⟩ := (hcells j hj).2
    rw [List.getElem?_eq_getElem hj] at h1
    cases h1; exact h2
/-- A row and a block of another type lie apart. -/
theorem owns_ne_holds {w : World} {base : Nat} {e t : TypeId} {size : Nat} {v : Value} {n b : Nat} {xs : List Value} {cs : Array Value} (h : w.ownsRow base e size v n xs) (hH : Holds w b cs t) (hne : t ≠ e) : v.ownBlock ≠ some b := by
  rcases h.2 with ⟨rfl, _⟩ | ⟨g, cap, cur, rfl, _, hh, _⟩
  · simp [Value.ownBlock]
  · intro e2
    have e3 : g = b := Option.some.inj e2
    subst e3
    have h2 : w.heap[g]? = some (.cells cs t (0, 0)) := hH
    rw [h2] at hh
    cases hh
    exact hne rfl
/-- The blocks lie in memory. -/
theorem PropsIn.bound {R : Nat → Prop} {w : World} {v : Value} {ps : List PropT} (h : PropsIn R w v ps) : PropsIn (fun g => g < w.heap.size) w v ps := by
  obtain ⟨a, cap, e, h1, h2, h3⟩ := h
  refine ⟨a, cap, e, h1, h2, fun h0 => ?_⟩
  obtain ⟨g, o, ea, _, hc⟩ := h3 h0
  exact ⟨g, o, ea, World.block_lt_of_cell? w _ (hc 0 h0).1, hc⟩
theorem NodesIn.bound {R : Nat → Prop} {w : World} {v : Value} {T : List NodeT} (h : NodesIn R w v T) : NodesIn (fun g => g < w.heap.size) w v T := by
  obtain ⟨a, cap, e, h1, h2, h3⟩ := h
  refine ⟨a, cap, e, h1, h2, fun h0 => ?_⟩
  obtain ⟨g, o, ea, _, hc⟩ := h3 h0
  refine ⟨g, o, ea, ?_, fun k hk => ?_⟩
  · obtain ⟨pv, c0, _⟩ := hc 0 h0
    exact World.block_lt_of_cell? w _ c0
  · obtain ⟨pv, c0, c1, c2, hp, r⟩ := hc k hk
    exact ⟨pv, c0, c1, c2, hp.bound, r⟩
theorem PropsIn.mono {R R' : Nat → Prop} {w : World} {v : Value} {ps : List PropT} (h : PropsIn R w v ps) (hs : ∀ g, R g → R' g) : PropsIn R' w v ps := by
  obtain ⟨a, cap, e, h1, h2, h3⟩ := h
  refine ⟨a, cap, e, h1, h2, fun h0 => ?_⟩
  obtain ⟨g, o, ea, hR, hc⟩ := h3 h0
  exact ⟨g, o, ea, hs g hR, hc⟩
/-- Kept while only new blocks, or blocks of S behind the old ones, turn. -/
theorem PropsIn.old {R S : Nat → Prop} {w w' : World} {v : Value} {ps : List PropT} (h : PropsIn R w v ps) (k : Keeps S w w') (hs : ∀ g, S g → w.heap.size ≤ g) : PropsIn (fun _ => True) w' v ps :=
  (h.bound.keeps k (fun g hg e => by have := hs g e; omega)).mono (fun _ _ => trivial)
end Go.Proofs.YtiojnbhomjkkgaaGreatDoor

namespace Go.Proofs.YtiojnbhomjkkgaaGreatDoor
open Go.RowKit

theorem rows_apart {w : World} {b1 b2 : Nat} {e1 e2 : TypeId} {s1 s2 : Nat} {v1 v2 : Value} {n1 n2 : Nat} {x1 x2 : List Value} (h1 : w.ownsRow b1 e1 s1 v1 n1 x1) (h2 : w.ownsRow b2 e2 s2 v2 n2 x2) (hne : e1 ≠ e2) : v1.ownBlock = none ∨ v1.ownBlock ≠ v2.ownBlock := by
  rcases h1.2 with ⟨rfl, _⟩ | ⟨g1, c1, cur1, rfl, _, hh1, _⟩
  · exact .inl rfl
  · rcases h2.2 with ⟨rfl, _⟩ | ⟨g2, c2, cur2, rfl, _, hh2, _⟩
    · right; simp [Value.ownBlock]
    · right
      simp only [Value.ownBlock]
      intro e
      simp at e
      subst e
      rw [hh1] at hh2
      simp at hh2
      exact hne hh2.2
theorem row_base {w : World} {base base' : Nat} {e : TypeId} {size : Nat} {v : Value} {n : Nat} {xs : List Value} (h : w.ownsRow base e size v n xs) (hb : base' ≤ base) : w.ownsRow base' e size v n xs := by
  refine ⟨h.1, ?_⟩
  rcases h.2 with hn | ⟨g, cap, cur, hv, hg, rest⟩
  · exact .inl hn
  · exact .inr ⟨g, cap, cur, hv, by omega, rest⟩
theorem row_slice {w : World} {base : Nat} {e : TypeId} {size : Nat} {v : Value} {n : Nat} {xs : List Value} (h : w.ownsRow base e size v n xs) : ∃ a cap, v = .slice a n cap := by
  rcases h.2 with ⟨rfl, rfl⟩ | ⟨g, cap, cur, rfl, _⟩
  · exact ⟨none, 0, rfl⟩
  · exact ⟨_, _, rfl⟩
theorem row_new {w w' : World} {base : Nat} {e : TypeId} {size : Nat} {v : Value} {n : Nat} {xs : List Value} (h : w.ownsRow base e size v n xs) (k : Below w.heap.size w w') : w'.ownsRow base e size v n xs := ownsRow_keeps h (Keeps.of_fresh k (fun _ => False)) (fun _ _ e => e)
theorem row_set {w : World} {base b : Nat} {e t : TypeId} {size : Nat} {v : Value} {n : Nat} {xs : List Value} {cs : Array Value} (h : w.ownsRow base e size v n xs) (hH : Holds w b cs t) (hne : t ≠ e) (o : Nat) (x : Value) : (w.setCell ⟨b, o, none⟩ x).ownsRow base e size v n xs :=
  ownsRow_keeps h (S := fun i => i = b) ((Keeps.refl (fun i => i = b) w).setCell (p := ⟨b, o, none⟩) (.inr rfl) x) (fun g e1 e2 => owns_ne_holds h hH hne (by rw [e1, e2]))
theorem Holds.newAt {w : World} {B : Nat} (hB : w.heap.size = B) (cs : Array Value) (t : TypeId) : Holds (w.alloc (.cells cs t)) B cs t := by
  subst hB; exact Holds.new w cs t

/-- A row of properties of the call's own. -/
def PropRow (w : World) (base : Nat) (v : Value) (ps : List PropT) : Prop := w.ownsRow base 69 2 v ps.length (propCells ps) ∧ ∀ p ∈ ps, PropOk p
/-- A tree of the call's own. -/
def TreeRow (w : World) (base : Nat) (v : Value) (T : List NodeT) : Prop :=
  ∃ pvs : List Value, pvs.length = T.length ∧ w.ownsRow base 66 3 v T.length (nodeCells T pvs) ∧ (∀ k (_ : k < T.length) (_ : k < pvs.length), PropRow w base pvs[k] T[k].props) ∧ ∀ n ∈ T, NodeOk n
theorem PropRow.in {w : World} {base : Nat} {v : Value} {ps : List PropT} (h : PropRow w base v ps) : PropsIn (fun g => base ≤ g) w v ps := props_row h.1 h.2 (fun _ h => h)
theorem TreeRow.in {w : World} {base : Nat} {v : Value} {T : List NodeT} (h : TreeRow w base v T) : NodesIn (fun g => base ≤ g) w v T := by
  obtain ⟨pvs, h1, h2, h3, h4⟩ := h
  exact nodes_row h2 h1 (fun k hk hk2 => (h3 k hk hk2).in) h4 (fun _ h => h)
theorem PropRow.new {w w' : World} {base : Nat} {v : Value} {ps : List PropT} (h : PropRow w base v ps) (k : Below w.heap.size w w') : PropRow w' base v ps := ⟨row_new h.1 k, h.2⟩
theorem PropRow.base {w : World} {base base' : Nat} {v : Value} {ps : List PropT} (h : PropRow w base v ps) (k : base' ≤ base) : PropRow w base' v ps := ⟨row_base h.1 k, h.2⟩
theorem TreeRow.new {w w' : World} {base : Nat} {v : Value} {T : List NodeT} (h : TreeRow w base v T) (k : Below w.heap.size w w') : TreeRow w' base v T := by
  obtain ⟨pvs, h1, h2, h3, h4⟩ := h
  exact ⟨pvs, h1, row_new h2 k, fun j hj hj2 => (h3 j hj hj2).new k, h4⟩
theorem TreeRow.base {w : World} {base base' : Nat} {v : Value} {T : List NodeT} (h : TreeRow w base v T) (k : base' ≤ base) : TreeRow w base' v T := by
  obtain ⟨pvs, h1, h2, h3, h4⟩ := h
  exact ⟨pvs, h1, row_base h2 k, fun j hj hj2 => (h3 j hj hj2).base k, h4⟩
theorem PropRow.set {w : World} {base b : Nat} {t : TypeId} {v : Value} {ps : List PropT} {cs : Array Value} (h : PropRow w base v ps) (hH : Holds w b cs t) (hne : t ≠ 69) (o : Nat) (x : Value) : PropRow (w.setCell ⟨b, o, none⟩ x) base v ps := ⟨row_set h.1 hH hne o x, h.2⟩
theorem TreeRow.set {w : World} {base b : Nat} {t : TypeId} {v : Value} {T : List NodeT} {cs : Array Value} (h : TreeRow w base v T) (hH : Holds w b cs t) (hne : t ≠ 66) (hne2 : t ≠ 69) (o : Nat) (x : Value) : TreeRow (w.setCell ⟨b, o, none⟩ x) base v T := by
  obtain ⟨pvs, h1, h2, h3, h4⟩ := h
  exact ⟨pvs, h1, row_set h2 hH hne o x, fun j hj hj2 => (h3 j hj hj2).set hH hne2 o x, h4⟩
/-- Kept while a row of another element type grows. -/
theorem PropRow.apart {w w' : World} {base b2 : Nat} {e : TypeId} {s : Nat} {v v2 : Value} {ps : List PropT} {n : Nat} {xs : List Value} (h : PropRow w base v ps) (h2 : w.ownsRow b2 e s v2 n xs) (hg : w.grownBy w' v2.ownBlock) (hne : 69 ≠ e) : PropRow w' base v ps :=
  ⟨h.1.kept hg (rows_apart h.1 h2 hne), h.2⟩
theorem row_other {w w' : World} {base b : Nat} {e t : TypeId} {size : Nat} {v : Value} {n : Nat} {xs : List Value} {cs : Array Value} (h : w.ownsRow base e size v n xs) (hH : Holds w b cs t) (hne : t ≠ e) (k : Keeps (· = b) w w') : w'.ownsRow base e size v n xs :=
  ownsRow_keeps h (S := fun i => i = b) k (fun g e1 e2 => owns_ne_holds h hH hne (by rw [e1, e2]))
theorem TreeRow.other {w w' : World} {base b : Nat} {t : TypeId} {v : Value} {T : List NodeT} {cs : Array Value} (h : TreeRow w base v T) (hH : Holds w b cs t) (hne : t ≠ 66) (hne2 : t ≠ 69) (k : Keeps (· = b) w w') : TreeRow w' base v T := by
  obtain ⟨pvs, h1, h2, h3, h4⟩ := h
  exact ⟨pvs, h1, row_other h2 hH hne k, fun j hj hj2 => ⟨row_other (h3 j hj hj2).1 hH hne2 k, (h3 j hj hj2).2⟩, h4⟩
theorem TreeRow.nil (w : World) (base : Nat) : TreeRow w base (.slice none 0 0) [] := ⟨[], rfl, World.ownsRow_nil _ _ _ _, fun k h => absurd h (Nat.not_lt_zero k), fun _ h => by cases h⟩
theorem PropRow.nil (w : World) (base : Nat) : PropRow w base (.slice none 0 0) [] := ⟨World.ownsRow_nil _ _ _ _, fun _ h => by cases h⟩
/-- One node more. -/
theorem TreeRow.more {w w' : World} {base : Nat} {v v' pv : Value} {T : List NodeT} {pvs : List Value} {n : NodeT} (h1 : pvs.length = T.length) (h2 : w.ownsRow base 66 3 v T.length (nodeCells T pvs))
    (h3 : ∀ k (_ : k < T.length) (_ : k < pvs.length), PropRow w base pvs[k] T[k].props) (h4 : ∀ n ∈ T, NodeOk n) (hp : PropRow w base pv n.props) (hn : NodeOk n)
    (hown : w'.ownsRow base 66 3 v' (T.length + 1) (nodeCells T pvs ++ [.int .i64 n.parent, .string n.name, pv])) (hg : w.grownBy w' v.ownBlock) : TreeRow w' base v' (T ++ [n]) := by
  refine ⟨pvs ++ [pv], by simp [h1], ?_, ?_, ?_⟩
  · rw [nodeCells_snoc T pvs n pv h1, List.length_append]; exact hown
  · intro k hk hk2
    by_cases e : k < T.length
    · have : PropRow w' base pvs[k] T[k].props := (h3 k e (by omega)).apart h2 hg (by decide)
      simpa [List.getElem_append_left, e, h1] using this
    · have e2 : k = T.length := by simp at hk; omega
      subst e2
      have : PropRow w' base pv n.props := hp.apart h2 hg (by decide)
      simpa [List.getElem_append_right, h1] using this
  · intro m hm
    rcases List.mem_append.1 hm with hm | hm
    · exact h4 m hm
    · simp at hm; subst hm; exact hn
theorem infoProp : (Tryz.prog.info? 69).map (fun i => (i.zero, i.size, i.bytes)) = some (some (.agg #[.string ⟨#[]⟩, .string ⟨#[]⟩]), 2, 32) := by kernel_rfl
theorem infoNd : (Tryz.prog.info? 66).map (fun i => (i.zero, i.size, i.bytes)) = some (some (.agg #[.int .i64 0, .string ⟨#[]⟩, .slice none 0 0]), 3, 48) := by kernel_rfl
/-- A block just built that is a row of the call's own. -/
theorem row_built {w : World} {B base : Nat} {e : TypeId} {size n : Nat} {cs : Array Value} (hB : w.heap.size = B) (hb : base ≤ B) (hs : cs.size = n * size) (hn : n ≤ 1000) : (w.alloc (.cells cs e)).ownsRow base e size (.slice (some ⟨B, 0, none⟩) n n) n cs.toList := by
  subst hB
  refine ⟨by simpa using hs, .inr ⟨w.heap.size, n, cs, rfl, hb, heap_alloc_new w _, Nat.le_refl _, by unfold maxLen; omega, hs, ?_⟩⟩
  rw [List.take_of_length_le (by simp [hs])]
end Go.Proofs.YtiojnbhomjkkgaaGreatDoor
