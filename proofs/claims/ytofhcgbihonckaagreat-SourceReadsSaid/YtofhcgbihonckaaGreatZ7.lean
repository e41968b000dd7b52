/- Trees in memory. | Rows of nodes and of properties, as a call makes them. | Trees that a call has made: rows of nodes, each with a row of properties. -/
import Derived.Test.YtofhcgbihonckaaGreatZ4
import Derived.Test.YtofhcgbihonckaaGreatZ1
import Derived.Laws.OwnMore
set_option linter.unusedVariables false
set_option linter.unusedSimpArgs false
set_option linter.unusedSectionVars false
namespace Go.Proofs.YtofhcgbihonckaaGreat
open Go.RowKit
def PropsIn (R : Nat → Prop) (w : World) (v : Value) (ps : List PropT) : Prop :=
  ∃ (a : Option Addr) (cap : Nat), v = .slice a ps.length cap ∧ ps.length ≤ cap ∧ cap ≤ 9223372036854775807 ∧
    (0 < ps.length → ∃ g o, a = some ⟨g, o, none⟩ ∧ R g ∧ ∀ (k : Nat) (h : k < ps.length), w.cell? ⟨g, o + k * 2, none⟩ = some (.string ps[k].name) ∧ w.cell? ⟨g, o + k * 2 + 1, none⟩ = some (.string ps[k].value) ∧
      ps[k].name.size ≤ 9223372036854775807 ∧ ps[k].value.size ≤ 9223372036854775807)
def NodesIn (R : Nat → Prop) (w : World) (v : Value) (T : List NodeT) : Prop :=
  ∃ (a : Option Addr) (cap : Nat), v = .slice a T.length cap ∧ T.length ≤ cap ∧ cap ≤ 9223372036854775807 ∧
    (0 < T.length → ∃ g o, a = some ⟨g, o, none⟩ ∧ R g ∧ ∀ (k : Nat) (h : k < T.length), ∃ pv, w.cell? ⟨g, o + k * 3, none⟩ = some (.int .i64 T[k].parent) ∧ w.cell? ⟨g, o + k * 3 + 1, none⟩ = some (.string T[k].name) ∧
      w.cell? ⟨g, o + k * 3 + 2, none⟩ = some pv ∧ PropsIn R w pv T[k].props ∧ T[k].name.size ≤ 9223372036854775807 ∧ -9223372036854775808 ≤ T[k].parent ∧ T[k].parent ≤ 9223372036854775807)
theorem PropsIn.shape {R : Nat → Prop} {w : World} {v : Value} {ps : List PropT} (h : PropsIn R w v ps) : ∃ a cap, v = .slice a ps.length cap ∧ ps.length ≤ cap ∧ cap ≤ 9223372036854775807 := by
  obtain ⟨a, cap, e, h1, h2, _⟩ := h; exact ⟨a, cap, e, h1, h2⟩
theorem NodesIn.shape {R : Nat → Prop} {w : World} {v : Value} {T : List NodeT} (h : NodesIn R w v T) : ∃ a cap, v = .slice a T.length cap ∧ T.length ≤ cap ∧ cap ≤ 9223372036854775807 := by
  obtain ⟨a, cap, e, h1, h2, _⟩ := h; exact ⟨a, cap, e, h1, h2⟩
theorem PropsIn.at {R : Nat → Prop} {w : World} {a : Option Addr} {n cap : Nat} {ps : List PropT} (h : PropsIn R w (.slice a n cap) ps) (k : Nat) (hk : k < ps.length) :
    ∃ g o, a = some ⟨g, o, none⟩ ∧ g < w.heap.size ∧ w.cell? ⟨g, o + k * 2, none⟩ = some (.string ps[k].name) ∧ w.cell? ⟨g, o + k * 2 + 1, none⟩ = some (.string ps[k].value) ∧ ps[k].name.size ≤ 9223372036854775807 ∧ ps[k].value.size ≤ 9223372036854775807 := by
  obtain ⟨a', cap', e, h1, h2, h3⟩ := h
  cases e
  obtain ⟨g, o, rfl, _, hc⟩ := h3 (by omega)
  obtain ⟨c0, c1, b0, b1⟩ := hc k hk
  exact ⟨g, o, rfl, World.block_lt_of_cell? w _ c0, c0, c1, b0, b1⟩
theorem NodesIn.at {R : Nat → Prop} {w : World} {a : Option Addr} {n cap : Nat} {T : List NodeT} (h : NodesIn R w (.slice a n cap) T) (k : Nat) (hk : k < T.length) :
    ∃ g o pa pc, a = some ⟨g, o, none⟩ ∧ g < w.heap.size ∧ w.cell? ⟨g, o + k * 3, none⟩ = some (.int .i64 T[k].parent) ∧ w.cell? ⟨g, o + k * 3 + 1, none⟩ = some (.string T[k].name) ∧
      w.cell? ⟨g, o + k * 3 + 2, none⟩ = some (.slice pa T[k].props.length pc) ∧ PropsIn R w (.slice pa T[k].props.length pc) T[k].props ∧ T[k].props.length ≤ pc ∧ pc ≤ 9223372036854775807 ∧
      T[k].name.size ≤ 9223372036854775807 ∧ -9223372036854775808 ≤ T[k].parent ∧ T[k].parent ≤ 9223372036854775807 := by
  obtain ⟨a', cap', e, h1, h2, h3⟩ := h
  cases e
  obtain ⟨g, o, rfl, _, hc⟩ := h3 (by omega)
  obtain ⟨pv, c0, c1, c2, hp, b0, b1, b2⟩ := hc k hk
  obtain ⟨pa, pc, rfl, p1, p2⟩ := hp.shape
  exact ⟨g, o, pa, pc, rfl, World.block_lt_of_cell? w _ c0, c0, c1, c2, hp, p1, p2, b0, b1, b2⟩
theorem PropsIn.keeps {R S : Nat → Prop} {w w' : World} {v : Value} {ps : List PropT} (h : PropsIn R w v ps) (k : Keeps S w w') (hs : ∀ g, R g → ¬ S g) : PropsIn R w' v ps := by
  obtain ⟨a, cap, e, h1, h2, h3⟩ := h
  refine ⟨a, cap, e, h1, h2, fun h0 => ?_⟩
  obtain ⟨g, o, ea, hR, hc⟩ := h3 h0
  refine ⟨g, o, ea, hR, fun j hj => ?_⟩
  obtain ⟨c0, c1, b0, b1⟩ := hc j hj
  have hg := World.block_lt_of_cell? w _ c0
  exact ⟨(k.cell (p := ⟨g, o + j * 2, none⟩) hg (hs g hR)).trans c0, (k.cell (p := ⟨g, o + j * 2 + 1, none⟩) hg (hs g hR)).trans c1, b0, b1⟩
theorem NodesIn.keeps {R S : Nat → Prop} {w w' : World} {v : Value} {T : List NodeT} (h : NodesIn R w v T) (k : Keeps S w w') (hs : ∀ g, R g → ¬ S g) : NodesIn R w' v T := by
  obtain ⟨a, cap, e, h1, h2, h3⟩ := h
  refine ⟨a, cap, e, h1, h2, fun h0 => ?_⟩
  obtain ⟨g, o, ea, hR, hc⟩ := h3 h0
  refine ⟨g, o, ea, hR, fun j hj => ?_⟩
  obtain ⟨pv, c0, c1, c2, hp, b0, b1, b2⟩ := hc j hj
  have hg := World.block_lt_of_cell? w _ c0
  exact ⟨pv, (k.cell (p := ⟨g, o + j * 3, none⟩) hg (hs g hR)).trans c0, (k.cell (p := ⟨g, o + j * 3 + 1, none⟩) hg (hs g hR)).trans c1, (k.cell (p := ⟨g, o + j * 3 + 2, none⟩) hg (hs g hR)).trans c2, hp.keeps k hs, b0, b1, b2⟩
theorem NodesIn.new {R : Nat → Prop} {w w' : World} {v : Value} {T : List NodeT} (h : NodesIn R w v T) (b : Below w.heap.size w w') : NodesIn R w' v T := h.keeps (Keeps.of_fresh b (fun _ => False)) (fun _ _ e => e)
theorem PropsIn.new {R : Nat → Prop} {w w' : World} {v : Value} {ps : List PropT} (h : PropsIn R w v ps) (b : Below w.heap.size w w') : PropsIn R w' v ps := h.keeps (Keeps.of_fresh b (fun _ => False)) (fun _ _ e => e)
theorem NodesIn.mono {R R' : Nat → Prop} {w : World} {v : Value} {T : List NodeT} (h : NodesIn R w v T) (hs : ∀ g, R g → R' g) : NodesIn R' w v T := by
  obtain ⟨a, cap, e, h1, h2, h3⟩ := h
  refine ⟨a, cap, e, h1, h2, fun h0 => ?_⟩
  obtain ⟨g, o, ea, hR, hc⟩ := h3 h0
  refine ⟨g, o, ea, hs g hR, fun j hj => ?_⟩
  obtain ⟨pv, c0, c1, c2, hp, r⟩ := hc j hj
  refine ⟨pv, c0, c1, c2, ?_, r⟩
  obtain ⟨a, cap, e, h1, h2, h3⟩ := hp
  refine ⟨a, cap, e, h1, h2, fun h0 => ?_⟩
  obtain ⟨g, o, ea, hR, hc⟩ := h3 h0
  exact ⟨g, o, ea, hs g hR, hc⟩
end Go.Proofs.YtofhcgbihonckaaGreat
namespace Go.Proofs.YtofhcgbihonckaaGreat
open Go.RowKit
def nodeCells : List NodeT → List Value → List Value
  | n :: T, pv :: pvs => .int .i64 n.parent :: .string n.name :: pv :: nodeCells T pvs
  | _, _ => []
def propCells : List PropT → List Value
  | [] => []
  | p :: ps => .string p.name :: .string p.value :: propCells ps
theorem nodeCells_len : ∀ (T : List NodeT) (pvs : List Value), pvs.length = T.length → (nodeCells T pvs).length = T.length * 3
  | [], [], _ => rfl
  | n :: T, pv :: pvs, h => by simp only [nodeCells, List.length_cons]; rw [nodeCells_len T pvs (by simpa using h)]; omega
theorem propCells_len : ∀ ps : List PropT, (propCells ps).length = ps.length * 2
  | [] => rfl
  | p :: ps => by simp only [propCells, List.length_cons]; rw [propCells_len ps]; omega
theorem nodeCells_at : ∀ (T : List NodeT) (pvs : List Value) (k : Nat) (hk : k < T.length) (hp : k < pvs.length), pvs.length = T.length →
    (nodeCells T pvs)[k * 3]? = some (.int .i64 T[k].parent) ∧ (nodeCells T pvs)[k * 3 + 1]? = some (.string T[k].name) ∧ (nodeCells T pvs)[k * 3 + 2]? = some pvs[k]
  | n :: T, pv :: pvs, 0, _, _, _ => ⟨rfl, rfl, rfl⟩
  | n :: T, pv :: pvs, k + 1, hk, hp, h => by
    have := nodeCells_at T pvs k (by simpa using hk) (by simpa using hp) (by simpa using h)
    rw [show (k + 1) * 3 = k * 3 + 3 from by omega]
    exact this
theorem propCells_at : ∀ (ps : List PropT) (k : Nat) (hk : k < ps.length), (propCells ps)[k * 2]? = some (.string ps[k].name) ∧ (propCells ps)[k * 2 + 1]? = some (.string ps[k].value)
  | p :: ps, 0, _ => ⟨rfl, rfl⟩
  | p :: ps, k + 1, hk => by
    have := propCells_at ps k (by simpa using hk)
    rw [show (k + 1) * 2 = k * 2 + 2 from by omega]
    exact this
theorem cells_of_at (w : World) (g o : Nat) (xs : List Value) (h : ∀ j, j < xs.length → w.cell? ⟨g, o + j, none⟩ = xs[j]?) : ∀ j u, xs[j]? = some u → w.cell? ((⟨g, o, none⟩ : Addr).add j) = some u := by
  intro j u hu
  have hadd : (⟨g, o, none⟩ : Addr).add j = ⟨g, o + j, none⟩ := by unfold Addr.add; split <;> simp_all
  rw [hadd, h j (List.getElem?_eq_some_iff.1 hu).1, hu]
def NodeOk (n : NodeT) : Prop := n.name.size ≤ 9223372036854775807 ∧ -9223372036854775808 ≤ n.parent ∧ n.parent ≤ 9223372036854775807
def PropOk (p : PropT) : Prop := p.name.size ≤ 9223372036854775807 ∧ p.value.size ≤ 9223372036854775807
theorem NodesIn.row {R : Nat → Prop} {w : World} {a : Option Addr} {n cap : Nat} {T : List NodeT} (h : NodesIn R w (.slice a n cap) T) (h0 : 0 < T.length) :
    ∃ g o pvs, a = some ⟨g, o, none⟩ ∧ g < w.heap.size ∧ R g ∧ pvs.length = T.length ∧ (∀ k (h : k < T.length) (h2 : k < pvs.length), PropsIn R w pvs[k] T[k].props) ∧ (∀ n ∈ T, NodeOk n) ∧
      (∀ j u, (nodeCells T pvs)[j]? = some u → w.cell? ((⟨g, o, none⟩ : Addr).add j) = some u) ∧ ∀ u ∈ nodeCells T pvs, u.oneCell' = true := by
  obtain ⟨a', cap', e, h1, h2, h3⟩ := h
  cases e
  obtain ⟨g, o, rfl, hR, hc⟩ := h3 h0
  have hl : ((List.range T.length).map fun k => (w.cell? ⟨g, o + k * 3 + 2, none⟩).getD undef).length = T.length := by simp
  have hat : ∀ k (h : k < T.length) (h2 : k < ((List.range T.length).map fun k => (w.cell? ⟨g, o + k * 3 + 2, none⟩).getD undef).length), w.cell? ⟨g, o + k * 3 + 2, none⟩ = some ((List.range T.length).map fun k => (w.cell? ⟨g, o + k * 3 + 2, none⟩).getD undef)[k] ∧ PropsIn R w ((List.range T.length).map fun k => (w.cell? ⟨g, o + k * 3 + 2, none⟩).getD undef)[k] T[k].props := by
    intro k hk h2
    obtain ⟨pv, _, _, c2, hp, _⟩ := hc k hk
    simp [c2, hp]
  generalize ((List.range T.length).map fun k => (w.cell? ⟨g, o + k * 3 + 2, none⟩).getD undef) = pvs at hl hat
  have hg := World.block_lt_of_cell? w _ (hat 0 h0 (by omega)).1
  have hcells : ∀ j (hj : j < (nodeCells T pvs).length), w.cell? ⟨g, o + j, none⟩ = (nodeCells T pvs)[j]? ∧ ∃ u, (nodeCells T pvs)[j]? = some u ∧ u.oneCell' = true := by
    intro j hj
    rw [nodeCells_len T pvs hl] at hj
    have hk : j / 3 < T.length := by omega
    obtain ⟨a0, a1, a2⟩ := nodeCells_at T pvs (j / 3) hk (by omega) hl
    obtain ⟨pv, c0, c1, _, _⟩ := hc (j / 3) hk
    obtain ⟨c2, hp⟩ := hat (j / 3) hk (by omega)
    obtain ⟨pa, pc, hpe, _⟩ := hp.shape
    have : j = j / 3 * 3 ∨ j = j / 3 * 3 + 1 ∨ j = j / 3 * 3 + 2 := by omega
    rcases this with e | e | e
    · rw [e, a0]; exact ⟨c0, _, rfl, rfl⟩
    · rw [e, a1]; exact ⟨by rw [← Nat.add_assoc]; exact c1, _, rfl, rfl⟩
    · rw [e, a2]; exact ⟨by rw [← Nat.add_assoc]; exact c2, _, rfl, by rw [hpe]; rfl⟩
  refine ⟨g, o, pvs, rfl, hg, hR, hl, fun k h h2 => (hat k h h2).2, ?_, cells_of_at w g o _ (fun j hj => (hcells j hj).1), ?_⟩
  · intro n hn
    obtain ⟨k, hk, rfl⟩ := List.mem_iff_getElem.1 hn
    obtain ⟨pv, _, _, _, _, b0, b1, b2⟩ := hc k hk
    exact ⟨b0, b1, b2⟩
  · intro u hu
    obtain ⟨j, hj, rfl⟩ := List.mem_iff_getElem.1 hu
    obtain ⟨u, h1, h2⟩ := (hcells j hj).2
    rw [List.getElem?_eq_getElem hj] at h1
    cases h1; exact h2
theorem PropsIn.row {R : Nat → Prop} {w : World} {a : Option Addr} {n cap : Nat} {ps : List PropT} (h : PropsIn R w (.slice a n cap) ps) (h0 : 0 < ps.length) :
    ∃ g o, a = some ⟨g, o, none⟩ ∧ g < w.heap.size ∧ R g ∧ (∀ p ∈ ps, PropOk p) ∧ (∀ j u, (propCells ps)[j]? = some u → w.cell? ((⟨g, o, none⟩ : Addr).add j) = some u) ∧ ∀ u ∈ propCells ps, u.oneCell' = true := by
  obtain ⟨a', cap', e, h1, h2, h3⟩ := h
  cases e
  obtain ⟨g, o, rfl, hR, hc⟩ := h3 h0
  have hcells : ∀ j (hj : j < (propCells ps).length), w.cell? ⟨g, o + j, none⟩ = (propCells ps)[j]? ∧ ∃ u, (propCells ps)[j]? = some u ∧ u.oneCell' = true := by
    intro j hj
    rw [propCells_len ps] at hj
    have hk : j / 2 < ps.length := by omega
    obtain ⟨a0, a1⟩ := propCells_at ps (j / 2) hk
    obtain ⟨c0, c1, _⟩ := hc (j / 2) hk
    have : j = j / 2 * 2 ∨ j = j / 2 * 2 + 1 := by omega
    rcases this with e | e
    · rw [e, a0]; exact ⟨c0, _, rfl, rfl⟩
    · rw [e, a1]; exact ⟨by rw [← Nat.add_assoc]; exact c1, _, rfl, rfl⟩
  refine ⟨g, o, rfl, World.block_lt_of_cell? w _ (hc 0 h0).1, hR, ?_, cells_of_at w g o _ (fun j hj => (hcells j hj).1), ?_⟩
  · intro p hp
    obtain ⟨k, hk, rfl⟩ := List.mem_iff_getElem.1 hp
    obtain ⟨_, _, b0, b1⟩ := hc k hk
    exact ⟨b0, b1⟩
  · intro u hu
    obtain ⟨j, hj, rfl⟩ := List.mem_iff_getElem.1 hu
    obtain ⟨u, h1, h2⟩ := (hcells j hj).2
    rw [List.getElem?_eq_getElem hj] at h1
    cases h1; exact h2
theorem PropsIn.bound {R : Nat → Prop} {w : World} {v : Value} {ps : List PropT} (h : PropsIn R w v ps) : PropsIn (fun g => g < w.heap.size) w v ps := by
  obtain ⟨a, cap, e, h1, h2, h3⟩ := h
  refine ⟨a, cap, e, h1, h2, fun h0 => ?_⟩
  obtain ⟨g, o, ea, _, hc⟩ := h3 h0
  exact ⟨g, o, ea, World.block_lt_of_cell? w _ (hc 0 h0).1, hc⟩
theorem NodesIn.bound {R : Nat → Prop} {w : World} {v : Value} {T : List NodeT} (h : NodesIn R w v T) : NodesIn (fun g => g < w.heap.size) w v T := by
  obtain ⟨a, cap, e, h1, h2, h3⟩ := h
  refine ⟨a, cap, e, h1, h2, fun h0 => ?_⟩
  obtain ⟨g, o, ea, _, hc⟩ := h3 h0
  refine ⟨g, o, ea, ?_, fun k hk => ?_⟩
  · obtain ⟨pv, c0, _⟩ := hc 0 h0
    exact World.block_lt_of_cell? w _ c0
  · obtain ⟨pv, c0, c1, c2, hp, r⟩ := hc k hk
    exact ⟨pv, c0, c1, c2, hp.bound, r⟩
theorem PropsIn.mono {R R' : Nat → Prop} {w : World} {v : Value} {ps : List PropT} (h : PropsIn R w v ps) (hs : ∀ g, R g → R' g) : PropsIn R' w v ps := by
  obtain ⟨a, cap, e, h1, h2, h3⟩ := h
  refine ⟨a, cap, e, h1, h2, fun h0 => ?_⟩
  obtain ⟨g, o, ea, hR, hc⟩ := h3 h0
  exact ⟨g, o, ea, hs g hR, hc⟩
theorem PropsIn.old {R S : Nat → Prop} {w w' : World} {v : Value} {ps : List PropT} (h : PropsIn R w v ps) (k : Keeps S w w') (hs : ∀ g, S g → w.heap.size ≤ g) : PropsIn (fun _ => True) w' v ps :=
  (h.bound.keeps k (fun g hg e => by have := hs g e; omega)).mono (fun _ _ => trivial)
end Go.Proofs.YtofhcgbihonckaaGreat
namespace Go.Proofs.YtofhcgbihonckaaGreat
open Go.RowKit
theorem row_base {w : World} {base base' : Nat} {e : TypeId} {size : Nat} {v : Value} {n : Nat} {xs : List Value} (h : w.ownsRow base e size v n xs) (hb : base' ≤ base) : w.ownsRow base' e size v n xs := by
  refine ⟨h.1, ?_⟩
  rcases h.2 with hn | ⟨g, cap, cur, hv, hg, rest⟩
  · exact .inl hn
  · exact .inr ⟨g, cap, cur, hv, by omega, rest⟩
theorem row_slice {w : World} {base : Nat} {e : TypeId} {size : Nat} {v : Value} {n : Nat} {xs : List Value} (h : w.ownsRow base e size v n xs) : ∃ a cap, v = .slice a n cap := by
  rcases h.2 with ⟨rfl, rfl⟩ | ⟨g, cap, cur, rfl, _⟩
  · exact ⟨none, 0, rfl⟩
  · exact ⟨_, _, rfl⟩
theorem Holds.newAt {w : World} {B : Nat} (hB : w.heap.size = B) (cs : Array Value) (t : TypeId) : Holds (w.alloc (.cells cs t)) B cs t := by
  subst hB; exact Holds.new w cs t
end Go.Proofs.YtofhcgbihonckaaGreat
