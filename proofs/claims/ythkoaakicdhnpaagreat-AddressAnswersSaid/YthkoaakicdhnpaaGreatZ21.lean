/- A tree that came in as an argument lies in memory as some plain tree. -/
import Derived.Test.YthkoaakicdhnpaaGreatZ3
import Derived.Lib.SmallJoins
import Derived.Deep.Slices
import Derived.Deep.Fields

namespace Go.Proofs.YthkoaakicdhnpaaGreat
open Go.RowKit Go.Joins Go.ChangeShapes Go.WideShapes Go.Deep

theorem rawS : Tryz.prog.cellsOf 9 = 1 := by kernel_rfl
theorem rawI : Tryz.prog.cellsOf 3 = 1 := by kernel_rfl
theorem rawPs : Tryz.prog.cellsOf 61 = 1 := by kernel_rfl
theorem rawNs : Tryz.prog.cellsOf 23 = 1 := by kernel_rfl
theorem rawP : Tryz.prog.cellsOf 65 = 2 := by kernel_rfl
theorem rawN : Tryz.prog.cellsOf 63 = 3 := by kernel_rfl
theorem rawT : Tryz.prog.cellsOf 25 = 1 := by kernel_rfl
section
variable {H : Type} {enc : TypeId × Value → H} {w : World} {base n : Nat} {spare : Nat → Bool} {held : Bool} {y : DataW H × List MemPlace}
theorem raw_two {α : Type} {cs : List α} (h : cs.length = 2) : ∃ a b, cs = [a, b] := by
  match cs, h with
  | [a, b], _ => exact ⟨a, b, rfl⟩
theorem raw_three {α : Type} {cs : List α} (h : cs.length = 3) : ∃ a b c, cs = [a, b, c] := by
  match cs, h with
  | [a, b, c], _ => exact ⟨a, b, c, rfl⟩
theorem raw_one {α : Type} {cs : List α} (h : cs.length = 1) : ∃ a, cs = [a] := by
  match cs, h with
  | [a], _ => exact ⟨a, rfl⟩
set_option maxRecDepth 100000 in
theorem prop_read {cs : List Value} {x : DataW H × List MemPlace} (h : DataW.trod enc Tryz.prog w base spare held n 65 cs = some x) : ∃ p : PropT, cs = [.string p.name, .string p.value] ∧ p.name.size ≤ 9223372036854775807 ∧ p.value.size ≤ 9223372036854775807 := by
  obtain ⟨ys, m, _, _, hl, hyl, hf⟩ := DataW.trod_struct Tryz.underlying65 h
  rw [rawP] at hl
  obtain ⟨v0, v1, rfl⟩ := raw_two hl
  obtain ⟨y0, y1, rfl⟩ := raw_two hyl
  have h0 : DataW.trod enc Tryz.prog w base spare held m 9 (([v0, v1].drop 0).take (Tryz.prog.cellsOf 9)) = some y0 := hf 0 _ rfl
  have h1 : DataW.trod enc Tryz.prog w base spare held m 9 (([v0, v1].drop 1).take (Tryz.prog.cellsOf 9)) = some y1 := hf 1 _ rfl
  rw [rawS] at h0 h1
  obtain ⟨s, e0, -, b0⟩ := DataW.trod_string Tryz.underlying9 h0
  obtain ⟨t, e1, -, b1⟩ := DataW.trod_string Tryz.underlying9 h1
  simp at e0 e1
  unfold maxLen at b0 b1
  exact ⟨⟨s, t⟩, by rw [e0, e1], by show s.size ≤ _; omega, by show t.size ≤ _; omega⟩
theorem props_read {v : Value} (h : DataW.trod enc Tryz.prog w base spare held n 61 [v] = some y) : ∃ ps, PropsIn (fun g => g < w.heap.size) w v ps := by
  rcases open_slice Tryz.underlying61 h with ⟨hcs, _⟩ | ⟨a, len, cap, m, k, D, Pl, hcs, hb, hl, hm, hmm, hx, hi⟩
  · simp at hcs
    exact ⟨[], none, 0, hcs, by simp, by omega, fun h => absurd h (Nat.lt_irrefl _)⟩
  · simp at hcs
    have hlm : len ≤ m := by rw [hmm]; split <;> omega
    have key : ∀ i : Fin len, ∃ p : PropT, w.cell? (a.add (i.1 * 2)) = some (.string p.name) ∧ w.cell? (a.add (i.1 * 2 + 1)) = some (.string p.value) ∧ p.name.size ≤ 9223372036854775807 ∧ p.value.size ≤ 9223372036854775807 := by
      intro i
      obtain ⟨cs', hc, ht'⟩ := hi i.1 (by have := i.2; omega)
      rw [rawP] at hc
      obtain ⟨p, rfl, b0, b1⟩ := prop_read ht'
      obtain ⟨_, hcl, hat⟩ := World.cells?_some hc
      have c0 := hat 0 (by omega)
      have c1 := hat 1 (by omega)
      rw [Go.Deep.add_add] at c0 c1
      exact ⟨p, c0, c1, b0, b1⟩
    obtain ⟨f, hf⟩ := Classical.skolem.1 key
    refine ⟨List.ofFn f, some a, cap, by rw [hcs, List.length_ofFn], by rw [List.length_ofFn]; exact hl, by unfold maxLen at hm; omega, fun h0 => ?_⟩
    rw [List.length_ofFn] at h0
    obtain ⟨g, o, sp⟩ := a
    have c0 := (hf ⟨0, h0⟩).1
    have hsp : sp = none := by simpa [Addr.add] using World.cell?_spot c0
    subst hsp
    refine ⟨g, o, rfl, ?_, fun j hj => ?_⟩
    · rw [Addr.add_lit] at c0; exact World.block_lt_of_cell? w _ c0
    · have hj' : j < len := by rw [List.length_ofFn] at hj; exact hj
      obtain ⟨d0, d1, b0, b1⟩ := hf ⟨j, hj'⟩
      rw [Addr.add_lit] at d0 d1
      rw [List.getElem_ofFn]
      exact ⟨d0, by rw [Nat.add_assoc]; exact d1, b0, b1⟩
set_option maxRecDepth 100000 in
theorem node_read {cs : List Value} {x : DataW H × List MemPlace} (h : DataW.trod enc Tryz.prog w base spare held n 63 cs = some x) : ∃ (nd : NodeT) (pv : Value), cs = [.int .i64 nd.parent, .string nd.name, pv] ∧ PropsIn (fun g => g < w.heap.size) w pv nd.props ∧ nd.name.size ≤ 9223372036854775807 ∧ -9223372036854775808 ≤ nd.parent ∧ nd.parent ≤ 9223372036854775807 := by
  obtain ⟨ys, m, _, _, hl, hyl, hf⟩ := DataW.trod_struct Tryz.underlying63 h
  rw [rawN] at hl
  obtain ⟨v0, v1, v2, rfl⟩ := raw_three hl
  obtain ⟨y0, y1, y2, rfl⟩ := raw_three hyl
  have h0 : DataW.trod enc Tryz.prog w base spare held m 3 (([v0, v1, v2].drop 0).take (Tryz.prog.cellsOf 3)) = some y0 := hf 0 _ rfl
  have h1 : DataW.trod enc Tryz.prog w base spare held m 9 (([v0, v1, v2].drop 1).take (Tryz.prog.cellsOf 9)) = some y1 := hf 1 _ rfl
  have h2 : DataW.trod enc Tryz.prog w base spare held m 61 (([v0, v1, v2].drop 2).take (Tryz.prog.cellsOf 61)) = some y2 := hf 2 _ rfl
  rw [rawI] at h0
  rw [rawS] at h1
  rw [rawPs] at h2
  obtain ⟨q, e0, -, b0⟩ := DataW.trod_int Tryz.underlying3 h0
  obtain ⟨s, e1, -, b1⟩ := DataW.trod_string Tryz.underlying9 h1
  obtain ⟨ps, hp⟩ := props_read h2
  simp at e0 e1
  unfold maxLen at b1
  have hq : -9223372036854775808 ≤ q ∧ q ≤ 9223372036854775807 := by
    simp [Lit.wf, IntKind.min, IntKind.max, IntKind.signed, IntKind.bits] at b0
    exact b0
  exact ⟨⟨q, s, ps⟩, v2, by rw [e0, e1], hp, by show s.size ≤ _; omega, hq.1, hq.2⟩
theorem nodes_read {v : Value} (h : DataW.trod enc Tryz.prog w base spare held n 23 [v] = some y) : ∃ T, NodesIn (fun g => g < w.heap.size) w v T := by
  rcases open_slice Tryz.underlying23 h with ⟨hcs, _⟩ | ⟨a, len, cap, m, k, D, Pl, hcs, hb, hl, hm, hmm, hx, hi⟩
  · simp at hcs
    exact ⟨[], none, 0, hcs, by simp, by omega, fun h => absurd h (Nat.lt_irrefl _)⟩
  · simp at hcs
    have hlm : len ≤ m := by rw [hmm]; split <;> omega
    have key : ∀ i : Fin len, ∃ nd : NodeT, ∃ pv, w.cell? (a.add (i.1 * 3)) = some (.int .i64 nd.parent) ∧ w.cell? (a.add (i.1 * 3 + 1)) = some (.string nd.name) ∧ w.cell? (a.add (i.1 * 3 + 2)) = some pv ∧ PropsIn (fun g => g < w.heap.size) w pv nd.props ∧ nd.name.size ≤ 9223372036854775807 ∧ -9223372036854775808 ≤ nd.parent ∧ nd.parent ≤ 9223372036854775807 := by
      intro i
      obtain ⟨cs', hc, ht'⟩ := hi i.1 (by have := i.2; omega)
      rw [rawN] at hc
      obtain ⟨nd, pv, rfl, r⟩ := node_read ht'
      obtain ⟨_, hcl, hat⟩ := World.cells?_some hc
      have c0 := hat 0 (by omega)
      have c1 := hat 1 (by omega)
      have c2 := hat 2 (by omega)
      rw [Go.Deep.add_add] at c0 c1 c2
      exact ⟨nd, pv, c0, c1, c2, r⟩
    obtain ⟨f, hf⟩ := Classical.skolem.1 key
    refine ⟨List.ofFn f, some a, cap, by rw [hcs, List.length_ofFn], by rw [List.length_ofFn]; exact hl, by unfold maxLen at hm; omega, fun h0 => ?_⟩
    rw [List.length_ofFn] at h0
    obtain ⟨g, o, sp⟩ := a
    obtain ⟨_, c0, _⟩ := hf ⟨0, h0⟩
    have hsp : sp = none := by simpa [Addr.add] using World.cell?_spot c0
    subst hsp
    refine ⟨g, o, rfl, ?_, fun j hj => ?_⟩
    · rw [Addr.add_lit] at c0; exact World.block_lt_of_cell? w _ c0
    · have hj' : j < len := by rw [List.length_ofFn] at hj; exact hj
      obtain ⟨pv, d0, d1, d2, r⟩ := hf ⟨j, hj'⟩
      rw [Addr.add_lit] at d0 d1 d2
      rw [List.getElem_ofFn]
      exact ⟨pv, d0, by rw [Nat.add_assoc]; exact d1, by rw [Nat.add_assoc]; exact d2, r⟩
set_option maxRecDepth 100000 in
/-- A tree that came in. -/
theorem tree_read {r : Reach} {b0 : Nat} {v : Value} {d : DataW H} {p : List MemPlace} (hv : Value.okWide Tryz.prog w r b0 25 v) (h : DataW.Trod enc Tryz.prog w base spare held 25 v d p) :
    ∃ a cap T, v = .agg #[.slice a (List.length T) cap] ∧ NodesIn (fun g => g < w.heap.size) w (.slice a (List.length T) cap) T := by
  obtain ⟨cs, rfl, hsz⟩ := okWide_struct Tryz.underlying25 hv
  rw [rawT] at hsz
  obtain ⟨l⟩ := cs
  obtain ⟨v0, rfl⟩ := raw_one (cs := l) hsz
  obtain ⟨fuel, hf⟩ := h
  obtain ⟨ys, m, _, _, hl, hyl, hf⟩ := DataW.trod_struct Tryz.underlying25 hf
  obtain ⟨y0, rfl⟩ := raw_one hyl
  have h0 : DataW.trod enc Tryz.prog w base spare held m 23 (([v0].drop 0).take (Tryz.prog.cellsOf 23)) = some y0 := by have := hf 0 _ rfl; simpa [Value.cells] using this
  rw [rawNs] at h0
  obtain ⟨T, hT⟩ := nodes_read (v := v0) (by simpa [Value.cells] using h0)
  obtain ⟨a, cap, rfl, _, _⟩ := hT.shape
  exact ⟨a, cap, T, rfl, hT⟩
end
end Go.Proofs.YthkoaakicdhnpaaGreat
