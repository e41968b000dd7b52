/- Definitions that came in as an argument lie in memory as some plain definitions. -/
import Derived.Test.YtofhcgbihonckaaGreatZ19
import Derived.Lib.SmallJoins
import Derived.Deep.Slices
import Derived.Deep.Fields
set_option linter.unusedVariables false
set_option linter.unusedSimpArgs false
set_option linter.unusedSectionVars false
namespace Go.Proofs.YtofhcgbihonckaaGreat
open Go.RowKit Go.Joins Go.ChangeShapes Go.WideShapes Go.Deep
theorem rawSd : Tryz.prog.cellsOf 9 = 1 := by kernel_rfl
theorem rawId : Tryz.prog.cellsOf 3 = 1 := by kernel_rfl
theorem rawCs : Tryz.prog.cellsOf 73 = 1 := by kernel_rfl
theorem rawQs : Tryz.prog.cellsOf 32 = 1 := by kernel_rfl
theorem rawC : Tryz.prog.cellsOf 72 = 2 := by kernel_rfl
theorem rawQ : Tryz.prog.cellsOf 75 = 3 := by kernel_rfl
theorem rawDf : Tryz.prog.cellsOf 34 = 7 := by kernel_rfl
theorem rawPo : Tryz.prog.cellsOf 27 = 3 := by kernel_rfl
section
variable {H : Type} {enc : TypeId × Value → H} {w : World} {base n : Nat} {spare : Nat → Bool} {held : Bool} {y : DataW H × List MemPlace}
theorem raw_2 {α : Type} {cs : List α} (h : cs.length = 2) : ∃ a b, cs = [a, b] := by
  match cs, h with
  | [a, b], _ => exact ⟨a, b, rfl⟩
theorem raw_3 {α : Type} {cs : List α} (h : cs.length = 3) : ∃ a b c, cs = [a, b, c] := by
  match cs, h with
  | [a, b, c], _ => exact ⟨a, b, c, rfl⟩
theorem raw_five {α : Type} {cs : List α} (h : cs.length = 5) : ∃ a b c d e, cs = [a, b, c, d, e] := by
  match cs, h with
  | [a, b, c, d, e], _ => exact ⟨a, b, c, d, e, rfl⟩
theorem raw_seven {α : Type} {cs : List α} (h : cs.length = 7) : ∃ a b c d e f g, cs = [a, b, c, d, e, f, g] := by
  match cs, h with
  | [a, b, c, d, e, f, g], _ => exact ⟨a, b, c, d, e, f, g, rfl⟩
set_option maxRecDepth 100000 in
theorem cell_read {cs : List Value} {x : DataW H × List MemPlace} (h : DataW.trod enc Tryz.prog w base spare held n 72 cs = some x) : ∃ c : CellT, cs = [.int .i64 c.value, .string c.label] := by
  obtain ⟨ys, m, _, _, hl, hyl, hf⟩ := DataW.trod_struct Tryz.underlying72 h
  rw [rawC] at hl
  obtain ⟨v0, v1, rfl⟩ := raw_2 hl
  obtain ⟨y0, y1, rfl⟩ := raw_2 hyl
  have h0 : DataW.trod enc Tryz.prog w base spare held m 3 (([v0, v1].drop 0).take (Tryz.prog.cellsOf 3)) = some y0 := hf 0 _ rfl
  have h1 : DataW.trod enc Tryz.prog w base spare held m 9 (([v0, v1].drop 1).take (Tryz.prog.cellsOf 9)) = some y1 := hf 1 _ rfl
  rw [rawId] at h0
  rw [rawSd] at h1
  obtain ⟨q, e0, -, b0⟩ := DataW.trod_int Tryz.underlying3 h0
  obtain ⟨t, e1, -, b1⟩ := DataW.trod_string Tryz.underlying9 h1
  simp at e0 e1
  exact ⟨⟨q, t⟩, by rw [e0, e1]⟩
theorem cells_read {v : Value} (h : DataW.trod enc Tryz.prog w base spare held n 73 [v] = some y) : ∃ cs, CellsIn w v cs ∧ cs.length ≤ 9223372036854775807 := by
  rcases open_slice Tryz.underlying73 h with ⟨hcs, _⟩ | ⟨a, len, cap, m, k, D, Pl, hcs, hb, hl, hm, hmm, hx, hi⟩
  · simp at hcs
    exact ⟨[], ⟨none, 0, hcs, fun h => absurd h (Nat.lt_irrefl _)⟩, by simp⟩
  · simp at hcs
    have hlm : len ≤ m := by rw [hmm]; split <;> omega
    have key : ∀ i : Fin len, ∃ c : CellT, w.cell? (a.add (i.1 * 2)) = some (.int .i64 c.value) ∧ w.cell? (a.add (i.1 * 2 + 1)) = some (.string c.label) := by
      intro i
      obtain ⟨cs', hc, ht'⟩ := hi i.1 (by have := i.2; omega)
      rw [rawC] at hc
      obtain ⟨c, rfl⟩ := cell_read ht'
      obtain ⟨_, hcl, hat⟩ := World.cells?_some hc
      have c0 := hat 0 (by omega)
      have c1 := hat 1 (by omega)
      rw [Go.Deep.add_add] at c0 c1
      exact ⟨c, c0, c1⟩
    obtain ⟨f, hf⟩ := Classical.skolem.1 key
    refine ⟨List.ofFn f, ⟨some a, cap, by rw [hcs, List.length_ofFn], fun h0 => ?_⟩, by rw [List.length_ofFn]; unfold maxLen at hm; omega⟩
    rw [List.length_ofFn] at h0
    obtain ⟨g, o, sp⟩ := a
    have c0 := (hf ⟨0, h0⟩).1
    have hsp : sp = none := by simpa [Addr.add] using World.cell?_spot c0
    subst hsp
    refine ⟨g, o, rfl, ?_, fun j hj => ?_⟩
    · rw [Addr.add_lit] at c0; exact World.block_lt_of_cell? w _ c0
    · have hj' : j < len := by rw [List.length_ofFn] at hj; exact hj
      obtain ⟨d0, d1⟩ := hf ⟨j, hj'⟩
      rw [Addr.add_lit] at d0 d1
      rw [List.getElem_ofFn]
      exact ⟨d0, by rw [Nat.add_assoc]; exact d1⟩
set_option maxRecDepth 100000 in
theorem part_read {cs : List Value} {x : DataW H × List MemPlace} (h : DataW.trod enc Tryz.prog w base spare held n 75 cs = some x) : ∃ (p : PartT) (cv : Value), cs = [.int .i64 p.kind, cv, .string p.text] ∧ CellsIn w cv p.cells ∧ p.cells.length ≤ 9223372036854775807 := by
  obtain ⟨ys, m, _, _, hl, hyl, hf⟩ := DataW.trod_struct Tryz.underlying75 h
  rw [rawQ] at hl
  obtain ⟨v0, v1, v2, rfl⟩ := raw_3 hl
  obtain ⟨y0, y1, y2, rfl⟩ := raw_3 hyl
  have h0 : DataW.trod enc Tryz.prog w base spare held m 3 (([v0, v1, v2].drop 0).take (Tryz.prog.cellsOf 3)) = some y0 := hf 0 _ rfl
  have h1 : DataW.trod enc Tryz.prog w base spare held m 73 (([v0, v1, v2].drop 1).take (Tryz.prog.cellsOf 73)) = some y1 := hf 1 _ rfl
  have h2 : DataW.trod enc Tryz.prog w base spare held m 9 (([v0, v1, v2].drop 2).take (Tryz.prog.cellsOf 9)) = some y2 := hf 2 _ rfl
  rw [rawId] at h0
  rw [rawCs] at h1
  rw [rawSd] at h2
  obtain ⟨q, e0, -, b0⟩ := DataW.trod_int Tryz.underlying3 h0
  obtain ⟨s, e1, -, b1⟩ := DataW.trod_string Tryz.underlying9 h2
  obtain ⟨ps, hp, hpl⟩ := cells_read h1
  simp at e0 e1
  exact ⟨⟨q, ps, s⟩, v1, by rw [e0, e1], hp, hpl⟩
theorem parts_read {v : Value} (h : DataW.trod enc Tryz.prog w base spare held n 32 [v] = some y) : ∃ ps, PartsIn w v ps ∧ ps.length ≤ 9223372036854775807 ∧ ∀ p ∈ ps, p.cells.length ≤ 9223372036854775807 := by
  rcases open_slice Tryz.underlying32 h with ⟨hcs, _⟩ | ⟨a, len, cap, m, k, D, Pl, hcs, hb, hl, hm, hmm, hx, hi⟩
  · simp at hcs
    exact ⟨[], ⟨none, 0, hcs, fun h => absurd h (Nat.lt_irrefl _)⟩, by simp, by simp⟩
  · simp at hcs
    have hlm : len ≤ m := by rw [hmm]; split <;> omega
    have key : ∀ i : Fin len, ∃ p : PartT, ∃ cv, w.cell? (a.add (i.1 * 3)) = some (.int .i64 p.kind) ∧ w.cell? (a.add (i.1 * 3 + 1)) = some cv ∧ w.cell? (a.add (i.1 * 3 + 2)) = some (.string p.text) ∧ CellsIn w cv p.cells ∧ p.cells.length ≤ 9223372036854775807 := by
      intro i
      obtain ⟨cs', hc, ht'⟩ := hi i.1 (by have := i.2; omega)
      rw [rawQ] at hc
      obtain ⟨nd, pv, rfl, r⟩ := part_read ht'
      obtain ⟨_, hcl, hat⟩ := World.cells?_some hc
      have c0 := hat 0 (by omega)
      have c1 := hat 1 (by omega)
      have c2 := hat 2 (by omega)
      rw [Go.Deep.add_add] at c0 c1 c2
      exact ⟨nd, pv, c0, c1, c2, r⟩
    obtain ⟨f, hf⟩ := Classical.skolem.1 key
    refine ⟨List.ofFn f, ⟨some a, cap, by rw [hcs, List.length_ofFn], fun h0 => ?_⟩, by rw [List.length_ofFn]; unfold maxLen at hm; omega, fun p hp => by
      obtain ⟨i, rfl⟩ := (List.mem_ofFn ..).1 hp
      obtain ⟨_, _, _, _, _, r⟩ := hf i
      exact r⟩
    rw [List.length_ofFn] at h0
    obtain ⟨g, o, sp⟩ := a
    obtain ⟨_, c0, _⟩ := hf ⟨0, h0⟩
    have hsp : sp = none := by simpa [Addr.add] using World.cell?_spot c0
    subst hsp
    refine ⟨g, o, rfl, ?_, fun j hj => ?_⟩
    · rw [Addr.add_lit] at c0; exact World.block_lt_of_cell? w _ c0
    · have hj' : j < len := by rw [List.length_ofFn] at hj; exact hj
      obtain ⟨pv, d0, d1, d2, r, _⟩ := hf ⟨j, hj'⟩
      rw [Addr.add_lit] at d0 d1 d2
      rw [List.getElem_ofFn]
      exact ⟨pv, d0, by rw [Nat.add_assoc]; exact d1, by rw [Nat.add_assoc]; exact d2, r⟩
set_option maxRecDepth 100000 in
theorem pos_read {cs : List Value} {x : DataW H × List MemPlace} (h : DataW.trod enc Tryz.prog w base spare held n 27 cs = some x) : ∃ a b c : Int, cs = [.int .i64 a, .int .i64 b, .int .i64 c] := by
  obtain ⟨ys, m, _, _, hl, hyl, hf⟩ := DataW.trod_struct Tryz.underlying27 h
  rw [rawPo] at hl
  obtain ⟨v0, v1, v2, rfl⟩ := raw_3 hl
  obtain ⟨y0, y1, y2, rfl⟩ := raw_3 hyl
  have h0 : DataW.trod enc Tryz.prog w base spare held m 3 (([v0, v1, v2].drop 0).take (Tryz.prog.cellsOf 3)) = some y0 := hf 0 _ rfl
  have h1 : DataW.trod enc Tryz.prog w base spare held m 3 (([v0, v1, v2].drop 1).take (Tryz.prog.cellsOf 3)) = some y1 := hf 1 _ rfl
  have h2 : DataW.trod enc Tryz.prog w base spare held m 3 (([v0, v1, v2].drop 2).take (Tryz.prog.cellsOf 3)) = some y2 := hf 2 _ rfl
  rw [rawId] at h0 h1 h2
  obtain ⟨q0, e0, -, _⟩ := DataW.trod_int Tryz.underlying3 h0
  obtain ⟨q1, e1, -, _⟩ := DataW.trod_int Tryz.underlying3 h1
  obtain ⟨q2, e2, -, _⟩ := DataW.trod_int Tryz.underlying3 h2
  simp at e0 e1 e2
  exact ⟨q0, q1, q2, by rw [e0, e1, e2]⟩
set_option maxRecDepth 100000 in
theorem def_read {cs : List Value} {x : DataW H × List MemPlace} (h : DataW.trod enc Tryz.prog w base spare held n 34 cs = some x) : ∃ (d : FdT) (pv : Value), cs = [.int .i64 d.2.kind, .string d.2.label, .string d.2.name, pv, .int .i64 d.1, .int .i64 d.2.line, .int .i64 d.2.col] ∧ PartsIn w pv d.2.parts ∧ d.2.parts.length ≤ 9223372036854775807 ∧ ∀ p ∈ d.2.parts, p.cells.length ≤ 9223372036854775807 := by
  obtain ⟨ys, m, _, _, hl, hyl, hf⟩ := DataW.trod_struct Tryz.underlying34 h
  rw [rawDf] at hl
  obtain ⟨v0, v1, v2, v3, v4, v5, v6, rfl⟩ := raw_seven hl
  obtain ⟨y0, y1, y2, y3, y4, rfl⟩ := raw_five hyl
  have h0 : DataW.trod enc Tryz.prog w base spare held m 3 (([v0, v1, v2, v3, v4, v5, v6].drop 0).take (Tryz.prog.cellsOf 3)) = some y0 := hf 0 _ rfl
  have h1 : DataW.trod enc Tryz.prog w base spare held m 9 (([v0, v1, v2, v3, v4, v5, v6].drop 1).take (Tryz.prog.cellsOf 9)) = some y1 := hf 1 _ rfl
  have h2 : DataW.trod enc Tryz.prog w base spare held m 9 (([v0, v1, v2, v3, v4, v5, v6].drop 2).take (Tryz.prog.cellsOf 9)) = some y2 := hf 2 _ rfl
  have h3 : DataW.trod enc Tryz.prog w base spare held m 32 (([v0, v1, v2, v3, v4, v5, v6].drop 3).take (Tryz.prog.cellsOf 32)) = some y3 := hf 3 _ rfl
  have h4 : DataW.trod enc Tryz.prog w base spare held m 27 (([v0, v1, v2, v3, v4, v5, v6].drop 4).take (Tryz.prog.cellsOf 27)) = some y4 := hf 4 _ rfl
  rw [rawId] at h0
  rw [rawSd] at h1 h2
  rw [rawQs] at h3
  rw [rawPo] at h4
  obtain ⟨q, e0, -, b0⟩ := DataW.trod_int Tryz.underlying3 h0
  obtain ⟨s, e1, -, b1⟩ := DataW.trod_string Tryz.underlying9 h1
  obtain ⟨t, e2, -, b2⟩ := DataW.trod_string Tryz.underlying9 h2
  obtain ⟨ps, hp, hpl⟩ := parts_read h3
  obtain ⟨a, b, c, e4⟩ := pos_read h4
  simp at e0 e1 e2 e4
  obtain ⟨e4, e5, e6⟩ := e4
  exact ⟨(a, ⟨q, s, t, ps, b, c⟩), v3, by rw [e0, e1, e2, e4, e5, e6], hp, hpl⟩
theorem defs_read {v : Value} (h : DataW.trod enc Tryz.prog w base spare held n 25 [v] = some y) : ∃ l : List FdT, DefsIn w v l ∧ l.length ≤ 9223372036854775807 ∧ ∀ x ∈ l, x.2.parts.length ≤ 9223372036854775807 ∧ ∀ p ∈ x.2.parts, p.cells.length ≤ 9223372036854775807 := by
  rcases open_slice Tryz.underlying25 h with ⟨hcs, _⟩ | ⟨a, len, cap, m, k, D, Pl, hcs, hb, hl, hm, hmm, hx, hi⟩
  · simp at hcs
    exact ⟨[], ⟨none, 0, hcs, fun h => absurd h (Nat.lt_irrefl _)⟩, by simp, by simp⟩
  · simp at hcs
    have hlm : len ≤ m := by rw [hmm]; split <;> omega
    have key : ∀ i : Fin len, ∃ d : FdT, ∃ pv, w.cell? (a.add (i.1 * 7)) = some (.int .i64 d.2.kind) ∧ w.cell? (a.add (i.1 * 7 + 1)) = some (.string d.2.label) ∧ w.cell? (a.add (i.1 * 7 + 2)) = some (.string d.2.name) ∧ w.cell? (a.add (i.1 * 7 + 3)) = some pv ∧ w.cell? (a.add (i.1 * 7 + 4)) = some (.int .i64 d.1) ∧ w.cell? (a.add (i.1 * 7 + 5)) = some (.int .i64 d.2.line) ∧ w.cell? (a.add (i.1 * 7 + 6)) = some (.int .i64 d.2.col) ∧
        PartsIn w pv d.2.parts ∧ d.2.parts.length ≤ 9223372036854775807 ∧ ∀ p ∈ d.2.parts, p.cells.length ≤ 9223372036854775807 := by
      intro i
      obtain ⟨cs', hc, ht'⟩ := hi i.1 (by have := i.2; omega)
      rw [rawDf] at hc
      obtain ⟨nd, pv, rfl, r⟩ := def_read ht'
      obtain ⟨_, hcl, hat⟩ := World.cells?_some hc
      have c0 := hat 0 (by omega)
      have c1 := hat 1 (by omega)
      have c2 := hat 2 (by omega)
      have c3 := hat 3 (by omega)
      have c4 := hat 4 (by omega)
      have c5 := hat 5 (by omega)
      have c6 := hat 6 (by omega)
      rw [Go.Deep.add_add] at c0 c1 c2 c3 c4 c5 c6
      exact ⟨nd, pv, c0, c1, c2, c3, c4, c5, c6, r⟩
    obtain ⟨f, hf⟩ := Classical.skolem.1 key
    refine ⟨List.ofFn f, ⟨some a, cap, by rw [hcs, List.length_ofFn], fun h0 => ?_⟩, by rw [List.length_ofFn]; unfold maxLen at hm; omega, fun p hp => by
      obtain ⟨i, rfl⟩ := (List.mem_ofFn ..).1 hp
      obtain ⟨_, _, _, _, _, _, _, _, _, r⟩ := hf i
      exact r⟩
    rw [List.length_ofFn] at h0
    obtain ⟨g, o, sp⟩ := a
    obtain ⟨_, c0, _⟩ := hf ⟨0, h0⟩
    have hsp : sp = none := by simpa [Addr.add] using World.cell?_spot c0
    subst hsp
    refine ⟨g, o, rfl, ?_, fun j hj => ?_⟩
    · rw [Addr.add_lit] at c0; exact World.block_lt_of_cell? w _ c0
    · have hj' : j < len := by rw [List.length_ofFn] at hj; exact hj
      obtain ⟨pv, d0, d1, d2, d3, d4, d5, d6, r, _⟩ := hf ⟨j, hj'⟩
      rw [Addr.add_lit] at d0 d1 d2 d3 d4 d5 d6
      rw [List.getElem_ofFn]
      exact ⟨pv, d0, by rw [Nat.add_assoc]; exact d1, by rw [Nat.add_assoc]; exact d2, by rw [Nat.add_assoc]; exact d3, by rw [Nat.add_assoc]; exact d4, by rw [Nat.add_assoc]; exact d5, by rw [Nat.add_assoc]; exact d6, r⟩
theorem defs_arg {v : Value} {d : DataW H} {p : List MemPlace} (hc : v.cells.toList = [v]) (h : DataW.Trod enc Tryz.prog w base spare held 25 v d p) :
    ∃ l : List FdT, DefsIn w v l ∧ l.length ≤ 9223372036854775807 ∧ ∀ x ∈ l, x.2.parts.length ≤ 9223372036854775807 ∧ ∀ p ∈ x.2.parts, p.cells.length ≤ 9223372036854775807 := by
  obtain ⟨fuel, hf⟩ := h
  rw [hc] at hf
  exact defs_read hf
end
end Go.Proofs.YtofhcgbihonckaaGreat
