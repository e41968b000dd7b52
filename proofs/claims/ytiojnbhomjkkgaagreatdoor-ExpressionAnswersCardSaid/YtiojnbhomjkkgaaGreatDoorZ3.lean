/- Tokens that came in as an argument lie in memory as some plain tokens. -/
import Derived.Test.YtiojnbhomjkkgaaGreatDoorZ2
import Derived.Lib.SmallJoins
import Derived.Deep.Slices
import Derived.Deep.Fields

set_option linter.unusedVariables false
set_option linter.unusedSimpArgs false
set_option linter.unusedSectionVars false

namespace Go.Proofs.YtiojnbhomjkkgaaGreatDoor
open Go.RowKit Go.Joins Go.ChangeShapes Go.WideShapes Go.Deep

theorem rawKs : Tryz.prog.cellsOf 9 = 1 := by kernel_rfl
theorem rawKi : Tryz.prog.cellsOf 3 = 1 := by kernel_rfl
theorem rawKt : Tryz.prog.cellsOf 80 = 6 := by kernel_rfl
section
variable {H : Type} {enc : TypeId × Value → H} {w : World} {base n : Nat} {spare : Nat → Bool} {held : Bool} {y : DataW H × List MemPlace}
set_option maxRecDepth 100000 in
theorem tok_read {cs : List Value} {x : DataW H × List MemPlace} (h : DataW.trod enc Tryz.prog w base spare held n 80 cs = some x) : ∃ (f : Int × ByteArray × Int) (v3 v4 v5 : Value), cs = [.int .i64 f.1, .string f.2.1, .int .i64 f.2.2, v3, v4, v5] ∧ f.2.1.size ≤ maxLen := by
  obtain ⟨ys, m, _, _, hl, hyl, hf⟩ := DataW.trod_struct Tryz.underlying80 h
  rw [rawKt] at hl
  obtain ⟨v0, v1, v2, v3, v4, v5, rfl⟩ : ∃ a b c d e f, cs = [a, b, c, d, e, f] := by
    match cs, hl with
    | [a, b, c, d, e, f], _ => exact ⟨a, b, c, d, e, f, rfl⟩
  obtain ⟨y0, y1, y2, y3, rfl⟩ : ∃ a b c d, ys = [a, b, c, d] := by
    match ys, hyl with
    | [a, b, c, d], _ => exact ⟨a, b, c, d, rfl⟩
  have h0 : DataW.trod enc Tryz.prog w base spare held m 3 (([v0, v1, v2, v3, v4, v5].drop 0).take (Tryz.prog.cellsOf 3)) = some y0 := hf 0 _ rfl
  have h1 : DataW.trod enc Tryz.prog w base spare held m 9 (([v0, v1, v2, v3, v4, v5].drop 1).take (Tryz.prog.cellsOf 9)) = some y1 := hf 1 _ rfl
  have h2 : DataW.trod enc Tryz.prog w base spare held m 3 (([v0, v1, v2, v3, v4, v5].drop 2).take (Tryz.prog.cellsOf 3)) = some y2 := hf 2 _ rfl
  rw [rawKi] at h0 h2
  rw [rawKs] at h1
  obtain ⟨q, e0, -, b0⟩ := DataW.trod_int Tryz.underlying3 h0
  obtain ⟨t, e1, -, b1⟩ := DataW.trod_string Tryz.underlying9 h1
  obtain ⟨z, e2, -, b2⟩ := DataW.trod_int Tryz.underlying3 h2
  simp at e0 e1 e2
  exact ⟨(q, t, z), v3, v4, v5, by rw [e0, e1, e2], b1⟩
/-- A list of tokens that came in. -/
theorem toks_arg {v : Value} {d : DataW H} {p : List MemPlace} (hc : v.cells.toList = [v]) (h : DataW.Trod enc Tryz.prog w base spare held 23 v d p) :
    ∃ F : List (Int × ByteArray × Int), TokAt (fun x => x < w.heap.size) w v F ∧ ∃ a c, v = .slice a F.length c ∧ F.length ≤ c ∧ c ≤ maxLen := by
  obtain ⟨fuel, h⟩ := h
  rw [hc] at h
  rcases open_slice Tryz.underlying23 h with ⟨hcs, _⟩ | ⟨a, len, cap, m, k, D, Pl, hcs, hb, hl, hm, hmm, hx, hi⟩
  · simp at hcs
    exact ⟨[], ⟨none, 0, hcs, (fun t ht => by cases ht), fun h => absurd h (Nat.lt_irrefl _)⟩, none, 0, hcs, Nat.le_refl _, by unfold maxLen; omega⟩
  · simp at hcs
    have hlm : len ≤ m := by rw [hmm]; split <;> omega
    have key : ∀ i : Fin len, ∃ f : Int × ByteArray × Int, w.cell? (a.add (i.1 * 6)) = some (.int .i64 f.1) ∧ w.cell? (a.add (i.1 * 6 + 1)) = some (.string f.2.1) ∧ w.cell? (a.add (i.1 * 6 + 2)) = some (.int .i64 f.2.2) ∧ f.2.1.size ≤ maxLen := by
      intro i
      obtain ⟨cs', hc, ht'⟩ := hi i.1 (by have := i.2; omega)
      rw [rawKt] at hc
      obtain ⟨c, v3, v4, v5, rfl, r⟩ := tok_read ht'
      obtain ⟨_, hcl, hat⟩ := World.cells?_some hc
      have c0 := hat 0 (by omega)
      have c1 := hat 1 (by omega)
      have c2 := hat 2 (by omega)
      rw [Go.Deep.add_add] at c0 c1 c2
      exact ⟨c, c0, c1, c2, r⟩
    obtain ⟨f, hf⟩ := Classical.skolem.1 key
    refine ⟨List.ofFn f, ⟨some a, cap, by rw [hcs, List.length_ofFn], fun p hp => by
      obtain ⟨i, rfl⟩ := (List.mem_ofFn ..).1 hp
      obtain ⟨_, _, _, r⟩ := hf i
      exact r, fun h0 => ?_⟩, some a, cap, by rw [hcs, List.length_ofFn], by rw [List.length_ofFn]; exact hl, hm⟩
    rw [List.length_ofFn] at h0
    obtain ⟨g, o, sp⟩ := a
    obtain ⟨c0, _⟩ := hf ⟨0, h0⟩
    have hsp : sp = none := by simpa [Addr.add] using World.cell?_spot c0
    subst hsp
    refine ⟨g, o, rfl, ?_, fun j hj => ?_⟩
    · rw [Addr.add_lit] at c0; exact World.block_lt_of_cell? w _ c0
    · have hj' : j < len := by rw [List.length_ofFn] at hj; exact hj
      obtain ⟨d0, d1, d2, _⟩ := hf ⟨j, hj'⟩
      rw [Addr.add_lit] at d0 d1 d2
      rw [List.getElem_ofFn]
      exact ⟨d0, by rw [Nat.add_assoc]; exact d1, by rw [Nat.add_assoc]; exact d2⟩
end
end Go.Proofs.YtiojnbhomjkkgaaGreatDoor
