/- Definitions of several files in memory: rows that grow, and reading them. -/
import Derived.Test.YtofhcgbihonckaaZ9
import Derived.Test.YtofhcgbihonckaaZ18
import Derived.Deep.AppendSrc

set_option linter.unusedVariables false
set_option linter.unusedSimpArgs false
set_option linter.unusedSectionVars false

namespace Go.Proofs.Ytofhcgbihonckaa
open Go.RowKit

def fdCells : List FdT → List Value → List Value
  | x :: xs, v :: vs => .int .i64 x.2.kind :: .string x.2.label :: .string x.2.name :: v :: .int .i64 x.1 :: .int .i64 x.2.line :: .int .i64 x.2.col :: fdCells xs vs
  | _, _ => []
theorem fdCells_len : ∀ (l : List FdT) (vs : List Value), vs.length = l.length → (fdCells l vs).length = l.length * 7
  | [], [], _ => rfl
  | x :: xs, v :: vs, h => by simp only [fdCells, List.length_cons]; rw [fdCells_len xs vs (by simpa using h)]; omega
theorem fdCells_app : ∀ (a b : List FdT) (us vs : List Value), us.length = a.length → fdCells (a ++ b) (us ++ vs) = fdCells a us ++ fdCells b vs
  | [], _, [], _, _ => rfl
  | x :: xs, b, u :: us, vs, h => by simp only [fdCells, List.cons_append]; rw [fdCells_app xs b us vs (by simpa using h)]
theorem fdCells_tag (file : Int) : ∀ (D : List DefT) (vs : List Value), vs.length = D.length → defCells file D vs = fdCells (tagT file D) vs
  | [], [], _ => rfl
  | d :: D, v :: vs, h => by simp only [defCells, tagT, List.map_cons, fdCells]; rw [fdCells_tag file D vs (by simpa using h)]; rfl
/-- A row of definitions of several files, one's own. -/
def FdsRow (w : World) (base : Nat) (v : Value) (l : List FdT) : Prop :=
  ∃ vs : List Value, vs.length = l.length ∧ w.ownsRow base 38 7 v l.length (fdCells l vs) ∧ ∀ k (h : k < l.length) (h2 : k < vs.length), PartsRow w base vs[k] l[k].2.parts
theorem DefsRow.fds {w : World} {base : Nat} {file : Int} {v : Value} {D : List DefT} (h : DefsRow w base file v D) : FdsRow w base v (tagT file D) := by
  obtain ⟨vs, h1, h2, h3⟩ := h
  have hl : (tagT file D).length = D.length := by simp [tagT]
  refine ⟨vs, by rw [hl]; exact h1, by rw [hl, ← fdCells_tag file D vs h1]; exact h2, fun k hk hk2 => ?_⟩
  have := h3 k (by omega) hk2
  simpa [tagT] using this
section
variable {w w' : World} {base : Nat} {v : Value} {l : List FdT}
theorem FdsRow.nil (w : World) (base : Nat) : FdsRow w base (.slice none 0 0) [] := ⟨[], rfl, World.ownsRow_nil _ _ _ _, fun _ h => by cases h⟩
theorem FdsRow.slice (h : FdsRow w base v l) : ∃ a c, v = .slice a l.length c := by obtain ⟨_, _, h, _⟩ := h; exact row_slice h
theorem FdsRow.lower {b2 : Nat} (h : FdsRow w base v l) (hb : b2 ≤ base) : FdsRow w b2 v l := by
  obtain ⟨vs, h1, h2, h3⟩ := h
  exact ⟨vs, h1, row_base h2 hb, fun j h h' => (h3 j h h').lower hb⟩
/-- Kept while no block of cells or parts turns, and the row's own does not. -/
theorem FdsRow.keeps {S : Nat → Prop} (h : FdsRow w base v l) (k : Keeps S w w') (hs : ∀ g, v.ownBlock = some g → ¬ S g) (ha : ∀ b, b < w.heap.size → S b → ∀ cur, ¬ Holds w b cur 43 ∧ ¬ Holds w b cur 41) : FdsRow w' base v l := by
  obtain ⟨vs, h1, h2, h3⟩ := h
  have key : ∀ {e : TypeId} {size n : Nat} {u : Value} {xs : List Value}, w.ownsRow base e size u n xs → (e = 43 ∨ e = 41) → ∀ g, u.ownBlock = some g → ¬ S g := by
    intro e size n u xs hr he g hg hS
    obtain ⟨b1, _, cur, b2⟩ := own_lt hr hg
    rcases he with rfl | rfl
    · exact (ha g b1 hS cur).1 b2
    · exact (ha g b1 hS cur).2 b2
  refine ⟨vs, h1, ownsRow_keeps h2 k hs, fun j hj hj2 => ?_⟩
  obtain ⟨us, u1, u2, u3⟩ := h3 j hj hj2
  exact ⟨us, u1, ownsRow_keeps u2 k (key u2 (.inr rfl)), fun i hi hi2 => ownsRow_keeps (u3 i hi hi2) k (key (u3 i hi hi2) (.inl rfl))⟩
theorem FdsRow.new (h : FdsRow w base v l) (k : Below w.heap.size w w') : FdsRow w' base v l :=
  h.keeps (Keeps.of_fresh k (fun _ => False)) (fun _ _ e => e) (fun _ _ e => e.elim)
theorem fdCells_at : ∀ (l : List FdT) (vs : List Value) (k : Nat) (h : k < l.length) (h2 : k < vs.length), vs.length = l.length →
    (fdCells l vs)[k * 7]? = some (.int .i64 l[k].2.kind) ∧ (fdCells l vs)[k * 7 + 1]? = some (.string l[k].2.label) ∧ (fdCells l vs)[k * 7 + 2]? = some (.string l[k].2.name) ∧ (fdCells l vs)[k * 7 + 3]? = some vs[k] ∧
    (fdCells l vs)[k * 7 + 4]? = some (.int .i64 l[k].1) ∧ (fdCells l vs)[k * 7 + 5]? = some (.int .i64 l[k].2.line) ∧ (fdCells l vs)[k * 7 + 6]? = some (.int .i64 l[k].2.col)
  | d :: D, v :: vs, 0, _, _, _ => ⟨rfl, rfl, rfl, rfl, rfl, rfl, rfl⟩
  | d :: D, v :: vs, k + 1, h, h2, hl => by
    have := fdCells_at D vs k (by simpa using h) (by simpa using h2) (by simpa using hl)
    rw [show (k + 1) * 7 = k * 7 + 7 from by omega]
    exact this
theorem FdsRow.at (h : FdsRow w base v l) (k : Nat) (hk : k < l.length) : ∃ g cap pv, v = .slice (some ⟨g, 0, none⟩) l.length cap ∧ g < w.heap.size ∧ base ≤ g ∧ w.cell? ⟨g, k * 7, none⟩ = some (.int .i64 l[k].2.kind) ∧ w.cell? ⟨g, k * 7 + 1, none⟩ = some (.string l[k].2.label) ∧ w.cell? ⟨g, k * 7 + 2, none⟩ = some (.string l[k].2.name) ∧ w.cell? ⟨g, k * 7 + 3, none⟩ = some pv ∧
    w.cell? ⟨g, k * 7 + 4, none⟩ = some (.int .i64 l[k].1) ∧ w.cell? ⟨g, k * 7 + 5, none⟩ = some (.int .i64 l[k].2.line) ∧ w.cell? ⟨g, k * 7 + 6, none⟩ = some (.int .i64 l[k].2.col) ∧ PartsRow w base pv l[k].2.parts := by
  obtain ⟨vs, hl, hr, hs⟩ := h
  obtain ⟨g, cap, rfl, hg, hb, hc⟩ := row_read hr (by omega)
  obtain ⟨a0, a1, a2, a3, a4, a5, a6⟩ := fdCells_at l vs k hk (by omega) hl
  exact ⟨g, cap, vs[k]'(by omega), rfl, hg, hb, (hc _ (by omega)).trans a0, (hc _ (by omega)).trans a1, (hc _ (by omega)).trans a2, (hc _ (by omega)).trans a3, (hc _ (by omega)).trans a4, (hc _ (by omega)).trans a5, (hc _ (by omega)).trans a6, hs k hk (by omega)⟩
/-- Behind an append of one row to another. -/
theorem FdsRow.app {w1 : World} {v' : Value} {l2 : List FdT} {us vs : List Value} (h1 : us.length = l.length) (h2 : vs.length = l2.length)
    (hr : w1.ownsRow base 38 7 v' (l.length + l2.length) (fdCells l us ++ fdCells l2 vs))
    (hp : ∀ k (h : k < l.length) (h2 : k < us.length), PartsRow w1 base us[k] l[k].2.parts) (hq : ∀ k (h : k < l2.length) (h2 : k < vs.length), PartsRow w1 base vs[k] l2[k].2.parts) : FdsRow w1 base v' (l ++ l2) := by
  refine ⟨us ++ vs, by rw [List.length_append, List.length_append, h1, h2], by rw [List.length_append, fdCells_app l l2 us vs h1]; exact hr, fun k hk hk2 => ?_⟩
  by_cases hlt : k < l.length
  · rw [List.getElem_append_left (by omega), List.getElem_append_left hlt]
    exact hp k hlt (by omega)
  · rw [List.getElem_append_right (by omega), List.getElem_append_right (by omega)]
    rw [List.length_append] at hk
    have := hq (k - l.length) (by omega) (by omega)
    simpa [h1] using this
end
end Go.Proofs.Ytofhcgbihonckaa
