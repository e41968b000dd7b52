/- Definitions of several files in memory: rows that grow, and reading them. | Definitions in memory, to read (wherever they lie). | Contracts of bringupref04: samePart. | Contracts of bringupref04: Same (printed by gsame.py). | Contracts of package source: Same (printed by gssm.py). | Contracts of package source: Same (printed by gssm.py). -/
import Derived.Test.YtofhcgbihonckaaGreatZ9
import Derived.Test.YtofhcgbihonckaaGreatZ18
import Derived.Deep.AppendSrc
import Derived.Deep.LoopGhost
import Derived.Deep.RegionWith
set_option linter.unusedVariables false
set_option linter.unusedSimpArgs false
set_option linter.unusedSectionVars false
namespace Go.Proofs.YtofhcgbihonckaaGreat
open Go.RowKit
def fdCells : List FdT → List Value → List Value
  | x :: xs, v :: vs => .int .i64 x.2.kind :: .string x.2.label :: .string x.2.name :: v :: .int .i64 x.1 :: .int .i64 x.2.line :: .int .i64 x.2.col :: fdCells xs vs
  | _, _ => []
theorem fdCells_len : ∀ (l : List FdT) (vs : List Value), vs.length = l.length → (fdCells l vs).length = l.length * 7
  | [], [], _ => rfl
  | x :: xs, v :: vs, h => by simp only [fdCells, List.length_cons]; rw [fdCells_len xs vs (by simpa using h)]; omega
theorem fdCells_app : ∀ (a b : List FdT) (us vs : List Value), us.length = a.length → fdCells (a ++ b) (us ++ vs) = fdCells a us ++ fdCells b vs
  | [], _, [], _, _ => rfl
  | x :: xs, b, u :: us, vs, h => by simp only [fdCells, List.cons_append]; rw [fdCells_app xs b us vs (by simpa using h)]
theorem fdCells_tag (file : Int) : ∀ (D : List DefT) (vs : List Value), vs.length = D.length → defCells file D vs = fdCells (tagT file D) vs
  | [], [], _ => rfl
  | d :: D, v :: vs, h => by simp only [defCells, tagT, List.map_cons, fdCells]; rw [fdCells_tag file D vs (by simpa using h)]; rfl
def FdsRow (w : World) (base : Nat) (v : Value) (l : List FdT) : Prop :=
  ∃ vs : List Value, vs.length = l.length ∧ w.ownsRow base 34 7 v l.length (fdCells l vs) ∧ ∀ k (h : k < l.length) (h2 : k < vs.length), PartsRow w base vs[k] l[k].2.parts
theorem DefsRow.fds {w : World} {base : Nat} {file : Int} {v : Value} {D : List DefT} (h : DefsRow w base file v D) : FdsRow w base v (tagT file D) := by
  obtain ⟨vs, h1, h2, h3⟩ := h
  have hl : (tagT file D).length = D.length := by simp [tagT]
  refine ⟨vs, by rw [hl]; exact h1, by rw [hl, ← fdCells_tag file D vs h1]; exact h2, fun k hk hk2 => ?_⟩
  have := h3 k (by omega) hk2
  simpa [tagT] using this
section
variable {w w' : World} {base : Nat} {v : Value} {l : List FdT}
theorem FdsRow.nil (w : World) (base : Nat) : FdsRow w base (.slice none 0 0) [] := ⟨[], rfl, World.ownsRow_nil _ _ _ _, fun _ h => by cases h⟩
theorem FdsRow.slice (h : FdsRow w base v l) : ∃ a c, v = .slice a l.length c := by obtain ⟨_, _, h, _⟩ := h; exact row_slice h
theorem FdsRow.lower {b2 : Nat} (h : FdsRow w base v l) (hb : b2 ≤ base) : FdsRow w b2 v l := by
  obtain ⟨vs, h1, h2, h3⟩ := h
  exact ⟨vs, h1, row_base h2 hb, fun j h h' => (h3 j h h').lower hb⟩
theorem FdsRow.keeps {S : Nat → Prop} (h : FdsRow w base v l) (k : Keeps S w w') (hs : ∀ g, v.ownBlock = some g → ¬ S g) (ha : ∀ b, b < w.heap.size → S b → ∀ cur, ¬ Holds w b cur 72 ∧ ¬ Holds w b cur 75) : FdsRow w' base v l := by
  obtain ⟨vs, h1, h2, h3⟩ := h
  have key : ∀ {e : TypeId} {size n : Nat} {u : Value} {xs : List Value}, w.ownsRow base e size u n xs → (e = 72 ∨ e = 75) → ∀ g, u.ownBlock = some g → ¬ S g := by
    intro e size n u xs hr he g hg hS
    obtain ⟨b1, _, cur, b2⟩ := own_lt hr hg
    rcases he with rfl | rfl
    · exact (ha g b1 hS cur).1 b2
    · exact (ha g b1 hS cur).2 b2
  refine ⟨vs, h1, ownsRow_keeps h2 k hs, fun j hj hj2 => ?_⟩
  obtain ⟨us, u1, u2, u3⟩ := h3 j hj hj2
  exact ⟨us, u1, ownsRow_keeps u2 k (key u2 (.inr rfl)), fun i hi hi2 => ownsRow_keeps (u3 i hi hi2) k (key (u3 i hi hi2) (.inl rfl))⟩
theorem FdsRow.new (h : FdsRow w base v l) (k : Below w.heap.size w w') : FdsRow w' base v l :=
  h.keeps (Keeps.of_fresh k (fun _ => False)) (fun _ _ e => e) (fun _ _ e => e.elim)
theorem fdCells_at : ∀ (l : List FdT) (vs : List Value) (k : Nat) (h : k < l.length) (h2 : k < vs.length), vs.length = l.length →
    (fdCells l vs)[k * 7]? = some (.int .i64 l[k].2.kind) ∧ (fdCells l vs)[k * 7 + 1]? = some (.string l[k].2.label) ∧ (fdCells l vs)[k * 7 + 2]? = some (.string l[k].2.name) ∧ (fdCells l vs)[k * 7 + 3]? = some vs[k] ∧
    (fdCells l vs)[k * 7 + 4]? = some (.int .i64 l[k].1) ∧ (fdCells l vs)[k * 7 + 5]? = some (.int .i64 l[k].2.line) ∧ (fdCells l vs)[k * 7 + 6]? = some (.int .i64 l[k].2.col)
  | d :: D, v :: vs, 0, _, _, _ => ⟨rfl, rfl, rfl, rfl, rfl, rfl, rfl⟩
  | d :: D, v :: vs, k + 1, h, h2, hl => by
    have := fdCells_at D vs k (by simpa using h) (by simpa using h2) (by simpa using hl)
    rw [show (k + 1) * 7 = k * 7 + 7 from by omega]
    exact this
theorem FdsRow.at (h : FdsRow w base v l) (k : Nat) (hk : k < l.length) : ∃ g cap pv, v = .slice (some ⟨g, 0, none⟩) l.length cap ∧ g < w.heap.size ∧ base ≤ g ∧ w.cell? ⟨g, k * 7, none⟩ = some (.int .i64 l[k].2.kind) ∧ w.cell? ⟨g, k * 7 + 1, none⟩ = some (.string l[k].2.label) ∧ w.cell? ⟨g, k * 7 + 2, none⟩ = some (.string l[k].2.name) ∧ w.cell? ⟨g, k * 7 + 3, none⟩ = some pv ∧
    w.cell? ⟨g, k * 7 + 4, none⟩ = some (.int .i64 l[k].1) ∧ w.cell? ⟨g, k * 7 + 5, none⟩ = some (.int .i64 l[k].2.line) ∧ w.cell? ⟨g, k * 7 + 6, none⟩ = some (.int .i64 l[k].2.col) ∧ PartsRow w base pv l[k].2.parts := by
  obtain ⟨vs, hl, hr, hs⟩ := h
  obtain ⟨g, cap, rfl, hg, hb, hc⟩ := row_read hr (by omega)
  obtain ⟨a0, a1, a2, a3, a4, a5, a6⟩ := fdCells_at l vs k hk (by omega) hl
  exact ⟨g, cap, vs[k]'(by omega), rfl, hg, hb, (hc _ (by omega)).trans a0, (hc _ (by omega)).trans a1, (hc _ (by omega)).trans a2, (hc _ (by omega)).trans a3, (hc _ (by omega)).trans a4, (hc _ (by omega)).trans a5, (hc _ (by omega)).trans a6, hs k hk (by omega)⟩
theorem FdsRow.app {w1 : World} {v' : Value} {l2 : List FdT} {us vs : List Value} (h1 : us.length = l.length) (h2 : vs.length = l2.length)
    (hr : w1.ownsRow base 34 7 v' (l.length + l2.length) (fdCells l us ++ fdCells l2 vs))
    (hp : ∀ k (h : k < l.length) (h2 : k < us.length), PartsRow w1 base us[k] l[k].2.parts) (hq : ∀ k (h : k < l2.length) (h2 : k < vs.length), PartsRow w1 base vs[k] l2[k].2.parts) : FdsRow w1 base v' (l ++ l2) := by
  refine ⟨us ++ vs, by rw [List.length_append, List.length_append, h1, h2], by rw [List.length_append, fdCells_app l l2 us vs h1]; exact hr, fun k hk hk2 => ?_⟩
  by_cases hlt : k < l.length
  · rw [List.getElem_append_left (by omega), List.getElem_append_left hlt]
    exact hp k hlt (by omega)
  · rw [List.getElem_append_right (by omega), List.getElem_append_right (by omega)]
    rw [List.length_append] at hk
    have := hq (k - l.length) (by omega) (by omega)
    simpa [h1] using this
end
end Go.Proofs.YtofhcgbihonckaaGreat
namespace Go.Proofs.YtofhcgbihonckaaGreat
open Go.RowKit
def CellsIn (w : World) (v : Value) (cs : List CellT) : Prop :=
  ∃ (a : Option Addr) (cap : Nat), v = .slice a cs.length cap ∧ (0 < cs.length → ∃ g o, a = some ⟨g, o, none⟩ ∧ g < w.heap.size ∧ ∀ (i : Nat) (h : i < cs.length), w.cell? ⟨g, o + i * 2, none⟩ = some (.int .i64 cs[i].value) ∧ w.cell? ⟨g, o + i * 2 + 1, none⟩ = some (.string cs[i].label))
def PartsIn (w : World) (v : Value) (ps : List PartT) : Prop :=
  ∃ (a : Option Addr) (cap : Nat), v = .slice a ps.length cap ∧ (0 < ps.length → ∃ g o, a = some ⟨g, o, none⟩ ∧ g < w.heap.size ∧ ∀ (i : Nat) (h : i < ps.length), ∃ cv, w.cell? ⟨g, o + i * 3, none⟩ = some (.int .i64 ps[i].kind) ∧ w.cell? ⟨g, o + i * 3 + 1, none⟩ = some cv ∧ w.cell? ⟨g, o + i * 3 + 2, none⟩ = some (.string ps[i].text) ∧ CellsIn w cv ps[i].cells)
def DefsIn (w : World) (v : Value) (l : List FdT) : Prop :=
  ∃ (a : Option Addr) (cap : Nat), v = .slice a l.length cap ∧ (0 < l.length → ∃ g o, a = some ⟨g, o, none⟩ ∧ g < w.heap.size ∧ ∀ (i : Nat) (h : i < l.length), ∃ pv, w.cell? ⟨g, o + i * 7, none⟩ = some (.int .i64 l[i].2.kind) ∧ w.cell? ⟨g, o + i * 7 + 1, none⟩ = some (.string l[i].2.label) ∧ w.cell? ⟨g, o + i * 7 + 2, none⟩ = some (.string l[i].2.name) ∧ w.cell? ⟨g, o + i * 7 + 3, none⟩ = some pv ∧
    w.cell? ⟨g, o + i * 7 + 4, none⟩ = some (.int .i64 l[i].1) ∧ w.cell? ⟨g, o + i * 7 + 5, none⟩ = some (.int .i64 l[i].2.line) ∧ w.cell? ⟨g, o + i * 7 + 6, none⟩ = some (.int .i64 l[i].2.col) ∧ PartsIn w pv l[i].2.parts)
section
variable {w w' : World} {v : Value}
theorem CellsIn.new {cs : List CellT} (h : CellsIn w v cs) (k : Below w.heap.size w w') : CellsIn w' v cs := by
  obtain ⟨a, cap, rfl, h2⟩ := h
  refine ⟨a, cap, rfl, fun h0 => ?_⟩
  obtain ⟨g, o, rfl, hg, hc⟩ := h2 h0
  exact ⟨g, o, rfl, Nat.lt_of_lt_of_le hg k.size, fun i hi => ⟨(k.cell (p := ⟨g, o + i * 2, none⟩) hg).trans (hc i hi).1, (k.cell (p := ⟨g, o + i * 2 + 1, none⟩) hg).trans (hc i hi).2⟩⟩
theorem PartsIn.new {ps : List PartT} (h : PartsIn w v ps) (k : Below w.heap.size w w') : PartsIn w' v ps := by
  obtain ⟨a, cap, rfl, h2⟩ := h
  refine ⟨a, cap, rfl, fun h0 => ?_⟩
  obtain ⟨g, o, rfl, hg, hc⟩ := h2 h0
  refine ⟨g, o, rfl, Nat.lt_of_lt_of_le hg k.size, fun i hi => ?_⟩
  obtain ⟨cv, c0, c1, c2, c3⟩ := hc i hi
  exact ⟨cv, (k.cell (p := ⟨g, o + i * 3, none⟩) hg).trans c0, (k.cell (p := ⟨g, o + i * 3 + 1, none⟩) hg).trans c1, (k.cell (p := ⟨g, o + i * 3 + 2, none⟩) hg).trans c2, c3.new k⟩
theorem DefsIn.new {l : List FdT} (h : DefsIn w v l) (k : Below w.heap.size w w') : DefsIn w' v l := by
  obtain ⟨a, cap, rfl, h2⟩ := h
  refine ⟨a, cap, rfl, fun h0 => ?_⟩
  obtain ⟨g, o, rfl, hg, hc⟩ := h2 h0
  refine ⟨g, o, rfl, Nat.lt_of_lt_of_le hg k.size, fun i hi => ?_⟩
  obtain ⟨pv, c0, c1, c2, c3, c4, c5, c6, c7⟩ := hc i hi
  exact ⟨pv, (k.cell (p := ⟨g, o + i * 7, none⟩) hg).trans c0, (k.cell (p := ⟨g, o + i * 7 + 1, none⟩) hg).trans c1, (k.cell (p := ⟨g, o + i * 7 + 2, none⟩) hg).trans c2, (k.cell (p := ⟨g, o + i * 7 + 3, none⟩) hg).trans c3, (k.cell (p := ⟨g, o + i * 7 + 4, none⟩) hg).trans c4, (k.cell (p := ⟨g, o + i * 7 + 5, none⟩) hg).trans c5, (k.cell (p := ⟨g, o + i * 7 + 6, none⟩) hg).trans c6, c7.new k⟩
theorem CellsIn.slice {cs : List CellT} (h : CellsIn w v cs) : ∃ a c, v = .slice a cs.length c := by obtain ⟨a, c, rfl, _⟩ := h; exact ⟨a, c, rfl⟩
theorem PartsIn.slice {ps : List PartT} (h : PartsIn w v ps) : ∃ a c, v = .slice a ps.length c := by obtain ⟨a, c, rfl, _⟩ := h; exact ⟨a, c, rfl⟩
theorem DefsIn.slice {l : List FdT} (h : DefsIn w v l) : ∃ a c, v = .slice a l.length c := by obtain ⟨a, c, rfl, _⟩ := h; exact ⟨a, c, rfl⟩
theorem CellsRow.in {base : Nat} {cs : List CellT} (h : CellsRow w base v cs) : CellsIn w v cs := by
  obtain ⟨a, c, rfl⟩ := h.slice
  refine ⟨a, c, rfl, fun h0 => ?_⟩
  obtain ⟨g, cap, e, hg, hc⟩ := cells_at h h0
  cases e
  exact ⟨g, 0, rfl, hg, fun i hi => by rw [Nat.zero_add]; exact hc i hi⟩
theorem PartsRow.in {base : Nat} {ps : List PartT} (h : PartsRow w base v ps) : PartsIn w v ps := by
  obtain ⟨a, c, rfl⟩ := h.slice
  refine ⟨a, c, rfl, fun h0 => ?_⟩
  obtain ⟨g, cap, e, hg, hc⟩ := parts_at h h0
  cases e
  refine ⟨g, 0, rfl, hg, fun i hi => ?_⟩
  obtain ⟨cv, c0, c1, c2, c3⟩ := hc i hi
  rw [Nat.zero_add]
  exact ⟨cv, c0, c1, c2, c3.in⟩
theorem FdsRow.in {base : Nat} {l : List FdT} (h : FdsRow w base v l) : DefsIn w v l := by
  obtain ⟨a, c, rfl⟩ := h.slice
  refine ⟨a, c, rfl, fun h0 => ?_⟩
  obtain ⟨g, cap, pv, e, hg, _⟩ := h.at 0 h0
  cases e
  refine ⟨g, 0, rfl, hg, fun i hi => ?_⟩
  obtain ⟨g', cap', pv', e, _, _, c0, c1, c2, c3, c4, c5, c6, c7⟩ := h.at i hi
  cases e
  rw [Nat.zero_add]
  exact ⟨pv', c0, c1, c2, c3, c4, c5, c6, c7.in⟩
end
end Go.Proofs.YtofhcgbihonckaaGreat
namespace Go.Proofs.YtofhcgbihonckaaGreat
open Go.RowKit
theorem nm_ne4 {a b : ByteArray} (h : (a.toList == b.toList) = false) : a ≠ b := fun e => by rw [e] at h; simp at h
theorem nm_eq4 {a b : ByteArray} (h : (a.toList == b.toList) = true) : a = b := by
  rw [beq_iff_eq, ByteArray.toList_eq, ByteArray.toList_eq] at h
  exact ByteArray.ext (Array.toList_inj.1 h)
def SameP4 (ps qs : List CellT) (X Y : Nat) (c1 c2 : Array Value) (W : World) (f : Nat) (x : Value) (w : World) : Prop :=
  ∃ i : Nat, x = .int .i64 i ∧ i ≤ ps.length ∧ ps.length ≤ i + f ∧ Hid (∀ j (h1 : j < ps.length) (h2 : j < qs.length), j < i → ps[j] = qs[j]) ∧ Holds w X c1 75 ∧ Holds w Y c2 75 ∧ Below W.heap.size W w
set_option maxRecDepth 100000 in
set_option maxHeartbeats 4000000 in
theorem r4_samePart (p q : PartT) (v u : Value) (w : World) (h1 : CellsIn w v p.cells) (h2 : CellsIn w u q.cells) (hl1 : p.cells.length ≤ 9223372036854775807) :
    Calls Tryz.prog 35 #[.agg #[.int .i64 p.kind, v, .string p.text], .agg #[.int .i64 q.kind, u, .string q.text]] w fun e w' => ∃ b, e = .returned (.bool b) ∧ (b = true ↔ p = q) ∧ Below w.heap.size w w' := by
  obtain ⟨pk, ps, pt⟩ := p
  obtain ⟨qk, qs, qt⟩ := q
  simp only at h1 h2 hl1 ⊢
  obtain ⟨a, cap, rfl⟩ := h1.slice
  obtain ⟨a', cap', rfl⟩ := h2.slice
  have H1 := Lib.hid h1; have H2 := Lib.hid h2; clear h1 h2
  have hX := (Holds.new w #[.int .i64 pk, .slice a ps.length cap, .string pt] 75).alloc (.cells #[.int .i64 qk, .slice a' qs.length cap', .string qt] 75)
  have hY := Holds.newAt (w := w.alloc (.cells #[.int .i64 pk, .slice a ps.length cap, .string pt] 75)) (B := w.heap.size + 1) (by simp) #[.int .i64 qk, .slice a' qs.length cap', .string qt] 75
  have hb0 : Below w.heap.size w ((w.alloc (.cells #[.int .i64 pk, .slice a ps.length cap, .string pt] 75)).alloc (.cells #[.int .i64 qk, .slice a' qs.length cap', .string qt] 75)) := ((Below.refl _ _).alloc (Nat.le_refl _) _).alloc (by simp) _
  by_cases hpq : pk = qk
  · have hpq' : (pk != qk) = false := by simpa using hpq
    have HPQ := Lib.hid hpq
    clear hpq
    cases hnm : (pt.toList == qt.toList) with
    | false =>
      have hne := Lib.hid (nm_ne4 hnm)
      go_enter Tryz.func35, Tryz.ntmps35
      go_wp2_with fail
      go_ret
      exact ⟨false, rfl, by simp [hne.out], hb0⟩
    | true =>
      have heq := Lib.hid (nm_eq4 hnm)
      by_cases hl : ps.length = qs.length
      · have hl' : ((ps.length : Int) != (qs.length : Int)) = false := by rw [hl]; simp
        have HL := Lib.hid hl
        clear hl
        go_enter Tryz.func35, Tryz.ntmps35
        go_wp2_with fail
        go_loopg [30] ps.length (fun f x wr => SameP4 ps qs w.heap.size (w.heap.size + 1) #[.int .i64 pk, .slice a ps.length cap, .string pt] #[.int .i64 qk, .slice a' qs.length cap', .string qt] w f x wr)
        case atStart => exact ⟨0, rfl, by omega, by omega, Lib.hid (fun j _ _ h => by omega), hX, hY, hb0⟩
        case round =>
          clear hX hY hb0
          obtain ⟨i, rfl, hi1, hi2, hall, hX, hY, hb⟩ := hrel
          by_cases hlt : i < ps.length
          · have hlt2 : i < qs.length := by rw [← HL.out]; exact hlt
            have k1 : (i : Int) < ps.length := by omega
            have k2 : (i : Int) < qs.length := by omega
            have x2 := hX.cell 1
            have y2 := hY.cell 1
            obtain ⟨_, _, e1, g1⟩ := H1.out.new hb
            cases e1
            obtain ⟨g, o, rfl, hg, hc⟩ := g1 (by omega)
            obtain ⟨c0, c1⟩ := hc i hlt
            obtain ⟨_, _, e2, g2⟩ := H2.out.new hb
            cases e2
            obtain ⟨g', o', rfl, hg', hd⟩ := g2 (by omega)
            obtain ⟨d0, d1⟩ := hd i hlt2
            have HB := Lib.hid hb
            have HX := Lib.hid hX
            have HY := Lib.hid hY
            have HALL := hall
            clear hb hX hY hall hc hd g1 g2
            by_cases hcv : ps[i].value = qs[i].value
            · have e1 : (ps[i].value == qs[i].value) = true := by rw [hcv]; simp
              cases e2 : (ps[i].label.toList == qs[i].label.toList) with
              | true =>
                have hce : ps[i] = qs[i] := by
                  have h3 := nm_eq4 e2
                  cases hx : ps[i]; cases hy : qs[i]
                  rw [hx, hy] at hcv h3
                  simp only at hcv h3
                  rw [hcv, h3]
                have HPE := Lib.hid hce
                clear hce hcv
                generalize ps[i].value = a1 at *
                generalize ps[i].label = a2 at *
                generalize qs[i].value = b1 at *
                generalize qs[i].label = b2 at *
                go_wp2_with fail
                go_quiet (fail)
                go_wp2_with fail
                go_roundg (gk - 1)
                case measure => omega
                case rel =>
                  refine ⟨i + 1, by go_num, by omega, by omega, Lib.hid (fun j j1 j2 h => ?_), HX.out, HY.out, ⟨HB.out.os, HB.out.tape, HB.out.output, HB.out.size, HB.out.block⟩⟩
                  by_cases e : j = i
                  · subst e; exact HPE.out
                  · exact HALL.out j j1 j2 (by omega)
              | false =>
                have hps := Lib.hid (show ps ≠ qs from fun e => nm_ne4 e2 (by subst e; rfl))
                clear hcv
                generalize ps[i].value = a1 at *
                generalize ps[i].label = a2 at *
                generalize qs[i].value = b1 at *
                generalize qs[i].label = b2 at *
                go_wp2_with fail
                go_quiet (fail)
                go_wp2_with fail
                go_ret
                exact ⟨false, rfl, by simp [hps.out], ⟨HB.out.os, HB.out.tape, HB.out.output, HB.out.size, HB.out.block⟩⟩
            · have e1 : (ps[i].value == qs[i].value) = false := by rw [beq_eq_false_iff_ne]; exact hcv
              have hps := Lib.hid (show ps ≠ qs from fun e => hcv (by subst e; rfl))
              clear hcv
              generalize ps[i].value = a1 at *
              generalize ps[i].label = a2 at *
              generalize qs[i].value = b1 at *
              generalize qs[i].label = b2 at *
              go_wp2_with fail
              go_quiet (fail)
              go_wp2_with fail
              go_ret
              exact ⟨false, rfl, by simp [hps.out], ⟨HB.out.os, HB.out.tape, HB.out.output, HB.out.size, HB.out.block⟩⟩
          · obtain rfl : i = ps.length := by omega
            have hps := Lib.hid (show ps = qs from List.ext_getElem HL.out (fun j j1 j2 => hall.out j j1 j2 j1))
            have HB := Lib.hid hb
            clear hb hX hY hall
            go_wp2_with fail
            go_ret
            exact ⟨true, rfl, by simp [HPQ.out, hps.out, heq.out], HB.out⟩
      · have hl' : ((ps.length : Int) != (qs.length : Int)) = true := by rw [bne_iff_ne]; omega
        have hps := Lib.hid (show ps ≠ qs from fun e => hl (by rw [e]))
        clear hl
        go_enter Tryz.func35, Tryz.ntmps35
        go_wp2_with fail
        go_ret
        exact ⟨false, rfl, by simp [hps.out], hb0⟩
  · have hpq' : (pk != qk) = true := by simpa using hpq
    have HPQ := Lib.hid hpq
    clear hpq
    go_enter Tryz.func35, Tryz.ntmps35
    go_wp2_with fail
    go_ret
    exact ⟨false, rfl, by simp [HPQ.out], hb0⟩
end Go.Proofs.YtofhcgbihonckaaGreat
namespace Go.Proofs.YtofhcgbihonckaaGreat
open Go.RowKit
theorem name_eqD (a b : ByteArray) : (a.toList == b.toList) = decide (a = b) := by
  by_cases h : a = b
  · subst h; simp
  · rw [decide_eq_false h, beq_eq_false_iff_ne]
    intro e
    rw [ByteArray.toList_eq, ByteArray.toList_eq] at e
    exact h (ByteArray.ext (Array.toList_inj.1 e))
set_option maxRecDepth 100000 in
set_option maxHeartbeats 16000000 in
theorem r4_Same (v u : Value) (l1 l2 : List FdT) (w : World) (h1 : DefsIn w v l1) (h2 : DefsIn w u l2) (hl1 : l1.length ≤ 9223372036854775807) (hok : ∀ x ∈ l1, x.2.parts.length ≤ 9223372036854775807 ∧ ∀ p ∈ x.2.parts, p.cells.length ≤ 9223372036854775807) :
    Calls Tryz.prog 15 #[v, u] w fun e w' => ∃ b, e = .returned (.bool b) ∧ (b = true ↔ l1 = l2) ∧ Below w.heap.size w w' := by
  obtain ⟨a, cap, rfl⟩ := h1.slice
  obtain ⟨a', cap', rfl⟩ := h2.slice
  have H1 := Lib.hid h1; have H2 := Lib.hid h2
  have HOK := Lib.hid hok
  clear h1 h2 hok
  by_cases hl : l1.length = l2.length
  · have hl' : ((l1.length : Int) != (l2.length : Int)) = false := by rw [bne_eq_false_iff_eq]; omega
    have HL := Lib.hid hl
    have hb0 := Lib.hid (Below.refl w.heap.size w)
    clear hl
    go_enter Tryz.func15, Tryz.ntmps15
    go_wp2_with fail
    go_loopg [16] l1.length (fun f x wr => ∃ i : Nat, x = .int .i64 i ∧ i ≤ l1.length ∧ l1.length ≤ i + f ∧ Hid (∀ j (h1 : j < l1.length) (h2 : j < l2.length), j < i → l1[j] = l2[j]) ∧ Below w.heap.size w wr)
    case atStart => exact ⟨0, rfl, by omega, by omega, Lib.hid (fun j _ _ h => by omega), hb0.out⟩
    case round =>
      obtain ⟨io, rfl, hi1, hi2, hall, hb⟩ := hrel
      obtain ⟨go, rfl⟩ : ∃ x : Nat, x = gk := ⟨_, rfl⟩
      obtain ⟨wo, rfl⟩ : ∃ x : World, x = wr := ⟨_, rfl⟩
      by_cases hlt : io < l1.length
      · have hlt2 : io < l2.length := by rw [← HL.out]; exact hlt
        have k1 : (io : Int) < l1.length := by omega
        have k2 : (io : Int) < l2.length := by omega
        obtain ⟨_, _, e1, g1⟩ := H1.out.new hb
        cases e1
        obtain ⟨g, o, rfl, hg, hc⟩ := g1 (by omega)
        obtain ⟨xv, c0, c1, c2, c3, c4, c5, c6, hpx⟩ := hc io hlt
        obtain ⟨_, _, e2, g2⟩ := H2.out.new hb
        cases e2
        obtain ⟨g', o', rfl, hg', hd⟩ := g2 (by omega)
        obtain ⟨yv, d0, d1, d2, d3, d4, d5, d6, hpy⟩ := hd io hlt2
        obtain ⟨hp1, hp2⟩ := HOK.out l1[io] (List.getElem_mem hlt)
        have HAY := Lib.hid (show ∀ x y : FdT, x = l1[io] → y = l2[io] → x = y → ∀ j (h1 : j < l1.length) (h2 : j < l2.length), j < io + 1 → l1[j] = l2[j] from fun x y ex ey exy j h1 h2 hj => by
          by_cases e : j = io
          · subst e; rw [← ex, ← ey, exy]
          · exact hall.out j h1 h2 (by omega))
        have HNX := Lib.hid (show l1 = l2 → l1[io] = l2[io] from fun e => by subst e; rfl)
        obtain ⟨x, hx⟩ : ∃ x, x = l1[io] := ⟨_, rfl⟩
        obtain ⟨y, hy⟩ : ∃ y, y = l2[io] := ⟨_, rfl⟩
        have HAZ := Lib.hid (fun e => HAY.out x y hx hy e)
        rw [← hx] at c0 c1 c2 c4 c5 c6 hpx hp1 hp2 HNX
        rw [← hy] at d0 d1 d2 d4 d5 d6 hpy HNX
        clear HAY hx hy hc hd g1 g2 hall
        obtain ⟨xf, xk, xl, xn, xps, xln, xcl⟩ := x
        obtain ⟨yf, yk, yl, yn, yps, yln, ycl⟩ := y
        simp only at c0 c1 c2 c4 c5 c6 d0 d1 d2 d4 d5 d6 hpx hpy hp1 hp2
        obtain ⟨xa, xc, rfl⟩ := hpx.slice
        obtain ⟨ya, yc, rfl⟩ := hpy.slice
        have HNE := Lib.hid (show l1 = l2 → xk = yk ∧ xl = yl ∧ xn = yn ∧ xf = yf ∧ xln = yln ∧ xcl = ycl ∧ xps.length = yps.length from fun e => by
          have h9 := HNX.out e
          injection h9 with h8 h9
          injection h9 with q1 q2 q3 q4 q5 q6
          exact ⟨q1, q2, q3, h8, q5, q6, by rw [q4]⟩)
        have HPQ := Lib.hid (show l1 = l2 → xps = yps from fun e => by
          have h9 := HNX.out e
          injection h9 with h8 h9
          injection h9)
        have HEQ := Lib.hid (show xk = yk → xl = yl → xn = yn → xf = yf → xln = yln → xcl = ycl → xps = yps → ∀ j (h1 : j < l1.length) (h2 : j < l2.length), j < io + 1 → l1[j] = l2[j] from fun a1 a2 a3 a4 a5 a6 a7 => HAZ.out (by subst a1 a2 a3 a4 a5 a6 a7; rfl))
        have OKL := Lib.hid hp2
        have PX := Lib.hid (show ∀ wz, Below wo.heap.size wo wz → PartsIn wz (.slice xa xps.length xc) xps from fun wz hz => hpx.new hz)
        have PY := Lib.hid (show ∀ wz, Below wo.heap.size wo wz → PartsIn wz (.slice ya yps.length yc) yps from fun wz hz => hpy.new hz)
        have HBO := Lib.hid hb
        clear HNX HAZ hp2 hpx hpy hb
        go_upto_region 6 with fail
        go_region
        · have HX := Lib.hid (((Holds.new wo #[.int .i64 xk, .string xl, .string xn, .slice xa xps.length xc, .int .i64 xf, .int .i64 xln, .int .i64 xcl] 34).alloc (Obj.cells #[.int .i64 yk, .string yl, .string yn, .slice ya yps.length yc, .int .i64 yf, .int .i64 yln, .int .i64 ycl] 34)).drew)
          have HY := Lib.hid (((Holds.newAt (w := wo.alloc (Obj.cells #[.int .i64 xk, .string xl, .string xn, .slice xa xps.length xc, .int .i64 xf, .int .i64 xln, .int .i64 xcl] 34)) (B := wo.heap.size + 1) (by simp) #[.int .i64 yk, .string yl, .string yn, .slice ya yps.length yc, .int .i64 yf, .int .i64 yln, .int .i64 ycl] 34)).drew)
          have HBX := Lib.hid ((((Below.refl wo.heap.size wo).alloc (Nat.le_refl _) (.cells #[.int .i64 xk, .string xl, .string xn, .slice xa xps.length xc, .int .i64 xf, .int .i64 xln, .int .i64 xcl] 34)).alloc (by simp) (.cells #[.int .i64 yk, .string yl, .string yn, .slice ya yps.length yc, .int .i64 yf, .int .i64 yln, .int .i64 ycl] 34)).drew)
          have HBW := Lib.hid (HBO.out.trans (HBX.out.mono HBO.out.size))
          clear c0 c1 c2 c3 c4 c5 c6 d0 d1 d2 d3 d4 d5 d6
          generalize ((wo.alloc (.cells #[.int .i64 xk, .string xl, .string xn, .slice xa xps.length xc, .int .i64 xf, .int .i64 xln, .int .i64 xcl] 34)).alloc (.cells #[.int .i64 yk, .string yl, .string yn, .slice ya yps.length yc, .int .i64 yf, .int .i64 yln, .int .i64 ycl] 34)).drew = w1 at *
          obtain ⟨c0, c1, c2, c3, c4, c5, c6⟩ := seven_cells HX.out
          obtain ⟨d0, d1, d2, d3, d4, d5, d6⟩ := seven_cells HY.out
          have hxl := HX.out.lt
          have hyl := HY.out.lt
          by_cases hk : xk = yk
          · have hk' : (xk != yk) = false := by rw [bne_eq_false_iff_eq]; exact hk
            have HKQ := Lib.hid hk
            clear hk
            by_cases hl : xl = yl
            · have hl' : (xl.toList == yl.toList) = true := by rw [hl]; simp
              have HLQ := Lib.hid hl
              clear hl
              by_cases hn : xn = yn
              · have hn' : (xn.toList == yn.toList) = true := by rw [hn]; simp
                have HNQ := Lib.hid hn
                clear hn
                by_cases hf : xf = yf
                · have hf' : (xf == yf) = true := by rw [beq_iff_eq]; exact hf
                  have HFQ := Lib.hid hf
                  clear hf
                  by_cases hln : xln = yln
                  · have hln' : (xln == yln) = true := by rw [beq_iff_eq]; exact hln
                    have HLNQ := Lib.hid hln
                    clear hln
                    by_cases hcl : xcl = ycl
                    · have hcl' : (xcl == ycl) = true := by rw [beq_iff_eq]; exact hcl
                      have HCLQ := Lib.hid hcl
                      clear hcl
                      by_cases hps : xps.length = yps.length
                      · have hps' : ((xps.length : Int) != (yps.length : Int)) = false := by rw [bne_eq_false_iff_eq]; omega
                        have HPSQ := Lib.hid hps
                        clear hps
                        go_wp2_with fail
                        go_loopg [65] xps.length (fun f x wx => ∃ k : Nat, x = .int .i64 k ∧ k ≤ xps.length ∧ xps.length ≤ k + f ∧ Hid (∀ j (h1 : j < xps.length) (h2 : j < yps.length), j < k → xps[j] = yps[j]) ∧ Holds wx wo.heap.size #[.int .i64 xk, .string xl, .string xn, .slice xa xps.length xc, .int .i64 xf, .int .i64 xln, .int .i64 xcl] 34 ∧ Holds wx (wo.heap.size + 1) #[.int .i64 yk, .string yl, .string yn, .slice ya yps.length yc, .int .i64 yf, .int .i64 yln, .int .i64 ycl] 34 ∧ Below wo.heap.size wo wx)
                        case atStart => exact ⟨0, rfl, by omega, by omega, Lib.hid (fun j _ _ h => by omega), HX.out, HY.out, ⟨HBX.out.os, HBX.out.tape, HBX.out.output, HBX.out.size, HBX.out.block⟩⟩
                        case round =>
                          clear c0 c1 c2 c3 c4 c5 c6 d0 d1 d2 d3 d4 d5 d6
                          obtain ⟨k, rfl, hk1, hk2, hall2, hX2, hY2, hb2⟩ := hrel
                          have hX3 := hX2.cell 3
                          have hY3 := hY2.cell 3
                          by_cases hklt : k < xps.length
                          · have hklt2 : k < yps.length := by have := HPSQ.out; omega
                            have m1 : (k : Int) < xps.length := by omega
                            have m2 : (k : Int) < yps.length := by omega
                            obtain ⟨_, _, e1, g1⟩ := PX.out wr hb2
                            cases e1
                            obtain ⟨pg, po, rfl, hpg, hc⟩ := g1 (by omega)
                            obtain ⟨cv, p0, p1, p2, p3⟩ := hc k hklt
                            obtain ⟨_, _, e2, g2⟩ := PY.out wr hb2
                            cases e2
                            obtain ⟨qg, qo, rfl, hqg, hd⟩ := g2 (by omega)
                            obtain ⟨du, q0, q1, q2, q3⟩ := hd k hklt2
                            have HSP := Lib.hid (fun (wz : World) (hz : Below wr.heap.size wr wz) => r4_samePart xps[k] yps[k] cv du wz (p3.new hz) (q3.new hz) (OKL.out _ (List.getElem_mem hklt)))
                            have HXX := Lib.hid hX2
                            have HYY := Lib.hid hY2
                            have HB2 := Lib.hid hb2
                            have hxl := hX2.lt
                            have hyl := hY2.lt
                            obtain ⟨ca, cc, e3⟩ := p3.slice
                            obtain ⟨da, dc, e4⟩ := q3.slice
                            have HPE := Lib.hid (show xps[k] ≠ yps[k] → l1 ≠ l2 from fun hn e => hn (by have h9 := (HPQ.out e); subst h9; rfl))
                            have HAX := Lib.hid (show ∀ x y : PartT, x = xps[k] → y = yps[k] → x = y → ∀ j (h1 : j < xps.length) (h2 : j < yps.length), j < k + 1 → xps[j] = yps[j] from fun x y ex ey exy j h1 h2 hj => by
                              by_cases e : j = k
                              · subst e; rw [← ex, ← ey, exy]
                              · exact hall2.out j h1 h2 (by omega))
                            have hxq : ∃ x, x = xps[k] := ⟨_, rfl⟩
                            obtain ⟨xq, hxq⟩ := hxq
                            have hyq : ∃ y, y = yps[k] := ⟨_, rfl⟩
                            obtain ⟨yq, hyq⟩ := hyq
                            have HAY := Lib.hid (fun e => HAX.out xq yq hxq hyq e)
                            rw [← hxq] at p0 p2 e3 HSP HPE
                            rw [← hyq] at q0 q2 e4 HSP HPE
                            clear HAX hxq hyq hX2 hY2 p3 q3 hc hd g1 g2 hall2
                            obtain ⟨xk3, xcs, xt3⟩ := xq
                            obtain ⟨yk3, ycs, yt3⟩ := yq
                            simp only at p0 p2 q0 q2 e3 e4
                            subst e3 e4
                            go_upto_region 12 with fail
                            go_region_with (go_at_call 35; refine (by exact HSP.out _ ((Below.refl _ _).drew) : Calls _ _ _ _ _).mono ?_; rintro e w2 ⟨b, rfl, hbi, hb3⟩)
                            all_goals
                              have hbx : Below wr.heap.size wr w2 := ((Below.refl wr.heap.size wr).drew).trans hb3
                              have HB4 := Lib.hid (HB2.out.trans (hbx.mono HB2.out.size))
                              have HB5 := Lib.hid (HBO.out.trans (HB4.out.mono HBO.out.size))
                              have HX4 := Lib.hid (HXX.out.keeps (Keeps.of_fresh hbx (fun _ => False)) (fun e => e))
                              have HY4 := Lib.hid (HYY.out.keeps (Keeps.of_fresh hbx (fun _ => False)) (fun e => e))
                              clear hb3 hbx
                              cases b with
                              | true =>
                                have HEQ := Lib.hid (HAY.out (hbi.1 rfl))
                                clear hbi
                                go_wp2_with fail
                                go_roundg (gk - 1)
                                case measure => omega
                                case rel => exact ⟨k + 1, by go_num, by omega, by omega, Lib.hid HEQ.out, HX4.out, HY4.out, ⟨HB4.out.os, HB4.out.tape, HB4.out.output, HB4.out.size, HB4.out.block⟩⟩
                              | false =>
                                have hne := Lib.hid (HPE.out (fun e => by have := hbi.2 e; cases this))
                                clear hbi
                                go_wp2_with fail
                                go_ret
                                exact ⟨false, rfl, by simp [hne.out], HB5.out⟩
                          · obtain rfl : k = xps.length := by omega
                            have hpe := Lib.hid (show xps = yps from List.ext_getElem HPSQ.out (fun j j1 j2 => hall2.out j j1 j2 j1))
                            have HNX := Lib.hid (HEQ.out HKQ.out HLQ.out HNQ.out HFQ.out HLNQ.out HCLQ.out hpe.out)
                            have HB2 := Lib.hid (HBO.out.trans (hb2.mono HBO.out.size))
                            clear hX2 hY2 hall2 hb2
                            go_wp2_with fail
                            go_roundg (go - 1)
                            case measure => omega
                            case rel => exact ⟨io + 1, by go_num, by omega, by omega, Lib.hid HNX.out, ⟨HB2.out.os, HB2.out.tape, HB2.out.output, HB2.out.size, HB2.out.block⟩⟩
                      · have hps' : ((xps.length : Int) != (yps.length : Int)) = true := by rw [bne_iff_ne]; omega
                        have hne := Lib.hid (show l1 ≠ l2 from fun e => hps (HNE.out e).2.2.2.2.2.2)
                        clear hps
                        go_wp2_with fail
                        all_goals
                          go_ret
                          exact ⟨false, rfl, by simp [hne.out], HBW.out⟩
                    · have hcl' : (xcl == ycl) = false := by rw [beq_eq_false_iff_ne]; exact hcl
                      have hne := Lib.hid (show l1 ≠ l2 from fun e => hcl (HNE.out e).2.2.2.2.2.1)
                      clear hcl
                      go_wp2_with fail
                      all_goals
                        go_ret
                        exact ⟨false, rfl, by simp [hne.out], HBW.out⟩
                  · have hln' : (xln == yln) = false := by rw [beq_eq_false_iff_ne]; exact hln
                    have hne := Lib.hid (show l1 ≠ l2 from fun e => hln (HNE.out e).2.2.2.2.1)
                    clear hln
                    go_wp2_with fail
                    all_goals
                      go_ret
                      exact ⟨false, rfl, by simp [hne.out], HBW.out⟩
                · have hf' : (xf == yf) = false := by rw [beq_eq_false_iff_ne]; exact hf
                  have hne := Lib.hid (show l1 ≠ l2 from fun e => hf (HNE.out e).2.2.2.1)
                  clear hf
                  go_wp2_with fail
                  all_goals
                    go_ret
                    exact ⟨false, rfl, by simp [hne.out], HBW.out⟩
              · have hn' : (xn.toList == yn.toList) = false := by rw [name_eqD]; exact decide_eq_false hn
                have hne := Lib.hid (show l1 ≠ l2 from fun e => hn (HNE.out e).2.2.1)
                clear hn
                go_wp2_with fail
                all_goals
                  go_ret
                  exact ⟨false, rfl, by simp [hne.out], HBW.out⟩
            · have hl' : (xl.toList == yl.toList) = false := by rw [name_eqD]; exact decide_eq_false hl
              have hne := Lib.hid (show l1 ≠ l2 from fun e => hl (HNE.out e).2.1)
              clear hl
              go_wp2_with fail
              all_goals
                go_ret
                exact ⟨false, rfl, by simp [hne.out], HBW.out⟩
          · have hk' : (xk != yk) = true := by rw [bne_iff_ne]; exact hk
            have hne := Lib.hid (show l1 ≠ l2 from fun e => hk (HNE.out e).1)
            clear hk
            go_wp2_with fail
            all_goals
              go_ret
              exact ⟨false, rfl, by simp [hne.out], HBW.out⟩
        · have HX := Lib.hid (((Holds.newAt (w := wo.alloc (Obj.cells #[.int .i64 yk, .string yl, .string yn, .slice ya yps.length yc, .int .i64 yf, .int .i64 yln, .int .i64 ycl] 34)) (B := wo.heap.size + 1) (by simp) #[.int .i64 xk, .string xl, .string xn, .slice xa xps.length xc, .int .i64 xf, .int .i64 xln, .int .i64 xcl] 34)).drew)
          have HY := Lib.hid (((Holds.new wo #[.int .i64 yk, .string yl, .string yn, .slice ya yps.length yc, .int .i64 yf, .int .i64 yln, .int .i64 ycl] 34).alloc (Obj.cells #[.int .i64 xk, .string xl, .string xn, .slice xa xps.length xc, .int .i64 xf, .int .i64 xln, .int .i64 xcl] 34)).drew)
          have HBX := Lib.hid ((((Below.refl wo.heap.size wo).alloc (Nat.le_refl _) (.cells #[.int .i64 yk, .string yl, .string yn, .slice ya yps.length yc, .int .i64 yf, .int .i64 yln, .int .i64 ycl] 34)).alloc (by simp) (.cells #[.int .i64 xk, .string xl, .string xn, .slice xa xps.length xc, .int .i64 xf, .int .i64 xln, .int .i64 xcl] 34)).drew)
          have HBW := Lib.hid (HBO.out.trans (HBX.out.mono HBO.out.size))
          clear c0 c1 c2 c3 c4 c5 c6 d0 d1 d2 d3 d4 d5 d6
          generalize ((wo.alloc (.cells #[.int .i64 yk, .string yl, .string yn, .slice ya yps.length yc, .int .i64 yf, .int .i64 yln, .int .i64 ycl] 34)).alloc (.cells #[.int .i64 xk, .string xl, .string xn, .slice xa xps.length xc, .int .i64 xf, .int .i64 xln, .int .i64 xcl] 34)).drew = w1 at *
          obtain ⟨c0, c1, c2, c3, c4, c5, c6⟩ := seven_cells HX.out
          obtain ⟨d0, d1, d2, d3, d4, d5, d6⟩ := seven_cells HY.out
          have hxl := HX.out.lt
          have hyl := HY.out.lt
          by_cases hk : xk = yk
          · have hk' : (xk != yk) = false := by rw [bne_eq_false_iff_eq]; exact hk
            have HKQ := Lib.hid hk
            clear hk
            by_cases hl : xl = yl
            · have hl' : (xl.toList == yl.toList) = true := by rw [hl]; simp
              have HLQ := Lib.hid hl
              clear hl
              by_cases hn : xn = yn
              · have hn' : (xn.toList == yn.toList) = true := by rw [hn]; simp
                have HNQ := Lib.hid hn
                clear hn
                by_cases hf : xf = yf
                · have hf' : (xf == yf) = true := by rw [beq_iff_eq]; exact hf
                  have HFQ := Lib.hid hf
                  clear hf
                  by_cases hln : xln = yln
                  · have hln' : (xln == yln) = true := by rw [beq_iff_eq]; exact hln
                    have HLNQ := Lib.hid hln
                    clear hln
                    by_cases hcl : xcl = ycl
                    · have hcl' : (xcl == ycl) = true := by rw [beq_iff_eq]; exact hcl
                      have HCLQ := Lib.hid hcl
                      clear hcl
                      by_cases hps : xps.length = yps.length
                      · have hps' : ((xps.length : Int) != (yps.length : Int)) = false := by rw [bne_eq_false_iff_eq]; omega
                        have HPSQ := Lib.hid hps
                        clear hps
                        go_wp2_with fail
                        go_loopg [65] xps.length (fun f x wx => ∃ k : Nat, x = .int .i64 k ∧ k ≤ xps.length ∧ xps.length ≤ k + f ∧ Hid (∀ j (h1 : j < xps.length) (h2 : j < yps.length), j < k → xps[j] = yps[j]) ∧ Holds wx (wo.heap.size + 1) #[.int .i64 xk, .string xl, .string xn, .slice xa xps.length xc, .int .i64 xf, .int .i64 xln, .int .i64 xcl] 34 ∧ Holds wx wo.heap.size #[.int .i64 yk, .string yl, .string yn, .slice ya yps.length yc, .int .i64 yf, .int .i64 yln, .int .i64 ycl] 34 ∧ Below wo.heap.size wo wx)
                        case atStart => exact ⟨0, rfl, by omega, by omega, Lib.hid (fun j _ _ h => by omega), HX.out, HY.out, ⟨HBX.out.os, HBX.out.tape, HBX.out.output, HBX.out.size, HBX.out.block⟩⟩
                        case round =>
                          clear c0 c1 c2 c3 c4 c5 c6 d0 d1 d2 d3 d4 d5 d6
                          obtain ⟨k, rfl, hk1, hk2, hall2, hX2, hY2, hb2⟩ := hrel
                          have hX3 := hX2.cell 3
                          have hY3 := hY2.cell 3
                          by_cases hklt : k < xps.length
                          · have hklt2 : k < yps.length := by have := HPSQ.out; omega
                            have m1 : (k : Int) < xps.length := by omega
                            have m2 : (k : Int) < yps.length := by omega
                            obtain ⟨_, _, e1, g1⟩ := PX.out wr hb2
                            cases e1
                            obtain ⟨pg, po, rfl, hpg, hc⟩ := g1 (by omega)
                            obtain ⟨cv, p0, p1, p2, p3⟩ := hc k hklt
                            obtain ⟨_, _, e2, g2⟩ := PY.out wr hb2
                            cases e2
                            obtain ⟨qg, qo, rfl, hqg, hd⟩ := g2 (by omega)
                            obtain ⟨du, q0, q1, q2, q3⟩ := hd k hklt2
                            have HSP := Lib.hid (fun (wz : World) (hz : Below wr.heap.size wr wz) => r4_samePart xps[k] yps[k] cv du wz (p3.new hz) (q3.new hz) (OKL.out _ (List.getElem_mem hklt)))
                            have HXX := Lib.hid hX2
                            have HYY := Lib.hid hY2
                            have HB2 := Lib.hid hb2
                            have hxl := hX2.lt
                            have hyl := hY2.lt
                            obtain ⟨ca, cc, e3⟩ := p3.slice
                            obtain ⟨da, dc, e4⟩ := q3.slice
                            have HPE := Lib.hid (show xps[k] ≠ yps[k] → l1 ≠ l2 from fun hn e => hn (by have h9 := (HPQ.out e); subst h9; rfl))
                            have HAX := Lib.hid (show ∀ x y : PartT, x = xps[k] → y = yps[k] → x = y → ∀ j (h1 : j < xps.length) (h2 : j < yps.length), j < k + 1 → xps[j] = yps[j] from fun x y ex ey exy j h1 h2 hj => by
                              by_cases e : j = k
                              · subst e; rw [← ex, ← ey, exy]
                              · exact hall2.out j h1 h2 (by omega))
                            have hxq : ∃ x, x = xps[k] := ⟨_, rfl⟩
                            obtain ⟨xq, hxq⟩ := hxq
                            have hyq : ∃ y, y = yps[k] := ⟨_, rfl⟩
                            obtain ⟨yq, hyq⟩ := hyq
                            have HAY := Lib.hid (fun e => HAX.out xq yq hxq hyq e)
                            rw [← hxq] at p0 p2 e3 HSP HPE
                            rw [← hyq] at q0 q2 e4 HSP HPE
                            clear HAX hxq hyq hX2 hY2 p3 q3 hc hd g1 g2 hall2
                            obtain ⟨xk3, xcs, xt3⟩ := xq
                            obtain ⟨yk3, ycs, yt3⟩ := yq
                            simp only at p0 p2 q0 q2 e3 e4
                            subst e3 e4
                            go_upto_region 12 with fail
                            go_region_with (go_at_call 35; refine (by exact HSP.out _ ((Below.refl _ _).drew) : Calls _ _ _ _ _).mono ?_; rintro e w2 ⟨b, rfl, hbi, hb3⟩)
                            all_goals
                              have hbx : Below wr.heap.size wr w2 := ((Below.refl wr.heap.size wr).drew).trans hb3
                              have HB4 := Lib.hid (HB2.out.trans (hbx.mono HB2.out.size))
                              have HB5 := Lib.hid (HBO.out.trans (HB4.out.mono HBO.out.size))
                              have HX4 := Lib.hid (HXX.out.keeps (Keeps.of_fresh hbx (fun _ => False)) (fun e => e))
                              have HY4 := Lib.hid (HYY.out.keeps (Keeps.of_fresh hbx (fun _ => False)) (fun e => e))
                              clear hb3 hbx
                              cases b with
                              | true =>
                                have HEQ := Lib.hid (HAY.out (hbi.1 rfl))
                                clear hbi
                                go_wp2_with fail
                                go_roundg (gk - 1)
                                case measure => omega
                                case rel => exact ⟨k + 1, by go_num, by omega, by omega, Lib.hid HEQ.out, HX4.out, HY4.out, ⟨HB4.out.os, HB4.out.tape, HB4.out.output, HB4.out.size, HB4.out.block⟩⟩
                              | false =>
                                have hne := Lib.hid (HPE.out (fun e => by have := hbi.2 e; cases this))
                                clear hbi
                                go_wp2_with fail
                                go_ret
                                exact ⟨false, rfl, by simp [hne.out], HB5.out⟩
                          · obtain rfl : k = xps.length := by omega
                            have hpe := Lib.hid (show xps = yps from List.ext_getElem HPSQ.out (fun j j1 j2 => hall2.out j j1 j2 j1))
                            have HNX := Lib.hid (HEQ.out HKQ.out HLQ.out HNQ.out HFQ.out HLNQ.out HCLQ.out hpe.out)
                            have HB2 := Lib.hid (HBO.out.trans (hb2.mono HBO.out.size))
                            clear hX2 hY2 hall2 hb2
                            go_wp2_with fail
                            go_roundg (go - 1)
                            case measure => omega
                            case rel => exact ⟨io + 1, by go_num, by omega, by omega, Lib.hid HNX.out, ⟨HB2.out.os, HB2.out.tape, HB2.out.output, HB2.out.size, HB2.out.block⟩⟩
                      · have hps' : ((xps.length : Int) != (yps.length : Int)) = true := by rw [bne_iff_ne]; omega
                        have hne := Lib.hid (show l1 ≠ l2 from fun e => hps (HNE.out e).2.2.2.2.2.2)
                        clear hps
                        go_wp2_with fail
                        all_goals
                          go_ret
                          exact ⟨false, rfl, by simp [hne.out], HBW.out⟩
                    · have hcl' : (xcl == ycl) = false := by rw [beq_eq_false_iff_ne]; exact hcl
                      have hne := Lib.hid (show l1 ≠ l2 from fun e => hcl (HNE.out e).2.2.2.2.2.1)
                      clear hcl
                      go_wp2_with fail
                      all_goals
                        go_ret
                        exact ⟨false, rfl, by simp [hne.out], HBW.out⟩
                  · have hln' : (xln == yln) = false := by rw [beq_eq_false_iff_ne]; exact hln
                    have hne := Lib.hid (show l1 ≠ l2 from fun e => hln (HNE.out e).2.2.2.2.1)
                    clear hln
                    go_wp2_with fail
                    all_goals
                      go_ret
                      exact ⟨false, rfl, by simp [hne.out], HBW.out⟩
                · have hf' : (xf == yf) = false := by rw [beq_eq_false_iff_ne]; exact hf
                  have hne := Lib.hid (show l1 ≠ l2 from fun e => hf (HNE.out e).2.2.2.1)
                  clear hf
                  go_wp2_with fail
                  all_goals
                    go_ret
                    exact ⟨false, rfl, by simp [hne.out], HBW.out⟩
              · have hn' : (xn.toList == yn.toList) = false := by rw [name_eqD]; exact decide_eq_false hn
                have hne := Lib.hid (show l1 ≠ l2 from fun e => hn (HNE.out e).2.2.1)
                clear hn
                go_wp2_with fail
                all_goals
                  go_ret
                  exact ⟨false, rfl, by simp [hne.out], HBW.out⟩
            · have hl' : (xl.toList == yl.toList) = false := by rw [name_eqD]; exact decide_eq_false hl
              have hne := Lib.hid (show l1 ≠ l2 from fun e => hl (HNE.out e).2.1)
              clear hl
              go_wp2_with fail
              all_goals
                go_ret
                exact ⟨false, rfl, by simp [hne.out], HBW.out⟩
          · have hk' : (xk != yk) = true := by rw [bne_iff_ne]; exact hk
            have hne := Lib.hid (show l1 ≠ l2 from fun e => hk (HNE.out e).1)
            clear hk
            go_wp2_with fail
            all_goals
              go_ret
              exact ⟨false, rfl, by simp [hne.out], HBW.out⟩
      · obtain rfl : io = l1.length := by omega
        have hps := Lib.hid (show l1 = l2 from List.ext_getElem HL.out (fun j j1 j2 => hall.out j j1 j2 j1))
        have HB := Lib.hid hb
        clear hb hall
        go_wp2_with fail
        go_ret
        exact ⟨true, rfl, by simp [hps.out], ⟨HB.out.os, HB.out.tape, HB.out.output, HB.out.size, HB.out.block⟩⟩
  · have hl' : ((l1.length : Int) != (l2.length : Int)) = true := by rw [bne_iff_ne]; omega
    have hne := Lib.hid (show l1 ≠ l2 from fun e => hl (by rw [e]))
    clear hl
    go_enter Tryz.func15, Tryz.ntmps15
    go_wp2_with fail
    go_ret
    exact ⟨false, rfl, by simp [hne.out], Below.refl _ _⟩
end Go.Proofs.YtofhcgbihonckaaGreat
namespace Go.Proofs.YtofhcgbihonckaaGreat
open Go.RowKit
set_option maxRecDepth 100000 in
set_option maxHeartbeats 4000000 in
theorem cells_Equal (v u : Value) (ps qs : List CellT) (w : World) (h1 : CellsIn w v ps) (h2 : CellsIn w u qs) (hl1 : ps.length ≤ 9223372036854775807) :
    Calls Tryz.prog 68 #[v, u] w fun e w' => ∃ b, e = .returned (.bool b) ∧ (b = true ↔ ps = qs) ∧ Below w.heap.size w w' := by
  obtain ⟨a, cap, rfl⟩ := h1.slice
  obtain ⟨a', cap', rfl⟩ := h2.slice
  have H1 := Lib.hid h1; have H2 := Lib.hid h2; clear h1 h2
  by_cases hl : ps.length = qs.length
  · have hl' : ((ps.length : Int) != (qs.length : Int)) = false := by rw [hl]; simp
    have HL := Lib.hid hl
    clear hl
    go_enter Tryz.func68, Tryz.ntmps68
    go_wp2_with fail
    go_loopg [13] ps.length (fun f x wr => ∃ i : Nat, x = .int .i64 i ∧ i ≤ ps.length ∧ ps.length ≤ i + f ∧ Hid (∀ j (h1 : j < ps.length) (h2 : j < qs.length), j < i → ps[j] = qs[j]) ∧ Below w.heap.size w wr)
    case atStart => exact ⟨0, rfl, by omega, by omega, Lib.hid (fun j _ _ h => by omega), Below.refl _ _⟩
    case round =>
      obtain ⟨i, rfl, hi1, hi2, hall, hb⟩ := hrel
      by_cases hlt : i < ps.length
      · have hlt2 : i < qs.length := by rw [← HL.out]; exact hlt
        have k1 : (i : Int) < ps.length := by omega
        have k2 : (i : Int) < qs.length := by omega
        obtain ⟨_, _, e1, g1⟩ := H1.out.new hb
        cases e1
        obtain ⟨g, o, rfl, hg, hc⟩ := g1 (by omega)
        obtain ⟨c0, c1⟩ := hc i hlt
        obtain ⟨_, _, e2, g2⟩ := H2.out.new hb
        cases e2
        obtain ⟨g', o', rfl, hg', hd⟩ := g2 (by omega)
        obtain ⟨d0, d1⟩ := hd i hlt2
        have HB := Lib.hid hb
        have HALL := hall
        clear hb hall hc hd g1 g2
        by_cases hcv : ps[i].value = qs[i].value
        · have e1 : (ps[i].value == qs[i].value) = true := by rw [hcv]; simp
          cases e2 : (ps[i].label.toList == qs[i].label.toList) with
          | true =>
            have hce : ps[i] = qs[i] := by
              have h3 := nm_eq4 e2
              cases hx : ps[i]; cases hy : qs[i]
              rw [hx, hy] at hcv h3
              simp only at hcv h3
              rw [hcv, h3]
            have HPE := Lib.hid hce
            clear hce hcv
            generalize ps[i].value = a1 at *
            generalize ps[i].label = a2 at *
            generalize qs[i].value = b1 at *
            generalize qs[i].label = b2 at *
            go_wp2_with fail
            go_quiet (fail)
            go_wp2_with fail
            go_roundg (gk - 1)
            case measure => omega
            case rel =>
              refine ⟨i + 1, by go_num, by omega, by omega, Lib.hid (fun j j1 j2 h => ?_), ⟨HB.out.os, HB.out.tape, HB.out.output, HB.out.size, HB.out.block⟩⟩
              by_cases e : j = i
              · subst e; exact HPE.out
              · exact HALL.out j j1 j2 (by omega)
          | false =>
            have hps := Lib.hid (show ps ≠ qs from fun e => nm_ne4 e2 (by subst e; rfl))
            clear hcv
            generalize ps[i].value = a1 at *
            generalize ps[i].label = a2 at *
            generalize qs[i].value = b1 at *
            generalize qs[i].label = b2 at *
            go_wp2_with fail
            go_quiet (fail)
            go_wp2_with fail
            go_ret
            exact ⟨false, rfl, by simp [hps.out], ⟨HB.out.os, HB.out.tape, HB.out.output, HB.out.size, HB.out.block⟩⟩
        · have e1 : (ps[i].value == qs[i].value) = false := by rw [beq_eq_false_iff_ne]; exact hcv
          have hps := Lib.hid (show ps ≠ qs from fun e => hcv (by subst e; rfl))
          clear hcv
          generalize ps[i].value = a1 at *
          generalize ps[i].label = a2 at *
          generalize qs[i].value = b1 at *
          generalize qs[i].label = b2 at *
          go_wp2_with fail
          go_quiet (fail)
          go_wp2_with fail
          go_ret
          exact ⟨false, rfl, by simp [hps.out], ⟨HB.out.os, HB.out.tape, HB.out.output, HB.out.size, HB.out.block⟩⟩
      · obtain rfl : i = ps.length := by omega
        have hps := Lib.hid (show ps = qs from List.ext_getElem HL.out (fun j j1 j2 => hall.out j j1 j2 j1))
        have HB := Lib.hid hb
        clear hb hall
        go_wp2_with fail
        go_ret
        exact ⟨true, rfl, by simp [hps.out], HB.out⟩
  · have hl' : ((ps.length : Int) != (qs.length : Int)) = true := by rw [bne_iff_ne]; omega
    have hps := Lib.hid (show ps ≠ qs from fun e => hl (by rw [e]))
    clear hl
    go_enter Tryz.func68, Tryz.ntmps68
    go_wp2_with fail
    go_ret
    exact ⟨false, rfl, by simp [hps.out], Below.refl _ _⟩
set_option maxRecDepth 100000 in
set_option maxHeartbeats 4000000 in
theorem source_parts (p q : PartT) (v u : Value) (w : World) (h1 : CellsIn w v p.cells) (h2 : CellsIn w u q.cells) (hl1 : p.cells.length ≤ 9223372036854775807) :
    Calls Tryz.prog 39 #[.agg #[.int .i64 p.kind, v, .string p.text], .agg #[.int .i64 q.kind, u, .string q.text]] w fun e w' => ∃ b, e = .returned (.bool b) ∧ (b = true ↔ p = q) ∧ Below w.heap.size w w' := by
  obtain ⟨pk, ps, pt⟩ := p
  obtain ⟨qk, qs, qt⟩ := q
  simp only at h1 h2 hl1 ⊢
  obtain ⟨a, cap, rfl⟩ := h1.slice
  obtain ⟨a', cap', rfl⟩ := h2.slice
  have hb0 : Below w.heap.size w ((w.alloc (.cells #[.int .i64 pk, .slice a ps.length cap, .string pt] 75)).alloc (.cells #[.int .i64 qk, .slice a' qs.length cap', .string qt] 75)) := ((Below.refl _ _).alloc (Nat.le_refl _) _).alloc (by simp) _
  have HE := Lib.hid (fun (wx : World) (hx : Below w.heap.size w wx) => cells_Equal _ _ ps qs wx (h1.new hx) (h2.new hx) hl1)
  clear h1 h2
  by_cases hpq : pk = qk
  · have hpq' : (pk == qk) = true := by simpa using hpq
    have HPQ := Lib.hid hpq
    clear hpq
    cases hnm : (pt.toList == qt.toList) with
    | false =>
      have hne := Lib.hid (nm_ne4 hnm)
      go_enter Tryz.func39, Tryz.ntmps39
      go_wp2_with fail
      go_ret
      exact ⟨false, rfl, by simp [hne.out], hb0⟩
    | true =>
      have heq := Lib.hid (nm_eq4 hnm)
      go_enter Tryz.func39, Tryz.ntmps39
      go_wp2_with fail
      refine (HE.out _ (by exact hb0)).mono ?_
      rintro e w1 ⟨b, rfl, hb, hb1⟩
      have hb2 := hb0.trans (hb1.mono (by simp; omega))
      have HB := Lib.hid hb
      clear hb
      go_wp2_with fail
      go_ret
      exact ⟨b, rfl, by simp [HB.out, HPQ.out, heq.out], hb2⟩
  · have hpq' : (pk == qk) = false := by rw [beq_eq_false_iff_ne]; exact hpq
    have HPQ := Lib.hid hpq
    clear hpq
    go_enter Tryz.func39, Tryz.ntmps39
    go_wp2_with fail
    go_ret
    exact ⟨false, rfl, by simp [HPQ.out], hb0⟩
theorem enters_parts : ∀ args w, (callFunc 39 args).run Tryz.prog w = .ok (.enter 39 args) w := enters_of Tryz.func39 (by kernel_rfl) rfl
set_option maxRecDepth 100000 in
set_option maxHeartbeats 4000000 in
theorem parts_EqualFunc (v u : Value) (T U : List PartT) (w : World) (h1 : PartsIn w v T) (h2 : PartsIn w u U) (hl1 : T.length ≤ 9223372036854775807) (hok : ∀ p ∈ T, p.cells.length ≤ 9223372036854775807) :
    Calls Tryz.prog 38 #[v, u, .func (.func 39) #[] #[]] w fun e w' => ∃ b, e = .returned (.bool b) ∧ (b = true ↔ T = U) ∧ Below w.heap.size w w' := by
  obtain ⟨a, cap, rfl⟩ := h1.slice
  obtain ⟨a', cap', rfl⟩ := h2.slice
  have H1 := Lib.hid h1; have H2 := Lib.hid h2; clear h1 h2
  have HOK := Lib.hid hok
  clear hok
  have eg := enters_parts
  by_cases hl : T.length = U.length
  · have hl' : ((T.length : Int) != (U.length : Int)) = false := by rw [hl]; simp
    have HL := Lib.hid hl
    clear hl
    go_enter Tryz.func38, Tryz.ntmps38
    go_wp2_with fail
    go_loopg [17] T.length (fun f x wr => ∃ i : Nat, x = .int .i64 i ∧ i ≤ T.length ∧ T.length ≤ i + f ∧ Hid (∀ j (h1 : j < T.length) (h2 : j < U.length), j < i → T[j] = U[j]) ∧ Below w.heap.size w wr)
    case atStart => exact ⟨0, rfl, by omega, by omega, Lib.hid (fun j _ _ h => by omega), Below.refl _ _⟩
    case round =>
      obtain ⟨i, rfl, hi1, hi2, hall, hb⟩ := hrel
      have hbs := hb.size
      by_cases hlt : i < T.length
      · have hlt2 : i < U.length := by rw [← HL.out]; exact hlt
        have k1 : (i : Int) < T.length := by omega
        have k2 : (i : Int) < U.length := by omega
        obtain ⟨_, _, e1, g1⟩ := H1.out.new hb
        cases e1
        obtain ⟨g, o, rfl, hg, hc⟩ := g1 (by omega)
        obtain ⟨_, _, e2, g2⟩ := H2.out.new hb
        cases e2
        obtain ⟨g', o', rfl, hg', hd⟩ := g2 (by omega)
        obtain ⟨cv, c0, c1, c2, p3⟩ := hc i hlt
        obtain ⟨du, d0, d1, d2, q3⟩ := hd i hlt2
        obtain ⟨ca, cc, rfl⟩ := p3.slice
        obtain ⟨da, dc, rfl⟩ := q3.slice
        have HC := Lib.hid (fun (wx : World) (hx : Below wr.heap.size wr wx) => source_parts T[i] U[i] (.slice ca T[i].cells.length cc) (.slice da U[i].cells.length dc) wx (p3.new hx) (q3.new hx) (HOK.out _ (List.getElem_mem hlt)))
        have hnext := Lib.hid (show T[i] = U[i] → ∀ j (h1 : j < T.length) (h2 : j < U.length), j < i + 1 → T[j] = U[j] from fun e j j1 j2 h => by
          by_cases ej : j = i
          · subst ej; exact e
          · exact hall.out j j1 j2 (by omega))
        have hne := Lib.hid (show ¬ T[i] = U[i] → T ≠ U from fun h e => h (by simp only [e]))
        have hb2 : Below wr.heap.size wr ((wr.alloc (.cells #[.int .i64 T[i].kind, .slice ca T[i].cells.length cc, .string T[i].text] 75)).alloc (.cells #[.int .i64 U[i].kind, .slice da U[i].cells.length dc, .string U[i].text] 75)) := ((Below.refl _ _).alloc (Nat.le_refl _) _).alloc (by simp) _
        have HB2 := Lib.hid hb2
        have HB := Lib.hid hb
        clear hall hb2 hb hc hd g1 g2
        clear p3 q3
        generalize T[i] = x at *
        generalize U[i] = y at *
        obtain ⟨x1, x2, x3⟩ := x
        obtain ⟨y1, y2, y3⟩ := y
        simp only at c0 c1 c2 d0 d1 d2
        go_wp2_with fail
        refine (by exact HC.out _ HB2.out : Calls _ _ _ _ _).mono ?_
        rintro e w2 ⟨b, rfl, hbi, hb3⟩
        have hb4 := HB.out.trans ((HB2.out.trans (hb3.mono HB2.out.size)).mono hbs)
        clear c0 c1 c2 d0 d1 d2
        cases b with
        | true =>
          have hn2 := Lib.hid (hnext.out (hbi.1 rfl))
          clear hbi
          go_wp2_with fail
          go_roundg (gk - 1)
          case measure => omega
          case rel => exact ⟨i + 1, by go_num, by omega, by omega, hn2, hb4⟩
        | false =>
          have hn2 := Lib.hid (hne.out (fun e => by have := hbi.2 e; cases this))
          clear hbi
          go_wp2_with fail
          go_ret
          exact ⟨false, rfl, by simp [hn2.out], hb4⟩
      · obtain rfl : i = T.length := by omega
        have hpe : Hid (T = U) := Lib.hid (by
          apply List.ext_getElem HL.out
          intro j j1 j2
          exact hall.out j j1 j2 j1)
        have hb2 := Lib.hid hb
        clear hb
        go_wp2_with fail
        go_ret
        exact ⟨true, rfl, by simp [hpe.out], hb2.out⟩
  · have hl' : ((T.length : Int) != (U.length : Int)) = true := by simp; omega
    have hps := Lib.hid (show T ≠ U from fun e => hl (by rw [e]))
    clear hl
    go_enter Tryz.func38, Tryz.ntmps38
    go_wp2_with fail
    go_ret
    exact ⟨false, rfl, by simp [hps.out], Below.refl _ _⟩
end Go.Proofs.YtofhcgbihonckaaGreat
namespace Go.Proofs.YtofhcgbihonckaaGreat
open Go.RowKit
set_option maxRecDepth 100000 in
set_option maxHeartbeats 8000000 in
theorem source_Same1 (x y : FdT) (v u : Value) (w : World) (h1 : PartsIn w v x.2.parts) (h2 : PartsIn w u y.2.parts) (hok : x.2.parts.length ≤ 9223372036854775807 ∧ ∀ p ∈ x.2.parts, p.cells.length ≤ 9223372036854775807) :
    Calls Tryz.prog 37 #[defAgg x.1 x.2 v, defAgg y.1 y.2 u] w fun e w' => ∃ b, e = .returned (.bool b) ∧ (b = true ↔ x = y) ∧ Below w.heap.size w w' := by
  obtain ⟨xf, xk, xl, xn, xps, xln, xcl⟩ := x
  obtain ⟨yf, yk, yl, yn, yps, yln, ycl⟩ := y
  unfold defAgg
  simp only at h1 h2 hok ⊢
  obtain ⟨xa, xc, rfl⟩ := h1.slice
  obtain ⟨ya, yc, rfl⟩ := h2.slice
  have HB0 : Hid (Below w.heap.size w ((w.alloc (.cells #[.int .i64 xk, .string xl, .string xn, .slice xa xps.length xc, .int .i64 xf, .int .i64 xln, .int .i64 xcl] 34)).alloc (.cells #[.int .i64 yk, .string yl, .string yn, .slice ya yps.length yc, .int .i64 yf, .int .i64 yln, .int .i64 ycl] 34))) := Lib.hid (((Below.refl _ _).alloc (Nat.le_refl _) _).alloc (by simp) _)
  have HE := Lib.hid (fun (wx : World) (hx : Below w.heap.size w wx) => parts_EqualFunc _ _ xps yps wx (h1.new hx) (h2.new hx) hok.1 hok.2)
  clear h1 h2 hok
  by_cases hk : xk = yk
  · have hk' : (xk == yk) = true := by rw [beq_iff_eq]; exact hk
    have HKQ := Lib.hid hk
    clear hk
    by_cases hl : xl = yl
    · have hl' : (xl.toList == yl.toList) = true := by rw [hl]; simp
      have HLQ := Lib.hid hl
      clear hl
      by_cases hn : xn = yn
      · have hn' : (xn.toList == yn.toList) = true := by rw [hn]; simp
        have HNQ := Lib.hid hn
        clear hn
        by_cases hf : xf = yf
        · have hf' : (xf == yf) = true := by rw [beq_iff_eq]; exact hf
          have HFQ := Lib.hid hf
          clear hf
          by_cases hln : xln = yln
          · have hln' : (xln == yln) = true := by rw [beq_iff_eq]; exact hln
            have HLNQ := Lib.hid hln
            clear hln
            by_cases hcl : xcl = ycl
            · have hcl' : (xcl == ycl) = true := by rw [beq_iff_eq]; exact hcl
              have HCLQ := Lib.hid hcl
              clear hcl
              go_enter Tryz.func37, Tryz.ntmps37
              go_wp2_with fail
              all_goals
                refine (by exact HE.out _ HB0.out : Calls _ _ _ _ _).mono ?_
                rintro e w1 ⟨b, rfl, hb, hb1⟩
                have HB2 := Lib.hid (HB0.out.trans (hb1.mono HB0.out.size))
                have HB := Lib.hid hb
                clear hb hb1
                go_wp2_with fail
                go_ret
                exact ⟨b, rfl, by simp only [Prod.mk.injEq, DefT.mk.injEq, HKQ.out, HLQ.out, HNQ.out, HFQ.out, HLNQ.out, HCLQ.out, true_and, and_true]; exact HB.out, HB2.out⟩
            · have hcl' : (xcl == ycl) = false := by rw [beq_eq_false_iff_ne]; exact hcl
              have HNE := Lib.hid hcl
              clear hcl
              go_enter Tryz.func37, Tryz.ntmps37
              go_wp2_with fail
              all_goals
                go_ret
                exact ⟨false, rfl, by simp [HNE.out], HB0.out⟩
          · have hln' : (xln == yln) = false := by rw [beq_eq_false_iff_ne]; exact hln
            have HNE := Lib.hid hln
            clear hln
            go_enter Tryz.func37, Tryz.ntmps37
            go_wp2_with fail
            all_goals
              go_ret
              exact ⟨false, rfl, by simp [HNE.out], HB0.out⟩
        · have hf' : (xf == yf) = false := by rw [beq_eq_false_iff_ne]; exact hf
          have HNE := Lib.hid hf
          clear hf
          go_enter Tryz.func37, Tryz.ntmps37
          go_wp2_with fail
          all_goals
            go_ret
            exact ⟨false, rfl, by simp [HNE.out], HB0.out⟩
      · have hn' : (xn.toList == yn.toList) = false := by rw [name_eqD]; exact decide_eq_false hn
        have HNE := Lib.hid hn
        clear hn
        go_enter Tryz.func37, Tryz.ntmps37
        go_wp2_with fail
        all_goals
          go_ret
          exact ⟨false, rfl, by simp [HNE.out], HB0.out⟩
    · have hl' : (xl.toList == yl.toList) = false := by rw [name_eqD]; exact decide_eq_false hl
      have HNE := Lib.hid hl
      clear hl
      go_enter Tryz.func37, Tryz.ntmps37
      go_wp2_with fail
      all_goals
        go_ret
        exact ⟨false, rfl, by simp [HNE.out], HB0.out⟩
  · have hk' : (xk == yk) = false := by rw [beq_eq_false_iff_ne]; exact hk
    have HNE := Lib.hid hk
    clear hk
    go_enter Tryz.func37, Tryz.ntmps37
    go_wp2_with fail
    all_goals
      go_ret
      exact ⟨false, rfl, by simp [HNE.out], HB0.out⟩
theorem enters_sSame1 : ∀ args w, (callFunc 37 args).run Tryz.prog w = .ok (.enter 37 args) w := enters_of Tryz.func37 (by kernel_rfl) rfl
set_option maxRecDepth 100000 in
set_option maxHeartbeats 4000000 in
theorem defs_EqualFunc (v u : Value) (T U : List FdT) (w : World) (h1 : DefsIn w v T) (h2 : DefsIn w u U) (hl1 : T.length ≤ 9223372036854775807) (hok : ∀ x ∈ T, x.2.parts.length ≤ 9223372036854775807 ∧ ∀ p ∈ x.2.parts, p.cells.length ≤ 9223372036854775807) :
    Calls Tryz.prog 36 #[v, u, .func (.func 37) #[] #[]] w fun e w' => ∃ b, e = .returned (.bool b) ∧ (b = true ↔ T = U) ∧ Below w.heap.size w w' := by
  obtain ⟨a, cap, rfl⟩ := h1.slice
  obtain ⟨a', cap', rfl⟩ := h2.slice
  have H1 := Lib.hid h1; have H2 := Lib.hid h2; clear h1 h2
  have HOK := Lib.hid hok
  clear hok
  have eg := enters_sSame1
  by_cases hl : T.length = U.length
  · have hl' : ((T.length : Int) != (U.length : Int)) = false := by rw [hl]; simp
    have HL := Lib.hid hl
    clear hl
    go_enter Tryz.func36, Tryz.ntmps36
    go_wp2_with fail
    go_loopg [17] T.length (fun f x wr => ∃ i : Nat, x = .int .i64 i ∧ i ≤ T.length ∧ T.length ≤ i + f ∧ Hid (∀ j (h1 : j < T.length) (h2 : j < U.length), j < i → T[j] = U[j]) ∧ Below w.heap.size w wr)
    case atStart => exact ⟨0, rfl, by omega, by omega, Lib.hid (fun j _ _ h => by omega), Below.refl _ _⟩
    case round =>
      obtain ⟨i, rfl, hi1, hi2, hall, hb⟩ := hrel
      have hbs := hb.size
      by_cases hlt : i < T.length
      · have hlt2 : i < U.length := by rw [← HL.out]; exact hlt
        have k1 : (i : Int) < T.length := by omega
        have k2 : (i : Int) < U.length := by omega
        obtain ⟨_, _, e1, g1⟩ := H1.out.new hb
        cases e1
        obtain ⟨g, o, rfl, hg, hc⟩ := g1 (by omega)
        obtain ⟨_, _, e2, g2⟩ := H2.out.new hb
        cases e2
        obtain ⟨g', o', rfl, hg', hd⟩ := g2 (by omega)
        obtain ⟨cv, c0, c1, c2, c3, c4, c5, c6, p3⟩ := hc i hlt
        obtain ⟨du, d0, d1, d2, d3, d4, d5, d6, q3⟩ := hd i hlt2
        obtain ⟨ca, cc, rfl⟩ := p3.slice
        obtain ⟨da, dc, rfl⟩ := q3.slice
        have HC := Lib.hid (fun (wx : World) (hx : Below wr.heap.size wr wx) => source_Same1 T[i] U[i] (.slice ca T[i].2.parts.length cc) (.slice da U[i].2.parts.length dc) wx (p3.new hx) (q3.new hx) (HOK.out _ (List.getElem_mem hlt)))
        have hnext := Lib.hid (show T[i] = U[i] → ∀ j (h1 : j < T.length) (h2 : j < U.length), j < i + 1 → T[j] = U[j] from fun e j j1 j2 h => by
          by_cases ej : j = i
          · subst ej; exact e
          · exact hall.out j j1 j2 (by omega))
        have hne := Lib.hid (show ¬ T[i] = U[i] → T ≠ U from fun h e => h (by simp only [e]))
        have hb2 : Below wr.heap.size wr ((wr.alloc (.cells #[.int .i64 T[i].2.kind, .string T[i].2.label, .string T[i].2.name, .slice ca T[i].2.parts.length cc, .int .i64 T[i].1, .int .i64 T[i].2.line, .int .i64 T[i].2.col] 34)).alloc (.cells #[.int .i64 U[i].2.kind, .string U[i].2.label, .string U[i].2.name, .slice da U[i].2.parts.length dc, .int .i64 U[i].1, .int .i64 U[i].2.line, .int .i64 U[i].2.col] 34)) := ((Below.refl _ _).alloc (Nat.le_refl _) _).alloc (by simp) _
        have HB2 := Lib.hid hb2
        have HB := Lib.hid hb
        clear hall hb2 hb hc hd g1 g2
        clear p3 q3
        unfold defAgg at HC
        generalize T[i] = x at *
        generalize U[i] = y at *
        obtain ⟨x1, x2, x3, x4, x5, x6, x7⟩ := x
        obtain ⟨y1, y2, y3, y4, y5, y6, y7⟩ := y
        simp only at c0 c1 c2 c3 c4 c5 c6 d0 d1 d2 d3 d4 d5 d6
        go_wp2_with fail
        refine (by exact HC.out _ HB2.out : Calls _ _ _ _ _).mono ?_
        rintro e w2 ⟨b, rfl, hbi, hb3⟩
        have hb4 := HB.out.trans ((HB2.out.trans (hb3.mono HB2.out.size)).mono hbs)
        clear c0 c1 c2 c3 c4 c5 c6 d0 d1 d2 d3 d4 d5 d6
        cases b with
        | true =>
          have hn2 := Lib.hid (hnext.out (hbi.1 rfl))
          clear hbi
          go_wp2_with fail
          go_roundg (gk - 1)
          case measure => omega
          case rel => exact ⟨i + 1, by go_num, by omega, by omega, hn2, hb4⟩
        | false =>
          have hn2 := Lib.hid (hne.out (fun e => by have := hbi.2 e; cases this))
          clear hbi
          go_wp2_with fail
          go_ret
          exact ⟨false, rfl, by simp [hn2.out], hb4⟩
      · obtain rfl : i = T.length := by omega
        have hpe : Hid (T = U) := Lib.hid (by
          apply List.ext_getElem HL.out
          intro j j1 j2
          exact hall.out j j1 j2 j1)
        have hb2 := Lib.hid hb
        clear hb
        go_wp2_with fail
        go_ret
        exact ⟨true, rfl, by simp [hpe.out], hb2.out⟩
  · have hl' : ((T.length : Int) != (U.length : Int)) = true := by simp; omega
    have hps := Lib.hid (show T ≠ U from fun e => hl (by rw [e]))
    clear hl
    go_enter Tryz.func36, Tryz.ntmps36
    go_wp2_with fail
    go_ret
    exact ⟨false, rfl, by simp [hps.out], Below.refl _ _⟩
set_option maxHeartbeats 1000000 in
theorem source_Same (v u : Value) (T U : List FdT) (w : World) (h1 : DefsIn w v T) (h2 : DefsIn w u U) (hl1 : T.length ≤ 9223372036854775807) (hok : ∀ x ∈ T, x.2.parts.length ≤ 9223372036854775807 ∧ ∀ p ∈ x.2.parts, p.cells.length ≤ 9223372036854775807) :
    Calls Tryz.prog 16 #[v, u] w fun e w' => ∃ b, e = .returned (.bool b) ∧ (b = true ↔ T = U) ∧ Below w.heap.size w w' := by
  obtain ⟨a, cap, rfl⟩ := h1.slice
  obtain ⟨a', cap', rfl⟩ := h2.slice
  have HE := Lib.hid (defs_EqualFunc _ _ T U w h1 h2 hl1 hok)
  clear h1 h2 hok
  go_enter Tryz.func16, Tryz.ntmps16
  go_wp2_with fail
  refine (by exact HE.out : Calls _ _ _ _ _).mono ?_
  rintro e w2 ⟨b, rfl, hbi, hb3⟩
  have HB := Lib.hid hbi
  clear hbi
  go_wp2_with fail
  go_ret
  exact ⟨b, rfl, HB.out, hb3⟩
end Go.Proofs.YtofhcgbihonckaaGreat
