/- Contracts of include: where a file is found. | Contracts of include: find, what is contained. -/
import Derived.Test.YtofhcgbihonckaaGreatZ9
import Derived.Test.YtofhcgbihonckaaGreatZ18
import Derived.Deep.LoopGhost
import Derived.Laws.EntriesVeiled
set_option linter.unusedVariables false
set_option linter.unusedSimpArgs false
set_option linter.unusedSectionVars false
namespace Go.Proofs.YtofhcgbihonckaaGreat
open Go.RowKit
def FilesAt (w : World) (v : Value) (F : List FileT) : Prop :=
  ∃ (a : Option Addr) (cap : Nat), v = .slice a F.length cap ∧ F.length ≤ cap ∧ cap ≤ 9223372036854775807 ∧
    (0 < F.length → ∃ g o, a = some ⟨g, o, none⟩ ∧ g < w.heap.size ∧ ∀ (i : Nat) (h : i < F.length), w.cell? ⟨g, o + i * 2, none⟩ = some (.string F[i].name) ∧ w.cell? ⟨g, o + i * 2 + 1, none⟩ = some (.string F[i].text))
theorem FilesAt.new {w w' : World} {v : Value} {F : List FileT} (h : FilesAt w v F) (k : Below w.heap.size w w') : FilesAt w' v F := by
  obtain ⟨a, cap, rfl, h1, h2, h3⟩ := h
  refine ⟨a, cap, rfl, h1, h2, fun h0 => ?_⟩
  obtain ⟨g, o, rfl, hg, hc⟩ := h3 h0
  exact ⟨g, o, rfl, Nat.lt_of_lt_of_le hg k.size, fun i hi => ⟨(k.cell (p := ⟨g, o + i * 2, none⟩) hg).trans (hc i hi).1, (k.cell (p := ⟨g, o + i * 2 + 1, none⟩) hg).trans (hc i hi).2⟩⟩
end Go.Proofs.YtofhcgbihonckaaGreat
namespace Go.Proofs.YtofhcgbihonckaaGreat
open Go.RowKit
def ldC (fv : Value) (mb : Nat) (ov rv : Value) : Array Value := #[fv, .map (some mb), ov, rv]
end Go.Proofs.YtofhcgbihonckaaGreat
