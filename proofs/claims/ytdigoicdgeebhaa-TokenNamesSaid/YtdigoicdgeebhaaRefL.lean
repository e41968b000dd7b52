/- The contract of Same of the reference of token, at equal lists. -/
import Derived.Test.YtdigoicdgeebhaaRefK
import Derived.Test.YtdigoicdgeebhaaTokK
namespace Go.Proofs.Ytdigoicdgeebhaa
open Go.RowKit

/-- Six cells of token k of a row. -/
theorem tok_six {w : World} {base : Nat} {T : TypeId} {v : Value} {file : Int} {toks : List Tok} (h : w.ownsRow base T 6 v toks.length (toksCells file toks)) (k : Nat) (hk : k < toks.length) :
    ∃ g cap, v = .slice (some ⟨g, 0, none⟩) toks.length cap ∧ toks.length ≤ cap ∧ g < w.heap.size ∧ w.cell? ⟨g, k * 6, none⟩ = some (.int .i64 toks[k].kind) ∧ w.cell? ⟨g, k * 6 + 1, none⟩ = some (.string ⟨toks[k].text.toArray⟩) ∧ w.cell? ⟨g, k * 6 + 2, none⟩ = some (.int .i64 toks[k].value) ∧
      w.cell? ⟨g, k * 6 + 3, none⟩ = some (.int .i64 file) ∧ w.cell? ⟨g, k * 6 + 4, none⟩ = some (.int .i64 toks[k].line) ∧ w.cell? ⟨g, k * 6 + 5, none⟩ = some (.int .i64 toks[k].col) := by
  obtain ⟨g, cap, rfl, hg1, hg2, hcap, hcells⟩ := tok_row h (by intro e; rw [e] at hk; simp at hk)
  have ht : toks[k]? = some toks[k] := List.getElem?_eq_getElem hk
  simp only [Nat.mul_comm 6] at hcells
  exact ⟨g, cap, rfl, hcap, hg2, hcells k _ ht 0 _ rfl, hcells k _ ht 1 _ rfl, hcells k _ ht 2 _ rfl, hcells k _ ht 3 _ rfl, hcells k _ ht 4 _ rfl, hcells k _ ht 5 _ rfl⟩

set_option maxHeartbeats 4000000 in
theorem ref_Same (file : Int) (l : List Tok) (b1 b2 : Nat) (v1 v2 : Value) (w : World) (h1 : w.ownsRow b1 40 6 v1 l.length (toksCells file l)) (h2 : w.ownsRow b2 40 6 v2 l.length (toksCells file l)) (hl : l.length ≤ 140737488355328) :
    Calls Try.prog 15 #[v1, v2] w fun e w' => e = .returned (.bool true) ∧ ∃ n, w' = w.drewN n := by
  obtain ⟨a1, c1, e1⟩ := ownsRow_shape h1
  obtain ⟨a2, c2, e2⟩ := ownsRow_shape h2
  have H1 := Lib.hid h1
  have H2 := Lib.hid h2
  clear h1 h2
  subst e1 e2
  go_enter Try.func15, Try.ntmps15
  go_wp2_with fail
  go_loopg [13] (l.length) (fun f y wr => ∃ k n : Nat, k ≤ l.length ∧ l.length ≤ k + f ∧ y = .int .i64 k ∧ wr = w.drewN n)
  case atStart => exact ⟨0, 0, by omega, by omega, rfl, rfl⟩
  case round =>
    obtain ⟨k, n, hk, hf, rfl, rfl⟩ := hrel
    by_cases hlt : k < l.length
    · obtain ⟨g1, cap1, e1, hc1, hg1, x0, x1, x2, x3, x4, x5⟩ := tok_six H1.out k hlt
      obtain ⟨g2, cap2, e2, hc2, hg2, y0, y1, y2, y3, y4, y5⟩ := tok_six H2.out k hlt
      simp only [Value.slice.injEq] at e1 e2
      obtain ⟨rfl, _, rfl⟩ := e1
      obtain ⟨rfl, _, rfl⟩ := e2
      go_wp2_with fail
      go_quiet (fail)
      go_wp2_with fail
      go_roundg (gk - 1)
      case measure => omega
      case rel => exact ⟨k + 1, _, by omega, by omega, by go_num, rfl⟩
    · go_wp2_with fail
      go_ret
      exact ⟨rfl, _, rfl⟩
end Go.Proofs.Ytdigoicdgeebhaa
