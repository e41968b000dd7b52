/- awake of the laws on tokens. -/
import Derived.Test.YtdigoicdgeebhaaTokJ
namespace Go.Proofs.Ytdigoicdgeebhaa
open Go.RowKit

/-- A row of tokens, read: its slice, and the six cells of each. -/
theorem tok_row {w : World} {base : Nat} {T : TypeId} {v : Value} {file : Int} {toks : List Tok} (h : w.ownsRow base T 6 v toks.length (toksCells file toks)) (hne : toks ≠ []) :
    ∃ g cap, v = .slice (some ⟨g, 0, none⟩) toks.length cap ∧ base ≤ g ∧ g < w.heap.size ∧ toks.length ≤ cap ∧ ∀ (i : Nat) (t : Tok), toks[i]? = some t → ∀ (k : Nat) (u : Value), (tokCells file t)[k]? = some u → w.cell? ⟨g, 6 * i + k, none⟩ = some u := by
  have hlen := List.length_pos_iff.2 hne
  rcases h.2 with ⟨_, h0⟩ | ⟨g, cap, cur, rfl, hb, hh, hcap, hr⟩
  · omega
  · refine ⟨g, cap, rfl, hb, lt_of_block hh, hcap, ?_⟩
    intro i t ht k u hu
    have hc := h.cells (g := g) rfl (6 * i + k) u
    have hadd : (⟨g, 0, none⟩ : Addr).add (6 * i + k) = ⟨g, 6 * i + k, none⟩ := by unfold Addr.add; split <;> simp_all
    rw [hadd] at hc
    apply hc
    have hk : k < 6 := by
      rcases Nat.lt_or_ge k 6 with h | h
      · exact h
      · rw [List.getElem?_eq_none (by simpa [tokCells] using h)] at hu; cases hu
    clear hc hcap hr hh hb h hlen hadd hne
    unfold toksCells
    induction toks generalizing i with
    | nil => simp at ht
    | cons a l ih =>
      rw [List.flatMap_cons]
      cases i with
      | zero =>
        simp at ht; subst ht
        rw [List.getElem?_append_left (by simp [tokCells]; omega)]
        simpa using hu
      | succ i =>
        rw [List.getElem?_append_right (by simp [tokCells]; omega)]
        have := ih i (by simpa using ht)
        rw [← this]; congr 1; simp [tokCells]; omega

theorem awake_one : readT [97, 58, 32, 98, 64, 49, 32, 123, 32, 120, 32, 61, 32, 60, 38, 97, 32, 48, 120, 49, 48, 62, 59, 32, 125, 59] 3 = ([⟨5, [97], 0, 1, 1⟩, ⟨1, [98, 64, 49], 0, 1, 4⟩, ⟨4, [123], 0, 1, 8⟩, ⟨1, [120], 0, 1, 10⟩, ⟨4, [61], 0, 1, 12⟩, ⟨4, [60], 0, 1, 14⟩, ⟨6, [97], 0, 1, 15⟩, ⟨2, [], 16, 1, 18⟩, ⟨4, [62], 0, 1, 22⟩, ⟨4, [59], 0, 1, 23⟩, ⟨4, [125], 0, 1, 25⟩, ⟨4, [59], 0, 1, 26⟩, ⟨8, [], 0, 1, 27⟩], (0, 0, 0), 0) := by decide +kernel
theorem awake_two : readT [34, 97, 98] 2 = ([], (2, 1, 1), 21) := by decide +kernel

set_option maxHeartbeats 2000000 in
theorem law_awake (w : World) (h0 : Lay0 w) : Calls Try.prog 9 #[] w fun e w' => e = .returned (.bool true) ∧ Below w.heap.size w w' := by
  have r1 := fun wx h => token_Read ⟨#[97, 58, 32, 98, 64, 49, 32, 123, 32, 120, 32, 61, 32, 60, 38, 97, 32, 48, 120, 49, 48, 62, 59, 32, 125, 59]⟩ 3 wx (by decide) h
  have r2 := fun wx h => token_Read ⟨#[34, 97, 98]⟩ 2 wx (by decide) h
  unfold ReadPost at r1 r2
  rw [awake_one] at r1
  rw [awake_two] at r2
  have R1 := Lib.hid r1; clear r1
  have R2 := Lib.hid r2; clear r2
  go_enter Try.func9, Try.ntmps9
  go_wp2_with fail
  refine (R1.out _ h0).mono ?_
  rintro e w1 ⟨v1, rfl, hown1, hb1⟩
  have h1 := h0.keeps (Keeps.of_fresh hb1 (fun _ => False)) (fun e => e)
  unfold posAgg
  go_wp2_with fail
  refine (R2.out _ (h1.keeps ((Keeps.refl (fun _ => False) w1).alloc _) (fun e => e))).mono ?_
  rintro e w2 ⟨v2, rfl, hown2, hb2⟩
  unfold posAgg
  obtain ⟨g, cap, rfl, hg1, hg2, hcap, hcells⟩ := tok_row hown1 (by simp)
  have hK : Keeps (fun _ => False) w1 w2 := ((Keeps.refl (fun _ => False) w1).alloc _).trans (Keeps.of_fresh hb2 (fun _ => False)) (fun _ _ e => e)
  have hc2 : ∀ j, w2.cell? ⟨g, j, none⟩ = w1.cell? ⟨g, j, none⟩ := fun j => hK.cell (p := ⟨g, j, none⟩) hg2 (fun e => e)
  have c0 := (hc2 0).trans (hcells 0 _ rfl 0 _ rfl)
  have c1 := (hc2 1).trans (hcells 0 _ rfl 1 _ rfl)
  have c2 := (hc2 2).trans (hcells 0 _ rfl 2 _ rfl)
  have c3 := (hc2 3).trans (hcells 0 _ rfl 3 _ rfl)
  have c4 := (hc2 4).trans (hcells 0 _ rfl 4 _ rfl)
  have c5 := (hc2 5).trans (hcells 0 _ rfl 5 _ rfl)
  have c6 := (hc2 44).trans (hcells 7 _ rfl 2 _ rfl)
  clear hc2 hcells hown1 hown2
  simp only [List.length_cons, List.length_nil] at hcap
  have hs := hK.size
  have hg3 : g < w2.heap.size := by omega
  go_wp2_with fail
  go_ret
  exact ⟨rfl, ((((hb1.alloc hb1.size _).trans (hb2.mono (by have := hb1.size; simp; omega)))).alloc (by have := hb1.size; omega) _)⟩
end Go.Proofs.Ytdigoicdgeebhaa
