/- Contracts of the reference of token: next, references and words. -/
import Derived.Test.YtdigoicdgeebhaaRefH
import Derived.Test.YtdigoicdgeebhaaTokG
namespace Go.Proofs.Ytdigoicdgeebhaa
open Go.RowKit

theorem str_mid1 (s : ByteArray) (a n : Nat) : s.extract (a + 1) (a + 1 + n) = ⟨(((s.data.toList.drop a).take (n + 1)).drop 1).toArray⟩ := by
  rw [str_mid, List.drop_take, List.drop_drop, show n + 1 - 1 = n from by omega]

set_option maxHeartbeats 8000000 in
set_option maxRecDepth 100000 in
theorem rnext_ref (s : ByteArray) (a : Nat) (line col : Int) (w : World) (hs : s.size ≤ 16000) (h1 : a < s.size) (hc : ¬ (letterB s[a].toNat = true ∨ (s[a].toNat : Int) = 95 ∨ (s[a].toNat : Int) = 35)) (hd : digitB s[a].toNat = false) (hq : ¬ (s[a].toNat : Int) = 34) (h38 : (s[a].toNat : Int) = 38) (hs1 : a + 1 < s.size) (hl : letterB s[a + 1].toNat = true ∨ (s[a + 1].toNat : Int) = 95) :
    Calls Try.prog 31 #[.agg (rfCells s a line col)] w (NextR s a w) := by
  unfold rfCells
  have hH := hd_at s a h1
  have hG := getD_drop s a 1 hs1
  have hF := Lib.hid (show nextT (s.data.toList.drop a) = (⟨6, ((s.data.toList.drop a).take (runB wordB (s.data.toList.drop (a + 1)) + 1)).drop 1, 0, 0, 0⟩, runB wordB (s.data.toList.drop (a + 1)) + 1, 0) from by
    unfold nextT; simp only [hH]; rw [if_neg hc, if_neg (by simp [hd]), if_neg hq, if_pos ⟨h38, by rw [rn_len]; omega, by rw [hG]; rcases hl with h | h; exact .inl h; right; omega⟩, List.drop_drop])
  have hrun : ∀ wx, Calls Try.prog 55 #[.string s, .int .i64 ((a : Int) + 1), .bool false] wx fun e w' => e = .returned (.int .i64 (runB wordB (s.data.toList.drop (a + 1)))) ∧ wx = w' := fun wx => ref_run s (a + 1) false wx (by omega) (by omega)
  have hn := runB_le wordB (s.data.toList.drop (a + 1))
  generalize runB wordB (s.data.toList.drop (a + 1)) = n at hF hrun hn
  have HR := Lib.hid hrun; clear hrun
  have hn' : a + 1 + n ≤ s.size := by simp at hn; omega
  have hq' : ((s[a].toNat : Int) == 34) = false := by simpa using hq
  have h38' : ((s[a].toNat : Int) == 38) = true := by simpa using h38
  have hd1 : decide (48 ≤ (s[a].toNat : Int)) = false := by simp; omega
  obtain ⟨h, h', h''⟩ := rcs_no _ hc
  clear hn hH hG hc hq h38 hd
  have hcs : letterB s[a + 1].toNat = true ∨ letterB s[a + 1].toNat = false ∧ ((s[a + 1].toNat : Int) == 95) = true := by
    cases hx : letterB s[a + 1].toNat
    · right; rcases hl with h | h; rw [hx] at h; cases h; exact ⟨rfl, by simpa using h⟩
    · exact .inl rfl
  clear hl
  rcases hcs with g | ⟨g, g'⟩
  all_goals
    go_enter Try.func31, Try.ntmps31
    go_wp2_with fail
    go_quiet (fail)
    go_wp2_with (first | (go_at_call 38; refine (ref_letter _ _).mono ?_; rintro e w' ⟨rfl, rfl⟩) | (go_at_call 55; refine (HR.out _).mono ?_; rintro e w' ⟨rfl, rfl⟩))
    exact bodyPost_ret (v := .tuple #[.agg #[.int .i64 6, .string (s.extract (a + 1) (a + 1 + n)), .int .i64 0, .int .i64 0, .int .i64 0, .int .i64 0], .int .i64 (n + 1), .int .i64 0]) (by simp [results, Try.results31, go_sem]) rfl (NextR.of hF.out (by rw [str_mid1]; rfl) (by repeat (first | with_reducible exact Below.refl _ _ | with_reducible assumption | with_reducible refine Below.setCell ?_ (by simp) _ | with_reducible refine Below.alloc ?_ (by simp; try omega) _ | with_reducible refine below_drewN ?_ _ | with_reducible refine Below.drew ?_)))

theorem slash_pos {l : List UInt8} (h : slashV l ≠ 0) : (runB smallB (l.drop 1) > 0 ∧ runB smallB (l.drop 1) + 1 < l.length ∧ (l.getD (runB smallB (l.drop 1) + 1) 0).toNat = 47) ∧ slashV l = runB smallB (l.drop 1) + 2 := by
  unfold slashV at h ⊢
  split at h
  · rename_i g; exact ⟨g, by rw [if_pos g]⟩
  · exact absurd rfl h
theorem slash_zero {l : List UInt8} (h : slashV l = 0) : ¬ (runB smallB (l.drop 1) > 0 ∧ runB smallB (l.drop 1) + 1 < l.length ∧ (l.getD (runB smallB (l.drop 1) + 1) 0).toNat = 47) := by
  unfold slashV at h
  intro g
  rw [if_pos g] at h
  omega

set_option maxHeartbeats 8000000 in
set_option maxRecDepth 100000 in
theorem rnext_word (s : ByteArray) (a : Nat) (line col : Int) (w : World) (hs : s.size ≤ 16000) (h1 : a < s.size) (hc : ¬ (letterB s[a].toNat = true ∨ (s[a].toNat : Int) = 95 ∨ (s[a].toNat : Int) = 35)) (hd : digitB s[a].toNat = false) (hq : ¬ (s[a].toNat : Int) = 34) (h47 : (s[a].toNat : Int) = 47) (hsl : slashV (s.data.toList.drop a) ≠ 0) :
    Calls Try.prog 31 #[.agg (rfCells s a line col)] w (NextR s a w) := by
  unfold rfCells
  have hH := hd_at s a h1
  obtain ⟨hp, hv⟩ := slash_pos hsl
  have hF := Lib.hid (show nextT (s.data.toList.drop a) = (⟨7, ((s.data.toList.drop a).take (runB smallB ((s.data.toList.drop a).drop 1) + 1)).drop 1, 0, 0, 0⟩, runB smallB ((s.data.toList.drop a).drop 1) + 2, 0) from by
    unfold nextT; simp only [hH]; rw [if_neg hc, if_neg (by simp [hd]), if_neg hq, if_neg (by rintro ⟨x, _⟩; omega), if_pos h47, if_pos hp])
  have hsla := fun wx => ref_slashed s a wx (by omega) h1
  rw [hv] at hsla
  have hn : a + (runB smallB ((s.data.toList.drop a).drop 1) + 2) ≤ s.size := by have := hp.2.1; rw [rn_len] at this; omega
  clear hp hsl hv
  generalize runB smallB ((s.data.toList.drop a).drop 1) = n at hF hsla hn
  have hsl2 : ∀ wx, Calls Try.prog 58 #[.string s, .int .i64 a] wx fun e w' => e = .returned (.int .i64 ((n : Int) + 2)) ∧ wx = w' := hsla
  have HR := Lib.hid hsl2; clear hsla hsl2
  have hq' : ((s[a].toNat : Int) == 34) = false := by simpa using hq
  have h38' : ((s[a].toNat : Int) == 38) = false := by simp; omega
  have h47' : ((s[a].toNat : Int) == 47) = true := by simpa using h47
  have hd1 : decide (48 ≤ (s[a].toNat : Int)) = false := by simp; omega
  obtain ⟨h, h', h''⟩ := rcs_no _ hc
  clear hH hc hq h47 hd
  go_enter Try.func31, Try.ntmps31
  go_wp2_with fail
  go_quiet (fail)
  go_wp2_with (first | (go_at_call 38; refine (ref_letter _ _).mono ?_; rintro e w' ⟨rfl, rfl⟩) | (go_at_call 58; refine (HR.out _).mono ?_; rintro e w' ⟨rfl, rfl⟩))
  exact bodyPost_ret (v := .tuple #[.agg #[.int .i64 7, .string (s.extract (a + 1) (a + (n + 1))), .int .i64 0, .int .i64 0, .int .i64 0, .int .i64 0], .int .i64 (n + 2), .int .i64 0]) (by simp [results, Try.results31, go_sem]) rfl (NextR.of hF.out (by rw [show a + (n + 1) = a + 1 + n from by omega, str_mid1]; rfl) (by repeat (first | with_reducible exact Below.refl _ _ | with_reducible assumption | with_reducible refine Below.setCell ?_ (by simp) _ | with_reducible refine Below.alloc ?_ (by simp; try omega) _ | with_reducible refine below_drewN ?_ _ | with_reducible refine Below.drew ?_)))
end Go.Proofs.Ytdigoicdgeebhaa
