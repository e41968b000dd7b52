/- The contract of next of token: words, and all of it. -/
import Derived.Test.YtdigoicdgeebhaaTokG
namespace Go.Proofs.Ytdigoicdgeebhaa
open Go.RowKit

set_option maxHeartbeats 8000000 in
theorem next_word (s : ByteArray) (w : World) (hs : s.size ≤ 140737488355328) (h1 : 0 < s.size) (hc : ¬ (letterB s[0].toNat = true ∨ (s[0].toNat : Int) = 95 ∨ (s[0].toNat : Int) = 35)) (hd : digitB s[0].toNat = false) (hq : ¬ (s[0].toNat : Int) = 34) (h47 : (s[0].toNat : Int) = 47) :
    Calls Try.prog 28 #[.string s] w (NextPost s w) := by
  have hm : s.size ≤ maxLen := by unfold maxLen; omega
  have hH := head_of s h1
  have hF := Lib.hid (show nextT s.data.toList = if runB smallB (s.data.toList.drop 1) > 0 ∧ runB smallB (s.data.toList.drop 1) + 1 < s.data.toList.length ∧ (s.data.toList.getD (runB smallB (s.data.toList.drop 1) + 1) 0).toNat = 47 then (⟨7, (s.data.toList.take (runB smallB (s.data.toList.drop 1) + 1)).drop 1, 0, 0, 0⟩, runB smallB (s.data.toList.drop 1) + 2, 0) else sgT s.data.toList from by
    unfold nextT; simp only [hH]; rw [if_neg hc, if_neg (by simp [hd]), if_neg hq, if_neg (by rintro ⟨a, _⟩; omega), if_pos h47]; rfl)
  have hsg := fun wx => token_sign s wx hm h1
  have hn := signN_le s.data.toList (by intro e; have h2 := len_of s; rw [e] at h2; simp only [List.length_nil] at h2; omega)
  have hrun := fun wx => token_run1 s 50 smallB wx tells_small enters_small hm h1
  have hu := runB_le smallB (s.data.toList.drop 1)
  unfold sgT at hF
  generalize signN s.data.toList = n at hF hsg hn
  generalize runB smallB (s.data.toList.drop 1) = u at hF hrun hu
  have HR := Lib.hid hsg; clear hsg
  have HU := Lib.hid hrun; clear hrun
  have hn' : n ≤ s.size := by simpa using hn
  have hu' : u + 1 ≤ s.size := by simp at hu; omega
  have hq' : ((s[0].toNat : Int) == 34) = false := by simpa using hq
  have h38' : ((s[0].toNat : Int) == 38) = false := by simp; omega
  have h47' : ((s[0].toNat : Int) == 47) = true := by simpa using h47
  obtain ⟨h, h', h''⟩ := hcs_no _ hc
  clear hn hu hH hc hq h47
  by_cases hw : 0 < u ∧ u + 1 < s.size ∧ (s.data.toList.getD (u + 1) 0).toNat = 47
  · obtain ⟨g1, g2, g3⟩ := hw
    have hR := Lib.hid (show nextT s.data.toList = (⟨7, (s.data.toList.take (u + 1)).drop 1, 0, 0, 0⟩, u + 2, 0) from by rw [hF.out, if_pos ⟨g1, by rw [len_of]; exact g2, g3⟩])
    rw [getD_of s _ g2] at g3
    have g4 : ((s[u + 1].toNat : Int) == 47) = true := by simp [g3]
    clear g3
    go_enter Try.func28, Try.ntmps28
    go_wp2_with (first | (go_at_call 35; refine (token_letter _ _).mono ?_; rintro e w' ⟨rfl, rfl⟩) | (go_at_call 40; refine (token_digit _ _).mono ?_; rintro e w' ⟨rfl, rfl⟩) | (go_at_call 45; refine (HU.out _).mono ?_; rintro e w' ⟨rfl, rfl⟩) | (go_at_call 51; refine (HR.out _).mono ?_; rintro e w' ⟨rfl, rfl⟩))
    exact bodyPost_ret (v := .tuple #[.agg #[.int .i64 7, .string (s.extract 1 (u + 1)), .int .i64 0, .int .i64 0, .int .i64 0, .int .i64 0], .int .i64 (u + 2), .int .i64 0]) (by simp [results, Try.results28, go_sem]) rfl ⟨by rw [hR.out, str_take]; rfl, (Below.refl _ _).alloc (Nat.le_refl _) _⟩
  · have hF2 := Lib.hid (show nextT s.data.toList = if n > 0 then (⟨4, s.data.toList.take n, 0, 0, 0⟩, n, 0) else (⟨0, [], 0, 0, 0⟩, 0, 20) from by rw [hF.out, if_neg (by rw [len_of]; exact hw)])
    have hwc : u = 0 ∨ (0 < u ∧ ¬ u + 1 < s.size) ∨ (0 < u ∧ ∃ g : u + 1 < s.size, ((s[u + 1].toNat : Int) == 47) = false) := by
      by_cases a : 0 < u
      · by_cases b : u + 1 < s.size
        · refine .inr (.inr ⟨a, b, ?_⟩)
          rw [getD_of s _ b] at hw
          simp; intro hx; exact hw ⟨a, b, by omega⟩
        · exact .inr (.inl ⟨a, b⟩)
      · exact .inl (by omega)
    clear hw
    by_cases hn0 : 0 < n
    · have hR := Lib.hid (show nextT s.data.toList = (⟨4, s.data.toList.take n, 0, 0, 0⟩, n, 0) from by rw [hF2.out, if_pos hn0])
      rcases hwc with rfl | ⟨g, g'⟩ | ⟨g, g', g2⟩
      all_goals
        go_enter Try.func28, Try.ntmps28
        go_wp2_with (first | (go_at_call 35; refine (token_letter _ _).mono ?_; rintro e w' ⟨rfl, rfl⟩) | (go_at_call 40; refine (token_digit _ _).mono ?_; rintro e w' ⟨rfl, rfl⟩) | (go_at_call 45; refine (HU.out _).mono ?_; rintro e w' ⟨rfl, rfl⟩) | (go_at_call 51; refine (HR.out _).mono ?_; rintro e w' ⟨rfl, rfl⟩))
        exact bodyPost_ret (v := .tuple #[.agg #[.int .i64 4, .string (s.extract 0 n), .int .i64 0, .int .i64 0, .int .i64 0, .int .i64 0], .int .i64 n, .int .i64 0]) (by simp [results, Try.results28, go_sem]) rfl ⟨by rw [hR.out, str_take]; rfl, (Below.refl _ _).alloc (Nat.le_refl _) _⟩
    · have hn0 : n = 0 := by omega
      subst hn0
      have hR := Lib.hid (show nextT s.data.toList = (⟨0, [], 0, 0, 0⟩, 0, 20) from by rw [hF2.out, if_neg (by omega)])
      rcases hwc with rfl | ⟨g, g'⟩ | ⟨g, g', g2⟩
      all_goals
        go_enter Try.func28, Try.ntmps28
        go_wp2_with (first | (go_at_call 35; refine (token_letter _ _).mono ?_; rintro e w' ⟨rfl, rfl⟩) | (go_at_call 40; refine (token_digit _ _).mono ?_; rintro e w' ⟨rfl, rfl⟩) | (go_at_call 45; refine (HU.out _).mono ?_; rintro e w' ⟨rfl, rfl⟩) | (go_at_call 51; refine (HR.out _).mono ?_; rintro e w' ⟨rfl, rfl⟩))
        exact bodyPost_ret (v := .tuple #[.agg #[.int .i64 0, .string ⟨#[]⟩, .int .i64 0, .int .i64 0, .int .i64 0, .int .i64 0], .int .i64 0, .int .i64 20]) (by simp [results, Try.results28, go_sem]) rfl ⟨by rw [hR.out]; rfl, (Below.refl _ _).alloc (Nat.le_refl _) _⟩

theorem token_next (s : ByteArray) (w : World) (hs : s.size ≤ 140737488355328) (h1 : 0 < s.size) : Calls Try.prog 28 #[.string s] w (NextPost s w) := by
  by_cases hc : letterB s[0].toNat = true ∨ (s[0].toNat : Int) = 95 ∨ (s[0].toNat : Int) = 35
  · exact next_name s w hs h1 hc
  · cases hd : digitB s[0].toNat
    · by_cases hq : (s[0].toNat : Int) = 34
      · exact next_string s w hs h1 hc hd hq
      · by_cases h47 : (s[0].toNat : Int) = 47
        · exact next_word s w hs h1 hc hd hq h47
        · by_cases h38 : (s[0].toNat : Int) = 38 ∧ 1 < s.size ∧ (letterB (s.data.toList.getD 1 0).toNat = true ∨ (s.data.toList.getD 1 0).toNat = 95)
          · obtain ⟨a, b, c⟩ := h38
            rw [getD_of s 1 b] at c
            exact next_ref s w hs h1 hc hd hq a b (by rcases c with c | c; exact .inl c; right; omega)
          · exact next_sign s w hs h1 hc hd hq h38 h47
    · exact next_digit s w hs h1 hc hd
end Go.Proofs.Ytdigoicdgeebhaa
