/- The contract of next of token: references and signs. -/
import Derived.Test.YtdigoicdgeebhaaTokF
namespace Go.Proofs.Ytdigoicdgeebhaa
open Go.RowKit

set_option maxHeartbeats 4000000 in
theorem next_ref (s : ByteArray) (w : World) (hs : s.size ≤ 140737488355328) (h1 : 0 < s.size) (hc : ¬ (letterB s[0].toNat = true ∨ (s[0].toNat : Int) = 95 ∨ (s[0].toNat : Int) = 35)) (hd : digitB s[0].toNat = false) (hq : ¬ (s[0].toNat : Int) = 34) (h38 : (s[0].toNat : Int) = 38) (hs1 : 1 < s.size) (hl : letterB s[1].toNat = true ∨ (s[1].toNat : Int) = 95) :
    Calls Try.prog 28 #[.string s] w (NextPost s w) := by
  have hm : s.size ≤ maxLen := by unfold maxLen; omega
  have hH := head_of s h1
  have hG := getD_of s 1 hs1
  have hF := Lib.hid (show nextT s.data.toList = (⟨6, (s.data.toList.take (runB wordB (s.data.toList.drop 1) + 1)).drop 1, 0, 0, 0⟩, runB wordB (s.data.toList.drop 1) + 1, 0) from by
    unfold nextT; simp only [hH]; rw [if_neg hc, if_neg (by simp [hd]), if_neg hq, if_pos ⟨h38, by simpa using hs1, by rw [hG]; rcases hl with h | h; exact .inl h; right; omega⟩])
  have hrun := fun wx => token_run1 s 41 wordB wx tells_word enters_word hm h1
  have hn := runB_le wordB (s.data.toList.drop 1)
  generalize runB wordB (s.data.toList.drop 1) = n at hF hrun hn
  have HR := Lib.hid hrun; clear hrun
  have hn' : n + 1 ≤ s.size := by simp at hn; omega
  have hq' : ((s[0].toNat : Int) == 34) = false := by simpa using hq
  have h38' : ((s[0].toNat : Int) == 38) = true := by simpa using h38
  obtain ⟨h, h', h''⟩ := hcs_no _ hc
  clear hn hH hG hc hq h38
  by_cases hl1 : letterB s[1].toNat = true
  · clear hl
    go_enter Try.func28, Try.ntmps28
    go_wp2_with (first | (go_at_call 35; refine (token_letter _ _).mono ?_; rintro e w' ⟨rfl, rfl⟩) | (go_at_call 40; refine (token_digit _ _).mono ?_; rintro e w' ⟨rfl, rfl⟩) | (go_at_call 45; refine (HR.out _).mono ?_; rintro e w' ⟨rfl, rfl⟩))
    exact bodyPost_ret (v := .tuple #[.agg #[.int .i64 6, .string (s.extract 1 (n + 1)), .int .i64 0, .int .i64 0, .int .i64 0, .int .i64 0], .int .i64 (n + 1), .int .i64 0]) (by simp [results, Try.results28, go_sem]) rfl ⟨by rw [hF.out, str_take]; rfl, (Below.refl _ _).alloc (Nat.le_refl _) _⟩
  · have hl2 : ((s[1].toNat : Int) == 95) = true := by rcases hl with h | h; exact absurd h hl1; simpa using h
    have hl1 : letterB s[1].toNat = false := by simpa using hl1
    clear hl
    go_enter Try.func28, Try.ntmps28
    go_wp2_with (first | (go_at_call 35; refine (token_letter _ _).mono ?_; rintro e w' ⟨rfl, rfl⟩) | (go_at_call 40; refine (token_digit _ _).mono ?_; rintro e w' ⟨rfl, rfl⟩) | (go_at_call 45; refine (HR.out _).mono ?_; rintro e w' ⟨rfl, rfl⟩))
    exact bodyPost_ret (v := .tuple #[.agg #[.int .i64 6, .string (s.extract 1 (n + 1)), .int .i64 0, .int .i64 0, .int .i64 0, .int .i64 0], .int .i64 (n + 1), .int .i64 0]) (by simp [results, Try.results28, go_sem]) rfl ⟨by rw [hF.out, str_take]; rfl, (Below.refl _ _).alloc (Nat.le_refl _) _⟩

/-- The signs' part of the spec. -/
def sgT (l : List UInt8) : Tok × Nat × Int := if signN l > 0 then (⟨4, l.take (signN l), 0, 0, 0⟩, signN l, 0) else (⟨0, [], 0, 0, 0⟩, 0, 20)
theorem signN_le (l : List UInt8) (h : l ≠ []) : signN l ≤ l.length := by
  unfold signN
  split
  · rename_i h2
    simp only [pairsL, List.any_cons, List.any_nil, Bool.or_false, Bool.or_eq_true] at h2
    rcases h2 with h2 | h2 | h2 | h2 | h2 | h2 | h2 | h2 <;> exact Lib.hasPrefix_le h2
  · split
    · have := List.length_pos_iff.2 h; omega
    · omega

set_option maxHeartbeats 4000000 in
theorem next_sign (s : ByteArray) (w : World) (hs : s.size ≤ 140737488355328) (h1 : 0 < s.size) (hc : ¬ (letterB s[0].toNat = true ∨ (s[0].toNat : Int) = 95 ∨ (s[0].toNat : Int) = 35)) (hd : digitB s[0].toNat = false) (hq : ¬ (s[0].toNat : Int) = 34) (h38 : ¬ ((s[0].toNat : Int) = 38 ∧ 1 < s.size ∧ (letterB (s.data.toList.getD 1 0).toNat = true ∨ (s.data.toList.getD 1 0).toNat = 95))) (h47 : ¬ (s[0].toNat : Int) = 47) :
    Calls Try.prog 28 #[.string s] w (NextPost s w) := by
  have hm : s.size ≤ maxLen := by unfold maxLen; omega
  have hH := head_of s h1
  have hF := Lib.hid (show nextT s.data.toList = sgT s.data.toList from by
    unfold nextT; simp only [hH]; rw [if_neg hc, if_neg (by simp [hd]), if_neg hq, if_neg (by simpa using h38), if_neg h47]; rfl)
  have hsg := fun wx => token_sign s wx hm h1
  have hn := signN_le s.data.toList (by intro e; have h2 := len_of s; rw [e] at h2; simp only [List.length_nil] at h2; omega)
  unfold sgT at hF
  generalize signN s.data.toList = n at hF hsg hn
  have HR := Lib.hid hsg; clear hsg
  have hn' : n ≤ s.size := by simpa using hn
  have hq' : ((s[0].toNat : Int) == 34) = false := by simpa using hq
  have h47' : ((s[0].toNat : Int) == 47) = false := by simpa using h47
  obtain ⟨h, h', h''⟩ := hcs_no _ hc
  have h38c : ((s[0].toNat : Int) == 38) = false ∨ ((s[0].toNat : Int) == 38) = true ∧ ¬ 1 < s.size ∨ ∃ hs1 : 1 < s.size, ((s[0].toNat : Int) == 38) = true ∧ letterB s[1].toNat = false ∧ ((s[1].toNat : Int) == 95) = false := by
    by_cases a : (s[0].toNat : Int) = 38
    · by_cases b : 1 < s.size
      · rw [getD_of s 1 b] at h38
        refine .inr (.inr ⟨b, by simpa using a, ?_, ?_⟩)
        · cases hx : letterB s[1].toNat; rfl; exact absurd ⟨a, b, .inl hx⟩ h38
        · simp; intro hx; exact h38 ⟨a, b, .inr (by omega)⟩
      · exact .inr (.inl ⟨by simpa using a, b⟩)
    · exact .inl (by simpa using a)
  clear hn hH hc hq h38 h47
  by_cases hn0 : 0 < n
  · have hR := Lib.hid (show nextT s.data.toList = (⟨4, s.data.toList.take n, 0, 0, 0⟩, n, 0) from by rw [hF.out, if_pos hn0])
    rcases h38c with g | ⟨g, g'⟩ | ⟨g, g', g2, g3⟩
    all_goals
      go_enter Try.func28, Try.ntmps28
      go_wp2_with (first | (go_at_call 35; refine (token_letter _ _).mono ?_; rintro e w' ⟨rfl, rfl⟩) | (go_at_call 40; refine (token_digit _ _).mono ?_; rintro e w' ⟨rfl, rfl⟩) | (go_at_call 51; refine (HR.out _).mono ?_; rintro e w' ⟨rfl, rfl⟩))
      exact bodyPost_ret (v := .tuple #[.agg #[.int .i64 4, .string (s.extract 0 n), .int .i64 0, .int .i64 0, .int .i64 0, .int .i64 0], .int .i64 n, .int .i64 0]) (by simp [results, Try.results28, go_sem]) rfl ⟨by rw [hR.out, str_take]; rfl, (Below.refl _ _).alloc (Nat.le_refl _) _⟩
  · have hn0 : n = 0 := by omega
    subst hn0
    have hR := Lib.hid (show nextT s.data.toList = (⟨0, [], 0, 0, 0⟩, 0, 20) from by rw [hF.out, if_neg (by omega)])
    rcases h38c with g | ⟨g, g'⟩ | ⟨g, g', g2, g3⟩
    all_goals
      go_enter Try.func28, Try.ntmps28
      go_wp2_with (first | (go_at_call 35; refine (token_letter _ _).mono ?_; rintro e w' ⟨rfl, rfl⟩) | (go_at_call 40; refine (token_digit _ _).mono ?_; rintro e w' ⟨rfl, rfl⟩) | (go_at_call 51; refine (HR.out _).mono ?_; rintro e w' ⟨rfl, rfl⟩))
      exact bodyPost_ret (v := .tuple #[.agg #[.int .i64 0, .string ⟨#[]⟩, .int .i64 0, .int .i64 0, .int .i64 0, .int .i64 0], .int .i64 0, .int .i64 20]) (by simp [results, Try.results28, go_sem]) rfl ⟨by rw [hR.out]; rfl, (Below.refl _ _).alloc (Nat.le_refl _) _⟩
end Go.Proofs.Ytdigoicdgeebhaa
