/- Plain: a first zero byte, zero bytes alone, as the library's functions say them. -/
import Derived.Test.YtofhcgbihonckaaGreatDoorZ3
import Derived.Lib.Bytealg
import Derived.Lib.TrimByte
import Derived.Lib.IndexMore

set_option linter.unusedVariables false
set_option linter.unusedSimpArgs false
set_option linter.unusedSectionVars false

namespace Go.Proofs.YtofhcgbihonckaaGreatDoor
open Go.RowKit

theorem index_upto : ∀ (l : List UInt8), ((uptoZ l).length = l.length ∧ Lib.indexByte l 0 = -1) ∨ ((uptoZ l).length < l.length ∧ Lib.indexByte l 0 = ((uptoZ l).length : Int)) := by
  intro l
  induction l with
  | nil => exact .inl ⟨rfl, rfl⟩
  | cons c l ih =>
    by_cases hc : c = 0
    · subst hc
      exact .inr ⟨by simp [uptoZ], by simp [Lib.indexByte, uptoZ]⟩
    · have hu : uptoZ (c :: l) = c :: uptoZ l := by simp [uptoZ, hc]
      have hb : (c == 0) = false := by simpa using hc
      rw [hu]
      unfold Lib.indexByte
      rw [hb]
      rcases ih with ⟨h1, h2⟩ | ⟨h1, h2⟩
      · exact .inl ⟨by simp [h1], by rw [h2]; rfl⟩
      · refine .inr ⟨by simp; omega, ?_⟩
        rw [h2]
        have : (((uptoZ l).length : Int) == -1) = false := by rw [beq_eq_false_iff_ne]; omega
        rw [this]
        simp
theorem drop_all (l : List UInt8) : (l.dropWhile (· == 0) = [] ↔ zeroB l = true) := by
  induction l with
  | nil => simp [zeroB]
  | cons c l ih =>
    by_cases hc : c = 0
    · subst hc
      simp [List.dropWhile_cons, ih, zeroB]
    · simp [List.dropWhile_cons, zeroB, hc]
theorem trim_zero (l : List UInt8) : Lib.trimB l 0 = [] ↔ zeroB l = true := by
  have hrev : ∀ r : List UInt8, zeroB r.reverse = zeroB r := fun r => by simp [zeroB]
  have hdw : ∀ r : List UInt8, zeroB (r.dropWhile (· == 0)) = zeroB r := by
    intro r
    induction r with
    | nil => rfl
    | cons c r ih =>
      by_cases hc : c = 0
      · subst hc; rw [List.dropWhile_cons, if_pos (by rfl), ih]; simp [zeroB]
      · rw [List.dropWhile_cons, if_neg (by simpa using hc)]
  unfold Lib.trimB Lib.trimLeftB Lib.trimRightB
  rw [drop_all, hrev, hdw, hrev]
theorem index_one : ∀ (l : List UInt8), Lib.index l [0] = Lib.indexByte l 0 := by
  intro l
  induction l with
  | nil => rfl
  | cons c l ih =>
    unfold Lib.index Lib.indexByte
    rw [ih]
    by_cases hc : c = 0
    · subst hc; simp
    · have h1 : (c == 0) = false := by simpa using hc
      have h2 : List.isPrefixOf [0] (c :: l) = false := by
        simp [List.isPrefixOf]; exact fun e => hc e.symm
      rw [h1, h2]
theorem upto_take (l : List UInt8) : l.take (uptoZ l).length = uptoZ l := by
  unfold uptoZ
  induction l with
  | nil => rfl
  | cons c l ih =>
    by_cases hc : c = 0
    · subst hc; simp
    · rw [List.takeWhile_cons, if_pos (by simpa using hc), List.length_cons, List.take_succ_cons, ih]
theorem upto_le (l : List UInt8) : (uptoZ l).length ≤ l.length := (List.takeWhile_sublist _).length_le
theorem cut_zero (l : List UInt8) : (Lib.cut l [0]).1 = uptoZ l := by
  unfold Lib.cut
  rw [index_one]
  rcases index_upto l with ⟨h1, h2⟩ | ⟨h1, h2⟩
  · rw [h2, if_neg (by omega)]
    have := upto_take l
    rw [h1, List.take_length] at this
    exact this
  · rw [h2, if_pos (by omega)]
    simp only [Int.toNat_natCast]
    exact upto_take l
end Go.Proofs.YtofhcgbihonckaaGreatDoor
