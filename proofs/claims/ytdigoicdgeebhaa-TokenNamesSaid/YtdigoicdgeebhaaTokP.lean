/- Plain laws on what next of token computes: how far it reads. -/
import Derived.Test.YtdigoicdgeebhaaTokT
namespace Go.Proofs.Ytdigoicdgeebhaa

theorem qtA_room : ∀ (f : Nat) (l acc : List UInt8) (i : Nat), (qtA f l acc i).2.2 = 0 → i + 1 ≤ (qtA f l acc i).2.1 ∧ (qtA f l acc i).2.1 ≤ i + l.length := by
  intro f
  induction f with
  | zero => intro l acc i h; simp [qtA] at h
  | succ f ih =>
    intro l acc i h
    cases l with
    | nil => simp [qtA] at h
    | cons c r =>
      by_cases h34 : c.toNat = 34
      · simp only [qtA]; rw [if_pos h34]; simp
      · by_cases h10 : c.toNat = 10
        · simp only [qtA] at h; rw [if_neg h34, if_pos h10] at h; simp at h
        · by_cases h92 : c.toNat = 92
          · simp only [qtA] at h ⊢; rw [if_neg h34, if_neg h10, if_pos h92] at h ⊢
            by_cases he : (esc r).2.2 ≠ 0
            · rw [if_pos he] at h; exact absurd h he
            · rw [if_neg he] at h ⊢
              have := ih _ _ _ h
              have hr : (esc r).2.1 ≤ r.length := by
                cases r with
                | nil => simp [esc]
                | cons a r =>
                  simp only [esc]
                  repeat' (split; · simp)
                  cases r with
                  | nil => simp [hx2]
                  | cons b r =>
                    simp only [hx2]
                    repeat' (split; · simp)
                    cases r with
                    | nil => simp [hx2]
                    | cons c r => simp only [hx2]; repeat' (split; · simp)
                                  simp
              simp only [List.length_drop, List.length_cons] at this ⊢
              omega
          · simp only [qtA] at h ⊢; rw [if_neg h34, if_neg h10, if_neg h92] at h ⊢
            have := ih _ _ _ h
            simp only [List.length_cons]
            omega

theorem runB_pos (p : Int → Bool) (l : List UInt8) (h : l ≠ []) (hp : p (l.headD 0).toNat = true) : 1 ≤ runB p l := by
  cases l with
  | nil => exact absurd rfl h
  | cons c r => rw [runB_cons, if_pos (by simpa using hp)]; omega

theorem name_first (c : Int) (h : letterB c = true ∨ c = 95 ∨ c = 35) : nameB c = true := by
  unfold nameB wordB
  rcases h with h | h | h
  · simp [h]
  · simp [h]
  · subst h; decide
theorem signN_room (l : List UInt8) (h : l ≠ []) : signN l ≤ l.length := by
  unfold signN
  split
  · rename_i h2
    simp only [pairsL, List.any_cons, List.any_nil, Bool.or_false, Bool.or_eq_true] at h2
    rcases h2 with h2 | h2 | h2 | h2 | h2 | h2 | h2 | h2 <;> exact Lib.hasPrefix_le h2
  · split
    · have := List.length_pos_iff.2 h; omega
    · omega

theorem nextT_room (l : List UInt8) (h : l ≠ []) (he : (nextT l).2.2 = 0) : 1 ≤ (nextT l).2.1 ∧ (nextT l).2.1 ≤ l.length := by
  have hlen := List.length_pos_iff.2 h
  have hsg : ∀ q, (if signN l > 0 then ((⟨4, l.take (signN l), 0, 0, 0⟩ : Tok), signN l, (0 : Int)) else (⟨0, [], 0, 0, 0⟩, 0, 20)) = q → q.2.2 = 0 → 1 ≤ q.2.1 ∧ q.2.1 ≤ l.length := by
    rintro q rfl hq
    split at hq
    · rename_i h0; rw [if_pos h0]; exact ⟨h0, signN_room l h⟩
    · simp at hq
  unfold nextT at he ⊢
  simp only at he ⊢
  by_cases c1 : letterB (l.headD 0).toNat = true ∨ ((l.headD 0).toNat : Int) = 95 ∨ ((l.headD 0).toNat : Int) = 35
  · rw [if_pos c1] at he ⊢
    have hr := runB_le nameB l
    have hp : 1 ≤ runB nameB l := runB_pos nameB l h (name_first _ c1)
    by_cases c2 : runB nameB l = l.length ∨ (l.getD (runB nameB l) 0).toNat ≠ 58
    · rw [if_pos c2]; exact ⟨hp, hr⟩
    · rw [if_neg c2] at he ⊢
      have c2' : runB nameB l ≠ l.length := fun e => c2 (.inl e)
      by_cases c3 : allB wordB (l.take (runB nameB l)) = true
      · rw [if_pos c3]; simp only; omega
      · rw [if_neg c3] at he; simp at he
  · rw [if_neg c1] at he ⊢
    by_cases c2 : digitB (l.headD 0).toNat = true
    · rw [if_pos c2] at he ⊢
      exact ⟨runB_pos wordB l h (by unfold wordB; simp only [c2]; simp), runB_le wordB l⟩
    · rw [if_neg c2] at he ⊢
      by_cases c3 : ((l.headD 0).toNat : Int) = 34
      · rw [if_pos c3] at he ⊢
        have := qtA_room _ _ _ _ he
        simp only [List.length_drop] at this ⊢
        omega
      · rw [if_neg c3] at he ⊢
        by_cases c4 : ((l.headD 0).toNat : Int) = 38 ∧ 1 < l.length ∧ (letterB (l.getD 1 0).toNat = true ∨ (l.getD 1 0).toNat = 95)
        · rw [if_pos c4] at he ⊢
          have := runB_le wordB (l.drop 1)
          simp only [List.length_drop] at this ⊢
          omega
        · rw [if_neg c4] at he ⊢
          by_cases c5 : ((l.headD 0).toNat : Int) = 47
          · rw [if_pos c5] at he ⊢
            by_cases c6 : runB smallB (l.drop 1) > 0 ∧ runB smallB (l.drop 1) + 1 < l.length ∧ (l.getD (runB smallB (l.drop 1) + 1) 0).toNat = 47
            · rw [if_pos c6]; simp only; omega
            · rw [if_neg c6] at he ⊢; exact hsg _ rfl he
          · rw [if_neg c5] at he ⊢; exact hsg _ rfl he
end Go.Proofs.Ytdigoicdgeebhaa
