/- The value of a property is what Of finds, in plain Lean. -/
import Derived.Test.YthkoaakicdhnpaaGreatZ12
import Derived.Test.YthkoaakicdhnpaaGreatZ1
import Derived.Test.YthkoaakicdhnpaaGreatZ6

open Go
namespace Go.Proofs.YthkoaakicdhnpaaGreat

theorem eq_of_lt {a b : ByteArray} (h : ltS a b = true) : eqS a b = false := by
  cases e : eqS a b with
  | false => rfl
  | true => rw [(eqS_iff a b).1 e, ltS_irrefl] at h; cases h
theorem eq_of_gt {a b : ByteArray} (h : ltS b a = true) : eqS a b = false := by
  cases e : eqS a b with
  | false => rfl
  | true => rw [(eqS_iff a b).1 e, ltS_irrefl] at h; cases h
theorem low_cases (x : ByteArray) : ∀ ps : List PropT, (∀ j (hj : j < ps.length), j < lowT ps x → ltS ps[j].name x = true) ∧ (∀ h : lowT ps x < ps.length, ltS ps[lowT ps x].name x = false) := by
  intro ps
  induction ps with
  | nil => exact ⟨fun j hj => absurd hj (Nat.not_lt_zero j), fun h => absurd h (Nat.not_lt_zero _)⟩
  | cons a l ih =>
    by_cases e : ltS a.name x = true
    · have hl : lowT (a :: l) x = lowT l x + 1 := by unfold lowT; rw [List.takeWhile_cons, if_pos e]; rfl
      refine ⟨fun j hj h => ?_, fun h => ?_⟩
      · cases j with
        | zero => exact e
        | succ j => exact ih.1 j (by simpa using hj) (by omega)
      · have h2 : lowT l x < l.length := by rw [hl] at h; simpa using h
        have := ih.2 h2
        simp only [hl, List.getElem_cons_succ]
        exact this
    · have hl : lowT (a :: l) x = 0 := by unfold lowT; rw [List.takeWhile_cons, if_neg e]; rfl
      refine ⟨fun j hj h => by omega, fun h => ?_⟩
      simp only [hl, List.getElem_cons_zero]
      simpa using e
/-- In a row in order nothing but the found place has the name. -/
theorem low_only {ps : List PropT} {x : ByteArray} (ha : ascT ps = true) (j : Nat) (hj : j < ps.length) (hne : j ≠ lowT ps x ∨ hasT ps x = false) : eqS ps[j].name x = false := by
  obtain ⟨h1, h2⟩ := low_cases x ps
  rcases Nat.lt_trichotomy j (lowT ps x) with e | e | e
  · exact eq_of_lt (h1 j hj e)
  · rcases hne with h | h
    · exact absurd e h
    · subst e; rw [has_at hj] at h; exact h
  · have hl : lowT ps x < ps.length := by omega
    have h3 := asc_lt ps ha _ j hl hj e
    have h4 := h2 hl
    rcases ltS_total h4 with h5 | h5
    · rw [h5] at h3; exact eq_of_gt h3
    · exact eq_of_gt (ltS_trans h5 h3)
theorem of_low {ps : List PropT} {x : ByteArray} (ha : ascT ps = true) : ofT ps x = if hasT ps x = true then (match ps[lowT ps x]? with | some p => p.value | none => ByteArray.empty, true) else (ByteArray.empty, false) := by
  cases hh : hasT ps x with
  | false => rw [if_neg (by decide)]; exact of_no (fun j hj _ => low_only ha j hj (.inr hh))
  | true =>
    have hl : lowT ps x < ps.length := by
      by_cases e : lowT ps x < ps.length
      · exact e
      · rw [has_none (by omega)] at hh; cases hh
    rw [if_pos rfl, List.getElem?_eq_getElem hl]
    exact of_yes hl (by rw [← has_at hl]; exact hh) (fun j hj h => low_only ha j hj (.inl (by omega)))
theorem value_of {T : List NodeT} (hc : checkT T = 0) {k : Nat} (hk : k < T.length) (x : ByteArray) : valueT T (k : Int) x = ofT T[k].props x := by
  rw [of_low (check_asc hc _ (List.getElem_mem hk))]
  unfold valueT
  rw [if_neg (by rintro (h | h | h) <;> first | exact h hc | omega), Int.toNat_natCast, List.getElem?_eq_getElem hk]
  rfl
end Go.Proofs.YthkoaakicdhnpaaGreat
