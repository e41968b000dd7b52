/- include, in plain Lean: what is loaded does not depend on files that are not included, nor on the order of the files. | include, in plain Lean: how long definitions are. -/
import Derived.Test.YtofhcgbihonckaaGreatZ26
set_option linter.unusedVariables false
set_option linter.unusedSimpArgs false
set_option linter.unusedSectionVars false
namespace Go.Proofs.YtofhcgbihonckaaGreat
open Go.RowKit
section
variable (c : Nat) (F F' : List FileT)
variable {F F'}
end
end Go.Proofs.YtofhcgbihonckaaGreat
namespace Go.Proofs.YtofhcgbihonckaaGreat
open Go.RowKit
section
variable (L : List Tok)
def OkD (d : DefT) : Prop := d.parts.length ≤ 6002 ∧ ∀ p ∈ d.parts, p.cells.length ≤ 6002
theorem OkD.nil {d : DefT} (h : d.parts = []) : OkD d := ⟨by rw [h]; simp, fun p hp => by rw [h] at hp; cases hp⟩
theorem cellsR_len : ∀ (n i : Nat) (acc : List CellT) (j : Nat) (cs : List CellT), cellsR L n i acc = .ok (j, cs) → cs.length ≤ acc.length + n
  | 0, i, acc, j, cs, h => by cases h
  | n + 1, i, acc, j, cs, h => by
    rw [cellsR] at h
    split at h
    · cases h; omega
    · split at h
      · split at h
        · have := cellsR_len n _ _ _ _ h; simp at this; omega
        · cases h
      · split at h
        · cases h
        · have := cellsR_len n _ _ _ _ h; simp at this; omega
theorem partR_len {i j : Nat} {p : PartT} (h : partR L i = .ok (j, p)) : p.cells.length ≤ fuelP L := by
  unfold partR at h
  split at h
  · cases h; simp
  · split at h
    · split at h
      · cases h; simp
      · cases h
    · split at h
      · split at h
        · rename_i hc; cases h
          have := cellsR_len L _ _ _ _ _ hc
          simpa using this
        · cases h
      · split at h
        · split at h
          · cases h; simp
          · cases h
        · cases h
theorem partsR_len : ∀ (n : Nat) (sep : List UInt8) (i : Nat) (acc : List PartT) (j : Nat) (ps : List PartT), partsR L n sep i acc = .ok (j, ps) → (∀ p ∈ acc, p.cells.length ≤ fuelP L) → ps.length ≤ acc.length + n ∧ ∀ p ∈ ps, p.cells.length ≤ fuelP L
  | 0, sep, i, acc, j, ps, h, _ => by cases h
  | n + 1, sep, i, acc, j, ps, h, ha => by
    rw [partsR] at h
    split at h
    · cases h1 : partR L (i + 1) with
      | error e => rw [h1] at h; cases h
      | ok q =>
        rw [h1] at h
        obtain ⟨m, p⟩ := q
        have h2 := partR_len L h1
        obtain ⟨h3, h4⟩ := partsR_len n _ _ _ _ _ h (fun x hx => by
          rcases List.mem_append.1 hx with hx | hx
          · exact ha x hx
          · simp only [List.mem_singleton] at hx; subst hx; exact h2)
        exact ⟨by simp at h3; omega, h4⟩
    · cases h; exact ⟨by omega, ha⟩
theorem del_parts {kind what : Int} {before : List UInt8} {right : List UInt8 → Bool} {i j : Nat} {ds : List DefT} (h : delR L kind what before right i = .ok (j, ds)) : ∃ d, ds = [d] ∧ d.parts = [] := by
  unfold delR at h
  cases h1 : takenR L what right (i + 1) with
  | error e => rw [h1] at h; cases h
  | ok m =>
    rw [h1] at h
    simp only at h
    cases h2 : signR L [59] m with
    | error e => rw [h2] at h; cases h
    | ok q =>
      rw [h2] at h
      cases h
      exact ⟨_, rfl, rfl⟩
variable (hL : L.length ≤ 6001)
include hL
theorem srcE_len : ∀ (n : Nat) (md : Md) (i j : Nat) (ds : List DefT), srcE L n md i = .ok (j, ds) → (match md with
    | .body d _ => OkD d
    | .mems _ acc => ∀ d ∈ acc, OkD d
    | _ => True) → ∀ d ∈ ds, OkD d
  | 0, md, i, j, ds, h, _ => by cases md <;> cases h
  | n + 1, .body d dp, i, j, ds, h, hd => by
    rw [srcE] at h
    split at h
    · split at h
      · cases h
      · exact srcE_len n (.mems dp [d]) _ _ _ h (fun x hx => by simp only [List.mem_singleton] at hx; subst hx; exact hd)
    · cases h
  | n + 1, .mems dp acc, i, j, ds, h, hd => by
    rw [srcE] at h
    split at h
    · cases h
      intro x hx
      rcases List.mem_append.1 hx with hx | hx
      · exact hd x hx
      · simp only [List.mem_singleton] at hx; subst hx; exact .nil rfl
    · cases h1 : srcE L n (.member dp) i with
      | error e => rw [h1] at h; cases h
      | ok q =>
        rw [h1] at h
        obtain ⟨m, xs⟩ := q
        have h2 := srcE_len n (.member dp) _ _ _ h1 trivial
        refine srcE_len n (.mems dp (acc ++ xs)) _ _ _ h (fun x hx => ?_)
        rcases List.mem_append.1 hx with hx | hx
        · exact hd x hx
        · exact h2 x hx
  | n + 1, .member dp, i, j, ds, h, _ => by
    rw [srcE] at h
    split at h
    · cases h1 : takenR L 5 labelT i with
      | error e => rw [h1] at h; cases h
      | ok a =>
        rw [h1] at h
        simp only at h
        cases h2 : takenR L 1 nameT a with
        | error e => rw [h2] at h; cases h
        | ok b =>
          rw [h2] at h
          simp only at h
          cases h3 : srcE L n (.body ⟨1, txN L i, txN L a, [], (tkN L i).line, (tkN L i).col⟩ (dp + 1)) b with
          | error e => rw [h3] at h; cases h
          | ok q =>
            rw [h3] at h
            obtain ⟨m, xs⟩ := q
            simp only at h
            have h6 := srcE_len n _ _ _ _ h3 (.nil rfl)
            cases h4 : signR L [59] m with
            | error e => rw [h4] at h; cases h
            | ok q => rw [h4] at h; cases h; exact h6
    · split at h
      · cases h1 : srcE L n (.named dp) i with
        | error e => rw [h1] at h; cases h
        | ok q =>
          rw [h1] at h
          obtain ⟨m, xs⟩ := q
          simp only at h
          have h6 := srcE_len n _ _ _ _ h1 trivial
          cases h4 : signR L [59] m with
          | error e => rw [h4] at h; cases h
          | ok q => rw [h4] at h; cases h; exact h6
      · split at h
        · obtain ⟨d, rfl, a3⟩ := del_parts L h
          intro x hx
          simp only [List.mem_singleton] at hx; subst hx; exact .nil a3
        · split at h
          · obtain ⟨d, rfl, a3⟩ := del_parts L h
            intro x hx
            simp only [List.mem_singleton] at hx; subst hx; exact .nil a3
          · cases h
  | n + 1, .named dp, i, j, ds, h, _ => by
    rw [srcE] at h
    split at h
    · split at h
      · exact srcE_len n _ _ _ _ h (.nil rfl)
      · cases h
    · split at h
      · cases h1 : partsR L (fuelP L) [61] (i + 1) [] with
        | error e => rw [h1] at h; cases h
        | ok q =>
          rw [h1] at h
          obtain ⟨m, ps⟩ := q
          cases h
          intro x hx
          simp only [List.mem_singleton] at hx; subst hx
          have h5 := partsR_len L _ _ _ _ _ _ h1 (fun x hx => by cases hx)
          have hf : fuelP L ≤ 6002 := by unfold fuelP; omega
          exact ⟨by have := h5.1; simp at this; show ps.length ≤ 6002; omega, fun p hp => Nat.le_trans (h5.2 p hp) hf⟩
      · cases h
theorem endR_len {d : DefT} {i j : Nat} {ds : List DefT} (h : endR L d i = .ok (j, ds)) (hd : OkD d) : ∀ x ∈ ds, OkD x := by
  unfold endR at h
  cases h1 : srcE L (fuelS L) (.body d 0) i with
  | error e => rw [h1] at h; cases h
  | ok q =>
    rw [h1] at h
    obtain ⟨m, xs⟩ := q
    simp only at h
    have h6 := srcE_len L hL _ _ _ _ _ h1 hd
    cases h4 : signR L [59] m with
    | error e => rw [h4] at h; cases h
    | ok q => rw [h4] at h; cases h; exact h6
theorem top_len {i j : Nat} {ds : List DefT} (h : topR L i = .ok (j, ds)) : ∀ d ∈ ds, OkD d := by
  unfold topR at h
  split at h
  · cases h1 : takenR L 5 labelT i with
    | error e => rw [h1] at h; cases h
    | ok a =>
      rw [h1] at h
      simp only at h
      cases h2 : signR L [47] a with
      | error e => rw [h2] at h; cases h
      | ok b => rw [h2] at h; exact endR_len L hL h (.nil rfl)
  · split at h
    · exact endR_len L hL h (.nil rfl)
    · split at h
      · cases h1 : takenR L 6 labelT i with
        | error e => rw [h1] at h; cases h
        | ok a => rw [h1] at h; exact endR_len L hL h (.nil rfl)
      · split at h
        · obtain ⟨d, rfl, a3⟩ := del_parts L h
          intro x hx
          simp only [List.mem_singleton] at hx; subst hx; exact .nil a3
        · split at h
          · obtain ⟨d, rfl, a3⟩ := del_parts L h
            intro x hx
            simp only [List.mem_singleton] at hx; subst hx; exact .nil a3
          · cases h
theorem tops_len : ∀ (n i : Nat) (acc D : List DefT), topsR L n i acc = .ok D → (∀ d ∈ acc, OkD d) → ∀ d ∈ D, OkD d
  | 0, i, acc, D, h, _ => by cases h
  | n + 1, i, acc, D, h, ha => by
    rw [topsR] at h
    split at h
    · cases h; exact ha
    · cases h1 : topR L i with
      | error e => rw [h1] at h; cases h
      | ok q =>
        rw [h1] at h
        obtain ⟨j, ds⟩ := q
        refine tops_len n _ _ _ h (fun d hd => ?_)
        rcases List.mem_append.1 hd with hd | hd
        · exact ha d hd
        · exact top_len L hL h1 d hd
end
theorem src_len (l : List UInt8) (file : Int) : ∀ d ∈ (srcT l file).1, OkD d := by
  intro d hd
  unfold srcT at hd
  split at hd
  · cases hd
  · split at hd
    · rename_i hD; exact tops_len _ (readT_text l file).2.1 _ _ _ _ hD (fun d hd => by cases hd) d hd
    · cases hd
section
variable (P : FdT → Prop) {F : List FileT}
end
end Go.Proofs.YtofhcgbihonckaaGreat
