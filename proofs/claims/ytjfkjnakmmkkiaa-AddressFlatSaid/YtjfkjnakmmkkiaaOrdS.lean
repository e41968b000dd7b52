/- The order of texts is whole; what a search finds. -/
import Derived.Test.YtjfkjnakmmkkiaaTreS
namespace Go.Proofs.Ytjfkjnakmmkkiaa

theorem less_cons (x y : UInt8) (a b : List UInt8) : Op.bytesLess (x :: a) (y :: b) = true ↔ x.toNat < y.toNat ∨ x = y ∧ Op.bytesLess a b = true := by
  rw [Op.bytesLess]
  simp [UInt8.lt_iff_toNat_lt]
theorem less_trans : ∀ (a b c : List UInt8), Op.bytesLess a b = true → Op.bytesLess b c = true → Op.bytesLess a c = true := by
  intro a
  induction a with
  | nil => intro b c h1 h2; cases b <;> cases c <;> simp [Op.bytesLess] at *
  | cons x a ih =>
    intro b c h1 h2
    cases b with
    | nil => simp [Op.bytesLess] at h1
    | cons y b =>
      cases c with
      | nil => simp [Op.bytesLess] at h2
      | cons z c =>
        rw [less_cons] at *
        rcases h1 with h1 | ⟨rfl, h1⟩
        · rcases h2 with h2 | ⟨rfl, h2⟩
          · left; omega
          · left; exact h1
        · rcases h2 with h2 | ⟨rfl, h2⟩
          · left; exact h2
          · right; exact ⟨rfl, ih _ _ h1 h2⟩
theorem less_irrefl : ∀ a : List UInt8, Op.bytesLess a a = false := by
  intro a
  induction a with
  | nil => rfl
  | cons x a ih =>
    rw [Bool.eq_false_iff, Ne, less_cons]
    rintro (h | ⟨_, h⟩)
    · omega
    · rw [ih] at h; cases h
theorem less_total : ∀ a b : List UInt8, Op.bytesLess a b = false → a = b ∨ Op.bytesLess b a = true := by
  intro a
  induction a with
  | nil => intro b h; cases b <;> simp [Op.bytesLess] at *
  | cons x a ih =>
    intro b h
    cases b with
    | nil => right; rfl
    | cons y b =>
      rw [Bool.eq_false_iff, Ne, less_cons] at h
      rw [less_cons]
      by_cases e : x = y
      · subst e
        have h2 : Op.bytesLess a b = false := by rw [Bool.eq_false_iff]; intro hc; exact h (.inr ⟨rfl, hc⟩)
        rcases ih b h2 with rfl | h3
        · exact .inl rfl
        · exact .inr (.inr ⟨rfl, h3⟩)
      · right; left
        have : x.toNat ≠ y.toNat := fun e2 => e (UInt8.toNat_inj.1 e2)
        omega
theorem ltS_trans {a b c : ByteArray} (h1 : ltS a b = true) (h2 : ltS b c = true) : ltS a c = true := less_trans _ _ _ h1 h2
theorem ltS_irrefl (a : ByteArray) : ltS a a = false := less_irrefl _
theorem eqS_iff (a b : ByteArray) : eqS a b = true ↔ a = b := by
  unfold eqS
  rw [ByteArray.toList_eq, ByteArray.toList_eq]
  simp only [beq_iff_eq]
  constructor
  · intro h; apply ByteArray.ext; exact Array.toList_inj.1 h
  · rintro rfl; rfl
theorem ltS_total {a b : ByteArray} (h : ltS a b = false) : a = b ∨ ltS b a = true := by
  rcases less_total _ _ h with h | h
  · left; exact (eqS_iff a b).1 (by unfold eqS; rw [h]; simp)
  · exact .inr h
def cmpS (a b : ByteArray) : Int := if ltS a b = true then -1 else if eqS a b = true then 0 else 1
/-- How many names are less; is there one that is the same? -/
def lowT (ps : List PropT) (x : ByteArray) : Nat := (ps.takeWhile fun p => ltS p.name x).length
def hasT (ps : List PropT) (x : ByteArray) : Bool := match ps[lowT ps x]? with
  | some p => eqS p.name x
  | none => false
theorem takeWhile_at {α : Type} (p : α → Bool) : ∀ (l : List α) (i : Nat), i ≤ l.length → (∀ k (h : k < l.length), k < i → p l[k] = true) → (∀ h : i < l.length, p l[i] = false) → (l.takeWhile p).length = i := by
  intro l
  induction l with
  | nil => intro i h _ _; simp at h; simp [h]
  | cons x l ih =>
    intro i hi h1 h2
    cases i with
    | zero => have := h2 (by simp); simp at this; simp [this]
    | succ i =>
      have hx := h1 0 (by simp) (by omega)
      simp at hx
      rw [List.takeWhile_cons, if_pos hx, List.length_cons, ih i (by simpa using hi)]
      · intro k hk hki
        have := h1 (k + 1) (by simpa using hk) (by omega)
        simpa using this
      · intro h
        have := h2 (by simpa using h)
        simpa using this
theorem asc_lt : ∀ (l : List PropT), ascT l = true → ∀ i j (hi : i < l.length) (hj : j < l.length), i < j → ltS l[i].name l[j].name = true := by
  intro l
  induction l with
  | nil => intro _ i j hi; simp at hi
  | cons a l ih =>
    intro h i j hi hj hij
    cases l with
    | nil => simp at hj; omega
    | cons b r =>
      simp only [ascT, Bool.and_eq_true] at h
      have ih2 := ih h.2
      cases j with
      | zero => omega
      | succ j =>
        cases i with
        | zero =>
          cases j with
          | zero => exact h.1
          | succ j =>
            have := ih2 0 (j + 1) (by simp) (by simpa using hj) (by omega)
            exact ltS_trans h.1 this
        | succ i => exact ih2 i j (by simpa using hi) (by simpa using hj) (by omega)
theorem walkedF_asc (T : List NodeT) : ∀ (r : List NodeT) (i : Nat) (last : List ByteArray), walkedF T i last r = true → ∀ n ∈ r, ascT n.props = true := by
  intro r
  induction r with
  | nil => intro i last _ n hn; simp at hn
  | cons m r ih =>
    intro i last h n hn
    simp only [walkedF, Bool.and_eq_true] at h
    rcases List.mem_cons.1 hn with rfl | hn
    · exact h.1
    · by_cases h0 : i = 0
      · rw [if_pos h0] at h; exact ih _ _ h.2 n hn
      · rw [if_neg h0] at h
        simp only [Bool.and_eq_true] at h
        exact ih _ _ h.2.2 n hn
theorem check_asc {T : List NodeT} (h : checkT T = 0) : ∀ n ∈ T, ascT n.props = true := by
  have hw : walkedT T = true := by
    unfold checkT at h
    cases hw : walkedT T with
    | true => rfl
    | false => exfalso; revert h; cases limitsT T <;> cases namedT T <;> simp [hw]
  exact walkedF_asc T T 0 _ hw
theorem check_named {T : List NodeT} (h : checkT T = 0) : namedT T = true := by
  unfold checkT at h
  cases hw : namedT T with
  | true => rfl
  | false => exfalso; revert h; cases limitsT T <;> simp [hw]
theorem check_limits {T : List NodeT} (h : checkT T = 0) : limitsT T = true := by
  unfold checkT at h
  cases hw : limitsT T with
  | true => rfl
  | false => exfalso; revert h; simp [hw]
theorem limits_len {T : List NodeT} (h : limitsT T = true) : 1 ≤ T.length ∧ T.length ≤ 120 := by
  unfold limitsT at h; simp at h; exact h.1
def valueT (T : List NodeT) (node : Int) (x : ByteArray) : ByteArray × Bool :=
  if checkT T ≠ 0 ∨ node < 0 ∨ T.length ≤ node then (ByteArray.empty, false) else
    match T[node.toNat]? with
    | none => (ByteArray.empty, false)
    | some n => if hasT n.props x = true then (match n.props[lowT n.props x]? with | some p => p.value | none => ByteArray.empty, true) else (ByteArray.empty, false)
end Go.Proofs.Ytjfkjnakmmkkiaa
