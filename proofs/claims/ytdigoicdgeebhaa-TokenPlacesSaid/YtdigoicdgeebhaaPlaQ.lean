/- Plain laws: places of tokens ascend; a line feed ends what was before; a line feed in front moves all: whole texts. -/
import Derived.Test.YtdigoicdgeebhaaPlaP
namespace Go.Proofs.Ytdigoicdgeebhaa

theorem rdA_fuel (file : Int) : ∀ (n : Nat) (l : List UInt8), l.length ≤ n → ∀ (f g : Nat) (p : Int × Int) (acc : List Tok), l.length < f → l.length < g → rdA file f l p acc = rdA file g l p acc := by
  intro n
  induction n with
  | zero =>
    intro l hl f g p acc hf hg
    obtain ⟨f, rfl⟩ : ∃ f', f = f' + 1 := ⟨f - 1, by omega⟩
    obtain ⟨g, rfl⟩ : ∃ f', g = f' + 1 := ⟨g - 1, by omega⟩
    obtain rfl : l = [] := List.length_eq_zero_iff.1 (by omega)
    simp [rdA, blk]
  | succ n ih =>
    intro l hl f g p acc hf hg
    obtain ⟨f, rfl⟩ : ∃ f', f = f' + 1 := ⟨f - 1, by omega⟩
    obtain ⟨g, rfl⟩ : ∃ f', g = f' + 1 := ⟨g - 1, by omega⟩
    simp only [rdA]
    have hb := blk_le l.length l
    generalize blk l.length l = B at hb ⊢
    by_cases c1 : B.2 = true
    · rw [if_pos c1, if_pos c1]
    · rw [if_neg c1, if_neg c1]
      by_cases c2 : acc.length = 6000
      · rw [if_pos c2, if_pos c2]
      · rw [if_neg c2, if_neg c2]
        by_cases c3 : l.drop B.1 = []
        · rw [if_pos c3, if_pos c3]
        · rw [if_neg c3, if_neg c3]
          by_cases c4 : (nextT (l.drop B.1)).2.2 ≠ 0
          · rw [if_pos c4, if_pos c4]
          · rw [if_neg c4, if_neg c4]
            have hr := nextT_room (l.drop B.1) c3 (by simpa using c4)
            have hp := List.length_pos_iff.2 c3
            simp only [List.length_drop] at hr hp
            exact ih _ (by simp only [List.length_drop]; omega) f g _ _ (by simp only [List.length_drop]; omega) (by simp only [List.length_drop]; omega)

def upT (t : Tok) : Tok := { t with line := t.line + 1 }
theorem adv_up : ∀ (l : List UInt8) (p : Int × Int), adv l (p.1 + 1, p.2) = ((adv l p).1 + 1, (adv l p).2) := by
  intro l
  induction l with
  | nil => intro p; simp [adv]
  | cons c l ih =>
    intro p
    simp only [adv]
    split
    · exact ih (p.1 + 1, 1)
    · exact ih (p.1, p.2 + 1)
theorem rdA_up (file : Int) : ∀ (f : Nat) (l : List UInt8) (p : Int × Int) (acc : List Tok), (rdA file f l (p.1 + 1, p.2) (acc.map upT)).1 = (rdA file f l p acc).1.map upT ∧ (rdA file f l (p.1 + 1, p.2) (acc.map upT)).2.2 = (rdA file f l p acc).2.2 := by
  intro f
  induction f with
  | zero => intro l p acc; simp [rdA]
  | succ f ih =>
    intro l p acc
    simp only [rdA, adv_up, List.length_map]
    by_cases c1 : (blk l.length l).2 = true
    · rw [if_pos c1, if_pos c1]; simp
    · rw [if_neg c1, if_neg c1]
      by_cases c2 : acc.length = 6000
      · rw [if_pos c2, if_pos c2]; simp
      · rw [if_neg c2, if_neg c2]
        by_cases c3 : l.drop (blk l.length l).1 = []
        · rw [if_pos c3, if_pos c3]; simp [upT]
        · rw [if_neg c3, if_neg c3]
          by_cases c4 : (nextT (l.drop (blk l.length l).1)).2.2 ≠ 0
          · rw [if_pos c4, if_pos c4]; simp
          · rw [if_neg c4, if_neg c4]
            have := ih ((l.drop (blk l.length l).1).drop (nextT (l.drop (blk l.length l).1)).2.1) (adv ((l.drop (blk l.length l).1).take (nextT (l.drop (blk l.length l).1)).2.1) (adv (l.take (blk l.length l).1) p)) (acc ++ [{ (nextT (l.drop (blk l.length l).1)).1 with line := (adv (l.take (blk l.length l).1) p).1, col := (adv (l.take (blk l.length l).1) p).2 }])
            rw [List.map_append] at this
            exact this

/-- One place is ahead of another one. -/
def Ahead (p q : Int × Int) : Prop := p.1 < q.1 ∨ p.1 = q.1 ∧ p.2 < q.2
def placeOf (t : Tok) : Int × Int := (t.line, t.col)
theorem adv_ahead : ∀ (l : List UInt8) (p : Int × Int), adv l p = p ∨ Ahead p (adv l p) := by
  intro l
  induction l with
  | nil => intro p; exact .inl rfl
  | cons c l ih =>
    intro p
    right
    simp only [adv]
    split
    · rcases ih (p.1 + 1, 1) with h | h
      · rw [h]; left; show p.1 < p.1 + 1; omega
      · unfold Ahead at h ⊢; simp only at h; omega
    · rcases ih (p.1, p.2 + 1) with h | h
      · rw [h]; right; show p.1 = p.1 ∧ p.2 < p.2 + 1; omega
      · unfold Ahead at h ⊢; simp only at h; omega
theorem adv_ahead1 (l : List UInt8) (hl : l ≠ []) (p : Int × Int) : Ahead p (adv l p) := by
  cases l with
  | nil => exact absurd rfl hl
  | cons c l =>
    simp only [adv]
    split
    · rcases adv_ahead l (p.1 + 1, 1) with h | h
      · rw [h]; left; show p.1 < p.1 + 1; omega
      · unfold Ahead at h ⊢; simp only at h; omega
    · rcases adv_ahead l (p.1, p.2 + 1) with h | h
      · rw [h]; right; show p.1 = p.1 ∧ p.2 < p.2 + 1; omega
      · unfold Ahead at h ⊢; simp only at h; omega
theorem ahead_trans {p q r : Int × Int} (h : q = p ∨ Ahead p q) (k : r = q ∨ Ahead q r) : r = p ∨ Ahead p r := by
  rcases h with rfl | h
  · exact k
  · rcases k with rfl | k
    · exact .inr h
    · right; unfold Ahead at *; omega
theorem rdA_asc (file : Int) : ∀ (f : Nat) (l : List UInt8) (p : Int × Int) (acc : List Tok), (rdA file f l p acc).2.2 = 0 →
    ∃ T : List Tok, T ≠ [] ∧ (rdA file f l p acc).1 = acc ++ T ∧ T.Pairwise (fun a b => Ahead (placeOf a) (placeOf b)) ∧ ∀ t ∈ T, placeOf t = p ∨ Ahead p (placeOf t) := by
  intro f
  induction f with
  | zero => intro l p acc h; simp [rdA] at h
  | succ f ih =>
    intro l p acc h
    simp only [rdA] at h ⊢
    by_cases c1 : (blk l.length l).2 = true
    · rw [if_pos c1] at h; simp at h
    · rw [if_neg c1] at h ⊢
      by_cases c2 : acc.length = 6000
      · rw [if_pos c2] at h; simp at h
      · rw [if_neg c2] at h ⊢
        have hadv := adv_ahead (l.take (blk l.length l).1) p
        generalize adv (l.take (blk l.length l).1) p = p1 at h hadv ⊢
        by_cases c3 : l.drop (blk l.length l).1 = []
        · rw [if_pos c3]
          refine ⟨[⟨8, [], 0, p1.1, p1.2⟩], by simp, rfl, by simp, ?_⟩
          intro t ht
          simp only [List.mem_cons, List.not_mem_nil, or_false] at ht
          subst ht
          exact hadv
        · rw [if_neg c3] at h ⊢
          by_cases c4 : (nextT (l.drop (blk l.length l).1)).2.2 ≠ 0
          · rw [if_pos c4] at h; exact absurd h c4
          · rw [if_neg c4] at h ⊢
            have hr := nextT_room (l.drop (blk l.length l).1) c3 (by simpa using c4)
            obtain ⟨T, _, e2, e3, e4⟩ := ih _ _ _ h
            refine ⟨_ :: T, by simp, by rw [e2]; simp; rfl, ?_, ?_⟩
            · refine List.Pairwise.cons ?_ e3
              intro b hb
              have hlt := adv_ahead1 ((l.drop (blk l.length l).1).take (nextT (l.drop (blk l.length l).1)).2.1) (by intro e; have := congrArg List.length e; rw [List.length_take] at this; simp only [List.length_nil] at this; omega) p1
              rcases e4 b hb with e | e
              · rw [e]; exact hlt
              · unfold Ahead placeOf at *; simp only at *; omega
            · intro t ht
              have hlt := adv_ahead ((l.drop (blk l.length l).1).take (nextT (l.drop (blk l.length l).1)).2.1) p1
              rcases List.mem_cons.1 ht with rfl | ht
              · exact hadv
              · have := e4 t ht
                exact ahead_trans (ahead_trans hadv hlt) this

theorem rdA_pre (file : Int) (b : List UInt8) : ∀ (f : Nat) (a : List UInt8) (p : Int × Int) (acc : List Tok), a.length < f → (rdA file f a p acc).2.2 = 0 →
    ∀ g, (a ++ 10 :: b).length < g → (rdA file g (a ++ 10 :: b) p acc).2.2 = 0 →
    ∃ (T : List Tok) (e : Tok) (rest : List Tok), (rdA file f a p acc).1 = acc ++ T ++ [e] ∧ (rdA file g (a ++ 10 :: b) p acc).1 = acc ++ T ++ rest ∧ rest ≠ [] := by
  intro f
  induction f with
  | zero => intro a p acc h; omega
  | succ f ih =>
    intro a p acc hf h g hg h2
    obtain ⟨g, rfl⟩ : ∃ f', g = f' + 1 := ⟨g - 1, by omega⟩
    by_cases c3 : a.drop (blk a.length a).1 = []
    · obtain ⟨T2, e1, e2, _⟩ := rdA_asc file _ _ _ _ h2
      simp only [rdA] at h ⊢
      by_cases c1 : (blk a.length a).2 = true
      · rw [if_pos c1] at h; simp at h
      · rw [if_neg c1] at h ⊢
        by_cases c2 : acc.length = 6000
        · rw [if_pos c2] at h; simp at h
        · rw [if_neg c2, if_pos c3]
          refine ⟨[], ⟨8, [], 0, (adv (a.take (blk a.length a).1) p).1, (adv (a.take (blk a.length a).1) p).2⟩, T2, by simp, ?_, e1⟩
          rw [List.append_nil, ← e2]
          simp only [rdA]
    · have hb1 : (blk a.length a).1 < a.length := by
        have := List.length_pos_iff.2 c3
        simp only [List.length_drop] at this; omega
      simp only [rdA] at h h2 ⊢
      by_cases c1 : (blk a.length a).2 = true
      · rw [if_pos c1] at h; simp at h
      · have c1' : (blk a.length a).2 = false := by simpa using c1
        have hB := blk_app b a.length a (Nat.le_refl _) c1' hb1 _ (Nat.le_refl _)
        rw [hB] at h2 ⊢
        rw [if_neg c1] at h h2 ⊢
        rw [if_neg c1]
        generalize blk a.length a = B at h h2 hb1 c3 ⊢
        rw [List.take_append_of_le_length (by omega), List.drop_append_of_le_length (by omega)] at h2 ⊢
        by_cases c2 : acc.length = 6000
        · rw [if_pos c2] at h; simp at h
        · rw [if_neg c2] at h h2 ⊢
          rw [if_neg c2]
          rw [if_neg c3] at h ⊢
          have hz : ¬ (a.drop B.1 ++ 10 :: b = []) := by simp
          rw [if_neg hz] at h2 ⊢
          by_cases c4 : (nextT (a.drop B.1)).2.2 ≠ 0
          · rw [if_pos c4] at h; exact absurd h c4
          · have c4' : (nextT (a.drop B.1)).2.2 = 0 := by simpa using c4
            rw [nextT_app b _ c3 c4'] at h2 ⊢
            rw [if_neg c4] at h h2 ⊢
            rw [if_neg c4]
            have hr := nextT_room (a.drop B.1) c3 c4'
            have hl : (a.drop B.1).length = a.length - B.1 := List.length_drop ..
            generalize nextT (a.drop B.1) = N at h h2 hr ⊢
            rw [List.take_append_of_le_length hr.2, List.drop_append_of_le_length hr.2] at h2 ⊢
            have hlen : ((a.drop B.1).drop N.2.1).length < f := by simp only [List.length_drop]; omega
            have hleng : ((a.drop B.1).drop N.2.1 ++ 10 :: b).length < g := by simp only [List.length_append, List.length_drop] at hg ⊢; omega
            obtain ⟨T, e, rest, e1, e2, e3⟩ := ih _ _ _ hlen h g hleng h2
            refine ⟨{ N.1 with line := (adv (a.take B.1) p).1, col := (adv (a.take B.1) p).2 } :: T, e, rest, ?_, ?_, e3⟩
            · rw [e1]; simp
            · rw [e2]; simp

theorem rdA_line (file : Int) : ∀ (f : Nat) (l : List UInt8) (p : Int × Int) (acc : List Tok), 1 ≤ p.1 → 1 ≤ p.2 → ∀ t ∈ (rdA file f l p acc).1, t ∈ acc ∨ (1 ≤ t.line ∧ t.line ≤ p.1 + l.length) := by
  intro f
  induction f with
  | zero => intro l p acc _ _ t ht; simp [rdA] at ht
  | succ f ih =>
    intro l p acc h1 h2 t ht
    simp only [rdA] at ht
    have hb := adv_bd (l.take (blk l.length l).1) p h1 h2
    have hbl := blk_le l.length l
    generalize blk l.length l = B at ht hb hbl
    have htl : (l.take B.1).length = B.1 := by rw [List.length_take]; omega
    rw [htl] at hb
    generalize adv (l.take B.1) p = p1 at ht hb
    by_cases c1 : B.2 = true
    · rw [if_pos c1] at ht; simp at ht
    · rw [if_neg c1] at ht
      by_cases c2 : acc.length = 6000
      · rw [if_pos c2] at ht; simp at ht
      · rw [if_neg c2] at ht
        by_cases c3 : l.drop B.1 = []
        · rw [if_pos c3] at ht
          rcases List.mem_append.1 ht with h | h
          · exact .inl h
          · simp only [List.mem_cons, List.not_mem_nil, or_false] at h
            subst h; right; simp only; omega
        · rw [if_neg c3] at ht
          by_cases c4 : (nextT (l.drop B.1)).2.2 ≠ 0
          · rw [if_pos c4] at ht; simp at ht
          · rw [if_neg c4] at ht
            have hr := nextT_room (l.drop B.1) c3 (by simpa using c4)
            rw [List.length_drop] at hr
            generalize nextT (l.drop B.1) = N at ht hr
            have hb2 := adv_bd ((l.drop B.1).take N.2.1) p1 hb.1 hb.2.1
            have htl2 : ((l.drop B.1).take N.2.1).length = N.2.1 := by rw [List.length_take, List.length_drop]; omega
            rw [htl2] at hb2
            rcases ih _ _ _ hb2.1 hb2.2.1 t ht with h | h
            · rcases List.mem_append.1 h with h | h
              · exact .inl h
              · simp only [List.mem_cons, List.not_mem_nil, or_false] at h
                subst h; right; simp only; omega
            · right; simp only [List.length_drop] at h; omega
theorem readT_line (a : List UInt8) (file : Int) : ∀ t ∈ (readT a file).1, 1 ≤ t.line ∧ t.line ≤ 1 + (a.length : Int) := by
  intro t ht
  unfold readT at ht
  split at ht
  · simp at ht
  · rcases rdA_line file _ _ _ _ (by simp) (by simp) t ht with h | h
    · simp at h
    · exact h
/-- A line feed in front. -/
theorem readT_up (a : List UInt8) (file : Int) (h : a.length < 16000) : (readT (10 :: a) file).1 = (readT a file).1.map upT ∧ (readT (10 :: a) file).2.2 = (readT a file).2.2 := by
  unfold readT
  rw [if_neg (by simp; omega), if_neg (by omega)]
  have h1 := rdA_white (White.one g10) file ((10 :: a).length) a (1, 1) []
  rw [show ([10] : List UInt8) ++ a = 10 :: a from rfl] at h1
  rw [h1, rdA_fuel file a.length a (Nat.le_refl _) _ (a.length + 1) _ _ (by simp; omega) (by omega)]
  exact rdA_up file (a.length + 1) a (1, 1) []
theorem readT_asc (a : List UInt8) (file : Int) (h : (readT a file).2.2 = 0) : (readT a file).1.Pairwise (fun a b => Ahead (placeOf a) (placeOf b)) := by
  unfold readT at h ⊢
  split at h
  · simp at h
  · rename_i h1
    rw [if_neg h1]
    obtain ⟨T, _, e2, e3, _⟩ := rdA_asc file _ _ _ _ h
    rw [e2]; simpa using e3
theorem readT_pre (a b : List UInt8) (file : Int) (h : (readT a file).2.2 = 0) (h2 : (readT (a ++ 10 :: b) file).2.2 = 0) :
    ∃ (T : List Tok) (e : Tok) (rest : List Tok), (readT a file).1 = T ++ [e] ∧ (readT (a ++ 10 :: b) file).1 = T ++ rest ∧ rest ≠ [] := by
  unfold readT at h h2 ⊢
  split at h
  · simp at h
  · rename_i h1
    split at h2
    · simp at h2
    · rename_i h3
      rw [if_neg h1, if_neg h3]
      have := rdA_pre file b _ _ _ _ (Nat.lt_succ_self _) h _ (Nat.lt_succ_self _) h2
      simpa using this
end Go.Proofs.Ytdigoicdgeebhaa
