/- Plain laws: places of tokens ascend; a line feed ends what was before; a line feed in front moves all. -/
import Derived.Test.YtdigoicdgeebhaaSpcP
namespace Go.Proofs.Ytdigoicdgeebhaa

theorem runB_app (p : Int → Bool) (hp : p 10 = false) (b : List UInt8) : ∀ a : List UInt8, runB p (a ++ 10 :: b) = runB p a := by
  intro a
  induction a with
  | nil => rw [List.nil_append, runB_cons, if_neg (by rw [show (((10 : UInt8).toNat : Nat) : Int) = 10 from rfl, hp]; simp)]; rfl
  | cons c a ih => rw [List.cons_append, runB_cons, runB_cons, ih]
theorem pre_app (b : List UInt8) : ∀ (sub a : List UInt8), (∀ x ∈ sub, x ≠ 10) → Lib.hasPrefix (a ++ 10 :: b) sub = Lib.hasPrefix a sub := by
  intro sub
  induction sub with
  | nil => intro a _; simp [Lib.hasPrefix]
  | cons s sub ih =>
    intro a h
    have h1 : s ≠ 10 := h s (by simp)
    cases a with
    | nil => show ((s == 10) && sub.isPrefixOf b) = false; simp [h1]
    | cons c a =>
      have := ih a (fun x hx => h x (by simp [hx]))
      simp only [Lib.hasPrefix] at this
      show ((s == c) && sub.isPrefixOf (a ++ 10 :: b)) = ((s == c) && sub.isPrefixOf a)
      rw [this]
theorem idx_app (b sub : List UInt8) (hs : ∀ x ∈ sub, x ≠ 10) (hne : sub ≠ []) : ∀ a : List UInt8, 0 ≤ Lib.index a sub → Lib.index (a ++ 10 :: b) sub = Lib.index a sub := by
  intro a
  induction a with
  | nil => intro h; cases sub with
    | nil => exact absurd rfl hne
    | cons x l => simp [Lib.index] at h
  | cons c a ih =>
    intro h
    have hp := pre_app b sub (c :: a) hs
    simp only [Lib.hasPrefix, List.cons_append] at hp
    simp only [List.cons_append, Lib.index] at h ⊢
    rw [hp]
    by_cases h1 : sub.isPrefixOf (c :: a) = true
    · rw [if_pos h1, if_pos h1]
    · rw [if_neg h1] at h
      rw [if_neg h1, if_neg h1]
      by_cases h2 : (Lib.index a sub == -1) = true
      · rw [if_pos h2] at h; omega
      · have : 0 ≤ Lib.index a sub := by have := Lib.index_ge a sub; have : Lib.index a sub ≠ -1 := by simpa using h2
                                         omega
        rw [ih this]

theorem blk_app (b : List UInt8) : ∀ (f : Nat) (a : List UInt8), a.length ≤ f → (blk f a).2 = false → (blk f a).1 < a.length → ∀ g, (a ++ 10 :: b).length ≤ g → blk g (a ++ 10 :: b) = blk f a := by
  intro f
  induction f with
  | zero => intro a h1 h2 h3; simp only [Nat.le_zero] at h1; omega
  | succ f ih =>
    intro a h1 h2 h3 g hg
    cases a with
    | nil => simp at h3
    | cons c r =>
      simp only [List.cons_append, List.length_cons] at hg h1 h3 ⊢
      obtain ⟨g, rfl⟩ : ∃ f', g = f' + 1 := ⟨g - 1, by omega⟩
      have p1 := pre_app b [47, 47] (c :: r) (by decide)
      have p2 := pre_app b [47, 42] (c :: r) (by decide)
      have p3 := runB_app notNlB (by decide) b (c :: r)
      simp only [List.cons_append] at p1 p2 p3
      simp only [blk] at h2 h3 ⊢
      rw [p1, p2, p3]
      have hdrop : ∀ k, k ≤ r.length + 1 → (c :: (r ++ 10 :: b)).drop k = (c :: r).drop k ++ 10 :: b := by
        intro k hk
        rw [show c :: (r ++ 10 :: b) = (c :: r) ++ 10 :: b from rfl, List.drop_append_of_le_length (by simpa using hk)]
      by_cases k1 : sepB c.toNat = true
      · rw [if_pos k1] at h2 h3 ⊢
        rw [if_pos k1]
        rw [ih r (by omega) h2 (by simp only at h3; omega) g (by omega)]
      · rw [if_neg k1] at h2 h3 ⊢
        rw [if_neg k1]
        by_cases k2 : Lib.hasPrefix (c :: r) [47, 47] = true
        · rw [if_pos k2] at h2 h3 ⊢
          rw [if_pos k2]
          have hr := runB_le notNlB (c :: r)
          simp only [List.length_cons] at hr
          have hk : 1 ≤ runB notNlB (c :: r) := by
            rw [runB_cons]
            have : notNlB c.toNat = true := by
              have h3 : c = 47 := by simp [Lib.hasPrefix] at k2; exact k2.1.symm
              subst h3; decide
            rw [if_pos this]; omega
          simp only at h2 h3
          rw [hdrop _ hr, ih _ (by simp; omega) h2 (by simp; omega) g (by simp at hg ⊢; omega)]
        · rw [if_neg k2] at h2 h3 ⊢
          rw [if_neg k2]
          by_cases k3 : Lib.hasPrefix (c :: r) [47, 42] = true
          · rw [if_pos k3] at h2 h3 ⊢
            rw [if_pos k3]
            have hpl := Lib.hasPrefix_le k3
            simp only [List.length_cons, List.length_nil] at hpl
            by_cases k4 : Lib.index ((c :: r).drop 2) [42, 47] < 0
            · rw [if_pos k4] at h2; simp at h2
            · rw [if_neg k4] at h2 h3 ⊢
              have hi : Lib.index ((c :: (r ++ 10 :: b)).drop 2) [42, 47] = Lib.index ((c :: r).drop 2) [42, 47] := by
                rw [hdrop 2 (by omega), idx_app b _ (by decide) (by decide) _ (by omega)]
              rw [hi, if_neg k4]
              have hrm := Lib.index_room ((c :: r).drop 2) [42, 47] (by omega)
              simp only [List.length_drop, List.length_cons, List.length_nil] at hrm
              simp only at h2 h3
              rw [hdrop _ (by omega), ih _ (by simp only [List.length_drop, List.length_cons]; omega) h2 (by simp only [List.length_drop, List.length_cons]; omega) g (by simp at hg ⊢; omega)]
          · rw [if_neg k3] at h3 ⊢
            rw [if_neg k3]

theorem hx2_app (b : List UInt8) : ∀ (n : Nat) (l : List UInt8) (v : Int), (hx2 n l v).2.2 = 0 → hx2 n (l ++ b) v = hx2 n l v := by
  intro n
  induction n with
  | zero => intro l v _; cases l <;> simp [hx2]
  | succ n ih =>
    intro l v h
    cases l with
    | nil => simp [hx2] at h
    | cons a r =>
      simp only [List.cons_append, hx2] at h ⊢
      by_cases h1 : a.toNat = 10
      · rw [if_pos h1] at h; simp at h
      · rw [if_neg h1] at h ⊢
        rw [if_neg h1]
        by_cases h2 : hexV a.toNat < 0
        · rw [if_pos h2] at h; simp at h
        · rw [if_neg h2] at h ⊢
          rw [if_neg h2]
          exact ih r _ h
theorem esc_app (b l : List UInt8) (h : (esc l).2.2 = 0) : esc (l ++ b) = esc l := by
  cases l with
  | nil => simp [esc] at h
  | cons c r =>
    simp only [List.cons_append, esc] at h ⊢
    by_cases e1 : c.toNat = 10
    · rw [if_pos e1] at h; simp at h
    · rw [if_neg e1] at h ⊢; rw [if_neg e1]
      by_cases e2 : c.toNat = 110
      · rw [if_pos e2, if_pos e2]
      · rw [if_neg e2] at h ⊢; rw [if_neg e2]
        by_cases e3 : c.toNat = 116
        · rw [if_pos e3, if_pos e3]
        · rw [if_neg e3] at h ⊢; rw [if_neg e3]
          by_cases e4 : c.toNat = 34
          · rw [if_pos e4, if_pos e4]
          · rw [if_neg e4] at h ⊢; rw [if_neg e4]
            by_cases e5 : c.toNat = 92
            · rw [if_pos e5, if_pos e5]
            · rw [if_neg e5] at h ⊢; rw [if_neg e5]
              by_cases e6 : c.toNat ≠ 120
              · rw [if_pos e6, if_pos e6]
              · rw [if_neg e6] at h ⊢; rw [if_neg e6]
                exact hx2_app b 2 r 0 h
theorem esc_le (l : List UInt8) : (esc l).2.1 ≤ l.length := by
  cases l with
  | nil => simp [esc]
  | cons a r =>
    simp only [esc]
    repeat' (split; · simp)
    cases r with
    | nil => simp [hx2]
    | cons b r =>
      simp only [hx2]
      repeat' (split; · simp)
      cases r with
      | nil => simp [hx2]
      | cons c r => simp only [hx2]; repeat' (split; · simp)
                    simp
theorem qtA_app (b : List UInt8) : ∀ (f : Nat) (l acc : List UInt8) (i : Nat), (qtA f l acc i).2.2 = 0 → ∀ g, f ≤ g → qtA g (l ++ b) acc i = qtA f l acc i := by
  intro f
  induction f with
  | zero => intro l acc i h; simp [qtA] at h
  | succ f ih =>
    intro l acc i h g hg
    obtain ⟨g, rfl⟩ : ∃ f', g = f' + 1 := ⟨g - 1, by omega⟩
    cases l with
    | nil => simp [qtA] at h
    | cons c r =>
      simp only [List.cons_append, qtA] at h ⊢
      by_cases e1 : c.toNat = 34
      · rw [if_pos e1, if_pos e1]
      · rw [if_neg e1] at h ⊢; rw [if_neg e1]
        by_cases e2 : c.toNat = 10
        · rw [if_pos e2] at h; simp at h
        · rw [if_neg e2] at h ⊢; rw [if_neg e2]
          by_cases e3 : c.toNat = 92
          · rw [if_pos e3] at h ⊢; rw [if_pos e3]
            by_cases e4 : (esc r).2.2 ≠ 0
            · rw [if_pos e4] at h; simp at h; exact absurd h e4
            · rw [if_neg e4] at h ⊢
              have e4' : (esc r).2.2 = 0 := by simpa using e4
              rw [esc_app b r e4', if_neg e4, List.drop_append_of_le_length (esc_le r)]
              exact ih _ _ _ h g (by omega)
          · rw [if_neg e3] at h ⊢; rw [if_neg e3]
            exact ih _ _ _ h g (by omega)

theorem signN_app (b a : List UInt8) (h : a ≠ []) : signN (a ++ 10 :: b) = signN a := by
  have h1 : pairsL.any (fun p => Lib.hasPrefix (a ++ 10 :: b) p) = pairsL.any (fun p => Lib.hasPrefix a p) := by
    simp only [pairsL, List.any_cons, List.any_nil]
    rw [pre_app b _ a (by decide), pre_app b _ a (by decide), pre_app b _ a (by decide), pre_app b _ a (by decide), pre_app b _ a (by decide), pre_app b _ a (by decide), pre_app b _ a (by decide), pre_app b _ a (by decide)]
  have h2 : (a ++ 10 :: b).headD 0 = a.headD 0 := by cases a with
    | nil => exact absurd rfl h
    | cons c r => rfl
  unfold signN
  rw [h1, h2]
theorem getD_app (b a : List UInt8) (n : Nat) : (n < a.length → (a ++ 10 :: b).getD n 0 = a.getD n 0) ∧ (n = a.length → (a ++ 10 :: b).getD n 0 = 10) := by
  constructor
  · intro h; simp [List.getD, List.getElem?_append_left h]
  · rintro rfl; simp [List.getD]
theorem nextT_app (b a : List UInt8) (ha : a ≠ []) (h : (nextT a).2.2 = 0) : nextT (a ++ 10 :: b) = nextT a := by
  have hs := signN_app b a ha
  have h2 : (a ++ 10 :: b).headD 0 = a.headD 0 := by cases a with
    | nil => exact absurd rfl ha
    | cons c r => rfl
  have hlen := List.length_pos_iff.2 ha
  have hd1 : (a ++ 10 :: b).drop 1 = a.drop 1 ++ 10 :: b := List.drop_append_of_le_length (by omega)
  have ht : ∀ n, n ≤ a.length → (a ++ 10 :: b).take n = a.take n := fun n hn => List.take_append_of_le_length hn
  have hsl := signN_room a ha
  have hsg : (if signN (a ++ 10 :: b) > 0 then ((⟨4, (a ++ 10 :: b).take (signN (a ++ 10 :: b)), 0, 0, 0⟩ : Tok), signN (a ++ 10 :: b), (0 : Int)) else (⟨0, [], 0, 0, 0⟩, 0, 20)) =
      (if signN a > 0 then ((⟨4, a.take (signN a), 0, 0, 0⟩ : Tok), signN a, (0 : Int)) else (⟨0, [], 0, 0, 0⟩, 0, 20)) := by
    rw [hs, ht _ hsl]
  unfold nextT at h ⊢
  simp only at h ⊢
  rw [hsg]
  generalize (if signN a > 0 then ((⟨4, a.take (signN a), 0, 0, 0⟩ : Tok), signN a, (0 : Int)) else (⟨0, [], 0, 0, 0⟩, 0, 20)) = sg at h ⊢
  rw [h2]
  rw [runB_app nameB (by decide), runB_app wordB (by decide), hd1, runB_app wordB (by decide), runB_app smallB (by decide)]
  have hrn := runB_le nameB a
  have hrw := runB_le wordB a
  have hg := getD_app b a
  by_cases c1 : letterB (a.headD 0).toNat = true ∨ ((a.headD 0).toNat : Int) = 95 ∨ ((a.headD 0).toNat : Int) = 35
  · rw [if_pos c1] at h ⊢; rw [if_pos c1]
    rw [ht _ hrn]
    by_cases c2 : runB nameB a = a.length ∨ (a.getD (runB nameB a) 0).toNat ≠ 58
    · rw [if_pos c2]
      have c3 : runB nameB a = (a ++ 10 :: b).length ∨ ((a ++ 10 :: b).getD (runB nameB a) 0).toNat ≠ 58 := by
        refine .inr ?_
        by_cases e : runB nameB a < a.length
        · rw [(hg _).1 e]
          rcases c2 with c2 | c2
          · omega
          · exact c2
        · rw [(hg _).2 (by omega)]; decide
      rw [if_pos c3]
    · rw [if_neg c2]
      have c2' : runB nameB a ≠ a.length := fun e => c2 (.inl e)
      have c3 : ¬ (runB nameB a = (a ++ 10 :: b).length ∨ ((a ++ 10 :: b).getD (runB nameB a) 0).toNat ≠ 58) := by
        rw [(hg _).1 (by omega)]
        rintro (e | e)
        · simp at e; omega
        · exact c2 (.inr e)
      rw [if_neg c3]
  · rw [if_neg c1] at h ⊢; rw [if_neg c1]
    by_cases c2 : digitB (a.headD 0).toNat = true
    · rw [if_pos c2, if_pos c2, ht _ hrw]
    · rw [if_neg c2] at h ⊢; rw [if_neg c2]
      by_cases c3 : ((a.headD 0).toNat : Int) = 34
      · rw [if_pos c3] at h ⊢; rw [if_pos c3]
        rw [qtA_app (10 :: b) _ _ _ _ h _ (by simp)]
      · rw [if_neg c3] at h ⊢; rw [if_neg c3]
        by_cases c4 : ((a.headD 0).toNat : Int) = 38 ∧ 1 < a.length ∧ (letterB (a.getD 1 0).toNat = true ∨ (a.getD 1 0).toNat = 95)
        · have c4' : ((a.headD 0).toNat : Int) = 38 ∧ 1 < (a ++ 10 :: b).length ∧ (letterB ((a ++ 10 :: b).getD 1 0).toNat = true ∨ ((a ++ 10 :: b).getD 1 0).toNat = 95) := by
            rw [(hg 1).1 c4.2.1]
            exact ⟨c4.1, by simp; omega, c4.2.2⟩
          have := runB_le wordB (a.drop 1)
          simp only [List.length_drop] at this
          rw [if_pos c4, if_pos c4', ht _ (by omega)]
        · have c4' : ¬ (((a.headD 0).toNat : Int) = 38 ∧ 1 < (a ++ 10 :: b).length ∧ (letterB ((a ++ 10 :: b).getD 1 0).toNat = true ∨ ((a ++ 10 :: b).getD 1 0).toNat = 95)) := by
            rintro ⟨e1, e2, e3⟩
            by_cases e : 1 < a.length
            · rw [(hg 1).1 e] at e3; exact c4 ⟨e1, e, e3⟩
            · rw [(hg 1).2 (by omega)] at e3
              revert e3; decide
          rw [if_neg c4] at h ⊢; rw [if_neg c4']
          by_cases c5 : ((a.headD 0).toNat : Int) = 47
          · rw [if_pos c5] at h ⊢; rw [if_pos c5]
            have hrr := runB_le smallB (a.drop 1)
            simp only [List.length_drop] at hrr
            generalize runB smallB (a.drop 1) = n at h hrr ⊢
            by_cases c6 : n > 0 ∧ n + 1 < a.length ∧ (a.getD (n + 1) 0).toNat = 47
            · have c6' : n > 0 ∧ n + 1 < (a ++ 10 :: b).length ∧ ((a ++ 10 :: b).getD (n + 1) 0).toNat = 47 := by
                rw [(hg _).1 c6.2.1]; exact ⟨c6.1, by simp; omega, c6.2.2⟩
              rw [if_pos c6, if_pos c6', ht _ (by omega)]
            · have c6' : ¬ (n > 0 ∧ n + 1 < (a ++ 10 :: b).length ∧ ((a ++ 10 :: b).getD (n + 1) 0).toNat = 47) := by
                rintro ⟨e1, e2, e3⟩
                by_cases e : n + 1 < a.length
                · rw [(hg _).1 e] at e3; exact c6 ⟨e1, e, e3⟩
                · rw [(hg _).2 (by omega)] at e3
                  revert e3; decide
              rw [if_neg c6, if_neg c6']
          · rw [if_neg c5, if_neg c5]
end Go.Proofs.Ytdigoicdgeebhaa
