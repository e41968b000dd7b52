/- Adding the nodes of a tree in whatever order (plain). -/
import Derived.Test.YtjfkjnakmmkkiaaGreatZ33

open Go
namespace Go.Proofs.YtjfkjnakmmkkiaaGreat

/-- What Add makes of a valid tree. -/
theorem add_nodes {T : List NodeT} (hc : checkT T = 0) {k : Nat} (hk : k < T.length) {name : ByteArray} (he : (addT T (pathS T k) name).2 = 0) :
    checkT (addT T (pathS T k) name).1 = 0 ∧
    (∀ c, c < (addT T (pathS T k) name).1.length → (∃ j, j < T.length ∧ namesL (addT T (pathS T k) name).1 c = namesL T j ∧ propsOf (addT T (pathS T k) name).1 c = propsOf T j) ∨ (namesL (addT T (pathS T k) name).1 c = namesL T k ++ [name.data.toList] ∧ propsOf (addT T (pathS T k) name).1 c = [])) ∧
    (∀ j, j < T.length → ∃ c, c < (addT T (pathS T k) name).1.length ∧ namesL (addT T (pathS T k) name).1 c = namesL T j) ∧
    (∃ c, c < (addT T (pathS T k) name).1.length ∧ namesL (addT T (pathS T k) name).1 c = namesL T k ++ [name.data.toList]) := by
  obtain ⟨hn, ha, hd, hl, h1⟩ := add_parts hc hk he
  rw [h1]
  have hp := check_parts hc
  have hP := par_of_named hp.2.1
  have h0 : 0 < T.length := by omega
  have hsT : Shape T := ⟨h0, hP, named_root hp.2.1 h0⟩
  have hsL := shape_more hsT (n := ⟨(k : Int), name, []⟩) rfl hk
  have hv := more_valid hc hk hn ha hd hl
  have hLl : (T ++ [(⟨(k : Int), name, []⟩ : NodeT)]).length = T.length + 1 := by simp
  have hPL := hsL.2.1
  have hparL : parOf (T ++ [(⟨(k : Int), name, []⟩ : NodeT)]) T.length = (k : Int) := by unfold parOf; simp
  have hnmL : nameOf (T ++ [(⟨(k : Int), name, []⟩ : NodeT)]) T.length = name := by unfold nameOf; simp
  have hprL : propsOf (T ++ [(⟨(k : Int), name, []⟩ : NodeT)]) T.length = [] := by unfold propsOf; simp
  have hleft : ∀ j, j < T.length → namesL (T ++ [(⟨(k : Int), name, []⟩ : NodeT)]) j = namesL T j ∧ propsOf (T ++ [(⟨(k : Int), name, []⟩ : NodeT)]) j = propsOf T j := fun j hj => ⟨names_left hP hPL j j (Nat.le_refl _) hj, (left_parts _ hj).2.2.1⟩
  have hnew : namesL (T ++ [(⟨(k : Int), name, []⟩ : NodeT)]) T.length = namesL T k ++ [name.data.toList] := by
    rw [names_succ hPL h0 (by rw [hLl]; omega), hnmL, kid_par hparL, (hleft k hk).1]
  generalize (T ++ [(⟨(k : Int), name, []⟩ : NodeT)]) = L at *
  obtain ⟨hO1, hO2⟩ := ordT_spec hPL hsL.1
  have hOl := ordT_len hPL hsL.1
  have hsl := sorted_len hPL hsL.1
  have hpos : ∀ j, j < L.length → ∃ c, c < (sortedT L).length ∧ (ordT L)[c]? = some j := fun j hj => by
    obtain ⟨h1, h2⟩ := idx_get ((hO1 j).2 hj)
    exact ⟨(ordT L).idxOf j, by rw [hsl, ← hOl]; exact h1, by rw [List.getElem?_eq_getElem h1, h2]⟩
  refine ⟨hv, fun c hcl => ?_, fun j hj => ?_, ?_⟩
  · obtain ⟨j, s1, s2, _, _, s5, _⟩ := sorted_facts hsL (show c < L.length by omega)
    have hnm := names_sorted hsL (show c < L.length by omega) s1
    by_cases e : j < T.length
    · exact .inl ⟨j, e, by rw [hnm, (hleft j e).1], by rw [s5, (hleft j e).2]⟩
    · obtain rfl : j = T.length := by omega
      exact .inr ⟨by rw [hnm, hnew], by rw [s5, hprL]⟩
  · obtain ⟨c, h1, h2⟩ := hpos j (by omega)
    exact ⟨c, h1, by rw [names_sorted hsL (by omega) h2, (hleft j hj).1]⟩
  · obtain ⟨c, h1, h2⟩ := hpos T.length (by omega)
    exact ⟨c, h1, by rw [names_sorted hsL (by omega) h2, hnew]⟩

/-- Node i of A is in Y. -/
def Has (A Y : List NodeT) (i : Nat) : Prop := ∃ j, j < Y.length ∧ namesL Y j = namesL A i
/-- Y holds some nodes of A, without properties. -/
structure Part (A Y : List NodeT) : Prop where
  valid : checkT Y = 0
  bare : ∀ j, j < Y.length → propsOf Y j = []
  sub : ∀ j, j < Y.length → ∃ i, i < A.length ∧ namesL Y j = namesL A i
theorem path_names {T U : List NodeT} (hT : Par T) (hU : Par U) {i j : Nat} (hi : i < T.length) (hj : j < U.length) (h : namesL T i = namesL U j) : pathS T i = pathS U j := by
  refine bytes_list ?_
  rw [pathS_list, pathS_list]
  unfold pathL
  by_cases i0 : i = 0
  · by_cases j0 : j = 0
    · rw [if_pos i0, if_pos j0]
    · subst i0
      exact absurd h.symm (by rw [names_zero]; exact names_pos hU (by omega) hj)
  · by_cases j0 : j = 0
    · subst j0
      exact absurd h (by rw [names_zero]; exact names_pos hT (by omega) hi)
    · rw [if_neg i0, if_neg j0, h]
theorem dep_names {T : List NodeT} (h : Par T) : ∀ (m i : Nat), i ≤ m → i < T.length → depF T i (i : Int) = (namesL T i).length := by
  intro m
  induction m with
  | zero => intro i hi _; obtain rfl : i = 0 := by omega
            rfl
  | succ m ih =>
    intro i hi hil
    by_cases h0 : i = 0
    · subst h0; rfl
    · have hp := parN_lt h (by omega) hil
      obtain ⟨i, rfl⟩ : ∃ x, i = x + 1 := ⟨i - 1, by omega⟩
      have e1 : depF T (i + 1) ((i + 1 : Nat) : Int) = depF T i (parOf T (i + 1)) + 1 := by
        simp only [depF]
        rw [if_pos (by omega)]; rfl
      rw [names_succ h (by omega) hil, List.length_append, List.length_singleton, e1, ← hp.2, dep_fuel h _ (parN T (i + 1)) i (Nat.le_refl _) (by omega) (by omega), ← ih _ (by omega) (by omega)]
theorem dep_len {T : List NodeT} (h : Par T) {i : Nat} (hi : i < T.length) : depF T T.length (i : Int) = (namesL T i).length := by
  rw [dep_fuel h i i T.length (Nat.le_refl _) hi (by omega), dep_names h i i (Nat.le_refl _) hi]
theorem part_map {A Y : List NodeT} (hA : checkT A = 0) (h : Part A Y) : ∃ f : Nat → Nat, (∀ j, j < Y.length → f j < A.length ∧ namesL Y j = namesL A (f j)) ∧ ∀ i j, i < j → j < Y.length → f i < f j := by
  have key : ∀ j : Fin Y.length, ∃ i, i < A.length ∧ namesL Y j.1 = namesL A i := fun j => h.sub j.1 j.2
  obtain ⟨f, hf⟩ := Classical.skolem.1 key
  refine ⟨fun j => if hj : j < Y.length then f ⟨j, hj⟩ else 0, fun j hj => ?_, fun i j hij hj => ?_⟩
  · simp only [dif_pos hj]; exact hf ⟨j, hj⟩
  · have hi : i < Y.length := by omega
    simp only [dif_pos hi, dif_pos hj]
    obtain ⟨a1, a2⟩ := hf ⟨i, hi⟩
    obtain ⟨b1, b2⟩ := hf ⟨j, hj⟩
    have hlt := nk_lt h.valid hij hj
    rw [nk_eq a2, nk_eq b2] at hlt
    rcases Nat.lt_trichotomy (f ⟨i, hi⟩) (f ⟨j, hj⟩) with e | e | e
    · exact e
    · rw [e] at hlt; exact (ltP_irrefl _ hlt).elim
    · exact (ltP_asymm hlt (nk_lt hA e a1)).elim
theorem part_room {A Y : List NodeT} (hA : checkT A = 0) (h : Part A Y) {k : Nat} (hk : k < A.length) (hn : ¬ Has A Y k) : Y.length < A.length := by
  obtain ⟨f, h1, h2⟩ := part_map hA h
  have key : ∀ j, j < Y.length → (f j < k → j ≤ f j) ∧ (k < f j → j + 1 ≤ f j) := by
    intro j
    induction j with
    | zero => intro _; exact ⟨fun _ => by omega, fun _ => by omega⟩
    | succ j ih =>
      intro hj
      have hm := h2 j (j + 1) (by omega) hj
      obtain ⟨i1, i2⟩ := ih (by omega)
      have hne : f j ≠ k := fun e => hn ⟨j, by omega, by rw [← e]; exact (h1 j (by omega)).2⟩
      refine ⟨fun e => ?_, fun e => ?_⟩
      · have := i1 (by omega); omega
      · rcases Nat.lt_or_gt_of_ne hne with h | h
        · have := i1 h; omega
        · have := i2 h; omega
  by_cases h0 : Y.length = 0
  · omega
  · have hl : Y.length - 1 < Y.length := by omega
    obtain ⟨k1, k2⟩ := key _ hl
    have hb := (h1 _ hl).1
    have hne : f (Y.length - 1) ≠ k := fun e => hn ⟨_, hl, by rw [← e]; exact (h1 _ hl).2⟩
    rcases Nat.lt_or_gt_of_ne hne with h | h
    · have := k1 h; omega
    · have := k2 h; omega
/-- A missing node is added if its parent is there; and what is added is one more node of the tree. -/
theorem part_step {A Y : List NodeT} (hA : checkT A = 0) (h : Part A Y) {k : Nat} (hk : k < A.length) (k0 : 0 < k) (hn : ¬ Has A Y k) :
    (Has A Y (parN A k) → (addT Y (pathS A (parN A k)) (nameOf A k)).2 = 0) ∧
    ((addT Y (pathS A (parN A k)) (nameOf A k)).2 = 0 → Part A (addT Y (pathS A (parN A k)) (nameOf A k)).1 ∧ Has A (addT Y (pathS A (parN A k)) (nameOf A k)).1 k ∧ ∀ i, Has A Y i → Has A (addT Y (pathS A (parN A k)) (nameOf A k)).1 i) := by
  have hpA := check_parts hA
  have hPA := par_of_named hpA.2.1
  have hpY := check_parts h.valid
  have hPY := par_of_named hpY.2.1
  have hpl := parN_lt hPA k0 hk
  have hpk : parN A k < A.length := by omega
  have hnk := names_succ hPA k0 hk
  refine ⟨fun ⟨pj, hpj, hpn⟩ => ?_, fun he => ?_⟩
  · have hpath := path_names hPY hPA hpj hpk hpn
    rw [← hpath]
    unfold addT
    rw [begin_of h.valid hpj]
    simp only [ne_eq, not_true_eq_false, if_false]
    have hnm : nameT (nameOf A k).data.toList = true := by
      have := (named_at A 0 hpA.2.1 k hk).1
      rw [Nat.zero_add] at this
      unfold headB at this
      rw [if_neg (by omega), Bool.and_eq_true] at this
      rw [nameOf_at hk]; exact this.2
    rw [if_neg (by rw [hnm]; decide)]
    have hany : Y.any (sameKid (pj : Int) (nameOf A k)) = false := by
      rw [List.any_eq_false]
      intro nd hnd
      obtain ⟨c, hc, rfl⟩ := List.getElem_of_mem hnd
      intro e
      unfold sameKid at e
      rw [Bool.and_eq_true, decide_eq_true_iff, eqS_iff] at e
      have hcp : parOf Y c = (pj : Int) := by rw [parOf_at hc]; exact e.1
      have hc0 : 0 < c := by
        by_cases e0 : c = 0
        · subst e0
          have := named_root hpY.2.1 hc
          omega
        · omega
      refine hn ⟨c, hc, ?_⟩
      rw [names_succ hPY hc0 hc, kid_par hcp, hpn, nameOf_at hc, e.2, hnk]
    rw [if_neg (by rw [hany]; decide)]
    have hdep : depF Y Y.length (pj : Int) < 8 := by
      have h8 := deep_check hA k hk
      rw [dep_len hPA hk, hnk, List.length_append, List.length_singleton] at h8
      rw [dep_len hPY hpj, hpn]; omega
    rw [if_neg (by omega)]
    have hroom := part_room hA h hk hn
    have h120 := (limits_len hpA.1).2
    rw [if_neg (by omega)]
  · obtain ⟨pj, hpj, hpp⟩ : ∃ pj, pj < Y.length ∧ pathS Y pj = pathS A (parN A k) := by
      rcases begin_cases Y (pathS A (parN A k)) with ⟨hne, _⟩ | ⟨_, pj, hpj, _, hps⟩
      · unfold addT at he; rw [if_pos hne] at he; exact absurd he hne
      · exact ⟨pj, hpj, hps⟩
    have hpn := names_of_path hpY.2.1 hpA.2.1 hpj hpk (eqS_path.1 ((eqS_iff _ _).2 hpp))
    rw [← hpp] at he ⊢
    obtain ⟨n1, n2, n3, n4⟩ := add_nodes h.valid hpj he
    rw [hpn, ← hnk] at n2 n4
    refine ⟨⟨n1, fun j hj => ?_, fun j hj => ?_⟩, n4, fun i ⟨j, hj, hji⟩ => ?_⟩
    · rcases n2 j hj with ⟨q, hq, _, e⟩ | ⟨_, e⟩
      · rw [e]; exact h.bare q hq
      · exact e
    · rcases n2 j hj with ⟨q, hq, e, _⟩ | ⟨e, _⟩
      · obtain ⟨i, hi, hi2⟩ := h.sub q hq
        exact ⟨i, hi, e.trans hi2⟩
      · exact ⟨k, hk, e⟩
    · obtain ⟨c, hcl, e⟩ := n3 j hj
      exact ⟨c, hcl, e.trans hji⟩
end Go.Proofs.YtjfkjnakmmkkiaaGreat
