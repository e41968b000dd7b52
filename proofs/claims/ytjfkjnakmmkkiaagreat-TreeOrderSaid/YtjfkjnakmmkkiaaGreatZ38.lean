/- Rounds of adding, and setting properties in any order (plain). -/
import Derived.Test.YtjfkjnakmmkkiaaGreatZ37
import Derived.Test.YtjfkjnakmmkkiaaGreatZ34

open Go
namespace Go.Proofs.YtjfkjnakmmkkiaaGreat

/-- The tree of A's nodes, with the properties of which g says yes. -/
def selT (A : List NodeT) (g : Nat → ByteArray → Bool) : List NodeT := A.mapIdx fun i n => ⟨n.parent, n.name, n.props.filter fun p => g i p.name⟩
theorem sel_len (A : List NodeT) (g : Nat → ByteArray → Bool) : (selT A g).length = A.length := by unfold selT; simp
theorem sel_at {A : List NodeT} {g : Nat → ByteArray → Bool} {i : Nat} (h : i < A.length) : (selT A g)[i]'(by rw [sel_len]; exact h) = ⟨A[i].parent, A[i].name, A[i].props.filter fun p => g i p.name⟩ := by unfold selT; simp
theorem sel_sk (A : List NodeT) (g : Nat → ByteArray → Bool) : A.map sk = (selT A g).map sk := by
  apply List.ext_getElem (by simp [sel_len])
  intro i h1 h2
  rw [List.length_map] at h1
  rw [List.getElem_map, List.getElem_map, sel_at h1]; rfl
theorem sel_mem {A : List NodeT} {g : Nat → ByteArray → Bool} {n : NodeT} (h : n ∈ selT A g) : ∃ m ∈ A, ∃ i, n.props = m.props.filter fun p => g i p.name := by
  obtain ⟨i, hi, rfl⟩ := List.getElem_of_mem h
  rw [sel_len] at hi
  exact ⟨A[i], List.getElem_mem hi, i, by rw [sel_at hi]⟩
theorem sel_valid {A : List NodeT} (hA : checkT A = 0) (g : Nat → ByteArray → Bool) : checkT (selT A g) = 0 := by
  have hp := check_parts hA
  have hfit : ∀ n ∈ A, fitB n = true := by
    have h1 := hp.1
    unfold limitsT at h1
    rw [Bool.and_eq_true, List.all_eq_true] at h1
    exact h1.2
  refine props_valid hA (sel_sk A g) ?_ (fun n hn => ?_) (fun n hn => ?_)
  · have h1 := hp.1
    unfold limitsT at h1 ⊢
    rw [Bool.and_eq_true] at h1
    rw [sel_len, h1.1, Bool.true_and, List.all_eq_true]
    intro n hn
    obtain ⟨m, hm, i, e⟩ := sel_mem hn
    have hf := hfit m hm
    unfold fitB at hf ⊢
    rw [Bool.and_eq_true, decide_eq_true_iff, List.all_eq_true] at hf
    rw [e, Bool.and_eq_true, decide_eq_true_iff, List.all_eq_true]
    exact ⟨Nat.le_trans (List.length_filter_le _ _) hf.1, fun p hp => hf.2 p (List.mem_filter.1 hp).1⟩
  · obtain ⟨m, hm, i, e⟩ := sel_mem hn
    obtain ⟨j, hj, rfl⟩ := List.getElem_of_mem hm
    rw [e, List.all_eq_true]
    exact fun p hq => List.all_eq_true.1 (named_at A 0 hp.2.1 j hj).2 p (List.mem_filter.1 hq).1
  · obtain ⟨m, hm, i, e⟩ := sel_mem hn
    rw [e]
    exact (asc_pair _).2 (List.Pairwise.filter _ ((asc_pair _).1 (check_asc hA m hm)))
theorem names_sk {T U : List NodeT} (h : T.map sk = U.map sk) (i : Nat) : namesL T i = namesL U i := by unfold namesL; rw [pc_sk h]
theorem lt_irr (x : ByteArray) : ltS x x = false := by
  cases h : ltS x x with
  | false => rfl
  | true => have := ltS_asymm h; rw [h] at this; cases this
theorem lt_ne {x y : ByteArray} (h : ltS x y = true) : x ≠ y := by rintro rfl; rw [lt_irr] at h; cases h
/-- Putting a property of a row into a part of this row. -/
theorem put_filter (g : ByteArray → Bool) (p : PropT) : ∀ ps : List PropT, ascT ps = true → p ∈ ps →
    putT (ps.filter fun q => g q.name) p = ps.filter fun q => g q.name || decide (q.name = p.name) := by
  intro ps
  induction ps with
  | nil => intro _ h; cases h
  | cons a r ih =>
    intro ha hm
    have hpw := (asc_pair _).1 ha
    rw [List.pairwise_cons] at hpw
    have har := (asc_pair _).2 hpw.2
    rcases List.mem_cons.1 hm with rfl | hm
    · have hr : r.filter (fun q => g q.name || decide (q.name = p.name)) = r.filter fun q => g q.name := by
        apply List.filter_congr
        intro q hq
        have := lt_ne (hpw.1 q hq)
        rw [decide_eq_false (fun e => this e.symm), Bool.or_false]
      rw [List.filter_cons_of_pos (p := fun q : PropT => g q.name || decide (q.name = p.name)) (by simp), hr]
      cases hg : g p.name with
      | true => rw [List.filter_cons_of_pos (by exact hg), put_here (lt_irr _), if_pos rfl]
      | false =>
        rw [List.filter_cons_of_neg (by rw [hg]; decide)]
        cases hc : r.filter fun q => g q.name with
        | nil => rfl
        | cons b r2 =>
          have hb : b ∈ r := (List.mem_filter.1 (show b ∈ r.filter fun q => g q.name by rw [hc]; exact List.mem_cons_self ..)).1
          have hlt := hpw.1 b hb
          rw [put_here (ltS_asymm hlt), if_neg (fun e => lt_ne hlt e.symm)]
    · have hlt := hpw.1 p hm
      have hd : decide (a.name = p.name) = false := decide_eq_false (lt_ne hlt)
      cases hg : g a.name with
      | true => rw [List.filter_cons_of_pos (by exact hg), List.filter_cons_of_pos (by simp [hg]), put_less hlt, ih har hm]
      | false => rw [List.filter_cons_of_neg (by rw [hg]; decide), List.filter_cons_of_neg (by rw [hg, hd]; decide), ih har hm]
/-- Setting a property of A in a part of A. -/
theorem sel_set {A : List NodeT} (hA : checkT A = 0) (g : Nat → ByteArray → Bool) {k i : Nat} (hk : k < A.length) (hi : i < A[k].props.length) :
    setT (selT A g) (pathS A k) A[k].props[i].name A[k].props[i].value = (selT A (fun a x => g a x || (decide (a = k) && decide (x = A[k].props[i].name))), 0) := by
  have hv := sel_valid hA g
  have hkY : k < (selT A g).length := by rw [sel_len]; exact hk
  have hok := setT_ok (name := A[k].props[i].name) (value := A[k].props[i].value) (begin_of hv hkY)
  rw [← path_sk (sel_sk A g) k] at hok
  have hpb : propB A[k].props[i].name = true := List.all_eq_true.1 (named_at A 0 (check_parts hA).2.1 k hk).2 _ (List.getElem_mem hi)
  have hset : setAt (selT A g) k ⟨A[k].props[i].name, A[k].props[i].value⟩ = selT A (fun a x => g a x || (decide (a = k) && decide (x = A[k].props[i].name))) := by
    unfold setAt
    rw [List.getElem?_eq_getElem hkY]
    simp only
    apply List.ext_getElem (by rw [List.length_set, sel_len, sel_len])
    intro j h1 h2
    rw [sel_len] at h2
    rw [sel_at h2, List.getElem_set]
    by_cases e : k = j
    · subst e
      rw [if_pos rfl, sel_at hk]
      unfold setNode
      simp only
      rw [show (⟨A[k].props[i].name, A[k].props[i].value⟩ : PropT) = A[k].props[i] from rfl, put_filter (g k) _ _ (check_asc hA _ (List.getElem_mem hk)) (List.getElem_mem hi)]
      simp
    · rw [if_neg e, sel_at h2]
      have : decide (j = k) = false := decide_eq_false (fun h => e h.symm)
      simp [this]
  rw [hok, if_neg (by rw [hpb]; decide), hset, if_neg (by rw [(check_parts (sel_valid hA _)).1]; decide)]
theorem sel_all {A : List NodeT} {g : Nat → ByteArray → Bool} (h : ∀ i (hi : i < A.length), ∀ p ∈ A[i].props, g i p.name = true) : selT A g = A := by
  apply List.ext_getElem (sel_len A g)
  intro i h1 h2
  rw [sel_at h2, List.filter_eq_self.2 (fun p hp => h i h2 p hp)]
/-- What has been set: whole nodes, and a part of one. -/
structure Sets (A Y : List NodeT) (l : List Nat) (j : Nat) (done : List Nat) (m : Nat) : Prop where
  sel : ∃ g, Y = selT A g ∧ (∀ q k, q < j → l[q]? = some k → ∀ p ∈ propsOf A k, g k p.name = true) ∧ ∀ q i, q < m → done[q]? = some i → ∀ k p, l[j]? = some k → (propsOf A k)[i]? = some p → g k p.name = true
theorem sets_start (A : List NodeT) (l : List Nat) : Sets A (selT A fun _ _ => false) l 0 [] 0 := ⟨_, rfl, fun _ _ h => absurd h (by omega), fun _ _ h => absurd h (by omega)⟩
theorem sets_in {A Y : List NodeT} {l : List Nat} {j : Nat} {d d' : List Nat} {m : Nat} (h : Sets A Y l j d m) : Sets A Y l j d' 0 := by
  obtain ⟨g, h1, h2, _⟩ := h
  exact ⟨g, h1, h2, fun _ _ h => absurd h (by omega)⟩
theorem sets_out {A Y : List NodeT} {l : List Nat} {j k : Nat} {d : List Nat} {m : Nat} (h : Sets A Y l j d m) (hj : l[j]? = some k) (hd : ∀ i, i < (propsOf A k).length → i ∈ d) (hm : d.length ≤ m) : Sets A Y l (j + 1) [] 0 := by
  obtain ⟨g, h1, h2, h3⟩ := h
  refine ⟨g, h1, fun q k2 hq hk2 p hp => ?_, fun _ _ h => absurd h (by omega)⟩
  by_cases e : q < j
  · exact h2 q k2 e hk2 p hp
  · obtain rfl : q = j := by omega
    rw [hj] at hk2
    cases hk2
    obtain ⟨i, hi, rfl⟩ := List.getElem_of_mem hp
    obtain ⟨q2, hq2, e2⟩ := List.getElem_of_mem (hd i hi)
    exact h3 q2 i (by omega) (by rw [List.getElem?_eq_getElem hq2, e2]) k _ hj (List.getElem?_eq_getElem hi)
theorem sets_set {A Y : List NodeT} (hA : checkT A = 0) {l : List Nat} {j k i : Nat} {d : List Nat} {m : Nat} (h : Sets A Y l j d m) (hj : l[j]? = some k) (hm : d[m]? = some i) (hk : k < A.length) (hi : i < A[k].props.length) :
    ∃ Z, setT Y (pathS A k) A[k].props[i].name A[k].props[i].value = (Z, 0) ∧ Sets A Z l j d (m + 1) := by
  obtain ⟨g, rfl, h2, h3⟩ := h
  refine ⟨_, sel_set hA g hk hi, _, rfl, fun q k2 hq hk2 p hp => by rw [h2 q k2 hq hk2 p hp]; rfl, fun q i2 hq hi2 k2 p hk2 hp => ?_⟩
  by_cases e : q < m
  · rw [h3 q i2 e hi2 k2 p hk2 hp]; rfl
  · obtain rfl : q = m := by omega
    rw [hm] at hi2
    cases hi2
    rw [hj] at hk2
    cases hk2
    rw [propsOf_at hk, List.getElem?_eq_getElem hi] at hp
    cases hp
    simp
theorem sets_end {A Y : List NodeT} {l : List Nat} {j : Nat} {d : List Nat} {m : Nat} (h : Sets A Y l j d m) (hl : l.length ≤ j) (hp : ∀ k, k < A.length → k ∈ l) : Y = A := by
  obtain ⟨g, rfl, h2, _⟩ := h
  refine sel_all fun i hi p hpp => ?_
  obtain ⟨q, hq, e⟩ := List.getElem_of_mem (hp i hi)
  exact h2 q i (by omega) (by rw [List.getElem?_eq_getElem hq, e]) p (by rw [propsOf_at hi]; exact hpp)

/-! Rounds. -/
theorem mono_len (f : Nat → Nat) (n m : Nat) (hb : ∀ i, i < n → f i < m) (hm : ∀ i j, i < j → j < n → f i < f j) : n ≤ m := by
  have h1 : ∀ i, i < n → i ≤ f i := by
    intro i
    induction i with
    | zero => intro _; omega
    | succ i ih => intro hi; have := ih (by omega); have := hm i (i + 1) (by omega) hi; omega
  by_cases h0 : n = 0
  · omega
  · have := h1 (n - 1) (by omega); have := hb (n - 1) (by omega); omega
theorem part_all {A Y : List NodeT} (hA : checkT A = 0) (h : Part A Y) (hh : ∀ i, i < A.length → Has A Y i) : Y = selT A fun _ _ => false := by
  have hv := sel_valid hA fun _ _ => false
  have hns : ∀ i, namesL (selT A fun _ _ => false) i = namesL A i := fun i => (names_sk (sel_sk A _) i).symm
  have hpr : ∀ i, i < A.length → propsOf (selT A fun _ _ => false) i = [] := fun i hi => by
    rw [propsOf_at (by rw [sel_len]; exact hi), sel_at hi]; simp
  have hback : Part Y (selT A fun _ _ => false) := ⟨hv, fun j hj => hpr j (by rw [sel_len] at hj; exact hj), fun j hj => by
    rw [sel_len] at hj
    obtain ⟨i, hi, e⟩ := hh j hj
    exact ⟨i, hi, by rw [hns, e]⟩⟩
  obtain ⟨f, f1, f2⟩ := part_map hA h
  obtain ⟨f', g1, g2⟩ := part_map h.valid hback
  have l1 := mono_len f _ _ (fun i hi => (f1 i hi).1) f2
  have l2 := mono_len f' _ _ (fun i hi => (g1 i hi).1) g2
  rw [sel_len] at l2
  refine tree_ext h.valid hv (by rw [sel_len]; omega) fun i hi => ?_
  obtain ⟨j, hj, e⟩ := h.sub i hi
  exact ⟨j, by rw [sel_len]; exact hj, by rw [hns]; exact e, by rw [h.bare i hi, hpr j hj]⟩
theorem has_find {A Y : List NodeT} (hA : checkT A = 0) (h : Part A Y) {k : Nat} (hk : k < A.length) : ((rFindT Y (pathS A k)).2 = true ↔ Has A Y k) := by
  have hpA := check_parts hA
  have hPA := par_of_named hpA.2.1
  have hpY := check_parts h.valid
  have hPY := par_of_named hpY.2.1
  constructor
  · intro e
    unfold rFindT at e
    rw [if_neg (by simp [h.valid])] at e
    rcases findT_bd Y (pathS A k) with hf | ⟨j, hj, _, hps⟩
    · rw [foundT_no hf] at e; cases e
    · exact ⟨j, hj, names_of_path hpY.2.1 hpA.2.1 hj hk (eqS_path.1 ((eqS_iff _ _).2 hps))⟩
  · rintro ⟨j, hj, e⟩
    rw [← path_names hPY hPA hj hk e, rfind_of h.valid hj]
theorem names_le {T : List NodeT} (h : Par T) : ∀ m i, i ≤ m → i < T.length → (namesL T i).length ≤ i := by
  intro m
  induction m with
  | zero => intro i hi _; obtain rfl : i = 0 := by omega
            rw [names_zero]; simp
  | succ m ih =>
    intro i hi hil
    by_cases h0 : i = 0
    · subst h0; rw [names_zero]; simp
    · have hp := parN_lt h (by omega) hil
      have := ih (parN T i) (by omega) (by omega)
      rw [names_succ h (by omega) hil, List.length_append, List.length_singleton]; omega
/-- Round r has come to place j. -/
structure Rnd (A Y : List NodeT) (l : List Nat) (r j : Nat) : Prop where
  part : Part A Y
  old : ∀ i, i < A.length → (namesL A i).length ≤ r → Has A Y i
  now : ∀ q i, q < j → l[q]? = some i → (namesL A i).length ≤ r + 1 → Has A Y i
theorem rnd_start {A : List NodeT} (hA : checkT A = 0) (l : List Nat) : Rnd A rootT l 0 0 := by
  have hl := (limits_len (check_parts hA).1).1
  have hP := par_of_named (check_parts hA).2.1
  have h1 : rootT.length = 1 := rfl
  refine ⟨⟨root_valid, fun j hj => ?_, fun j hj => ⟨0, by omega, ?_⟩⟩, fun i hi hn => ⟨0, by omega, ?_⟩, fun _ _ h => absurd h (by omega)⟩
  · obtain rfl : j = 0 := by omega
    rfl
  · obtain rfl : j = 0 := by omega
    rfl
  · by_cases h0 : i = 0
    · subst h0; rfl
    · have := names_pos hP (by omega) hi
      exact absurd (List.length_eq_zero_iff.1 (by omega)) this
theorem rnd_root {A Y : List NodeT} {l : List Nat} {r j : Nat} (hA : checkT A = 0) (h : Rnd A Y l r j) : Has A Y 0 :=
  h.old 0 (by have := (limits_len (check_parts hA).1).1; omega) (by rw [names_zero]; simp)
theorem rnd_has {A Y : List NodeT} {l : List Nat} {r j k : Nat} (h : Rnd A Y l r j) (hj : l[j]? = some k) (hk : Has A Y k) : Rnd A Y l r (j + 1) :=
  ⟨h.part, h.old, fun q i hq hi hn => by
    by_cases e : q < j
    · exact h.now q i e hi hn
    · obtain rfl : q = j := by omega
      rw [hj] at hi
      cases hi
      exact hk⟩
theorem rnd_add {A Y : List NodeT} {l : List Nat} {r j k : Nat} (hA : checkT A = 0) (h : Rnd A Y l r j) (hj : l[j]? = some k) (hk : k < A.length) (k0 : 0 < k) (hn : ¬ Has A Y k) (he : (addT Y (pathS A (parN A k)) (nameOf A k)).2 = 0) :
    Rnd A (addT Y (pathS A (parN A k)) (nameOf A k)).1 l r (j + 1) := by
  obtain ⟨p1, p2, p3⟩ := (part_step hA h.part hk k0 hn).2 he
  exact rnd_has ⟨p1, fun i hi hl => p3 i (h.old i hi hl), fun q i hq hi hl => p3 i (h.now q i hq hi hl)⟩ hj p2
theorem rnd_not {A Y : List NodeT} {l : List Nat} {r j k : Nat} (hA : checkT A = 0) (h : Rnd A Y l r j) (hj : l[j]? = some k) (hk : k < A.length) (k0 : 0 < k) (hn : ¬ Has A Y k) (he : (addT Y (pathS A (parN A k)) (nameOf A k)).2 ≠ 0) :
    Rnd A Y l r (j + 1) := by
  have hP := par_of_named (check_parts hA).2.1
  refine ⟨h.part, h.old, fun q i hq hi hl => ?_⟩
  by_cases e : q < j
  · exact h.now q i e hi hl
  · obtain rfl : q = j := by omega
    rw [hj] at hi
    cases hi
    rw [names_succ hP k0 hk, List.length_append, List.length_singleton] at hl
    have hp := parN_lt hP k0 hk
    exact absurd ((part_step hA h.part hk k0 hn).1 (h.old _ (by omega) (by omega))) he
theorem rnd_next {A Y : List NodeT} {l : List Nat} {r j : Nat} (h : Rnd A Y l r j) (hl : l.length ≤ j) (hp : ∀ k, k < A.length → k ∈ l) : Rnd A Y l (r + 1) 0 :=
  ⟨h.part, fun i hi hn => by
    obtain ⟨q, hq, e⟩ := List.getElem_of_mem (hp i hi)
    exact h.now q i (by omega) (by rw [List.getElem?_eq_getElem hq, e]) hn, fun _ _ h => absurd h (by omega)⟩
theorem rnd_end {A Y : List NodeT} {l : List Nat} {r j : Nat} (hA : checkT A = 0) (h : Rnd A Y l r j) (hr : A.length ≤ r) : Y = selT A fun _ _ => false := by
  have hP := par_of_named (check_parts hA).2.1
  exact part_all hA h.part fun i hi => h.old i hi (by have := names_le hP i i (Nat.le_refl _) hi; omega)
end Go.Proofs.YtjfkjnakmmkkiaaGreat
