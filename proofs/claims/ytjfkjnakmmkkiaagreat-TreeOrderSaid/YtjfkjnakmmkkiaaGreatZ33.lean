/- The plain law of TreeRemoves: paths of a valid tree, and where they are found behind Remove. | A valid tree is known by the names and properties of its nodes (plain). | Remove undoes Add (plain). -/
import Derived.Test.YtjfkjnakmmkkiaaGreatZ23
import Derived.Test.YtjfkjnakmmkkiaaGreatZ18

open Go
namespace Go.Proofs.YtjfkjnakmmkkiaaGreat

theorem noSlash {l : List UInt8} (h : nameT l = true) : ∀ x ∈ l, x ≠ 47 := by
  intro x hx e
  subst e
  unfold nameT at h
  simp only [Bool.and_eq_true] at h
  have := List.all_eq_true.1 h.2 _ hx
  revert this; decide
def flatN (ns : List (List UInt8)) : List UInt8 := ns.flatMap fun n => 47 :: n
def Tail47 (t : List UInt8) : Prop := t = [] ∨ ∃ u, t = 47 :: u
theorem tail_flat (ns : List (List UInt8)) : Tail47 (flatN ns) := by
  cases ns with
  | nil => exact .inl rfl
  | cons n ns => exact .inr ⟨n ++ flatN ns, rfl⟩
theorem no47_split : ∀ (n m t u : List UInt8), (∀ x ∈ n, x ≠ 47) → (∀ x ∈ m, x ≠ 47) → Tail47 t → Tail47 u → n ++ t = m ++ u → n = m ∧ t = u
  | [], [], t, u, _, _, _, _, h => ⟨rfl, h⟩
  | [], y :: m, t, u, _, hm, ht, _, h => by
    rcases ht with rfl | ⟨t', rfl⟩
    · cases h
    · injection h with h1 _
      exact absurd h1.symm (hm y (List.mem_cons_self ..))
  | x :: n, [], t, u, hn, _, _, hu, h => by
    rcases hu with rfl | ⟨u', rfl⟩
    · cases h
    · injection h with h1 _
      exact absurd h1 (hn x (List.mem_cons_self ..))
  | x :: n, y :: m, t, u, hn, hm, ht, hu, h => by
    injection h with h1 h2
    obtain ⟨e1, e2⟩ := no47_split n m t u (fun z hz => hn z (List.mem_cons_of_mem _ hz)) (fun z hz => hm z (List.mem_cons_of_mem _ hz)) ht hu h2
    exact ⟨by rw [h1, e1], e2⟩
def NoS (ns : List (List UInt8)) : Prop := ∀ n ∈ ns, ∀ x ∈ n, x ≠ 47
theorem flat_prefix : ∀ (ns ms : List (List UInt8)) (r : List UInt8), NoS ns → NoS ms → Tail47 r → flatN ns ++ r = flatN ms → ∃ rest, ms = ns ++ rest ∧ r = flatN rest
  | [], ms, r, _, _, _, h => ⟨ms, rfl, h⟩
  | n :: ns, [], r, _, _, _, h => by cases h
  | n :: ns, m :: ms, r, hn, hm, hr, h => by
    have h' : n ++ (flatN ns ++ r) = m ++ flatN ms := by
      have : 47 :: (n ++ flatN ns) ++ r = 47 :: (m ++ flatN ms) := h
      simpa using this
    have ht : Tail47 (flatN ns ++ r) := by
      rcases tail_flat ns with e | ⟨u, e⟩
      · rw [e]; exact hr
      · rw [e]; exact .inr ⟨u ++ r, rfl⟩
    obtain ⟨e1, e2⟩ := no47_split n m _ _ (hn n (List.mem_cons_self ..)) (hm m (List.mem_cons_self ..)) ht (tail_flat ms) h'
    obtain ⟨rest, e3, e4⟩ := flat_prefix ns ms r (fun z hz => hn z (List.mem_cons_of_mem _ hz)) (fun z hz => hm z (List.mem_cons_of_mem _ hz)) hr e2
    exact ⟨rest, by rw [e1, e3]; rfl, e4⟩
def namesL (T : List NodeT) (i : Nat) : List (List UInt8) := (pc T i).map fun c => c.1.data.toList
theorem flat_names (T : List NodeT) (i : Nat) : flatP (pc T i) = flatN (namesL T i) := by
  unfold flatP flatN namesL segT
  rw [List.flatMap_map]
theorem names_zero (T : List NodeT) : namesL T 0 = [] := rfl
theorem names_succ {T : List NodeT} (h : Par T) {i : Nat} (h0 : 0 < i) (hi : i < T.length) : namesL T i = namesL T (parN T i) ++ [(nameOf T i).data.toList] := by
  unfold namesL; rw [pc_succ h h0 hi, List.map_append]; rfl
theorem names_noS {T : List NodeT} (h : namedT T = true) : ∀ (n i : Nat), i ≤ n → i < T.length → NoS (namesL T i) := by
  have hP := par_of_named h
  intro n
  induction n with
  | zero => intro i hi _; obtain rfl : i = 0 := by omega
            intro n hn; cases hn
  | succ n ih =>
    intro i hi hil
    by_cases h0 : i = 0
    · subst h0; intro n hn; cases hn
    · have hp := parN_lt hP (by omega) hil
      rw [names_succ hP (by omega) hil]
      intro m hm
      rcases List.mem_append.1 hm with hm | hm
      · exact ih _ (by omega) (by omega) m hm
      · simp at hm
        subst hm
        have := (named_at T 0 h i hil).1
        rw [Nat.zero_add] at this
        unfold headB at this
        rw [if_neg h0, Bool.and_eq_true] at this
        rw [nameOf_at hil]
        exact noSlash this.2
theorem names_inj {T : List NodeT} (h : Par T) (hD : Dis T) : ∀ (n i j : Nat), i ≤ n → i < T.length → j < T.length → namesL T i = namesL T j → i = j := by
  intro n
  induction n with
  | zero =>
    intro i j hi _ hj e
    obtain rfl : i = 0 := by omega
    rcases Nat.eq_zero_or_pos j with rfl | h0
    · rfl
    · rw [names_zero, names_succ h h0 hj] at e
      simp at e
  | succ n ih =>
    intro i j hi hil hjl e
    rcases Nat.eq_zero_or_pos i with rfl | hi0
    · rcases Nat.eq_zero_or_pos j with rfl | h0
      · rfl
      · rw [names_zero, names_succ h h0 hjl] at e
        simp at e
    · rcases Nat.eq_zero_or_pos j with rfl | hj0
      · rw [names_zero, names_succ h hi0 hil] at e
        simp at e
      · have pi := parN_lt h hi0 hil
        have pj := parN_lt h hj0 hjl
        rw [names_succ h hi0 hil, names_succ h hj0 hjl] at e
        obtain ⟨e1, e2⟩ := List.append_inj' e rfl
        have e3 := ih _ _ (by omega) (by omega) (by omega) e1
        have e4 : nameOf T i = nameOf T j := by
          simp at e2
          exact ByteArray.ext e2
        exact hD i j hi0 hil hj0 hjl (by rw [← pi.2, ← pj.2, e3]) e4
theorem names_und {T : List NodeT} (h : Par T) (hD : Dis T) {k : Nat} (hk : k < T.length) : ∀ (n i : Nat), i ≤ n → i < T.length → namesL T k <+: namesL T i → Und T k i := by
  intro n
  induction n with
  | zero =>
    intro i hi hil hp
    obtain rfl : i = 0 := by omega
    rw [names_zero] at hp
    have := names_inj h hD k k 0 (Nat.le_refl _) hk hil (by rw [List.prefix_nil.1 hp]; rfl)
    subst this; exact und_refl _ _
  | succ n ih =>
    intro i hi hil hp
    by_cases e : namesL T k = namesL T i
    · have := names_inj h hD k k i (Nat.le_refl _) hk hil e
      subst this; exact und_refl _ _
    · have i0 : 0 < i := by
        rcases Nat.eq_zero_or_pos i with rfl | h0
        · rw [names_zero] at hp e; exact absurd (List.prefix_nil.1 hp) e
        · exact h0
      have pi := parN_lt h i0 hil
      rw [names_succ h i0 hil] at hp e
      rcases List.prefix_concat_iff.1 hp with hp | hp
      · exact absurd hp e
      · exact und_trans (ih _ (by omega) (by omega) hp) (und_par h i0 hil)
theorem und_names {T : List NodeT} {k i : Nat} (h : Und T k i) : namesL T k <+: namesL T i := by
  unfold namesL
  obtain ⟨q, hq⟩ := h
  exact ⟨q.map fun c => c.1.data.toList, by rw [← hq, List.map_append]⟩
def pathL (T : List NodeT) (i : Nat) : List UInt8 := if i = 0 then [47] else flatN (namesL T i)
theorem pathS_list (T : List NodeT) (i : Nat) : (pathS T i).data.toList = pathL T i := by
  unfold pathS pathL
  split
  · rfl
  · rw [flat_names]
theorem names_pos {T : List NodeT} (h : Par T) {i : Nat} (h0 : 0 < i) (hi : i < T.length) : namesL T i ≠ [] := by rw [names_succ h h0 hi]; simp
theorem flat_one {ns : List (List UInt8)} (h : NoS ns) (hn : ∀ n ∈ ns, n ≠ []) (e : flatN ns = [47]) : False := by
  cases ns with
  | nil => cases e
  | cons n ns =>
    have : 47 :: (n ++ flatN ns) = [47] := e
    injection this with _ h2
    have := List.append_eq_nil_iff.1 h2
    exact hn n (List.mem_cons_self ..) this.1
theorem names_full {T : List NodeT} (h : namedT T = true) : ∀ (n i : Nat), i ≤ n → i < T.length → ∀ m ∈ namesL T i, m ≠ [] := by
  have hP := par_of_named h
  intro n
  induction n with
  | zero => intro i hi _; obtain rfl : i = 0 := by omega
            intro n hn; cases hn
  | succ n ih =>
    intro i hi hil
    by_cases h0 : i = 0
    · subst h0; intro n hn; cases hn
    · have hp := parN_lt hP (by omega) hil
      rw [names_succ hP (by omega) hil]
      intro m hm
      rcases List.mem_append.1 hm with hm | hm
      · exact ih _ (by omega) (by omega) m hm
      · simp at hm
        subst hm
        have := (named_at T 0 h i hil).1
        rw [Nat.zero_add] at this
        unfold headB at this
        rw [if_neg h0, Bool.and_eq_true] at this
        rw [nameOf_at hil]
        have h2 := this.2
        unfold nameT at h2
        simp only [Bool.and_eq_true, decide_eq_true_eq] at h2
        intro e
        rw [e] at h2
        simp at h2
theorem path_inj {T : List NodeT} (h : namedT T = true) (hD : Dis T) {i j : Nat} (hi : i < T.length) (hj : j < T.length) (e : pathL T i = pathL T j) : i = j := by
  have hP := par_of_named h
  unfold pathL at e
  by_cases i0 : i = 0
  · by_cases j0 : j = 0
    · rw [i0, j0]
    · rw [if_pos i0, if_neg j0] at e
      exact (flat_one (names_noS h j j (Nat.le_refl _) hj) (names_full h j j (Nat.le_refl _) hj) e.symm).elim
  · by_cases j0 : j = 0
    · rw [if_neg i0, if_pos j0] at e
      exact (flat_one (names_noS h i i (Nat.le_refl _) hi) (names_full h i i (Nat.le_refl _) hi) e).elim
    · rw [if_neg i0, if_neg j0] at e
      obtain ⟨rest, e1, e2⟩ := flat_prefix _ _ [] (names_noS h i i (Nat.le_refl _) hi) (names_noS h j j (Nat.le_refl _) hj) (.inl rfl) (by rw [List.append_nil]; exact e)
      have : rest = [] := by
        cases rest with
        | nil => rfl
        | cons r rest => cases e2
      subst this
      rw [List.append_nil] at e1
      exact names_inj hP hD i i j (Nat.le_refl _) hi hj e1.symm
/-- A node that is removed, but for the first one: its path goes on behind that one's with a '/'. -/
theorem path_below {T : List NodeT} (h : namedT T = true) {k i : Nat} (hk : k < T.length) (hi : i < T.length) (k0 : k ≠ 0) (hik : i ≠ k) (hr : remB T k i = true) : ∃ u, pathL T i = pathL T k ++ 47 :: u := by
  have hP := par_of_named h
  have hu := (remB_und hP hk hi).1 hr
  have i0 : i ≠ 0 := by
    intro e; subst e
    have := und_le hP hk 0 0 (Nat.le_refl _) hi hu; omega
  obtain ⟨q, hq⟩ := hu
  have hqn : q ≠ [] := by
    intro e; subst e
    rw [List.append_nil] at hq
    exact hik (pc_inj hP hi hk hq.symm)
  unfold pathL
  rw [if_neg i0, if_neg k0]
  have e : namesL T i = namesL T k ++ q.map (fun c => c.1.data.toList) := by unfold namesL; rw [← hq, List.map_append]
  cases q with
  | nil => exact absurd rfl hqn
  | cons c q =>
    refine ⟨c.1.data.toList ++ flatN (q.map fun c => c.1.data.toList), ?_⟩
    rw [e]
    unfold flatN
    rw [List.flatMap_append]
    rfl
theorem path_apart {T : List NodeT} (h : namedT T = true) (hD : Dis T) {k i : Nat} (hk : k < T.length) (hi : i < T.length) (k0 : k ≠ 0) (hr : remB T k i = false) (u : List UInt8) : pathL T i ≠ pathL T k ++ 47 :: u := by
  have hP := par_of_named h
  intro e
  have hf : remB T k i = true := by
    refine (remB_und hP hk hi).2 (names_und hP hD hk i i (Nat.le_refl _) hi ?_)
    unfold pathL at e
    rw [if_neg k0] at e
    by_cases i0 : i = 0
    · rw [if_pos i0] at e
      have hne := names_pos hP (show 0 < k by omega) hk
      cases hn : namesL T k with
      | nil => exact absurd hn hne
      | cons n ns =>
        rw [hn] at e
        have : [47] = 47 :: ((n ++ flatN ns) ++ 47 :: u) := e
        injection this with _ h2
        have := List.append_eq_nil_iff.1 h2.symm
        cases this.2
    · rw [if_neg i0] at e
      obtain ⟨rest, e1, _⟩ := flat_prefix _ _ (47 :: u) (names_noS h k k (Nat.le_refl _) hk) (names_noS h i i (Nat.le_refl _) hi) (.inr ⟨u, rfl⟩) e.symm
      exact ⟨rest, e1.symm⟩
  rw [hf] at hr; cases hr
theorem path_other {T : List NodeT} (h : namedT T = true) (hD : Dis T) {k i : Nat} (hk : k < T.length) (hi : i < T.length) (hr : remB T k i = false) : pathL T i ≠ pathL T k := by
  intro e
  have := path_inj h hD hi hk e
  subst this
  rw [remB_step (par_of_named h) hk hk] at hr
  simp at hr
theorem sub_path {T : List NodeT} {O : List Nat} (hO : SubOk T O) (hP : Par T) (hr : parOf T 0 = -1) (j : Nat) (hj : j < O.length) : pathL (subT T O) j = pathL T O[j] := by
  have hn : namesL (subT T O) j = namesL T O[j] := by
    unfold namesL
    rw [hO.pc hP hr j j (Nat.le_refl _) hj, List.map_map]; rfl
  have hz : j = 0 ↔ O[j] = 0 := by
    constructor
    · rintro rfl; exact hO.first
    · intro e; have := asc_ge hO.asc j hj; omega
  unfold pathL
  rw [hn]
  by_cases e : j = 0
  · rw [if_pos e, if_pos (hz.1 e)]
  · rw [if_neg e, if_neg (fun x => e (hz.2 x))]
theorem eqS_path {T U : List NodeT} {i j : Nat} : eqS (pathS T i) (pathS U j) = true ↔ pathL T i = pathL U j := by
  rw [eqS_iff, ← pathS_list, ← pathS_list]
  constructor
  · intro e; rw [e]
  · intro e; exact ByteArray.ext (Array.toList_inj.1 e)
/-- Where a node's path is found behind Remove. -/
theorem find_kept {T : List NodeT} (hc : checkT T = 0) {k i : Nat} (hk : k < T.length) (k0 : k ≠ 0) (hi : i < T.length) (hr : remB T k i = false) :
    rFindT (subT T (keepO T k T.length)) (pathS T i) = (((keepO T k i).length : Int), true) ∧ ∃ hj : (keepO T k i).length < (keepO T k T.length).length, (keepO T k T.length)[(keepO T k i).length] = i := by
  have hp := check_parts hc
  have hP := par_of_named hp.2.1
  have hro := named_root hp.2.1 (show 0 < T.length by omega)
  have hD := dis_check hc
  have hO := keep_subok hP hk k0
  have hm := keepO_mem.2 ⟨hi, hr⟩
  have hidx := keepO_idx hr T.length hi
  have hj : (keepO T k i).length < (keepO T k T.length).length := by rw [← hidx]; exact List.idxOf_lt_length_iff.2 hm
  have hat : (keepO T k T.length)[(keepO T k i).length] = i := by
    have : (keepO T k T.length)[(keepO T k T.length).idxOf i]'(List.idxOf_lt_length_iff.2 hm) = i := by simp
    simpa [hidx] using this
  refine ⟨?_, hj, hat⟩
  unfold rFindT
  rw [if_neg (by rw [hO.valid hc]; simp)]
  refine foundT_yes (findT_yes (by rw [sub_len]; exact hj) (eqS_path.2 (by rw [sub_path hO hP hro _ hj, hat])) fun q hq => ?_)
  cases e : eqS (pathS (subT T (keepO T k T.length)) q) (pathS T i) with
  | false => rfl
  | true =>
    have e2 := eqS_path.1 e
    rw [sub_path hO hP hro q (by omega)] at e2
    have := path_inj hp.2.1 hD (hO.lt _ (List.getElem_mem (show q < (keepO T k T.length).length by omega))) hi e2
    have h2 := idx_at (asc_nodup hO.asc) q (by omega)
    rw [this, hidx] at h2
    omega
theorem find_gone {T : List NodeT} (hc : checkT T = 0) {k i : Nat} (hk : k < T.length) (k0 : k ≠ 0) (hi : i < T.length) (hr : remB T k i = true) :
    rFindT (subT T (keepO T k T.length)) (pathS T i) = (0, false) := by
  have hp := check_parts hc
  have hP := par_of_named hp.2.1
  have hro := named_root hp.2.1 (show 0 < T.length by omega)
  have hD := dis_check hc
  have hO := keep_subok hP hk k0
  unfold rFindT
  rw [if_neg (by rw [hO.valid hc]; simp)]
  refine foundT_no (findT_no fun q hq => ?_)
  rw [sub_len] at hq
  cases e : eqS (pathS (subT T (keepO T k T.length)) q) (pathS T i) with
  | false => rfl
  | true =>
    have e2 := eqS_path.1 e
    rw [sub_path hO hP hro q hq] at e2
    have hm := List.getElem_mem hq
    have := path_inj hp.2.1 hD (hO.lt _ hm) hi e2
    rw [this] at hm
    rw [(keepO_mem.1 hm).2] at hr; cases hr
theorem keep_node {T : List NodeT} (hc : checkT T = 0) {k i : Nat} (hk : k < T.length) (k0 : k ≠ 0) (hi : i < T.length) (hr : remB T k i = false) :
    ∃ hj : (keepO T k i).length < (subT T (keepO T k T.length)).length, (subT T (keepO T k T.length))[(keepO T k i).length].name = T[i].name ∧ (subT T (keepO T k T.length))[(keepO T k i).length].props = T[i].props := by
  obtain ⟨_, hj, hat⟩ := find_kept hc hk k0 hi hr
  refine ⟨by rw [sub_len]; exact hj, ?_⟩
  rw [sub_at _ hj, hat]
  exact ⟨nameOf_at hi, propsOf_at hi⟩
end Go.Proofs.YtjfkjnakmmkkiaaGreat

open Go
namespace Go.Proofs.YtjfkjnakmmkkiaaGreat

theorem bytes_list {a b : ByteArray} (h : a.data.toList = b.data.toList) : a = b := ByteArray.ext (Array.toList_inj.1 h)
theorem names_of_path {T U : List NodeT} (h : namedT T = true) (k : namedT U = true) {i j : Nat} (hi : i < T.length) (hj : j < U.length) (e : pathL T i = pathL U j) : namesL T i = namesL U j := by
  unfold pathL at e
  by_cases i0 : i = 0
  · by_cases j0 : j = 0
    · rw [i0, j0]; rfl
    · rw [if_pos i0, if_neg j0] at e
      exact (flat_one (names_noS k j j (Nat.le_refl _) hj) (names_full k j j (Nat.le_refl _) hj) e.symm).elim
  · by_cases j0 : j = 0
    · rw [if_neg i0, if_pos j0] at e
      exact (flat_one (names_noS h i i (Nat.le_refl _) hi) (names_full h i i (Nat.le_refl _) hi) e).elim
    · rw [if_neg i0, if_neg j0] at e
      obtain ⟨rest, e1, e2⟩ := flat_prefix _ _ [] (names_noS h i i (Nat.le_refl _) hi) (names_noS k j j (Nat.le_refl _) hj) (.inl rfl) (by rw [List.append_nil]; exact e)
      have : rest = [] := by
        cases rest with
        | nil => rfl
        | cons r rest => cases e2
      subst this
      rw [List.append_nil] at e1
      exact e1.symm
/-- The names of a path, as an order knows them. -/
def nk (T : List NodeT) (i : Nat) : List Comp := (pc T i).map fun c => (c.1, 0)
theorem nk_eq {T U : List NodeT} {i j : Nat} (h : namesL T i = namesL U j) : nk T i = nk U j := by
  unfold namesL at h
  unfold nk
  generalize pc T i = p at *
  generalize pc U j = q at *
  induction p generalizing q with
  | nil => cases q with
    | nil => rfl
    | cons _ _ => cases h
  | cons a p ih => cases q with
    | nil => cases h
    | cons b q =>
      simp only [List.map_cons, List.cons.injEq] at h ⊢
      exact ⟨by rw [bytes_list h.1], ih q h.2⟩
theorem nk_lt {T : List NodeT} (hc : checkT T = 0) {i j : Nat} (hij : i < j) (hj : j < T.length) : ltP (nk T i) (nk T j) := by
  have hp := check_parts hc
  have hP := par_of_named hp.2.1
  have hD := dis_check hc
  have hA := ((walked_iff hP (named_root hp.2.1 (by omega))).1 hp.2.2.1).2
  have hl := asc_all hA j i hij hj
  refine ltP_map (fun c => (c.1, 0)) _ _ (fun r x y p' q' e1 e2 hxy => ?_) hl
  obtain ⟨x0, x1, x2, x3⟩ := pc_part hP i i (Nat.le_refl _) (by omega) r x p' e1
  obtain ⟨y0, y1, y2, y3⟩ := pc_part hP j j (Nat.le_refl _) hj r y q' e2
  rcases hxy with h | ⟨h, h2⟩
  · exact .inl h
  · have hpx := parN_lt hP x0 x1
    have hpy := parN_lt hP y0 y1
    have hpp : parN T x.2 = parN T y.2 := pc_inj hP (by omega) (by omega) (x3.trans y3.symm)
    have := hD x.2 y.2 x0 x1 y0 y1 (by rw [← hpx.2, ← hpy.2, hpp]) (by rw [← x2, ← y2, h])
    omega
theorem mono_id (f : Nat → Nat) (n : Nat) (hb : ∀ i, i < n → f i < n) (hm : ∀ i j, i < j → j < n → f i < f j) : ∀ i, i < n → f i = i := by
  have h1 : ∀ i, i < n → i ≤ f i := by
    intro i
    induction i with
    | zero => intro _; omega
    | succ i ih => intro hi; have := ih (by omega); have := hm i (i + 1) (by omega) hi; omega
  have h2 : ∀ d i, i + d + 1 = n → f i ≤ i := by
    intro d
    induction d with
    | zero => intro i hi; have := hb i (by omega); omega
    | succ d ih => intro i hi; have := ih (i + 1) (by omega); have := hm i (i + 1) (by omega) (by omega); omega
  intro i hi
  have := h1 i hi
  have := h2 (n - 1 - i) i (by omega)
  omega
theorem node_ext {a b : NodeT} (h1 : a.parent = b.parent) (h2 : a.name = b.name) (h3 : a.props = b.props) : a = b := by
  cases a; cases b
  simp only at h1 h2 h3
  rw [h1, h2, h3]
theorem tree_ext {T U : List NodeT} (hT : checkT T = 0) (hU : checkT U = 0) (hl : T.length = U.length) (h : ∀ i, i < T.length → ∃ j, j < U.length ∧ namesL T i = namesL U j ∧ propsOf T i = propsOf U j) : T = U := by
  have hpT := check_parts hT
  have hpU := check_parts hU
  have hPT := par_of_named hpT.2.1
  have hPU := par_of_named hpU.2.1
  have hDT := dis_check hT
  have key : ∀ i : Fin T.length, ∃ j, j < U.length ∧ namesL T i.1 = namesL U j ∧ propsOf T i.1 = propsOf U j := fun i => h i.1 i.2
  obtain ⟨f, hf⟩ := Classical.skolem.1 key
  have hid : ∀ i, i < T.length → (if hi : i < T.length then f ⟨i, hi⟩ else 0) = i := by
    refine mono_id (fun i => if hi : i < T.length then f ⟨i, hi⟩ else 0) T.length (fun i hi => ?_) (fun i j hij hj => ?_)
    · simp only [dif_pos hi]; have := (hf ⟨i, hi⟩).1; omega
    · have hi : i < T.length := by omega
      simp only [dif_pos hi, dif_pos hj]
      obtain ⟨a1, a2, _⟩ := hf ⟨i, hi⟩
      obtain ⟨b1, b2, _⟩ := hf ⟨j, hj⟩
      have hlt := nk_lt hT hij hj
      rw [nk_eq a2, nk_eq b2] at hlt
      rcases Nat.lt_trichotomy (f ⟨i, hi⟩) (f ⟨j, hj⟩) with e | e | e
      · exact e
      · rw [e] at hlt; exact (ltP_irrefl _ hlt).elim
      · exact (ltP_asymm hlt (nk_lt hU e a1)).elim
  have hsame : ∀ i, i < T.length → namesL T i = namesL U i ∧ propsOf T i = propsOf U i := fun i hi => by
    have e := hid i hi
    rw [dif_pos hi] at e
    obtain ⟨_, a2, a3⟩ := hf ⟨i, hi⟩
    rw [e] at a2 a3
    exact ⟨a2, a3⟩
  apply List.ext_getElem hl
  intro i h1 h2
  have e3 : T[i].props = U[i].props := by have := (hsame i h1).2; rw [propsOf_at h1, propsOf_at h2] at this; exact this
  by_cases h0 : i = 0
  · subst h0
    have r1 := named_root hpT.2.1 h1
    have r2 := named_root hpU.2.1 h2
    rw [parOf_at h1] at r1
    rw [parOf_at h2] at r2
    have m1 := (named_at T 0 hpT.2.1 0 h1).1
    have m2 := (named_at U 0 hpU.2.1 0 h2).1
    unfold headB at m1 m2
    simp only [Nat.add_zero, if_true, Bool.and_eq_true] at m1 m2
    have e2 : T[0].name = U[0].name := by
      have a1 := m1.2
      have a2 := m2.2
      exact ((eqS_iff _ _).1 a1).trans ((eqS_iff _ _).1 a2).symm
    exact node_ext (r1.trans r2.symm) e2 e3
  · have hp1 := parN_lt hPT (by omega) h1
    have hp2 := parN_lt hPU (by omega) h2
    have hn := (hsame i h1).1
    rw [names_succ hPT (by omega) h1, names_succ hPU (by omega) h2] at hn
    obtain ⟨ha, hb⟩ := List.append_inj' hn rfl
    have hnm : nameOf T i = nameOf U i := bytes_list (List.cons.inj hb).1
    have hpu : parN T i = parN U i := by
      have hm := (hsame (parN T i) (by omega)).1
      exact names_inj hPU (dis_check hU) _ _ _ (Nat.le_refl _) (by omega) (by omega) (hm.symm.trans ha)
    rw [nameOf_at h1, nameOf_at h2] at hnm
    have e1 : T[i].parent = U[i].parent := by
      have a := hp1.2
      have b := hp2.2
      rw [parOf_at h1] at a
      rw [parOf_at h2] at b
      omega
    exact node_ext e1 hnm e3
end Go.Proofs.YtjfkjnakmmkkiaaGreat

open Go
namespace Go.Proofs.YtjfkjnakmmkkiaaGreat

theorem find_at {T : List NodeT} (hc : checkT T = 0) {i : Nat} (hi : i < T.length) : findT T (pathS T i) = i := by
  have hp := check_parts hc
  refine findT_yes hi (eqS_path.2 rfl) (fun q hq => ?_)
  cases e : eqS (pathS T q) (pathS T i) with
  | false => rfl
  | true => have := path_inj hp.2.1 (dis_check hc) (by omega) hi (eqS_path.1 e); omega
theorem begin_of {T : List NodeT} (hc : checkT T = 0) {i : Nat} (hi : i < T.length) : rBeginT T (pathS T i) = ((i : Int), 0) := by
  unfold rBeginT; rw [if_neg (by simp [hc]), find_at hc hi, if_pos (by omega)]
theorem rfind_of {T : List NodeT} (hc : checkT T = 0) {i : Nat} (hi : i < T.length) : rFindT T (pathS T i) = ((i : Int), true) := by
  unfold rFindT; rw [if_neg (by simp [hc])]; exact foundT_yes (find_at hc hi)
theorem path_of {T : List NodeT} (hc : checkT T = 0) {i : Nat} (hi : i < T.length) : pathQ T (i : Int) = pathS T i := by
  unfold pathQ; rw [if_neg (by rintro (h | h | h) <;> first | exact h hc | omega), Int.toNat_natCast]
theorem left_parts {T : List NodeT} (n : NodeT) {i : Nat} (hi : i < T.length) : parOf (T ++ [n]) i = parOf T i ∧ nameOf (T ++ [n]) i = nameOf T i ∧ propsOf (T ++ [n]) i = propsOf T i ∧ parN (T ++ [n]) i = parN T i := by
  have e : parOf (T ++ [n]) i = parOf T i := by unfold parOf; rw [List.getElem?_append_left hi]
  refine ⟨e, ?_, ?_, ?_⟩
  · unfold nameOf; rw [List.getElem?_append_left hi]
  · unfold propsOf; rw [List.getElem?_append_left hi]
  · unfold parN; rw [e]
theorem names_left {T : List NodeT} {n : NodeT} (h : Par T) (k : Par (T ++ [n])) : ∀ (m i : Nat), i ≤ m → i < T.length → namesL (T ++ [n]) i = namesL T i := by
  intro m
  induction m with
  | zero => intro i hi _; obtain rfl : i = 0 := by omega
            rfl
  | succ m ih =>
    intro i hi hil
    by_cases h0 : i = 0
    · subst h0; rfl
    · have hp := parN_lt h (by omega) hil
      obtain ⟨_, e2, _, e4⟩ := left_parts n hil
      rw [names_succ h (by omega) hil, names_succ k (by omega) (by simp; omega), e4, e2, ih _ (by omega) (by omega)]
theorem names_sorted {L : List NodeT} (h : Shape L) {i k : Nat} (hi : i < L.length) (hk : (ordT L)[i]? = some k) : namesL (sortedT L) i = namesL L k := by
  unfold namesL
  rw [pc_sorted h i i k (Nat.le_refl _) hi hk, List.map_map]; rfl
theorem names_sub {T : List NodeT} {O : List Nat} (hO : SubOk T O) (hP : Par T) (hr : parOf T 0 = -1) (j : Nat) (hj : j < O.length) : namesL (subT T O) j = namesL T O[j] := by
  unfold namesL
  rw [hO.pc hP hr j j (Nat.le_refl _) hj, List.map_map]; rfl
theorem but_one (c : Nat) : ∀ n, ((List.range n).filter fun i => !(i == c)).length = if c < n then n - 1 else n := by
  intro n
  induction n with
  | zero => rfl
  | succ n ih =>
    rw [List.range_succ, List.filter_append, List.length_append, ih]
    by_cases e : n = c
    · subst e; simp
    · have e2 : (n == c) = false := by rw [beq_eq_false_iff_ne]; exact e
      simp only [List.filter_cons, e2, Bool.not_false, if_true, List.filter_nil, List.length_singleton]
      split <;> split <;> omega
theorem add_parts {T : List NodeT} (hc : checkT T = 0) {k : Nat} (hk : k < T.length) {name : ByteArray} (he : (addT T (pathS T k) name).2 = 0) :
    nameT name.data.toList = true ∧ T.any (sameKid (k : Int) name) = false ∧ depF T T.length (k : Int) < 8 ∧ T.length < 120 ∧ (addT T (pathS T k) name).1 = sortedT (T ++ [⟨(k : Int), name, []⟩]) := by
  unfold addT at *
  rw [begin_of hc hk] at *
  simp only [ne_eq, not_true_eq_false, if_false] at *
  split at he
  · cases he
  · split at he
    · cases he
    · split at he
      · cases he
      · split at he
        · cases he
        · rename_i h1 h2 h3 h4
          rw [if_neg h1, if_neg h2, if_neg h3, if_neg h4]
          refine ⟨by simpa using h1, by simpa using h2, by omega, by omega, rfl⟩
theorem remove_add {T : List NodeT} (hc : checkT T = 0) {k : Nat} (hk : k < T.length) {name child : ByteArray} (he : (addT T (pathS T k) name).2 = 0) (hch : child.data.toList = flatN (namesL T k ++ [name.data.toList])) :
    removeT (addT T (pathS T k) name).1 child = (T, 0) := by
  obtain ⟨hn, ha, hd, hl, h1⟩ := add_parts hc hk he
  rw [h1]
  have hp := check_parts hc
  have hP := par_of_named hp.2.1
  have h0 : 0 < T.length := by omega
  have hsT : Shape T := ⟨h0, hP, named_root hp.2.1 h0⟩
  have hsL := shape_more hsT (n := ⟨(k : Int), name, []⟩) rfl hk
  have hDL := dis_more (dis_check hc) hk ha
  have hv := more_valid hc hk hn ha hd hl
  have hLl : (T ++ [(⟨(k : Int), name, []⟩ : NodeT)]).length = T.length + 1 := by simp
  have hPL := hsL.2.1
  have hparL : parOf (T ++ [(⟨(k : Int), name, []⟩ : NodeT)]) T.length = (k : Int) := by unfold parOf; simp
  have hnmL : nameOf (T ++ [(⟨(k : Int), name, []⟩ : NodeT)]) T.length = name := by unfold nameOf; simp
  have hleft : ∀ j, j < T.length → namesL (T ++ [(⟨(k : Int), name, []⟩ : NodeT)]) j = namesL T j ∧ propsOf (T ++ [(⟨(k : Int), name, []⟩ : NodeT)]) j = propsOf T j := fun j hj => ⟨names_left hP hPL j j (Nat.le_refl _) hj, (left_parts _ hj).2.2.1⟩
  have hnew : namesL (T ++ [(⟨(k : Int), name, []⟩ : NodeT)]) T.length = namesL T k ++ [name.data.toList] := by
    rw [names_succ hPL h0 (by rw [hLl]; omega), hnmL, kid_par hparL, (hleft k hk).1]
  generalize (T ++ [(⟨(k : Int), name, []⟩ : NodeT)]) = L at *
  obtain ⟨hO1, hO2⟩ := ordT_spec hPL hsL.1
  have hOn := ltI_nodup hO2
  have hOl := ordT_len hPL hsL.1
  have hsl := sorted_len hPL hsL.1
  have hps := check_parts hv
  have hPS := par_of_named hps.2.1
  obtain ⟨hcO, hcat⟩ := idx_get ((hO1 T.length).2 (by omega))
  obtain ⟨c, hcc⟩ : ∃ c, c = (ordT L).idxOf T.length := ⟨_, rfl⟩
  rw [← hcc] at hcO
  have hcS : c < (sortedT L).length := by omega
  have hcat' : (ordT L)[c]? = some T.length := by rw [List.getElem?_eq_getElem hcO]; simp only [hcc, hcat]
  have hc0 : c ≠ 0 := fun e => by
    rw [e, ord_head hsL.1] at hcat'
    have := Option.some.inj hcat'
    omega
  have hnS : namesL (sortedT L) c = namesL T k ++ [name.data.toList] := (names_sorted hsL (by omega) hcat').trans hnew
  have hchild : child = pathS (sortedT L) c := bytes_list (by rw [pathS_list, hch]; unfold pathL; rw [if_neg hc0, hnS])
  rw [hchild, remove_ok (begin_of hv hcS), if_neg hc0]
  have hroS := named_root hps.2.1 (show 0 < (sortedT L).length by omega)
  have hsub := keep_subok hPS hcS hc0
  -- nothing is below the new node
  have hleaf : ∀ i, i < (sortedT L).length → remB (sortedT L) c i = (i == c) := fun i hi => by
    have hio : i < (ordT L).length := by omega
    have hat : (ordT L)[i]? = some (ordT L)[i] := List.getElem?_eq_getElem hio
    by_cases e : i = c
    · subst e; rw [remB_self hPS hi]; simp
    · have e2 : (i == c) = false := by rw [beq_eq_false_iff_ne]; exact e
      rw [e2]
      cases hr : remB (sortedT L) c i with
      | false => rfl
      | true =>
        have hu := und_names ((remB_und hPS hcS hi).1 hr)
        rw [names_sorted hsL (by omega) hat, hnS, ← hnew] at hu
        have hjl : (ordT L)[i] < L.length := (hO1 _).1 (List.getElem_mem hio)
        have hu2 := names_und hPL hDL (by omega : T.length < L.length) _ _ (Nat.le_refl _) hjl hu
        have hle := und_le hPL (by omega : T.length < L.length) _ _ (Nat.le_refl _) hjl hu2
        have hj : (ordT L)[i] = T.length := by omega
        have := idx_at hOn i hio
        rw [hj, ← hcc] at this
        omega
  have hklen : (keepO (sortedT L) c (sortedT L).length).length = T.length := by
    unfold keepO
    rw [List.filter_congr (q := fun i => !(i == c)) (fun i hi => by rw [hleaf i (by simpa using hi)]), but_one, if_pos hcS]
    omega
  congr 1
  refine tree_ext (keep_valid hv hcS hc0) hc (by rw [sub_len, hklen]) (fun i hi => ?_)
  rw [sub_len] at hi
  have hil := hsub.lt _ (List.getElem_mem hi)
  have hio : (keepO (sortedT L) c (sortedT L).length)[i] < (ordT L).length := by omega
  have hat : (ordT L)[(keepO (sortedT L) c (sortedT L).length)[i]]? = some (ordT L)[(keepO (sortedT L) c (sortedT L).length)[i]] := List.getElem?_eq_getElem hio
  have hkm := (keepO_mem.1 (List.getElem_mem hi)).2
  rw [hleaf _ hil] at hkm
  have hjl : (ordT L)[(keepO (sortedT L) c (sortedT L).length)[i]] < L.length := (hO1 _).1 (List.getElem_mem hio)
  have hjT : (ordT L)[(keepO (sortedT L) c (sortedT L).length)[i]] < T.length := by
    by_cases e : (ordT L)[(keepO (sortedT L) c (sortedT L).length)[i]] = T.length
    · have := idx_at hOn _ hio
      rw [e, ← hcc] at this
      rw [beq_eq_false_iff_ne] at hkm
      omega
    · omega
  obtain ⟨k2, s1, _, _, _, s5, _⟩ := sorted_facts hsL (show (keepO (sortedT L) c (sortedT L).length)[i] < L.length by omega)
  rw [hat] at s1
  cases s1
  refine ⟨_, hjT, ?_, ?_⟩
  · rw [names_sub hsub hPS hroS i hi, names_sorted hsL (by omega) hat, (hleft _ hjT).1]
  · rw [(hsub.facts hPS hroS i hi).2.1, s5, (hleft _ hjT).2]
end Go.Proofs.YtjfkjnakmmkkiaaGreat
