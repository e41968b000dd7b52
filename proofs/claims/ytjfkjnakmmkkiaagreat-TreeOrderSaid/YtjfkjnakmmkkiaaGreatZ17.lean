/- Bent: what holds while a tree is bent, and what each change makes of it. | Bent: its drawn region 19 (printed by gbent.py) | Bent: its drawn region 21 (printed by gbent.py) | Bent: its drawn region 23 (printed by gbent.py) | Bent: its drawn region 28 (printed by gbent.py) | Bent: its drawn region 31 (printed by gbent.py) | Contracts of bringupgrow: Bent. | The drawn region of TreeEdits that lists the trees (printed by gbl.py). -/
import Derived.Test.YtjfkjnakmmkkiaaGreatZ13
import Derived.Test.YtjfkjnakmmkkiaaGreatZ7
import Derived.Test.YtjfkjnakmmkkiaaGreatZ16
import Derived.Test.YtjfkjnakmmkkiaaGreatZ8
import Derived.Deep.RegionLaw
import Derived.Deep.RegionWith
import Derived.Deep.AppendLies
import Derived.Test.YtjfkjnakmmkkiaaGreatZ12
import Derived.StillTailTactics
import Derived.Test.YtjfkjnakmmkkiaaGreatZ6
import Derived.Deep.DeepCutAuto
import Derived.Deep.CutBlock
import Derived.Deep.LoopGhost
import Derived.Test.YtjfkjnakmmkkiaaGreatZ2

namespace Go.Proofs.YtjfkjnakmmkkiaaGreat
open Go.RowKit

/-- A copied tree in the variable Z, its rows apart; the result variable; the tape. -/
def BentS (B b Z Rb : Nat) (v : Value) (T : List NodeT) (W w : World) : Prop :=
  Tape B w b ∧ Holds w Z #[v] 25 ∧ Holds w Rb #[.slice none 0 0] 25 ∧ TreeS w W.heap.size v T ∧ Keeps (fun i => i = b) W w ∧ b < W.heap.size ∧ W.heap.size ≤ Z ∧ Rb ≠ Z
/-- What Bent leaves in its variable. -/
def BentE (B b Z Rb N M : Nat) (W w : World) : Prop :=
  ∃ a c T', Holds w Z #[.slice a T'.length c] 25 ∧ Holds w Rb #[.slice none 0 0] 25 ∧ TreeRow w W.heap.size (.slice a T'.length c) T' ∧ T'.length ≤ N ∧ (∀ n ∈ T', n.props.length ≤ M) ∧ Tape B w b ∧ Keeps (fun i => i = b) W w
section
variable {B b Z Rb N M : Nat} {v : Value} {T : List NodeT} {W w w' : World}
theorem BentS.new (h : BentS B b Z Rb v T W w) (k : Below w.heap.size w w') : BentS B b Z Rb v T W w' := by
  obtain ⟨h1, h2, h3, h4, h5, h6⟩ := h
  have kk := Keeps.of_fresh k (fun _ => False)
  exact ⟨h1.new k, h2.keeps kk (fun e => e), h3.keeps kk (fun e => e), h4.new k, h5.trans (Keeps.of_fresh k _) (fun _ _ e => e), h6⟩
theorem BentS.call (h : BentS B b Z Rb v T W w) (hT : Tape B w' b) (k : Keeps (fun i => i = b) w w') : BentS B b Z Rb v T W w' := by
  obtain ⟨h1, h2, h3, h4, h5, h6⟩ := h
  obtain ⟨cs, hb⟩ := h1.holds
  refine ⟨hT, h2.keeps k (fun e => holds_ne h2 hb (by decide) e), h3.keeps k (fun e => holds_ne h3 hb (by decide) e), h4.keeps k (fun g e => .inr ⟨cs, 87, by subst e; exact hb, by decide, by decide⟩), h5.trans k (fun _ _ e => e), h6⟩
theorem BentS.drew (h : BentS B b Z Rb v T W w) : BentS B b Z Rb v T W w.drew := h.call (h.1.keeps ((Keeps.refl (fun _ => False) w).drew) (fun _ e => e.elim)) ((Keeps.refl _ w).drew)
theorem BentS.ends (h : BentS B b Z Rb v T W w) (hN : T.length ≤ N) (hM : ∀ n ∈ T, n.props.length ≤ M) : BentE B b Z Rb N M W w := by
  obtain ⟨h1, h2, h3, h4, h5, _⟩ := h
  obtain ⟨a, c, rfl⟩ := h4.row.slice
  exact ⟨a, c, T, h2, h3, h4.row, hN, hM, h1, h5⟩
end
theorem holds_row {w : World} {base b g n cap s : Nat} {e t : TypeId} {xs : List Value} {cs : Array Value} (hH : Holds w b cs t) (h : w.ownsRow base e s (.slice (some ⟨g, 0, none⟩) n cap) n xs) (hne : t ≠ e) : b ≠ g := fun x => owns_ne_holds h hH hne (by rw [x]; rfl)
/-- Any change of one cell of the nodes' row and of nothing else old. -/
theorem BentS.cell {B b Z Rb N M g cap k : Nat} {T T' : List NodeT} {W w : World} (h : BentS B b Z Rb (.slice (some ⟨g, 0, none⟩) T.length cap) T W w) (x : Value) (hl : T'.length = T.length) (hN : T.length ≤ N) (hM : ∀ n ∈ T', n.props.length ≤ M)
    (hr : TreeRow (w.setCell ⟨g, k, none⟩ x) W.heap.size (.slice (some ⟨g, 0, none⟩) T.length cap) T') : BentE B b Z Rb N M W (w.setCell ⟨g, k, none⟩ x) := by
  obtain ⟨h1, h2, h3, h4, h5, h6, h7, h8⟩ := h
  obtain ⟨_, pvs, q1, q2, q3, q4, q5⟩ := h4
  have hgW : W.heap.size ≤ g := (q2.lt g rfl).1
  have hBb := h1.1
  refine ⟨some ⟨g, 0, none⟩, cap, T', by rw [hl]; exact h2.other _ _ (holds_row h2 q2 (by decide)), h3.other _ _ (holds_row h3 q2 (by decide)), by rw [hl]; exact hr, by omega, hM, ?_, h5.setCell (p := ⟨g, k, none⟩) (.inl hgW) _⟩
  exact h1.keeps ((Keeps.refl (fun i => i = g) w).setCell (p := ⟨g, k, none⟩) (.inr rfl) x) (fun i e => by subst e; omega)
theorem nodeCells_set0 : ∀ (T : List NodeT) (pvs : List Value) (k : Nat) (hk : k < T.length) (x : Int), pvs.length = T.length →
    nodeCells (T.set k ⟨x, T[k].name, T[k].props⟩) pvs = (nodeCells T pvs).set (k * 3) (.int .i64 x)
  | n :: T, p :: pvs, 0, _, _, _ => rfl
  | n :: T, p :: pvs, k + 1, hk, x, h => by
    have := nodeCells_set0 T pvs k (by simpa using hk) x (by simpa using h)
    rw [show (k + 1) * 3 = k * 3 + 1 + 1 + 1 from by omega]
    simp only [List.set_cons_succ, nodeCells, List.getElem_cons_succ]
    rw [this]
theorem nodeCells_set1 : ∀ (T : List NodeT) (pvs : List Value) (k : Nat) (hk : k < T.length) (x : ByteArray), pvs.length = T.length →
    nodeCells (T.set k ⟨T[k].parent, x, T[k].props⟩) pvs = (nodeCells T pvs).set (k * 3 + 1) (.string x)
  | n :: T, p :: pvs, 0, _, _, _ => rfl
  | n :: T, p :: pvs, k + 1, hk, x, h => by
    have := nodeCells_set1 T pvs k (by simpa using hk) x (by simpa using h)
    rw [show (k + 1) * 3 + 1 = k * 3 + 1 + 1 + 1 + 1 from by omega]
    simp only [List.set_cons_succ, nodeCells, List.getElem_cons_succ]
    rw [this]
theorem nodeCells_take : ∀ (T : List NodeT) (pvs : List Value) (k : Nat), pvs.length = T.length → nodeCells (T.take k) (pvs.take k) = (nodeCells T pvs).take (k * 3)
  | [], [], k, _ => by simp [nodeCells]
  | n :: T, p :: pvs, 0, _ => by simp [nodeCells]
  | n :: T, p :: pvs, k + 1, h => by
    have := nodeCells_take T pvs k (by simpa using h)
    rw [show (k + 1) * 3 = k * 3 + 1 + 1 + 1 from by omega]
    simp only [List.take_succ_cons, nodeCells]
    rw [this]
/-- A node's number or name replaced. -/
theorem TreeRow.put01 {w : World} {base g n cap : Nat} {T : List NodeT} (h : TreeRow w base (.slice (some ⟨g, 0, none⟩) n cap) T) (k : Nat) (hk : k < T.length) (nd : NodeT) (hok : NodeOk nd) (hp : nd.props = T[k].props) (o : Nat) (x : Value)
    (hc : ∀ pvs : List Value, pvs.length = T.length → nodeCells (T.set k nd) pvs = (nodeCells T pvs).set o x) : TreeRow (w.setCell ⟨g, o, none⟩ x) base (.slice (some ⟨g, 0, none⟩) n cap) (T.set k nd) := by
  obtain ⟨pvs, h1, h2, h3, h4⟩ := h
  have hn : n = T.length := by
    rcases h2.2 with ⟨e, _⟩ | ⟨_, _, _, e, _⟩
    · cases e
    · cases e; rfl
  subst hn
  obtain ⟨s1, s2⟩ := h2.stored o x
  refine ⟨pvs, by simpa using h1, ?_, ?_, ?_⟩
  · rw [hc pvs h1, List.length_set]; exact s1
  · intro j hj hj2
    by_cases e : j = k
    · subst e
      simp only [List.getElem_set_self]
      rw [hp]
      exact (h3 j hk hj2).apart h2 s2 (by decide)
    · rw [List.getElem_set_ne (fun x => e x.symm)]
      exact (h3 j (by simpa using hj) hj2).apart h2 s2 (by decide)
  · intro m hm
    rcases List.mem_or_eq_of_mem_set hm with hm | rfl
    · exact h4 m hm
    · exact hok
theorem set_props {T : List NodeT} {M k : Nat} {nd : NodeT} (h : ∀ n ∈ T, n.props.length ≤ M) (h2 : nd.props.length ≤ M) : ∀ n ∈ T.set k nd, n.props.length ≤ M := fun n hn => by
  rcases List.mem_or_eq_of_mem_set hn with hm | rfl
  · exact h n hm
  · exact h2
theorem BentS.parent {B b Z Rb N M g cap k : Nat} {T : List NodeT} {W w : World} (h : BentS B b Z Rb (.slice (some ⟨g, 0, none⟩) T.length cap) T W w) (hk : k < T.length) (hN : T.length ≤ N) (hM : ∀ n ∈ T, n.props.length ≤ M) (x : Int) (hx : -9223372036854775808 ≤ x ∧ x ≤ 9223372036854775807) :
    BentE B b Z Rb N M W (w.setCell ⟨g, k * 3, none⟩ (.int .i64 x)) := by
  have hr := h.2.2.2.1.row
  obtain ⟨_, _, _, _, h4⟩ := id hr
  have hok := h4 T[k] (List.getElem_mem hk)
  exact h.cell _ (T' := T.set k ⟨x, T[k].name, T[k].props⟩) (by simp) hN (set_props hM (hM T[k] (List.getElem_mem hk))) (hr.put01 k hk ⟨x, T[k].name, T[k].props⟩ ⟨hok.1, hx.1, hx.2⟩ rfl _ _ (fun pvs hl => nodeCells_set0 T pvs k hk x hl))
theorem BentS.name {B b Z Rb N M g cap k : Nat} {T : List NodeT} {W w : World} (h : BentS B b Z Rb (.slice (some ⟨g, 0, none⟩) T.length cap) T W w) (hk : k < T.length) (hN : T.length ≤ N) (hM : ∀ n ∈ T, n.props.length ≤ M) (x : ByteArray) (hx : x.size ≤ 9223372036854775807) :
    BentE B b Z Rb N M W (w.setCell ⟨g, k * 3 + 1, none⟩ (.string x)) := by
  have hr := h.2.2.2.1.row
  obtain ⟨_, _, _, _, h4⟩ := id hr
  have hok := h4 T[k] (List.getElem_mem hk)
  exact h.cell _ (T' := T.set k ⟨T[k].parent, x, T[k].props⟩) (by simp) hN (set_props hM (hM T[k] (List.getElem_mem hk))) (hr.put01 k hk ⟨T[k].parent, x, T[k].props⟩ ⟨hx, hok.2.1, hok.2.2⟩ rfl _ _ (fun pvs hl => nodeCells_set1 T pvs k hk x hl))
/-- A property more at a node: what the walk needs ahead of the append, and what holds behind the store. -/
theorem BentS.prop {B b Z Rb N M g cap k : Nat} {T : List NodeT} {W w : World} (h : BentS B b Z Rb (.slice (some ⟨g, 0, none⟩) T.length cap) T W w) (hk : k < T.length) (hN : T.length ≤ N) (hM : ∀ n ∈ T, n.props.length + 1 ≤ M) :
    ∃ pa pc, w.cell? ⟨g, k * 3 + 2, none⟩ = some (.slice pa T[k].props.length pc) ∧ w.frozen? ⟨g, k * 3 + 2, none⟩ = false ∧ g < w.heap.size ∧ PropRow w W.heap.size (.slice pa T[k].props.length pc) T[k].props ∧
      ∀ (w' : World) (rv : Value) (qs : List PropT), PropRow w' W.heap.size rv qs → qs.length ≤ M → Keeps (fun b => (Value.slice pa T[k].props.length pc).ownBlock = some b) w w' →
        w'.cell? ⟨g, k * 3 + 2, none⟩ = some (.slice pa T[k].props.length pc) ∧ w'.frozen? ⟨g, k * 3 + 2, none⟩ = false ∧ g < w'.heap.size ∧ BentE B b Z Rb N M W (w'.setCell ⟨g, k * 3 + 2, none⟩ rv) := by
  obtain ⟨h1, h2, h3, h4, h5, h6, h7, h8⟩ := h
  obtain ⟨pv, p0, hpr, hpg, hgl, hcell, hput⟩ := h4.put k hk
  obtain ⟨pa, pc, rfl⟩ := row_slice hpr.1
  have hfree := (hcell w (Keeps.refl _ w)).2
  refine ⟨pa, pc, p0, hfree, hgl, hpr, fun w' rv qs hq hql kk => ?_⟩
  obtain ⟨k1, k2⟩ := hcell w' kk
  have hgW : W.heap.size ≤ g := by
    obtain ⟨_, pvs, q1, q2, q3, q4, q5⟩ := h4
    exact (q2.lt g rfl).1
  have hgn : ∃ cs, Holds w g cs 76 := by
    obtain ⟨_, pvs, q1, q2, q3, q4, q5⟩ := h4
    exact (row_own_holds q2 rfl).2
  obtain ⟨cn, hcn⟩ := hgn
  have hZg := holds_ne h2 hcn (by decide)
  have hRg := holds_ne h3 hcn (by decide)
  have hown : ∀ i, (Value.slice pa T[k].props.length pc).ownBlock = some i → W.heap.size ≤ i ∧ ∃ cur, Holds w i cur 83 := fun i e => owned_holds hpr.1 e
  have hZp : (Value.slice pa T[k].props.length pc).ownBlock ≠ some Z := fun e => owns_ne_holds hpr.1 h2 (by decide) e
  have hRp : (Value.slice pa T[k].props.length pc).ownBlock ≠ some Rb := fun e => owns_ne_holds hpr.1 h3 (by decide) e
  have hBb := h1.1
  have ht := hput w' rv qs hq kk
  refine ⟨k1, k2, Nat.lt_of_lt_of_le hgl kk.size, some ⟨g, 0, none⟩, cap, T.set k ⟨T[k].parent, T[k].name, qs⟩, ?_, ?_, ?_, by simpa using hN, ?_, ?_, ?_⟩
  · rw [List.length_set]; exact (h2.keeps kk hZp).other _ _ hZg
  · exact (h3.keeps kk hRp).other _ _ hRg
  · rw [List.length_set]; exact ht
  · exact set_props (fun n hn => by have := hM n hn; omega) hql
  · have t1 := h1.keeps kk (fun i e => by have := (hown i e).1; omega)
    exact t1.keeps ((Keeps.refl (fun i => i = g) w').setCell (p := ⟨g, k * 3 + 2, none⟩) (.inr rfl) rv) (fun i e => by subst e; omega)
  · exact (h5.trans kk (fun i hi e => by have := (hown i e).1; omega)).setCell (p := ⟨g, k * 3 + 2, none⟩) (.inl hgW) rv
theorem rows_same {w : World} {base base' : Nat} {e e' : TypeId} {size : Nat} {v : Value} {n : Nat} {xs ys : List Value} (h : w.ownsRow base e size v n xs) (k : w.ownsRow base' e' size v n ys) : xs = ys := by
  rcases h.2 with ⟨rfl, h0⟩ | ⟨g, cap, cur, rfl, _, hh, _, _, _, ht⟩
  · have e1 := h.1
    have e2 := k.1
    rw [h0] at e1 e2
    simp only [Nat.zero_mul] at e1 e2
    rw [List.length_eq_zero_iff.1 e1, List.length_eq_zero_iff.1 e2]
  · rcases k.2 with ⟨hc, _⟩ | ⟨g', cap', cur', hc, _, hh', _, _, _, ht'⟩
    · cases hc
    · cases hc
      rw [hh] at hh'
      cases hh'
      rw [← ht, ← ht']
/-- A node more: behind the append and the store into the variable. -/
theorem BentS.node {B b Z Rb N M g cap : Nat} {T : List NodeT} {W w w3 w' : World} {cs : Array Value} {v' pv : Value} {nd : NodeT} (h : BentS B b Z Rb (.slice (some ⟨g, 0, none⟩) T.length cap) T W w) (h3w : w3 = w.alloc (.cells cs 76)) (hN : T.length + 1 ≤ N) (hM : ∀ n ∈ T, n.props.length ≤ M) (hMd : nd.props.length ≤ M)
    (hp : PropRow w W.heap.size pv nd.props) (hn : NodeOk nd)
    {xs : List Value} (hxs : w.ownsRow W.heap.size 76 3 (.slice (some ⟨g, 0, none⟩) T.length cap) T.length xs) (hown : w'.ownsRow W.heap.size 76 3 v' (T.length + 1) (xs ++ [.int .i64 nd.parent, .string nd.name, pv])) (hg : w3.grownBy w' (some g)) :
    Z < w'.heap.size ∧ w'.frozen? ⟨Z, 0, none⟩ = false ∧ w'.cell? ⟨Z, 0, none⟩ = some (.slice (some ⟨g, 0, none⟩) T.length cap) ∧ BentE B b Z Rb N M W (w'.setCell ⟨Z, 0, none⟩ v') := by
  obtain ⟨h1, h2, h3, h4, h5, h6, h7, h8⟩ := h
  obtain ⟨_, pvs, q1, q2, q3, q4, q5⟩ := h4
  have hb : Below w.heap.size w w3 := by rw [h3w]; exact (Below.refl _ _).alloc (Nat.le_refl _) _
  have kb := Keeps.of_fresh hb (fun _ => False)
  have q2' := row_new q2 hb
  have hg' : w3.grownBy w' (Value.slice (some ⟨g, 0, none⟩) T.length cap).ownBlock := hg
  have g2 := (h2.keeps kb (fun e => e)).grown hg' (owns_ne_holds q2 h2 (by decide))
  have g3 := (h3.keeps kb (fun e => e)).grown hg' (owns_ne_holds q2 h3 (by decide))
  have hgW : W.heap.size ≤ g := (q2.lt g rfl).1
  have hR : TreeRow w' W.heap.size v' (T ++ [nd]) := TreeRow.more q1 q2' (fun j a c => (q3 j a c).new hb) q4 (hp.new hb) hn (by rw [rows_same q2 hxs]; exact hown) hg'
  obtain ⟨a, c, rfl⟩ := hR.slice
  have hR' := hR.set g2 (by decide) (by decide) 0 (.slice a (T ++ [nd]).length c)
  have hBb := h1.1
  have hK : Keeps (fun i => i = b) W w' := by
    have k0 := h5.trans (Keeps.of_fresh hb (fun i => i = b)) (fun _ _ e => e)
    exact k0.trans (Keeps.of_grown hg' (S := fun i => i = g) (fun i e => (Option.some.inj e).symm)) (fun i hi e => by omega)
  have hT' : Tape B w' b := (h1.new hb).keeps (Keeps.of_grown hg' (S := fun i => i = g) (fun i e => (Option.some.inj e).symm)) (fun i e => by subst e; omega)
  refine ⟨g2.lt, g2.free 0, g2.cell 0, a, c, T ++ [nd], g2.set 0 _, ?_, hR', by simpa using hN, ?_, ?_, ?_⟩
  · exact g3.other _ _ h8
  · intro n hn
    rcases List.mem_append.1 hn with hn | hn
    · exact hM n hn
    · simp at hn; subst hn; exact hMd
  · exact hT'.keeps ((Keeps.refl (fun i => i = Z) w').setCell (p := ⟨Z, 0, none⟩) (.inr rfl) _) (fun i e => by subst e; omega)
  · exact hK.setCell (p := ⟨Z, 0, none⟩) (.inl h7) _
/-- The nodes ahead of one. -/
theorem BentS.cut {B b Z Rb N M g cap k : Nat} {T : List NodeT} {W w : World} (h : BentS B b Z Rb (.slice (some ⟨g, 0, none⟩) T.length cap) T W w) (hk : k ≤ T.length) (hN : T.length ≤ N) (hM : ∀ n ∈ T, n.props.length ≤ M) :
    BentE B b Z Rb N M W (w.setCell ⟨Z, 0, none⟩ (.slice (some ⟨g, 0, none⟩) k cap)) := by
  obtain ⟨h1, h2, h3, h4, h5, h6, h7, h8⟩ := h
  obtain ⟨_, pvs, q1, q2, q3, q4, q5⟩ := h4
  have hBb := h1.1
  have hl := nodeCells_len T pvs q1
  have hct : nodeCells (T.take k) (pvs.take k) = (nodeCells T pvs).take (k * 3) := nodeCells_take T pvs k q1
  have htk : (T.take k).length = k := by simp; omega
  have hR : TreeRow w W.heap.size (.slice (some ⟨g, 0, none⟩) k cap) (T.take k) := by
    refine ⟨pvs.take k, by simp; omega, ?_, fun j a c => ?_, fun n hn => q4 n (List.mem_of_mem_take hn)⟩
    · rw [hct, htk]
      rcases q2.2 with ⟨e, _⟩ | ⟨g', cap', cur, e, hb, hh, hc, hm, hs, ht⟩
      · cases e
      · cases e
        refine ⟨by rw [List.length_take, hl]; omega, .inr ⟨g, cap, cur, rfl, hb, hh, by omega, hm, hs, ?_⟩⟩
        rw [← ht, List.take_take]; congr 1; omega
    · simp only [List.getElem_take]; exact q3 j (by simp at a; omega) (by simp at c; omega)
  refine ⟨some ⟨g, 0, none⟩, cap, T.take k, by rw [htk]; exact h2.set 0 _, h3.other _ _ h8, by rw [htk]; exact hR.set h2 (by decide) (by decide) 0 _, by omega, fun n hn => hM n (List.mem_of_mem_take hn), ?_, h5.setCell (p := ⟨Z, 0, none⟩) (.inl h7) _⟩
  exact h1.keeps ((Keeps.refl (fun i => i = Z) w).setCell (p := ⟨Z, 0, none⟩) (.inr rfl) _) (fun i e => by subst e; omega)
theorem nodeCells_same : ∀ (T : List NodeT) (pvs : List Value) (k : Nat) (hk : k < T.length) (qs : List PropT), pvs.length = T.length → nodeCells (T.set k ⟨T[k].parent, T[k].name, qs⟩) pvs = nodeCells T pvs
  | n :: T, p :: pvs, 0, _, _, _ => rfl
  | n :: T, p :: pvs, k + 1, hk, qs, h => by
    have := nodeCells_same T pvs k (by simpa using hk) qs (by simpa using h)
    simp only [List.set_cons_succ, nodeCells, List.getElem_cons_succ]
    rw [this]
/-- A node's row of properties changed in place. -/
theorem BentS.row {B b Z Rb N M g cap k : Nat} {T : List NodeT} {W w : World} (h : BentS B b Z Rb (.slice (some ⟨g, 0, none⟩) T.length cap) T W w) (hk : k < T.length) (hN : T.length ≤ N) (hM : ∀ n ∈ T, n.props.length ≤ M) :
    ∃ pa pc, w.cell? ⟨g, k * 3 + 2, none⟩ = some (.slice pa T[k].props.length pc) ∧ g < w.heap.size ∧ PropRow w W.heap.size (.slice pa T[k].props.length pc) T[k].props ∧
      ∀ (w' : World) (qs : List PropT), PropRow w' W.heap.size (.slice pa T[k].props.length pc) qs → qs.length ≤ M → Keeps (fun b => (Value.slice pa T[k].props.length pc).ownBlock = some b) w w' → BentE B b Z Rb N M W w' := by
  obtain ⟨h1, h2, h3, h4, h5, h6, h7, h8⟩ := h
  obtain ⟨pv, p0, hpr, hpg, hgl, hcell, hput⟩ := h4.put k hk
  obtain ⟨pa, pc, rfl⟩ := row_slice hpr.1
  refine ⟨pa, pc, p0, hgl, hpr, fun w' qs hq hql kk => ?_⟩
  obtain ⟨_, pvs, q1, q2, q3, q4, q5⟩ := h4
  have hown : ∀ i, (Value.slice pa T[k].props.length pc).ownBlock = some i → W.heap.size ≤ i ∧ ∃ cur, Holds w i cur 83 := fun i e => owned_holds hpr.1 e
  have hBb := h1.1
  have e2 : pvs[k]'(by omega) = .slice pa T[k].props.length pc := by
    obtain ⟨_, _, a2⟩ := nodeCells_at T pvs k hk (by omega) q1
    have := (q2.cellAt (k * 3 + 2) (by omega)).trans a2
    rw [p0] at this
    exact (Option.some.inj this).symm
  refine ⟨some ⟨g, 0, none⟩, cap, T.set k ⟨T[k].parent, T[k].name, qs⟩, ?_, h3.keeps kk (fun e => owns_ne_holds hpr.1 h3 (by decide) e), ?_, by simpa using hN, set_props hM hql, ?_, ?_⟩
  · rw [List.length_set]; exact h2.keeps kk (fun e => owns_ne_holds hpr.1 h2 (by decide) e)
  · rw [List.length_set]
    refine ⟨pvs, by simpa using q1, ?_, fun j a c => ?_, fun m hm => ?_⟩
    · rw [nodeCells_same T pvs k hk qs q1, List.length_set]
      exact ownsRow_keeps q2 kk (fun i e x => hpg (x.trans e.symm))
    · by_cases e : j = k
      · subst e
        simp only [List.getElem_set_self]
        rw [e2]; exact hq
      · rw [List.getElem_set_ne (fun x => e x.symm)]
        have ha : j < T.length := by simpa using a
        exact ⟨ownsRow_keeps (q3 j ha c).1 kk (fun i hi x => by
          rw [← e2] at x
          exact q5.1 j k c (by omega) e i hi x), (q3 j ha c).2⟩
    · rcases List.mem_or_eq_of_mem_set hm with hm | rfl
      · exact q4 m hm
      · exact q4 T[k] (List.getElem_mem hk)
  · exact h1.keeps kk (fun i e => by have := (hown i e).1; omega)
  · exact h5.trans kk (fun i hi e => by have := (hown i e).1; omega)
/-- The region with a number. -/
def regCd : Code → Nat → Option Code
  | .region i ops d, n => if i = n then some (.region i ops d) else none
  | .seq a b, n => match regCd a n with
    | some x => some x
    | none => regCd b n
  | .cond _ a b, n => match regCd a n with
    | some x => some x
    | none => regCd b n
  | .block _ b, n => regCd b n
  | .loop b, n => regCd b n
  | .scope b, n => regCd b n
  | .rangeFunc _ _ a b, n => match regCd a n with
    | some x => some x
    | none => regCd b n
  | _, _ => none
/-- A statement that only ends normally. -/
theorem wp_only {P : Program} {c : Code} {Q : Exit → Act → World → Prop} {a : Act} {w : World} (h : c.wp P (Exit.then (Q .normal) (fun _ _ _ => False)) a w) : c.wp P Q a w := by
  refine wp_mono h (fun e a w hq => ?_)
  cases e with
  | normal => exact hq
  | _ => exact hq.elim
noncomputable def bentR (n : Nat) : Code := (regCd (Tryz.f18.body.getD .skip) n).getD .skip
end Go.Proofs.YtjfkjnakmmkkiaaGreat

namespace Go.Proofs.YtjfkjnakmmkkiaaGreat
open Go.RowKit

theorem prop_small {s : ByteArray} (h : s ∈ lProperty) : PropOk ⟨s, ⟨#[]⟩⟩ := by
  have : ∀ x ∈ lProperty, x.size ≤ 9223372036854775807 := by decide
  exact ⟨this s h, by show (0 : Nat) ≤ _; omega⟩
/-- What an append of one property asks, and what holds behind the store of its result. -/
theorem bent_row {B b Z Rb N M g cap k : Nat} {T : List NodeT} {W w : World} {pa : Option Addr} {pc : Nat} (h : BentS B b Z Rb (.slice (some ⟨g, 0, none⟩) T.length cap) T W w) (hk : k < T.length) (hN : T.length ≤ N) (hM : ∀ n ∈ T, n.props.length + 1 ≤ M)
    (hc : w.cell? ⟨g, k * 3 + 2, none⟩ = some (.slice pa T[k].props.length pc)) (s v : ByteArray) (hp : PropOk ⟨s, v⟩) :
    Hid ((w.alloc (.cells #[.string s, .string v] 83)).ownsRow W.heap.size 83 2 (.slice pa T[k].props.length pc) T[k].props.length (propCells T[k].props) ∧
      ∀ (v8 : Value) (w8 : World), w8.ownsRow W.heap.size 83 2 v8 (T[k].props.length + 1) (propCells T[k].props ++ [.string s, .string v]) → (w.alloc (.cells #[.string s, .string v] 83)).grownBy w8 (Value.slice pa T[k].props.length pc).ownBlock →
        w8.cell? ⟨g, k * 3 + 2, none⟩ = some (.slice pa T[k].props.length pc) ∧ w8.frozen? ⟨g, k * 3 + 2, none⟩ = false ∧ g < w8.heap.size ∧ BentE B b Z Rb N M W (w8.setCell ⟨g, k * 3 + 2, none⟩ v8)) := by
  obtain ⟨pa', pc', c0, c1, hgl, hpr, hnext⟩ := h.prop hk hN hM
  rw [hc] at c0
  cases c0
  have hb : Below w.heap.size w (w.alloc (.cells #[.string s, .string v] 83)) := (Below.refl _ _).alloc (Nat.le_refl _) _
  refine Lib.hid ⟨(hpr.new hb).1, fun v8 w8 hown hg => ?_⟩
  refine hnext w8 v8 (T[k].props ++ [⟨s, v⟩]) ⟨?_, fun q hq => ?_⟩ ?_ ?_
  · rw [propCells_app, List.length_append]; exact hown
  · rcases List.mem_append.1 hq with hq | hq
    · exact hpr.2 q hq
    · simp at hq; subst hq; exact hp
  · have := hM T[k] (List.getElem_mem hk); simpa using this
  · exact (Keeps.of_fresh hb _).trans (Keeps.of_grown hg (fun _ e => e)) (fun _ _ e => e)
set_option maxHeartbeats 4000000 in
set_option maxRecDepth 100000 in
theorem bent_r19 {Q : Exit → Act → World → Prop} (B b Z Rb N M g cap k : Nat) (T : List NodeT) (W w : World) (hk : k < T.length) (hN : T.length + 1 ≤ N) (_ : N ≤ 1000) (hM : ∀ n ∈ T, n.props.length + 1 ≤ M) (hM2 : M ≤ 1000) {u1 u2 u3 u4 u6 u7 u10 u11 u12 u13 u14 u15 u16 u17 u18 u19 u20 u21 u22 u23 u24 u25 u26 u27 u28 u29 u30 u31 u32 u33 u34 u35 u36 u37 u38 u39 u40 u41 u42 u43 u44 u45 u46 u47 u48 u49 u50 u51 u52 u53 u54 u55 u56 u57 u58 u59 u60 u61 u62 u63 u64 u65 u66 u67 u68 u69 u70 u71 u72 u73 u74 u75 u76 u77 u78 u79 u80 u81 u82 u83 u84 u85 u86 u87 u88 u89 u90 u91 u92 u93 u94 u95 u96 u97 u98 u99 u100 u101 u102 u103 u104 u105 u106 u107 u108 u109 u110 u111 u112 u113 u114 u115 u116 u117 u118 u119 u120 u121 u122 u123 u124 u125 u126 u127 u128 u129 u130 u131 u132 u133 u134 u135 u136 u137 u138 u139 u140 u141 u142 u143 u144 u145 u146 u147 u148 u149 u150 u151 u152 u153 u154 u155 u156 u157 u158 u159 u160 u161 u162 u163 u164 u165 u166 u167 u168 u169 u170 u171 u172 : Value}
    (hB : Hid (BentS B b Z Rb (.slice (some ⟨g, 0, none⟩) T.length cap) T W w)) (hQ : Hid (∀ (x74 x75 x76 x77 x78 x79 x80 x81 x82 x83 x84 x85 : Value) (wx : World), BentE B b Z Rb N M W wx → Q .normal ⟨#[.pointer (some ⟨b, 0, none⟩), u1, u2, u3, u4, .pointer (some ⟨Z, 0, none⟩), u6, u7, .int .i64 k, .pointer (some ⟨g, k * 3, none⟩), u10, u11, u12, u13, u14, u15, u16, u17, u18, u19, u20, u21, u22, u23, u24, u25, u26, u27, u28, u29, u30, u31, u32, u33, u34, u35, u36, u37, u38, u39, u40, u41, u42, u43, u44, u45, u46, u47, u48, u49, u50, u51, u52, u53, u54, u55, u56, u57, u58, u59, u60, u61, u62, u63, u64, u65, u66, u67, u68, u69, u70, u71, u72, u73, x74, x75, x76, x77, x78, x79, x80, x81, x82, x83, x84, x85, u86, u87, u88, u89, u90, u91, u92, u93, u94, u95, u96, u97, u98, u99, u100, u101, u102, u103, u104, u105, u106, u107, u108, u109, u110, u111, u112, u113, u114, u115, u116, u117, u118, u119, u120, u121, u122, u123, u124, u125, u126, u127, u128, u129, u130, u131, u132, u133, u134, u135, u136, u137, u138, u139, u140, u141, u142, u143, u144, u145, u146, u147, u148, u149, u150, u151, u152, u153, u154, u155, u156, u157, u158, u159, u160, u161, u162, u163, u164, u165, u166, u167, u168, u169, u170, u171, u172], []⟩ wx)) :
    (bentR 19).wp Tryz.prog Q ⟨#[.pointer (some ⟨b, 0, none⟩), u1, u2, u3, u4, .pointer (some ⟨Z, 0, none⟩), u6, u7, .int .i64 k, .pointer (some ⟨g, k * 3, none⟩), u10, u11, u12, u13, u14, u15, u16, u17, u18, u19, u20, u21, u22, u23, u24, u25, u26, u27, u28, u29, u30, u31, u32, u33, u34, u35, u36, u37, u38, u39, u40, u41, u42, u43, u44, u45, u46, u47, u48, u49, u50, u51, u52, u53, u54, u55, u56, u57, u58, u59, u60, u61, u62, u63, u64, u65, u66, u67, u68, u69, u70, u71, u72, u73, u74, u75, u76, u77, u78, u79, u80, u81, u82, u83, u84, u85, u86, u87, u88, u89, u90, u91, u92, u93, u94, u95, u96, u97, u98, u99, u100, u101, u102, u103, u104, u105, u106, u107, u108, u109, u110, u111, u112, u113, u114, u115, u116, u117, u118, u119, u120, u121, u122, u123, u124, u125, u126, u127, u128, u129, u130, u131, u132, u133, u134, u135, u136, u137, u138, u139, u140, u141, u142, u143, u144, u145, u146, u147, u148, u149, u150, u151, u152, u153, u154, u155, u156, u157, u158, u159, u160, u161, u162, u163, u164, u165, u166, u167, u168, u169, u170, u171, u172], []⟩ w := by
  refine wp_only ?_
  simp only [bentR, regCd, Tryz.f18, Option.getD_some, reduceIte, Nat.reduceEqDiff]
  have hpl := hM T[k] (List.getElem_mem hk)
  obtain ⟨pa, pc, c0, c1, hgl, hpr, hnext⟩ := hB.out.prop hk (by omega : T.length ≤ N) hM
  have hT0 : Tape B w.drew b := hB.out.drew.1
  obtain ⟨cst, hbt⟩ := hB.out.1.holds
  have hgb : g ≠ b := by
    obtain ⟨_, _, _, ⟨_, pvs, q1, q2, q3, q4, q5⟩, _⟩ := hB.out
    exact (holds_row hbt q2 (by decide)).symm
  obtain ⟨i0, hi, hz0, hz1, hz2⟩ := info_parts infoProp
  have HT0 := Lib.hid hT0
  clear hnext hpr hT0 hbt
  go_region_law (first
    | (go_simp; go_at_call 42; refine (mk_Property B b _ (by exact HT0.out)).mono ?_; rintro e w2 ⟨s, rfl, hsm, hT2, hK2⟩; have hK2' : Keeps (fun i => i = b) w w2 := ((Keeps.refl (fun i => i = b) w).drew).trans hK2 (fun _ _ e => e); have h2 := hB.out.call hT2 hK2'; have d0 := (hK2'.cell (p := ⟨g, k * 3 + 2, none⟩) hgl hgb).trans c0; have d1 := (hK2'.frozen (p := ⟨g, k * 3 + 2, none⟩) hgl hgb).trans c1; have hgl2 := Nat.lt_of_lt_of_le hgl hK2'.size; have hrow3 := bent_row h2 hk (by omega : T.length ≤ N) hM d0 s ⟨#[]⟩ (prop_small hsm))
    | (refine step_append_lies _ (by rfl) _ _ _ (by rfl) W.heap.size 83 i0 _ 2 32 Tryz.underlying74 hi hz0 hz1 hz2 rfl (by omega) _ T[k].props.length (propCells T[k].props) (by rfl) hrow3.out.1 ⟨w2.heap.size, 0, none⟩ 1 1 [.string s, .string ⟨#[]⟩] (by rfl) (by rfl) (World.news_of_block (cs := #[.string s, .string ⟨#[]⟩]) (t := 83) (fr := (0, 0)) (heap_alloc_new w2 _)) (by simp [Value.oneCell']) (by omega) (by unfold maxLen; omega) (by omega) (by have := h2.2.2.2.2.1.size; simp; omega) (w2.heap.size + 1) (by simp) ?_; intro gg cap2 w8 hown8 hgrow hat hlt8; obtain ⟨m0, m1, m2, hE⟩ := hrow3.out.2 _ w8 hown8 hgrow))
  all_goals
    go_wp2_with fail
    exact hQ.out _ _ _ _ _ _ _ _ _ _ _ _ _ hE
end Go.Proofs.YtjfkjnakmmkkiaaGreat

namespace Go.Proofs.YtjfkjnakmmkkiaaGreat
open Go.RowKit

def lBentP : List ByteArray := [⟨#[]⟩, ⟨#[97, 64, 49]⟩, ⟨#[49]⟩, ⟨#[122, 122]⟩]
theorem prop_smallP {s : ByteArray} (h : s ∈ lBentP) : PropOk ⟨s, ⟨#[]⟩⟩ := by
  have : ∀ x ∈ lBentP, x.size ≤ 9223372036854775807 := by decide
  exact ⟨this s h, by show (0 : Nat) ≤ _; omega⟩
theorem cell_alloc_old {g o : Nat} (w : World) (ob : Obj) (h : g < w.heap.size) : (w.alloc ob).cell? ⟨g, o, none⟩ = w.cell? ⟨g, o, none⟩ := ((Below.refl w.heap.size w).alloc (Nat.le_refl _) ob).cell (p := ⟨g, o, none⟩) h
set_option maxHeartbeats 4000000 in
set_option maxRecDepth 100000 in
theorem bent_r21 {Q : Exit → Act → World → Prop} (B b Z Rb N M g cap k : Nat) (T : List NodeT) (W w : World) (hk : k < T.length) (hN : T.length + 1 ≤ N) (_ : N ≤ 1000) (hM : ∀ n ∈ T, n.props.length + 1 ≤ M) (hM2 : M ≤ 1000) {u1 u2 u3 u4 u6 u7 u10 u11 u12 u13 u14 u15 u16 u17 u18 u19 u20 u21 u22 u23 u24 u25 u26 u27 u28 u29 u30 u31 u32 u33 u34 u35 u36 u37 u38 u39 u40 u41 u42 u43 u44 u45 u46 u47 u48 u49 u50 u51 u52 u53 u54 u55 u56 u57 u58 u59 u60 u61 u62 u63 u64 u65 u66 u67 u68 u69 u70 u71 u72 u73 u74 u75 u76 u77 u78 u79 u80 u81 u82 u83 u84 u85 u86 u87 u88 u89 u90 u91 u92 u93 u94 u95 u96 u97 u98 u99 u100 u101 u102 u103 u104 u105 u106 u107 u108 u109 u110 u111 u112 u113 u114 u115 u116 u117 u118 u119 u120 u121 u122 u123 u124 u125 u126 u127 u128 u129 u130 u131 u132 u133 u134 u135 u136 u137 u138 u139 u140 u141 u142 u143 u144 u145 u146 u147 u148 u149 u150 u151 u152 u153 u154 u155 u156 u157 u158 u159 u160 u161 u162 u163 u164 u165 u166 u167 u168 u169 u170 u171 u172 : Value}
    (hB : Hid (BentS B b Z Rb (.slice (some ⟨g, 0, none⟩) T.length cap) T W w)) (hQ : Hid (∀ (x88 x89 x90 x91 x92 x93 x94 x95 x96 x97 x98 x99 x100 x101 x102 : Value) (wx : World), BentE B b Z Rb N M W wx → Q .normal ⟨#[.pointer (some ⟨b, 0, none⟩), u1, u2, u3, u4, .pointer (some ⟨Z, 0, none⟩), u6, u7, .int .i64 k, .pointer (some ⟨g, k * 3, none⟩), u10, u11, u12, u13, u14, u15, u16, u17, u18, u19, u20, u21, u22, u23, u24, u25, u26, u27, u28, u29, u30, u31, u32, u33, u34, u35, u36, u37, u38, u39, u40, u41, u42, u43, u44, u45, u46, u47, u48, u49, u50, u51, u52, u53, u54, u55, u56, u57, u58, u59, u60, u61, u62, u63, u64, u65, u66, u67, u68, u69, u70, u71, u72, u73, u74, u75, u76, u77, u78, u79, u80, u81, u82, u83, u84, u85, u86, u87, x88, x89, x90, x91, x92, x93, x94, x95, x96, x97, x98, x99, x100, x101, x102, u103, u104, u105, u106, u107, u108, u109, u110, u111, u112, u113, u114, u115, u116, u117, u118, u119, u120, u121, u122, u123, u124, u125, u126, u127, u128, u129, u130, u131, u132, u133, u134, u135, u136, u137, u138, u139, u140, u141, u142, u143, u144, u145, u146, u147, u148, u149, u150, u151, u152, u153, u154, u155, u156, u157, u158, u159, u160, u161, u162, u163, u164, u165, u166, u167, u168, u169, u170, u171, u172], []⟩ wx)) :
    (bentR 21).wp Tryz.prog Q ⟨#[.pointer (some ⟨b, 0, none⟩), u1, u2, u3, u4, .pointer (some ⟨Z, 0, none⟩), u6, u7, .int .i64 k, .pointer (some ⟨g, k * 3, none⟩), u10, u11, u12, u13, u14, u15, u16, u17, u18, u19, u20, u21, u22, u23, u24, u25, u26, u27, u28, u29, u30, u31, u32, u33, u34, u35, u36, u37, u38, u39, u40, u41, u42, u43, u44, u45, u46, u47, u48, u49, u50, u51, u52, u53, u54, u55, u56, u57, u58, u59, u60, u61, u62, u63, u64, u65, u66, u67, u68, u69, u70, u71, u72, u73, u74, u75, u76, u77, u78, u79, u80, u81, u82, u83, u84, u85, u86, u87, u88, u89, u90, u91, u92, u93, u94, u95, u96, u97, u98, u99, u100, u101, u102, u103, u104, u105, u106, u107, u108, u109, u110, u111, u112, u113, u114, u115, u116, u117, u118, u119, u120, u121, u122, u123, u124, u125, u126, u127, u128, u129, u130, u131, u132, u133, u134, u135, u136, u137, u138, u139, u140, u141, u142, u143, u144, u145, u146, u147, u148, u149, u150, u151, u152, u153, u154, u155, u156, u157, u158, u159, u160, u161, u162, u163, u164, u165, u166, u167, u168, u169, u170, u171, u172], []⟩ w := by
  refine wp_only ?_
  simp only [bentR, regCd, Tryz.f18, Option.getD_some, reduceIte, Nat.reduceEqDiff]
  have hpl := hM T[k] (List.getElem_mem hk)
  obtain ⟨pa, pc, c0, c1, hgl, hpr, hnext⟩ := hB.out.prop hk (by omega : T.length ≤ N) hM
  have hT0 : Tape B w.drew b := hB.out.drew.1
  have hT1 : Tape B (w.drew.alloc (.cells (lBentP.map Value.string).toArray 9)) b := hT0.new ((Below.refl _ _).alloc (Nat.le_refl _) _)
  have hHL := Holds.new w.drew (lBentP.map Value.string).toArray 9
  have hTl := hB.out.1.lt
  obtain ⟨cst, hbt⟩ := hB.out.1.holds
  have hgb : g ≠ b := by
    obtain ⟨_, _, _, ⟨_, pvs, q1, q2, q3, q4, q5⟩, _⟩ := hB.out
    exact (holds_row hbt q2 (by decide)).symm
  obtain ⟨i0, hi, hz0, hz1, hz2⟩ := info_parts infoProp
  have HT0 := Lib.hid hT0
  have HT1 := Lib.hid hT1
  have HHL := Lib.hid hHL
  have hll : lBentP.length = 4 := rfl
  clear hnext hpr hT0 hbt hT1 hHL
  go_region_law (first
    | (go_simp; go_at_call 13; refine (mk_N B b 4 _ (by first | exact HT0.out | exact HT1.out) (by omega) (by omega)).mono ?_; rintro e w2 ⟨q, rfl, q0, q1, hT2, hK2⟩; obtain ⟨q, rfl⟩ := Int.eq_ofNat_of_zero_le q0; obtain ⟨s, hs1, hsm⟩ := pick_one lBentP q (by omega); have hs2 : (lBentP.map Value.string)[q]? = some (.string s) := (by simp [hs1]); simp only [lBentP, List.map_cons, List.map_nil] at hs2; have hK2' : Keeps (fun i => i = b) w w2 := (by first | exact ((Keeps.refl (fun i => i = b) w).drew).trans hK2 (fun _ _ e => e) | exact (((Keeps.refl (fun i => i = b) w).drew).alloc _).trans hK2 (fun _ _ e => e)); have h2 := hB.out.call hT2 hK2'; have h2' := h2.new ((Below.refl w2.heap.size w2).alloc (Nat.le_refl _) (.cells (lBentP.map Value.string).toArray 9)); have d0 := (hK2'.cell (p := ⟨g, k * 3 + 2, none⟩) hgl hgb).trans c0; have d1 := (hK2'.frozen (p := ⟨g, k * 3 + 2, none⟩) hgl hgb).trans c1; have hgl2 := Nat.lt_of_lt_of_le hgl hK2'.size; have hcl2 : (w2.alloc (.cells (lBentP.map Value.string).toArray 9)).cell? ⟨w2.heap.size, q, none⟩ = some (.string s) := ((Holds.new w2 (lBentP.map Value.string).toArray 9).cell q).trans (by simp [hs1]); (try have hcl1 : w2.cell? ⟨w.heap.size, q, none⟩ = some (.string s) := ((HHL.out.keeps hK2 (by show ¬ w.heap.size = b; omega)).cell q).trans (by simp [hs1])); (try have hsl1 : w.heap.size < w2.heap.size := (HHL.out.keeps hK2 (by show ¬ w.heap.size = b; omega)).lt); have hrow3 := bent_row h2 hk (by omega : T.length ≤ N) hM d0 s ⟨#[]⟩ (prop_smallP hsm); have hrow4 := bent_row h2' hk (by omega : T.length ≤ N) hM ((cell_alloc_old w2 _ hgl2).trans d0) s ⟨#[]⟩ (prop_smallP hsm))
    | (refine step_append_lies _ (by rfl) _ _ _ (by rfl) W.heap.size 83 i0 _ 2 32 Tryz.underlying74 hi hz0 hz1 hz2 rfl (by omega) _ T[k].props.length (propCells T[k].props) (by rfl) hrow3.out.1 ⟨w2.heap.size, 0, none⟩ 1 1 [.string s, .string ⟨#[]⟩] (by rfl) (by rfl) (World.news_of_block (cs := #[.string s, .string ⟨#[]⟩]) (t := 83) (fr := (0, 0)) (heap_alloc_new w2 _)) (by simp [Value.oneCell']) (by omega) (by unfold maxLen; omega) (by omega) (by have := h2.2.2.2.2.1.size; simp; omega) (w2.heap.size + 1) (by simp) ?_; intro gg cap2 w8 hown8 hgrow hat hlt8; obtain ⟨m0, m1, m2, hE⟩ := hrow3.out.2 _ w8 hown8 hgrow)
    | (refine step_append_lies _ (by rfl) _ _ _ (by rfl) W.heap.size 83 i0 _ 2 32 Tryz.underlying74 hi hz0 hz1 hz2 rfl (by omega) _ T[k].props.length (propCells T[k].props) (by rfl) hrow4.out.1 ⟨w2.heap.size + 1, 0, none⟩ 1 1 [.string s, .string ⟨#[]⟩] (by rfl) (by rfl) (by exact new_cells _ _ _ (w2.heap.size + 1) (by simp) _ rfl) (by simp [Value.oneCell']) (by omega) (by unfold maxLen; omega) (by omega) (by have := h2.2.2.2.2.1.size; simp; omega) (w2.heap.size + 1 + 1) (by simp) ?_; intro gg cap2 w8 hown8 hgrow hat hlt8; obtain ⟨m0, m1, m2, hE⟩ := hrow4.out.2 _ w8 hown8 hgrow))
  all_goals
    go_wp2_with fail
    exact hQ.out _ _ _ _ _ _ _ _ _ _ _ _ _ _ _ _ hE
end Go.Proofs.YtjfkjnakmmkkiaaGreat

namespace Go.Proofs.YtjfkjnakmmkkiaaGreat
open Go.RowKit

/-- What a second copy of a node asks, and what holds behind the store of the append's result. -/
theorem bent_node {B b Z Rb N M g cap k : Nat} {T : List NodeT} {W w : World} (h : BentS B b Z Rb (.slice (some ⟨g, 0, none⟩) T.length cap) T W w) (hk : k < T.length) (hN : T.length + 1 ≤ N) (hM : ∀ n ∈ T, n.props.length ≤ M) :
    ∃ pa pc, w.cell? ⟨g, k * 3, none⟩ = some (.int .i64 T[k].parent) ∧ w.cell? ⟨g, k * 3 + 1, none⟩ = some (.string T[k].name) ∧ w.cell? ⟨g, k * 3 + 2, none⟩ = some (.slice pa T[k].props.length pc) ∧ w.cell? ⟨Z, 0, none⟩ = some (.slice (some ⟨g, 0, none⟩) T.length cap) ∧ Z < w.heap.size ∧ g < w.heap.size ∧
      (∃ xs : List Value, w.ownsRow W.heap.size 76 3 (.slice (some ⟨g, 0, none⟩) T.length cap) T.length xs) ∧
      ∀ xs : List Value, w.ownsRow W.heap.size 76 3 (.slice (some ⟨g, 0, none⟩) T.length cap) T.length xs → ∀ (v8 : Value) (w8 : World), w8.ownsRow W.heap.size 76 3 v8 (T.length + 1) (xs ++ [.int .i64 T[k].parent, .string T[k].name, .slice pa T[k].props.length pc]) → (w.drew.alloc (.cells #[.int .i64 T[k].parent, .string T[k].name, .slice pa T[k].props.length pc] 76)).grownBy w8 (Value.slice (some ⟨g, 0, none⟩) T.length cap).ownBlock →
        Z < w8.heap.size ∧ w8.frozen? ⟨Z, 0, none⟩ = false ∧ w8.cell? ⟨Z, 0, none⟩ = some (.slice (some ⟨g, 0, none⟩) T.length cap) ∧ BentE B b Z Rb N M W (w8.setCell ⟨Z, 0, none⟩ v8) := by
  have hr := h.2.2.2.1.row
  obtain ⟨_, pa, pc, rfl, c0, c1, c2, hp, hok⟩ := hr.at k hk
  obtain ⟨_, _, q2, _, _⟩ := id hr
  refine ⟨pa, pc, c0, c1, c2, h.2.1.cell 0, h.2.1.lt, (q2.lt g rfl).2, ⟨_, q2⟩, fun xs hx v8 w8 hown hg => ?_⟩
  exact h.drew.node (nd := T[k]) rfl hN hM (hM _ (List.getElem_mem hk)) hp hok hx hown hg
set_option maxHeartbeats 4000000 in
set_option maxRecDepth 100000 in
theorem bent_r23 {Q : Exit → Act → World → Prop} (B b Z Rb N M g cap k : Nat) (T : List NodeT) (W w : World) (hk : k < T.length) (hN : T.length + 1 ≤ N) (hN2 : N ≤ 1000) (hM : ∀ n ∈ T, n.props.length + 1 ≤ M) (_ : M ≤ 1000) {u1 u2 u3 u4 u6 u7 u10 u11 u12 u13 u14 u15 u16 u17 u18 u19 u20 u21 u22 u23 u24 u25 u26 u27 u28 u29 u30 u31 u32 u33 u34 u35 u36 u37 u38 u39 u40 u41 u42 u43 u44 u45 u46 u47 u48 u49 u50 u51 u52 u53 u54 u55 u56 u57 u58 u59 u60 u61 u62 u63 u64 u65 u66 u67 u68 u69 u70 u71 u72 u73 u74 u75 u76 u77 u78 u79 u80 u81 u82 u83 u84 u85 u86 u87 u88 u89 u90 u91 u92 u93 u94 u95 u96 u97 u98 u99 u100 u101 u102 u103 u104 u105 u106 u107 u108 u109 u110 u111 u112 u113 u114 u115 u116 u117 u118 u119 u120 u121 u122 u123 u124 u125 u126 u127 u128 u129 u130 u131 u132 u133 u134 u135 u136 u137 u138 u139 u140 u141 u142 u143 u144 u145 u146 u147 u148 u149 u150 u151 u152 u153 u154 u155 u156 u157 u158 u159 u160 u161 u162 u163 u164 u165 u166 u167 u168 u169 u170 u171 u172 : Value}
    (hB : Hid (BentS B b Z Rb (.slice (some ⟨g, 0, none⟩) T.length cap) T W w)) (hQ : Hid (∀ (x105 x106 x107 x108 x109 x110 x111 x112 x113 x114 : Value) (wx : World), BentE B b Z Rb N M W wx → Q .normal ⟨#[.pointer (some ⟨b, 0, none⟩), u1, u2, u3, u4, .pointer (some ⟨Z, 0, none⟩), u6, u7, .int .i64 k, .pointer (some ⟨g, k * 3, none⟩), u10, u11, u12, u13, u14, u15, u16, u17, u18, u19, u20, u21, u22, u23, u24, u25, u26, u27, u28, u29, u30, u31, u32, u33, u34, u35, u36, u37, u38, u39, u40, u41, u42, u43, u44, u45, u46, u47, u48, u49, u50, u51, u52, u53, u54, u55, u56, u57, u58, u59, u60, u61, u62, u63, u64, u65, u66, u67, u68, u69, u70, u71, u72, u73, u74, u75, u76, u77, u78, u79, u80, u81, u82, u83, u84, u85, u86, u87, u88, u89, u90, u91, u92, u93, u94, u95, u96, u97, u98, u99, u100, u101, u102, u103, u104, x105, x106, x107, x108, x109, x110, x111, x112, x113, x114, u115, u116, u117, u118, u119, u120, u121, u122, u123, u124, u125, u126, u127, u128, u129, u130, u131, u132, u133, u134, u135, u136, u137, u138, u139, u140, u141, u142, u143, u144, u145, u146, u147, u148, u149, u150, u151, u152, u153, u154, u155, u156, u157, u158, u159, u160, u161, u162, u163, u164, u165, u166, u167, u168, u169, u170, u171, u172], []⟩ wx)) :
    (bentR 23).wp Tryz.prog Q ⟨#[.pointer (some ⟨b, 0, none⟩), u1, u2, u3, u4, .pointer (some ⟨Z, 0, none⟩), u6, u7, .int .i64 k, .pointer (some ⟨g, k * 3, none⟩), u10, u11, u12, u13, u14, u15, u16, u17, u18, u19, u20, u21, u22, u23, u24, u25, u26, u27, u28, u29, u30, u31, u32, u33, u34, u35, u36, u37, u38, u39, u40, u41, u42, u43, u44, u45, u46, u47, u48, u49, u50, u51, u52, u53, u54, u55, u56, u57, u58, u59, u60, u61, u62, u63, u64, u65, u66, u67, u68, u69, u70, u71, u72, u73, u74, u75, u76, u77, u78, u79, u80, u81, u82, u83, u84, u85, u86, u87, u88, u89, u90, u91, u92, u93, u94, u95, u96, u97, u98, u99, u100, u101, u102, u103, u104, u105, u106, u107, u108, u109, u110, u111, u112, u113, u114, u115, u116, u117, u118, u119, u120, u121, u122, u123, u124, u125, u126, u127, u128, u129, u130, u131, u132, u133, u134, u135, u136, u137, u138, u139, u140, u141, u142, u143, u144, u145, u146, u147, u148, u149, u150, u151, u152, u153, u154, u155, u156, u157, u158, u159, u160, u161, u162, u163, u164, u165, u166, u167, u168, u169, u170, u171, u172], []⟩ w := by
  refine wp_only ?_
  simp only [bentR, regCd, Tryz.f18, Option.getD_some, reduceIte, Nat.reduceEqDiff]
  have hpl := hM T[k] (List.getElem_mem hk)
  obtain ⟨pa, pc, n0, n1, n2, z0, zl, hgl, hrow, hnext⟩ := bent_node (M := M) hB.out hk hN (fun n hn => by have := hM n hn; omega)
  obtain ⟨i0, hi, hz0, hz1, hz2⟩ := info_parts infoNd
  have hki : (k : Int) < (T.length : Int) := by omega
  have hki0 : (0 : Int) ≤ (k : Int) := by omega
  obtain ⟨xs, hown⟩ := hrow
  have HOWN := Lib.hid (World.ownsRow.alloc (show w.drew.ownsRow W.heap.size 76 3 (.slice (some ⟨g, 0, none⟩) T.length cap) T.length xs from hown) (.cells #[.int .i64 T[k].parent, .string T[k].name, .slice pa T[k].props.length pc] 76))
  have HPL := Lib.hid hown
  have HNX := Lib.hid hnext
  have hWw := hB.out.2.2.2.2.1.size
  clear hown hnext
  go_region_law (refine step_append_lies _ (by rfl) _ _ _ (by rfl) W.heap.size 76 i0 _ 3 48 Tryz.underlying23 hi hz0 hz1 hz2 rfl (by omega) _ T.length xs (by rfl) HOWN.out ⟨w.heap.size, 0, none⟩ 1 1 [.int .i64 T[k].parent, .string T[k].name, .slice pa T[k].props.length pc] (by rfl) (by rfl) (World.news_of_block (cs := #[.int .i64 T[k].parent, .string T[k].name, .slice pa T[k].props.length pc]) (t := 76) (fr := (0, 0)) (heap_alloc_new w.drew _)) (by simp [Value.oneCell']) (by omega) (by unfold maxLen; omega) (by omega) (by simp; omega) (w.heap.size + 1) (by simp) ?_; intro gg cap2 w8 hown8 hgrow hat hlt8; obtain ⟨m0, m1, m2, hE⟩ := HNX.out xs HPL.out _ w8 hown8 hgrow)
  all_goals
    go_wp2_with fail
    exact hQ.out _ _ _ _ _ _ _ _ _ _ _ hE
end Go.Proofs.YtjfkjnakmmkkiaaGreat

namespace Go.Proofs.YtjfkjnakmmkkiaaGreat
open Go.RowKit

set_option maxHeartbeats 4000000 in
set_option maxRecDepth 100000 in
theorem bent_r28 {Q : Exit → Act → World → Prop} (B b Z Rb N M g cap k : Nat) (T : List NodeT) (W w : World) (hk : k < T.length) (hN : T.length + 1 ≤ N) (_ : N ≤ 1000) (hM : ∀ n ∈ T, n.props.length + 1 ≤ M) (hM2 : M ≤ 1000) (ab : Option Addr) (cb : Nat) (acc : List UInt8) (hacc : acc.length ≤ 1000) (hbr : w.ownsRow W.heap.size 5 1 (.slice ab acc.length cb) acc.length (Lib.byteCells acc)) {u1 u2 u3 u4 u6 u7 u11 u12 u13 u14 u15 u16 u17 u18 u19 u20 u21 u22 u23 u24 u25 u26 u27 u28 u29 u30 u31 u32 u33 u34 u35 u36 u37 u38 u39 u40 u41 u42 u43 u44 u45 u46 u47 u48 u49 u50 u51 u52 u53 u54 u55 u56 u57 u58 u59 u60 u61 u62 u63 u64 u65 u66 u67 u68 u69 u70 u71 u72 u73 u74 u75 u76 u77 u78 u79 u80 u81 u82 u83 u84 u85 u86 u87 u88 u89 u90 u91 u92 u93 u94 u95 u96 u97 u98 u99 u100 u101 u102 u103 u104 u105 u106 u107 u108 u109 u110 u111 u112 u113 u114 u115 u116 u117 u118 u119 u120 u121 u122 u123 u124 u125 u126 u127 u128 u129 u130 u131 u132 u133 u134 u135 u136 u137 u138 u139 u140 u141 u142 u143 u144 u145 u146 u147 u148 u149 u150 u151 u152 u153 u154 u155 u156 u157 u158 u159 u160 u161 u162 u163 u164 u165 u166 u167 u168 u169 u170 u171 u172 : Value}
    (hB : Hid (BentS B b Z Rb (.slice (some ⟨g, 0, none⟩) T.length cap) T W w)) (hQ : Hid (∀ (x130 x131 x132 x133 x134 x135 x136 x137 x138 x139 x140 x141 : Value) (wx : World), BentE B b Z Rb N M W wx → Q .normal ⟨#[.pointer (some ⟨b, 0, none⟩), u1, u2, u3, u4, .pointer (some ⟨Z, 0, none⟩), u6, u7, .int .i64 k, .pointer (some ⟨g, k * 3, none⟩), .slice ab acc.length cb, u11, u12, u13, u14, u15, u16, u17, u18, u19, u20, u21, u22, u23, u24, u25, u26, u27, u28, u29, u30, u31, u32, u33, u34, u35, u36, u37, u38, u39, u40, u41, u42, u43, u44, u45, u46, u47, u48, u49, u50, u51, u52, u53, u54, u55, u56, u57, u58, u59, u60, u61, u62, u63, u64, u65, u66, u67, u68, u69, u70, u71, u72, u73, u74, u75, u76, u77, u78, u79, u80, u81, u82, u83, u84, u85, u86, u87, u88, u89, u90, u91, u92, u93, u94, u95, u96, u97, u98, u99, u100, u101, u102, u103, u104, u105, u106, u107, u108, u109, u110, u111, u112, u113, u114, u115, u116, u117, u118, u119, u120, u121, u122, u123, u124, u125, u126, u127, u128, u129, x130, x131, x132, x133, x134, x135, x136, x137, x138, x139, x140, x141, u142, u143, u144, u145, u146, u147, u148, u149, u150, u151, u152, u153, u154, u155, u156, u157, u158, u159, u160, u161, u162, u163, u164, u165, u166, u167, u168, u169, u170, u171, u172], []⟩ wx)) :
    (bentR 28).wp Tryz.prog Q ⟨#[.pointer (some ⟨b, 0, none⟩), u1, u2, u3, u4, .pointer (some ⟨Z, 0, none⟩), u6, u7, .int .i64 k, .pointer (some ⟨g, k * 3, none⟩), .slice ab acc.length cb, u11, u12, u13, u14, u15, u16, u17, u18, u19, u20, u21, u22, u23, u24, u25, u26, u27, u28, u29, u30, u31, u32, u33, u34, u35, u36, u37, u38, u39, u40, u41, u42, u43, u44, u45, u46, u47, u48, u49, u50, u51, u52, u53, u54, u55, u56, u57, u58, u59, u60, u61, u62, u63, u64, u65, u66, u67, u68, u69, u70, u71, u72, u73, u74, u75, u76, u77, u78, u79, u80, u81, u82, u83, u84, u85, u86, u87, u88, u89, u90, u91, u92, u93, u94, u95, u96, u97, u98, u99, u100, u101, u102, u103, u104, u105, u106, u107, u108, u109, u110, u111, u112, u113, u114, u115, u116, u117, u118, u119, u120, u121, u122, u123, u124, u125, u126, u127, u128, u129, u130, u131, u132, u133, u134, u135, u136, u137, u138, u139, u140, u141, u142, u143, u144, u145, u146, u147, u148, u149, u150, u151, u152, u153, u154, u155, u156, u157, u158, u159, u160, u161, u162, u163, u164, u165, u166, u167, u168, u169, u170, u171, u172], []⟩ w := by
  refine wp_only ?_
  simp only [bentR, regCd, Tryz.f18, Option.getD_some, reduceIte, Nat.reduceEqDiff]
  have hpl := hM T[k] (List.getElem_mem hk)
  obtain ⟨pa, pc, c0, c1, hgl, hpr, hnext⟩ := hB.out.prop hk (by omega : T.length ≤ N) hM
  obtain ⟨i0, hi, hz0, hz1, hz2⟩ := info_parts infoProp
  have hcv := bytes_conv (show w.drew.ownsRow W.heap.size 5 1 (.slice ab acc.length cb) acc.length (Lib.byteCells acc) from hbr)
  have hWw := hB.out.2.2.2.2.1.size
  have hzz : (⟨acc.toArray⟩ : ByteArray).size ≤ 9223372036854775807 := by show acc.toArray.size ≤ _; simp; omega
  have hrow3 := bent_row hB.out.drew hk (by omega : T.length ≤ N) hM c0 ⟨#[122, 122]⟩ ⟨acc.toArray⟩ ⟨by show (⟨#[122, 122]⟩ : ByteArray).size ≤ _; decide, hzz⟩
  clear hnext hpr hbr hzz
  generalize (⟨acc.toArray⟩ : ByteArray) = val at *
  go_region_law (refine step_append_lies _ (by rfl) _ _ _ (by rfl) W.heap.size 83 i0 _ 2 32 Tryz.underlying74 hi hz0 hz1 hz2 rfl (by omega) _ T[k].props.length (propCells T[k].props) (by rfl) hrow3.out.1 ⟨w.heap.size, 0, none⟩ 1 1 [.string ⟨#[122, 122]⟩, .string val] (by rfl) (by rfl) (World.news_of_block (cs := #[.string ⟨#[122, 122]⟩, .string val]) (t := 83) (fr := (0, 0)) (heap_alloc_new w.drew _)) (by simp [Value.oneCell']) (by omega) (by unfold maxLen; omega) (by omega) (by simp; omega) (w.heap.size + 1) (by simp) ?_; intro gg cap2 w8 hown8 hgrow hat hlt8; obtain ⟨m0, m1, m2, hE⟩ := hrow3.out.2 _ w8 hown8 hgrow)
  all_goals
    go_wp2_with fail
    exact hQ.out _ _ _ _ _ _ _ _ _ _ _ _ _ hE
end Go.Proofs.YtjfkjnakmmkkiaaGreat

namespace Go.Proofs.YtjfkjnakmmkkiaaGreat
open Go.RowKit

/-- Two neighbours of a row exchanged. -/
theorem props_swap {w : World} {base gp n cp : Nat} {ps r : List PropT} {p0 p1 : PropT} (hr : PropRow w base (.slice (some ⟨gp, 0, none⟩) n cp) ps) (hps : ps = p0 :: p1 :: r) :
    w.cell? ⟨gp, 0, none⟩ = some (.string p0.name) ∧ w.cell? ⟨gp, 1, none⟩ = some (.string p0.value) ∧ w.cell? ⟨gp, 2, none⟩ = some (.string p1.name) ∧ w.cell? ⟨gp, 3, none⟩ = some (.string p1.value) ∧ (∀ o, w.frozen? ⟨gp, o, none⟩ = false) ∧ gp < w.heap.size ∧
      PropRow ((((w.drew.setCell ⟨gp, 0, none⟩ (.string p1.name)).setCell ⟨gp, 1, none⟩ (.string p1.value)).setCell ⟨gp, 2, none⟩ (.string p0.name)).setCell ⟨gp, 3, none⟩ (.string p0.value)) base (.slice (some ⟨gp, 0, none⟩) n cp) (p1 :: p0 :: r) ∧
      Keeps (fun b => (Value.slice (some ⟨gp, 0, none⟩) n cp).ownBlock = some b) w ((((w.drew.setCell ⟨gp, 0, none⟩ (.string p1.name)).setCell ⟨gp, 1, none⟩ (.string p1.value)).setCell ⟨gp, 2, none⟩ (.string p0.name)).setCell ⟨gp, 3, none⟩ (.string p0.value)) := by
  subst hps
  obtain ⟨_, cur, hH⟩ := owned_holds hr.1 rfl
  have hn : n = (p0 :: p1 :: r).length := by
    rcases hr.1.2 with ⟨e, _⟩ | ⟨_, _, _, e, _⟩
    · cases e
    · cases e; rfl
  subst hn
  have k0 := hr.1.cellAt 0 (by show 0 < (r.length + 1 + 1) * 2; omega)
  have k1 := hr.1.cellAt 1 (by show 1 < (r.length + 1 + 1) * 2; omega)
  have k2 := hr.1.cellAt 2 (by show 2 < (r.length + 1 + 1) * 2; omega)
  have k3 := hr.1.cellAt 3 (by show 3 < (r.length + 1 + 1) * 2; omega)
  have hd : w.drew.ownsRow base 83 2 (.slice (some ⟨gp, 0, none⟩) (p0 :: p1 :: r).length cp) (p0 :: p1 :: r).length (propCells (p0 :: p1 :: r)) := hr.1
  have t1 := (hd.stored 0 (.string p1.name)).1
  have t2 := (t1.stored 1 (.string p1.value)).1
  have t3 := (t2.stored 2 (.string p0.name)).1
  have t4 := (t3.stored 3 (.string p0.value)).1
  refine ⟨k0, k1, k2, k3, fun o => hH.free o, hH.lt, ⟨t4, fun q hq => hr.2 q ?_⟩, ?_⟩
  · simp only [List.mem_cons] at hq ⊢
    rcases hq with h | h | h
    · exact .inr (.inl h)
    · exact .inl h
    · exact .inr (.inr h)
  · exact (((((Keeps.refl (fun b => (Value.slice (some ⟨gp, 0, none⟩) (p0 :: p1 :: r).length cp).ownBlock = some b) w).drew).setCell (p := ⟨gp, 0, none⟩) (.inr rfl) _).setCell (p := ⟨gp, 1, none⟩) (.inr rfl) _).setCell (p := ⟨gp, 2, none⟩) (.inr rfl) _).setCell (p := ⟨gp, 3, none⟩) (.inr rfl) _
set_option maxHeartbeats 4000000 in
set_option maxRecDepth 100000 in
theorem bent_r31 {Q : Exit → Act → World → Prop} (B b Z Rb N M g cap k : Nat) (T : List NodeT) (W w : World) (hk : k < T.length) (hN : T.length + 1 ≤ N) (_ : N ≤ 1000) (hM : ∀ n ∈ T, n.props.length + 1 ≤ M) (_ : M ≤ 1000) (hl : 1 < T[k].props.length) {u1 u2 u3 u4 u6 u7 u10 u11 u12 u13 u14 u15 u16 u17 u18 u19 u20 u21 u22 u23 u24 u25 u26 u27 u28 u29 u30 u31 u32 u33 u34 u35 u36 u37 u38 u39 u40 u41 u42 u43 u44 u45 u46 u47 u48 u49 u50 u51 u52 u53 u54 u55 u56 u57 u58 u59 u60 u61 u62 u63 u64 u65 u66 u67 u68 u69 u70 u71 u72 u73 u74 u75 u76 u77 u78 u79 u80 u81 u82 u83 u84 u85 u86 u87 u88 u89 u90 u91 u92 u93 u94 u95 u96 u97 u98 u99 u100 u101 u102 u103 u104 u105 u106 u107 u108 u109 u110 u111 u112 u113 u114 u115 u116 u117 u118 u119 u120 u121 u122 u123 u124 u125 u126 u127 u128 u129 u130 u131 u132 u133 u134 u135 u136 u137 u138 u139 u140 u141 u142 u143 u144 u145 u146 u147 u148 u149 u150 u151 u152 u153 u154 u155 u156 u157 u158 u159 u160 u161 u162 u163 u164 u165 u166 u167 u168 u169 u170 u171 u172 : Value}
    (hB : Hid (BentS B b Z Rb (.slice (some ⟨g, 0, none⟩) T.length cap) T W w)) (hQ : Hid (∀ (x150 x151 x152 x153 x154 x155 x156 x157 x158 x159 x160 x161 x162 x163 x164 x165 x166 x167 x168 x169 x170 x171 : Value) (wx : World), BentE B b Z Rb N M W wx → Q .normal ⟨#[.pointer (some ⟨b, 0, none⟩), u1, u2, u3, u4, .pointer (some ⟨Z, 0, none⟩), u6, u7, .int .i64 k, .pointer (some ⟨g, k * 3, none⟩), u10, u11, u12, u13, u14, u15, u16, u17, u18, u19, u20, u21, u22, u23, u24, u25, u26, u27, u28, u29, u30, u31, u32, u33, u34, u35, u36, u37, u38, u39, u40, u41, u42, u43, u44, u45, u46, u47, u48, u49, u50, u51, u52, u53, u54, u55, u56, u57, u58, u59, u60, u61, u62, u63, u64, u65, u66, u67, u68, u69, u70, u71, u72, u73, u74, u75, u76, u77, u78, u79, u80, u81, u82, u83, u84, u85, u86, u87, u88, u89, u90, u91, u92, u93, u94, u95, u96, u97, u98, u99, u100, u101, u102, u103, u104, u105, u106, u107, u108, u109, u110, u111, u112, u113, u114, u115, u116, u117, u118, u119, u120, u121, u122, u123, u124, u125, u126, u127, u128, u129, u130, u131, u132, u133, u134, u135, u136, u137, u138, u139, u140, u141, u142, u143, u144, u145, u146, u147, u148, u149, x150, x151, x152, x153, x154, x155, x156, x157, x158, x159, x160, x161, x162, x163, x164, x165, x166, x167, x168, x169, x170, x171, u172], []⟩ wx)) :
    (bentR 31).wp Tryz.prog Q ⟨#[.pointer (some ⟨b, 0, none⟩), u1, u2, u3, u4, .pointer (some ⟨Z, 0, none⟩), u6, u7, .int .i64 k, .pointer (some ⟨g, k * 3, none⟩), u10, u11, u12, u13, u14, u15, u16, u17, u18, u19, u20, u21, u22, u23, u24, u25, u26, u27, u28, u29, u30, u31, u32, u33, u34, u35, u36, u37, u38, u39, u40, u41, u42, u43, u44, u45, u46, u47, u48, u49, u50, u51, u52, u53, u54, u55, u56, u57, u58, u59, u60, u61, u62, u63, u64, u65, u66, u67, u68, u69, u70, u71, u72, u73, u74, u75, u76, u77, u78, u79, u80, u81, u82, u83, u84, u85, u86, u87, u88, u89, u90, u91, u92, u93, u94, u95, u96, u97, u98, u99, u100, u101, u102, u103, u104, u105, u106, u107, u108, u109, u110, u111, u112, u113, u114, u115, u116, u117, u118, u119, u120, u121, u122, u123, u124, u125, u126, u127, u128, u129, u130, u131, u132, u133, u134, u135, u136, u137, u138, u139, u140, u141, u142, u143, u144, u145, u146, u147, u148, u149, u150, u151, u152, u153, u154, u155, u156, u157, u158, u159, u160, u161, u162, u163, u164, u165, u166, u167, u168, u169, u170, u171, u172], []⟩ w := by
  refine wp_only ?_
  simp only [bentR, regCd, Tryz.f18, Option.getD_some, reduceIte, Nat.reduceEqDiff]
  have hpl := hM T[k] (List.getElem_mem hk)
  obtain ⟨pa, pc, c0, hgl, hpr, hnext⟩ := hB.out.row hk (by omega : T.length ≤ N) (fun n hn => by have := hM n hn; omega : ∀ n ∈ T, n.props.length ≤ M)
  obtain ⟨gp, cp, hpe, hgp1, hgp2⟩ := hpr.1.form (by omega)
  obtain ⟨rfl, rfl⟩ : pa = some ⟨gp, 0, none⟩ ∧ pc = cp := by cases hpe; exact ⟨rfl, rfl⟩
  obtain ⟨p0, p1, r, hps⟩ : ∃ p0 p1 r, T[k].props = p0 :: p1 :: r := by
    cases h : T[k].props with
    | nil => rw [h] at hl; simp at hl
    | cons p0 l => cases l with
      | nil => rw [h] at hl; simp at hl
      | cons p1 r => exact ⟨p0, p1, r, rfl⟩
  have hli : (1 : Int) < (T[k].props.length : Int) := by omega
  have hli0 : (0 : Int) < (T[k].props.length : Int) := by omega
  have hli1 : 0 < T[k].props.length := by omega
  obtain ⟨d0, d1, d2, d3, dfr, hgpl, hsw⟩ := props_swap hpr hps
  have HE := Lib.hid (fun (w' : World) h1 h2 => hnext w' (p1 :: p0 :: r) h1 (by rw [hps] at hpl; simp at hpl ⊢; omega) h2)
  have HSW := Lib.hid hsw
  have f0 := dfr 0
  have f1 := dfr 1
  have f2 := dfr 2
  have f3 := dfr 3
  clear hnext hpr hps hsw dfr hpe
  generalize T[k].props.length = n0 at *
  go_still_tail 20, (by kernel_rfl)
  go_wp2_with fail
  obtain ⟨s1, s2⟩ := HSW.out
  exact hQ.out _ _ _ _ _ _ _ _ _ _ _ _ _ _ _ _ _ _ _ _ _ _ _ (HE.out _ s1 s2)
end Go.Proofs.YtjfkjnakmmkkiaaGreat

namespace Go.Proofs.YtjfkjnakmmkkiaaGreat
open Go.RowKit

theorem BentS.cells {B b Z Rb g cap k : Nat} {T : List NodeT} {W w : World} (h : BentS B b Z Rb (.slice (some ⟨g, 0, none⟩) T.length cap) T W w) (hk : k < T.length) :
    w.cell? ⟨g, k * 3, none⟩ = some (.int .i64 T[k].parent) ∧ w.cell? ⟨g, k * 3 + 1, none⟩ = some (.string T[k].name) ∧ w.frozen? ⟨g, k * 3, none⟩ = false ∧ w.frozen? ⟨g, k * 3 + 1, none⟩ = false ∧ g < w.heap.size := by
  have hr := h.2.2.2.1.row
  obtain ⟨_, pa, pc, rfl, c0, c1, c2, hp, hok⟩ := hr.at k hk
  obtain ⟨qvs, q1, q2, _, _⟩ := id hr
  exact ⟨c0, c1, q2.frozenAt _, q2.frozenAt _, (q2.lt g rfl).2⟩
theorem BentS.props {B b Z Rb g cap k : Nat} {T : List NodeT} {W w : World} (h : BentS B b Z Rb (.slice (some ⟨g, 0, none⟩) T.length cap) T W w) (hk : k < T.length) :
    ∃ pa pc, w.cell? ⟨g, k * 3 + 2, none⟩ = some (.slice pa T[k].props.length pc) := by
  obtain ⟨_, pa, pc, rfl, c0, c1, c2, hp, hok⟩ := h.2.2.2.1.row.at k hk
  exact ⟨pa, pc, c2⟩
def lBentN : List ByteArray := [⟨#[]⟩, ⟨#[97]⟩, ⟨#[122]⟩, ⟨#[49]⟩, ⟨#[97, 32, 98]⟩, ⟨#[35, 97]⟩, ⟨#[97, 50, 51, 52, 53, 54, 55, 56, 57, 48, 49, 50, 51, 52, 53, 54, 55, 56, 57, 48, 49, 50, 51, 52, 53, 54, 55, 56, 57, 48, 49]⟩, ⟨#[97, 50, 51, 52, 53, 54, 55, 56, 57, 48, 49, 50, 51, 52, 53, 54, 55, 56, 57, 48, 49, 50, 51, 52, 53, 54, 55, 56, 57, 48, 49, 50]⟩]
theorem name_small {s : ByteArray} (h : s ∈ lBentN) : s.size ≤ 9223372036854775807 := by
  have : ∀ x ∈ lBentN, x.size ≤ 9223372036854775807 := by decide
  exact this s h
theorem row_cell {w : World} {g : Nat} {l : List Int} (h : Holds w g (l.map (Value.int .i64)).toArray 3) (i : Nat) (hi : i < l.length) : w.cell? ⟨g, 0 + i, none⟩ = some (.int .i64 l[i]) := by
  rw [Nat.zero_add, h.cell i]; simp [hi]
theorem bent_bytes (n : Nat) (hn : n ≤ 1000) (wx : World) : (Instr.makeSlice 95 (.int .i64 n) (.int .i64 n)).run Tryz.prog wx = .ok (.slice (some ⟨wx.heap.size, 0, none⟩) n n) (wx.alloc (.cells (Array.replicate n (.int .u8 0)) 5)) := by
  obtain ⟨i0, hi, hz0, hz1, hz2⟩ := info_parts infoByte
  have := run_make (P := Tryz.prog) wx 95 5 i0 _ Tryz.underlying95 hi hz0 .i64 .i64 n n (by omega) (by omega) (by rw [hz2]; omega) (by omega)
  rw [this, hz1, show (Value.int .u8 0).cells = #[.int .u8 0] from rfl]
  simp [madeCells_one]
theorem bytes_made (w : World) (n base : Nat) (hb : base ≤ w.heap.size) (hn : n ≤ 257) : ∃ acc : List UInt8, acc.length = n ∧ (w.alloc (.cells (Array.replicate n (.int .u8 0)) 5)).ownsRow base 5 1 (.slice (some ⟨w.heap.size, 0, none⟩) acc.length acc.length) acc.length (Lib.byteCells acc) := by
  refine ⟨List.replicate n 0, by simp, ?_⟩
  have := row_built (w := w) (base := base) (e := 5) (size := 1) (n := n) (cs := Array.replicate n (.int .u8 0)) rfl hb (by simp) (by omega)
  rw [List.length_replicate]
  have e : Lib.byteCells (List.replicate n 0) = (Array.replicate n (Value.int .u8 0)).toList := by simp [Lib.byteCells]
  rw [e]; exact this
def BentM (B b Z Rb N M : Nat) (W : World) (_ : Value) (w : World) : Prop := BentE B b Z Rb N M W w
def BentL (T : List NodeT) (w : World) (f : Nat) (x : Value) (wr : World) : Prop :=
  ∃ (k : Nat) (v : Value), x = .int .i64 k ∧ k ≤ T.length ∧ T.length ≤ k + f ∧ Holds wr (w.heap.size + 1 + 1) #[v] 25 ∧ TreeS wr w.heap.size v (T.take k) ∧ Holds wr (w.heap.size + 1) #[.slice none 0 0] 25 ∧ Below w.heap.size w wr
def BentPost (B b N M : Nat) (w : World) (e : Ending) (w' : World) : Prop :=
  ∃ v T', e = .returned (.agg #[v]) ∧ TreeRow w' w.heap.size v T' ∧ T'.length ≤ N ∧ (∀ n ∈ T', n.props.length ≤ M) ∧ Tape B w' b ∧ Keeps (fun i => i = b) w w'

set_option maxRecDepth 100000 in
set_option maxHeartbeats 4000000 in
theorem grow_Bent (B b N M : Nat) (R : Nat → Prop) (v : Value) (T : List NodeT) (w : World) (hTp : Tape B w b) (hT : NodesIn R w v T) (hl : T.length + 1 ≤ N) (hN2 : N ≤ 900) (hM : ∀ n ∈ T, n.props.length + 1 ≤ M) (hM2 : M ≤ 900) :
    Calls Tryz.prog 18 #[.pointer (some ⟨b, 0, none⟩), .agg #[v]] w (BentPost B b N M w) := by
  obtain ⟨a, cap, rfl, hc1, hc2⟩ := hT.shape
  have HT := Lib.hid hT; clear hT
  have HPS := Lib.hid (fun n hn => by have := hM n hn; omega : ∀ n ∈ T, n.props.length ≤ 1000)
  have HM := Lib.hid hM
  have HTP := Lib.hid hTp
  have hblt := hTp.lt
  clear hM hTp
  go_enter Tryz.func18, Tryz.ntmps18
  go_wp2_with fail
  go_loopg [14] (T.length) (fun f x wr => BentL T w f x wr)
  case atStart => exact ⟨0, _, rfl, by omega, by omega, Holds.newAt (w := (w.alloc _).alloc _) (by simp) _ _, TreeS.nil _ _, (Holds.newAt (w := w.alloc _) (by simp) _ _).alloc _, (((Below.refl _ _).alloc (Nat.le_refl _) _).alloc (by simp) _).alloc (by simp; omega) _⟩
  case round =>
    obtain ⟨k, v, rfl, hk, hf, hO, hR, hZ, hb⟩ := hrel
    have hbs := hb.size
    by_cases hlt : k < T.length
    · obtain ⟨g, o, pa, pc, rfl, hg, c0, c1, c2, hp, p1, p2, b0, b1, b2⟩ := (HT.out.new hb).at k hlt
      have hpl := HPS.out T[k] (List.getElem_mem hlt)
      have hnok : NodeOk T[k] := ⟨b0, b1, b2⟩
      have hN0 := Holds.new wr #[.int .i64 T[k].parent, .string T[k].name, .slice pa T[k].props.length pc] 76
      have hb0 : Below wr.heap.size wr (wr.alloc (.cells #[.int .i64 T[k].parent, .string T[k].name, .slice pa T[k].props.length pc] 76)) := (Below.refl _ _).alloc (Nat.le_refl _) _
      have HPI := Lib.hid (hp.new hb0)
      clear hp
      have hTk := Lib.hid (take_more hlt)
      have HNK := Lib.hid hnok
      clear hnok
      generalize T[k] = nd at *
      go_upto_region 5 with fail
      go_cut [7] (fun y wx => CopyMid nd wr.heap.size wr y wx)
      case first =>
        have hE := Holds.newAt (w := wr.alloc (.cells #[.int .i64 nd.parent, .string nd.name, .slice pa nd.props.length pc] 76)) (B := wr.heap.size + 1) (by simp) #[] 83
        have n2 := hN0.cell 2
        have f2 := hN0.free 2
        have l2 := hN0.lt
        obtain ⟨i0, hi, hz0, hz1, hz2⟩ := info_parts infoProp
        by_cases hpz : nd.props.length = 0
        · have hpn : nd.props = [] := List.length_eq_zero_iff.1 hpz
          rw [hpz] at *
          have HPN := Lib.hid hpn
          clear hpn hpz
          go_wp2_with (at_builtin; refine wpList_append_zero rfl _ _ 74 rfl wr.heap.size 83 i0 2 Tryz.underlying74 hi (.slice (some ⟨wr.heap.size + 1, 0, none⟩) 0 0) 0 [] rfl (by exact row_empty (by simp) (by omega)) pa pc rfl ?_)
          go_meet
          refine ⟨_, rfl, (Holds.new wr _ _).alloc _, ?_, ((Below.refl _ _).alloc (Nat.le_refl _) _).alloc (by simp) _⟩
          rw [HPN.out]
          exact ⟨row_empty (by simp) (by omega), fun _ h => by cases h⟩
        · obtain ⟨pg, po, hpa, hpg, _, hpok, hpc, hpone⟩ := HPI.out.row (by omega)
          subst hpa
          have HPC := Lib.hid hpc
          have HPO := Lib.hid hpok
          clear hpc hpok hpone
          go_wp2_with (at_builtin; refine wpList_append_own _ rfl _ _ 74 rfl wr.heap.size 83 i0 (.agg #[.string ⟨#[]⟩, .string ⟨#[]⟩]) 2 32 Tryz.underlying74 hi hz0 hz1 hz2 rfl (by decide) (.slice (some ⟨wr.heap.size + 1, 0, none⟩) 0 0) 0 [] rfl (by exact row_empty (by simp) (by omega)) ⟨pg, po, none⟩ nd.props.length pc (propCells nd.props) rfl (propCells_len _) ?c1 ?c2 ?c3 ?c4 ?c5 ?_)
          case c1 => exact cells_below HPC.out hpg ((Below.refl _ _).alloc (Nat.le_refl _) _)
          case c2 => exact propCells_one _
          case c3 => unfold maxLen; omega
          case c4 => omega
          case c5 => simp; omega
          intro v' w5 hown' hgrow _
          have hN5 := (hN0.alloc (.cells #[] 83)).grown hgrow (fun e => by have : wr.heap.size + 1 = wr.heap.size := Option.some.inj e; omega)
          have hb5 := (hb0.alloc (by simp) (.cells #[] 83)).grown hgrow (by simp; omega) (fun q hq => by have : wr.heap.size + 1 = q := Option.some.inj hq; omega)
          clear hgrow n2 f2 l2
          obtain ⟨va, vc, rfl⟩ := row_slice hown'
          have n2 := hN5.cell 2
          have f2 := hN5.free 2
          have l2 := hN5.lt
          go_wp2_with fail
          go_meet
          exact ⟨_, rfl, hN5.set 2 _, ⟨row_set hown' hN5 (by decide) 2 _, HPO.out⟩, hb5.setCell (p := ⟨wr.heap.size, 2, none⟩) (Nat.le_refl _) _⟩
      case rest =>
        obtain ⟨pv, rfl, hN, hP, hb3⟩ := hcut
        clear hN0 hb0
        have hO3 := hO.keeps (Keeps.of_fresh hb3 (fun _ => False)) (fun e => e)
        have hZ3 := hZ.keeps (Keeps.of_fresh hb3 (fun _ => False)) (fun e => e)
        have hR3 := hR.low.new hb3
        have hb4 := hb.trans (hb3.mono hbs)
        have hs4 := hb4.size
        have hTl : (T.take k).length = k := by simp; omega
        generalize T.take k = T0 at *
        obtain ⟨pvs, g1, g2, g3, g4, g5⟩ := hR3
        have G5 := Lib.hid g5
        have G3 := Lib.hid g3; have G4 := Lib.hid g4; have G1 := Lib.hid g1
        have e1 : T0.length + 1 ≤ maxLen := by unfold maxLen; omega
        have e2 : (T0.length + 1) * 48 ≤ 140737488355328 := by omega
        clear g3 g4 g5 g1 hR hO hZ hTl
        obtain ⟨pa2, pc2, hpv⟩ := row_slice hP.1
        obtain ⟨xa, xc, rfl⟩ := row_slice g2
        have x0 := hO3.cell 0
        have xl := hO3.lt
        have m0 := hN.cell 0
        have m1 := hN.cell 1
        have m2 := hN.cell 2
        have ml := hN.lt
        obtain ⟨i0, hi, hz0, hz1, hz2⟩ := info_parts infoNd
        have HPV := Lib.hid hpv
        clear hpv
        go_wp2_with (at_builtin; refine wpList_append_own _ rfl _ _ 23 rfl w.heap.size 76 i0 (.agg #[.int .i64 0, .string ⟨#[]⟩, .slice none 0 0]) 3 48 Tryz.underlying23 hi hz0 hz1 hz2 rfl (by decide) _ T0.length (nodeCells T0 pvs) rfl (by exact World.ownsRow.alloc g2 _) ⟨wc.heap.size, 0, none⟩ 1 1 [.int .i64 nd.parent, .string nd.name, pv] rfl rfl ?d1 ?d2 ?d3 ?d4 ?d5 ?_)
        case d1 => exact new_cells _ _ _ _ rfl _ rfl
        case d2 =>
          intro u hu
          simp at hu
          rcases hu with rfl | rfl | rfl
          · rfl
          · rfl
          · rw [HPV.out]; rfl
        case d3 => exact e1
        case d4 => exact e2
        case d5 => simp; omega
        intro v' w6 hown' hgrow _
        have hO6 := (hO3.alloc (.cells #[.int .i64 nd.parent, .string nd.name, pv] 76)).grown hgrow (owns_ne_holds g2 hO3 (by decide))
        have hZ6 := (hZ3.alloc (.cells #[.int .i64 nd.parent, .string nd.name, pv] 76)).grown hgrow (owns_ne_holds g2 hZ3 (by decide))
        have hb6 := (hb4.alloc hs4 (.cells #[.int .i64 nd.parent, .string nd.name, pv] 76)).grown hgrow (by simp; omega) (fun g hg => (g2.lt g hg).1)
        have hal : Below wc.heap.size wc (wc.alloc (.cells #[.int .i64 nd.parent, .string nd.name, pv] 76)) := (Below.refl _ _).alloc (Nat.le_refl _) _
        have hR6 : TreeS w6 w.heap.size v' (T0 ++ [nd]) := TreeSep.more G1.out (World.ownsRow.alloc g2 _) (fun q hq hq2 => (G3.out q hq hq2).new hal) G4.out G5.out hbs (hP.new hal) HNK.out hown' hgrow
        obtain ⟨va, vc, rfl⟩ := row_slice hown'
        clear hgrow hown' x0 xl m0 m1 m2 ml
        have x0 := hO6.cell 0
        have xf := hO6.free 0
        have xl := hO6.lt
        go_wp2_with fail
        go_roundg (gk - 1)
        case measure => omega
        case rel => exact ⟨k + 1, _, by go_num, by omega, by omega, hO6.set 0 _, by rw [hTk.out]; exact hR6.set hO6 (by decide) (by decide) 0 _, hZ6.other _ _ (by show w.heap.size + 1 ≠ w.heap.size + 1 + 1; omega), hb6.setCell (p := ⟨w.heap.size + 1 + 1, 0, none⟩) (by simp; omega) _⟩
    · have hke : T.take k = T := List.take_of_length_le (by omega)
      rw [hke] at hR
      obtain ⟨va, vc, hv⟩ := hR.row.slice
      subst hv
      have hS : BentS B b (w.heap.size + 1 + 1) (w.heap.size + 1) (.slice va T.length vc) T w wr := ⟨HTP.out.keeps (Keeps.of_fresh hb (fun _ => False)) (fun _ e => e.elim), hO, hZ, hR, Keeps.of_fresh hb _, hblt, by omega, by omega⟩
      have HS := Lib.hid hS
      have x0 := hO.cell 0
      have xl := hO.lt
      have z0 := hZ.cell 0
      have zf := hZ.free 0
      have zl := hZ.lt
      clear hke hS hR hf hk
      by_cases hT0 : T.length = 0
      · have hT1 : T = [] := List.length_eq_zero_iff.1 hT0
        have hz : ((T.length : Int) == 0) = true := by rw [hT0]; rfl
        have q0 := (hZ.set 0 (.slice va T.length vc)).cell 0
        have hR2 := HS.out.2.2.2.1.row.set hZ (by decide) (by decide) 0 (.slice va T.length vc)
        have hT2 : Tape B (wr.setCell ⟨w.heap.size + 1, 0, none⟩ (.slice va T.length vc)) b := HS.out.1.keeps ((Keeps.refl (fun i => i = w.heap.size + 1) wr).setCell (p := ⟨w.heap.size + 1, 0, none⟩) (.inr rfl) _) (fun i e => by have := HTP.out.1; subst e; omega)
        have hK2 : Keeps (fun i => i = b) w (wr.setCell ⟨w.heap.size + 1, 0, none⟩ (.slice va T.length vc)) := HS.out.2.2.2.2.1.setCell (p := ⟨w.heap.size + 1, 0, none⟩) (.inl (by simp)) _
        have HF := Lib.hid (And.intro q0 (And.intro hR2 (And.intro hT2 hK2)))
        have hTl := Lib.hid (show T.length ≤ N ∧ ∀ n ∈ T, n.props.length ≤ M from ⟨by omega, fun n hn => by have := HM.out n hn; omega⟩)
        clear hT0 q0 hR2 hT2 hK2 hO hZ hT1
        go_wp2_with fail
        obtain ⟨q0, hR2, hT2, hK2⟩ := HF.out
        exact bodyPost_ret (v := .agg #[.slice va T.length vc]) (by simp [results, Tryz.results18, go_sem, q0]) rfl ⟨_, T, rfl, hR2, hTl.out.1, hTl.out.2, hT2, hK2⟩
      · have hz : ((T.length : Int) == 0) = false := by rw [beq_eq_false_iff_ne]; omega
        go_wp2_with fail
        refine (mk_N B b T.length _ (by exact HS.out.1) (by omega) (by omega)).mono ?_
        rintro e w1 ⟨k, rfl, k0, k1, hT1, hK1⟩
        have HS1 := Lib.hid (HS.out.call hT1 hK1)
        obtain ⟨k, rfl⟩ := Int.eq_ofNat_of_zero_le k0
        have hk : k < T.length := by omega
        obtain ⟨g, vc', hge, hg1, hg2⟩ : ∃ g c, Value.slice va T.length vc = .slice (some ⟨g, 0, none⟩) T.length c ∧ w.heap.size ≤ g ∧ g < wr.heap.size := by
          obtain ⟨_, _, _, ⟨_, pvs, q1, q2, _⟩, _⟩ := HS.out
          exact q2.form (by omega)
        cases hge
        clear HS x0 xl z0 zf zl hO hZ
        have x0 := HS1.out.2.1.cell 0
        have xl := HS1.out.2.1.lt
        go_wp2_with fail
        refine (mk_N B b 9 _ (by exact HS1.out.1) (by omega) (by omega)).mono ?_
        rintro e w2 ⟨c, rfl, c0, c1, hT2, hK2⟩
        have HS2 := Lib.hid (HS1.out.call hT2 hK2)
        clear HS1 x0 xl
        go_upto_block 2 with fail
        go_cut [10] (fun y wx => BentM B b (w.heap.size + 1 + 1) (w.heap.size + 1) N M w y wx)
        case first =>
          have hcs : c = 0 ∨ c = 1 ∨ c = 2 ∨ c = 3 ∨ c = 4 ∨ c = 5 ∨ c = 6 ∨ c = 7 ∨ c = 8 := by omega
          clear c0 c1
          rcases hcs with rfl | rfl | rfl | rfl | rfl | rfl | rfl | rfl | rfl
          · obtain ⟨n0, n1, f0, f1, hgl⟩ := HS2.out.cells hk
            go_wp2_with fail
            have hH := Holds.new w2 (([-1, 0, (k : Int), (k : Int) - 1, 200] : List Int).map (Value.int .i64)).toArray 3
            refine (mk_Pick B b w2.heap.size 0 5 [-1, 0, (k : Int), (k : Int) - 1, 200] _ (by exact HS2.out.1.new ((Below.refl _ _).alloc (Nat.le_refl _) _)) (by simp) (by simp) (by have := HS2.out.1.lt; omega) (fun i hi => row_cell hH i hi)).mono ?_
            rintro e w3 ⟨r, rfl, hr, hT3, hK3⟩
            have HS3 := Lib.hid ((HS2.out.new ((Below.refl _ _).alloc (Nat.le_refl _) (.cells (([-1, 0, (k : Int), (k : Int) - 1, 200] : List Int).map (Value.int .i64)).toArray 3))).call hT3 hK3)
            have hrb : -9223372036854775808 ≤ r ∧ r ≤ 9223372036854775807 := by simp at hr; omega
            clear n0 n1 f0 f1 hgl hH hT3 hK3 hT2 hK2 hT1 hK1 hr
            obtain ⟨n0, n1, f0, f1, hgl⟩ := HS3.out.cells hk
            have hE := Lib.hid (HS3.out.parent (N := N) (M := M) hk (by omega) (fun n hn => by have := HM.out n hn; omega) r hrb)
            go_wp2_with fail
            go_meet
            exact hE.out
          · obtain ⟨n0, n1, f0, f1, hgl⟩ := HS2.out.cells hk
            go_wp2_with fail
            refine (mk_N B b 8 _ (by exact HS2.out.1.new ((Below.refl _ _).alloc (Nat.le_refl _) _)) (by omega) (by omega)).mono ?_
            rintro e w3 ⟨q, rfl, q0, q1, hT3, hK3⟩
            obtain ⟨q, rfl⟩ := Int.eq_ofNat_of_zero_le q0
            obtain ⟨s, hs1, hsm⟩ := pick_one lBentN q (by have : lBentN.length = 8 := rfl; omega)
            have HS3 := Lib.hid ((HS2.out.new ((Below.refl _ _).alloc (Nat.le_refl _) (.cells (lBentN.map Value.string).toArray 9))).call hT3 hK3)
            have hH := (Holds.new w2 (lBentN.map Value.string).toArray 9).keeps hK3 (by have := HS2.out.1.lt; omega)
            have hc : w3.cell? ⟨w2.heap.size, q, none⟩ = some (.string s) := (hH.cell q).trans (by simp [hs1])
            have hcl := hH.lt
            clear n0 n1 f0 f1 hgl hH hT3 hK3 hT2 hK2 hT1 hK1
            obtain ⟨n0, n1, f0, f1, hgl⟩ := HS3.out.cells hk
            have hE := Lib.hid (HS3.out.name (N := N) (M := M) hk (by omega) (fun n hn => by have := HM.out n hn; omega) s (name_small hsm))
            go_wp2_with fail
            go_meet
            exact hE.out
          · go_wp2_with fail
            refine wp_code (c' := bentR 19) (by kernel_rfl) ?_
            refine bent_r19 B b _ _ N M g vc k T w _ hk (by omega) (by omega) HM.out (by omega) HS2 ?_
            refine Lib.hid ?_
            intro y74 y75 y76 y77 y78 y79 y80 y81 y82 y83 y84 y85 wx hE
            go_wp2_with fail
            go_meet
            exact hE
          · go_wp2_with fail
            refine wp_code (c' := bentR 21) (by kernel_rfl) ?_
            refine bent_r21 B b _ _ N M g vc k T w _ hk (by omega) (by omega) HM.out (by omega) HS2 ?_
            refine Lib.hid ?_
            intro y88 y89 y90 y91 y92 y93 y94 y95 y96 y97 y98 y99 y100 y101 y102 wx hE
            go_wp2_with fail
            go_meet
            exact hE
          · go_wp2_with fail
            refine wp_code (c' := bentR 23) (by kernel_rfl) ?_
            refine bent_r23 B b _ _ N M g vc k T w _ hk (by omega) (by omega) HM.out (by omega) HS2 ?_
            refine Lib.hid ?_
            intro y105 y106 y107 y108 y109 y110 y111 y112 y113 y114 wx hE
            go_wp2_with fail
            go_meet
            exact hE
          · obtain ⟨xs, hxs, hZ0, hZl, hW2⟩ : ∃ xs, w2.ownsRow w.heap.size 76 3 (.slice (some ⟨g, 0, none⟩) T.length vc) T.length xs ∧ w2.cell? ⟨w.heap.size + 1 + 1, 0, none⟩ = some (.slice (some ⟨g, 0, none⟩) T.length vc) ∧ w.heap.size + 1 + 1 < w2.heap.size ∧ w.heap.size ≤ w2.heap.size := by
              obtain ⟨_, h2, _, ⟨_, pvs, q1, q2, _⟩, h5, _⟩ := HS2.out
              exact ⟨_, q2, h2.cell 0, h2.lt, h5.size⟩
            obtain ⟨i0, hi, hz0, hz1, hz2⟩ := info_parts infoNd
            have e1 : T.length + 1 ≤ maxLen := by unfold maxLen; omega
            have HX := Lib.hid hxs
            clear hxs
            go_wp2_with (at_builtin; refine wpList_append_own _ rfl _ _ 23 rfl w.heap.size 76 i0 (.agg #[.int .i64 0, .string ⟨#[]⟩, .slice none 0 0]) 3 48 Tryz.underlying23 hi hz0 hz1 hz2 rfl (by decide) _ T.length xs rfl (by exact World.ownsRow.alloc HX.out _) ⟨w2.heap.size, 0, none⟩ 1 1 [.int .i64 k, .string ⟨#[122, 122]⟩, .slice none 0 0] rfl rfl (by exact new_cells _ _ _ _ rfl _ rfl) (by intro u hu; simp at hu; rcases hu with rfl | rfl | rfl <;> rfl) e1 (by omega) (by simp; omega) ?_)
            intro v' w5 hown' hgrow _
            obtain ⟨m0, m1, m2, hE⟩ := HS2.out.node (nd := ⟨k, ⟨#[122, 122]⟩, []⟩) (N := N) (M := M) rfl (by omega) (fun n hn => by have := HM.out n hn; omega) (by simp) (PropRow.nil _ _) ⟨by show (⟨#[122, 122]⟩ : ByteArray).size ≤ _; decide, by show _ ≤ (k : Int); omega, by show (k : Int) ≤ _; omega⟩ HX.out hown' hgrow
            obtain ⟨va, vc2, rfl⟩ := row_slice hown'
            have HE := Lib.hid hE
            clear hown' hgrow hE HX
            go_wp2_with fail
            go_meet
            exact HE.out
          · go_wp2_with fail
            have hH := Holds.new w2 (([256, 257] : List Int).map (Value.int .i64)).toArray 3
            refine (mk_Pick B b w2.heap.size 0 2 [256, 257] _ (by exact HS2.out.1.new ((Below.refl _ _).alloc (Nat.le_refl _) _)) (by simp) (by simp) (by have := HS2.out.1.lt; omega) (fun i hi => row_cell hH i hi)).mono ?_
            rintro e w3 ⟨r, rfl, hr, hT3, hK3⟩
            have HS3 := Lib.hid ((HS2.out.new ((Below.refl _ _).alloc (Nat.le_refl _) (.cells (([256, 257] : List Int).map (Value.int .i64)).toArray 3))).call hT3 hK3)
            obtain ⟨n, rfl, hn1, hn2⟩ : ∃ n : Nat, r = (n : Int) ∧ 1 ≤ n ∧ n ≤ 257 := by
              simp at hr
              rcases hr with rfl | rfl
              · exact ⟨256, rfl, by omega, by omega⟩
              · exact ⟨257, rfl, by omega, by omega⟩
            have hmk := bent_bytes n (by omega)
            have HS4 := Lib.hid (HS3.out.new ((Below.refl _ _).alloc (Nat.le_refl _) (.cells (Array.replicate n (.int .u8 0)) 5)))
            have hbr := bytes_made w3 n w.heap.size HS3.out.2.2.2.2.1.size hn2
            clear hH hT3 hK3 hT2 hK2 hT1 hK1 hr
            go_wp2_with fail
            refine wp_code (c' := bentR 28) (by kernel_rfl) ?_
            obtain ⟨acc, hacc, hbr⟩ := hbr
            subst hacc
            refine bent_r28 B b _ _ N M g vc k T w _ hk (by omega) (by omega) HM.out (by omega) (some ⟨w3.heap.size, 0, none⟩) acc.length acc (by omega) hbr HS4 ?_
            refine Lib.hid ?_
            intro y130 y131 y132 y133 y134 y135 y136 y137 y138 y139 y140 y141 wx hE
            go_wp2_with fail
            go_meet
            exact hE
          · obtain ⟨pa, pc, c0⟩ := HS2.out.props hk
            have hgl := (HS2.out.cells hk).2.2.2.2
            by_cases hlp : 1 < T[k].props.length
            · have hlp' : (1 : Int) < (T[k].props.length : Int) := by omega
              go_wp2_with fail
              refine wp_code (c' := bentR 31) (by kernel_rfl) ?_
              refine bent_r31 B b _ _ N M g vc k T w _ hk (by omega) (by omega) HM.out (by omega) hlp HS2 ?_
              refine Lib.hid ?_
              intro y150 y151 y152 y153 y154 y155 y156 y157 y158 y159 y160 y161 y162 y163 y164 y165 y166 y167 y168 y169 y170 y171 wx hE
              go_wp2_with fail
              go_meet
              exact hE
            · have hlp' : ¬ (1 : Int) < (T[k].props.length : Int) := by omega
              have hE := Lib.hid (HS2.out.ends (N := N) (M := M) (by omega) (fun n hn => by have := HM.out n hn; omega))
              go_wp2_with fail
              go_meet
              exact hE.out
          · have x0 := HS2.out.2.1.cell 0
            have xf := HS2.out.2.1.free 0
            have xl := HS2.out.2.1.lt
            have hE := Lib.hid (HS2.out.cut (N := N) (M := M) (k := k) (by omega) (by omega) (fun n hn => by have := HM.out n hn; omega))
            have hvc : k ≤ vc := by
              obtain ⟨_, _, _, ⟨_, pvs, q1, q2, _⟩, _⟩ := HS2.out
              rcases q2.2 with ⟨e, _⟩ | ⟨_, _, _, e, _, _, hc, _⟩
              · cases e
              · cases e; omega
            go_wp2_with fail
            go_meet
            exact hE.out
        case rest =>
          obtain ⟨a', c', T', e1, e2, e3, e4, e5, e6, e7⟩ : BentE B b (w.heap.size + 1 + 1) (w.heap.size + 1) N M w wc := hcut
          have x0 := e1.cell 0
          have xl := e1.lt
          have z0 := e2.cell 0
          have zf := e2.free 0
          have zl := e2.lt
          have q0 := (e2.set 0 (.slice a' T'.length c')).cell 0
          have hR2 := e3.set e2 (by decide) (by decide) 0 (.slice a' T'.length c')
          have hT3 : Tape B (wc.setCell ⟨w.heap.size + 1, 0, none⟩ (.slice a' T'.length c')) b := e6.keeps ((Keeps.refl (fun i => i = w.heap.size + 1) wc).setCell (p := ⟨w.heap.size + 1, 0, none⟩) (.inr rfl) _) (fun i e => by have := HTP.out.1; subst e; omega)
          have hK3 : Keeps (fun i => i = b) w (wc.setCell ⟨w.heap.size + 1, 0, none⟩ (.slice a' T'.length c')) := e7.setCell (p := ⟨w.heap.size + 1, 0, none⟩) (.inl (by simp)) _
          have HF := Lib.hid (And.intro q0 (And.intro hR2 (And.intro hT3 (And.intro hK3 (And.intro e4 e5)))))
          clear q0 hR2 hT3 hK3 e1 e2 e3 e4 e5 e6 e7 HS2
          go_wp2_with fail
          obtain ⟨q0, hR2, hT3, hK3, e4, e5⟩ := HF.out
          exact bodyPost_ret (v := .agg #[.slice a' T'.length c']) (by simp [results, Tryz.results18, go_sem, q0]) rfl ⟨_, T', rfl, hR2, e4, e5, hT3, hK3⟩
end Go.Proofs.YtjfkjnakmmkkiaaGreat

namespace Go.Proofs.YtjfkjnakmmkkiaaGreat
open Go.RowKit

/-- A bent tree. -/
def BentV (b N M : Nat) (u : Value) (w : World) : Prop := ∃ a c D, u = .agg #[.slice a (List.length D) c] ∧ NodesIn (fun g => g ≠ b) w (.slice a (List.length D) c) D ∧ List.length D ≤ N ∧ ∀ n ∈ D, n.props.length ≤ M
/-- A list of some trees. -/
def TreesF (b k : Nat) (u : Value) (w : World) : Prop := ∃ g, u = .slice (some ⟨g, 0, none⟩) k k ∧ g ≠ b ∧ ∀ j : Nat, j < k → ∃ a c X, w.cell? ⟨g, j, none⟩ = some (.slice a (List.length X) c) ∧ NodesIn (fun g => g ≠ b) w (.slice a (List.length X) c) X
theorem BentV.keep {b N M : Nat} {u : Value} {w w' : World} (h : BentV b N M u w) (k : Keeps (fun i => i = b) w w') : BentV b N M u w' := by
  obtain ⟨a, c, D, h1, h2, h3⟩ := h
  exact ⟨a, c, D, h1, h2.keeps k (fun _ h e => h e), h3⟩
theorem TreesF.keep {b n : Nat} {u : Value} {w w' : World} (h : TreesF b n u w) (k : Keeps (fun i => i = b) w w') : TreesF b n u w' := by
  obtain ⟨g, h1, h2, h3⟩ := h
  refine ⟨g, h1, h2, fun j hj => ?_⟩
  obtain ⟨a, c, X, h4, h5⟩ := h3 j hj
  exact ⟨a, c, X, (k.cell (p := ⟨g, j, none⟩) (World.block_lt_of_cell? w _ h4) h2).trans h4, h5.keeps k (fun _ h e => h e)⟩
noncomputable def bleOps (n : Nat) : Array Oper := (regOps (Tryz.f7.body.getD .skip) n).getD #[]
theorem bleR : inRow2 .any (bleOps 5) = true := by kernel_rfl
theorem bleRa : apartB (bleOps 5) = true := by kernel_rfl
theorem bleRn : (bleOps 5).size = 8 := by kernel_rfl
def BleF (b N M : Nat) (xa : Option Addr) (xc : Nat) (X : List NodeT) (aa : Option Addr) (ac : Nat) (A : List NodeT) (j : Nat) : Value → World → Prop := match j with
  | 0 => fun u _ => u = .agg #[.slice xa X.length xc]
  | 1 => fun u _ => u = .agg #[.slice aa A.length ac]
  | 2 => fun u _ => u = .pointer (some ⟨b, 0, none⟩)
  | 3 => fun u _ => u = .agg #[.slice aa A.length ac]
  | 4 => fun u w => BentV b (N + 1) (M + 1) u w
  | 5 => fun u w => TreesF b 3 u w
  | 6 => fun u _ => u = .int .i64 3
  | 7 => fun u _ => u = .int .i64 0
  | _ => fun _ _ => True
theorem BleF.keep {b N M : Nat} {xa : Option Addr} {xc : Nat} {X : List NodeT} {aa : Option Addr} {ac : Nat} {A : List NodeT} {j : Nat} {u : Value} {w w' : World} (h : BleF b N M xa xc X aa ac A j u w) (k : Keeps (fun i => i = b) w w') : BleF b N M xa xc X aa ac A j u w' := by
  unfold BleF at *
  split at h
  all_goals first
    | exact h
    | exact BentV.keep h k
    | exact TreesF.keep h k

set_option maxHeartbeats 4000000 in
set_option maxRecDepth 100000 in
theorem ble_region {Q : Exit → Act → World → Prop} (B b N M Xb Ab : Nat) (xa : Option Addr) (xc : Nat) (X : List NodeT) (aa : Option Addr) (ac : Nat) (A : List NodeT) (W w : World) (Ac : Act) (hsz : Ac.tmps.size = 184) (hAl : A.length ≤ N) (hAm : ∀ n ∈ A, n.props.length ≤ M) (hN : N ≤ 800) (hM : M ≤ 800)
    (hXW : Holds W Xb #[.slice xa X.length xc] 25) (hAW : Holds W Ab #[.slice aa A.length ac] 25) (hxb : Xb ≠ b) (hab : Ab ≠ b) (hXN : NodesIn (fun g => g ≠ b) W (.slice xa X.length xc) X) (hAN : NodesIn (fun g => g ≠ b) W (.slice aa A.length ac) A)
    (ax : Ac.tmps.getD 6 undef = .pointer (some ⟨Xb, 0, none⟩)) (aa' : Ac.tmps.getD 12 undef = .pointer (some ⟨Ab, 0, none⟩)) (at_ : Ac.tmps.getD 11 undef = .pointer (some ⟨b, 0, none⟩))
    (hS : Tape B w b ∧ Keeps (fun i => i = b) W w)
    (hQ : ∀ c w', SameBut (bleOps 5) Ac c → Tape B w' b → Keeps (fun i => i = b) W w' → TreesF b 3 (c.tmps.getD 59 undef) w' → c.tmps.getD 60 undef = .int .i64 3 → c.tmps.getD 61 undef = .int .i64 0 → Q .normal c w') :
    wpAny Tryz.prog .any (bleOps 5) Q (bleOps 5).size (Array.replicate (bleOps 5).size false) Ac w := by
  refine wpAny_inv2 (fun l c wx => RInv (bleOps 5) Ac (BleF b N M xa xc X aa ac A) (fun wx => Tape B wx b ∧ Keeps (fun i => i = b) W wx) l c wx) bleR ?hend ?hstep _ _ _ _ (by simp) (by simp) (RInv.start hS)
  case hend =>
    intro l c wx hI hl
    have hh : ∀ k, k < 8 → l.getD k false = true := fun k hk => hl k (by rw [bleRn]; exact hk)
    exact hQ c wx hI.1 hI.2.1.1 hI.2.1.2 (hI.fact 5 59 rfl (hh 5 (by decide))) (hI.fact 6 60 rfl (hh 6 (by decide))) (hI.fact 7 61 rfl (hh 7 (by decide)))
  intro l c wx hI i' op ho _ hall K' hK'
  have hi : i' < 8 := by rw [← bleRn]; exact (Array.getElem?_eq_some_iff.1 ho).1
  simp only [bleOps, regOps, Tryz.f7, Option.getD_some, reduceIte, Nat.reduceEqDiff] at ho
  have hS := hI.2.1
  have sx := (hI.slot 6 (by kernel_rfl)).trans ax
  have sa := (hI.slot 12 (by kernel_rfl)).trans aa'
  have st := (hI.slot 11 (by kernel_rfl)).trans at_
  simp only [Array.getD_eq_getD_getElem?] at sx sa st
  have hic : i' = 0 ∨ i' = 1 ∨ i' = 2 ∨ i' = 3 ∨ i' = 4 ∨ i' = 5 ∨ i' = 6 ∨ i' = 7 := by omega
  rcases hic with rfl | rfl | rfl | rfl | rfl | rfl | rfl | rfl
  all_goals cases ho
  · have c0 := (hXW.keeps hS.2 hxb).cell 0
    have cl := (hXW.keeps hS.2 hxb).lt
    go_simp
    exact hK' _ _ (hI.step bleRa 0 54 rfl (by rw [hsz]; decide) _ _ rfl hall hS (fun _ _ h => h) rfl)
  · have c0 := (hAW.keeps hS.2 hab).cell 0
    have cl := (hAW.keeps hS.2 hab).lt
    go_simp
    exact hK' _ _ (hI.step bleRa 1 55 rfl (by rw [hsz]; decide) _ _ rfl hall hS (fun _ _ h => h) rfl)
  · go_simp
    exact hK' _ _ (hI.step bleRa 2 56 rfl (by rw [hsz]; decide) _ _ rfl hall hS (fun _ _ h => h) rfl)
  · have c0 := (hAW.keeps hS.2 hab).cell 0
    have cl := (hAW.keeps hS.2 hab).lt
    go_simp
    exact hK' _ _ (hI.step bleRa 3 57 rfl (by rw [hsz]; decide) _ _ rfl hall hS (fun _ _ h => h) rfl)
  · have e1 : (c.tmps.getD 56 undef) = .pointer (some ⟨b, 0, none⟩) := hI.fact 2 56 rfl (listed hall 2 (by kernel_rfl))
    simp only [Array.getD_eq_getD_getElem?] at e1
    have e2 : (c.tmps.getD 57 undef) = .agg #[.slice aa A.length ac] := hI.fact 3 57 rfl (listed hall 3 (by kernel_rfl))
    simp only [Array.getD_eq_getD_getElem?] at e2
    go_simp
    refine (grow_Bent B b (N + 1) (M + 1) (fun g => g ≠ b) _ A wx hS.1 (hAN.keeps hS.2 (fun _ h e => h e)) (by omega) (by omega) (fun n hn => by have := hAm n hn; omega) (by omega)).mono ?_
    rintro e w2 ⟨v2, D, rfl, hr2, hl2, hm2, ht2, k2⟩
    obtain ⟨da, dc, rfl⟩ := tree_slice hr2
    go_simp
    have hS2 : Tape B w2 b ∧ Keeps (fun i => i = b) W w2 := ⟨ht2, hS.2.trans k2 (fun _ _ e => e)⟩
    have hbl := hS.1.lt
    exact hK' _ _ (hI.step bleRa 4 58 rfl (by rw [hsz]; decide) _ _ rfl hall hS2 (fun _ _ h => BleF.keep h k2) ⟨da, dc, D, rfl, hr2.in.mono (fun g h e => by subst e; omega), hl2, hm2⟩)
  · have e0 : (c.tmps.getD 54 undef) = .agg #[.slice xa X.length xc] := hI.fact 0 54 rfl (listed hall 0 (by kernel_rfl))
    simp only [Array.getD_eq_getD_getElem?] at e0
    have e1 : (c.tmps.getD 55 undef) = .agg #[.slice aa A.length ac] := hI.fact 1 55 rfl (listed hall 1 (by kernel_rfl))
    simp only [Array.getD_eq_getD_getElem?] at e1
    obtain ⟨ba4, bc4, D4, e2, hn4, hl4, hm4⟩ : BentV b (N + 1) (M + 1) (c.tmps.getD 58 undef) wx := hI.fact 4 58 rfl (listed hall 4 (by kernel_rfl))
    simp only [Array.getD_eq_getD_getElem?] at e2
    go_simp
    have hb2 : Below wx.heap.size wx (wx.alloc (.cells #[.slice xa X.length xc, .slice aa A.length ac, .slice ba4 D4.length bc4] 25)) := (Below.refl _ _).alloc (Nat.le_refl _) _
    have k2 := Keeps.of_fresh hb2 (fun i => i = b)
    have hS2 : Tape B (wx.alloc (.cells #[.slice xa X.length xc, .slice aa A.length ac, .slice ba4 D4.length bc4] 25)) b ∧ Keeps (fun i => i = b) W (wx.alloc (.cells #[.slice xa X.length xc, .slice aa A.length ac, .slice ba4 D4.length bc4] 25)) := ⟨hS.1.new hb2, hS.2.trans k2 (fun _ _ e => e)⟩
    have hL := Holds.new wx #[.slice xa X.length xc, .slice aa A.length ac, .slice ba4 D4.length bc4] 25
    have hbl := hS.1.lt
    have hT : TreesF b 3 (.slice (some ⟨wx.heap.size, 0, none⟩) 3 3) (wx.alloc (.cells #[.slice xa X.length xc, .slice aa A.length ac, .slice ba4 D4.length bc4] 25)) := ⟨wx.heap.size, rfl, by omega, fun j hj => by
      have hj2 : j = 0 ∨ j = 1 ∨ j = 2 := by omega
      rcases hj2 with rfl | rfl | rfl
      · exact ⟨_, _, _, hL.cell 0, hXN.keeps hS2.2 (fun _ h e => h e)⟩
      · exact ⟨_, _, _, hL.cell 1, hAN.keeps hS2.2 (fun _ h e => h e)⟩
      · exact ⟨_, _, _, hL.cell 2, hn4.keeps k2 (fun _ h e => h e)⟩⟩
    exact hK' _ _ (hI.step bleRa 5 59 rfl (by rw [hsz]; decide) _ _ rfl hall hS2 (fun _ _ h => BleF.keep h k2) hT)
  · obtain ⟨lg5, e0, hg5⟩ : TreesF b 3 (c.tmps.getD 59 undef) wx := hI.fact 5 59 rfl (listed hall 5 (by kernel_rfl))
    simp only [Array.getD_eq_getD_getElem?] at e0
    go_simp
    exact hK' _ _ (hI.step bleRa 6 60 rfl (by rw [hsz]; decide) _ _ rfl hall hS (fun _ _ h => h) rfl)
  · go_simp
    exact hK' _ _ (hI.step bleRa 7 61 rfl (by rw [hsz]; decide) _ _ rfl hall hS (fun _ _ h => h) rfl)
end Go.Proofs.YtjfkjnakmmkkiaaGreat
