/- Trees that a call has made: rows of nodes, each with a row of properties. -/
import Derived.Test.YtjfkjnakmmkkiaaTreN
namespace Go.Proofs.Ytjfkjnakmmkkiaa
open Go.RowKit

theorem rows_apart {w : World} {b1 b2 : Nat} {e1 e2 : TypeId} {s1 s2 : Nat} {v1 v2 : Value} {n1 n2 : Nat} {x1 x2 : List Value} (h1 : w.ownsRow b1 e1 s1 v1 n1 x1) (h2 : w.ownsRow b2 e2 s2 v2 n2 x2) (hne : e1 ≠ e2) : v1.ownBlock = none ∨ v1.ownBlock ≠ v2.ownBlock := by
  rcases h1.2 with ⟨rfl, _⟩ | ⟨g1, c1, cur1, rfl, _, hh1, _⟩
  · exact .inl rfl
  · rcases h2.2 with ⟨rfl, _⟩ | ⟨g2, c2, cur2, rfl, _, hh2, _⟩
    · right; simp [Value.ownBlock]
    · right
      simp only [Value.ownBlock]
      intro e
      simp at e
      subst e
      rw [hh1] at hh2
      simp at hh2
      exact hne hh2.2
theorem row_base {w : World} {base base' : Nat} {e : TypeId} {size : Nat} {v : Value} {n : Nat} {xs : List Value} (h : w.ownsRow base e size v n xs) (hb : base' ≤ base) : w.ownsRow base' e size v n xs := by
  refine ⟨h.1, ?_⟩
  rcases h.2 with hn | ⟨g, cap, cur, hv, hg, rest⟩
  · exact .inl hn
  · exact .inr ⟨g, cap, cur, hv, by omega, rest⟩
theorem row_slice {w : World} {base : Nat} {e : TypeId} {size : Nat} {v : Value} {n : Nat} {xs : List Value} (h : w.ownsRow base e size v n xs) : ∃ a cap, v = .slice a n cap := by
  rcases h.2 with ⟨rfl, rfl⟩ | ⟨g, cap, cur, rfl, _⟩
  · exact ⟨none, 0, rfl⟩
  · exact ⟨_, _, rfl⟩
theorem row_new {w w' : World} {base : Nat} {e : TypeId} {size : Nat} {v : Value} {n : Nat} {xs : List Value} (h : w.ownsRow base e size v n xs) (k : Below w.heap.size w w') : w'.ownsRow base e size v n xs := ownsRow_keeps h (Keeps.of_fresh k (fun _ => False)) (fun _ _ e => e)
theorem row_set {w : World} {base b : Nat} {e t : TypeId} {size : Nat} {v : Value} {n : Nat} {xs : List Value} {cs : Array Value} (h : w.ownsRow base e size v n xs) (hH : Holds w b cs t) (hne : t ≠ e) (o : Nat) (x : Value) : (w.setCell ⟨b, o, none⟩ x).ownsRow base e size v n xs :=
  ownsRow_keeps h (S := fun i => i = b) ((Keeps.refl (fun i => i = b) w).setCell (p := ⟨b, o, none⟩) (.inr rfl) x) (fun g e1 e2 => owns_ne_holds h hH hne (by rw [e1, e2]))
theorem Holds.newAt {w : World} {B : Nat} (hB : w.heap.size = B) (cs : Array Value) (t : TypeId) : Holds (w.alloc (.cells cs t)) B cs t := by
  subst hB; exact Holds.new w cs t

/-- A row of properties of the call's own. -/
def PropRow (w : World) (base : Nat) (v : Value) (ps : List PropT) : Prop := w.ownsRow base 48 2 v ps.length (propCells ps) ∧ ∀ p ∈ ps, PropOk p
/-- A tree of the call's own. -/
def TreeRow (w : World) (base : Nat) (v : Value) (T : List NodeT) : Prop :=
  ∃ pvs : List Value, pvs.length = T.length ∧ w.ownsRow base 42 3 v T.length (nodeCells T pvs) ∧ (∀ k (_ : k < T.length) (_ : k < pvs.length), PropRow w base pvs[k] T[k].props) ∧ ∀ n ∈ T, NodeOk n
theorem PropRow.in {w : World} {base : Nat} {v : Value} {ps : List PropT} (h : PropRow w base v ps) : PropsIn (fun g => base ≤ g) w v ps := props_row h.1 h.2 (fun _ h => h)
theorem TreeRow.in {w : World} {base : Nat} {v : Value} {T : List NodeT} (h : TreeRow w base v T) : NodesIn (fun g => base ≤ g) w v T := by
  obtain ⟨pvs, h1, h2, h3, h4⟩ := h
  exact nodes_row h2 h1 (fun k hk hk2 => (h3 k hk hk2).in) h4 (fun _ h => h)
theorem PropRow.new {w w' : World} {base : Nat} {v : Value} {ps : List PropT} (h : PropRow w base v ps) (k : Below w.heap.size w w') : PropRow w' base v ps := ⟨row_new h.1 k, h.2⟩
theorem PropRow.base {w : World} {base base' : Nat} {v : Value} {ps : List PropT} (h : PropRow w base v ps) (k : base' ≤ base) : PropRow w base' v ps := ⟨row_base h.1 k, h.2⟩
theorem TreeRow.new {w w' : World} {base : Nat} {v : Value} {T : List NodeT} (h : TreeRow w base v T) (k : Below w.heap.size w w') : TreeRow w' base v T := by
  obtain ⟨pvs, h1, h2, h3, h4⟩ := h
  exact ⟨pvs, h1, row_new h2 k, fun j hj hj2 => (h3 j hj hj2).new k, h4⟩
theorem TreeRow.base {w : World} {base base' : Nat} {v : Value} {T : List NodeT} (h : TreeRow w base v T) (k : base' ≤ base) : TreeRow w base' v T := by
  obtain ⟨pvs, h1, h2, h3, h4⟩ := h
  exact ⟨pvs, h1, row_base h2 k, fun j hj hj2 => (h3 j hj hj2).base k, h4⟩
theorem PropRow.set {w : World} {base b : Nat} {t : TypeId} {v : Value} {ps : List PropT} {cs : Array Value} (h : PropRow w base v ps) (hH : Holds w b cs t) (hne : t ≠ 48) (o : Nat) (x : Value) : PropRow (w.setCell ⟨b, o, none⟩ x) base v ps := ⟨row_set h.1 hH hne o x, h.2⟩
theorem TreeRow.set {w : World} {base b : Nat} {t : TypeId} {v : Value} {T : List NodeT} {cs : Array Value} (h : TreeRow w base v T) (hH : Holds w b cs t) (hne : t ≠ 42) (hne2 : t ≠ 48) (o : Nat) (x : Value) : TreeRow (w.setCell ⟨b, o, none⟩ x) base v T := by
  obtain ⟨pvs, h1, h2, h3, h4⟩ := h
  exact ⟨pvs, h1, row_set h2 hH hne o x, fun j hj hj2 => (h3 j hj hj2).set hH hne2 o x, h4⟩
/-- Kept while a row of another element type grows. -/
theorem PropRow.apart {w w' : World} {base b2 : Nat} {e : TypeId} {s : Nat} {v v2 : Value} {ps : List PropT} {n : Nat} {xs : List Value} (h : PropRow w base v ps) (h2 : w.ownsRow b2 e s v2 n xs) (hg : w.grownBy w' v2.ownBlock) (hne : 48 ≠ e) : PropRow w' base v ps :=
  ⟨h.1.kept hg (rows_apart h.1 h2 hne), h.2⟩
theorem row_other {w w' : World} {base b : Nat} {e t : TypeId} {size : Nat} {v : Value} {n : Nat} {xs : List Value} {cs : Array Value} (h : w.ownsRow base e size v n xs) (hH : Holds w b cs t) (hne : t ≠ e) (k : Keeps (· = b) w w') : w'.ownsRow base e size v n xs :=
  ownsRow_keeps h (S := fun i => i = b) k (fun g e1 e2 => owns_ne_holds h hH hne (by rw [e1, e2]))
theorem TreeRow.other {w w' : World} {base b : Nat} {t : TypeId} {v : Value} {T : List NodeT} {cs : Array Value} (h : TreeRow w base v T) (hH : Holds w b cs t) (hne : t ≠ 42) (hne2 : t ≠ 48) (k : Keeps (· = b) w w') : TreeRow w' base v T := by
  obtain ⟨pvs, h1, h2, h3, h4⟩ := h
  exact ⟨pvs, h1, row_other h2 hH hne k, fun j hj hj2 => ⟨row_other (h3 j hj hj2).1 hH hne2 k, (h3 j hj hj2).2⟩, h4⟩
theorem TreeRow.nil (w : World) (base : Nat) : TreeRow w base (.slice none 0 0) [] := ⟨[], rfl, World.ownsRow_nil _ _ _ _, fun k h => absurd h (Nat.not_lt_zero k), fun _ h => by cases h⟩
theorem PropRow.nil (w : World) (base : Nat) : PropRow w base (.slice none 0 0) [] := ⟨World.ownsRow_nil _ _ _ _, fun _ h => by cases h⟩
/-- One node more. -/
theorem TreeRow.more {w w' : World} {base : Nat} {v v' pv : Value} {T : List NodeT} {pvs : List Value} {n : NodeT} (h1 : pvs.length = T.length) (h2 : w.ownsRow base 42 3 v T.length (nodeCells T pvs))
    (h3 : ∀ k (_ : k < T.length) (_ : k < pvs.length), PropRow w base pvs[k] T[k].props) (h4 : ∀ n ∈ T, NodeOk n) (hp : PropRow w base pv n.props) (hn : NodeOk n)
    (hown : w'.ownsRow base 42 3 v' (T.length + 1) (nodeCells T pvs ++ [.int .i64 n.parent, .string n.name, pv])) (hg : w.grownBy w' v.ownBlock) : TreeRow w' base v' (T ++ [n]) := by
  refine ⟨pvs ++ [pv], by simp [h1], ?_, ?_, ?_⟩
  · rw [nodeCells_snoc T pvs n pv h1, List.length_append]; exact hown
  · intro k hk hk2
    by_cases e : k < T.length
    · have : PropRow w' base pvs[k] T[k].props := (h3 k e (by omega)).apart h2 hg (by decide)
      simpa [List.getElem_append_left, e, h1] using this
    · have e2 : k = T.length := by simp at hk; omega
      subst e2
      have : PropRow w' base pv n.props := hp.apart h2 hg (by decide)
      simpa [List.getElem_append_right, h1] using this
  · intro m hm
    rcases List.mem_append.1 hm with hm | hm
    · exact h4 m hm
    · simp at hm; subst hm; exact hn
theorem infoProp : (Try.prog.info? 48).map (fun i => (i.zero, i.size, i.bytes)) = some (some (.agg #[.string ⟨#[]⟩, .string ⟨#[]⟩]), 2, 32) := by kernel_rfl
theorem infoNd : (Try.prog.info? 42).map (fun i => (i.zero, i.size, i.bytes)) = some (some (.agg #[.int .i64 0, .string ⟨#[]⟩, .slice none 0 0]), 3, 48) := by kernel_rfl
/-- A block just built that is a row of the call's own. -/
theorem row_built {w : World} {B base : Nat} {e : TypeId} {size n : Nat} {cs : Array Value} (hB : w.heap.size = B) (hb : base ≤ B) (hs : cs.size = n * size) (hn : n ≤ 1000) : (w.alloc (.cells cs e)).ownsRow base e size (.slice (some ⟨B, 0, none⟩) n n) n cs.toList := by
  subst hB
  refine ⟨by simpa using hs, .inr ⟨w.heap.size, n, cs, rfl, hb, heap_alloc_new w _, Nat.le_refl _, by unfold maxLen; omega, hs, ?_⟩⟩
  rw [List.take_of_length_le (by simp [hs])]
end Go.Proofs.Ytjfkjnakmmkkiaa
