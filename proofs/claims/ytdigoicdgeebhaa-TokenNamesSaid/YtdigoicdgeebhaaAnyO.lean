/- A region that draws its order, by an invariant: whichever operation comes next, it keeps what is known. -/
import Derived.Test.YtdigoicdgeebhaaMem
import Derived.RegionTactic
namespace Go.Proofs.Ytdigoicdgeebhaa

section
variable {P : Program} {ops : Array Oper} {Q : Exit → Act → World → Prop} {md : Region.Mode}
/-- Every operation stands behind those that it waits for. -/
def inRow (ops : Array Oper) : Bool := (List.range ops.size).all fun j => match ops[j]? with
  | some o => o.after.all fun e => decide (e.on < j)
  | none => true
theorem inRow_at (h : inRow ops = true) {j : Nat} {o : Oper} (ho : ops[j]? = some o) : ∀ e ∈ o.after, e.on < j := by
  have hj : j < ops.size := (Array.getElem?_eq_some_iff.1 ho).1
  have := List.all_eq_true.1 h j (List.mem_range.2 hj)
  simp only [ho] at this
  intro e he
  exact of_decide_eq_true (Array.all_eq_true_iff_forall_mem.1 this e he)
theorem ready_none (h : inRow ops = true) {l : Array Bool} (hs : l.size = ops.size) (hr : Region.ready md ops l = []) : ∀ j, j < ops.size → l.getD j false = true := by
  intro j
  induction j using Nat.strongRecOn with
  | ind j ih =>
    intro hj
    cases hl : l.getD j false with
    | true => rfl
    | false =>
      have hj2 : j < l.size := by omega
      have hm : j ∈ Region.ready md ops l := by
        rw [mem_ready]
        refine ⟨by simp [hj2] at hl ⊢; exact hl, ops[j], by simp [hj], fun e he _ => ?_⟩
        have := inRow_at h (j := j) (o := ops[j]) (by simp [hj]) e he
        exact ih e.on this (by omega)
      rw [hr] at hm; cases hm
theorem wpAny_inv (Inv : Array Bool → Act → World → Prop) (hrow : inRow ops = true)
    (hend : ∀ l a w, Inv l a w → (∀ j, j < ops.size → l.getD j false = true) → Q .normal a w)
    (hstep : ∀ l a w, Inv l a w → ∀ i o, ops[i]? = some o → l.getD i false = false → (∀ e ∈ o.after, Region.binds md e = true → l.getD e.on false = true) →
      ∀ K' : Act → World → Prop, (∀ a w, Inv (l.setIfInBounds i true) a w → K' a w) → if Region.wanted o (yielded ops a.tmps) = true then Oper.wp P o a w K' Q else K' (a.put o.dst undef) w) :
    ∀ (fuel : Nat) (l : Array Bool) (a : Act) (w : World), l.size = ops.size → l.toList.count false ≤ fuel → Inv l a w → wpAny P md ops Q fuel l a w := by
  intro fuel
  induction fuel with
  | zero =>
    intro l a w hs hc hI
    have hr : Region.ready md ops l = [] := by
      rw [List.eq_nil_iff_forall_not_mem]
      intro j hj
      rw [mem_ready] at hj
      obtain ⟨h0, o, ho, _⟩ := hj
      have hjl : j < l.size := by rw [hs]; exact (Array.getElem?_eq_some_iff.1 ho).1
      have : false ∈ l.toList := by
        simp [hjl] at h0
        rw [← h0]; exact Array.mem_toList_iff.2 (Array.getElem_mem hjl)
      have := List.count_pos_iff.2 this
      omega
    exact ⟨hr, hend l a w hI (ready_none hrow hs hr)⟩
  | succ fuel ih =>
    intro l a w hs hc hI
    refine ⟨fun hr => hend l a w hI (ready_none hrow hs hr), fun i hi => ?_⟩
    have hi' := hi
    rw [mem_ready] at hi
    obtain ⟨h0, o, ho, hall⟩ := hi
    have hil : i < l.size := by rw [hs]; exact (Array.getElem?_eq_some_iff.1 ho).1
    refine wpOp_step ho fun K' hK' => ?_
    refine hstep l a w hI i o ho (by simp [hil] at h0 ⊢; exact h0) hall K' fun a' w' hI' => hK' a' w' ?_
    refine ih _ a' w' (by simpa using hs) ?_ hI'
    have h1 : l.toList[i]'(by simpa using hil) = false := by simp [hil] at h0; simpa using h0
    have h2 := List.count_set (a := true) (b := false) (l := l.toList) (i := i) (by simpa using hil)
    rw [h1] at h2
    have hpos : 0 < l.toList.count false := List.count_pos_iff.2 (by rw [← h1]; exact List.getElem_mem _)
    rw [Array.toList_setIfInBounds, h2, if_pos (by rfl), if_neg (by decide)]
    omega
end
end Go.Proofs.Ytdigoicdgeebhaa
