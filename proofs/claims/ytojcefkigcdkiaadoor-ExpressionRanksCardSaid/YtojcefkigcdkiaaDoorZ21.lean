/- A region that draws its order, by an invariant: whichever operation comes next, it keeps what is known. | A region that draws its order, by an invariant: the frame is known but for the slots that the region writes, and of each operation that is listed a fact of its value is known. | As AnyP; besides, a slot of an operation that is not listed yet is as it was. | As AnyP: a step that need keep the facts of what is listed alone. | A drawn region's lemma at the walk: the operations of a region and the statements of a function by their numbers; the frame behind a region written out. -/
import Derived.Test.YtojcefkigcdkiaaDoorZ1
import Derived.RegionTactic

set_option linter.unusedVariables false
set_option linter.unusedSimpArgs false
set_option linter.unusedSectionVars false

namespace Go.Proofs.YtojcefkigcdkiaaDoor

section
variable {P : Program} {ops : Array Oper} {Q : Exit → Act → World → Prop} {md : Region.Mode}
/-- Every operation stands behind those that it waits for. -/
def inRow (ops : Array Oper) : Bool := (List.range ops.size).all fun j => match ops[j]? with
  | some o => o.after.all fun e => decide (e.on < j)
  | none => true
theorem inRow_at (h : inRow ops = true) {j : Nat} {o : Oper} (ho : ops[j]? = some o) : ∀ e ∈ o.after, e.on < j := by
  have hj : j < ops.size := (Array.getElem?_eq_some_iff.1 ho).1
  have := List.all_eq_true.1 h j (List.mem_range.2 hj)
  simp only [ho] at this
  intro e he
  exact of_decide_eq_true (Array.all_eq_true_iff_forall_mem.1 this e he)
theorem ready_none (h : inRow ops = true) {l : Array Bool} (hs : l.size = ops.size) (hr : Region.ready md ops l = []) : ∀ j, j < ops.size → l.getD j false = true := by
  intro j
  induction j using Nat.strongRecOn with
  | ind j ih =>
    intro hj
    cases hl : l.getD j false with
    | true => rfl
    | false =>
      have hj2 : j < l.size := by omega
      have hm : j ∈ Region.ready md ops l := by
        rw [mem_ready]
        refine ⟨by simp [hj2] at hl ⊢; exact hl, ops[j], by simp [hj], fun e he _ => ?_⟩
        have := inRow_at h (j := j) (o := ops[j]) (by simp [hj]) e he
        exact ih e.on this (by omega)
      rw [hr] at hm; cases hm
theorem wpAny_inv (Inv : Array Bool → Act → World → Prop) (hrow : inRow ops = true)
    (hend : ∀ l a w, Inv l a w → (∀ j, j < ops.size → l.getD j false = true) → Q .normal a w)
    (hstep : ∀ l a w, Inv l a w → ∀ i o, ops[i]? = some o → l.getD i false = false → (∀ e ∈ o.after, Region.binds md e = true → l.getD e.on false = true) →
      ∀ K' : Act → World → Prop, (∀ a w, Inv (l.setIfInBounds i true) a w → K' a w) → if Region.wanted o (yielded ops a.tmps) = true then Oper.wp P o a w K' Q else K' (a.put o.dst undef) w) :
    ∀ (fuel : Nat) (l : Array Bool) (a : Act) (w : World), l.size = ops.size → l.toList.count false ≤ fuel → Inv l a w → wpAny P md ops Q fuel l a w := by
  intro fuel
  induction fuel with
  | zero =>
    intro l a w hs hc hI
    have hr : Region.ready md ops l = [] := by
      rw [List.eq_nil_iff_forall_not_mem]
      intro j hj
      rw [mem_ready] at hj
      obtain ⟨h0, o, ho, _⟩ := hj
      have hjl : j < l.size := by rw [hs]; exact (Array.getElem?_eq_some_iff.1 ho).1
      have : false ∈ l.toList := by
        simp [hjl] at h0
        rw [← h0]; exact Array.mem_toList_iff.2 (Array.getElem_mem hjl)
      have := List.count_pos_iff.2 this
      omega
    exact ⟨hr, hend l a w hI (ready_none hrow hs hr)⟩
  | succ fuel ih =>
    intro l a w hs hc hI
    refine ⟨fun hr => hend l a w hI (ready_none hrow hs hr), fun i hi => ?_⟩
    have hi' := hi
    rw [mem_ready] at hi
    obtain ⟨h0, o, ho, hall⟩ := hi
    have hil : i < l.size := by rw [hs]; exact (Array.getElem?_eq_some_iff.1 ho).1
    refine wpOp_step ho fun K' hK' => ?_
    refine hstep l a w hI i o ho (by simp [hil] at h0 ⊢; exact h0) hall K' fun a' w' hI' => hK' a' w' ?_
    refine ih _ a' w' (by simpa using hs) ?_ hI'
    have h1 : l.toList[i]'(by simpa using hil) = false := by simp [hil] at h0; simpa using h0
    have h2 := List.count_set (a := true) (b := false) (l := l.toList) (i := i) (by simpa using hil)
    rw [h1] at h2
    have hpos : 0 < l.toList.count false := List.count_pos_iff.2 (by rw [← h1]; exact List.getElem_mem _)
    rw [Array.toList_setIfInBounds, h2, if_pos (by rfl), if_neg (by decide)]
    omega
end
end Go.Proofs.YtojcefkigcdkiaaDoor

namespace Go.Proofs.YtojcefkigcdkiaaDoor

section
variable {P : Program} {ops : Array Oper} {Q : Exit → Act → World → Prop} {md : Region.Mode}
/-- Every operation stands behind those that it waits for. -/
def inRow2 (md : Region.Mode) (ops : Array Oper) : Bool := (List.range ops.size).all fun j => match ops[j]? with
  | some o => o.after.all fun e => !Region.binds md e || decide (e.on < j)
  | none => true
theorem inRow2_at (h : inRow2 md ops = true) {j : Nat} {o : Oper} (ho : ops[j]? = some o) : ∀ e ∈ o.after, Region.binds md e = true → e.on < j := by
  have hj : j < ops.size := (Array.getElem?_eq_some_iff.1 ho).1
  have := List.all_eq_true.1 h j (List.mem_range.2 hj)
  simp only [ho] at this
  intro e he hb
  have h2 := Array.all_eq_true_iff_forall_mem.1 this e he
  rw [hb] at h2
  simpa using h2
theorem ready_none2 (h : inRow2 md ops = true) {l : Array Bool} (hs : l.size = ops.size) (hr : Region.ready md ops l = []) : ∀ j, j < ops.size → l.getD j false = true := by
  intro j
  induction j using Nat.strongRecOn with
  | ind j ih =>
    intro hj
    cases hl : l.getD j false with
    | true => rfl
    | false =>
      have hj2 : j < l.size := by omega
      have hm : j ∈ Region.ready md ops l := by
        rw [mem_ready]
        refine ⟨by simp [hj2] at hl ⊢; exact hl, ops[j], by simp [hj], fun e he hb => ?_⟩
        have := inRow2_at h (j := j) (o := ops[j]) (by simp [hj]) e he hb
        exact ih e.on this (by omega)
      rw [hr] at hm; cases hm
theorem wpAny_inv2 (Inv : Array Bool → Act → World → Prop) (hrow : inRow2 md ops = true)
    (hend : ∀ l a w, Inv l a w → (∀ j, j < ops.size → l.getD j false = true) → Q .normal a w)
    (hstep : ∀ l a w, Inv l a w → ∀ i o, ops[i]? = some o → l.getD i false = false → (∀ e ∈ o.after, Region.binds md e = true → l.getD e.on false = true) →
      ∀ K' : Act → World → Prop, (∀ a w, Inv (l.setIfInBounds i true) a w → K' a w) → if Region.wanted o (yielded ops a.tmps) = true then Oper.wp P o a w K' Q else K' (a.put o.dst undef) w) :
    ∀ (fuel : Nat) (l : Array Bool) (a : Act) (w : World), l.size = ops.size → l.toList.count false ≤ fuel → Inv l a w → wpAny P md ops Q fuel l a w := by
  intro fuel
  induction fuel with
  | zero =>
    intro l a w hs hc hI
    have hr : Region.ready md ops l = [] := by
      rw [List.eq_nil_iff_forall_not_mem]
      intro j hj
      rw [mem_ready] at hj
      obtain ⟨h0, o, ho, _⟩ := hj
      have hjl : j < l.size := by rw [hs]; exact (Array.getElem?_eq_some_iff.1 ho).1
      have : false ∈ l.toList := by
        simp [hjl] at h0
        rw [← h0]; exact Array.mem_toList_iff.2 (Array.getElem_mem hjl)
      have := List.count_pos_iff.2 this
      omega
    exact ⟨hr, hend l a w hI (ready_none2 hrow hs hr)⟩
  | succ fuel ih =>
    intro l a w hs hc hI
    refine ⟨fun hr => hend l a w hI (ready_none2 hrow hs hr), fun i hi => ?_⟩
    have hi' := hi
    rw [mem_ready] at hi
    obtain ⟨h0, o, ho, hall⟩ := hi
    have hil : i < l.size := by rw [hs]; exact (Array.getElem?_eq_some_iff.1 ho).1
    refine wpOp_step ho fun K' hK' => ?_
    refine hstep l a w hI i o ho (by simp [hil] at h0 ⊢; exact h0) hall K' fun a' w' hI' => hK' a' w' ?_
    refine ih _ a' w' (by simpa using hs) ?_ hI'
    have h1 : l.toList[i]'(by simpa using hil) = false := by simp [hil] at h0; simpa using h0
    have h2 := List.count_set (a := true) (b := false) (l := l.toList) (i := i) (by simpa using hil)
    rw [h1] at h2
    have hpos : 0 < l.toList.count false := List.count_pos_iff.2 (by rw [← h1]; exact List.getElem_mem _)
    rw [Array.toList_setIfInBounds, h2, if_pos (by rfl), if_neg (by decide)]
    omega
end

def dstOf (ops : Array Oper) (j : Nat) : Option Nat := match ops[j]? with
  | some o => o.dst
  | none => none
/-- The value that operation j has left. -/
def valOf (ops : Array Oper) (c : Act) (j : Nat) : Value := match dstOf ops j with
  | some d => c.tmps.getD d undef
  | none => undef
def SameBut (ops : Array Oper) (A c : Act) : Prop := c.tmps.size = A.tmps.size ∧ c.defers = A.defers ∧ ∀ s, (∀ j, dstOf ops j ≠ some s) → c.tmps.getD s undef = A.tmps.getD s undef
/-- No two operations write one slot. -/
def apartB (ops : Array Oper) : Bool := (List.range ops.size).all fun i => (List.range ops.size).all fun j => decide (i = j) || (match dstOf ops i, dstOf ops j with
  | some a, some b => decide (a ≠ b)
  | _, _ => true)
theorem dst_lt {ops : Array Oper} {j d : Nat} (h : dstOf ops j = some d) : j < ops.size := by
  unfold dstOf at h
  by_cases e : j < ops.size
  · exact e
  · rw [Array.getElem?_eq_none (by omega)] at h; cases h
theorem apart_at {ops : Array Oper} (h : apartB ops = true) {i j d : Nat} (hi : dstOf ops i = some d) (hj : dstOf ops j = some d) : i = j := by
  have h1 := List.all_eq_true.1 h i (List.mem_range.2 (dst_lt hi))
  have h2 := List.all_eq_true.1 h1 j (List.mem_range.2 (dst_lt hj))
  rw [hi, hj] at h2
  simpa using h2
/-- What waits for an operation is not listed before it. -/
def Closed (ops : Array Oper) (l : Array Bool) : Prop := ∀ j o, ops[j]? = some o → l.getD j false = true → ∀ e ∈ o.after, Region.binds .any e = true → l.getD e.on false = true
theorem Closed.step {ops : Array Oper} {l : Array Bool} (h : Closed ops l) (i : Nat) (o : Oper) (ho : ops[i]? = some o) (hall : ∀ e ∈ o.after, Region.binds .any e = true → l.getD e.on false = true) : Closed ops (l.setIfInBounds i true) := by
  have mono : ∀ j, l.getD j false = true → (l.setIfInBounds i true).getD j false = true := by
    intro j hj
    by_cases e : i = j
    · subst e
      by_cases hi : i < l.size
      · simp [hi]
      · simp [hi] at hj
    · simpa [Array.getElem?_setIfInBounds_ne e] using hj
  intro j o' ho' hl e he hb
  by_cases e2 : j = i
  · subst e2
    rw [ho] at ho'; cases ho'
    exact mono _ (hall e he hb)
  · have hl2 : l.getD j false = true := by simpa [Array.getElem?_setIfInBounds_ne (Ne.symm e2)] using hl
    exact mono _ (h j o' ho' hl2 e he hb)
/-- Does j wait for i? -/
def waitsB (ops : Array Oper) (j i : Nat) : Bool := match ops[j]? with
  | some o => o.after.any fun e => decide (e.on = i) && Region.binds .any e
  | none => false
theorem Closed.unlisted {ops : Array Oper} {l : Array Bool} (h : Closed ops l) {i j : Nat} (hi : l.getD i false = false) (hw : waitsB ops j i = true) : l.getD j false = false := by
  unfold waitsB at hw
  cases ho : ops[j]? with
  | none => rw [ho] at hw; cases hw
  | some o =>
    rw [ho] at hw
    simp only at hw
    rw [Array.any_eq_true] at hw
    obtain ⟨q, hq, he⟩ := hw
    rw [Bool.and_eq_true, decide_eq_true_iff] at he
    cases hl : l.getD j false with
    | false => rfl
    | true =>
      have := h j o ho hl o.after[q] (Array.getElem_mem hq) he.2
      rw [he.1, hi] at this; cases this
def RInv (ops : Array Oper) (A : Act) (F : Nat → Value → World → Prop) (S : World → Prop) (l : Array Bool) (c : Act) (w : World) : Prop :=
  SameBut ops A c ∧ S w ∧ (l.size = ops.size ∧ Closed ops l) ∧ ∀ j, j < ops.size → l.getD j false = true → F j (valOf ops c j) w
theorem RInv.start {ops : Array Oper} {A : Act} {F : Nat → Value → World → Prop} {S : World → Prop} {w : World} (h : S w) : RInv ops A F S (Array.replicate ops.size false) A w :=
  ⟨⟨rfl, rfl, fun _ _ => rfl⟩, h, ⟨by simp, fun j o ho hl => by simp [Array.getElem?_replicate] at hl; split at hl <;> simp at hl⟩, fun j hj hl => by simp [hj] at hl⟩
theorem put_getD (c : Act) (d s : Nat) (v : Value) (hd : d < c.tmps.size) : (c.put (some d) v).tmps.getD s undef = if d = s then v else c.tmps.getD s undef := by
  show (c.tmps.setIfInBounds d v).getD s undef = _
  by_cases e : d = s
  · subst e; rw [if_pos rfl]; simp [Array.getD_eq_getD_getElem?, hd]
  · rw [if_neg e]; simp [Array.getD_eq_getD_getElem?, Array.getElem?_setIfInBounds_ne e]
theorem RInv.step {ops : Array Oper} {A c : Act} {F : Nat → Value → World → Prop} {S : World → Prop} {l : Array Bool} {w w' : World} (hI : RInv ops A F S l c w) (ha : apartB ops = true) (i d : Nat) (hd : dstOf ops i = some d) (hda : d < A.tmps.size)
    (v : Value) (o : Oper) (ho : ops[i]? = some o) (hall : ∀ e ∈ o.after, Region.binds .any e = true → l.getD e.on false = true) (hS : S w') (hm : ∀ j u, F j u w → F j u w') (hv : F i v w') : RInv ops A F S (l.setIfInBounds i true) (c.put (some d) v) w' := by
  obtain ⟨⟨h1, h2, h3⟩, _, h5, h6⟩ := hI
  refine ⟨⟨?_, h2, ?_⟩, hS, ⟨by simpa using h5.1, h5.2.step i o ho hall⟩, ?_⟩
  · show (c.tmps.setIfInBounds d v).size = _; simpa using h1
  · intro s hs
    rw [put_getD c d s v (by omega), if_neg (fun e => hs i (by rw [hd, e]))]
    exact h3 s hs
  · intro j hj hl
    by_cases e : j = i
    · subst e
      have : valOf ops (c.put (some d) v) j = v := by unfold valOf; rw [hd]; simp only; rw [put_getD c d d v (by omega), if_pos rfl]
      rw [this]; exact hv
    · have hl2 : l.getD j false = true := by simpa [Array.getElem?_setIfInBounds_ne (Ne.symm e)] using hl
      have : valOf ops (c.put (some d) v) j = valOf ops c j := by
        unfold valOf
        cases hj2 : dstOf ops j with
        | none => rfl
        | some b =>
          simp only
          rw [put_getD c d b v (by omega), if_neg (fun x => e (apart_at ha (by rw [hj2, x]) hd))]
      rw [this]; exact hm j _ (h6 j hj hl2)
theorem RInv.stepN {ops : Array Oper} {A c : Act} {F : Nat → Value → World → Prop} {S : World → Prop} {l : Array Bool} {w w' : World} (hI : RInv ops A F S l c w) (i : Nat) (hd : dstOf ops i = none) (o : Oper) (ho : ops[i]? = some o) (hall : ∀ e ∈ o.after, Region.binds .any e = true → l.getD e.on false = true)
    (hS : S w') (hm : ∀ j u, F j u w → F j u w') (hv : F i undef w') : RInv ops A F S (l.setIfInBounds i true) c w' := by
  obtain ⟨h123, _, h5, h6⟩ := hI
  refine ⟨h123, hS, ⟨by simpa using h5.1, h5.2.step i o ho hall⟩, ?_⟩
  intro j hj hl
  by_cases e : j = i
  · subst e
    have : valOf ops c j = undef := by unfold valOf; rw [hd]
    rw [this]; exact hv
  · have hl2 : l.getD j false = true := by simpa [Array.getElem?_setIfInBounds_ne (Ne.symm e)] using hl
    exact hm j _ (h6 j hj hl2)
/-- The fact of an operation that is listed, at its slot. -/
theorem RInv.fact {ops : Array Oper} {A c : Act} {F : Nat → Value → World → Prop} {S : World → Prop} {l : Array Bool} {w : World} (hI : RInv ops A F S l c w) (j d : Nat) (hd : dstOf ops j = some d) (hl : l.getD j false = true) : F j (c.tmps.getD d undef) w := by
  have := hI.2.2.2 j (dst_lt hd) hl
  unfold valOf at this; rw [hd] at this; exact this
/-- Other facts, if they hold of all that is listed. -/
theorem RInv.other {ops : Array Oper} {A c : Act} {F F' : Nat → Value → World → Prop} {S : World → Prop} {l : Array Bool} {w : World} (hI : RInv ops A F S l c w) (h : ∀ j, l.getD j false = true → ∀ u, F j u w → F' j u w) : RInv ops A F' S l c w :=
  ⟨hI.1, hI.2.1, hI.2.2.1, fun j hj hl => h j hl _ (hI.2.2.2 j hj hl)⟩
/-- A slot that the region does not write. -/
def freeB (ops : Array Oper) (s : Nat) : Bool := (List.range ops.size).all fun j => match dstOf ops j with
  | some d => decide (d ≠ s)
  | none => true
theorem RInv.slot {ops : Array Oper} {A c : Act} {F : Nat → Value → World → Prop} {S : World → Prop} {l : Array Bool} {w : World} (hI : RInv ops A F S l c w) (s : Nat) (hs : freeB ops s = true) : c.tmps.getD s undef = A.tmps.getD s undef := by
  refine hI.1.2.2 s fun j e => ?_
  have := List.all_eq_true.1 hs j (List.mem_range.2 (dst_lt e))
  rw [e] at this
  simp at this
end Go.Proofs.YtojcefkigcdkiaaDoor

namespace Go.Proofs.YtojcefkigcdkiaaDoor

def Fresh (ops : Array Oper) (A : Act) (l : Array Bool) (c : Act) : Prop := ∀ j d, dstOf ops j = some d → l.getD j false = false → c.tmps.getD d undef = A.tmps.getD d undef
def RInvF (ops : Array Oper) (A : Act) (F : Nat → Value → World → Prop) (S : World → Prop) (l : Array Bool) (c : Act) (w : World) : Prop := RInv ops A F S l c w ∧ Fresh ops A l c
theorem list_other {l : Array Bool} {i j : Nat} (h : (l.setIfInBounds i true).getD j false = false) (hi : i < l.size) : j ≠ i ∧ l.getD j false = false := by
  by_cases e : i = j
  · subst e; simp [hi] at h
  · exact ⟨fun x => e x.symm, by simpa [Array.getElem?_setIfInBounds_ne e] using h⟩
theorem RInvF.start {ops : Array Oper} {A : Act} {F : Nat → Value → World → Prop} {S : World → Prop} {w : World} (h : S w) : RInvF ops A F S (Array.replicate ops.size false) A w :=
  ⟨RInv.start h, fun _ _ _ _ => rfl⟩
theorem RInvF.step {ops : Array Oper} {A c : Act} {F : Nat → Value → World → Prop} {S : World → Prop} {l : Array Bool} {w w' : World} (hI : RInvF ops A F S l c w) (ha : apartB ops = true) (i d : Nat) (hd : dstOf ops i = some d) (hda : d < A.tmps.size)
    (v : Value) (o : Oper) (ho : ops[i]? = some o) (hall : ∀ e ∈ o.after, Region.binds .any e = true → l.getD e.on false = true) (hS : S w') (hm : ∀ j u, F j u w → F j u w') (hv : F i v w') : RInvF ops A F S (l.setIfInBounds i true) (c.put (some d) v) w' := by
  refine ⟨hI.1.step ha i d hd hda v o ho hall hS hm hv, ?_⟩
  intro j e hj hl
  obtain ⟨h1, h2⟩ := list_other hl (by rw [hI.1.2.2.1.1]; exact dst_lt hd)
  rw [put_getD c d e v (by rw [hI.1.1.1]; exact hda), if_neg (fun x => h1 (apart_at ha (by rw [hj, x]) hd))]
  exact hI.2 j e hj h2
theorem RInvF.stepN {ops : Array Oper} {A c : Act} {F : Nat → Value → World → Prop} {S : World → Prop} {l : Array Bool} {w w' : World} (hI : RInvF ops A F S l c w) (i : Nat) (hd : dstOf ops i = none) (o : Oper) (ho : ops[i]? = some o) (hall : ∀ e ∈ o.after, Region.binds .any e = true → l.getD e.on false = true)
    (hS : S w') (hm : ∀ j u, F j u w → F j u w') (hv : F i undef w') : RInvF ops A F S (l.setIfInBounds i true) c w' := by
  refine ⟨hI.1.stepN i hd o ho hall hS hm hv, ?_⟩
  intro j e hj hl
  obtain ⟨h1, h2⟩ := list_other hl (by rw [hI.1.2.2.1.1]; exact (Array.getElem?_eq_some_iff.1 ho).1)
  exact hI.2 j e hj h2
theorem RInvF.fact {ops : Array Oper} {A c : Act} {F : Nat → Value → World → Prop} {S : World → Prop} {l : Array Bool} {w : World} (hI : RInvF ops A F S l c w) (j d : Nat) (hd : dstOf ops j = some d) (hl : l.getD j false = true) : F j (c.tmps.getD d undef) w := hI.1.fact j d hd hl
theorem RInvF.slot {ops : Array Oper} {A c : Act} {F : Nat → Value → World → Prop} {S : World → Prop} {l : Array Bool} {w : World} (hI : RInvF ops A F S l c w) (s : Nat) (hs : freeB ops s = true) : c.tmps.getD s undef = A.tmps.getD s undef := hI.1.slot s hs
end Go.Proofs.YtojcefkigcdkiaaDoor

namespace Go.Proofs.YtojcefkigcdkiaaDoor

theorem RInv.stepL {ops : Array Oper} {A c : Act} {F : Nat → Value → World → Prop} {S : World → Prop} {l : Array Bool} {w w' : World} (hI : RInv ops A F S l c w) (ha : apartB ops = true) (i d : Nat) (hd : dstOf ops i = some d) (hda : d < A.tmps.size)
    (v : Value) (o : Oper) (ho : ops[i]? = some o) (hall : ∀ e ∈ o.after, Region.binds .any e = true → l.getD e.on false = true) (hS : S w') (hm : ∀ j, l.getD j false = true → ∀ u, F j u w → F j u w') (hv : F i v w') : RInv ops A F S (l.setIfInBounds i true) (c.put (some d) v) w' := by
  obtain ⟨⟨h1, h2, h3⟩, _, h5, h6⟩ := hI
  refine ⟨⟨?_, h2, ?_⟩, hS, ⟨by simpa using h5.1, h5.2.step i o ho hall⟩, ?_⟩
  · show (c.tmps.setIfInBounds d v).size = _; simpa using h1
  · intro s hs
    rw [put_getD c d s v (by omega), if_neg (fun e => hs i (by rw [hd, e]))]
    exact h3 s hs
  · intro j hj hl
    by_cases e : j = i
    · subst e
      have : valOf ops (c.put (some d) v) j = v := by unfold valOf; rw [hd]; simp only; rw [put_getD c d d v (by omega), if_pos rfl]
      rw [this]; exact hv
    · have hl2 : l.getD j false = true := by simpa [Array.getElem?_setIfInBounds_ne (Ne.symm e)] using hl
      have : valOf ops (c.put (some d) v) j = valOf ops c j := by
        unfold valOf
        cases hj2 : dstOf ops j with
        | none => rfl
        | some b =>
          simp only
          rw [put_getD c d b v (by omega), if_neg (fun x => e (apart_at ha (by rw [hj2, x]) hd))]
      rw [this]; exact hm j hl2 _ (h6 j hj hl2)
theorem RInv.stepNL {ops : Array Oper} {A c : Act} {F : Nat → Value → World → Prop} {S : World → Prop} {l : Array Bool} {w w' : World} (hI : RInv ops A F S l c w) (i : Nat) (hd : dstOf ops i = none) (o : Oper) (ho : ops[i]? = some o) (hall : ∀ e ∈ o.after, Region.binds .any e = true → l.getD e.on false = true)
    (hS : S w') (hm : ∀ j, l.getD j false = true → ∀ u, F j u w → F j u w') (hv : F i undef w') : RInv ops A F S (l.setIfInBounds i true) c w' := by
  obtain ⟨h123, _, h5, h6⟩ := hI
  refine ⟨h123, hS, ⟨by simpa using h5.1, h5.2.step i o ho hall⟩, ?_⟩
  intro j hj hl
  by_cases e : j = i
  · subst e
    have : valOf ops c j = undef := by unfold valOf; rw [hd]
    rw [this]; exact hv
  · have hl2 : l.getD j false = true := by simpa [Array.getElem?_setIfInBounds_ne (Ne.symm e)] using hl
    exact hm j hl2 _ (h6 j hj hl2)
theorem listed_set {l : Array Bool} {i j : Nat} (h : (l.setIfInBounds i true).getD j false = false) : l.getD j false = false := by
  by_cases e : i = j
  · subst e
    by_cases hi : i < l.size
    · simp [hi] at h
    · simp [hi]
  · simpa [Array.getElem?_setIfInBounds_ne e] using h
theorem listed_at {l : Array Bool} {i j : Nat} (h : (l.setIfInBounds i true).getD j false = false) (hi : i < l.size) : j ≠ i := by
  rintro rfl
  simp [hi] at h
end Go.Proofs.YtojcefkigcdkiaaDoor

namespace Go.Proofs.YtojcefkigcdkiaaDoor

theorem RInv.lt {ops : Array Oper} {A c : Act} {F : Nat → Value → World → Prop} {S : World → Prop} {l : Array Bool} {w : World} (hI : RInv ops A F S l c w) {j : Nat} (h : l.getD j false = true) : j < ops.size := by
  rw [← hI.2.2.1.1]
  by_cases e : j < l.size
  · exact e
  · simp [e] at h
theorem yes_no {l : Array Bool} {j k : Nat} (h : l.getD j false = true) (h2 : l.getD k false = false) : j ≠ k := by
  rintro rfl; rw [h] at h2; cases h2
theorem listed {l : Array Bool} {af : Array Edge} (hall : ∀ e ∈ af, Region.binds .any e = true → l.getD e.on false = true) (k : Nat) (h : (af.any fun e => decide (e.on = k) && Region.binds .any e) = true) : l.getD k false = true := by
  rw [Array.any_eq_true] at h
  obtain ⟨q, hq, he⟩ := h
  rw [Bool.and_eq_true, decide_eq_true_iff] at he
  rw [← he.1]
  exact hall _ (Array.getElem_mem hq) he.2

theorem frame_list (ct : Array Value) (n : Nat) (h : ct.size = n) : ct = ((List.range n).map fun i => ct.getD i undef).toArray := by
  apply Array.ext
  · simp [h]
  · intro i h1 h2
    simp [Array.getD_eq_getD_getElem?, h1]
/-- The operations of a region. -/
def regOps : Code → Nat → Option (Array Oper)
  | .region i ops _, n => if i = n then some ops else none
  | .seq a b, n => match regOps a n with
    | some x => some x
    | none => regOps b n
  | .cond _ a b, n => match regOps a n with
    | some x => some x
    | none => regOps b n
  | .block _ b, n => regOps b n
  | .loop b, n => regOps b n
  | .scope b, n => regOps b n
  | .rangeFunc _ _ a b, n => match regOps a n with
    | some x => some x
    | none => regOps b n
  | _, _ => none
theorem wpAny_ops {P : Program} {md : Region.Mode} {ops ops' : Array Oper} {Q : Exit → Act → World → Prop} {A : Act} {w : World} (h : ops' = ops) (k : wpAny P md ops' Q ops'.size (Array.replicate ops'.size false) A w) :
    wpAny P md ops Q ops.size (Array.replicate ops.size false) A w := by subst h; exact k
theorem wp_code {P : Program} {c c' : Code} {Q : Exit → Act → World → Prop} {a : Act} {w : World} (h : c' = c) (k : c'.wp P Q a w) : c.wp P Q a w := by subst h; exact k
/-- The statement that is block n. -/
def blkOf : Code → Nat → Option Code
  | .block i b, n => if i = n then some (.block i b) else blkOf b n
  | .seq a b, n => match blkOf a n with
    | some x => some x
    | none => blkOf b n
  | .cond _ a b, n => match blkOf a n with
    | some x => some x
    | none => blkOf b n
  | .loop b, n => blkOf b n
  | .scope b, n => blkOf b n
  | .rangeFunc _ _ a b, n => match blkOf a n with
    | some x => some x
    | none => blkOf b n
  | _, _ => none
/-- The if whose test lies in slot n. -/
def ifOf : Code → Nat → Option Code
  | .cond (.tmp i) a b, n => if i = n then some (.cond (.tmp i) a b) else match ifOf a n with
    | some x => some x
    | none => ifOf b n
  | .cond _ a b, n => match ifOf a n with
    | some x => some x
    | none => ifOf b n
  | .seq a b, n => match ifOf a n with
    | some x => some x
    | none => ifOf b n
  | .block _ b, n => ifOf b n
  | .loop b, n => ifOf b n
  | .scope b, n => ifOf b n
  | .rangeFunc _ _ a b, n => match ifOf a n with
    | some x => some x
    | none => ifOf b n
  | _, _ => none
/-- Some values in some slots. -/
def ExAll : List Nat → Array Value → (Array Value → Prop) → Prop
  | [], t, p => p t
  | d :: ds, t, p => ∃ x, ExAll ds (t.setIfInBounds d x) p
def coverB (ops : Array Oper) (ds : List Nat) : Bool := (List.range ops.size).all fun j => match dstOf ops j with
  | some d => ds.contains d
  | none => true
theorem exAll_of (c : Array Value) (p : Array Value → Prop) (hp : p c) : ∀ (ds : List Nat) (t : Array Value), c.size = t.size → (∀ s, s ∉ ds → c.getD s undef = t.getD s undef) → ExAll ds t p
  | [], t, hsz, h => by
    have : c = t := by
      apply Array.ext hsz
      intro i h1 h2
      have := h i (by simp)
      simpa [Array.getD_eq_getD_getElem?, h1, h2] using this
    show p t
    rw [← this]; exact hp
  | d :: ds, t, hsz, h => by
    refine ⟨c.getD d undef, exAll_of c p hp ds _ (by simpa using hsz) fun s hs => ?_⟩
    by_cases e : d = s
    · subst e
      by_cases hd : d < t.size
      · simp [Array.getD_eq_getD_getElem?, hd]
      · have hd2 : ¬ d < c.size := by omega
        simp [Array.getD_eq_getD_getElem?, hd, hd2]
    · rw [h s (by simp; exact ⟨fun x => e x.symm, hs⟩)]
      simp [Array.getD_eq_getD_getElem?, Array.getElem?_setIfInBounds_ne e]
theorem SameBut.ex {ops : Array Oper} {A c : Act} (h : SameBut ops A c) (ds : List Nat) (hc : coverB ops ds = true) : ExAll ds A.tmps fun t => c = ⟨t, A.defers⟩ := by
  obtain ⟨h1, h2, h3⟩ := h
  refine exAll_of c.tmps _ (by rw [← h2]) ds A.tmps h1 fun s hs => h3 s fun j hj => hs ?_
  have := List.all_eq_true.1 hc j (List.mem_range.2 (dst_lt hj))
  rw [hj] at this
  simpa using this

theorem SameBut.exAt {ops : Array Oper} {A c : Act} (h : SameBut ops A c) (ds : List Nat) (d : Nat) (hc : coverB ops (d :: ds) = true) : ExAll ds A.tmps fun t => c = ⟨t.setIfInBounds d (c.tmps.getD d undef), A.defers⟩ := by
  obtain ⟨h1, h2, h3⟩ := h
  refine exAll_of (c.tmps.setIfInBounds d (A.tmps.getD d undef)) _ ?_ ds A.tmps (by simpa using h1) fun s hs => ?_
  · have : (c.tmps.setIfInBounds d (A.tmps.getD d undef)).setIfInBounds d (c.tmps.getD d undef) = c.tmps := by
      apply Array.ext (by simp)
      intro i k1 k2
      by_cases e : d = i
      · subst e; simp [Array.getD_eq_getD_getElem?, k2]
      · rw [Array.getElem_setIfInBounds_ne _ e, Array.getElem_setIfInBounds_ne _ e]
        all_goals simpa using k2
    rw [this, ← h2]
  · by_cases e : d = s
    · subst e
      by_cases hd : d < c.tmps.size
      · simp [Array.getD_eq_getD_getElem?, hd]
      · have hd2 : ¬ d < A.tmps.size := by omega
        simp [Array.getD_eq_getD_getElem?, hd, hd2]
    · rw [← h3 s fun j hj => ?_]
      · simp [Array.getD_eq_getD_getElem?, Array.getElem?_setIfInBounds_ne e]
      · have := List.all_eq_true.1 hc j (List.mem_range.2 (dst_lt hj))
        rw [hj] at this
        simp at this
        rcases this with rfl | this
        · exact e rfl
        · exact hs this
end Go.Proofs.YtojcefkigcdkiaaDoor
