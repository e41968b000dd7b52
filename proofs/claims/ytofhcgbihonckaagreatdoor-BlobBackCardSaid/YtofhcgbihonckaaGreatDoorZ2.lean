/- Memory: a block known whole, and what a call leaves as it was. | A map of texts to numbers. | A region that draws its order, by an invariant: whichever operation comes next, it keeps what is known. | A region that draws its order, by an invariant: the frame is known but for the slots that the region writes, and of each operation that is listed a fact of its value is known. | As AnyP; besides, a slot of an operation that is not listed yet is as it was. | As AnyP: a step that need keep the facts of what is listed alone. | A drawn region's lemma at the walk: the operations of a region and the statements of a function by their numbers; the frame behind a region written out. | Drawn regions: what waits for what, at any distance; lists with one more entry. | What the library's variable holds. -/
import Derived.Test.YtofhcgbihonckaaGreatDoorRows
import Derived.WalkKit
import Derived.WalkSpells
import Derived.Lib.Hide
import Derived.OneCell
import Derived.Deep.Draws
import Derived.StringKeys
import Derived.Carry
import Derived.MapKept
import Derived.RegionTactic

set_option linter.unusedVariables false
set_option linter.unusedSimpArgs false
set_option linter.unusedSectionVars false

namespace Go.Proofs.YtofhcgbihonckaaGreatDoor
open Go.RowKit

/-- Block b holds just these cells. -/
def Holds (w : World) (b : Nat) (cs : Array Value) (t : TypeId) : Prop := w.heap[b]? = some (.cells cs t (0, 0))

section
variable {w w' : World} {b : Nat} {cs : Array Value} {t : TypeId}
theorem Holds.out (h : Holds w b cs t) : w.heap[b]? = some (.cells cs t (0, 0)) := h
theorem Holds.lt (h : Holds w b cs t) : b < w.heap.size := lt_of_block h
theorem Holds.cell (h : Holds w b cs t) (j : Nat) : w.cell? ⟨b, j, none⟩ = cs[j]? := cell_of_row w b j cs t (0, 0) h
theorem Holds.free (h : Holds w b cs t) (j : Nat) : w.frozen? ⟨b, j, none⟩ = false := by
  have h' : w.heap[b]? = some (.cells cs t (0, 0)) := h
  simp [World.frozen?, h']
theorem Holds.set (h : Holds w b cs t) (j : Nat) (v : Value) : Holds (w.setCell ⟨b, j, none⟩ v) b (cs.setIfInBounds j v) t :=
  heap_setCell_same w b j cs t v h
theorem Holds.other (h : Holds w b cs t) (a : Addr) (v : Value) (hne : b ≠ a.block) : Holds (w.setCell a v) b cs t :=
  (heap_setCell_other w a b v hne).trans h
theorem Holds.drewN (h : Holds w b cs t) (n : Nat) : Holds (w.drewN n) b cs t := h
theorem Holds.drew (h : Holds w b cs t) : Holds w.drew b cs t := h
theorem Holds.alloc (h : Holds w b cs t) (o : Obj) : Holds (w.alloc o) b cs t := (heap_alloc_old w o (lt_of_block h)).trans h
theorem Holds.new (w : World) (cs : Array Value) (t : TypeId) : Holds (w.alloc (.cells cs t)) w.heap.size cs t := heap_alloc_new w _
end

/-- Of the blocks that were there only those of S may have turned. -/
structure Keeps (S : Nat → Prop) (w w' : World) : Prop where
  os : w'.os = w.os
  tape : w'.tape = w.tape
  output : w'.output = w.output
  size : w.heap.size ≤ w'.heap.size
  block : ∀ k, k < w.heap.size → ¬ S k → w'.heap[k]? = w.heap[k]?

section
variable {S S' : Nat → Prop} {a w w' w'' : World}
theorem Keeps.refl (S : Nat → Prop) (w : World) : Keeps S w w := ⟨rfl, rfl, rfl, Nat.le_refl _, fun _ _ _ => rfl⟩
theorem Keeps.trans (h : Keeps S w w') (k : Keeps S' w' w'') (hs : ∀ i, i < w.heap.size → S' i → S i) : Keeps S w w'' :=
  ⟨k.os.trans h.os, k.tape.trans h.tape, k.output.trans h.output, Nat.le_trans h.size k.size,
   fun i hi hn => (k.block i (Nat.lt_of_lt_of_le hi h.size) (fun x => hn (hs i hi x))).trans (h.block i hi hn)⟩
theorem Keeps.mono (h : Keeps S' w w') (hs : ∀ i, i < w.heap.size → S' i → S i) : Keeps S w w' :=
  ⟨h.os, h.tape, h.output, h.size, fun i hi hn => h.block i hi (fun x => hn (hs i hi x))⟩
theorem Keeps.setCell (h : Keeps S a w) {p : Addr} (hp : a.heap.size ≤ p.block ∨ S p.block) (u : Value) : Keeps S a (w.setCell p u) :=
  ⟨h.os, h.tape, h.output, by simpa using h.size, fun i hi hn => (heap_setCell_other w p i u (by rintro rfl; rcases hp with hp | hp; exact absurd hi (by omega); exact hn hp)).trans (h.block i hi hn)⟩
theorem Keeps.alloc (h : Keeps S a w) (o : Obj) : Keeps S a (w.alloc o) :=
  ⟨h.os, h.tape, h.output, Nat.le_trans h.size (by simp), fun i hi hn => (heap_alloc_old w o (Nat.lt_of_lt_of_le hi h.size)).trans (h.block i hi hn)⟩
theorem Keeps.drewN (h : Keeps S a w) (n : Nat) : Keeps S a (w.drewN n) := ⟨h.os, h.tape, h.output, h.size, h.block⟩
theorem Keeps.drew (h : Keeps S a w) : Keeps S a w.drew := ⟨h.os, h.tape, h.output, h.size, h.block⟩
theorem Keeps.below {B : Nat} (h : Keeps S w w') (hB : B ≤ w.heap.size) (hs : ∀ i, i < B → ¬ S i) : Below B w w' :=
  ⟨h.os, h.tape, h.output, h.size, fun i hi => h.block i (by omega) (hs i hi)⟩
theorem Keeps.of_below {B : Nat} (h : Below B w w') : Keeps (fun i => B ≤ i) w w' := ⟨h.os, h.tape, h.output, h.size, fun i _ hn => h.block i (by omega)⟩
theorem Keeps.of_fresh (h : Below w.heap.size w w') (S : Nat → Prop) : Keeps S w w' := ⟨h.os, h.tape, h.output, h.size, fun i hi _ => h.block i hi⟩
theorem Keeps.of_grown {row : Option Nat} (h : w.grownBy w' row) (hs : ∀ i, row = some i → S i) : Keeps S w w' :=
  ⟨h.os, h.tape, h.output, h.size, fun i hi hn => h.block i hi (fun e => hn (hs i e.symm))⟩
theorem Keeps.grown {row : Option Nat} (k : Keeps S a w) (h : w.grownBy w' row) (hs : ∀ i, row = some i → a.heap.size ≤ i ∨ S i) : Keeps S a w' :=
  k.trans (S' := fun i => row = some i) ⟨h.os, h.tape, h.output, h.size, fun i hi hn => h.block i hi (fun e => hn e.symm)⟩ (fun i hi e => (hs i e).resolve_left (by omega))
theorem Keeps.cell (h : Keeps S w w') {p : Addr} (hp : p.block < w.heap.size) (hn : ¬ S p.block) : w'.cell? p = w.cell? p := World.cell?_of_block (w := w) (h.block p.block hp hn)
theorem Keeps.frozen (h : Keeps S w w') {p : Addr} (hp : p.block < w.heap.size) (hn : ¬ S p.block) : w'.frozen? p = w.frozen? p := World.frozen?_of_block (w := w) (h.block p.block hp hn)
theorem Holds.keeps {b : Nat} {cs : Array Value} {t : TypeId} (h : Holds w b cs t) (k : Keeps S w w') (hn : ¬ S b) : Holds w' b cs t := (k.block b (lt_of_block h) hn).trans h
theorem ownsRow_keeps {base : Nat} {e : TypeId} {size : Nat} {v : Value} {n : Nat} {xs : List Value} (h : w.ownsRow base e size v n xs) (k : Keeps S w w') (hs : ∀ g, v.ownBlock = some g → ¬ S g) : w'.ownsRow base e size v n xs := by
  refine ⟨h.1, ?_⟩
  rcases h.2 with hn | ⟨g, cap, cur, rfl, hb, hgg, rest⟩
  · exact .inl hn
  · refine .inr ⟨g, cap, cur, rfl, hb, ?_, rest⟩
    rw [k.block g (Array.getElem?_eq_some_iff.1 hgg).1 (hs g rfl)]
    exact hgg
end

/-- The cells of a block just made, as an append takes them. -/
theorem new_cells (w : World) (cs : Array Value) (t : TypeId) (n : Nat) (hn : n = w.heap.size) (xs : List Value) (hx : xs = cs.toList) :
    ∀ (j : Nat) (u : Value), xs[j]? = some u → (w.alloc (.cells cs t)).cell? ((⟨n, 0, none⟩ : Addr).add j) = some u := by
  subst hn hx
  intro j u hj
  have hadd : (⟨w.heap.size, 0, none⟩ : Addr).add j = ⟨w.heap.size, j, none⟩ := by unfold Addr.add; split <;> simp_all
  rw [hadd, (Holds.new w cs t).cell j]
  simpa using hj
theorem Holds.grown {w w' : World} {b : Nat} {cs : Array Value} {t : TypeId} {row : Option Nat} (h : Holds w b cs t) (g : w.grownBy w' row) (hn : row ≠ some b) : Holds w' b cs t :=
  (g.block b (lt_of_block h) (fun e => hn e.symm)).trans h
theorem ret_bool {a b : Bool} (h : a = b) : Ending.returned (.bool a) = .returned (.bool b) := by rw [h]
theorem ret_int {k : IntKind} {a b : Int} (h : a = b) : Ending.returned (.int k a) = .returned (.int k b) := by rw [h]
end Go.Proofs.YtofhcgbihonckaaGreatDoor

namespace Go.Proofs.YtofhcgbihonckaaGreatDoor
open Go.RowKit Go.ChangeMaps

theorem strLawI : WideMaps.KeyLaw Tryz.prog 9 := WideMaps.string_law Tryz.underlying9
theorem strKeyI (s : ByteArray) (h : s.size ≤ maxLen) : keyOf Tryz.prog 9 (.string s) = some (.string s.data.toList) := WideMaps.keyOf_string_mk Tryz.underlying9 h
/-- Block b maps these texts to these numbers. -/
def NumsAt (w : World) (b : Nat) (l : List (ByteArray × Int)) : Prop :=
  ∃ es clock, w.heap[b]? = some (.map es clock) ∧ es.toList.map (fun e => (e.key, e.val)) = l.map (fun p => (Value.string p.1, Value.int .i64 p.2)) ∧ (∀ p ∈ l, p.1.size ≤ 100000)
theorem NumsAt.keys {w : World} {l : List (ByteArray × Int)} {es : Array MapEntry} (hk : es.toList.map (fun e => (e.key, e.val)) = l.map (fun p => (Value.string p.1, Value.int .i64 p.2))) (hS : ∀ p ∈ l, p.1.size ≤ 100000) :
    ∀ e ∈ es.toList, ∃ q, keyOf Tryz.prog 9 e.key = some q := by
  intro e he
  have : (e.key, e.val) ∈ l.map (fun p => (Value.string p.1, Value.int .i64 p.2)) := by rw [← hk]; exact List.mem_map.2 ⟨e, he, rfl⟩
  obtain ⟨p, hp, e1⟩ := List.mem_map.1 this
  have e2 := (Prod.mk.injEq _ _ _ _ ▸ e1 : Value.string p.1 = e.key ∧ Value.int .i64 p.2 = e.val).1
  rw [← e2]
  exact ⟨_, strKeyI p.1 (by have := hS p hp; unfold maxLen; omega)⟩
theorem NumsAt.new (w : World) : NumsAt (w.alloc (.map #[] 0)) w.heap.size [] := ⟨#[], 0, heap_alloc_new w _, rfl, by simp⟩
theorem NumsAt.lt {w : World} {b : Nat} {l : List (ByteArray × Int)} (h : NumsAt w b l) : b < w.heap.size := by
  obtain ⟨es, clock, hb, _⟩ := h; exact lt_of_block hb
theorem NumsAt.block {w w' : World} {b : Nat} {l : List (ByteArray × Int)} (h : NumsAt w b l) (e : w'.heap[b]? = w.heap[b]?) : NumsAt w' b l := by
  obtain ⟨es, clock, hb, r⟩ := h
  exact ⟨es, clock, by rw [e]; exact hb, r⟩
theorem NumsAt.keeps {S : Nat → Prop} {w w' : World} {b : Nat} {l : List (ByteArray × Int)} (h : NumsAt w b l) (k : Keeps S w w') (hs : ¬ S b) : NumsAt w' b l := h.block (k.block b h.lt hs)
theorem NumsAt.put {w : World} {b : Nat} {l : List (ByteArray × Int)} (h : NumsAt w b l) (s : ByteArray) (v : Int) (hs : s.size ≤ 100000) (hn : ∀ p ∈ l, p.1 ≠ s) :
    ∃ o, (Instr.mapUpdate 100 (.map (some b)) (.string s) (.int .i64 v)).run Tryz.prog w = .ok () (setBlock w b o) ∧ NumsAt (setBlock w b o) b (l ++ [(s, v)]) := by
  obtain ⟨es, clock, hb, hk, hS⟩ := h
  have hl := strKeyI s (by unfold maxLen; omega)
  rcases strLawI.find w hl es.toList (NumsAt.keys (w := w) hk hS) with ⟨h1, h2⟩ | ⟨j, e0, h1, h2, h3⟩
  · refine ⟨.map (es.push ⟨.string s, .int .i64 v, clock⟩) (clock + 1), ?_, es.push ⟨.string s, .int .i64 v, clock⟩, clock + 1, heap_setBlock_same hb _, ?_, ?_⟩
    · simp [Instr.mapUpdate, run_underlying Tryz.underlying100, MapKept.run_getObj_map hb, strLawI.check w false hl, h1, MapKept.run_setObj_map _ hb, Result.andThen, setBlock]
    · simp [hk]
    · intro p hp
      rcases List.mem_append.1 hp with hp | hp
      · exact hS p hp
      · simp only [List.mem_singleton] at hp; subst hp; exact hs
  · exfalso
    have : (e0.key, e0.val) ∈ l.map (fun p => (Value.string p.1, Value.int .i64 p.2)) := by rw [← hk]; exact List.mem_map.2 ⟨e0, List.mem_of_getElem? h2, rfl⟩
    obtain ⟨p, hp, e1⟩ := List.mem_map.1 this
    have e2 := (Prod.mk.injEq _ _ _ _ ▸ e1 : Value.string p.1 = e0.key ∧ Value.int .i64 p.2 = e0.val).1
    rw [h3] at e2
    exact hn p hp (by injection e2)
/-- What is found under a text. -/
def numOf (l : List (ByteArray × Int)) (s : ByteArray) : Int × Bool := match l.find? (fun p => decide (p.1 = s)) with
  | some p => (p.2, true)
  | none => (0, false)
theorem NumsAt.look {w : World} {b : Nat} {l : List (ByteArray × Int)} (h : NumsAt w b l) (hd : (l.map (·.1)).Nodup) (s : ByteArray) (hs : s.size ≤ maxLen) :
    (Instr.lookup 100 (.map (some b)) (.string s) true).run Tryz.prog w = .ok (.tuple #[.int .i64 (numOf l s).1, .bool (numOf l s).2]) w := by
  obtain ⟨es, clock, hb, hk, hS⟩ := h
  have hl := strKeyI s hs
  have hz : (zeroValue 3).run Tryz.prog w = .ok (.int .i64 0) w := by kernel_rfl
  rcases strLawI.find w hl es.toList (NumsAt.keys (w := w) hk hS) with ⟨h1, h2⟩ | ⟨j, e0, h1, h2, h3⟩
  · have hm : numOf l s = (0, false) := by
      unfold numOf
      cases hf : l.find? (fun p => decide (p.1 = s)) with
      | none => rfl
      | some p =>
        exfalso
        have hp := List.mem_of_find?_eq_some hf
        have hps := List.find?_some hf
        simp only [decide_eq_true_eq] at hps
        have : (Value.string p.1, Value.int .i64 p.2) ∈ es.toList.map (fun e => (e.key, e.val)) := by rw [hk]; exact List.mem_map.2 ⟨p, hp, rfl⟩
        obtain ⟨e, he, e1⟩ := List.mem_map.1 this
        have e2 := (Prod.mk.injEq _ _ _ _ ▸ e1 : e.key = Value.string p.1 ∧ e.val = Value.int .i64 p.2).1
        exact h2 e he (by rw [e2, hps])
    rw [hm]
    simp [Instr.lookup, run_underlying Tryz.underlying100, MapKept.run_getObj_map hb, strLawI.check w _ hl, h1, hz, Result.andThen]
  · have hm : ∃ v, e0.val = .int .i64 v ∧ numOf l s = (v, true) := by
      have : (e0.key, e0.val) ∈ l.map (fun p => (Value.string p.1, Value.int .i64 p.2)) := by rw [← hk]; exact List.mem_map.2 ⟨e0, List.mem_of_getElem? h2, rfl⟩
      obtain ⟨p, hp, e1⟩ := List.mem_map.1 this
      have e2 := (Prod.mk.injEq _ _ _ _ ▸ e1 : Value.string p.1 = e0.key ∧ Value.int .i64 p.2 = e0.val)
      have e3 : p.1 = s := by have := e2.1; rw [h3] at this; injection this
      refine ⟨p.2, e2.2.symm, ?_⟩
      unfold numOf
      have hf : l.find? (fun q => decide (q.1 = s)) = some p := by
        obtain ⟨i, hi, rfl⟩ := List.getElem_of_mem hp
        rw [List.find?_eq_some_iff_getElem]
        refine ⟨by simp [e3], i, hi, rfl, fun j hj => ?_⟩
        simp only [Bool.not_eq_true', decide_eq_false_iff_not]
        intro e4
        have hjl : j < l.length := by omega
        have hne := List.pairwise_iff_getElem.1 hd j i (by simpa using hjl) (by simpa using hi) hj
        simp only [List.getElem_map] at hne
        exact hne (e4.trans e3.symm)
      rw [hf]
    obtain ⟨v, hv, hm⟩ := hm
    rw [hm]
    simp [Instr.lookup, run_underlying Tryz.underlying100, MapKept.run_getObj_map hb, strLawI.check w _ hl, h1, hv, Result.andThen]
theorem Keeps.putI {S : Nat → Prop} {a w : World} (h : Keeps S a w) {b : Nat} (o : Obj) (hb : a.heap.size ≤ b ∨ S b) : Keeps S a (setBlock w b o) :=
  ⟨h.os, h.tape, h.output, by simpa [setBlock] using h.size, fun i hi hn => by
    rw [← h.block i hi hn]; simp only [setBlock]; exact Array.getElem?_setIfInBounds_ne (by rintro rfl; rcases hb with hb | hb; omega; exact hn hb)⟩
end Go.Proofs.YtofhcgbihonckaaGreatDoor

namespace Go.Proofs.YtofhcgbihonckaaGreatDoor

section
variable {P : Program} {ops : Array Oper} {Q : Exit → Act → World → Prop} {md : Region.Mode}
/-- Every operation stands behind those that it waits for. -/
def inRow (ops : Array Oper) : Bool := (List.range ops.size).all fun j => match ops[j]? with
  | some o => o.after.all fun e => decide (e.on < j)
  | none => true
theorem inRow_at (h : inRow ops = true) {j : Nat} {o : Oper} (ho : ops[j]? = some o) : ∀ e ∈ o.after, e.on < j := by
  have hj : j < ops.size := (Array.getElem?_eq_some_iff.1 ho).1
  have := List.all_eq_true.1 h j (List.mem_range.2 hj)
  simp only [ho] at this
  intro e he
  exact of_decide_eq_true (Array.all_eq_true_iff_forall_mem.1 this e he)
theorem ready_none (h : inRow ops = true) {l : Array Bool} (hs : l.size = ops.size) (hr : Region.ready md ops l = []) : ∀ j, j < ops.size → l.getD j false = true := by
  intro j
  induction j using Nat.strongRecOn with
  | ind j ih =>
    intro hj
    cases hl : l.getD j false with
    | true => rfl
    | false =>
      have hj2 : j < l.size := by omega
      have hm : j ∈ Region.ready md ops l := by
        rw [mem_ready]
        refine ⟨by simp [hj2] at hl ⊢; exact hl, ops[j], by simp [hj], fun e he _ => ?_⟩
        have := inRow_at h (j := j) (o := ops[j]) (by simp [hj]) e he
        exact ih e.on this (by omega)
      rw [hr] at hm; cases hm
theorem wpAny_inv (Inv : Array Bool → Act → World → Prop) (hrow : inRow ops = true)
    (hend : ∀ l a w, Inv l a w → (∀ j, j < ops.size → l.getD j false = true) → Q .normal a w)
    (hstep : ∀ l a w, Inv l a w → ∀ i o, ops[i]? = some o → l.getD i false = false → (∀ e ∈ o.after, Region.binds md e = true → l.getD e.on false = true) →
      ∀ K' : Act → World → Prop, (∀ a w, Inv (l.setIfInBounds i true) a w → K' a w) → if Region.wanted o (yielded ops a.tmps) = true then Oper.wp P o a w K' Q else K' (a.put o.dst undef) w) :
    ∀ (fuel : Nat) (l : Array Bool) (a : Act) (w : World), l.size = ops.size → l.toList.count false ≤ fuel → Inv l a w → wpAny P md ops Q fuel l a w := by
  intro fuel
  induction fuel with
  | zero =>
    intro l a w hs hc hI
    have hr : Region.ready md ops l = [] := by
      rw [List.eq_nil_iff_forall_not_mem]
      intro j hj
      rw [mem_ready] at hj
      obtain ⟨h0, o, ho, _⟩ := hj
      have hjl : j < l.size := by rw [hs]; exact (Array.getElem?_eq_some_iff.1 ho).1
      have : false ∈ l.toList := by
        simp [hjl] at h0
        rw [← h0]; exact Array.mem_toList_iff.2 (Array.getElem_mem hjl)
      have := List.count_pos_iff.2 this
      omega
    exact ⟨hr, hend l a w hI (ready_none hrow hs hr)⟩
  | succ fuel ih =>
    intro l a w hs hc hI
    refine ⟨fun hr => hend l a w hI (ready_none hrow hs hr), fun i hi => ?_⟩
    have hi' := hi
    rw [mem_ready] at hi
    obtain ⟨h0, o, ho, hall⟩ := hi
    have hil : i < l.size := by rw [hs]; exact (Array.getElem?_eq_some_iff.1 ho).1
    refine wpOp_step ho fun K' hK' => ?_
    refine hstep l a w hI i o ho (by simp [hil] at h0 ⊢; exact h0) hall K' fun a' w' hI' => hK' a' w' ?_
    refine ih _ a' w' (by simpa using hs) ?_ hI'
    have h1 : l.toList[i]'(by simpa using hil) = false := by simp [hil] at h0; simpa using h0
    have h2 := List.count_set (a := true) (b := false) (l := l.toList) (i := i) (by simpa using hil)
    rw [h1] at h2
    have hpos : 0 < l.toList.count false := List.count_pos_iff.2 (by rw [← h1]; exact List.getElem_mem _)
    rw [Array.toList_setIfInBounds, h2, if_pos (by rfl), if_neg (by decide)]
    omega
end
end Go.Proofs.YtofhcgbihonckaaGreatDoor

namespace Go.Proofs.YtofhcgbihonckaaGreatDoor

section
variable {P : Program} {ops : Array Oper} {Q : Exit → Act → World → Prop} {md : Region.Mode}
/-- Every operation stands behind those that it waits for. -/
def inRow2 (md : Region.Mode) (ops : Array Oper) : Bool := (List.range ops.size).all fun j => match ops[j]? with
  | some o => o.after.all fun e => !Region.binds md e || decide (e.on < j)
  | none => true
theorem inRow2_at (h : inRow2 md ops = true) {j : Nat} {o : Oper} (ho : ops[j]? = some o) : ∀ e ∈ o.after, Region.binds md e = true → e.on < j := by
  have hj : j < ops.size := (Array.getElem?_eq_some_iff.1 ho).1
  have := List.all_eq_true.1 h j (List.mem_range.2 hj)
  simp only [ho] at this
  intro e he hb
  have h2 := Array.all_eq_true_iff_forall_mem.1 this e he
  rw [hb] at h2
  simpa using h2
theorem ready_none2 (h : inRow2 md ops = true) {l : Array Bool} (hs : l.size = ops.size) (hr : Region.ready md ops l = []) : ∀ j, j < ops.size → l.getD j false = true := by
  intro j
  induction j using Nat.strongRecOn with
  | ind j ih =>
    intro hj
    cases hl : l.getD j false with
    | true => rfl
    | false =>
      have hj2 : j < l.size := by omega
      have hm : j ∈ Region.ready md ops l := by
        rw [mem_ready]
        refine ⟨by simp [hj2] at hl ⊢; exact hl, ops[j], by simp [hj], fun e he hb => ?_⟩
        have := inRow2_at h (j := j) (o := ops[j]) (by simp [hj]) e he hb
        exact ih e.on this (by omega)
      rw [hr] at hm; cases hm
theorem wpAny_inv2 (Inv : Array Bool → Act → World → Prop) (hrow : inRow2 md ops = true)
    (hend : ∀ l a w, Inv l a w → (∀ j, j < ops.size → l.getD j false = true) → Q .normal a w)
    (hstep : ∀ l a w, Inv l a w → ∀ i o, ops[i]? = some o → l.getD i false = false → (∀ e ∈ o.after, Region.binds md e = true → l.getD e.on false = true) →
      ∀ K' : Act → World → Prop, (∀ a w, Inv (l.setIfInBounds i true) a w → K' a w) → if Region.wanted o (yielded ops a.tmps) = true then Oper.wp P o a w K' Q else K' (a.put o.dst undef) w) :
    ∀ (fuel : Nat) (l : Array Bool) (a : Act) (w : World), l.size = ops.size → l.toList.count false ≤ fuel → Inv l a w → wpAny P md ops Q fuel l a w := by
  intro fuel
  induction fuel with
  | zero =>
    intro l a w hs hc hI
    have hr : Region.ready md ops l = [] := by
      rw [List.eq_nil_iff_forall_not_mem]
      intro j hj
      rw [mem_ready] at hj
      obtain ⟨h0, o, ho, _⟩ := hj
      have hjl : j < l.size := by rw [hs]; exact (Array.getElem?_eq_some_iff.1 ho).1
      have : false ∈ l.toList := by
        simp [hjl] at h0
        rw [← h0]; exact Array.mem_toList_iff.2 (Array.getElem_mem hjl)
      have := List.count_pos_iff.2 this
      omega
    exact ⟨hr, hend l a w hI (ready_none2 hrow hs hr)⟩
  | succ fuel ih =>
    intro l a w hs hc hI
    refine ⟨fun hr => hend l a w hI (ready_none2 hrow hs hr), fun i hi => ?_⟩
    have hi' := hi
    rw [mem_ready] at hi
    obtain ⟨h0, o, ho, hall⟩ := hi
    have hil : i < l.size := by rw [hs]; exact (Array.getElem?_eq_some_iff.1 ho).1
    refine wpOp_step ho fun K' hK' => ?_
    refine hstep l a w hI i o ho (by simp [hil] at h0 ⊢; exact h0) hall K' fun a' w' hI' => hK' a' w' ?_
    refine ih _ a' w' (by simpa using hs) ?_ hI'
    have h1 : l.toList[i]'(by simpa using hil) = false := by simp [hil] at h0; simpa using h0
    have h2 := List.count_set (a := true) (b := false) (l := l.toList) (i := i) (by simpa using hil)
    rw [h1] at h2
    have hpos : 0 < l.toList.count false := List.count_pos_iff.2 (by rw [← h1]; exact List.getElem_mem _)
    rw [Array.toList_setIfInBounds, h2, if_pos (by rfl), if_neg (by decide)]
    omega
end

def dstOf (ops : Array Oper) (j : Nat) : Option Nat := match ops[j]? with
  | some o => o.dst
  | none => none
/-- The value that operation j has left. -/
def valOf (ops : Array Oper) (c : Act) (j : Nat) : Value := match dstOf ops j with
  | some d => c.tmps.getD d undef
  | none => undef
def SameBut (ops : Array Oper) (A c : Act) : Prop := c.tmps.size = A.tmps.size ∧ c.defers = A.defers ∧ ∀ s, (∀ j, dstOf ops j ≠ some s) → c.tmps.getD s undef = A.tmps.getD s undef
/-- No two operations write one slot. -/
def apartB (ops : Array Oper) : Bool := (List.range ops.size).all fun i => (List.range ops.size).all fun j => decide (i = j) || (match dstOf ops i, dstOf ops j with
  | some a, some b => decide (a ≠ b)
  | _, _ => true)
theorem dst_lt {ops : Array Oper} {j d : Nat} (h : dstOf ops j = some d) : j < ops.size := by
  unfold dstOf at h
  by_cases e : j < ops.size
  · exact e
  · rw [Array.getElem?_eq_none (by omega)] at h; cases h
theorem apart_at {ops : Array Oper} (h : apartB ops = true) {i j d : Nat} (hi : dstOf ops i = some d) (hj : dstOf ops j = some d) : i = j := by
  have h1 := List.all_eq_true.1 h i (List.mem_range.2 (dst_lt hi))
  have h2 := List.all_eq_true.1 h1 j (List.mem_range.2 (dst_lt hj))
  rw [hi, hj] at h2
  simpa using h2
/-- What waits for an operation is not listed before it. -/
def Closed (ops : Array Oper) (l : Array Bool) : Prop := ∀ j o, ops[j]? = some o → l.getD j false = true → ∀ e ∈ o.after, Region.binds .any e = true → l.getD e.on false = true
theorem Closed.step {ops : Array Oper} {l : Array Bool} (h : Closed ops l) (i : Nat) (o : Oper) (ho : ops[i]? = some o) (hall : ∀ e ∈ o.after, Region.binds .any e = true → l.getD e.on false = true) : Closed ops (l.setIfInBounds i true) := by
  have mono : ∀ j, l.getD j false = true → (l.setIfInBounds i true).getD j false = true := by
    intro j hj
    by_cases e : i = j
    · subst e
      by_cases hi : i < l.size
      · simp [hi]
      · simp [hi] at hj
    · simpa [Array.getElem?_setIfInBounds_ne e] using hj
  intro j o' ho' hl e he hb
  by_cases e2 : j = i
  · subst e2
    rw [ho] at ho'; cases ho'
    exact mono _ (hall e he hb)
  · have hl2 : l.getD j false = true := by simpa [Array.getElem?_setIfInBounds_ne (Ne.symm e2)] using hl
    exact mono _ (h j o' ho' hl2 e he hb)
/-- Does j wait for i? -/
def waitsB (ops : Array Oper) (j i : Nat) : Bool := match ops[j]? with
  | some o => o.after.any fun e => decide (e.on = i) && Region.binds .any e
  | none => false
theorem Closed.unlisted {ops : Array Oper} {l : Array Bool} (h : Closed ops l) {i j : Nat} (hi : l.getD i false = false) (hw : waitsB ops j i = true) : l.getD j false = false := by
  unfold waitsB at hw
  cases ho : ops[j]? with
  | none => rw [ho] at hw; cases hw
  | some o =>
    rw [ho] at hw
    simp only at hw
    rw [Array.any_eq_true] at hw
    obtain ⟨q, hq, he⟩ := hw
    rw [Bool.and_eq_true, decide_eq_true_iff] at he
    cases hl : l.getD j false with
    | false => rfl
    | true =>
      have := h j o ho hl o.after[q] (Array.getElem_mem hq) he.2
      rw [he.1, hi] at this; cases this
def RInv (ops : Array Oper) (A : Act) (F : Nat → Value → World → Prop) (S : World → Prop) (l : Array Bool) (c : Act) (w : World) : Prop :=
  SameBut ops A c ∧ S w ∧ (l.size = ops.size ∧ Closed ops l) ∧ ∀ j, j < ops.size → l.getD j false = true → F j (valOf ops c j) w
theorem RInv.start {ops : Array Oper} {A : Act} {F : Nat → Value → World → Prop} {S : World → Prop} {w : World} (h : S w) : RInv ops A F S (Array.replicate ops.size false) A w :=
  ⟨⟨rfl, rfl, fun _ _ => rfl⟩, h, ⟨by simp, fun j o ho hl => by simp [Array.getElem?_replicate] at hl; split at hl <;> simp at hl⟩, fun j hj hl => by simp [hj] at hl⟩
theorem put_getD (c : Act) (d s : Nat) (v : Value) (hd : d < c.tmps.size) : (c.put (some d) v).tmps.getD s undef = if d = s then v else c.tmps.getD s undef := by
  show (c.tmps.setIfInBounds d v).getD s undef = _
  by_cases e : d = s
  · subst e; rw [if_pos rfl]; simp [Array.getD_eq_getD_getElem?, hd]
  · rw [if_neg e]; simp [Array.getD_eq_getD_getElem?, Array.getElem?_setIfInBounds_ne e]
theorem RInv.step {ops : Array Oper} {A c : Act} {F : Nat → Value → World → Prop} {S : World → Prop} {l : Array Bool} {w w' : World} (hI : RInv ops A F S l c w) (ha : apartB ops = true) (i d : Nat) (hd : dstOf ops i = some d) (hda : d < A.tmps.size)
    (v : Value) (o : Oper) (ho : ops[i]? = some o) (hall : ∀ e ∈ o.after, Region.binds .any e = true → l.getD e.on false = true) (hS : S w') (hm : ∀ j u, F j u w → F j u w') (hv : F i v w') : RInv ops A F S (l.setIfInBounds i true) (c.put (some d) v) w' := by
  obtain ⟨⟨h1, h2, h3⟩, _, h5, h6⟩ := hI
  refine ⟨⟨?_, h2, ?_⟩, hS, ⟨by simpa using h5.1, h5.2.step i o ho hall⟩, ?_⟩
  · show (c.tmps.setIfInBounds d v).size = _; simpa using h1
  · intro s hs
    rw [put_getD c d s v (by omega), if_neg (fun e => hs i (by rw [hd, e]))]
    exact h3 s hs
  · intro j hj hl
    by_cases e : j = i
    · subst e
      have : valOf ops (c.put (some d) v) j = v := by unfold valOf; rw [hd]; simp only; rw [put_getD c d d v (by omega), if_pos rfl]
      rw [this]; exact hv
    · have hl2 : l.getD j false = true := by simpa [Array.getElem?_setIfInBounds_ne (Ne.symm e)] using hl
      have : valOf ops (c.put (some d) v) j = valOf ops c j := by
        unfold valOf
        cases hj2 : dstOf ops j with
        | none => rfl
        | some b =>
          simp only
          rw [put_getD c d b v (by omega), if_neg (fun x => e (apart_at ha (by rw [hj2, x]) hd))]
      rw [this]; exact hm j _ (h6 j hj hl2)
theorem RInv.stepN {ops : Array Oper} {A c : Act} {F : Nat → Value → World → Prop} {S : World → Prop} {l : Array Bool} {w w' : World} (hI : RInv ops A F S l c w) (i : Nat) (hd : dstOf ops i = none) (o : Oper) (ho : ops[i]? = some o) (hall : ∀ e ∈ o.after, Region.binds .any e = true → l.getD e.on false = true)
    (hS : S w') (hm : ∀ j u, F j u w → F j u w') (hv : F i undef w') : RInv ops A F S (l.setIfInBounds i true) c w' := by
  obtain ⟨h123, _, h5, h6⟩ := hI
  refine ⟨h123, hS, ⟨by simpa using h5.1, h5.2.step i o ho hall⟩, ?_⟩
  intro j hj hl
  by_cases e : j = i
  · subst e
    have : valOf ops c j = undef := by unfold valOf; rw [hd]
    rw [this]; exact hv
  · have hl2 : l.getD j false = true := by simpa [Array.getElem?_setIfInBounds_ne (Ne.symm e)] using hl
    exact hm j _ (h6 j hj hl2)
/-- The fact of an operation that is listed, at its slot. -/
theorem RInv.fact {ops : Array Oper} {A c : Act} {F : Nat → Value → World → Prop} {S : World → Prop} {l : Array Bool} {w : World} (hI : RInv ops A F S l c w) (j d : Nat) (hd : dstOf ops j = some d) (hl : l.getD j false = true) : F j (c.tmps.getD d undef) w := by
  have := hI.2.2.2 j (dst_lt hd) hl
  unfold valOf at this; rw [hd] at this; exact this
/-- Other facts, if they hold of all that is listed. -/
theorem RInv.other {ops : Array Oper} {A c : Act} {F F' : Nat → Value → World → Prop} {S : World → Prop} {l : Array Bool} {w : World} (hI : RInv ops A F S l c w) (h : ∀ j, l.getD j false = true → ∀ u, F j u w → F' j u w) : RInv ops A F' S l c w :=
  ⟨hI.1, hI.2.1, hI.2.2.1, fun j hj hl => h j hl _ (hI.2.2.2 j hj hl)⟩
/-- A slot that the region does not write. -/
def freeB (ops : Array Oper) (s : Nat) : Bool := (List.range ops.size).all fun j => match dstOf ops j with
  | some d => decide (d ≠ s)
  | none => true
theorem RInv.slot {ops : Array Oper} {A c : Act} {F : Nat → Value → World → Prop} {S : World → Prop} {l : Array Bool} {w : World} (hI : RInv ops A F S l c w) (s : Nat) (hs : freeB ops s = true) : c.tmps.getD s undef = A.tmps.getD s undef := by
  refine hI.1.2.2 s fun j e => ?_
  have := List.all_eq_true.1 hs j (List.mem_range.2 (dst_lt e))
  rw [e] at this
  simp at this
end Go.Proofs.YtofhcgbihonckaaGreatDoor

namespace Go.Proofs.YtofhcgbihonckaaGreatDoor

def Fresh (ops : Array Oper) (A : Act) (l : Array Bool) (c : Act) : Prop := ∀ j d, dstOf ops j = some d → l.getD j false = false → c.tmps.getD d undef = A.tmps.getD d undef
def RInvF (ops : Array Oper) (A : Act) (F : Nat → Value → World → Prop) (S : World → Prop) (l : Array Bool) (c : Act) (w : World) : Prop := RInv ops A F S l c w ∧ Fresh ops A l c
theorem list_other {l : Array Bool} {i j : Nat} (h : (l.setIfInBounds i true).getD j false = false) (hi : i < l.size) : j ≠ i ∧ l.getD j false = false := by
  by_cases e : i = j
  · subst e; simp [hi] at h
  · exact ⟨fun x => e x.symm, by simpa [Array.getElem?_setIfInBounds_ne e] using h⟩
theorem RInvF.start {ops : Array Oper} {A : Act} {F : Nat → Value → World → Prop} {S : World → Prop} {w : World} (h : S w) : RInvF ops A F S (Array.replicate ops.size false) A w :=
  ⟨RInv.start h, fun _ _ _ _ => rfl⟩
theorem RInvF.step {ops : Array Oper} {A c : Act} {F : Nat → Value → World → Prop} {S : World → Prop} {l : Array Bool} {w w' : World} (hI : RInvF ops A F S l c w) (ha : apartB ops = true) (i d : Nat) (hd : dstOf ops i = some d) (hda : d < A.tmps.size)
    (v : Value) (o : Oper) (ho : ops[i]? = some o) (hall : ∀ e ∈ o.after, Region.binds .any e = true → l.getD e.on false = true) (hS : S w') (hm : ∀ j u, F j u w → F j u w') (hv : F i v w') : RInvF ops A F S (l.setIfInBounds i true) (c.put (some d) v) w' := by
  refine ⟨hI.1.step ha i d hd hda v o ho hall hS hm hv, ?_⟩
  intro j e hj hl
  obtain ⟨h1, h2⟩ := list_other hl (by rw [hI.1.2.2.1.1]; exact dst_lt hd)
  rw [put_getD c d e v (by rw [hI.1.1.1]; exact hda), if_neg (fun x => h1 (apart_at ha (by rw [hj, x]) hd))]
  exact hI.2 j e hj h2
theorem RInvF.stepN {ops : Array Oper} {A c : Act} {F : Nat → Value → World → Prop} {S : World → Prop} {l : Array Bool} {w w' : World} (hI : RInvF ops A F S l c w) (i : Nat) (hd : dstOf ops i = none) (o : Oper) (ho : ops[i]? = some o) (hall : ∀ e ∈ o.after, Region.binds .any e = true → l.getD e.on false = true)
    (hS : S w') (hm : ∀ j u, F j u w → F j u w') (hv : F i undef w') : RInvF ops A F S (l.setIfInBounds i true) c w' := by
  refine ⟨hI.1.stepN i hd o ho hall hS hm hv, ?_⟩
  intro j e hj hl
  obtain ⟨h1, h2⟩ := list_other hl (by rw [hI.1.2.2.1.1]; exact (Array.getElem?_eq_some_iff.1 ho).1)
  exact hI.2 j e hj h2
theorem RInvF.fact {ops : Array Oper} {A c : Act} {F : Nat → Value → World → Prop} {S : World → Prop} {l : Array Bool} {w : World} (hI : RInvF ops A F S l c w) (j d : Nat) (hd : dstOf ops j = some d) (hl : l.getD j false = true) : F j (c.tmps.getD d undef) w := hI.1.fact j d hd hl
theorem RInvF.slot {ops : Array Oper} {A c : Act} {F : Nat → Value → World → Prop} {S : World → Prop} {l : Array Bool} {w : World} (hI : RInvF ops A F S l c w) (s : Nat) (hs : freeB ops s = true) : c.tmps.getD s undef = A.tmps.getD s undef := hI.1.slot s hs
end Go.Proofs.YtofhcgbihonckaaGreatDoor

namespace Go.Proofs.YtofhcgbihonckaaGreatDoor

theorem RInv.stepL {ops : Array Oper} {A c : Act} {F : Nat → Value → World → Prop} {S : World → Prop} {l : Array Bool} {w w' : World} (hI : RInv ops A F S l c w) (ha : apartB ops = true) (i d : Nat) (hd : dstOf ops i = some d) (hda : d < A.tmps.size)
    (v : Value) (o : Oper) (ho : ops[i]? = some o) (hall : ∀ e ∈ o.after, Region.binds .any e = true → l.getD e.on false = true) (hS : S w') (hm : ∀ j, l.getD j false = true → ∀ u, F j u w → F j u w') (hv : F i v w') : RInv ops A F S (l.setIfInBounds i true) (c.put (some d) v) w' := by
  obtain ⟨⟨h1, h2, h3⟩, _, h5, h6⟩ := hI
  refine ⟨⟨?_, h2, ?_⟩, hS, ⟨by simpa using h5.1, h5.2.step i o ho hall⟩, ?_⟩
  · show (c.tmps.setIfInBounds d v).size = _; simpa using h1
  · intro s hs
    rw [put_getD c d s v (by omega), if_neg (fun e => hs i (by rw [hd, e]))]
    exact h3 s hs
  · intro j hj hl
    by_cases e : j = i
    · subst e
      have : valOf ops (c.put (some d) v) j = v := by unfold valOf; rw [hd]; simp only; rw [put_getD c d d v (by omega), if_pos rfl]
      rw [this]; exact hv
    · have hl2 : l.getD j false = true := by simpa [Array.getElem?_setIfInBounds_ne (Ne.symm e)] using hl
      have : valOf ops (c.put (some d) v) j = valOf ops c j := by
        unfold valOf
        cases hj2 : dstOf ops j with
        | none => rfl
        | some b =>
          simp only
          rw [put_getD c d b v (by omega), if_neg (fun x => e (apart_at ha (by rw [hj2, x]) hd))]
      rw [this]; exact hm j hl2 _ (h6 j hj hl2)
theorem RInv.stepNL {ops : Array Oper} {A c : Act} {F : Nat → Value → World → Prop} {S : World → Prop} {l : Array Bool} {w w' : World} (hI : RInv ops A F S l c w) (i : Nat) (hd : dstOf ops i = none) (o : Oper) (ho : ops[i]? = some o) (hall : ∀ e ∈ o.after, Region.binds .any e = true → l.getD e.on false = true)
    (hS : S w') (hm : ∀ j, l.getD j false = true → ∀ u, F j u w → F j u w') (hv : F i undef w') : RInv ops A F S (l.setIfInBounds i true) c w' := by
  obtain ⟨h123, _, h5, h6⟩ := hI
  refine ⟨h123, hS, ⟨by simpa using h5.1, h5.2.step i o ho hall⟩, ?_⟩
  intro j hj hl
  by_cases e : j = i
  · subst e
    have : valOf ops c j = undef := by unfold valOf; rw [hd]
    rw [this]; exact hv
  · have hl2 : l.getD j false = true := by simpa [Array.getElem?_setIfInBounds_ne (Ne.symm e)] using hl
    exact hm j hl2 _ (h6 j hj hl2)
theorem listed_set {l : Array Bool} {i j : Nat} (h : (l.setIfInBounds i true).getD j false = false) : l.getD j false = false := by
  by_cases e : i = j
  · subst e
    by_cases hi : i < l.size
    · simp [hi] at h
    · simp [hi]
  · simpa [Array.getElem?_setIfInBounds_ne e] using h
theorem listed_at {l : Array Bool} {i j : Nat} (h : (l.setIfInBounds i true).getD j false = false) (hi : i < l.size) : j ≠ i := by
  rintro rfl
  simp [hi] at h
end Go.Proofs.YtofhcgbihonckaaGreatDoor

namespace Go.Proofs.YtofhcgbihonckaaGreatDoor

theorem RInv.lt {ops : Array Oper} {A c : Act} {F : Nat → Value → World → Prop} {S : World → Prop} {l : Array Bool} {w : World} (hI : RInv ops A F S l c w) {j : Nat} (h : l.getD j false = true) : j < ops.size := by
  rw [← hI.2.2.1.1]
  by_cases e : j < l.size
  · exact e
  · simp [e] at h
theorem yes_no {l : Array Bool} {j k : Nat} (h : l.getD j false = true) (h2 : l.getD k false = false) : j ≠ k := by
  rintro rfl; rw [h] at h2; cases h2
theorem listed {l : Array Bool} {af : Array Edge} (hall : ∀ e ∈ af, Region.binds .any e = true → l.getD e.on false = true) (k : Nat) (h : (af.any fun e => decide (e.on = k) && Region.binds .any e) = true) : l.getD k false = true := by
  rw [Array.any_eq_true] at h
  obtain ⟨q, hq, he⟩ := h
  rw [Bool.and_eq_true, decide_eq_true_iff] at he
  rw [← he.1]
  exact hall _ (Array.getElem_mem hq) he.2

theorem frame_list (ct : Array Value) (n : Nat) (h : ct.size = n) : ct = ((List.range n).map fun i => ct.getD i undef).toArray := by
  apply Array.ext
  · simp [h]
  · intro i h1 h2
    simp [Array.getD_eq_getD_getElem?, h1]
/-- The operations of a region. -/
def regOps : Code → Nat → Option (Array Oper)
  | .region i ops _, n => if i = n then some ops else none
  | .seq a b, n => match regOps a n with
    | some x => some x
    | none => regOps b n
  | .cond _ a b, n => match regOps a n with
    | some x => some x
    | none => regOps b n
  | .block _ b, n => regOps b n
  | .loop b, n => regOps b n
  | .scope b, n => regOps b n
  | .rangeFunc _ _ a b, n => match regOps a n with
    | some x => some x
    | none => regOps b n
  | _, _ => none
theorem wpAny_ops {P : Program} {md : Region.Mode} {ops ops' : Array Oper} {Q : Exit → Act → World → Prop} {A : Act} {w : World} (h : ops' = ops) (k : wpAny P md ops' Q ops'.size (Array.replicate ops'.size false) A w) :
    wpAny P md ops Q ops.size (Array.replicate ops.size false) A w := by subst h; exact k
theorem wp_code {P : Program} {c c' : Code} {Q : Exit → Act → World → Prop} {a : Act} {w : World} (h : c' = c) (k : c'.wp P Q a w) : c.wp P Q a w := by subst h; exact k
/-- The statement that is block n. -/
def blkOf : Code → Nat → Option Code
  | .block i b, n => if i = n then some (.block i b) else blkOf b n
  | .seq a b, n => match blkOf a n with
    | some x => some x
    | none => blkOf b n
  | .cond _ a b, n => match blkOf a n with
    | some x => some x
    | none => blkOf b n
  | .loop b, n => blkOf b n
  | .scope b, n => blkOf b n
  | .rangeFunc _ _ a b, n => match blkOf a n with
    | some x => some x
    | none => blkOf b n
  | _, _ => none
/-- The if whose test lies in slot n. -/
def ifOf : Code → Nat → Option Code
  | .cond (.tmp i) a b, n => if i = n then some (.cond (.tmp i) a b) else match ifOf a n with
    | some x => some x
    | none => ifOf b n
  | .cond _ a b, n => match ifOf a n with
    | some x => some x
    | none => ifOf b n
  | .seq a b, n => match ifOf a n with
    | some x => some x
    | none => ifOf b n
  | .block _ b, n => ifOf b n
  | .loop b, n => ifOf b n
  | .scope b, n => ifOf b n
  | .rangeFunc _ _ a b, n => match ifOf a n with
    | some x => some x
    | none => ifOf b n
  | _, _ => none
/-- Some values in some slots. -/
def ExAll : List Nat → Array Value → (Array Value → Prop) → Prop
  | [], t, p => p t
  | d :: ds, t, p => ∃ x, ExAll ds (t.setIfInBounds d x) p
def coverB (ops : Array Oper) (ds : List Nat) : Bool := (List.range ops.size).all fun j => match dstOf ops j with
  | some d => ds.contains d
  | none => true
theorem exAll_of (c : Array Value) (p : Array Value → Prop) (hp : p c) : ∀ (ds : List Nat) (t : Array Value), c.size = t.size → (∀ s, s ∉ ds → c.getD s undef = t.getD s undef) → ExAll ds t p
  | [], t, hsz, h => by
    have : c = t := by
      apply Array.ext hsz
      intro i h1 h2
      have := h i (by simp)
      simpa [Array.getD_eq_getD_getElem?, h1, h2] using this
    show p t
    rw [← this]; exact hp
  | d :: ds, t, hsz, h => by
    refine ⟨c.getD d undef, exAll_of c p hp ds _ (by simpa using hsz) fun s hs => ?_⟩
    by_cases e : d = s
    · subst e
      by_cases hd : d < t.size
      · simp [Array.getD_eq_getD_getElem?, hd]
      · have hd2 : ¬ d < c.size := by omega
        simp [Array.getD_eq_getD_getElem?, hd, hd2]
    · rw [h s (by simp; exact ⟨fun x => e x.symm, hs⟩)]
      simp [Array.getD_eq_getD_getElem?, Array.getElem?_setIfInBounds_ne e]
theorem SameBut.ex {ops : Array Oper} {A c : Act} (h : SameBut ops A c) (ds : List Nat) (hc : coverB ops ds = true) : ExAll ds A.tmps fun t => c = ⟨t, A.defers⟩ := by
  obtain ⟨h1, h2, h3⟩ := h
  refine exAll_of c.tmps _ (by rw [← h2]) ds A.tmps h1 fun s hs => h3 s fun j hj => hs ?_
  have := List.all_eq_true.1 hc j (List.mem_range.2 (dst_lt hj))
  rw [hj] at this
  simpa using this

theorem SameBut.exAt {ops : Array Oper} {A c : Act} (h : SameBut ops A c) (ds : List Nat) (d : Nat) (hc : coverB ops (d :: ds) = true) : ExAll ds A.tmps fun t => c = ⟨t.setIfInBounds d (c.tmps.getD d undef), A.defers⟩ := by
  obtain ⟨h1, h2, h3⟩ := h
  refine exAll_of (c.tmps.setIfInBounds d (A.tmps.getD d undef)) _ ?_ ds A.tmps (by simpa using h1) fun s hs => ?_
  · have : (c.tmps.setIfInBounds d (A.tmps.getD d undef)).setIfInBounds d (c.tmps.getD d undef) = c.tmps := by
      apply Array.ext (by simp)
      intro i k1 k2
      by_cases e : d = i
      · subst e; simp [Array.getD_eq_getD_getElem?, k2]
      · rw [Array.getElem_setIfInBounds_ne _ e, Array.getElem_setIfInBounds_ne _ e]
        all_goals simpa using k2
    rw [this, ← h2]
  · by_cases e : d = s
    · subst e
      by_cases hd : d < c.tmps.size
      · simp [Array.getD_eq_getD_getElem?, hd]
      · have hd2 : ¬ d < A.tmps.size := by omega
        simp [Array.getD_eq_getD_getElem?, hd, hd2]
    · rw [← h3 s fun j hj => ?_]
      · simp [Array.getD_eq_getD_getElem?, Array.getElem?_setIfInBounds_ne e]
      · have := List.all_eq_true.1 hc j (List.mem_range.2 (dst_lt hj))
        rw [hj] at this
        simp at this
        rcases this with rfl | this
        · exact e rfl
        · exact hs this
end Go.Proofs.YtofhcgbihonckaaGreatDoor

namespace Go.Proofs.YtofhcgbihonckaaGreatDoor

/-- Does j wait for i, at some distance? -/
def farB (ops : Array Oper) : Nat → Nat → Nat → Bool
  | 0, j, i => decide (j = i)
  | n + 1, j, i => decide (j = i) || (match ops[j]? with
    | some o => o.after.any fun e => Region.binds .any e && farB ops n e.on i
    | none => false)
theorem Closed.far {ops : Array Oper} {l : Array Bool} (h : Closed ops l) : ∀ (n j i : Nat), farB ops n j i = true → l.getD j false = true → l.getD i false = true := by
  intro n
  induction n with
  | zero => intro j i hf hl; simp only [farB, decide_eq_true_eq] at hf; subst hf; exact hl
  | succ n ih =>
    intro j i hf hl
    simp only [farB, Bool.or_eq_true, decide_eq_true_eq] at hf
    rcases hf with rfl | hf
    · exact hl
    · cases ho : ops[j]? with
      | none => rw [ho] at hf; cases hf
      | some o =>
        rw [ho] at hf
        simp only at hf
        rw [Array.any_eq_true] at hf
        obtain ⟨q, hq, he⟩ := hf
        rw [Bool.and_eq_true] at he
        exact ih _ _ he.2 (h j o ho hl o.after[q] (Array.getElem_mem hq) he.1)
theorem Closed.no_far {ops : Array Oper} {l : Array Bool} (h : Closed ops l) (n : Nat) {j i : Nat} (hi : l.getD i false = false) (hf : farB ops n j i = true) : l.getD j false = false := by
  cases hl : l.getD j false with
  | false => rfl
  | true => rw [h.far n j i hf hl] at hi; cases hi
/-- What an operation that may come up waits for is listed, at any distance. -/
theorem Closed.yes_far {ops : Array Oper} {l : Array Bool} (h : Closed ops l) (n : Nat) {o : Oper} {j : Nat} (ho : ops[j]? = some o) (hall : ∀ e ∈ o.after, Region.binds .any e = true → l.getD e.on false = true) {i : Nat} (hne : j ≠ i) (hf : farB ops (n + 1) j i = true) : l.getD i false = true := by
  simp only [farB, Bool.or_eq_true, decide_eq_true_eq] at hf
  rcases hf with hf | hf
  · exact absurd hf hne
  · rw [ho] at hf
    simp only at hf
    rw [Array.any_eq_true] at hf
    obtain ⟨q, hq, he⟩ := hf
    rw [Bool.and_eq_true] at he
    exact h.far n _ _ he.2 (hall _ (Array.getElem_mem hq) he.1)
theorem set_other {l : Array Bool} {i j : Nat} (h : i ≠ j) : (l.setIfInBounds i true).getD j false = l.getD j false := by
  simp [Array.getD_eq_getD_getElem?, Array.getElem?_setIfInBounds_ne h]
theorem set_here {l : Array Bool} {i : Nat} (h : i < l.size) : (l.setIfInBounds i true).getD i false = true := by simp [h]
theorem rep_no (n j : Nat) : (Array.replicate n false).getD j false = false := by
  rw [Array.getD_eq_getD_getElem?, Array.getElem?_replicate]
  split <;> rfl
end Go.Proofs.YtofhcgbihonckaaGreatDoor

namespace Go.Proofs.YtofhcgbihonckaaGreatDoor
open Go.RowKit

/-- What the library's variable holds: some number. -/
def Lay0 (w : World) : Prop := ∃ m, w.cell? ⟨0, 0, none⟩ = some (.int .i64 m)
theorem Lay0.keeps {S : Nat → Prop} {w w' : World} (h : Lay0 w) (k : Keeps S w w') (hn : ¬ S 0) : Lay0 w' := by
  obtain ⟨m, h⟩ := h
  exact ⟨m, (k.cell (p := ⟨0, 0, none⟩) (World.block_lt_of_cell? w _ h) hn).trans h⟩
end Go.Proofs.YtofhcgbihonckaaGreatDoor
