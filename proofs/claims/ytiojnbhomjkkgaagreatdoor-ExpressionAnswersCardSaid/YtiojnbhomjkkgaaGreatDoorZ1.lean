/- Memory: a block known whole, and what a call leaves as it was. | A map of texts to functions. | Package expression: the functions of the signs (printed by gexp.py). | Expressions in plain Lean: what a reader of tokens finds from a place on. | What the library's variable holds. -/
import Derived.Test.YtiojnbhomjkkgaaGreatDoorRows
import Derived.WalkKit
import Derived.WalkSpells
import Derived.Lib.Hide
import Derived.OneCell
import Derived.Deep.Draws
import Derived.StringKeys
import Derived.Carry
import Derived.MapKept
import Derived.KernelRfl

set_option linter.unusedVariables false
set_option linter.unusedSimpArgs false
set_option linter.unusedSectionVars false

namespace Go.Proofs.YtiojnbhomjkkgaaGreatDoor
open Go.RowKit

/-- Block b holds just these cells. -/
def Holds (w : World) (b : Nat) (cs : Array Value) (t : TypeId) : Prop := w.heap[b]? = some (.cells cs t (0, 0))

section
variable {w w' : World} {b : Nat} {cs : Array Value} {t : TypeId}
theorem Holds.out (h : Holds w b cs t) : w.heap[b]? = some (.cells cs t (0, 0)) := h
theorem Holds.lt (h : Holds w b cs t) : b < w.heap.size := lt_of_block h
theorem Holds.cell (h : Holds w b cs t) (j : Nat) : w.cell? ⟨b, j, none⟩ = cs[j]? := cell_of_row w b j cs t (0, 0) h
theorem Holds.free (h : Holds w b cs t) (j : Nat) : w.frozen? ⟨b, j, none⟩ = false := by
  have h' : w.heap[b]? = some (.cells cs t (0, 0)) := h
  simp [World.frozen?, h']
theorem Holds.set (h : Holds w b cs t) (j : Nat) (v : Value) : Holds (w.setCell ⟨b, j, none⟩ v) b (cs.setIfInBounds j v) t :=
  heap_setCell_same w b j cs t v h
theorem Holds.other (h : Holds w b cs t) (a : Addr) (v : Value) (hne : b ≠ a.block) : Holds (w.setCell a v) b cs t :=
  (heap_setCell_other w a b v hne).trans h
theorem Holds.drewN (h : Holds w b cs t) (n : Nat) : Holds (w.drewN n) b cs t := h
theorem Holds.drew (h : Holds w b cs t) : Holds w.drew b cs t := h
theorem Holds.alloc (h : Holds w b cs t) (o : Obj) : Holds (w.alloc o) b cs t := (heap_alloc_old w o (lt_of_block h)).trans h
theorem Holds.new (w : World) (cs : Array Value) (t : TypeId) : Holds (w.alloc (.cells cs t)) w.heap.size cs t := heap_alloc_new w _
end

/-- Of the blocks that were there only those of S may have turned. -/
structure Keeps (S : Nat → Prop) (w w' : World) : Prop where
  os : w'.os = w.os
  tape : w'.tape = w.tape
  output : w'.output = w.output
  size : w.heap.size ≤ w'.heap.size
  block : ∀ k, k < w.heap.size → ¬ S k → w'.heap[k]? = w.heap[k]?

section
variable {S S' : Nat → Prop} {a w w' w'' : World}
theorem Keeps.refl (S : Nat → Prop) (w : World) : Keeps S w w := ⟨rfl, rfl, rfl, Nat.le_refl _, fun _ _ _ => rfl⟩
theorem Keeps.trans (h : Keeps S w w') (k : Keeps S' w' w'') (hs : ∀ i, i < w.heap.size → S' i → S i) : Keeps S w w'' :=
  ⟨k.os.trans h.os, k.tape.trans h.tape, k.output.trans h.output, Nat.le_trans h.size k.size,
   fun i hi hn => (k.block i (Nat.lt_of_lt_of_le hi h.size) (fun x => hn (hs i hi x))).trans (h.block i hi hn)⟩
theorem Keeps.mono (h : Keeps S' w w') (hs : ∀ i, i < w.heap.size → S' i → S i) : Keeps S w w' :=
  ⟨h.os, h.tape, h.output, h.size, fun i hi hn => h.block i hi (fun x => hn (hs i hi x))⟩
theorem Keeps.setCell (h : Keeps S a w) {p : Addr} (hp : a.heap.size ≤ p.block ∨ S p.block) (u : Value) : Keeps S a (w.setCell p u) :=
  ⟨h.os, h.tape, h.output, by simpa using h.size, fun i hi hn => (heap_setCell_other w p i u (by rintro rfl; rcases hp with hp | hp; exact absurd hi (by omega); exact hn hp)).trans (h.block i hi hn)⟩
theorem Keeps.alloc (h : Keeps S a w) (o : Obj) : Keeps S a (w.alloc o) :=
  ⟨h.os, h.tape, h.output, Nat.le_trans h.size (by simp), fun i hi hn => (heap_alloc_old w o (Nat.lt_of_lt_of_le hi h.size)).trans (h.block i hi hn)⟩
theorem Keeps.drewN (h : Keeps S a w) (n : Nat) : Keeps S a (w.drewN n) := ⟨h.os, h.tape, h.output, h.size, h.block⟩
theorem Keeps.drew (h : Keeps S a w) : Keeps S a w.drew := ⟨h.os, h.tape, h.output, h.size, h.block⟩
theorem Keeps.below {B : Nat} (h : Keeps S w w') (hB : B ≤ w.heap.size) (hs : ∀ i, i < B → ¬ S i) : Below B w w' :=
  ⟨h.os, h.tape, h.output, h.size, fun i hi => h.block i (by omega) (hs i hi)⟩
theorem Keeps.of_below {B : Nat} (h : Below B w w') : Keeps (fun i => B ≤ i) w w' := ⟨h.os, h.tape, h.output, h.size, fun i _ hn => h.block i (by omega)⟩
theorem Keeps.of_fresh (h : Below w.heap.size w w') (S : Nat → Prop) : Keeps S w w' := ⟨h.os, h.tape, h.output, h.size, fun i hi _ => h.block i hi⟩
theorem Keeps.of_grown {row : Option Nat} (h : w.grownBy w' row) (hs : ∀ i, row = some i → S i) : Keeps S w w' :=
  ⟨h.os, h.tape, h.output, h.size, fun i hi hn => h.block i hi (fun e => hn (hs i e.symm))⟩
theorem Keeps.grown {row : Option Nat} (k : Keeps S a w) (h : w.grownBy w' row) (hs : ∀ i, row = some i → a.heap.size ≤ i ∨ S i) : Keeps S a w' :=
  k.trans (S' := fun i => row = some i) ⟨h.os, h.tape, h.output, h.size, fun i hi hn => h.block i hi (fun e => hn e.symm)⟩ (fun i hi e => (hs i e).resolve_left (by omega))
theorem Keeps.cell (h : Keeps S w w') {p : Addr} (hp : p.block < w.heap.size) (hn : ¬ S p.block) : w'.cell? p = w.cell? p := World.cell?_of_block (w := w) (h.block p.block hp hn)
theorem Keeps.frozen (h : Keeps S w w') {p : Addr} (hp : p.block < w.heap.size) (hn : ¬ S p.block) : w'.frozen? p = w.frozen? p := World.frozen?_of_block (w := w) (h.block p.block hp hn)
theorem Holds.keeps {b : Nat} {cs : Array Value} {t : TypeId} (h : Holds w b cs t) (k : Keeps S w w') (hn : ¬ S b) : Holds w' b cs t := (k.block b (lt_of_block h) hn).trans h
theorem ownsRow_keeps {base : Nat} {e : TypeId} {size : Nat} {v : Value} {n : Nat} {xs : List Value} (h : w.ownsRow base e size v n xs) (k : Keeps S w w') (hs : ∀ g, v.ownBlock = some g → ¬ S g) : w'.ownsRow base e size v n xs := by
  refine ⟨h.1, ?_⟩
  rcases h.2 with hn | ⟨g, cap, cur, rfl, hb, hgg, rest⟩
  · exact .inl hn
  · refine .inr ⟨g, cap, cur, rfl, hb, ?_, rest⟩
    rw [k.block g (Array.getElem?_eq_some_iff.1 hgg).1 (hs g rfl)]
    exact hgg
end

/-- The cells of a block just made, as an append takes them. -/
theorem new_cells (w : World) (cs : Array Value) (t : TypeId) (n : Nat) (hn : n = w.heap.size) (xs : List Value) (hx : xs = cs.toList) :
    ∀ (j : Nat) (u : Value), xs[j]? = some u → (w.alloc (.cells cs t)).cell? ((⟨n, 0, none⟩ : Addr).add j) = some u := by
  subst hn hx
  intro j u hj
  have hadd : (⟨w.heap.size, 0, none⟩ : Addr).add j = ⟨w.heap.size, j, none⟩ := by unfold Addr.add; split <;> simp_all
  rw [hadd, (Holds.new w cs t).cell j]
  simpa using hj
theorem Holds.grown {w w' : World} {b : Nat} {cs : Array Value} {t : TypeId} {row : Option Nat} (h : Holds w b cs t) (g : w.grownBy w' row) (hn : row ≠ some b) : Holds w' b cs t :=
  (g.block b (lt_of_block h) (fun e => hn e.symm)).trans h
theorem ret_bool {a b : Bool} (h : a = b) : Ending.returned (.bool a) = .returned (.bool b) := by rw [h]
theorem ret_int {k : IntKind} {a b : Int} (h : a = b) : Ending.returned (.int k a) = .returned (.int k b) := by rw [h]
end Go.Proofs.YtiojnbhomjkkgaaGreatDoor

namespace Go.Proofs.YtiojnbhomjkkgaaGreatDoor
open Go.RowKit Go.ChangeMaps

theorem strLaw : WideMaps.KeyLaw Tryz.prog 9 := WideMaps.string_law Tryz.underlying9
theorem strKey (s : ByteArray) (h : s.size ≤ maxLen) : keyOf Tryz.prog 9 (.string s) = some (.string s.data.toList) := WideMaps.keyOf_string_mk Tryz.underlying9 h
/-- Block b maps these texts to these values. -/
def FnsAt (w : World) (b : Nat) (l : List (ByteArray × Value)) : Prop :=
  ∃ es clock, w.heap[b]? = some (.map es clock) ∧ es.toList.map (fun e => (e.key, e.val)) = l.map (fun p => (Value.string p.1, p.2)) ∧ (∀ p ∈ l, p.1.size ≤ 1000)
theorem FnsAt.keys {w : World} {l : List (ByteArray × Value)} {es : Array MapEntry} (hk : es.toList.map (fun e => (e.key, e.val)) = l.map (fun p => (Value.string p.1, p.2))) (hS : ∀ p ∈ l, p.1.size ≤ 1000) :
    ∀ e ∈ es.toList, ∃ q, keyOf Tryz.prog 9 e.key = some q := by
  intro e he
  have : (e.key, e.val) ∈ l.map (fun p => (Value.string p.1, p.2)) := by rw [← hk]; exact List.mem_map.2 ⟨e, he, rfl⟩
  obtain ⟨p, hp, e1⟩ := List.mem_map.1 this
  have e2 := (Prod.mk.injEq _ _ _ _ ▸ e1 : Value.string p.1 = e.key ∧ p.2 = e.val).1
  rw [← e2]
  exact ⟨_, strKey p.1 (by have := hS p hp; unfold maxLen; omega)⟩
theorem FnsAt.new (w : World) : FnsAt (w.alloc (.map #[] 0)) w.heap.size [] := ⟨#[], 0, heap_alloc_new w _, rfl, by simp⟩
theorem FnsAt.lt {w : World} {b : Nat} {l : List (ByteArray × Value)} (h : FnsAt w b l) : b < w.heap.size := by
  obtain ⟨es, clock, hb, _⟩ := h; exact lt_of_block hb
theorem FnsAt.block {w w' : World} {b : Nat} {l : List (ByteArray × Value)} (h : FnsAt w b l) (e : w'.heap[b]? = w.heap[b]?) : FnsAt w' b l := by
  obtain ⟨es, clock, hb, r⟩ := h
  exact ⟨es, clock, by rw [e]; exact hb, r⟩
theorem FnsAt.alloc {w : World} {b : Nat} {l : List (ByteArray × Value)} (h : FnsAt w b l) (o : Obj) : FnsAt (w.alloc o) b l := h.block (heap_alloc_old w o h.lt)
theorem FnsAt.put {w : World} {b : Nat} {l : List (ByteArray × Value)} (h : FnsAt w b l) (s : ByteArray) (v : Value) (hs : s.size ≤ 1000) (hn : ∀ p ∈ l, p.1 ≠ s) :
    ∃ o, (Instr.mapUpdate 183 (.map (some b)) (.string s) v).run Tryz.prog w = .ok () (setBlock w b o) ∧ FnsAt (setBlock w b o) b (l ++ [(s, v)]) := by
  obtain ⟨es, clock, hb, hk, hS⟩ := h
  have hl := strKey s (by unfold maxLen; omega)
  rcases strLaw.find w hl es.toList (FnsAt.keys (w := w) hk hS) with ⟨h1, h2⟩ | ⟨j, e0, h1, h2, h3⟩
  · refine ⟨.map (es.push ⟨.string s, v, clock⟩) (clock + 1), ?_, es.push ⟨.string s, v, clock⟩, clock + 1, heap_setBlock_same hb _, ?_, ?_⟩
    · simp [Instr.mapUpdate, run_underlying Tryz.underlying183, MapKept.run_getObj_map hb, strLaw.check w false hl, h1, MapKept.run_setObj_map _ hb, Result.andThen, setBlock]
    · simp [hk]
    · intro p hp
      rcases List.mem_append.1 hp with hp | hp
      · exact hS p hp
      · simp only [List.mem_singleton] at hp; subst hp; exact hs
  · exfalso
    have : (e0.key, e0.val) ∈ l.map (fun p => (Value.string p.1, p.2)) := by rw [← hk]; exact List.mem_map.2 ⟨e0, List.mem_of_getElem? h2, rfl⟩
    obtain ⟨p, hp, e1⟩ := List.mem_map.1 this
    have e2 := (Prod.mk.injEq _ _ _ _ ▸ e1 : Value.string p.1 = e0.key ∧ p.2 = e0.val).1
    rw [h3] at e2
    exact hn p hp (by injection e2)
/-- What is found under a text. -/
def fnsT (l : List (ByteArray × Value)) (z : Value) (s : ByteArray) : Value × Bool := match l.find? (fun p => decide (p.1 = s)) with
  | some p => (p.2, true)
  | none => (z, false)
theorem FnsAt.look {w : World} {b : Nat} {l : List (ByteArray × Value)} (h : FnsAt w b l) (hd : (l.map (·.1)).Nodup) (s : ByteArray) (hs : s.size ≤ maxLen) :
    ∃ z, (Instr.lookup 183 (.map (some b)) (.string s) true).run Tryz.prog w = .ok (.tuple #[(fnsT l z s).1, .bool (fnsT l z s).2]) w := by
  obtain ⟨es, clock, hb, hk, hS⟩ := h
  have hl := strKey s hs
  have hz : (zeroValue 182).run Tryz.prog w = .ok .nilFunc w := by kernel_rfl
  generalize Value.nilFunc = z at hz
  refine ⟨z, ?_⟩
  rcases strLaw.find w hl es.toList (FnsAt.keys (w := w) hk hS) with ⟨h1, h2⟩ | ⟨j, e0, h1, h2, h3⟩
  · have hm : fnsT l z s = (z, false) := by
      unfold fnsT
      cases hf : l.find? (fun p => decide (p.1 = s)) with
      | none => rfl
      | some p =>
        exfalso
        have hp := List.mem_of_find?_eq_some hf
        have hps := List.find?_some hf
        simp only [decide_eq_true_eq] at hps
        have : (Value.string p.1, p.2) ∈ es.toList.map (fun e => (e.key, e.val)) := by rw [hk]; exact List.mem_map.2 ⟨p, hp, rfl⟩
        obtain ⟨e, he, e1⟩ := List.mem_map.1 this
        have e2 := (Prod.mk.injEq _ _ _ _ ▸ e1 : e.key = Value.string p.1 ∧ e.val = p.2).1
        exact h2 e he (by rw [e2, hps])
    rw [hm]
    simp [Instr.lookup, run_underlying Tryz.underlying183, MapKept.run_getObj_map hb, strLaw.check w _ hl, h1, hz, Result.andThen]
  · have hm : fnsT l z s = (e0.val, true) := by
      have : (e0.key, e0.val) ∈ l.map (fun p => (Value.string p.1, p.2)) := by rw [← hk]; exact List.mem_map.2 ⟨e0, List.mem_of_getElem? h2, rfl⟩
      obtain ⟨p, hp, e1⟩ := List.mem_map.1 this
      have e2 := (Prod.mk.injEq _ _ _ _ ▸ e1 : Value.string p.1 = e0.key ∧ p.2 = e0.val)
      have e3 : p.1 = s := by have := e2.1; rw [h3] at this; injection this
      unfold fnsT
      have hf : l.find? (fun q => decide (q.1 = s)) = some p := by
        obtain ⟨i, hi, rfl⟩ := List.getElem_of_mem hp
        rw [List.find?_eq_some_iff_getElem]
        refine ⟨by simp [e3], i, hi, rfl, fun j hj => ?_⟩
        simp only [Bool.not_eq_true', decide_eq_false_iff_not]
        intro e4
        have hjl : j < l.length := by omega
        have hne := List.pairwise_iff_getElem.1 hd j i (by simpa using hjl) (by simpa using hi) hj
        simp only [List.getElem_map] at hne
        exact hne (e4.trans e3.symm)
      rw [hf]
      show (p.2, true) = _
      rw [e2.2]
    rw [hm]
    simp [Instr.lookup, run_underlying Tryz.underlying183, MapKept.run_getObj_map hb, strLaw.check w _ hl, h1, Result.andThen]
theorem below_put {B : Nat} {a w : World} {b : Nat} {o : Obj} (h : Below B a w) (hb : B ≤ b) : Below B a (setBlock w b o) :=
  ⟨h.os, h.tape, h.output, by simpa [setBlock] using h.size, fun i hi => by
    rw [← h.block i hi]; simp only [setBlock]; exact Array.getElem?_setIfInBounds_ne (by omega)⟩
/-- Maps that are being made, the last of them still open. -/
def Tab (W w : World) (l : List (Nat × List (ByteArray × Value))) : Prop := Below W.heap.size W w ∧ (∀ p ∈ l, W.heap.size ≤ p.1 ∧ FnsAt w p.1 p.2) ∧ (l.map (·.1)).Nodup
theorem Tab.start (w : World) : Tab w w [] := ⟨Below.refl _ _, by simp, by simp⟩
theorem Tab.new {W w : World} {l : List (Nat × List (ByteArray × Value))} (h : Tab W w l) (t : TypeId) : ∃ w' b, (Instr.makeMap t none).run Tryz.prog w = .ok (.map (some b)) w' ∧ Tab W w' (l ++ [(b, [])]) := by
  obtain ⟨h1, h2, h3⟩ := h
  refine ⟨_, _, run_makeMap t w, h1.alloc h1.size _, ?_, ?_⟩
  · intro p hp
    rcases List.mem_append.1 hp with hp | hp
    · exact ⟨(h2 p hp).1, (h2 p hp).2.alloc _⟩
    · rw [List.mem_singleton] at hp; subst hp; exact ⟨h1.size, FnsAt.new w⟩
  · rw [List.map_append, List.nodup_append]
    refine ⟨h3, by simp, ?_⟩
    intro a ha b hb e
    simp only [List.map_cons, List.map_nil, List.mem_singleton] at hb
    obtain ⟨p, hp, rfl⟩ := List.mem_map.1 ha
    have := (h2 p hp).2.lt
    omega
theorem Tab.put {W w : World} {l : List (Nat × List (ByteArray × Value))} {b : Nat} {fs : List (ByteArray × Value)} (h : Tab W w (l ++ [(b, fs)])) (s : ByteArray) (v : Value) (hs : s.size ≤ 1000) (hn : ∀ p ∈ fs, p.1 ≠ s) :
    ∃ w', (Instr.mapUpdate 183 (.map (some b)) (.string s) v).run Tryz.prog w = .ok () w' ∧ Tab W w' (l ++ [(b, fs ++ [(s, v)])]) := by
  obtain ⟨h1, h2, h3⟩ := h
  obtain ⟨hb, hf⟩ := h2 (b, fs) (by simp)
  obtain ⟨o, hrun, hf2⟩ := hf.put s v hs hn
  refine ⟨_, hrun, below_put h1 hb, ?_, by simpa using h3⟩
  intro p hp
  rcases List.mem_append.1 hp with hp | hp
  · have hne : p.1 ≠ b := by
      rw [List.map_append, List.nodup_append] at h3
      exact h3.2.2 p.1 (List.mem_map.2 ⟨p, hp, rfl⟩) b (by simp)
    refine ⟨(h2 p (by simp [hp])).1, (h2 p (by simp [hp])).2.block ?_⟩
    simp only [setBlock]; exact Array.getElem?_setIfInBounds_ne (Ne.symm hne)
  · rw [List.mem_singleton] at hp; subst hp; exact ⟨hb, hf2⟩
end Go.Proofs.YtiojnbhomjkkgaaGreatDoor

namespace Go.Proofs.YtiojnbhomjkkgaaGreatDoor
open Go.RowKit

def bitT (h : Bool) : Int := if h = true then 1 else 0
/-- What the sign of this number (in the order of the table) makes of two numbers. -/
def appT : Nat → Int → Int → Int
  | 1, a, b => a * b % 4294967296
  | 2, a, b => a / b
  | 3, a, b => a % b
  | 4, a, b => (a + b) % 4294967296
  | 5, a, b => (a - b) % 4294967296
  | 6, a, b => a * 2 ^ min b.toNat 32 % 4294967296
  | 7, a, b => a / 2 ^ min b.toNat 32
  | 8, a, b => bitT (decide (a < b))
  | 9, a, b => bitT (decide (b < a))
  | 10, a, b => bitT (decide (a ≤ b))
  | 11, a, b => bitT (decide (b ≤ a))
  | 12, a, b => bitT (a == b)
  | 13, a, b => bitT (a != b)
  | 14, a, b => bits .and .u32 a b
  | 15, a, b => bits .xor .u32 a b
  | 16, a, b => bits .or .u32 a b
  | 17, a, b => bitT (a != 0 && b != 0)
  | 18, a, b => bitT (a != 0 || b != 0)
  | _, _, _ => 0
def fnT : Nat → Value
  | 1 => .func (.func 151) #[] #[]
  | 2 => .func (.func 152) #[] #[]
  | 3 => .func (.func 153) #[] #[]
  | 4 => .func (.func 154) #[] #[]
  | 5 => .func (.func 155) #[] #[]
  | 6 => .func (.func 156) #[] #[]
  | 7 => .func (.func 157) #[] #[]
  | 8 => .func (.func 158) #[] #[]
  | 9 => .func (.func 160) #[] #[]
  | 10 => .func (.func 161) #[] #[]
  | 11 => .func (.func 162) #[] #[]
  | 12 => .func (.func 163) #[] #[]
  | 13 => .func (.func 164) #[] #[]
  | 14 => .func (.func 165) #[] #[]
  | 15 => .func (.func 166) #[] #[]
  | 16 => .func (.func 167) #[] #[]
  | 17 => .func (.func 168) #[] #[]
  | 18 => .func (.func 169) #[] #[]
  | _ => .nilFunc
theorem exp_bit (h : Bool) (w : World) : Calls Tryz.prog 159 #[.bool h] w fun e w' => e = .returned (.int .u32 (bitT h)) ∧ w = w' := by
  cases h
  · go_enter Tryz.func159, Tryz.ntmps159
    go_wp2_with fail
    go_ret
    exact ⟨rfl, rfl⟩
  · go_enter Tryz.func159, Tryz.ntmps159
    go_wp2_with fail
    go_ret
    exact ⟨rfl, rfl⟩
/-- What a call of a sign's function does. -/
def AppPost (k : Nat) (a b : Int) (w : World) (e : Ending) (w' : World) : Prop := e = .returned (.int .u32 (appT k a b)) ∧ w = w'

set_option maxHeartbeats 400000 in
theorem exp_t1 (a b : Int) (w : World) (ha : 0 ≤ a) (ha1 : a ≤ 4294967295) (hb : 0 ≤ b) (hb1 : b ≤ 4294967295) : Calls Tryz.prog 151 #[.int .u32 a, .int .u32 b] w (AppPost 1 a b w) := by
  go_enter Tryz.func151, Tryz.ntmps151
  go_wp2_with fail
  go_ret
  exact ⟨rfl, rfl⟩

set_option maxHeartbeats 400000 in
theorem exp_t2 (a b : Int) (w : World) (ha : 0 ≤ a) (ha1 : a ≤ 4294967295) (hb : 1 ≤ b) (hb1 : b ≤ 4294967295) : Calls Tryz.prog 152 #[.int .u32 a, .int .u32 b] w (AppPost 2 a b w) := by
  go_enter Tryz.func152, Tryz.ntmps152
  go_wp2_with fail
  go_ret
  exact ⟨rfl, rfl⟩

set_option maxHeartbeats 400000 in
theorem exp_t3 (a b : Int) (w : World) (ha : 0 ≤ a) (ha1 : a ≤ 4294967295) (hb : 1 ≤ b) (hb1 : b ≤ 4294967295) : Calls Tryz.prog 153 #[.int .u32 a, .int .u32 b] w (AppPost 3 a b w) := by
  go_enter Tryz.func153, Tryz.ntmps153
  go_wp2_with fail
  go_ret
  exact ⟨rfl, rfl⟩

set_option maxHeartbeats 400000 in
theorem exp_t4 (a b : Int) (w : World) (ha : 0 ≤ a) (ha1 : a ≤ 4294967295) (hb : 0 ≤ b) (hb1 : b ≤ 4294967295) : Calls Tryz.prog 154 #[.int .u32 a, .int .u32 b] w (AppPost 4 a b w) := by
  go_enter Tryz.func154, Tryz.ntmps154
  go_wp2_with fail
  go_ret
  exact ⟨rfl, rfl⟩

set_option maxHeartbeats 400000 in
theorem exp_t5 (a b : Int) (w : World) (ha : 0 ≤ a) (ha1 : a ≤ 4294967295) (hb : 0 ≤ b) (hb1 : b ≤ 4294967295) : Calls Tryz.prog 155 #[.int .u32 a, .int .u32 b] w (AppPost 5 a b w) := by
  go_enter Tryz.func155, Tryz.ntmps155
  go_wp2_with fail
  go_ret
  exact ⟨rfl, rfl⟩

set_option maxHeartbeats 400000 in
theorem exp_t6 (a b : Int) (w : World) (ha : 0 ≤ a) (ha1 : a ≤ 4294967295) (hb : 0 ≤ b) (hb1 : b ≤ 4294967295) : Calls Tryz.prog 156 #[.int .u32 a, .int .u32 b] w (AppPost 6 a b w) := by
  go_enter Tryz.func156, Tryz.ntmps156
  go_wp2_with fail
  go_ret
  exact ⟨rfl, rfl⟩

set_option maxHeartbeats 400000 in
theorem exp_t7 (a b : Int) (w : World) (ha : 0 ≤ a) (ha1 : a ≤ 4294967295) (hb : 0 ≤ b) (hb1 : b ≤ 4294967295) : Calls Tryz.prog 157 #[.int .u32 a, .int .u32 b] w (AppPost 7 a b w) := by
  go_enter Tryz.func157, Tryz.ntmps157
  go_wp2_with fail
  go_ret
  exact ⟨rfl, rfl⟩

set_option maxHeartbeats 400000 in
theorem exp_t8 (a b : Int) (w : World) (ha : 0 ≤ a) (ha1 : a ≤ 4294967295) (hb : 0 ≤ b) (hb1 : b ≤ 4294967295) : Calls Tryz.prog 158 #[.int .u32 a, .int .u32 b] w (AppPost 8 a b w) := by
  have hbt := exp_bit
  go_enter Tryz.func158, Tryz.ntmps158
  go_wp2_with fail
  refine (hbt _ _).mono ?_
  rintro e w' ⟨rfl, rfl⟩
  go_wp2_with fail
  go_ret
  exact ⟨rfl, rfl⟩

set_option maxHeartbeats 400000 in
theorem exp_t9 (a b : Int) (w : World) (ha : 0 ≤ a) (ha1 : a ≤ 4294967295) (hb : 0 ≤ b) (hb1 : b ≤ 4294967295) : Calls Tryz.prog 160 #[.int .u32 a, .int .u32 b] w (AppPost 9 a b w) := by
  have hbt := exp_bit
  go_enter Tryz.func160, Tryz.ntmps160
  go_wp2_with fail
  refine (hbt _ _).mono ?_
  rintro e w' ⟨rfl, rfl⟩
  go_wp2_with fail
  go_ret
  exact ⟨rfl, rfl⟩

set_option maxHeartbeats 400000 in
theorem exp_t10 (a b : Int) (w : World) (ha : 0 ≤ a) (ha1 : a ≤ 4294967295) (hb : 0 ≤ b) (hb1 : b ≤ 4294967295) : Calls Tryz.prog 161 #[.int .u32 a, .int .u32 b] w (AppPost 10 a b w) := by
  have hbt := exp_bit
  go_enter Tryz.func161, Tryz.ntmps161
  go_wp2_with fail
  refine (hbt _ _).mono ?_
  rintro e w' ⟨rfl, rfl⟩
  go_wp2_with fail
  go_ret
  exact ⟨rfl, rfl⟩

set_option maxHeartbeats 400000 in
theorem exp_t11 (a b : Int) (w : World) (ha : 0 ≤ a) (ha1 : a ≤ 4294967295) (hb : 0 ≤ b) (hb1 : b ≤ 4294967295) : Calls Tryz.prog 162 #[.int .u32 a, .int .u32 b] w (AppPost 11 a b w) := by
  have hbt := exp_bit
  go_enter Tryz.func162, Tryz.ntmps162
  go_wp2_with fail
  refine (hbt _ _).mono ?_
  rintro e w' ⟨rfl, rfl⟩
  go_wp2_with fail
  go_ret
  exact ⟨rfl, rfl⟩

set_option maxHeartbeats 400000 in
theorem exp_t12 (a b : Int) (w : World) (ha : 0 ≤ a) (ha1 : a ≤ 4294967295) (hb : 0 ≤ b) (hb1 : b ≤ 4294967295) : Calls Tryz.prog 163 #[.int .u32 a, .int .u32 b] w (AppPost 12 a b w) := by
  have hbt := exp_bit
  go_enter Tryz.func163, Tryz.ntmps163
  go_wp2_with fail
  refine (hbt _ _).mono ?_
  rintro e w' ⟨rfl, rfl⟩
  go_wp2_with fail
  go_ret
  exact ⟨rfl, rfl⟩

set_option maxHeartbeats 400000 in
theorem exp_t13 (a b : Int) (w : World) (ha : 0 ≤ a) (ha1 : a ≤ 4294967295) (hb : 0 ≤ b) (hb1 : b ≤ 4294967295) : Calls Tryz.prog 164 #[.int .u32 a, .int .u32 b] w (AppPost 13 a b w) := by
  have hbt := exp_bit
  go_enter Tryz.func164, Tryz.ntmps164
  go_wp2_with fail
  refine (hbt _ _).mono ?_
  rintro e w' ⟨rfl, rfl⟩
  go_wp2_with fail
  go_ret
  exact ⟨rfl, rfl⟩

set_option maxHeartbeats 400000 in
theorem exp_t14 (a b : Int) (w : World) (ha : 0 ≤ a) (ha1 : a ≤ 4294967295) (hb : 0 ≤ b) (hb1 : b ≤ 4294967295) : Calls Tryz.prog 165 #[.int .u32 a, .int .u32 b] w (AppPost 14 a b w) := by
  go_enter Tryz.func165, Tryz.ntmps165
  go_wp2_with fail
  go_ret
  exact ⟨rfl, rfl⟩

set_option maxHeartbeats 400000 in
theorem exp_t15 (a b : Int) (w : World) (ha : 0 ≤ a) (ha1 : a ≤ 4294967295) (hb : 0 ≤ b) (hb1 : b ≤ 4294967295) : Calls Tryz.prog 166 #[.int .u32 a, .int .u32 b] w (AppPost 15 a b w) := by
  go_enter Tryz.func166, Tryz.ntmps166
  go_wp2_with fail
  go_ret
  exact ⟨rfl, rfl⟩

set_option maxHeartbeats 400000 in
theorem exp_t16 (a b : Int) (w : World) (ha : 0 ≤ a) (ha1 : a ≤ 4294967295) (hb : 0 ≤ b) (hb1 : b ≤ 4294967295) : Calls Tryz.prog 167 #[.int .u32 a, .int .u32 b] w (AppPost 16 a b w) := by
  go_enter Tryz.func167, Tryz.ntmps167
  go_wp2_with fail
  go_ret
  exact ⟨rfl, rfl⟩

set_option maxHeartbeats 400000 in
theorem exp_t17 (a b : Int) (w : World) (ha : 0 ≤ a) (ha1 : a ≤ 4294967295) (hb : 0 ≤ b) (hb1 : b ≤ 4294967295) : Calls Tryz.prog 168 #[.int .u32 a, .int .u32 b] w (AppPost 17 a b w) := by
  have hbt := exp_bit
  by_cases h1 : a = 0
  · subst h1
    by_cases h2 : b = 0
    · subst h2
      go_enter Tryz.func168, Tryz.ntmps168
      go_wp2_with fail
      refine (hbt _ _).mono ?_
      rintro e w' ⟨rfl, rfl⟩
      go_wp2_with fail
      go_ret
      exact ⟨by simp [appT, bitT], rfl⟩
    · have h2b : (b != 0) = true := by simpa using h2
      go_enter Tryz.func168, Tryz.ntmps168
      go_wp2_with fail
      refine (hbt _ _).mono ?_
      rintro e w' ⟨rfl, rfl⟩
      go_wp2_with fail
      go_ret
      exact ⟨by simp [appT, bitT, h2], rfl⟩
  · have h1b : (a != 0) = true := by simpa using h1
    by_cases h2 : b = 0
    · subst h2
      go_enter Tryz.func168, Tryz.ntmps168
      go_wp2_with fail
      refine (hbt _ _).mono ?_
      rintro e w' ⟨rfl, rfl⟩
      go_wp2_with fail
      go_ret
      exact ⟨by simp [appT, bitT, h1], rfl⟩
    · have h2b : (b != 0) = true := by simpa using h2
      go_enter Tryz.func168, Tryz.ntmps168
      go_wp2_with fail
      refine (hbt _ _).mono ?_
      rintro e w' ⟨rfl, rfl⟩
      go_wp2_with fail
      go_ret
      exact ⟨by simp [appT, bitT, h1, h2], rfl⟩

set_option maxHeartbeats 400000 in
theorem exp_t18 (a b : Int) (w : World) (ha : 0 ≤ a) (ha1 : a ≤ 4294967295) (hb : 0 ≤ b) (hb1 : b ≤ 4294967295) : Calls Tryz.prog 169 #[.int .u32 a, .int .u32 b] w (AppPost 18 a b w) := by
  have hbt := exp_bit
  by_cases h1 : a = 0
  · subst h1
    by_cases h2 : b = 0
    · subst h2
      go_enter Tryz.func169, Tryz.ntmps169
      go_wp2_with fail
      refine (hbt _ _).mono ?_
      rintro e w' ⟨rfl, rfl⟩
      go_wp2_with fail
      go_ret
      exact ⟨by simp [appT, bitT], rfl⟩
    · have h2b : (b != 0) = true := by simpa using h2
      go_enter Tryz.func169, Tryz.ntmps169
      go_wp2_with fail
      refine (hbt _ _).mono ?_
      rintro e w' ⟨rfl, rfl⟩
      go_wp2_with fail
      go_ret
      exact ⟨by simp [appT, bitT, h2], rfl⟩
  · have h1b : (a != 0) = true := by simpa using h1
    by_cases h2 : b = 0
    · subst h2
      go_enter Tryz.func169, Tryz.ntmps169
      go_wp2_with fail
      refine (hbt _ _).mono ?_
      rintro e w' ⟨rfl, rfl⟩
      go_wp2_with fail
      go_ret
      exact ⟨by simp [appT, bitT, h1], rfl⟩
    · have h2b : (b != 0) = true := by simpa using h2
      go_enter Tryz.func169, Tryz.ntmps169
      go_wp2_with fail
      refine (hbt _ _).mono ?_
      rintro e w' ⟨rfl, rfl⟩
      go_wp2_with fail
      go_ret
      exact ⟨by simp [appT, bitT, h1, h2], rfl⟩

/-- The rows of the table. -/
def rowsX : List (List (ByteArray × Nat)) := [[(⟨#[42]⟩, 1), (⟨#[47]⟩, 2), (⟨#[37]⟩, 3)], [(⟨#[43]⟩, 4), (⟨#[45]⟩, 5)], [(⟨#[60, 60]⟩, 6), (⟨#[62, 62]⟩, 7)], [(⟨#[60]⟩, 8), (⟨#[62]⟩, 9), (⟨#[60, 61]⟩, 10), (⟨#[62, 61]⟩, 11)], [(⟨#[61, 61]⟩, 12), (⟨#[33, 61]⟩, 13)], [(⟨#[38]⟩, 14)], [(⟨#[94]⟩, 15)], [(⟨#[124]⟩, 16)], [(⟨#[38, 38]⟩, 17)], [(⟨#[124, 124]⟩, 18)]]
def fnRow (l : List (ByteArray × Nat)) : List (ByteArray × Value) := l.map fun p => (p.1, fnT p.2)
/-- The table in memory: its slice at block g, its maps at these blocks. -/
def TableAt (w : World) (g : Nat) (bs : List Nat) : Prop :=
  Holds w g (bs.map fun b => Value.map (some b)).toArray 183 ∧ bs.length = 10 ∧ ∀ (i : Nat) (h : i < bs.length), FnsAt w bs[i] (fnRow (rowsX.getD i []))
set_option maxRecDepth 100000 in
set_option maxHeartbeats 4000000 in
theorem exp_table (w : World) : Calls Tryz.prog 88 #[] w fun e w' => ∃ g bs, e = .returned (.slice (some ⟨g, 0, none⟩) 10 10) ∧ TableAt w' g bs ∧ (∀ b ∈ bs, w.heap.size ≤ b ∧ b < g) ∧ w.heap.size ≤ g ∧ g + 1 = w'.heap.size ∧ Below w.heap.size w w' := by
  have h0 := Tab.start w
  obtain ⟨x1, b0, p1, h1⟩ := h0.new 183
  obtain ⟨x2, p2, h2⟩ := h1.put ⟨#[42]⟩ (fnT 1) (by decide) (by decide)
  obtain ⟨x3, p3, h3⟩ := h2.put ⟨#[47]⟩ (fnT 2) (by decide) (by decide)
  obtain ⟨x4, p4, h4⟩ := h3.put ⟨#[37]⟩ (fnT 3) (by decide) (by decide)
  obtain ⟨x5, b1, p5, h5⟩ := h4.new 183
  obtain ⟨x6, p6, h6⟩ := h5.put ⟨#[43]⟩ (fnT 4) (by decide) (by decide)
  obtain ⟨x7, p7, h7⟩ := h6.put ⟨#[45]⟩ (fnT 5) (by decide) (by decide)
  obtain ⟨x8, b2, p8, h8⟩ := h7.new 183
  obtain ⟨x9, p9, h9⟩ := h8.put ⟨#[60, 60]⟩ (fnT 6) (by decide) (by decide)
  obtain ⟨x10, p10, h10⟩ := h9.put ⟨#[62, 62]⟩ (fnT 7) (by decide) (by decide)
  obtain ⟨x11, b3, p11, h11⟩ := h10.new 183
  obtain ⟨x12, p12, h12⟩ := h11.put ⟨#[60]⟩ (fnT 8) (by decide) (by decide)
  obtain ⟨x13, p13, h13⟩ := h12.put ⟨#[62]⟩ (fnT 9) (by decide) (by decide)
  obtain ⟨x14, p14, h14⟩ := h13.put ⟨#[60, 61]⟩ (fnT 10) (by decide) (by decide)
  obtain ⟨x15, p15, h15⟩ := h14.put ⟨#[62, 61]⟩ (fnT 11) (by decide) (by decide)
  obtain ⟨x16, b4, p16, h16⟩ := h15.new 183
  obtain ⟨x17, p17, h17⟩ := h16.put ⟨#[61, 61]⟩ (fnT 12) (by decide) (by decide)
  obtain ⟨x18, p18, h18⟩ := h17.put ⟨#[33, 61]⟩ (fnT 13) (by decide) (by decide)
  obtain ⟨x19, b5, p19, h19⟩ := h18.new 183
  obtain ⟨x20, p20, h20⟩ := h19.put ⟨#[38]⟩ (fnT 14) (by decide) (by decide)
  obtain ⟨x21, b6, p21, h21⟩ := h20.new 183
  obtain ⟨x22, p22, h22⟩ := h21.put ⟨#[94]⟩ (fnT 15) (by decide) (by decide)
  obtain ⟨x23, b7, p23, h23⟩ := h22.new 183
  obtain ⟨x24, p24, h24⟩ := h23.put ⟨#[124]⟩ (fnT 16) (by decide) (by decide)
  obtain ⟨x25, b8, p25, h25⟩ := h24.new 183
  obtain ⟨x26, p26, h26⟩ := h25.put ⟨#[38, 38]⟩ (fnT 17) (by decide) (by decide)
  obtain ⟨x27, b9, p27, h27⟩ := h26.new 183
  obtain ⟨x28, p28, h28⟩ := h27.put ⟨#[124, 124]⟩ (fnT 18) (by decide) (by decide)
  simp only [fnT] at p1 p2 p3 p4 p5 p6 p7 p8 p9 p10 p11 p12 p13 p14 p15 p16 p17 p18 p19 p20 p21 p22 p23 p24 p25 p26 p27 p28
  obtain ⟨q1, q2, q3⟩ := h28
  have HQ2 := Lib.hid q2
  clear h0 h1 h2 h3 h4 h5 h6 h7 h8 h9 h10 h11 h12 h13 h14 h15 h16 h17 h18 h19 h20 h21 h22 h23 h24 h25 h26 h27 q2 q3
  go_enter Tryz.func88, Tryz.ntmps88
  go_wp2_with fail
  go_ret
  have hsz := q1.size
  have f0 := HQ2.out (b0, fnRow (rowsX.getD 0 [])) (List.mem_append.2 (.inl (List.mem_append.2 (.inl (List.mem_append.2 (.inl (List.mem_append.2 (.inl (List.mem_append.2 (.inl (List.mem_append.2 (.inl (List.mem_append.2 (.inl (List.mem_append.2 (.inl (List.mem_append.2 (.inl (List.mem_append.2 (.inr (List.mem_singleton.2 rfl)))))))))))))))))))))
  have f1 := HQ2.out (b1, fnRow (rowsX.getD 1 [])) (List.mem_append.2 (.inl (List.mem_append.2 (.inl (List.mem_append.2 (.inl (List.mem_append.2 (.inl (List.mem_append.2 (.inl (List.mem_append.2 (.inl (List.mem_append.2 (.inl (List.mem_append.2 (.inl (List.mem_append.2 (.inr (List.mem_singleton.2 rfl)))))))))))))))))))
  have f2 := HQ2.out (b2, fnRow (rowsX.getD 2 [])) (List.mem_append.2 (.inl (List.mem_append.2 (.inl (List.mem_append.2 (.inl (List.mem_append.2 (.inl (List.mem_append.2 (.inl (List.mem_append.2 (.inl (List.mem_append.2 (.inl (List.mem_append.2 (.inr (List.mem_singleton.2 rfl)))))))))))))))))
  have f3 := HQ2.out (b3, fnRow (rowsX.getD 3 [])) (List.mem_append.2 (.inl (List.mem_append.2 (.inl (List.mem_append.2 (.inl (List.mem_append.2 (.inl (List.mem_append.2 (.inl (List.mem_append.2 (.inl (List.mem_append.2 (.inr (List.mem_singleton.2 rfl)))))))))))))))
  have f4 := HQ2.out (b4, fnRow (rowsX.getD 4 [])) (List.mem_append.2 (.inl (List.mem_append.2 (.inl (List.mem_append.2 (.inl (List.mem_append.2 (.inl (List.mem_append.2 (.inl (List.mem_append.2 (.inr (List.mem_singleton.2 rfl)))))))))))))
  have f5 := HQ2.out (b5, fnRow (rowsX.getD 5 [])) (List.mem_append.2 (.inl (List.mem_append.2 (.inl (List.mem_append.2 (.inl (List.mem_append.2 (.inl (List.mem_append.2 (.inr (List.mem_singleton.2 rfl)))))))))))
  have f6 := HQ2.out (b6, fnRow (rowsX.getD 6 [])) (List.mem_append.2 (.inl (List.mem_append.2 (.inl (List.mem_append.2 (.inl (List.mem_append.2 (.inr (List.mem_singleton.2 rfl)))))))))
  have f7 := HQ2.out (b7, fnRow (rowsX.getD 7 [])) (List.mem_append.2 (.inl (List.mem_append.2 (.inl (List.mem_append.2 (.inr (List.mem_singleton.2 rfl)))))))
  have f8 := HQ2.out (b8, fnRow (rowsX.getD 8 [])) (List.mem_append.2 (.inl (List.mem_append.2 (.inr (List.mem_singleton.2 rfl)))))
  have f9 := HQ2.out (b9, fnRow (rowsX.getD 9 [])) (List.mem_append.2 (.inr (List.mem_singleton.2 rfl)))
  exact ⟨_, [b0, b1, b2, b3, b4, b5, b6, b7, b8, b9], rfl, ⟨Holds.new _ _ _, rfl, (fun i h => by
    have hi : i = 0 ∨ i = 1 ∨ i = 2 ∨ i = 3 ∨ i = 4 ∨ i = 5 ∨ i = 6 ∨ i = 7 ∨ i = 8 ∨ i = 9 := by simp at h; omega
    rcases hi with rfl | rfl | rfl | rfl | rfl | rfl | rfl | rfl | rfl | rfl
    · exact f0.2.alloc _
    · exact f1.2.alloc _
    · exact f2.2.alloc _
    · exact f3.2.alloc _
    · exact f4.2.alloc _
    · exact f5.2.alloc _
    · exact f6.2.alloc _
    · exact f7.2.alloc _
    · exact f8.2.alloc _
    · exact f9.2.alloc _)⟩, (fun b hb => by
    simp only [List.mem_cons, List.not_mem_nil, or_false] at hb
    rcases hb with rfl | rfl | rfl | rfl | rfl | rfl | rfl | rfl | rfl | rfl
    · exact ⟨f0.1, f0.2.lt⟩
    · exact ⟨f1.1, f1.2.lt⟩
    · exact ⟨f2.1, f2.2.lt⟩
    · exact ⟨f3.1, f3.2.lt⟩
    · exact ⟨f4.1, f4.2.lt⟩
    · exact ⟨f5.1, f5.2.lt⟩
    · exact ⟨f6.1, f6.2.lt⟩
    · exact ⟨f7.1, f7.2.lt⟩
    · exact ⟨f8.1, f8.2.lt⟩
    · exact ⟨f9.1, f9.2.lt⟩), hsz, by simp, q1.alloc hsz _⟩
end Go.Proofs.YtiojnbhomjkkgaaGreatDoor

namespace Go.Proofs.YtiojnbhomjkkgaaGreatDoor
open Go.RowKit

/-- The sign at a place, nothing if there is none. A token: kind, text, value. -/
def sgnT (L : List (Int × ByteArray × Int)) (i : Nat) : ByteArray := match L[i]? with
  | some t => if t.1 = 4 then t.2.1 else ⟨#[]⟩
  | none => ⟨#[]⟩
/-- The number of a sign in a row of the table. -/
def rowN (k : Nat) (s : ByteArray) : Option Nat := ((rowsX.getD k []).find? fun p => decide (p.1 = s)).map (·.2)
def unB (s : ByteArray) : Bool := decide (s = ⟨#[45]⟩) || decide (s = ⟨#[126]⟩) || decide (s = ⟨#[33]⟩)
def unT (s : ByteArray) (v : Int) : Int := if s = ⟨#[45]⟩ then -v % 4294967296 else if s = ⟨#[126]⟩ then 4294967295 - v else bitT (v == 0)
def orF (a b : Bool × Bool × Bool) : Bool × Bool × Bool := (a.1 || b.1, a.2.1 || b.2.1, a.2.2 || b.2.2)
def noF : Bool × Bool × Bool := (false, false, false)
/-- Is this a quotient by nothing? -/
def divB (f : Nat) (v : Int) : Bool := v == 0 && (decide (f = 2) || decide (f = 3))
/-- What is read: a number or brackets, an operand with its signs, a level of signs, what follows of it, a whole expression. -/
inductive Wh where
  | prim : Wh
  | opnd : Wh
  | lvl : Nat → Wh
  | loop : Nat → Int → Wh
  | whole : Wh
/-- What is read from a place on, within so many brackets: nothing where the fuel is out; 'some none' where the form is wrong; else the value, the place behind it, and what was noted (too deep, too great, divided by nothing). -/
def evT (L : List (Int × ByteArray × Int)) : Nat → Wh → Nat → Nat → Option (Option (Int × Nat × Bool × Bool × Bool))
  | 0, _, _, _ => none
  | n + 1, .prim, d, i =>
    if sgnT L i = ⟨#[40]⟩ then (evT L n .whole (d + 1) (i + 1)).map fun r => r.bind fun q => if sgnT L q.2.1 = ⟨#[41]⟩ then some (q.1, q.2.1 + 1, q.2.2) else none
    else some (match L[i]? with
      | some t => if t.1 = 2 then some (t.2.2 % 4294967296, i + 1, decide (8 < d), decide (t.2.2 < 0) || decide (4294967295 < t.2.2), false) else none
      | none => none)
  | n + 1, .opnd, d, i => if unB (sgnT L i) = true then (evT L n .opnd d (i + 1)).map fun r => r.map fun q => (unT (sgnT L i) q.1, q.2) else evT L n .prim d i
  | n + 1, .lvl 0, d, i => evT L n .opnd d i
  | n + 1, .lvl (k + 1), d, i => (evT L n (.lvl k) d i).bind fun r => match r with
    | none => some none
    | some q => (evT L n (.loop k q.1) d q.2.1).map fun r2 => r2.map fun q2 => (q2.1, q2.2.1, orF q.2.2 q2.2.2)
  | n + 1, .loop k v, d, i => match rowN k (sgnT L i) with
    | none => some (some (v, i, noF))
    | some f => (evT L n (.lvl k) d (i + 1)).bind fun r => match r with
      | none => some none
      | some q => (evT L n (.loop k (appT f v (if divB f q.1 = true then 1 else q.1))) d q.2.1).map fun r2 => r2.map fun q2 => (q2.1, q2.2.1, orF (orF q.2.2 (false, false, divB f q.1)) q2.2.2)
  | n + 1, .whole, d, i => (evT L n (.lvl 10) d i).bind fun r => match r with
    | none => some none
    | some q => if sgnT L q.2.1 = ⟨#[63]⟩ then (evT L n .whole d (q.2.1 + 1)).bind fun r2 => match r2 with
        | none => some none
        | some y => if sgnT L y.2.1 = ⟨#[58]⟩ then (evT L n .whole d (y.2.1 + 1)).map fun r3 => r3.map fun z => (if q.1 = 0 then z.1 else y.1, z.2.1, orF (orF q.2.2 y.2.2) z.2.2) else some none
      else some (some q)
theorem ev_mono (L : List (Int × ByteArray × Int)) : ∀ (n : Nat) (W : Wh) (d i : Nat) (r : Option (Int × Nat × Bool × Bool × Bool)), evT L n W d i = some r → evT L (n + 1) W d i = some r := by
  intro n
  induction n with
  | zero => intro W d i r h; simp [evT] at h
  | succ n ih =>
    intro W d i r h
    cases W with
    | prim =>
      simp only [evT] at h ⊢
      by_cases hp : sgnT L i = ⟨#[40]⟩
      · rw [if_pos hp] at h ⊢
        obtain ⟨q, hq, e⟩ := Option.map_eq_some_iff.1 h
        have := ih _ _ _ _ hq
        simp only [evT] at this
        rw [this]; simpa using e
      · rw [if_neg hp] at h ⊢; exact h
    | opnd =>
      simp only [evT] at h ⊢
      by_cases hp : unB (sgnT L i) = true
      · rw [if_pos hp] at h ⊢
        obtain ⟨q, hq, e⟩ := Option.map_eq_some_iff.1 h
        have := ih _ _ _ _ hq
        simp only [evT] at this
        rw [this]; simpa using e
      · rw [if_neg hp] at h ⊢
        have := ih _ _ _ _ h
        simp only [evT] at this
        exact this
    | lvl k =>
      cases k with
      | zero =>
        simp only [evT] at h ⊢
        have := ih _ _ _ _ h
        simp only [evT] at this
        exact this
      | succ k =>
        rw [evT] at h ⊢
        obtain ⟨q, hq, e⟩ := Option.bind_eq_some_iff.1 h
        rw [ih _ _ _ _ hq]
        show (match q with | none => some none | some q => _) = _
        cases q with
        | none => exact e
        | some q =>
          obtain ⟨q2, hq2, e2⟩ := Option.map_eq_some_iff.1 e
          show Option.map _ _ = _
          rw [ih _ _ _ _ hq2]; simpa using e2
    | loop k v =>
      rw [evT] at h ⊢
      cases hr : rowN k (sgnT L i) with
      | none => rw [hr] at h; exact h
      | some f =>
        rw [hr] at h
        obtain ⟨q, hq, e⟩ := Option.bind_eq_some_iff.1 h
        show Option.bind _ _ = _
        rw [ih _ _ _ _ hq]
        show (match q with | none => some none | some q => _) = _
        cases q with
        | none => exact e
        | some q =>
          obtain ⟨q2, hq2, e2⟩ := Option.map_eq_some_iff.1 e
          show Option.map _ _ = _
          rw [ih _ _ _ _ hq2]; simpa using e2
    | whole =>
      rw [evT] at h ⊢
      obtain ⟨q, hq, e⟩ := Option.bind_eq_some_iff.1 h
      rw [ih _ _ _ _ hq]
      show (match q with | none => some none | some q => _) = _
      cases q with
      | none => exact e
      | some q =>
        show (if sgnT L q.2.1 = ⟨#[63]⟩ then _ else _) = _
        have e' : (if sgnT L q.2.1 = ⟨#[63]⟩ then _ else _) = _ := e
        by_cases hs : sgnT L q.2.1 = ⟨#[63]⟩
        · rw [if_pos hs] at e' ⊢
          obtain ⟨y, hy, ey⟩ := Option.bind_eq_some_iff.1 e'
          rw [ih _ _ _ _ hy]
          show (match y with | none => some none | some y => _) = _
          cases y with
          | none => exact ey
          | some y =>
            show (if sgnT L y.2.1 = ⟨#[58]⟩ then _ else _) = _
            have ey' : (if sgnT L y.2.1 = ⟨#[58]⟩ then _ else _) = _ := ey
            by_cases hc : sgnT L y.2.1 = ⟨#[58]⟩
            · rw [if_pos hc] at ey' ⊢
              obtain ⟨z, hz, ez⟩ := Option.map_eq_some_iff.1 ey'
              rw [ih _ _ _ _ hz]; simpa using ez
            · rw [if_neg hc] at ey' ⊢; exact ey'
        · rw [if_neg hs] at e' ⊢; exact e'
theorem ev_le (L : List (Int × ByteArray × Int)) {n m : Nat} (hnm : n ≤ m) {W : Wh} {d i : Nat} {r : Option (Int × Nat × Bool × Bool × Bool)} (h : evT L n W d i = some r) : evT L m W d i = some r := by
  obtain ⟨k, rfl⟩ : ∃ k, m = n + k := ⟨m - n, by omega⟩
  clear hnm
  induction k with
  | zero => exact h
  | succ k ih => exact ev_mono L _ _ _ _ _ ih
/-- What is read, whatever the fuel. -/
def Rd (L : List (Int × ByteArray × Int)) (W : Wh) (d i : Nat) (r : Option (Int × Nat × Bool × Bool × Bool)) : Prop := ∃ n, evT L n W d i = some r
theorem Rd.det {L : List (Int × ByteArray × Int)} {W : Wh} {d i : Nat} {r s : Option (Int × Nat × Bool × Bool × Bool)} (h : Rd L W d i r) (k : Rd L W d i s) : r = s := by
  obtain ⟨n, h⟩ := h
  obtain ⟨m, k⟩ := k
  have h1 := ev_le L (Nat.le_max_left n m) h
  have h2 := ev_le L (Nat.le_max_right n m) k
  rw [h1] at h2
  exact Option.some.inj h2
end Go.Proofs.YtiojnbhomjkkgaaGreatDoor

namespace Go.Proofs.YtiojnbhomjkkgaaGreatDoor
open Go.RowKit

/-- What the library's variable holds: some number. -/
def Lay0 (w : World) : Prop := ∃ m, w.cell? ⟨1, 0, none⟩ = some (.int .i64 m)
theorem Lay0.keeps {S : Nat → Prop} {w w' : World} (h : Lay0 w) (k : Keeps S w w') (hn : ¬ S 1) : Lay0 w' := by
  obtain ⟨m, h⟩ := h
  exact ⟨m, (k.cell (p := ⟨1, 0, none⟩) (World.block_lt_of_cell? w _ h) hn).trans h⟩
end Go.Proofs.YtiojnbhomjkkgaaGreatDoor
