/- Memory: a block known whole, and what a call leaves as it was. -/
import Derived.Test.YtjfkjnakmmkkiaaRows
import Derived.WalkKit
import Derived.WalkSpells
import Derived.Lib.Hide
import Derived.OneCell
import Derived.Deep.Draws
namespace Go.Proofs.Ytjfkjnakmmkkiaa
open Go.RowKit

/-- Block b holds just these cells. -/
def Holds (w : World) (b : Nat) (cs : Array Value) (t : TypeId) : Prop := w.heap[b]? = some (.cells cs t (0, 0))

section
variable {w w' : World} {b : Nat} {cs : Array Value} {t : TypeId}
theorem Holds.out (h : Holds w b cs t) : w.heap[b]? = some (.cells cs t (0, 0)) := h
theorem Holds.lt (h : Holds w b cs t) : b < w.heap.size := lt_of_block h
theorem Holds.cell (h : Holds w b cs t) (j : Nat) : w.cell? ⟨b, j, none⟩ = cs[j]? := cell_of_row w b j cs t (0, 0) h
theorem Holds.free (h : Holds w b cs t) (j : Nat) : w.frozen? ⟨b, j, none⟩ = false := by
  have h' : w.heap[b]? = some (.cells cs t (0, 0)) := h
  simp [World.frozen?, h']
theorem Holds.set (h : Holds w b cs t) (j : Nat) (v : Value) : Holds (w.setCell ⟨b, j, none⟩ v) b (cs.setIfInBounds j v) t :=
  heap_setCell_same w b j cs t v h
theorem Holds.other (h : Holds w b cs t) (a : Addr) (v : Value) (hne : b ≠ a.block) : Holds (w.setCell a v) b cs t :=
  (heap_setCell_other w a b v hne).trans h
theorem Holds.drewN (h : Holds w b cs t) (n : Nat) : Holds (w.drewN n) b cs t := h
theorem Holds.drew (h : Holds w b cs t) : Holds w.drew b cs t := h
theorem Holds.alloc (h : Holds w b cs t) (o : Obj) : Holds (w.alloc o) b cs t := (heap_alloc_old w o (lt_of_block h)).trans h
theorem Holds.new (w : World) (cs : Array Value) (t : TypeId) : Holds (w.alloc (.cells cs t)) w.heap.size cs t := heap_alloc_new w _
end

/-- Of the blocks that were there only those of S may have turned. -/
structure Keeps (S : Nat → Prop) (w w' : World) : Prop where
  os : w'.os = w.os
  tape : w'.tape = w.tape
  output : w'.output = w.output
  size : w.heap.size ≤ w'.heap.size
  block : ∀ k, k < w.heap.size → ¬ S k → w'.heap[k]? = w.heap[k]?

section
variable {S S' : Nat → Prop} {a w w' w'' : World}
theorem Keeps.refl (S : Nat → Prop) (w : World) : Keeps S w w := ⟨rfl, rfl, rfl, Nat.le_refl _, fun _ _ _ => rfl⟩
theorem Keeps.trans (h : Keeps S w w') (k : Keeps S' w' w'') (hs : ∀ i, i < w.heap.size → S' i → S i) : Keeps S w w'' :=
  ⟨k.os.trans h.os, k.tape.trans h.tape, k.output.trans h.output, Nat.le_trans h.size k.size,
   fun i hi hn => (k.block i (Nat.lt_of_lt_of_le hi h.size) (fun x => hn (hs i hi x))).trans (h.block i hi hn)⟩
theorem Keeps.mono (h : Keeps S' w w') (hs : ∀ i, i < w.heap.size → S' i → S i) : Keeps S w w' :=
  ⟨h.os, h.tape, h.output, h.size, fun i hi hn => h.block i hi (fun x => hn (hs i hi x))⟩
theorem Keeps.setCell (h : Keeps S a w) {p : Addr} (hp : a.heap.size ≤ p.block ∨ S p.block) (u : Value) : Keeps S a (w.setCell p u) :=
  ⟨h.os, h.tape, h.output, by simpa using h.size, fun i hi hn => (heap_setCell_other w p i u (by rintro rfl; rcases hp with hp | hp; exact absurd hi (by omega); exact hn hp)).trans (h.block i hi hn)⟩
theorem Keeps.alloc (h : Keeps S a w) (o : Obj) : Keeps S a (w.alloc o) :=
  ⟨h.os, h.tape, h.output, Nat.le_trans h.size (by simp), fun i hi hn => (heap_alloc_old w o (Nat.lt_of_lt_of_le hi h.size)).trans (h.block i hi hn)⟩
theorem Keeps.drewN (h : Keeps S a w) (n : Nat) : Keeps S a (w.drewN n) := ⟨h.os, h.tape, h.output, h.size, h.block⟩
theorem Keeps.drew (h : Keeps S a w) : Keeps S a w.drew := ⟨h.os, h.tape, h.output, h.size, h.block⟩
theorem Keeps.below {B : Nat} (h : Keeps S w w') (hB : B ≤ w.heap.size) (hs : ∀ i, i < B → ¬ S i) : Below B w w' :=
  ⟨h.os, h.tape, h.output, h.size, fun i hi => h.block i (by omega) (hs i hi)⟩
theorem Keeps.of_below {B : Nat} (h : Below B w w') : Keeps (fun i => B ≤ i) w w' := ⟨h.os, h.tape, h.output, h.size, fun i _ hn => h.block i (by omega)⟩
theorem Keeps.of_fresh (h : Below w.heap.size w w') (S : Nat → Prop) : Keeps S w w' := ⟨h.os, h.tape, h.output, h.size, fun i hi _ => h.block i hi⟩
theorem Keeps.of_grown {row : Option Nat} (h : w.grownBy w' row) (hs : ∀ i, row = some i → S i) : Keeps S w w' :=
  ⟨h.os, h.tape, h.output, h.size, fun i hi hn => h.block i hi (fun e => hn (hs i e.symm))⟩
theorem Keeps.grown {row : Option Nat} (k : Keeps S a w) (h : w.grownBy w' row) (hs : ∀ i, row = some i → a.heap.size ≤ i ∨ S i) : Keeps S a w' :=
  k.trans (S' := fun i => row = some i) ⟨h.os, h.tape, h.output, h.size, fun i hi hn => h.block i hi (fun e => hn e.symm)⟩ (fun i hi e => (hs i e).resolve_left (by omega))
theorem Keeps.cell (h : Keeps S w w') {p : Addr} (hp : p.block < w.heap.size) (hn : ¬ S p.block) : w'.cell? p = w.cell? p := World.cell?_of_block (w := w) (h.block p.block hp hn)
theorem Keeps.frozen (h : Keeps S w w') {p : Addr} (hp : p.block < w.heap.size) (hn : ¬ S p.block) : w'.frozen? p = w.frozen? p := World.frozen?_of_block (w := w) (h.block p.block hp hn)
theorem Holds.keeps {b : Nat} {cs : Array Value} {t : TypeId} (h : Holds w b cs t) (k : Keeps S w w') (hn : ¬ S b) : Holds w' b cs t := (k.block b (lt_of_block h) hn).trans h
theorem ownsRow_keeps {base : Nat} {e : TypeId} {size : Nat} {v : Value} {n : Nat} {xs : List Value} (h : w.ownsRow base e size v n xs) (k : Keeps S w w') (hs : ∀ g, v.ownBlock = some g → ¬ S g) : w'.ownsRow base e size v n xs := by
  refine ⟨h.1, ?_⟩
  rcases h.2 with hn | ⟨g, cap, cur, rfl, hb, hgg, rest⟩
  · exact .inl hn
  · refine .inr ⟨g, cap, cur, rfl, hb, ?_, rest⟩
    rw [k.block g (Array.getElem?_eq_some_iff.1 hgg).1 (hs g rfl)]
    exact hgg
end

/-- The cells of a block just made, as an append takes them. -/
theorem new_cells (w : World) (cs : Array Value) (t : TypeId) (n : Nat) (hn : n = w.heap.size) (xs : List Value) (hx : xs = cs.toList) :
    ∀ (j : Nat) (u : Value), xs[j]? = some u → (w.alloc (.cells cs t)).cell? ((⟨n, 0, none⟩ : Addr).add j) = some u := by
  subst hn hx
  intro j u hj
  have hadd : (⟨w.heap.size, 0, none⟩ : Addr).add j = ⟨w.heap.size, j, none⟩ := by unfold Addr.add; split <;> simp_all
  rw [hadd, (Holds.new w cs t).cell j]
  simpa using hj
theorem Holds.grown {w w' : World} {b : Nat} {cs : Array Value} {t : TypeId} {row : Option Nat} (h : Holds w b cs t) (g : w.grownBy w' row) (hn : row ≠ some b) : Holds w' b cs t :=
  (g.block b (lt_of_block h) (fun e => hn e.symm)).trans h
theorem ret_bool {a b : Bool} (h : a = b) : Ending.returned (.bool a) = .returned (.bool b) := by rw [h]
theorem ret_int {k : IntKind} {a b : Int} (h : a = b) : Ending.returned (.int k a) = .returned (.int k b) := by rw [h]
end Go.Proofs.Ytjfkjnakmmkkiaa
