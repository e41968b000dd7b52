/- A map of pairs of a text and a number, used as a set. -/
import Derived.Test.YtjfkjnakmmkkiaaTreD
import Derived.Test.YtjfkjnakmmkkiaaOrdS
import Derived.DeepKeys4
import Derived.WideKeyElems
import Derived.WideKeyPair
import Derived.Maps.Keyed
namespace Go.Proofs.Ytjfkjnakmmkkiaa
open Go.RowKit Go.ChangeMaps

def keyV (x : ByteArray × Int) : Value := .agg #[.string x.1, .int .i64 x.2]
def KeyOk (x : ByteArray × Int) : Prop := x.1.size ≤ 9223372036854775807 ∧ -9223372036854775808 ≤ x.2 ∧ x.2 ≤ 9223372036854775807
theorem keyLawL : WideMaps.KeyLaw Try.prog 114 := deep_law_laid (by kernel_rfl) (m := 3) (by omega) (of_decide_eq_true (by kernel_rfl)) (by kernel_rfl) (by kernel_rfl)
theorem keyOf_pairs {P : Program} {k s i : TypeId} {f0 f1 : Field} (hu : P.underlying k = some (.struct #[f0, f1])) (hk : P.keyType k = true) (hc : P.cellsOf k = 2) (hs : P.underlying s = some .string) (hi : P.underlying i = some (.int .i64))
    (hcs : P.cellsOf s = 1) (hci : P.cellsOf i = 1) (h0 : f0.type = s) (h1 : f1.type = i) (o0 : f0.offset = 0) (o1 : f1.offset = 1) (n0 : (f0.name != "_") = true) (n1 : (f1.name != "_") = true) (hz : 1 ≤ P.types.size)
    (a : ByteArray) (b : Int) (ha : a.size ≤ maxLen) (hb : (Lit.int .i64 b).wf = true) : ∃ l, keyOf P k (.agg #[.string a, .int .i64 b]) = some l := by
  obtain ⟨m, hm⟩ : ∃ m, P.types.size = m + 1 := ⟨P.types.size - 1, by omega⟩
  rw [← Option.isSome_iff_exists]
  simp [keyOf, hu, hk, Value.formed, hc, Value.cells, hm, Program.keyLits, hcs, hci, hs, hi, h0, h1, o0, o1, n0, n1, ha, hb]
theorem keyOf_L (x : ByteArray × Int) (h : KeyOk x) : ∃ l, keyOf Try.prog 114 (keyV x) = some l := by
  obtain ⟨h1, h2, h3⟩ := h
  have hw : (Lit.int .i64 x.2).wf = true := by simp [Lit.wf, IntKind.min, IntKind.max, IntKind.signed, IntKind.bits]; omega
  have hs : x.1.size ≤ maxLen := by unfold maxLen; omega
  exact keyOf_pairs Try.underlying114 (by kernel_rfl) (by kernel_rfl) Try.underlying9 Try.underlying3 (by kernel_rfl) (by kernel_rfl) rfl rfl rfl rfl (by decide) (by decide) (of_decide_eq_true (by kernel_rfl)) x.1 x.2 hs hw
theorem keyV_inj {x y : ByteArray × Int} (h : keyV x = keyV y) : x = y := by
  unfold keyV at h
  simp at h
  exact Prod.ext h.1 h.2
/-- Block b is the set of these pairs. -/
def SetAt (w : World) (b : Nat) (S : List (ByteArray × Int)) : Prop :=
  ∃ es clock, w.heap[b]? = some (.map es clock) ∧ es.toList.map (·.key) = S.map keyV ∧ (∀ e ∈ es.toList, e.val = .bool true) ∧ (∀ x ∈ S, KeyOk x)
def memS (S : List (ByteArray × Int)) (x : ByteArray × Int) : Bool := S.any fun y => eqS y.1 x.1 && decide (y.2 = x.2)
theorem memS_iff (S : List (ByteArray × Int)) (x : ByteArray × Int) : memS S x = true ↔ x ∈ S := by
  unfold memS
  rw [List.any_eq_true]
  constructor
  · rintro ⟨y, hy, h⟩
    simp only [Bool.and_eq_true, decide_eq_true_eq, eqS_iff] at h
    have : y = x := Prod.ext h.1 h.2
    exact this ▸ hy
  · intro h; exact ⟨x, h, by simp [eqS_iff]⟩
theorem SetAt.keys {w : World} {b : Nat} {S : List (ByteArray × Int)} {es : Array MapEntry} {clock : Nat} (_h : w.heap[b]? = some (.map es clock)) (hk : es.toList.map (·.key) = S.map keyV) (hS : ∀ x ∈ S, KeyOk x) :
    ∀ e ∈ es.toList, ∃ l, keyOf Try.prog 114 e.key = some l := by
  intro e he
  have : e.key ∈ S.map keyV := by rw [← hk]; exact List.mem_map.2 ⟨e, he, rfl⟩
  obtain ⟨x, hx, e1⟩ := List.mem_map.1 this
  rw [← e1]; exact keyOf_L x (hS x hx)
theorem SetAt.look {w : World} {b : Nat} {S : List (ByteArray × Int)} (h : SetAt w b S) (x : ByteArray × Int) (hx : KeyOk x) :
    (Instr.lookup 112 (.map (some b)) (keyV x) false).run Try.prog w = .ok (.bool (memS S x)) w := by
  obtain ⟨es, clock, hb, hk, hv, hS⟩ := h
  obtain ⟨l, hl⟩ := keyOf_L x hx
  have hz : (zeroValue 4).run Try.prog w = .ok (.bool false) w := by kernel_rfl
  rcases keyLawL.find w hl es.toList (SetAt.keys hb hk hS) with ⟨h1, h2⟩ | ⟨j, e0, h1, h2, h3⟩
  · have hm : memS S x = false := by
      rw [Bool.eq_false_iff]
      intro hc
      have hmem := (memS_iff S x).1 hc
      have : keyV x ∈ es.toList.map (·.key) := by rw [hk]; exact List.mem_map.2 ⟨x, hmem, rfl⟩
      obtain ⟨e, he, e1⟩ := List.mem_map.1 this
      exact h2 e he e1
    rw [hm]
    simp [Instr.lookup, run_underlying Try.underlying112, MapKept.run_getObj_map hb, keyLawL.check w _ hl, h1, hz, Result.andThen]
  · have hm : memS S x = true := by
      rw [memS_iff]
      have : e0.key ∈ S.map keyV := by rw [← hk]; exact List.mem_map.2 ⟨e0, List.mem_of_getElem? h2, rfl⟩
      obtain ⟨y, hy, e1⟩ := List.mem_map.1 this
      rw [h3] at e1
      rw [← keyV_inj e1]; exact hy
    rw [hm]
    have hval := hv e0 (List.mem_of_getElem? h2)
    simp [Instr.lookup, run_underlying Try.underlying112, MapKept.run_getObj_map hb, keyLawL.check w _ hl, h1, hval, Result.andThen]
theorem SetAt.put {w : World} {b : Nat} {S : List (ByteArray × Int)} (h : SetAt w b S) (x : ByteArray × Int) (hx : KeyOk x) (hn : memS S x = false) :
    ∃ o, (Instr.mapUpdate 112 (.map (some b)) (keyV x) (.bool true)).run Try.prog w = .ok () (setBlock w b o) ∧ SetAt (setBlock w b o) b (S ++ [x]) := by
  obtain ⟨es, clock, hb, hk, hv, hS⟩ := h
  obtain ⟨l, hl⟩ := keyOf_L x hx
  rcases keyLawL.find w hl es.toList (SetAt.keys hb hk hS) with ⟨h1, h2⟩ | ⟨j, e0, h1, h2, h3⟩
  · refine ⟨.map (es.push ⟨keyV x, .bool true, clock⟩) (clock + 1), ?_, es.push ⟨keyV x, .bool true, clock⟩, clock + 1, heap_setBlock_same hb _, ?_, ?_, ?_⟩
    · simp [Instr.mapUpdate, run_underlying Try.underlying112, MapKept.run_getObj_map hb, keyLawL.check w false hl, h1, MapKept.run_setObj_map _ hb, Result.andThen, setBlock]
    · simp [hk]
    · intro e he
      simp only [Array.toList_push, List.mem_append, List.mem_singleton] at he
      rcases he with he | rfl
      · exact hv e he
      · rfl
    · intro y hy
      rcases List.mem_append.1 hy with hy | hy
      · exact hS y hy
      · simp only [List.mem_singleton] at hy; subst hy; exact hx
  · exfalso
    have : e0.key ∈ S.map keyV := by rw [← hk]; exact List.mem_map.2 ⟨e0, List.mem_of_getElem? h2, rfl⟩
    obtain ⟨y, hy, e1⟩ := List.mem_map.1 this
    rw [h3] at e1
    have := (memS_iff S x).2 (keyV_inj e1 ▸ hy)
    rw [hn] at this; cases this
theorem SetAt.block {w w' : World} {b : Nat} {S : List (ByteArray × Int)} (h : SetAt w b S) (e : w'.heap[b]? = w.heap[b]?) : SetAt w' b S := by
  obtain ⟨es, clock, hb, r⟩ := h
  exact ⟨es, clock, by rw [e]; exact hb, r⟩
theorem SetAt.lt {w : World} {b : Nat} {S : List (ByteArray × Int)} (h : SetAt w b S) : b < w.heap.size := by
  obtain ⟨es, clock, hb, _⟩ := h; exact lt_of_block hb
theorem SetAt.alloc {w : World} {b : Nat} {S : List (ByteArray × Int)} (h : SetAt w b S) (o : Obj) : SetAt (w.alloc o) b S := h.block (heap_alloc_old w o h.lt)
/-- The block of a map is put anew. -/
theorem below_setBlock {B : Nat} {a w : World} {b : Nat} {o : Obj} (h : Below B a w) (hb : B ≤ b) : Below B a (setBlock w b o) :=
  ⟨h.os, h.tape, h.output, by simpa [setBlock] using h.size, fun i hi => by
    rw [← h.block i hi]; simp only [setBlock]; exact Array.getElem?_setIfInBounds_ne (by omega)⟩
theorem holds_setBlock {w : World} {b g : Nat} {o : Obj} {cs : Array Value} {t : TypeId} (h : Holds w g cs t) (hne : b ≠ g) : Holds (setBlock w b o) g cs t := by
  show _ = _
  rw [← h.out]; simp only [setBlock]; exact Array.getElem?_setIfInBounds_ne hne
end Go.Proofs.Ytjfkjnakmmkkiaa
