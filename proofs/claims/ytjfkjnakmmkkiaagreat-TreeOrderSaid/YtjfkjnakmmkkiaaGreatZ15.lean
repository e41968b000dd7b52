/- Contracts of package walk: slices.SortFunc over a row of siblings. -/
import Derived.Test.YtjfkjnakmmkkiaaGreatZ14
import Derived.Test.YtjfkjnakmmkkiaaGreatZ3
import Derived.Shelf.SlSortCmp.NoneTotal

namespace Go.Proofs.YtjfkjnakmmkkiaaGreat
open Go.RowKit Go.Sort

theorem keeps_sorted {α : Type} [Inhabited α] (enc : α → Value) (w : World) (blk off m : Nat) (dk : Array α) (os : Array Obj) : Keeps (· = blk) w (sortWorld enc w blk off m dk os) := by
  refine ⟨rfl, rfl, rfl, ?_, fun k hk hn => ?_⟩
  · show w.heap.size ≤ (grow (putRow enc (Sort.ahead w m) blk off dk) os).heap.size
    simp [Sort.ahead]
  · show ((mapBlock (Sort.ahead w m) blk (putCells enc off dk)).heap ++ os)[k]? = w.heap[k]?
    have hsz : k < (mapBlock (Sort.ahead w m) blk (putCells enc off dk)).heap.size := by
      have : (mapBlock (Sort.ahead w m) blk (putCells enc off dk)).heap.size = w.heap.size := by simp [mapBlock, Sort.ahead]
      omega
    rw [Array.getElem?_append_left hsz]
    unfold mapBlock
    simp only [Array.getElem?_modify]
    rw [if_neg (fun e => hn e.symm)]
    rfl
theorem row_holds {α : Type} [Inhabited α] (enc : α → Value) {w : World} {base : Nat} {e : TypeId} {g cap : Nat} {ks : List α} (h : w.ownsRow base e 1 (.slice (some ⟨g, 0, none⟩) ks.length cap) ks.length (ks.map enc)) : Sort.Holds enc w g 0 ks.toArray ∧ g < w.heap.size := by
  obtain ⟨h1, ⟨h2, _⟩ | ⟨g', cap', cur, h2, hb, hh, hc, hm, hs, ht⟩⟩ := h
  · cases h2
  · simp only [Value.slice.injEq, Option.some.injEq, Addr.mk.injEq, and_true, true_and] at h2
    obtain ⟨rfl, rfl⟩ := h2
    refine ⟨fun j hj => ?_, lt_of_block hh⟩
    have hH : Holds w g cur e := hh
    simp at hj
    refine ⟨?_, hH.free _⟩
    rw [Nat.zero_add, hH.cell j]
    have : (cur.toList.take (ks.length * 1))[j]? = (ks.map enc)[j]? := by rw [ht]
    rw [List.getElem?_take_of_lt (by omega)] at this
    simpa [hj] using this
theorem row_sorted {α : Type} [Inhabited α] (enc : α → Value) {w : World} {base : Nat} {e : TypeId} {g cap : Nat} {ks : List α} (h : w.ownsRow base e 1 (.slice (some ⟨g, 0, none⟩) ks.length cap) ks.length (ks.map enc)) (m : Nat) (dk : Array α) (os : Array Obj) (hd : dk.size = ks.length) :
    (sortWorld enc w g 0 m dk os).ownsRow base e 1 (.slice (some ⟨g, 0, none⟩) ks.length cap) ks.length (dk.toList.map enc) := by
  obtain ⟨h1, ⟨h2, _⟩ | ⟨g', cap', cur, h2, hb, hh, hc, hm, hs, ht⟩⟩ := h
  · cases h2
  · simp only [Value.slice.injEq, Option.some.injEq, Addr.mk.injEq, and_true, true_and] at h2
    obtain ⟨rfl, rfl⟩ := h2
    refine ⟨by simp [hd], .inr ⟨g, cap, putCells enc 0 dk cur, rfl, hb, ?_, hc, hm, by simpa [putCells] using hs, ?_⟩⟩
    · have hg := lt_of_block hh
      show ((mapBlock (Sort.ahead w m) g (putCells enc 0 dk)).heap ++ os)[g]? = _
      rw [Array.getElem?_append_left (by simp [mapBlock, Sort.ahead]; exact hg)]
      unfold mapBlock
      simp only [Array.getElem?_modify, if_true]
      show Option.map _ w.heap[g]? = _
      rw [hh]; rfl
    · apply List.ext_getElem
      · simp only [List.length_take, Array.length_toList, List.length_map, hd]
        simp only [putCells, Array.size_mapIdx, hs]
        omega
      · intro i k1 k2
        have hi : i < dk.size := by simpa using k2
        have hi2 : i < ks.length := by omega
        simp [putCells, hd, hi2]

/-- The siblings of one row, sorted by their names. -/
theorem walk_SortFunc (R : Nat → Prop) (lb base : Nat) (v kv : Value) (L : List NodeT) (ks : List (Fin L.length)) (w : World) (h0 : 0 < L.length) (hB : Holds w lb #[v] 23) (hL : NodesIn R w v L)
    (hrow : w.ownsRow base 3 1 kv ks.length (ks.map (encK L.length))) (hR : ∀ g, kv.ownBlock = some g → ¬ R g ∧ g ≠ lb) (hlen : ks.length ≤ 1000) :
    Calls Tryz.prog 142 #[kv, .func (.func 143) #[] #[.pointer (some ⟨lb, 0, none⟩)]] w fun e w' =>
      e = .returned (.tuple #[]) ∧ ∃ ks' : List (Fin L.length), ks'.Perm ks ∧ ks'.Pairwise (fun a b : Fin L.length => ltS (nameOf L b.val) (nameOf L a.val) = false) ∧ w'.ownsRow base 3 1 kv ks.length (ks'.map (encK L.length)) ∧ Keeps (fun i => kv.ownBlock = some i) w w' := by
  have : Inhabited (Fin L.length) := ⟨⟨0, h0⟩⟩
  rcases hrow.2 with ⟨rfl, hz⟩ | ⟨g, cap, cur, rfl, hb, hh, hc, hm, hs, ht⟩
  · have hk : ks = [] := List.length_eq_zero_iff.1 hz
    subst hk
    refine (AnyF.slices_SortFunc_none (P := Tryz.prog) (ρ := Tryz.slsort_ren) { Tryz.slsort with } none 0 _ w).mono ?_
    rintro e w' ⟨rfl, rfl⟩
    exact ⟨rfl, [], List.Perm.refl _, List.Pairwise.nil, hrow, Keeps.refl _ _⟩
  · have hR' := hR g rfl
    have eg : ∀ args w, (callFunc 143 args).run Tryz.prog w = .ok (.enter 143 args) w := enters_of Tryz.func143 (by kernel_rfl) rfl
    obtain ⟨hH, hg⟩ := row_holds (encK L.length) hrow
    have hcmp : CmpLays1 Tryz.prog 143 #[.pointer (some ⟨lb, 0, none⟩)] (encK L.length) (cmpK L L.length) g 0 ks.toArray.size w := by
      refine CmpReads.lays fun m os dk _ x y => ?_
      have hk := keeps_sorted (encK L.length) w g 0 m dk os
      refine walk_closure R lb v L x y _ (hB.keeps hk (fun e => hR'.2 e.symm)) (hL.keeps hk (fun i hi e => ?_))
      subst e; exact hR'.1 hi
    have hcon := Any.slices_SortFunc Tryz.slsort (encK L.length) (fun _ => rfl) (cmpK L L.length) (cmpK_swo L L.length) 143 #[.pointer (some ⟨lb, 0, none⟩)] g 0 cap ks.toArray w eg hcmp hH hg (by simp; omega)
    simp only [List.size_toArray] at hcon
    refine hcon.mono ?_
    rintro e w' ⟨rfl, d', n, os, hp, hsrt, rfl⟩
    have hsz : d'.size = ks.length := by have := hp.1; simpa using this
    refine ⟨rfl, d'.toList, ?_, ?_, row_sorted (encK L.length) hrow n d' os hsz, ?_⟩
    · have := hp.2.2
      simpa [Array.extract_eq_self_of_le, hsz] using this
    · rw [List.pairwise_iff_getElem]
      intro i j hi hj hij
      have := hsrt i j (Nat.zero_le _) hij (by simpa [hsz] using hj)
      rw [cmpK_lt] at this
      simp at hi hj
      simpa [hi, hj] using this
    · exact (keeps_sorted (encK L.length) w g 0 n d' os).mono (fun i _ e => by subst e; rfl)
end Go.Proofs.YtjfkjnakmmkkiaaGreat
