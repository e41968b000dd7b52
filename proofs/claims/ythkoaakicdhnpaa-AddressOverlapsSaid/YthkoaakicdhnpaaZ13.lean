/- Contracts of bringupgrow: with, wide; a tree of the call's own beside a tape. | Contracts of bringupgrow: Path. | Contracts of bringupgrow: Step. | Contracts of bringupgrow: the regions of Buses that draw their order. | Contracts of bringupgrow: region 14 of Buses. | Contracts of bringupgrow: region 17 of Buses. | Contracts of bringupgrow: small facts for the regions of Buses. | A drawn region's lemma at the walk: the operations by name, the frame behind it written out; and what Buses goes on in. | Contracts of bringupgrow: pieces of Buses: the two rows of cells (printed by gbus.py) | Contracts of bringupgrow: region 24 of Buses (printed by regen.py). | Contracts of bringupgrow: region 28 of Buses (printed by regen.py). | Contracts of bringupgrow: pieces of Buses: the inner loops (printed by gbus.py) | Contracts of bringupgrow: region 36 of Buses (printed by regen36.py). | Contracts of bringupgrow: pieces of Buses: reg, ranges, and the last change (printed by gbus.py) -/
import Derived.Test.YthkoaakicdhnpaaZ7
import Derived.Test.YthkoaakicdhnpaaZ8
import Derived.Test.YthkoaakicdhnpaaZ12
import Derived.Test.YthkoaakicdhnpaaZ1
import Derived.Test.YthkoaakicdhnpaaZ2
import Derived.Deep.DeepCutAuto
import Derived.Deep.CutBlock
import Derived.Deep.LoopGhost

namespace Go.Proofs.Ythkoaakicdhnpaa
open Go.RowKit

theorem Tape.holds {B b : Nat} {w : World} (h : Tape B w b) : ∃ cs, Holds w b cs 52 := by
  obtain ⟨_, _, _, _, _, hH, _⟩ := h; exact ⟨_, hH⟩
theorem TreeRow.tape {B b base : Nat} {w w' : World} {v : Value} {T : List NodeT} (h : TreeRow w base v T) (ht : Tape B w b) (k : Keeps (· = b) w w') : TreeRow w' base v T := by
  obtain ⟨cs, hH⟩ := ht.holds
  exact h.other hH (by decide) (by decide) k
theorem Tape.new {B b : Nat} {w w' : World} (h : Tape B w b) (k : Below w.heap.size w w') : Tape B w' b := h.keeps (Keeps.of_fresh k (fun _ => False)) (fun _ e => e.elim)
def withT (T : List NodeT) (s name value : ByteArray) : List NodeT := if (setT T s name value).2 ≠ 0 then T else (setT T s name value).1
theorem TreeRow.slice {w : World} {base : Nat} {v : Value} {T : List NodeT} (h : TreeRow w base v T) : ∃ a c, v = .slice a T.length c := by
  obtain ⟨_, _, g2, _⟩ := h; exact row_slice g2

set_option maxHeartbeats 2000000 in
theorem grow_with (base : Nat) (v : Value) (T : List NodeT) (s name value : ByteArray) (w : World) (hT : TreeRow w base v T) (hbase : base ≤ w.heap.size) (hns : name.size ≤ 9223372036854775807) (hvs : value.size ≤ 9223372036854775807) :
    Calls Try.prog 15 #[.agg #[v], .string s, .string name, .string value] w fun e w' => ∃ v', e = .returned (.agg #[v']) ∧ TreeRow w' base v' (withT T s name value) ∧ Below w.heap.size w w' := by
  obtain ⟨a, cap, rfl⟩ := hT.slice
  have HT := Lib.hid hT; clear hT
  have hset := fun wx hx => ref3_Set (fun g => base ≤ g) (.slice a T.length cap) T s name value wx hx hns hvs
  have hwt := Lib.hid (show withT T s name value = if (setT T s name value).2 ≠ 0 then T else (setT T s name value).1 from rfl)
  unfold EditPost at hset
  have hb0 : Below w.heap.size w ((w.alloc (.cells #[.slice a T.length cap] 27)).alloc (.cells #[.slice none 0 0] 27)) := ((Below.refl _ _).alloc (Nat.le_refl _) _).alloc (by simp) _
  have hX0 := (Holds.new w #[.slice a T.length cap] 27).alloc (.cells #[.slice none 0 0] 27)
  have hZ0 := Holds.newAt (w := w.alloc (.cells #[.slice a T.length cap] 27)) (B := w.heap.size + 1) (by simp) #[.slice none 0 0] 27
  generalize setT T s name value = E at *
  obtain ⟨T', er⟩ := E
  simp only at hset hwt
  have HSET := Lib.hid hset
  clear hset
  by_cases h0 : er = 0
  · subst h0
    have hw2 := Lib.hid (show withT T s name value = T' from by rw [hwt.out, if_neg (by simp)])
    go_enter Try.func15, Try.ntmps15
    go_wp2_with fail
    refine (HSET.out _ (by exact (HT.out.new hb0).in)).mono ?_
    rintro e w1 ⟨sv, rfl, hR, hb1⟩
    obtain ⟨sa, sc, rfl⟩ := hR.slice
    have hZ1 := hZ0.keeps (Keeps.of_fresh hb1 (fun _ => False)) (fun e => e)
    have hb2 := hb0.trans (hb1.mono (by simp; omega))
    have hs2 := hb2.size
    have hR2 := ((hR.set hZ1 (by decide) (by decide) 0 (.slice sa T'.length sc)).base (show base ≤ _ by simp; omega)).new ((Below.refl _ _).alloc (Nat.le_refl _) (.cells #[.slice sa T'.length sc] 27))
    have hb3 := (hb2.setCell (p := ⟨w.heap.size + 1, 0, none⟩) (by simp) (.slice sa T'.length sc)).alloc (by simpa using hs2) (.cells #[.slice sa T'.length sc] 27)
    have q0 : ((w1.setCell ⟨w.heap.size + 1, 0, none⟩ (.slice sa T'.length sc)).alloc (.cells #[.slice sa T'.length sc] 27)).cell? ⟨w.heap.size + 1, 0, none⟩ = some (.slice sa T'.length sc) := ((hZ1.set 0 _).alloc _).cell 0
    have z0 := hZ1.cell 0
    have zf := hZ1.free 0
    have zl := hZ1.lt
    clear hb0 hX0 hZ0 hb1 hR
    go_wp2_with fail
    exact bodyPost_ret (v := .agg #[.slice sa T'.length sc]) (by simp [results, Try.results15, go_sem, q0]) rfl ⟨_, rfl, by rw [hw2.out]; exact hR2, hb3⟩
  · have hw2 := Lib.hid (show withT T s name value = T from by rw [hwt.out, if_pos h0])
    have h0' : (er != 0) = true := by simpa using h0
    clear h0
    go_enter Try.func15, Try.ntmps15
    go_wp2_with fail
    refine (HSET.out _ (by exact (HT.out.new hb0).in)).mono ?_
    rintro e w1 ⟨sv, rfl, hR, hb1⟩
    obtain ⟨sa, sc, rfl⟩ := hR.slice
    have hZ1 := hZ0.keeps (Keeps.of_fresh hb1 (fun _ => False)) (fun e => e)
    have hX1 := hX0.keeps (Keeps.of_fresh hb1 (fun _ => False)) (fun e => e)
    have hb2 := hb0.trans (hb1.mono (by simp; omega))
    have hs2 := hb2.size
    have hR2 := ((HT.out.new hb2).set hZ1 (by decide) (by decide) 0 (.slice a T.length cap)).new ((Below.refl _ _).alloc (Nat.le_refl _) (.cells #[.slice sa T'.length sc] 27))
    have hb3 := (hb2.setCell (p := ⟨w.heap.size + 1, 0, none⟩) (by simp) (.slice a T.length cap)).alloc (by simpa using hs2) (.cells #[.slice sa T'.length sc] 27)
    have q0 : ((w1.setCell ⟨w.heap.size + 1, 0, none⟩ (.slice a T.length cap)).alloc (.cells #[.slice sa T'.length sc] 27)).cell? ⟨w.heap.size + 1, 0, none⟩ = some (.slice a T.length cap) := ((hZ1.set 0 _).alloc _).cell 0
    have z0 := hZ1.cell 0
    have zf := hZ1.free 0
    have zl := hZ1.lt
    have x0 := hX1.cell 0
    have xl := hX1.lt
    clear hb0 hX0 hZ0 hb1 hR
    go_wp2_with fail
    exact bodyPost_ret (v := .agg #[.slice a T.length cap]) (by simp [results, Try.results15, go_sem, q0]) rfl ⟨_, rfl, by rw [hw2.out]; exact hR2, hb3⟩

set_option maxHeartbeats 1000000 in
theorem grow_wide (n cells : Int) (w : World) (h0 : 0 ≤ n) (h1 : n ≤ 4611686018427387903) (hc : cells = 2 ∨ n ≤ 4294967295) :
    Calls Try.prog 17 #[.int .i64 n, .int .i64 cells] w fun e w' => e = .returned (.string ⟨(growT (if cells = 2 then [n / 4294967296, n % 4294967296] else [n])).toArray⟩) ∧ Below w.heap.size w w' := by
  by_cases h2 : cells = 2
  · subst h2
    rw [if_pos rfl]
    have hand := and_cell n h0 h1
    have hbd := Lib.hid (show ∀ x ∈ [n / 4294967296, n % 4294967296], 0 ≤ x ∧ x ≤ 4294967295 from by intro x hx; simp at hx; rcases hx with rfl | rfl <;> omega)
    go_enter Try.func17, Try.ntmps17
    go_wp2_with fail
    refine (grow_Cells _ _ _ (list_two w _ _ _) (by exact hbd.out) (by simp)).mono ?_
    rintro e w1 ⟨rfl, hb⟩
    go_wp2_with fail
    go_ret
    exact ⟨rfl, ((Below.refl w.heap.size w).alloc (Nat.le_refl _) _).trans (hb.mono (by simp))⟩
  · have hcb : (cells == 2) = false := by simpa using h2
    rw [if_neg h2]
    have hn1 : n ≤ 4294967295 := by omega
    have hbd := Lib.hid (show ∀ x ∈ [n], 0 ≤ x ∧ x ≤ 4294967295 from by intro x hx; simp at hx; subst hx; omega)
    clear hc h2
    go_enter Try.func17, Try.ntmps17
    go_wp2_with fail
    refine (grow_Cells _ _ _ (list_one w _ _) (by exact hbd.out) (by simp)).mono ?_
    rintro e w1 ⟨rfl, hb⟩
    go_wp2_with fail
    go_ret
    exact ⟨rfl, ((Below.refl w.heap.size w).alloc (Nat.le_refl _) _).trans (hb.mono (by simp))⟩
end Go.Proofs.Ythkoaakicdhnpaa

namespace Go.Proofs.Ythkoaakicdhnpaa
open Go.RowKit

def lPath : List ByteArray := [⟨#[]⟩, ⟨#[47, 113]⟩, ⟨#[47, 47]⟩, ⟨#[97]⟩, ⟨#[47, 97, 47]⟩]
set_option maxHeartbeats 4000000 in
set_option maxRecDepth 100000 in
theorem grow_Path (B b base : Nat) (v : Value) (T : List NodeT) (w : World) (h : Tape B w b) (hT : TreeRow w base v T) (h1 : 0 < T.length) (h2 : T.length ≤ 1000) :
    Calls Try.prog 31 #[.pointer (some ⟨b, 0, none⟩), .agg #[v]] w fun e w' => ∃ s, e = .returned (.string s) ∧ Tape B w' b ∧ Keeps (· = b) w w' := by
  obtain ⟨a, cap, rfl⟩ := hT.slice
  have hlt := h.lt
  have HT := Lib.hid hT; clear hT
  have hb0 : Below w.heap.size w (w.alloc (.cells #[.slice a T.length cap] 27)) := (Below.refl _ _).alloc (Nat.le_refl _) _
  have hX0 := Holds.new w #[.slice a T.length cap] 27
  go_enter Try.func31, Try.ntmps31
  go_wp2_with fail
  refine (mk_N B b 30 _ (h.new hb0) (by omega) (by omega)).mono ?_
  rintro e w1 ⟨r, rfl, r0, r1, hT1, hK1⟩
  have hX1 := hX0.keeps hK1 (by omega)
  have hR1 := (HT.out.new hb0).tape (h.new hb0) hK1
  have hK : Keeps (· = b) w w1 := (Keeps.of_fresh hb0 (fun i => i = b)).trans hK1 (fun _ _ e => e)
  by_cases hr : r = 29
  · have hr' : (r == 29) = true := by simp [hr]
    clear hr
    go_wp2_with fail
    refine (mk_N B b 5 _ (hT1.new ((Below.refl _ _).alloc (Nat.le_refl _) _)) (by omega) (by omega)).mono ?_
    rintro e w2 ⟨q, rfl, q0, q1, hT2, hK2⟩
    obtain ⟨q, rfl⟩ := Int.eq_ofNat_of_zero_le q0
    have hlt1 := hT1.lt
    have hH := (Holds.new w1 (lPath.map Value.string).toArray 9).keeps hK2 (by omega)
    obtain ⟨s, hs1, _⟩ := pick_one lPath q (by have : lPath.length = 5 := rfl; omega)
    have hc : w2.cell? ⟨w1.heap.size, q, none⟩ = some (.string s) := (hH.cell q).trans (by simp [hs1])
    have hKf : Keeps (fun i => i = b) w w2 := (hK.alloc _).trans hK2 (fun _ _ e => e)
    go_wp2_with fail
    go_ret
    exact ⟨s, rfl, hT2, hKf⟩
  · have hr' : (r == 29) = false := by simpa using hr
    clear hr
    have x0 := hX1.cell 0
    have xl := hX1.lt
    have hxb : w.heap.size ≠ b := by omega
    have hT1d : Tape B w1.drew b := hT1.keeps ((Keeps.refl (fun _ => False) w1).drew) (fun _ e => e.elim)
    have hpth := Lib.hid (fun (wx : World) (node : Int) (hx : NodesIn (fun g => base ≤ g) wx (.slice a T.length cap) T) => ref3_Path (fun g => base ≤ g) (.slice a T.length cap) T node wx hx)
    have HR1 := Lib.hid hR1
    clear hR1
    go_wp2_with fail
    go_region_with (first
      | (go_at_call 11; refine (mk_N B b T.length _ (by exact hT1d) (by omega) (by omega)).mono ?_; rintro e w2 ⟨q, rfl, q0, q1, hT2, hK2⟩; have hK2' : Keeps (· = b) w1 w2 := ((Keeps.refl (fun i => i = b) w1).drew).trans hK2 (fun _ _ e => e); have hX2 := hX1.keeps hK2' hxb; have k0 := hX2.cell 0; have kl := hX2.lt; have hR2 := HR1.out.tape hT1 hK2')
      | (go_at_call 13; refine (hpth.out _ q (by exact hR2.in)).mono ?_; rintro e w3 ⟨rfl, hb3⟩; have hT3 := hT2.new hb3; have hKf := (hK.trans hK2' (fun _ _ e => e)).trans (Keeps.of_fresh hb3 (fun i => i = b)) (fun _ _ e => e)))
    all_goals
      go_wp2_with fail
      go_ret
      exact ⟨_, rfl, hT3, hKf⟩
end Go.Proofs.Ythkoaakicdhnpaa

namespace Go.Proofs.Ythkoaakicdhnpaa
open Go.RowKit

/-- What a step adds: nothing, or a node. -/
def Stepped (T T' : List NodeT) (er : Int) : Prop := er = 0 → ∃ s nm, (addT T s nm).2 = 0 ∧ T' = (addT T s nm).1
def StF (b base : Nat) (v : Value) (T : List NodeT) (sv : Value) (er : Int) (T' : List NodeT) (N : Nat) (j : Nat) (u : Value) (w : World) : Prop :=
  if j = 0 ∨ j = 2 then u = .agg #[v]
  else if j = 1 ∨ j = 4 then u = .pointer (some ⟨b, 0, none⟩)
  else if j = 3 then ∃ s, u = .string s
  else if j = 5 then ∃ s, u = .string s ∧ s ∈ lName
  else if j = 6 ∨ j = 7 then u = .tuple #[.agg #[sv], .int .i64 er] ∧ TreeRow w base sv T' ∧ Stepped T T' er
  else if j = 8 then u = .agg #[sv]
  else if j = 10 then u = .pointer (some ⟨N, 0, none⟩) ∧ N ≠ b ∧ ∃ x, Holds w N #[x] 27
  else if j = 11 then Holds w N #[sv] 27
  else u = .int .i64 er
def StS (B b base : Nat) (v : Value) (T : List NodeT) (X : Nat) (W w : World) : Prop := Tape B w b ∧ TreeRow w base v T ∧ Holds w X #[v] 27 ∧ Holds w (X + 1) #[.slice none 0 0] 27 ∧ Keeps (· = b) W w
theorem StF.keeps {B b base : Nat} {v : Value} {T : List NodeT} {sv : Value} {er : Int} {T' : List NodeT} {N j : Nat} {u : Value} {w w' : World} (h : StF b base v T sv er T' N j u w) (hT : Tape B w b) (k : Keeps (· = b) w w') (hN : N ≠ b) : StF b base v T sv er T' N j u w' := by
  unfold StF at *
  split at h
  · rename_i hc; rw [if_pos hc]; exact h
  · rename_i h1; rw [if_neg h1]
    split at h
    · rename_i hc; rw [if_pos hc]; exact h
    · rename_i h2; rw [if_neg h2]
      split at h
      · rename_i hc; rw [if_pos hc]; exact h
      · rename_i h3; rw [if_neg h3]
        split at h
        · rename_i hc; rw [if_pos hc]; exact h
        · rename_i h4; rw [if_neg h4]
          split at h
          · rename_i hc; rw [if_pos hc]; exact ⟨h.1, h.2.1.tape hT k, h.2.2⟩
          · rename_i h5; rw [if_neg h5]
            split at h
            · rename_i hc; rw [if_pos hc]; exact h
            · rename_i h6; rw [if_neg h6]
              split at h
              · rename_i hc; rw [if_pos hc]
                obtain ⟨e, e2, x, hH⟩ := h
                exact ⟨e, e2, x, hH.keeps k e2⟩
              · rename_i h7; rw [if_neg h7]
                split at h
                · rename_i hc; rw [if_pos hc]; exact Holds.keeps h k hN
                · rename_i h8; rw [if_neg h8]; exact h

theorem StS.keeps {B b base : Nat} {v : Value} {T : List NodeT} {X : Nat} {W w w' : World} (h : StS B b base v T X W w) (h1 : X ≠ b) (h2 : X + 1 ≠ b) (k : Keeps (· = b) w w') : Tape B w' b → StS B b base v T X W w' := fun ht =>
  ⟨ht, h.2.1.tape h.1 k, h.2.2.1.keeps k h1, h.2.2.2.1.keeps k h2, h.2.2.2.2.trans k (fun _ _ e => e)⟩
theorem lName_sz : ∀ s ∈ lName, s.size ≤ 20 := by decide
theorem StF.ghost {b base : Nat} {v : Value} {T : List NodeT} {sv : Value} {er : Int} {T' : List NodeT} {N j : Nat} {u : Value} {w : World} {sv2 : Value} {er2 : Int} {T2 : List NodeT} (h : StF b base v T sv er T' N j u w) (hj : j < 6 ∨ j = 10) : StF b base v T sv2 er2 T2 N j u w := by
  rcases (show j = 0 ∨ j = 1 ∨ j = 2 ∨ j = 3 ∨ j = 4 ∨ j = 5 ∨ j = 10 from by omega) with rfl | rfl | rfl | rfl | rfl | rfl | rfl <;> exact h
theorem StF.ghostN {b base : Nat} {v : Value} {T : List NodeT} {sv : Value} {er : Int} {T' : List NodeT} {N j : Nat} {u : Value} {w : World} {N2 : Nat} (h : StF b base v T sv er T' N j u w) (hj : j < 13) (h1 : j ≠ 10) (h2 : j ≠ 11) : StF b base v T sv er T' N2 j u w := by
  rcases (show j = 0 ∨ j = 1 ∨ j = 2 ∨ j = 3 ∨ j = 4 ∨ j = 5 ∨ j = 6 ∨ j = 7 ∨ j = 8 ∨ j = 9 ∨ j = 12 from by omega) with rfl | rfl | rfl | rfl | rfl | rfl | rfl | rfl | rfl | rfl | rfl <;> exact h
theorem StF.store {b base : Nat} {v : Value} {T : List NodeT} {sv : Value} {er : Int} {T' : List NodeT} {N j : Nat} {u x : Value} {w : World} (h : StF b base v T sv er T' N j u w) (hH : Holds w N #[x] 27) : StF b base v T sv er T' N j u (w.setCell ⟨N, 0, none⟩ sv) := by
  unfold StF at *
  split at h
  · rename_i hc; rw [if_pos hc]; exact h
  · rename_i h1; rw [if_neg h1]
    split at h
    · rename_i hc; rw [if_pos hc]; exact h
    · rename_i h2; rw [if_neg h2]
      split at h
      · rename_i hc; rw [if_pos hc]; exact h
      · rename_i h3; rw [if_neg h3]
        split at h
        · rename_i hc; rw [if_pos hc]; exact h
        · rename_i h4; rw [if_neg h4]
          split at h
          · rename_i hc; rw [if_pos hc]; exact ⟨h.1, h.2.1.set hH (by decide) (by decide) 0 sv, h.2.2⟩
          · rename_i h5; rw [if_neg h5]
            split at h
            · rename_i hc; rw [if_pos hc]; exact h
            · rename_i h6; rw [if_neg h6]
              split at h
              · rename_i hc; rw [if_pos hc]
                exact ⟨h.1, h.2.1, _, hH.set 0 sv⟩
              · rename_i h7; rw [if_neg h7]
                split at h
                · rename_i hc; rw [if_pos hc]; exact hH.set 0 sv
                · rename_i h8; rw [if_neg h8]; exact h
theorem StS.store {B b base : Nat} {v : Value} {T : List NodeT} {X N : Nat} {x sv : Value} {W w : World} (h : StS B b base v T X W w) (hH : Holds w N #[x] 27) (h1 : X + 2 ≤ N) (hX : X = W.heap.size) (hb : b < X) (hB : B ≤ X) : StS B b base v T X W (w.setCell ⟨N, 0, none⟩ sv) := by
  have k : Keeps (· = N) w (w.setCell ⟨N, 0, none⟩ sv) := (Keeps.refl (· = N) w).setCell (p := ⟨N, 0, none⟩) (Or.inr rfl) sv
  refine ⟨h.1.keeps k (fun i e => by subst e; omega), h.2.1.set hH (by decide) (by decide) 0 sv, h.2.2.1.keeps k (by omega), h.2.2.2.1.keeps k (by omega), h.2.2.2.2.trans k (fun i hi e => by omega)⟩
theorem StS.fin {B b base : Nat} {v : Value} {T : List NodeT} {X : Nat} {W w : World} (h : StS B b base v T X W w) (hX : X = W.heap.size) (hb : b < X) (hB : B ≤ X) (y : Value) :
    Tape B (w.setCell ⟨X + 1, 0, none⟩ y) b ∧ Keeps (· = b) W (w.setCell ⟨X + 1, 0, none⟩ y) ∧ Holds (w.setCell ⟨X + 1, 0, none⟩ y) (X + 1) #[y] 27 ∧ ∀ v' T', TreeRow w base v' T' → TreeRow (w.setCell ⟨X + 1, 0, none⟩ y) base v' T' := by
  have k : Keeps (· = X + 1) w (w.setCell ⟨X + 1, 0, none⟩ y) := (Keeps.refl (· = X + 1) w).setCell (p := ⟨X + 1, 0, none⟩) (Or.inr rfl) y
  exact ⟨h.1.keeps k (fun i e => by subst e; omega), h.2.2.2.2.trans k (fun i hi e => by omega), h.2.2.2.1.set 0 y, fun v' T' hr => hr.set h.2.2.2.1 (by decide) (by decide) 0 y⟩
set_option maxHeartbeats 4000000 in
set_option maxRecDepth 100000 in
theorem grow_Step (B b base : Nat) (v : Value) (T : List NodeT) (w : World) (h : Tape B w b) (hT : TreeRow w base v T) (h1 : 0 < T.length) (h2 : T.length ≤ 1000) (hbase : base ≤ w.heap.size) :
    Calls Try.prog 12 #[.pointer (some ⟨b, 0, none⟩), .agg #[v]] w fun e w' => ∃ v' T', e = .returned (.agg #[v']) ∧ TreeRow w' base v' T' ∧ (T' = T ∨ Stepped T T' 0) ∧ Tape B w' b ∧ Keeps (· = b) w w' := by
  obtain ⟨a, cap, rfl⟩ := hT.slice
  have hlt := h.lt
  have hBw : B ≤ w.heap.size := Nat.le_trans h.1 (Nat.le_of_lt hlt)
  have hb0 : Below w.heap.size w ((w.alloc (.cells #[.slice a T.length cap] 27)).alloc (.cells #[.slice none 0 0] 27)) := ((Below.refl _ _).alloc (Nat.le_refl _) _).alloc (by simp) _
  have hX0 := (Holds.new w #[.slice a T.length cap] 27).alloc (.cells #[.slice none 0 0] 27)
  have hZ0 := Holds.newAt (w := w.alloc (.cells #[.slice a T.length cap] 27)) (B := w.heap.size + 1) (by simp) #[.slice none 0 0] 27
  have hR0 := hT.new hb0
  have hT0 := h.new hb0
  have hXb : w.heap.size ≠ b := by omega
  have hXb1 : w.heap.size + 1 ≠ b := by omega
  have HR := Lib.hid hR0
  clear hT hR0
  go_enter Try.func12, Try.ntmps12
  go_wp2_with fail
  have hS0 : StS B b base (.slice a T.length cap) T w.heap.size w ((w.alloc (.cells #[.slice a T.length cap] 27)).alloc (.cells #[.slice none 0 0] 27)).drew :=
    ⟨hT0.keeps ((Keeps.refl (fun _ => False) _).drew) (fun _ e => e.elim), HR.out, hX0, hZ0, (Keeps.of_fresh hb0 (fun i => i = b)).drew⟩
  generalize (w.alloc (.cells #[.slice a T.length cap] 27)).alloc (.cells #[.slice none 0 0] 27) = W0 at *
  refine wp_region_any (by kernel_rfl) ?_
  refine wpAny_inv2 (fun l c wx => ∃ sv er T' N, RInv _ _ (StF b base (.slice a T.length cap) T sv er T' N) (StS B b base (.slice a T.length cap) T w.heap.size w) l c wx ∧ w.heap.size + 2 ≤ N) (by kernel_rfl) ?hend ?hstep _ _ _ _ (by rfl) (by decide) ⟨.slice none 0 0, 0, [], w.heap.size + 2, RInv.start hS0, by omega⟩
  case hstep =>
    intro l c wx hI i o ho hl hall K' hK'
    obtain ⟨sv, er, T', N, hI, hNq⟩ := hI
    have hNb : N ≠ b := by omega
    have hi13 : i < 13 := (Array.getElem?_eq_some_iff.1 ho).1
    have hSx := hI.2.1
    have HSX := Lib.hid hSx
    have hX := hSx.2.2.1.cell 0
    have hXl := hSx.2.2.1.lt
    have hic : i = 0 ∨ i = 1 ∨ i = 2 ∨ i = 3 ∨ i = 4 ∨ i = 5 ∨ i = 6 ∨ i = 7 ∨ i = 8 ∨ i = 9 ∨ i = 10 ∨ i = 11 ∨ i = 12 := by omega
    clear hSx
    rcases hic with rfl | rfl | rfl | rfl | rfl | rfl | rfl | rfl | rfl | rfl | rfl | rfl | rfl
    all_goals cases ho
    all_goals have s3 := hI.slot 3 (by kernel_rfl)
    all_goals have s0 := hI.slot 0 (by kernel_rfl)
    all_goals simp only [Array.getD_eq_getD_getElem?] at s3 s0
    · go_simp
      exact hK' _ _ ⟨sv, er, T', N, hI.step (by kernel_rfl) 0 8 rfl (Nat.le_of_ble_eq_true (by kernel_rfl)) _ _ rfl hall HSX.out (fun _ _ h => h) rfl, hNq⟩
    · go_simp
      exact hK' _ _ ⟨sv, er, T', N, hI.step (by kernel_rfl) 1 9 rfl (Nat.le_of_ble_eq_true (by kernel_rfl)) _ _ rfl hall HSX.out (fun _ _ h => h) rfl, hNq⟩
    · go_simp
      exact hK' _ _ ⟨sv, er, T', N, hI.step (by kernel_rfl) 2 10 rfl (Nat.le_of_ble_eq_true (by kernel_rfl)) _ _ rfl hall HSX.out (fun _ _ h => h) rfl, hNq⟩
    · have e1 : c.tmps.getD 9 undef = .pointer (some ⟨b, 0, none⟩) := hI.fact 1 9 rfl (listed hall 1 (by kernel_rfl))
      simp only [Array.getD_eq_getD_getElem?] at e1
      have e2 : c.tmps.getD 10 undef = .agg #[.slice a T.length cap] := hI.fact 2 10 rfl (listed hall 2 (by kernel_rfl))
      simp only [Array.getD_eq_getD_getElem?] at e2
      go_simp
      refine (grow_Path B b base _ T wx HSX.out.1 HSX.out.2.1 h1 h2).mono ?_
      rintro e w2 ⟨s, rfl, ht2, k2⟩
      go_simp
      have hS2 := StS.keeps HSX.out hXb hXb1 k2 ht2
      exact hK' _ _ ⟨sv, er, T', N, hI.step (by kernel_rfl) 3 11 rfl (Nat.le_of_ble_eq_true (by kernel_rfl)) _ _ rfl hall hS2 (fun _ _ h => StF.keeps h HSX.out.1 k2 hNb) ⟨s, rfl⟩, hNq⟩
    · go_simp
      exact hK' _ _ ⟨sv, er, T', N, hI.step (by kernel_rfl) 4 12 rfl (Nat.le_of_ble_eq_true (by kernel_rfl)) _ _ rfl hall HSX.out (fun _ _ h => h) rfl, hNq⟩
    · have e4 : c.tmps.getD 12 undef = .pointer (some ⟨b, 0, none⟩) := hI.fact 4 12 rfl (listed hall 4 (by kernel_rfl))
      simp only [Array.getD_eq_getD_getElem?] at e4
      go_simp
      refine (mk_Name B b wx HSX.out.1).mono ?_
      rintro e w2 ⟨s, rfl, hs, ht2, k2⟩
      go_simp
      have hS2 := StS.keeps HSX.out hXb hXb1 k2 ht2
      exact hK' _ _ ⟨sv, er, T', N, hI.step (by kernel_rfl) 5 13 rfl (Nat.le_of_ble_eq_true (by kernel_rfl)) _ _ rfl hall hS2 (fun _ _ h => StF.keeps h HSX.out.1 k2 hNb) ⟨s, rfl, hs⟩, hNq⟩
    · have e0 : c.tmps.getD 8 undef = .agg #[.slice a T.length cap] := hI.fact 0 8 rfl (listed hall 0 (by kernel_rfl))
      simp only [Array.getD_eq_getD_getElem?] at e0
      obtain ⟨s, e3⟩ : ∃ s, c.tmps.getD 11 undef = .string s := hI.fact 3 11 rfl (listed hall 3 (by kernel_rfl))
      simp only [Array.getD_eq_getD_getElem?] at e3
      obtain ⟨nm, e5, hnm⟩ : ∃ s, c.tmps.getD 13 undef = .string s ∧ s ∈ lName := hI.fact 5 13 rfl (listed hall 5 (by kernel_rfl))
      simp only [Array.getD_eq_getD_getElem?] at e5
      have hnz : nm.size ≤ 9223372036854775807 := by have := lName_sz nm hnm; omega
      go_simp
      refine (ref3_Add _ _ T s nm wx HSX.out.2.1.in hnz).mono ?_
      rintro e w2 ⟨v2, rfl, hr2, hb2⟩
      go_simp
      have k2 := Keeps.of_fresh hb2 (fun i => i = b)
      have hS2 := StS.keeps HSX.out hXb hXb1 k2 (HSX.out.1.new hb2)
      have hr3 := hr2.base (Nat.le_trans hbase HSX.out.2.2.2.2.size)
      have hst : Stepped T (addT T s nm).1 (addT T s nm).2 := fun e => ⟨s, nm, e, rfl⟩
      have u7 := hI.2.2.1.2.unlisted hl (j := 7) (by kernel_rfl)
      have u8 := hI.2.2.1.2.unlisted u7 (j := 8) (by kernel_rfl)
      have u9 := hI.2.2.1.2.unlisted u7 (j := 9) (by kernel_rfl)
      have u11 := hI.2.2.1.2.unlisted u8 (j := 11) (by kernel_rfl)
      have u12 := hI.2.2.1.2.unlisted u9 (j := 12) (by kernel_rfl)
      have hJ := hI.other (F' := StF b base (.slice a T.length cap) T v2 (addT T s nm).2 (addT T s nm).1 N) (fun j hj u hF => hF.ghost (by
        have q1 : j < 13 := hI.lt hj
        have q2 := yes_no hj hl
        have q3 := yes_no hj u7
        have q4 := yes_no hj u8
        have q5 := yes_no hj u9
        have q6 := yes_no hj u11
        have q7 := yes_no hj u12
        omega))
      exact hK' _ _ ⟨v2, (addT T s nm).2, (addT T s nm).1, N, hJ.step (by kernel_rfl) 6 14 rfl (Nat.le_of_ble_eq_true (by kernel_rfl)) _ _ rfl hall hS2 (fun _ _ h => StF.keeps h HSX.out.1 k2 hNb) ⟨rfl, hr3, hst⟩, hNq⟩
    · obtain ⟨e6, hr6, hs6⟩ : c.tmps.getD 14 undef = .tuple #[.agg #[sv], .int .i64 er] ∧ TreeRow wx base sv T' ∧ Stepped T T' er := hI.fact 6 14 rfl (listed hall 6 (by kernel_rfl))
      simp only [Array.getD_eq_getD_getElem?] at e6
      go_simp
      exact hK' _ _ ⟨sv, er, T', N, hI.step (by kernel_rfl) 7 7 rfl (Nat.le_of_ble_eq_true (by kernel_rfl)) _ _ rfl hall HSX.out (fun _ _ h => h) ⟨rfl, hr6, hs6⟩, hNq⟩
    · obtain ⟨e7, hr7, hs7⟩ : c.tmps.getD 7 undef = .tuple #[.agg #[sv], .int .i64 er] ∧ TreeRow wx base sv T' ∧ Stepped T T' er := hI.fact 7 7 rfl (listed hall 7 (by kernel_rfl))
      simp only [Array.getD_eq_getD_getElem?] at e7
      go_simp
      exact hK' _ _ ⟨sv, er, T', N, hI.step (by kernel_rfl) 8 15 rfl (Nat.le_of_ble_eq_true (by kernel_rfl)) _ _ rfl hall HSX.out (fun _ _ h => h) rfl, hNq⟩
    · obtain ⟨e7, hr7, hs7⟩ : c.tmps.getD 7 undef = .tuple #[.agg #[sv], .int .i64 er] ∧ TreeRow wx base sv T' ∧ Stepped T T' er := hI.fact 7 7 rfl (listed hall 7 (by kernel_rfl))
      simp only [Array.getD_eq_getD_getElem?] at e7
      go_simp
      exact hK' _ _ ⟨sv, er, T', N, hI.step (by kernel_rfl) 9 16 rfl (Nat.le_of_ble_eq_true (by kernel_rfl)) _ _ rfl hall HSX.out (fun _ _ h => h) rfl, hNq⟩
    · go_simp
      have hb2 : Below wx.heap.size wx (wx.alloc (.cells #[.slice none 0 0] 27)) := (Below.refl _ _).alloc (Nat.le_refl _) _
      have k2 := Keeps.of_fresh hb2 (fun i => i = b)
      have hS2 := StS.keeps HSX.out hXb hXb1 k2 (HSX.out.1.new hb2)
      have u11 := hI.2.2.1.2.unlisted hl (j := 11) (by kernel_rfl)
      have hNn : wx.heap.size ≠ b := by have := HSX.out.1.lt; omega
      have hNm : w.heap.size + 2 ≤ wx.heap.size := HSX.out.2.2.2.1.lt
      have hJ := hI.other (F' := StF b base (.slice a T.length cap) T sv er T' wx.heap.size) (fun j hj u hF => hF.ghostN (hI.lt hj) (yes_no hj hl) (yes_no hj u11))
      exact hK' _ _ ⟨sv, er, T', wx.heap.size, hJ.step (by kernel_rfl) 10 5 rfl (Nat.le_of_ble_eq_true (by kernel_rfl)) _ _ rfl hall hS2 (fun _ _ h => StF.keeps h HSX.out.1 k2 hNn) ⟨rfl, hNn, _, Holds.new _ _ _⟩, hNm⟩
    · obtain ⟨e10, _, x, hHN⟩ : c.tmps.getD 5 undef = .pointer (some ⟨N, 0, none⟩) ∧ N ≠ b ∧ ∃ x, Holds wx N #[x] 27 := hI.fact 10 5 rfl (listed hall 10 (by kernel_rfl))
      simp only [Array.getD_eq_getD_getElem?] at e10
      have e8 : c.tmps.getD 15 undef = .agg #[sv] := hI.fact 8 15 rfl (listed hall 8 (by kernel_rfl))
      simp only [Array.getD_eq_getD_getElem?] at e8
      obtain ⟨e7, hr7, hs7⟩ : c.tmps.getD 7 undef = .tuple #[.agg #[sv], .int .i64 er] ∧ TreeRow wx base sv T' ∧ Stepped T T' er := hI.fact 7 7 rfl (listed hall 7 (by kernel_rfl))
      obtain ⟨a2, c2, rfl⟩ := hr7.slice
      have n0 : wx.cell? ⟨N, 0, none⟩ = some x := hHN.cell 0
      have n1 : wx.frozen? ⟨N, 0, none⟩ = false := hHN.free 0
      go_simp
      exact hK' _ _ ⟨.slice a2 T'.length c2, er, T', N, hI.stepN 11 rfl _ rfl hall (HSX.out.store hHN hNq rfl hlt hBw) (fun _ _ h => h.store hHN) (hHN.set 0 _), hNq⟩
    · have e9 : c.tmps.getD 16 undef = .int .i64 er := hI.fact 9 16 rfl (listed hall 9 (by kernel_rfl))
      simp only [Array.getD_eq_getD_getElem?] at e9
      go_simp
      exact hK' _ _ ⟨sv, er, T', N, hI.step (by kernel_rfl) 12 6 rfl (Nat.le_of_ble_eq_true (by kernel_rfl)) _ _ rfl hall HSX.out (fun _ _ h => h) rfl, hNq⟩
  case hend =>
    rintro l c wx ⟨sv, er, T', N, hI, hNb⟩ hl
    obtain ⟨e10, _, x, hHN⟩ : c.tmps.getD 5 undef = .pointer (some ⟨N, 0, none⟩) ∧ N ≠ b ∧ ∃ x, Holds wx N #[x] 27 := hI.fact 10 5 rfl (hl 10 (by decide))
    have hH : Holds wx N #[sv] 27 := hI.2.2.2 11 (by decide) (hl 11 (by decide))
    obtain ⟨e7, hr7, hs7⟩ : c.tmps.getD 7 undef = .tuple #[.agg #[sv], .int .i64 er] ∧ TreeRow wx base sv T' ∧ Stepped T T' er := hI.fact 7 7 rfl (hl 7 (by decide))
    have e12 : c.tmps.getD 6 undef = .int .i64 er := hI.fact 12 6 rfl (hl 12 (by decide))
    have s0 := hI.slot 0 (by kernel_rfl)
    have s1 := hI.slot 1 (by kernel_rfl)
    have s3 := hI.slot 3 (by kernel_rfl)
    have s4 := hI.slot 4 (by kernel_rfl)
    have hsz : c.tmps.size = 21 := hI.1.1
    have hdf := hI.1.2.1
    have hS := hI.2.1
    obtain ⟨a2, c2, rfl⟩ := hr7.slice
    have hX := hS.2.2.1.cell 0
    have hZ := hS.2.2.2.1.cell 0
    have hN0 := hH.cell 0
    obtain ⟨ct, cd⟩ := c
    have hfr : ct = #[ct.getD 0 undef, ct.getD 1 undef, ct.getD 2 undef, ct.getD 3 undef, ct.getD 4 undef, ct.getD 5 undef, ct.getD 6 undef, ct.getD 7 undef, ct.getD 8 undef, ct.getD 9 undef, ct.getD 10 undef, ct.getD 11 undef, ct.getD 12 undef, ct.getD 13 undef, ct.getD 14 undef, ct.getD 15 undef, ct.getD 16 undef, ct.getD 17 undef, ct.getD 18 undef, ct.getD 19 undef, ct.getD 20 undef] := frame_list ct 21 hsz
    simp only at s0 s1 s3 s4 e10 e12 hdf
    rw [s0, s1, s3, s4, e10, e12] at hfr
    clear e7 hsz s0 s1 s3 s4 e10 e12 hI
    generalize ct.getD 2 undef = u2 at hfr
    generalize ct.getD 7 undef = u7 at hfr
    generalize ct.getD 8 undef = u8 at hfr
    generalize ct.getD 9 undef = u9 at hfr
    generalize ct.getD 10 undef = u10 at hfr
    generalize ct.getD 11 undef = u11 at hfr
    generalize ct.getD 12 undef = u12 at hfr
    generalize ct.getD 13 undef = u13 at hfr
    generalize ct.getD 14 undef = u14 at hfr
    generalize ct.getD 15 undef = u15 at hfr
    generalize ct.getD 16 undef = u16 at hfr
    generalize ct.getD 17 undef = u17 at hfr
    generalize ct.getD 18 undef = u18 at hfr
    generalize ct.getD 19 undef = u19 at hfr
    generalize ct.getD 20 undef = u20 at hfr
    subst hfr
    have hZf := hS.2.2.2.1.free 0
    by_cases he : er = 0
    · have hne : (er != 0) = false := by simpa using he
      subst he
      obtain ⟨f1, f2, f3, f4⟩ := hS.fin rfl hlt hBw (.slice a2 T'.length c2)
      go_simp
      go_wp2_with fail
      have q0 := f3.cell 0
      exact bodyPost_ret (v := .agg #[.slice a2 T'.length c2]) (by simp [results, Try.results12, go_sem, q0]) rfl ⟨_, _, rfl, f4 _ _ hr7, Or.inr hs7, f1, f2⟩
    · have hne : (er != 0) = true := by simpa using he
      obtain ⟨f1, f2, f3, f4⟩ := hS.fin rfl hlt hBw (.slice a T.length cap)
      have hrT := hS.2.1
      go_simp
      go_wp2_with fail
      have q0 := f3.cell 0
      exact bodyPost_ret (v := .agg #[.slice a T.length cap]) (by simp [results, Try.results12, go_sem, q0]) rfl ⟨_, _, rfl, f4 _ _ hrT, Or.inl rfl, f1, f2⟩
end Go.Proofs.Ythkoaakicdhnpaa

namespace Go.Proofs.Ythkoaakicdhnpaa
open Go.RowKit

noncomputable def busOps (n : Nat) : Array Oper := (regOps (Try.f5.body.getD .skip) n).getD #[]
theorem bus14 : inRow2 .any (busOps 14) = true := by kernel_rfl
theorem bus14a : apartB (busOps 14) = true := by kernel_rfl
theorem bus14n : (busOps 14).size = 10 := by kernel_rfl

/-- Facts that hold on when the tape and the tree's variable change. -/
def Stable (B b Z : Nat) (F : Value → World → Prop) : Prop :=
  ∀ u w w', Tape B w b → (∃ v, Holds w Z #[v] 27) → Keeps (fun i => i = b ∨ i = Z) w w' → F u w → F u w'
def TreeV (base n : Nat) (u : Value) (w : World) : Prop := ∃ v T, u = .agg #[v] ∧ TreeRow w base v T ∧ Shape T ∧ T.length = n
def StrV (K : Nat) (u : Value) (_ : World) : Prop := ∃ s, u = .string s ∧ s.size ≤ K
def NumV (p : Int → Prop) (u : Value) (_ : World) : Prop := ∃ x, u = .int .i64 x ∧ p x
def RowV (p : List Int → Prop) (u : Value) (w : World) : Prop := ∃ N l, u = .slice (some ⟨N, 0, none⟩) l.length l.length ∧ Holds w N (l.map (Value.int .i64)).toArray 3 ∧ p l
theorem Stable.const {B b Z : Nat} {p : Value → Prop} : Stable B b Z (fun u _ => p u) := fun _ _ _ _ _ _ h => h
theorem Stable.str {B b Z K : Nat} : Stable B b Z (StrV K) := fun _ _ _ _ _ _ h => h
theorem Stable.num {B b Z : Nat} {p : Int → Prop} : Stable B b Z (NumV p) := fun _ _ _ _ _ _ h => h
theorem Stable.tree {B b Z base n : Nat} : Stable B b Z (TreeV base n) := by
  rintro u w w' ht ⟨z, hz⟩ k ⟨v, T, e, hr, hs, hl⟩
  obtain ⟨cs, hH⟩ := ht.holds
  refine ⟨v, T, e, hr.keeps k ?_, hs, hl⟩
  rintro g (rfl | rfl)
  · exact Or.inr ⟨_, _, hH, by decide, by decide⟩
  · exact Or.inr ⟨_, _, hz, by decide, by decide⟩
theorem Stable.row {B b Z : Nat} {p : List Int → Prop} : Stable B b Z (RowV p) := by
  rintro u w w' ht ⟨z, hz⟩ k ⟨N, l, e, hr, hp⟩
  obtain ⟨cs, hH⟩ := ht.holds
  refine ⟨N, l, e, hr.keeps k ?_, hp⟩
  rintro (rfl | rfl)
  · have := hr.symm.trans hH
    injection this with this; injection this with _ this; exact absurd this (by decide)
  · have := hr.symm.trans hz
    injection this with this; injection this with _ this; exact absurd this (by decide)
end Go.Proofs.Ythkoaakicdhnpaa

namespace Go.Proofs.Ythkoaakicdhnpaa
open Go.RowKit

def RowAt (g : Nat) (p : List Int → Prop) (w : World) : Prop := ∃ l : List Int, Holds w g (l.map (Value.int .i64)).toArray 3 ∧ p l
def Ones (n : Nat) (l : List Int) : Prop := l.length = n ∧ ∀ x ∈ l, x = 0 ∨ x = 1 ∨ x = 2
/-- The world in which Buses goes on. -/
def BusS (B b base Z n gA gS : Nat) (W w : World) : Prop :=
  Tape B w b ∧ (∃ v T, Holds w Z #[v] 27 ∧ TreeRow w base v T ∧ Shape T ∧ T.length = n) ∧ RowAt gA (Ones n) w ∧ RowAt gS (Ones n) w ∧ Keeps (fun i => i = b ∨ i = Z) W w
theorem RowAt.stable {B b Z g : Nat} {p : List Int → Prop} {w w' : World} (h : RowAt g p w) (ht : Tape B w b) (hz : ∃ v, Holds w Z #[v] 27) (k : Keeps (fun i => i = b ∨ i = Z) w w') : RowAt g p w' := by
  obtain ⟨l, hl, hp⟩ := h
  obtain ⟨N, l', e, h2, hp2⟩ := Stable.row (B := B) (b := b) (Z := Z) (p := p) (.slice (some ⟨g, 0, none⟩) l.length l.length) w w' ht hz k ⟨g, l, rfl, hl, hp⟩
  injection e with e1 e2 e3
  injection e1 with e1; injection e1 with e1
  subst e1
  exact ⟨l', h2, hp2⟩
theorem BusS.call {B b base Z n gA gS : Nat} {W w w' : World} (h : BusS B b base Z n gA gS W w) (hne : Z ≠ b) (k : Keeps (· = b) w w') (ht : Tape B w' b) : BusS B b base Z n gA gS W w' := by
  obtain ⟨h1, ⟨v, T, hZ, hr, hs, hl⟩, hA, hS, hk⟩ := h
  have k2 : Keeps (fun i => i = b ∨ i = Z) w w' := k.mono (fun _ _ e => Or.inl e)
  exact ⟨ht, ⟨v, T, hZ.keeps k hne, hr.tape h1 k, hs, hl⟩, hA.stable h1 ⟨_, hZ⟩ k2, hS.stable h1 ⟨_, hZ⟩ k2, hk.trans k2 (fun _ _ e => e)⟩
theorem BusS.store {B b base Z n gA gS : Nat} {W w : World} {v : Value} {T : List NodeT} (h : BusS B b base Z n gA gS W w) (hne : Z ≠ b) (hB : B ≤ Z) (hr : TreeRow w base v T) (hs : Shape T) (hl : T.length = n) : BusS B b base Z n gA gS W (w.setCell ⟨Z, 0, none⟩ v) := by
  obtain ⟨h1, ⟨v0, T0, hZ, _, _, _⟩, hA, hS, hk⟩ := h
  have k1 : Keeps (· = Z) w (w.setCell ⟨Z, 0, none⟩ v) := (Keeps.refl (· = Z) w).setCell (p := ⟨Z, 0, none⟩) (Or.inr rfl) v
  have k2 : Keeps (fun i => i = b ∨ i = Z) w (w.setCell ⟨Z, 0, none⟩ v) := k1.mono (fun _ _ e => Or.inr e)
  exact ⟨h1.keeps k1 (fun i e => by subst e; exact ⟨hB, hne⟩), ⟨v, T, hZ.set 0 v, hr.set hZ (by decide) (by decide) 0 v, hs, hl⟩, hA.stable h1 ⟨_, hZ⟩ k2, hS.stable h1 ⟨_, hZ⟩ k2, hk.trans k2 (fun _ _ e => e)⟩
theorem shape_with {T : List NodeT} (h : Shape T) (s name value : ByteArray) : Shape (withT T s name value) := by
  unfold withT
  split
  · exact h
  · rename_i he; exact (shape_set h s name value (by simpa using he)).1
theorem len_with {T : List NodeT} (h : Shape T) (s name value : ByteArray) : (withT T s name value).length = T.length := by
  unfold withT
  split
  · rfl
  · rename_i he; exact (shape_set h s name value (by simpa using he)).2
def F14 (base n gA k : Nat) (s : ByteArray) (j : Nat) : Value → World → Prop := match j with
  | 0 => TreeV base n
  | 1 => fun u _ => u = .string s
  | 2 => fun u _ => u = .slice (some ⟨gA, 0, none⟩) n n
  | 3 => fun u _ => u = .int .i64 k
  | 4 => fun u _ => u = .pointer (some ⟨gA, k, none⟩)
  | 5 => NumV fun x => x = 0 ∨ x = 1 ∨ x = 2
  | 6 => RowV fun l => ∃ x, l = [x] ∧ (x = 0 ∨ x = 1 ∨ x = 2)
  | 7 => StrV 100
  | 8 => TreeV base n
  | _ => fun _ _ => True
theorem F14.stable {B b Z base n gA k : Nat} {s : ByteArray} (j : Nat) : Stable B b Z (F14 base n gA k s j) := by
  unfold F14
  split
  · exact Stable.tree
  · exact Stable.const
  · exact Stable.const
  · exact Stable.const
  · exact Stable.const
  · exact Stable.num
  · exact Stable.row
  · exact Stable.str
  · exact Stable.tree
  · exact Stable.const

set_option maxHeartbeats 4000000 in
set_option maxRecDepth 100000 in
theorem bus_region14 {Q : Exit → Act → World → Prop} (B b base Z n gA gS k : Nat) (s : ByteArray) (W w : World) (A : Act) (hsz : A.tmps.size = 203) (hZb : Z ≠ b) (hWb : base ≤ W.heap.size) (hZB : B ≤ Z) (hk : k < n) (_ : n ≤ 1000)
    (a5 : A.tmps.getD 5 undef = .pointer (some ⟨Z, 0, none⟩)) (a7 : A.tmps.getD 7 undef = .slice (some ⟨gA, 0, none⟩) n n) (a9 : A.tmps.getD 9 undef = .int .i64 k) (a10 : A.tmps.getD 10 undef = .string s)
    (hS : BusS B b base Z n gA gS W w) (hQ : ∀ c w', SameBut (busOps 14) A c → BusS B b base Z n gA gS W w' → Q .normal c w') :
    wpAny Try.prog .any (busOps 14) Q (busOps 14).size (Array.replicate (busOps 14).size false) A w := by
  refine wpAny_inv2 (fun l c wx => RInv (busOps 14) A (F14 base n gA k s) (BusS B b base Z n gA gS W) l c wx) bus14 (fun l c wx hI _ => hQ c wx hI.1 hI.2.1) ?hstep _ _ _ _ (by simp) (by simp) (RInv.start hS)
  intro l c wx hI i o ho hl hall K' hK'
  have hi13 : i < 10 := by rw [← bus14n]; exact (Array.getElem?_eq_some_iff.1 ho).1
  simp only [busOps, regOps, Try.f5, Option.getD_some, reduceIte, Nat.reduceEqDiff] at ho
  have hSx := hI.2.1
  have HSX := Lib.hid hSx
  obtain ⟨hT, ⟨v, T, hZ, hr, hs, hlen⟩, ⟨lA, hA, hA1, hA2⟩, _, hkW⟩ := hSx
  obtain ⟨ta, tc, rfl⟩ := hr.slice
  have HL := Lib.hid hlen
  have HA1 := Lib.hid hA1
  clear hlen hA1
  have hX := hZ.cell 0
  have hXf := hZ.free 0
  have hbx : base ≤ wx.heap.size := Nat.le_trans hWb hkW.size
  have s5 := (hI.slot 5 (by kernel_rfl)).trans a5
  have s7 := (hI.slot 7 (by kernel_rfl)).trans a7
  have s9 := (hI.slot 9 (by kernel_rfl)).trans a9
  have s10 := (hI.slot 10 (by kernel_rfl)).trans a10
  simp only [Array.getD_eq_getD_getElem?] at s5 s7 s9 s10
  have hic : i = 0 ∨ i = 1 ∨ i = 2 ∨ i = 3 ∨ i = 4 ∨ i = 5 ∨ i = 6 ∨ i = 7 ∨ i = 8 ∨ i = 9 := by omega
  rcases hic with rfl | rfl | rfl | rfl | rfl | rfl | rfl | rfl | rfl | rfl
  all_goals cases ho
  · go_simp
    exact hK' _ _ (hI.step bus14a 0 62 rfl (by rw [hsz]; decide) _ _ rfl hall HSX.out (fun _ _ h => h) ⟨_, T, rfl, hr, hs, HL.out⟩)
  · go_simp
    exact hK' _ _ (hI.step bus14a 1 63 rfl (by rw [hsz]; decide) _ _ rfl hall HSX.out (fun _ _ h => h) rfl)
  · go_simp
    exact hK' _ _ (hI.step bus14a 2 64 rfl (by rw [hsz]; decide) _ _ rfl hall HSX.out (fun _ _ h => h) rfl)
  · go_simp
    exact hK' _ _ (hI.step bus14a 3 65 rfl (by rw [hsz]; decide) _ _ rfl hall HSX.out (fun _ _ h => h) rfl)
  · have e2 : c.tmps.getD 64 undef = .slice (some ⟨gA, 0, none⟩) n n := hI.fact 2 64 rfl (listed hall 2 (by kernel_rfl))
    have e3 : c.tmps.getD 65 undef = .int .i64 k := hI.fact 3 65 rfl (listed hall 3 (by kernel_rfl))
    simp only [Array.getD_eq_getD_getElem?] at e2 e3
    go_simp
    exact hK' _ _ (hI.step bus14a 4 66 rfl (by rw [hsz]; decide) _ _ rfl hall HSX.out (fun _ _ h => h) rfl)
  · have e4 : c.tmps.getD 66 undef = .pointer (some ⟨gA, k, none⟩) := hI.fact 4 66 rfl (listed hall 4 (by kernel_rfl))
    simp only [Array.getD_eq_getD_getElem?] at e4
    have hkl : k < lA.length := by rw [HA1.out]; exact hk
    have hc : wx.cell? ⟨gA, k, none⟩ = some (.int .i64 (lA[k]'hkl)) := by rw [hA.cell k]; simp [hkl]
    go_simp
    exact hK' _ _ (hI.step bus14a 5 67 rfl (by rw [hsz]; decide) _ _ rfl hall HSX.out (fun _ _ h => h) ⟨_, rfl, hA2 _ (List.getElem_mem hkl)⟩)
  · obtain ⟨x, e5, hx⟩ : NumV (fun x => x = 0 ∨ x = 1 ∨ x = 2) (c.tmps.getD 67 undef) wx := hI.fact 5 67 rfl (listed hall 5 (by kernel_rfl))
    simp only [Array.getD_eq_getD_getElem?] at e5
    go_simp
    have hb2 : Below wx.heap.size wx (wx.alloc (.cells #[.int .i64 x] 3)) := (Below.refl _ _).alloc (Nat.le_refl _) _
    have hS2 := BusS.call HSX.out hZb (Keeps.of_fresh hb2 _) (hT.new hb2)
    exact hK' _ _ (hI.step bus14a 6 68 rfl (by rw [hsz]; decide) _ _ rfl hall hS2 (fun j u h => F14.stable j u _ _ hT ⟨_, hZ⟩ (Keeps.of_fresh hb2 _) h) ⟨_, [x], rfl, Holds.new _ _ _, x, rfl, hx⟩)
  · obtain ⟨N, l, e6, hN, x, rfl, hx⟩ : RowV (fun l => ∃ x, l = [x] ∧ (x = 0 ∨ x = 1 ∨ x = 2)) (c.tmps.getD 68 undef) wx := hI.fact 6 68 rfl (listed hall 6 (by kernel_rfl))
    simp only [Array.getD_eq_getD_getElem?] at e6
    have hls : ListAt wx.heap.size wx (.slice (some ⟨N, 0, none⟩) [x].length [x].length) [x] := ⟨_, _, rfl, Nat.le_refl _, by simp, fun _ => ⟨N, 0, rfl, hN.lt, fun i hi => by
      obtain rfl : i = 0 := by simp at hi; exact hi
      exact hN.cell 0⟩⟩
    go_simp
    refine (grow_Cells [x] _ wx hls (by intro y hy; simp at hy; omega) (by simp)).mono ?_
    rintro e w2 ⟨rfl, hb2⟩
    go_simp
    have hS2 := BusS.call HSX.out hZb (Keeps.of_fresh hb2 _) (hT.new hb2)
    exact hK' _ _ (hI.step bus14a 7 69 rfl (by rw [hsz]; decide) _ _ rfl hall hS2 (fun j u h => F14.stable j u _ _ hT ⟨_, hZ⟩ (Keeps.of_fresh hb2 _) h) ⟨_, rfl, by rcases hx with rfl | rfl | rfl <;> decide⟩)
  · obtain ⟨v0, T0, e0, hr0, hs0, hl0⟩ : TreeV base n (c.tmps.getD 62 undef) wx := hI.fact 0 62 rfl (listed hall 0 (by kernel_rfl))
    have e1 : c.tmps.getD 63 undef = .string s := hI.fact 1 63 rfl (listed hall 1 (by kernel_rfl))
    obtain ⟨y, e7, hy⟩ : StrV 100 (c.tmps.getD 69 undef) wx := hI.fact 7 69 rfl (listed hall 7 (by kernel_rfl))
    simp only [Array.getD_eq_getD_getElem?] at e0 e1 e7
    have HL0 := Lib.hid hl0
    clear hl0
    go_simp
    refine (grow_with base v0 T0 s _ y wx hr0 hbx (by decide) (by omega)).mono ?_
    rintro e w2 ⟨v2, rfl, hr2, hb2⟩
    go_simp
    have hS2 := BusS.call HSX.out hZb (Keeps.of_fresh hb2 _) (hT.new hb2)
    exact hK' _ _ (hI.step bus14a 8 70 rfl (by rw [hsz]; decide) _ _ rfl hall hS2 (fun j u h => F14.stable j u _ _ hT ⟨_, hZ⟩ (Keeps.of_fresh hb2 _) h) ⟨_, _, rfl, hr2, shape_with hs0 _ _ _, (len_with hs0 _ _ _).trans HL0.out⟩)
  · obtain ⟨v0, T0, e8, hr0, hs0, hl0⟩ : TreeV base n (c.tmps.getD 70 undef) wx := hI.fact 8 70 rfl (listed hall 8 (by kernel_rfl))
    simp only [Array.getD_eq_getD_getElem?] at e8
    obtain ⟨a2, c2, rfl⟩ := hr0.slice
    have HL0 := Lib.hid hl0
    clear hl0
    go_simp
    have k2 : Keeps (fun i => i = b ∨ i = Z) wx (wx.setCell ⟨Z, 0, none⟩ (.slice a2 T0.length c2)) := (Keeps.refl _ wx).setCell (p := ⟨Z, 0, none⟩) (Or.inr (Or.inr rfl)) _
    have hS2 := BusS.store HSX.out hZb hZB hr0 hs0 HL0.out
    exact hK' _ _ (hI.stepN 9 rfl _ rfl hall hS2 (fun j u h => F14.stable j u _ _ hT ⟨_, hZ⟩ k2 h) trivial)
end Go.Proofs.Ythkoaakicdhnpaa

namespace Go.Proofs.Ythkoaakicdhnpaa
open Go.RowKit
theorem bus17 : inRow2 .any (busOps 17) = true := by kernel_rfl
theorem bus17a : apartB (busOps 17) = true := by kernel_rfl
theorem bus17n : (busOps 17).size = 10 := by kernel_rfl
def F17 (base n gS k : Nat) (s : ByteArray) (j : Nat) : Value → World → Prop := match j with
  | 0 => TreeV base n
  | 1 => fun u _ => u = .string s
  | 2 => fun u _ => u = .slice (some ⟨gS, 0, none⟩) n n
  | 3 => fun u _ => u = .int .i64 k
  | 4 => fun u _ => u = .pointer (some ⟨gS, k, none⟩)
  | 5 => NumV fun x => x = 0 ∨ x = 1 ∨ x = 2
  | 6 => RowV fun l => ∃ x, l = [x] ∧ (x = 0 ∨ x = 1 ∨ x = 2)
  | 7 => StrV 100
  | 8 => TreeV base n
  | _ => fun _ _ => True
theorem F17.stable {B b Z base n gS k : Nat} {s : ByteArray} (j : Nat) : Stable B b Z (F17 base n gS k s j) := by
  unfold F17
  split
  · exact Stable.tree
  · exact Stable.const
  · exact Stable.const
  · exact Stable.const
  · exact Stable.const
  · exact Stable.num
  · exact Stable.row
  · exact Stable.str
  · exact Stable.tree
  · exact Stable.const

set_option maxHeartbeats 4000000 in
set_option maxRecDepth 100000 in
theorem bus_region17 {Q : Exit → Act → World → Prop} (B b base Z n gA gS k : Nat) (s : ByteArray) (W w : World) (A : Act) (hsz : A.tmps.size = 203) (hZb : Z ≠ b) (hWb : base ≤ W.heap.size) (hZB : B ≤ Z) (hk : k < n) (_hn : n ≤ 1000)
    (a5 : A.tmps.getD 5 undef = .pointer (some ⟨Z, 0, none⟩)) (a8 : A.tmps.getD 8 undef = .slice (some ⟨gS, 0, none⟩) n n) (a9 : A.tmps.getD 9 undef = .int .i64 k) (a10 : A.tmps.getD 10 undef = .string s)
    (hS : BusS B b base Z n gA gS W w) (hQ : ∀ c w', SameBut (busOps 17) A c → BusS B b base Z n gA gS W w' → Q .normal c w') :
    wpAny Try.prog .any (busOps 17) Q (busOps 17).size (Array.replicate (busOps 17).size false) A w := by
  refine wpAny_inv2 (fun l c wx => RInv (busOps 17) A (F17 base n gS k s) (BusS B b base Z n gA gS W) l c wx) bus17 (fun l c wx hI _ => hQ c wx hI.1 hI.2.1) ?hstep _ _ _ _ (by simp) (by simp) (RInv.start hS)
  intro l c wx hI i o ho hl hall K' hK'
  have hi13 : i < 10 := by rw [← bus17n]; exact (Array.getElem?_eq_some_iff.1 ho).1
  simp only [busOps, regOps, Try.f5, Option.getD_some, reduceIte, Nat.reduceEqDiff] at ho
  have hSx := hI.2.1
  have HSX := Lib.hid hSx
  obtain ⟨hT, ⟨v, T, hZ, hr, hs, hlen⟩, _, ⟨lA, hA, hA1, hA2⟩, hkW⟩ := hSx
  obtain ⟨ta, tc, rfl⟩ := hr.slice
  have HL := Lib.hid hlen
  have HA1 := Lib.hid hA1
  clear hlen hA1
  have hX := hZ.cell 0
  have hXf := hZ.free 0
  have hbx : base ≤ wx.heap.size := Nat.le_trans hWb hkW.size
  have s5 := (hI.slot 5 (by kernel_rfl)).trans a5
  have s8 := (hI.slot 8 (by kernel_rfl)).trans a8
  have s9 := (hI.slot 9 (by kernel_rfl)).trans a9
  have s10 := (hI.slot 10 (by kernel_rfl)).trans a10
  simp only [Array.getD_eq_getD_getElem?] at s5 s8 s9 s10
  have hic : i = 0 ∨ i = 1 ∨ i = 2 ∨ i = 3 ∨ i = 4 ∨ i = 5 ∨ i = 6 ∨ i = 7 ∨ i = 8 ∨ i = 9 := by omega
  rcases hic with rfl | rfl | rfl | rfl | rfl | rfl | rfl | rfl | rfl | rfl
  all_goals cases ho
  · go_simp
    exact hK' _ _ (hI.step bus17a 0 79 rfl (by rw [hsz]; decide) _ _ rfl hall HSX.out (fun _ _ h => h) ⟨_, T, rfl, hr, hs, HL.out⟩)
  · go_simp
    exact hK' _ _ (hI.step bus17a 1 80 rfl (by rw [hsz]; decide) _ _ rfl hall HSX.out (fun _ _ h => h) rfl)
  · go_simp
    exact hK' _ _ (hI.step bus17a 2 81 rfl (by rw [hsz]; decide) _ _ rfl hall HSX.out (fun _ _ h => h) rfl)
  · go_simp
    exact hK' _ _ (hI.step bus17a 3 82 rfl (by rw [hsz]; decide) _ _ rfl hall HSX.out (fun _ _ h => h) rfl)
  · have e2 : c.tmps.getD 81 undef = .slice (some ⟨gS, 0, none⟩) n n := hI.fact 2 81 rfl (listed hall 2 (by kernel_rfl))
    have e3 : c.tmps.getD 82 undef = .int .i64 k := hI.fact 3 82 rfl (listed hall 3 (by kernel_rfl))
    simp only [Array.getD_eq_getD_getElem?] at e2 e3
    go_simp
    exact hK' _ _ (hI.step bus17a 4 83 rfl (by rw [hsz]; decide) _ _ rfl hall HSX.out (fun _ _ h => h) rfl)
  · have e4 : c.tmps.getD 83 undef = .pointer (some ⟨gS, k, none⟩) := hI.fact 4 83 rfl (listed hall 4 (by kernel_rfl))
    simp only [Array.getD_eq_getD_getElem?] at e4
    have hkl : k < lA.length := by rw [HA1.out]; exact hk
    have hc : wx.cell? ⟨gS, k, none⟩ = some (.int .i64 (lA[k]'hkl)) := by rw [hA.cell k]; simp [hkl]
    go_simp
    exact hK' _ _ (hI.step bus17a 5 84 rfl (by rw [hsz]; decide) _ _ rfl hall HSX.out (fun _ _ h => h) ⟨_, rfl, hA2 _ (List.getElem_mem hkl)⟩)
  · obtain ⟨x, e5, hx⟩ : NumV (fun x => x = 0 ∨ x = 1 ∨ x = 2) (c.tmps.getD 84 undef) wx := hI.fact 5 84 rfl (listed hall 5 (by kernel_rfl))
    simp only [Array.getD_eq_getD_getElem?] at e5
    go_simp
    have hb2 : Below wx.heap.size wx (wx.alloc (.cells #[.int .i64 x] 3)) := (Below.refl _ _).alloc (Nat.le_refl _) _
    have hS2 := BusS.call HSX.out hZb (Keeps.of_fresh hb2 _) (hT.new hb2)
    exact hK' _ _ (hI.step bus17a 6 85 rfl (by rw [hsz]; decide) _ _ rfl hall hS2 (fun j u h => F17.stable j u _ _ hT ⟨_, hZ⟩ (Keeps.of_fresh hb2 _) h) ⟨_, [x], rfl, Holds.new _ _ _, x, rfl, hx⟩)
  · obtain ⟨N, l, e6, hN, x, rfl, hx⟩ : RowV (fun l => ∃ x, l = [x] ∧ (x = 0 ∨ x = 1 ∨ x = 2)) (c.tmps.getD 85 undef) wx := hI.fact 6 85 rfl (listed hall 6 (by kernel_rfl))
    simp only [Array.getD_eq_getD_getElem?] at e6
    have hls : ListAt wx.heap.size wx (.slice (some ⟨N, 0, none⟩) [x].length [x].length) [x] := ⟨_, _, rfl, Nat.le_refl _, by simp, fun _ => ⟨N, 0, rfl, hN.lt, fun i hi => by
      obtain rfl : i = 0 := by simp at hi; exact hi
      exact hN.cell 0⟩⟩
    go_simp
    refine (grow_Cells [x] _ wx hls (by intro y hy; simp at hy; omega) (by simp)).mono ?_
    rintro e w2 ⟨rfl, hb2⟩
    go_simp
    have hS2 := BusS.call HSX.out hZb (Keeps.of_fresh hb2 _) (hT.new hb2)
    exact hK' _ _ (hI.step bus17a 7 86 rfl (by rw [hsz]; decide) _ _ rfl hall hS2 (fun j u h => F17.stable j u _ _ hT ⟨_, hZ⟩ (Keeps.of_fresh hb2 _) h) ⟨_, rfl, by rcases hx with rfl | rfl | rfl <;> decide⟩)
  · obtain ⟨v0, T0, e0, hr0, hs0, hl0⟩ : TreeV base n (c.tmps.getD 79 undef) wx := hI.fact 0 79 rfl (listed hall 0 (by kernel_rfl))
    have e1 : c.tmps.getD 80 undef = .string s := hI.fact 1 80 rfl (listed hall 1 (by kernel_rfl))
    obtain ⟨y, e7, hy⟩ : StrV 100 (c.tmps.getD 86 undef) wx := hI.fact 7 86 rfl (listed hall 7 (by kernel_rfl))
    simp only [Array.getD_eq_getD_getElem?] at e0 e1 e7
    have HL0 := Lib.hid hl0
    clear hl0
    go_simp
    refine (grow_with base v0 T0 s _ y wx hr0 hbx (by decide) (by omega)).mono ?_
    rintro e w2 ⟨v2, rfl, hr2, hb2⟩
    go_simp
    have hS2 := BusS.call HSX.out hZb (Keeps.of_fresh hb2 _) (hT.new hb2)
    exact hK' _ _ (hI.step bus17a 8 87 rfl (by rw [hsz]; decide) _ _ rfl hall hS2 (fun j u h => F17.stable j u _ _ hT ⟨_, hZ⟩ (Keeps.of_fresh hb2 _) h) ⟨_, _, rfl, hr2, shape_with hs0 _ _ _, (len_with hs0 _ _ _).trans HL0.out⟩)
  · obtain ⟨v0, T0, e8, hr0, hs0, hl0⟩ : TreeV base n (c.tmps.getD 87 undef) wx := hI.fact 8 87 rfl (listed hall 8 (by kernel_rfl))
    simp only [Array.getD_eq_getD_getElem?] at e8
    obtain ⟨a2, c2, rfl⟩ := hr0.slice
    have HL0 := Lib.hid hl0
    clear hl0
    go_simp
    have k2 : Keeps (fun i => i = b ∨ i = Z) wx (wx.setCell ⟨Z, 0, none⟩ (.slice a2 T0.length c2)) := (Keeps.refl _ wx).setCell (p := ⟨Z, 0, none⟩) (Or.inr (Or.inr rfl)) _
    have hS2 := BusS.store HSX.out hZb hZB hr0 hs0 HL0.out
    exact hK' _ _ (hI.stepN 9 rfl _ rfl hall hS2 (fun j u h => F17.stable j u _ _ hT ⟨_, hZ⟩ k2 h) trivial)
end Go.Proofs.Ythkoaakicdhnpaa

namespace Go.Proofs.Ythkoaakicdhnpaa
open Go.RowKit

theorem row_ne_tape {B b N : Nat} {w : World} {l : List Int} (h : Holds w N (l.map (Value.int .i64)).toArray 3) (ht : Tape B w b) : N ≠ b := by
  rintro rfl
  obtain ⟨cs, hH⟩ := ht.holds
  have := h.symm.trans hH
  injection this with this; injection this with _ this; exact absurd this (by decide)
theorem wide_size (n cells : Int) : (⟨(growT (if cells = 2 then [n / 4294967296, n % 4294967296] else [n])).toArray⟩ : ByteArray).size ≤ 8 := by
  split <;> simp [growT, bytes4, ByteArray.size]
def AddsG (a b c : ByteArray) : Prop := ∀ wx : World, (Op.stringOp .add a b).run Try.prog wx = .ok (.string c) wx
theorem addsG_ex (a b : ByteArray) (h : a.size + b.size ≤ 9223372036854775807) : ∃ c, AddsG a b c ∧ c.size = a.size + b.size := by
  exact ⟨a ++ b, fun wx => run_string_add_sum wx a b h, ByteArray.size_append⟩
theorem row_at {N : Nat} {w : World} {l : List Int} (h : Holds w N (l.map (Value.int .i64)).toArray 3) (i : Nat) (hi : i < l.length) : w.cell? ⟨N, 0 + i, none⟩ = some (.int .i64 l[i]) := by
  rw [Nat.zero_add, h.cell i]; simp [hi]
end Go.Proofs.Ythkoaakicdhnpaa

namespace Go.Proofs.Ythkoaakicdhnpaa
open Go.RowKit

noncomputable def busBlk (n : Nat) : Code := (blkOf (Try.f5.body.getD .skip) n).getD .skip
noncomputable def busIf (n : Nat) : Code := (ifOf (Try.f5.body.getD .skip) n).getD .skip
theorem BusS.drew {B b base Z n gA gS : Nat} {W w : World} (h : BusS B b base Z n gA gS W w) (hne : Z ≠ b) : BusS B b base Z n gA gS W w.drew := h.call hne ((Keeps.refl _ w).drew) (h.1.keeps ((Keeps.refl (fun _ => False) w).drew) (fun _ e => e.elim))
theorem BusS.new {B b base Z n gA gS : Nat} {W w w' : World} (h : BusS B b base Z n gA gS W w) (hne : Z ≠ b) (k : Below w.heap.size w w') : BusS B b base Z n gA gS W w' := h.call hne (Keeps.of_fresh k _) (h.1.new k)
theorem TreeRow.apartInt {w : World} {base g : Nat} {v : Value} {T : List NodeT} {cs : Array Value} (h : TreeRow w base v T) (hH : Holds w g cs 3) (o : Nat) (x : Value) : TreeRow (w.setCell ⟨g, o, none⟩ x) base v T := h.set hH (by decide) (by decide) o x
/-- Storing into a row of numbers. -/
theorem RowAt.put {g g2 k : Nat} {n : Nat} {w : World} {l2 : List Int} (h : RowAt g (Ones n) w) (h2 : Holds w g2 (l2.map (Value.int .i64)).toArray 3) (_hl : Ones n l2) (x : Int) (hx : x = 0 ∨ x = 1 ∨ x = 2) : RowAt g (Ones n) (w.setCell ⟨g2, k, none⟩ (.int .i64 x)) := by
  have hset : ∀ l : List Int, ((l.map (Value.int .i64)).toArray).setIfInBounds k (.int .i64 x) = ((l.set k x).map (Value.int .i64)).toArray := by
    intro l; simp [List.map_set]
  have hone : ∀ l : List Int, Ones n l → Ones n (l.set k x) := by
    intro l ⟨h1, h3⟩
    refine ⟨by simpa using h1, fun y hy => ?_⟩
    rcases List.mem_or_eq_of_mem_set hy with hy | rfl
    · exact h3 y hy
    · exact hx
  obtain ⟨l, hH, hp⟩ := h
  by_cases e : g = g2
  · subst e
    refine ⟨l.set k x, ?_, hone l hp⟩
    rw [← hset]; exact hH.set k _
  · exact ⟨l, hH.other _ _ e, hp⟩
theorem BusS.put {B b base Z n gA gS g k : Nat} {W w : World} {l2 : List Int} (h : BusS B b base Z n gA gS W w) (_hne : Z ≠ b) (h2 : Holds w g (l2.map (Value.int .i64)).toArray 3) (hl : Ones n l2) (hW : W.heap.size ≤ g) (x : Int) (hx : x = 0 ∨ x = 1 ∨ x = 2) (hBg : B ≤ g) :
    BusS B b base Z n gA gS W (w.setCell ⟨g, k, none⟩ (.int .i64 x)) := by
  obtain ⟨hT, ⟨v, T, hZ, hr, hs, hlen⟩, hA, hS, hk⟩ := h
  have hgb : g ≠ b := row_ne_tape h2 hT
  have hgZ : Z ≠ g := by
    rintro rfl
    have := h2.symm.trans hZ
    injection this with this; injection this with _ this; exact absurd this (by decide)
  have k1 : Keeps (· = g) w (w.setCell ⟨g, k, none⟩ (.int .i64 x)) := (Keeps.refl (· = g) w).setCell (p := ⟨g, k, none⟩) (Or.inr rfl) _
  refine ⟨hT.keeps k1 (fun i e => by subst e; exact ⟨hBg, hgb⟩), ⟨v, T, hZ.other _ _ hgZ, hr.apartInt h2 k _, hs, hlen⟩, hA.put h2 hl x hx, hS.put h2 hl x hx, ?_⟩
  exact hk.setCell (p := ⟨g, k, none⟩) (Or.inl hW) _
theorem BusS.var {B b base Z n gA gS : Nat} {W w : World} (h : BusS B b base Z n gA gS W w) : ∃ va vc T, Holds w Z #[.slice va n vc] 27 ∧ TreeRow w base (.slice va n vc) T ∧ Shape T ∧ Hid (T.length = n) := by
  obtain ⟨_, ⟨v, T, hZ, hr, hs, rfl⟩, _⟩ := h
  obtain ⟨va, vc, rfl⟩ := hr.slice
  exact ⟨va, vc, T, hZ, hr, hs, Lib.hid rfl⟩
theorem RowAt.zeros {w : World} {g n : Nat} (h : Holds w g (Array.replicate n (.int .i64 0)) 3) : RowAt g (Ones n) w :=
  ⟨List.replicate n 0, by rw [List.map_replicate, List.toArray_replicate]; exact h, by simp, fun x hx => Or.inl (List.mem_replicate.1 hx).2⟩
theorem BusS.begin {B b base Z : Nat} {W w : World} {v : Value} {T : List NodeT} (hZb : Z ≠ b) (hT : Tape B w b) (hZ : Holds w Z #[v] 27) (hr : TreeRow w base v T) (hs : Shape T) (hk : Keeps (fun i => i = b ∨ i = Z) W w)
    {gA gS : Nat} (hA : gA = w.heap.size ∧ gS = w.heap.size + 1 ∨ gA = w.heap.size + 1 ∧ gS = w.heap.size) :
    W.heap.size ≤ gA ∧ W.heap.size ≤ gS ∧ B ≤ gA ∧ B ≤ gS ∧ BusS B b base Z T.length gA gS W ((w.alloc (.cells (Array.replicate T.length (.int .i64 0)) 3)).alloc (.cells (Array.replicate T.length (.int .i64 0)) 3)).drew := by
  have hW := hk.size
  have hBb := hT.lt
  have hBl := hT.1
  have hb2 : Below w.heap.size w ((w.alloc (.cells (Array.replicate T.length (.int .i64 0)) 3)).alloc (.cells (Array.replicate T.length (.int .i64 0)) 3)) := ((Below.refl _ _).alloc (Nat.le_refl _) _).alloc (by simp) _
  have h1 := (Holds.new w (Array.replicate T.length (.int .i64 0)) 3).alloc (.cells (Array.replicate T.length (.int .i64 0)) 3)
  have h2 := Holds.newAt (w := w.alloc (.cells (Array.replicate T.length (.int .i64 0)) 3)) (B := w.heap.size + 1) (by simp) (Array.replicate T.length (.int .i64 0)) 3
  refine ⟨by omega, by omega, by omega, by omega, ?_⟩
  refine BusS.drew ⟨hT.new hb2, ⟨v, T, (hZ.alloc _).alloc _, hr.new hb2, hs, rfl⟩, ?_, ?_, hk.trans (Keeps.of_fresh hb2 _) (fun _ _ e => e)⟩ hZb
  · rcases hA with ⟨rfl, rfl⟩ | ⟨rfl, rfl⟩
    · exact RowAt.zeros h1
    · exact RowAt.zeros h2
  · rcases hA with ⟨rfl, rfl⟩ | ⟨rfl, rfl⟩
    · exact RowAt.zeros h2
    · exact RowAt.zeros h1
theorem BusS.row {B b base Z n gA gS : Nat} {W w : World} (h : BusS B b base Z n gA gS W w) {k : Nat} (hk : k < n) : (∃ l : List Int, Holds w gA (l.map (Value.int .i64)).toArray 3 ∧ Hid (Ones n l) ∧ ∃ x, w.cell? ⟨gA, k, none⟩ = some (.int .i64 x)) ∧ (∃ l : List Int, Holds w gS (l.map (Value.int .i64)).toArray 3 ∧ Hid (Ones n l) ∧ ∃ x, w.cell? ⟨gS, k, none⟩ = some (.int .i64 x)) := by
  obtain ⟨_, _, ⟨lA, hA, hA1⟩, ⟨lS, hS, hS1⟩, _⟩ := h
  refine ⟨⟨lA, hA, Lib.hid hA1, lA[k]'(by rw [hA1.1]; exact hk), ?_⟩, ⟨lS, hS, Lib.hid hS1, lS[k]'(by rw [hS1.1]; exact hk), ?_⟩⟩
  · rw [hA.cell k]; simp [hA1.1, hk]
  · rw [hS.cell k]; simp [hS1.1, hk]
end Go.Proofs.Ythkoaakicdhnpaa

namespace Go.Proofs.Ythkoaakicdhnpaa
open Go.RowKit

set_option maxHeartbeats 4000000 in
set_option maxRecDepth 100000 in
theorem bus_if56 {Q : Exit → Act → World → Prop} (B b base Z N gA gS : Nat) (w1 w : World) (hZ1b : Z ≠ b) (hbs : base ≤ w1.heap.size) (hZB : B ≤ Z) (hl2 : N ≤ 1000) (hgA : w1.heap.size ≤ gA) (_hgS : w1.heap.size ≤ gS) (hBA : B ≤ gA) (_hBS : B ≤ gS) (k : Nat) (hlt : k < N) (s : ByteArray) (q : Int) {u1 u2 u3 u4 u6 u11 u12 u13 u14 u15 u16 u17 u18 u19 u20 u21 u22 u23 u24 u25 u26 u27 u28 u29 u30 u31 u32 u33 u34 u35 u36 u37 u38 u39 u40 u41 u42 u43 u44 u45 u46 u47 u48 u49 u50 u51 u52 u53 u54 u57 u58 u59 u60 u61 u62 u63 u64 u65 u66 u67 u68 u69 u70 u71 u72 u73 u74 u75 u76 u77 u78 u79 u80 u81 u82 u83 u84 u85 u86 u87 u88 u89 u90 u91 u92 u93 u94 u95 u96 u97 u98 u99 u100 u101 u102 u103 u104 u105 u106 u107 u108 u109 u110 u111 u112 u113 u114 u115 u116 u117 u118 u119 u120 u121 u122 u123 u124 u125 u126 u127 u128 u129 u130 u131 u132 u133 u134 u135 u136 u137 u138 u139 u140 u141 u142 u143 u144 u145 u146 u147 u148 u149 u150 u151 u152 u153 u154 u155 u156 u157 u158 u159 u160 u161 u162 u163 u164 u165 u166 u167 u168 u169 u170 u171 u172 u173 u174 u175 u176 u177 u178 u179 u180 u181 u182 u183 u184 u185 u186 u187 u188 u189 u190 u191 u192 u193 u194 u195 u196 u197 u198 u199 u200 u201 u202 : Value}
    (hB : Hid (BusS B b base Z N gA gS w1 w)) (hQ : Hid (∀ (x56 x57 x58 x59 x60 x61 x62 x63 x64 x65 x66 x67 x68 x69 x70 : Value) (wx : World), BusS B b base Z N gA gS w1 wx → Q .normal ⟨#[.pointer (some ⟨b, 0, none⟩), u1, u2, u3, u4, .pointer (some ⟨Z, 0, none⟩), u6, .slice (some ⟨gA, 0, none⟩) N N, .slice (some ⟨gS, 0, none⟩) N N, .int .i64 k, .string s, u11, u12, u13, u14, u15, u16, u17, u18, u19, u20, u21, u22, u23, u24, u25, u26, u27, u28, u29, u30, u31, u32, u33, u34, u35, u36, u37, u38, u39, u40, u41, u42, u43, u44, u45, u46, u47, u48, u49, u50, u51, u52, u53, u54, .int .i64 q, x56, x57, x58, x59, x60, x61, x62, x63, x64, x65, x66, x67, x68, x69, x70, u71, u72, u73, u74, u75, u76, u77, u78, u79, u80, u81, u82, u83, u84, u85, u86, u87, u88, u89, u90, u91, u92, u93, u94, u95, u96, u97, u98, u99, u100, u101, u102, u103, u104, u105, u106, u107, u108, u109, u110, u111, u112, u113, u114, u115, u116, u117, u118, u119, u120, u121, u122, u123, u124, u125, u126, u127, u128, u129, u130, u131, u132, u133, u134, u135, u136, u137, u138, u139, u140, u141, u142, u143, u144, u145, u146, u147, u148, u149, u150, u151, u152, u153, u154, u155, u156, u157, u158, u159, u160, u161, u162, u163, u164, u165, u166, u167, u168, u169, u170, u171, u172, u173, u174, u175, u176, u177, u178, u179, u180, u181, u182, u183, u184, u185, u186, u187, u188, u189, u190, u191, u192, u193, u194, u195, u196, u197, u198, u199, u200, u201, u202], []⟩ wx)) :
    (busIf 56).wp Try.prog Q ⟨#[.pointer (some ⟨b, 0, none⟩), u1, u2, u3, u4, .pointer (some ⟨Z, 0, none⟩), u6, .slice (some ⟨gA, 0, none⟩) N N, .slice (some ⟨gS, 0, none⟩) N N, .int .i64 k, .string s, u11, u12, u13, u14, u15, u16, u17, u18, u19, u20, u21, u22, u23, u24, u25, u26, u27, u28, u29, u30, u31, u32, u33, u34, u35, u36, u37, u38, u39, u40, u41, u42, u43, u44, u45, u46, u47, u48, u49, u50, u51, u52, u53, u54, .int .i64 q, .bool (q == 0), u57, u58, u59, u60, u61, u62, u63, u64, u65, u66, u67, u68, u69, u70, u71, u72, u73, u74, u75, u76, u77, u78, u79, u80, u81, u82, u83, u84, u85, u86, u87, u88, u89, u90, u91, u92, u93, u94, u95, u96, u97, u98, u99, u100, u101, u102, u103, u104, u105, u106, u107, u108, u109, u110, u111, u112, u113, u114, u115, u116, u117, u118, u119, u120, u121, u122, u123, u124, u125, u126, u127, u128, u129, u130, u131, u132, u133, u134, u135, u136, u137, u138, u139, u140, u141, u142, u143, u144, u145, u146, u147, u148, u149, u150, u151, u152, u153, u154, u155, u156, u157, u158, u159, u160, u161, u162, u163, u164, u165, u166, u167, u168, u169, u170, u171, u172, u173, u174, u175, u176, u177, u178, u179, u180, u181, u182, u183, u184, u185, u186, u187, u188, u189, u190, u191, u192, u193, u194, u195, u196, u197, u198, u199, u200, u201, u202], []⟩ w := by
  simp only [busIf, ifOf, Try.f5, Option.getD_some, reduceIte, Nat.reduceEqDiff]
  have hT4 := hB.out.1
  have hlt' : (k : Int) < N := by omega
  by_cases hz : q = 0
  · have hz' : (q == 0) = true := by simp [hz]
    clear hz
    go_wp2_with fail
    refine (mk_Range B b 1 2 _ hT4 (by omega) (by omega) (by omega)).mono ?_
    rintro e w4 ⟨x, rfl, hx1, hx2, hT5, hk5⟩
    have hB5 := hB.out.call hZ1b hk5 hT5
    obtain ⟨⟨lR, hR, hR1, xR, hcR⟩, _⟩ := hB5.row hlt
    have hfR := hR.free k
    have hB6 := hB5.put hZ1b (k := k) hR hR1.out hgA x (by omega) hBA
    have HB6 := Lib.hid hB6
    clear hB5 hB6 hT4 hT5 hk5 hR hR1
    go_wp2_with fail
    refine wp_region_any (by kernel_rfl) ?_
    refine wpAny_ops (ops' := busOps 14) (by kernel_rfl) ?_
    refine bus_region14 B b base Z N gA gS k s w1 _ _ rfl hZ1b hbs hZB hlt hl2 rfl rfl rfl rfl (by exact HB6.out.drew hZ1b) ?_
    intro c w5 hsb hB7
    obtain ⟨y62, y63, y64, y65, y66, y67, y68, y69, y70, hc⟩ := hsb.ex [62, 63, 64, 65, 66, 67, 68, 69, 70] (by kernel_rfl)
    subst hc
    simp only [List.setIfInBounds_toArray, List.set_cons_zero, List.set_cons_succ]
    exact hQ.out _ _ _ _ _ _ _ _ _ _ _ _ _ _ _ _ hB7
  · have hz' : (q == 0) = false := by simpa using hz
    clear hz
    go_wp2_with fail
    exact hQ.out _ _ _ _ _ _ _ _ _ _ _ _ _ _ _ _ hB.out

set_option maxHeartbeats 4000000 in
set_option maxRecDepth 100000 in
theorem bus_if73 {Q : Exit → Act → World → Prop} (B b base Z N gA gS : Nat) (w1 w : World) (hZ1b : Z ≠ b) (hbs : base ≤ w1.heap.size) (hZB : B ≤ Z) (hl2 : N ≤ 1000) (_hgA : w1.heap.size ≤ gA) (hgS : w1.heap.size ≤ gS) (_hBA : B ≤ gA) (hBS : B ≤ gS) (k : Nat) (hlt : k < N) (s : ByteArray) (q : Int) {u1 u2 u3 u4 u6 u11 u12 u13 u14 u15 u16 u17 u18 u19 u20 u21 u22 u23 u24 u25 u26 u27 u28 u29 u30 u31 u32 u33 u34 u35 u36 u37 u38 u39 u40 u41 u42 u43 u44 u45 u46 u47 u48 u49 u50 u51 u52 u53 u54 u55 u56 u57 u58 u59 u60 u61 u62 u63 u64 u65 u66 u67 u68 u69 u70 u71 u74 u75 u76 u77 u78 u79 u80 u81 u82 u83 u84 u85 u86 u87 u88 u89 u90 u91 u92 u93 u94 u95 u96 u97 u98 u99 u100 u101 u102 u103 u104 u105 u106 u107 u108 u109 u110 u111 u112 u113 u114 u115 u116 u117 u118 u119 u120 u121 u122 u123 u124 u125 u126 u127 u128 u129 u130 u131 u132 u133 u134 u135 u136 u137 u138 u139 u140 u141 u142 u143 u144 u145 u146 u147 u148 u149 u150 u151 u152 u153 u154 u155 u156 u157 u158 u159 u160 u161 u162 u163 u164 u165 u166 u167 u168 u169 u170 u171 u172 u173 u174 u175 u176 u177 u178 u179 u180 u181 u182 u183 u184 u185 u186 u187 u188 u189 u190 u191 u192 u193 u194 u195 u196 u197 u198 u199 u200 u201 u202 : Value}
    (hB : Hid (BusS B b base Z N gA gS w1 w)) (hQ : Hid (∀ (x73 x74 x75 x76 x77 x78 x79 x80 x81 x82 x83 x84 x85 x86 x87 : Value) (wx : World), BusS B b base Z N gA gS w1 wx → Q .normal ⟨#[.pointer (some ⟨b, 0, none⟩), u1, u2, u3, u4, .pointer (some ⟨Z, 0, none⟩), u6, .slice (some ⟨gA, 0, none⟩) N N, .slice (some ⟨gS, 0, none⟩) N N, .int .i64 k, .string s, u11, u12, u13, u14, u15, u16, u17, u18, u19, u20, u21, u22, u23, u24, u25, u26, u27, u28, u29, u30, u31, u32, u33, u34, u35, u36, u37, u38, u39, u40, u41, u42, u43, u44, u45, u46, u47, u48, u49, u50, u51, u52, u53, u54, u55, u56, u57, u58, u59, u60, u61, u62, u63, u64, u65, u66, u67, u68, u69, u70, u71, .int .i64 q, x73, x74, x75, x76, x77, x78, x79, x80, x81, x82, x83, x84, x85, x86, x87, u88, u89, u90, u91, u92, u93, u94, u95, u96, u97, u98, u99, u100, u101, u102, u103, u104, u105, u106, u107, u108, u109, u110, u111, u112, u113, u114, u115, u116, u117, u118, u119, u120, u121, u122, u123, u124, u125, u126, u127, u128, u129, u130, u131, u132, u133, u134, u135, u136, u137, u138, u139, u140, u141, u142, u143, u144, u145, u146, u147, u148, u149, u150, u151, u152, u153, u154, u155, u156, u157, u158, u159, u160, u161, u162, u163, u164, u165, u166, u167, u168, u169, u170, u171, u172, u173, u174, u175, u176, u177, u178, u179, u180, u181, u182, u183, u184, u185, u186, u187, u188, u189, u190, u191, u192, u193, u194, u195, u196, u197, u198, u199, u200, u201, u202], []⟩ wx)) :
    (busIf 73).wp Try.prog Q ⟨#[.pointer (some ⟨b, 0, none⟩), u1, u2, u3, u4, .pointer (some ⟨Z, 0, none⟩), u6, .slice (some ⟨gA, 0, none⟩) N N, .slice (some ⟨gS, 0, none⟩) N N, .int .i64 k, .string s, u11, u12, u13, u14, u15, u16, u17, u18, u19, u20, u21, u22, u23, u24, u25, u26, u27, u28, u29, u30, u31, u32, u33, u34, u35, u36, u37, u38, u39, u40, u41, u42, u43, u44, u45, u46, u47, u48, u49, u50, u51, u52, u53, u54, u55, u56, u57, u58, u59, u60, u61, u62, u63, u64, u65, u66, u67, u68, u69, u70, u71, .int .i64 q, .bool (q == 0), u74, u75, u76, u77, u78, u79, u80, u81, u82, u83, u84, u85, u86, u87, u88, u89, u90, u91, u92, u93, u94, u95, u96, u97, u98, u99, u100, u101, u102, u103, u104, u105, u106, u107, u108, u109, u110, u111, u112, u113, u114, u115, u116, u117, u118, u119, u120, u121, u122, u123, u124, u125, u126, u127, u128, u129, u130, u131, u132, u133, u134, u135, u136, u137, u138, u139, u140, u141, u142, u143, u144, u145, u146, u147, u148, u149, u150, u151, u152, u153, u154, u155, u156, u157, u158, u159, u160, u161, u162, u163, u164, u165, u166, u167, u168, u169, u170, u171, u172, u173, u174, u175, u176, u177, u178, u179, u180, u181, u182, u183, u184, u185, u186, u187, u188, u189, u190, u191, u192, u193, u194, u195, u196, u197, u198, u199, u200, u201, u202], []⟩ w := by
  simp only [busIf, ifOf, Try.f5, Option.getD_some, reduceIte, Nat.reduceEqDiff]
  have hT4 := hB.out.1
  have hlt' : (k : Int) < N := by omega
  by_cases hz : q = 0
  · have hz' : (q == 0) = true := by simp [hz]
    clear hz
    go_wp2_with fail
    refine (mk_Range B b 1 2 _ hT4 (by omega) (by omega) (by omega)).mono ?_
    rintro e w4 ⟨x, rfl, hx1, hx2, hT5, hk5⟩
    have hB5 := hB.out.call hZ1b hk5 hT5
    obtain ⟨_, ⟨lR, hR, hR1, xR, hcR⟩⟩ := hB5.row hlt
    have hfR := hR.free k
    have hB6 := hB5.put hZ1b (k := k) hR hR1.out hgS x (by omega) hBS
    have HB6 := Lib.hid hB6
    clear hB5 hB6 hT4 hT5 hk5 hR hR1
    go_wp2_with fail
    refine wp_region_any (by kernel_rfl) ?_
    refine wpAny_ops (ops' := busOps 17) (by kernel_rfl) ?_
    refine bus_region17 B b base Z N gA gS k s w1 _ _ rfl hZ1b hbs hZB hlt hl2 rfl rfl rfl rfl (by exact HB6.out.drew hZ1b) ?_
    intro c w5 hsb hB7
    obtain ⟨y79, y80, y81, y82, y83, y84, y85, y86, y87, hc⟩ := hsb.ex [79, 80, 81, 82, 83, 84, 85, 86, 87] (by kernel_rfl)
    subst hc
    simp only [List.setIfInBounds_toArray, List.set_cons_zero, List.set_cons_succ]
    exact hQ.out _ _ _ _ _ _ _ _ _ _ _ _ _ _ _ _ hB7
  · have hz' : (q == 0) = false := by simpa using hz
    clear hz
    go_wp2_with fail
    exact hQ.out _ _ _ _ _ _ _ _ _ _ _ _ _ _ _ _ hB.out
end Go.Proofs.Ythkoaakicdhnpaa

namespace Go.Proofs.Ythkoaakicdhnpaa
open Go.RowKit

theorem bus24 : inRow2 .any (busOps 24) = true := by kernel_rfl
theorem bus24a : apartB (busOps 24) = true := by kernel_rfl
theorem bus24n : (busOps 24).size = 22 := by kernel_rfl
def F24 (b n gA gS _k i1 M : Nat) (s : ByteArray) (j : Nat) : Value → World → Prop := match j with
  | 0 => fun u _ => u = .string s
  | 1 => fun u _ => u = .pointer (some ⟨b, 0, none⟩)
  | 2 => fun u _ => u = .pointer (some ⟨b, 0, none⟩)
  | 3 => NumV fun x => 0 ≤ x ∧ x < 5000
  | 4 => RowV fun l => ∃ x, l = [0, 16, 32, 4096, x] ∧ 0 ≤ x ∧ x < 5000
  | 5 => NumV fun x => 0 ≤ x ∧ x ≤ 2147483648
  | 6 => fun u _ => u = .slice (some ⟨gA, 0, none⟩) n n
  | 7 => fun u _ => u = .int .i64 i1
  | 8 => fun u _ => u = .pointer (some ⟨gA, i1, none⟩)
  | 9 => NumV fun x => x = 0 ∨ x = 1 ∨ x = 2
  | 10 => StrV 8
  | 11 => fun u _ => u = .pointer (some ⟨b, 0, none⟩)
  | 12 => RowV fun l => l = [4, 16, 256, 0, 1]
  | 13 => NumV fun x => 0 ≤ x ∧ x ≤ 2147483648
  | 14 => fun u _ => u = .slice (some ⟨gS, 0, none⟩) n n
  | 15 => fun u _ => u = .int .i64 i1
  | 16 => fun u _ => u = .pointer (some ⟨gS, i1, none⟩)
  | 17 => NumV fun x => x = 0 ∨ x = 1 ∨ x = 2
  | 18 => StrV 8
  | 19 => StrV (8 + 8)
  | 20 => StrV (M + 16)
  | 21 => StrV (M + 16)
  | _ => fun _ _ => True
theorem F24.stable {B b Z n gA gS k i1 M : Nat} {s : ByteArray} (j : Nat) : Stable B b Z (F24 b n gA gS k i1 M s j) := by
  unfold F24
  split
  · exact Stable.const
  · exact Stable.const
  · exact Stable.const
  · exact Stable.num
  · exact Stable.row
  · exact Stable.num
  · exact Stable.const
  · exact Stable.const
  · exact Stable.const
  · exact Stable.num
  · exact Stable.str
  · exact Stable.const
  · exact Stable.row
  · exact Stable.num
  · exact Stable.const
  · exact Stable.const
  · exact Stable.const
  · exact Stable.num
  · exact Stable.str
  · exact Stable.str
  · exact Stable.str
  · exact Stable.str
  · exact Stable.const

set_option maxHeartbeats 4000000 in
set_option maxRecDepth 100000 in
theorem bus_region24 {Q : Exit → Act → World → Prop} (B b base Z n gA gS k i1 M : Nat) (s : ByteArray) (W w : World) (A : Act) (hsz : A.tmps.size = 203) (hZb : Z ≠ b) (_hk : k < n) (hi1 : i1 < n) (hsM : s.size ≤ M) (hM : M ≤ 1000)
    (a0 : A.tmps.getD 0 undef = .pointer (some ⟨b, 0, none⟩)) (a7 : A.tmps.getD 7 undef = .slice (some ⟨gA, 0, none⟩) n n) (a8 : A.tmps.getD 8 undef = .slice (some ⟨gS, 0, none⟩) n n) (a9 : A.tmps.getD 9 undef = .int .i64 k) (a11 : A.tmps.getD 11 undef = .int .i64 i1) (aac : A.tmps.getD 12 undef = .string s)
    (hS : BusS B b base Z n gA gS W w) (hQ : ∀ c w', SameBut (busOps 24) A c → BusS B b base Z n gA gS W w' → StrV (M + 16) (c.tmps.getD 12 undef) w' → Q .normal c w') :
    wpAny Try.prog .any (busOps 24) Q (busOps 24).size (Array.replicate (busOps 24).size false) A w := by
  refine wpAny_inv2 (fun l c wx => RInvF (busOps 24) A (F24 b n gA gS k i1 M s) (BusS B b base Z n gA gS W) l c wx) bus24 (fun l c wx hI hl => hQ c wx hI.1.1 hI.1.2.1 (hI.fact 21 12 rfl (hl 21 (by rw [bus24n]; decide)))) ?hstep _ _ _ _ (by simp) (by simp) (RInvF.start hS)
  intro l c wx hI i o ho hl hall K' hK'
  have hi13 : i < 22 := by rw [← bus24n]; exact (Array.getElem?_eq_some_iff.1 ho).1
  simp only [busOps, regOps, Try.f5, Option.getD_some, reduceIte, Nat.reduceEqDiff] at ho
  have hSx := hI.1.2.1
  have HSX := Lib.hid hSx
  obtain ⟨hT, ⟨v, T, hZ, _, _, _⟩, ⟨lA, hA, hA1, hA2⟩, ⟨lS, hS0, hS1, hS2⟩, _⟩ := hSx
  have HA1 := Lib.hid hA1
  have HS1 := Lib.hid hS1
  clear hA1 hS1
  have s0 := (hI.slot 0 (by kernel_rfl)).trans a0
  have s7 := (hI.slot 7 (by kernel_rfl)).trans a7
  have s8 := (hI.slot 8 (by kernel_rfl)).trans a8
  have s9 := (hI.slot 9 (by kernel_rfl)).trans a9
  have s11 := (hI.slot 11 (by kernel_rfl)).trans a11
  simp only [Array.getD_eq_getD_getElem?] at s0 s7 s8 s9 s11
  have hic : i = 0 ∨ i = 1 ∨ i = 2 ∨ i = 3 ∨ i = 4 ∨ i = 5 ∨ i = 6 ∨ i = 7 ∨ i = 8 ∨ i = 9 ∨ i = 10 ∨ i = 11 ∨ i = 12 ∨ i = 13 ∨ i = 14 ∨ i = 15 ∨ i = 16 ∨ i = 17 ∨ i = 18 ∨ i = 19 ∨ i = 20 ∨ i = 21 := by omega
  rcases hic with rfl | rfl | rfl | rfl | rfl | rfl | rfl | rfl | rfl | rfl | rfl | rfl | rfl | rfl | rfl | rfl | rfl | rfl | rfl | rfl | rfl | rfl
  all_goals cases ho
  · have q0 : l.getD 20 false = false := hI.1.2.2.1.2.unlisted hl (by kernel_rfl)
    have q1 : l.getD 21 false = false := hI.1.2.2.1.2.unlisted q0 (by kernel_rfl)
    have sc := (hI.2 21 12 rfl q1).trans aac
    simp only [Array.getD_eq_getD_getElem?] at sc
    go_simp
    exact hK' _ _ (hI.step bus24a 0 102 rfl (by rw [hsz]; decide) _ _ rfl hall HSX.out (fun _ _ h => h) rfl)
  · go_simp
    exact hK' _ _ (hI.step bus24a 1 103 rfl (by rw [hsz]; decide) _ _ rfl hall HSX.out (fun _ _ h => h) rfl)
  · go_simp
    exact hK' _ _ (hI.step bus24a 2 104 rfl (by rw [hsz]; decide) _ _ rfl hall HSX.out (fun _ _ h => h) rfl)
  · have ea : c.tmps.getD 104 undef = .pointer (some ⟨b, 0, none⟩) := hI.fact 2 104 rfl (listed hall 2 (by kernel_rfl))
    simp only [Array.getD_eq_getD_getElem?] at ea
    go_simp
    refine (mk_N B b 5000 wx hT (by decide) (by decide)).mono ?_
    rintro e w2 ⟨r, rfl, hr1, hr2, ht2, k2⟩
    go_simp
    have hS2 := BusS.call HSX.out hZb k2 ht2
    exact hK' _ _ (hI.step bus24a 3 105 rfl (by rw [hsz]; decide) _ _ rfl hall hS2 (fun j u h => F24.stable j u _ _ hT ⟨_, hZ⟩ (k2.mono (fun _ _ e => Or.inl e)) h) ⟨r, rfl, hr1, hr2⟩)
  · obtain ⟨x, ea, hx1, hx2⟩ : NumV (fun x => 0 ≤ x ∧ x < 5000) (c.tmps.getD 105 undef) wx := hI.fact 3 105 rfl (listed hall 3 (by kernel_rfl))
    simp only [Array.getD_eq_getD_getElem?] at ea
    go_simp
    have hb2 : Below wx.heap.size wx (wx.alloc (.cells #[.int .i64 0, .int .i64 16, .int .i64 32, .int .i64 4096, .int .i64 x] 3)) := (Below.refl _ _).alloc (Nat.le_refl _) _
    have k2 := Keeps.of_fresh hb2 (fun i => i = b)
    have ht2 := hT.new hb2
    have hS2 := BusS.call HSX.out hZb k2 ht2
    exact hK' _ _ (hI.step bus24a 4 106 rfl (by rw [hsz]; decide) _ _ rfl hall hS2 (fun j u h => F24.stable j u _ _ hT ⟨_, hZ⟩ (k2.mono (fun _ _ e => Or.inl e)) h) ⟨_, [0, 16, 32, 4096, x], rfl, Holds.new _ _ _, x, rfl, hx1, hx2⟩)
  · have ea : c.tmps.getD 103 undef = .pointer (some ⟨b, 0, none⟩) := hI.fact 1 103 rfl (listed hall 1 (by kernel_rfl))
    simp only [Array.getD_eq_getD_getElem?] at ea
    obtain ⟨N, l, eb, hN, x, rfl, hx1, hx2⟩ : RowV (fun l => ∃ x, l = [0, 16, 32, 4096, x] ∧ 0 ≤ x ∧ x < 5000) (c.tmps.getD 106 undef) wx := hI.fact 4 106 rfl (listed hall 4 (by kernel_rfl))
    simp only [Array.getD_eq_getD_getElem?] at eb
    have hNb := row_ne_tape hN hT
    go_simp
    refine (mk_Pick B b N 0 _ [0, 16, 32, 4096, x] wx hT (by simp) (by simp) hNb (fun i hi => row_at hN i hi)).mono ?_
    rintro e w2 ⟨r, rfl, hr, ht2, k2⟩
    have hr2 : 0 ≤ r ∧ r ≤ 2147483648 := by simp at hr; omega
    go_simp
    have hS2 := BusS.call HSX.out hZb k2 ht2
    exact hK' _ _ (hI.step bus24a 5 107 rfl (by rw [hsz]; decide) _ _ rfl hall hS2 (fun j u h => F24.stable j u _ _ hT ⟨_, hZ⟩ (k2.mono (fun _ _ e => Or.inl e)) h) ⟨r, rfl, hr2⟩)
  · go_simp
    exact hK' _ _ (hI.step bus24a 6 108 rfl (by rw [hsz]; decide) _ _ rfl hall HSX.out (fun _ _ h => h) rfl)
  · go_simp
    exact hK' _ _ (hI.step bus24a 7 109 rfl (by rw [hsz]; decide) _ _ rfl hall HSX.out (fun _ _ h => h) rfl)
  · have ea : c.tmps.getD 108 undef = .slice (some ⟨gA, 0, none⟩) n n := hI.fact 6 108 rfl (listed hall 6 (by kernel_rfl))
    simp only [Array.getD_eq_getD_getElem?] at ea
    have eb : c.tmps.getD 109 undef = .int .i64 i1 := hI.fact 7 109 rfl (listed hall 7 (by kernel_rfl))
    simp only [Array.getD_eq_getD_getElem?] at eb
    go_simp
    exact hK' _ _ (hI.step bus24a 8 110 rfl (by rw [hsz]; decide) _ _ rfl hall HSX.out (fun _ _ h => h) rfl)
  · have ea : c.tmps.getD 110 undef = .pointer (some ⟨gA, i1, none⟩) := hI.fact 8 110 rfl (listed hall 8 (by kernel_rfl))
    simp only [Array.getD_eq_getD_getElem?] at ea
    have hkl : i1 < lA.length := by rw [HA1.out]; exact hi1
    have hc : wx.cell? ⟨gA, i1, none⟩ = some (.int .i64 (lA[i1]'hkl)) := by rw [hA.cell i1]; simp [hkl]
    go_simp
    exact hK' _ _ (hI.step bus24a 9 111 rfl (by rw [hsz]; decide) _ _ rfl hall HSX.out (fun _ _ h => h) ⟨_, rfl, hA2 _ (List.getElem_mem hkl)⟩)
  · obtain ⟨x, ea, hx1, hx2⟩ : NumV (fun x => 0 ≤ x ∧ x ≤ 2147483648) (c.tmps.getD 107 undef) wx := hI.fact 5 107 rfl (listed hall 5 (by kernel_rfl))
    simp only [Array.getD_eq_getD_getElem?] at ea
    obtain ⟨y, eb, hy⟩ : NumV (fun x => x = 0 ∨ x = 1 ∨ x = 2) (c.tmps.getD 111 undef) wx := hI.fact 9 111 rfl (listed hall 9 (by kernel_rfl))
    simp only [Array.getD_eq_getD_getElem?] at eb
    go_simp
    refine (grow_wide x y wx hx1 (by omega) (Or.inr (by omega))).mono ?_
    rintro e w2 ⟨rfl, hb2⟩
    go_simp
    have k2 := Keeps.of_fresh hb2 (fun i => i = b)
    have ht2 := hT.new hb2
    have hS2 := BusS.call HSX.out hZb k2 ht2
    exact hK' _ _ (hI.step bus24a 10 112 rfl (by rw [hsz]; decide) _ _ rfl hall hS2 (fun j u h => F24.stable j u _ _ hT ⟨_, hZ⟩ (k2.mono (fun _ _ e => Or.inl e)) h) ⟨_, rfl, wide_size _ _⟩)
  · go_simp
    exact hK' _ _ (hI.step bus24a 11 113 rfl (by rw [hsz]; decide) _ _ rfl hall HSX.out (fun _ _ h => h) rfl)
  · go_simp
    have hb2 : Below wx.heap.size wx (wx.alloc (.cells #[.int .i64 4, .int .i64 16, .int .i64 256, .int .i64 0, .int .i64 1] 3)) := (Below.refl _ _).alloc (Nat.le_refl _) _
    have k2 := Keeps.of_fresh hb2 (fun i => i = b)
    have ht2 := hT.new hb2
    have hS2 := BusS.call HSX.out hZb k2 ht2
    exact hK' _ _ (hI.step bus24a 12 114 rfl (by rw [hsz]; decide) _ _ rfl hall hS2 (fun j u h => F24.stable j u _ _ hT ⟨_, hZ⟩ (k2.mono (fun _ _ e => Or.inl e)) h) ⟨_, [4, 16, 256, 0, 1], rfl, Holds.new _ _ _, rfl⟩)
  · have ea : c.tmps.getD 113 undef = .pointer (some ⟨b, 0, none⟩) := hI.fact 11 113 rfl (listed hall 11 (by kernel_rfl))
    simp only [Array.getD_eq_getD_getElem?] at ea
    obtain ⟨N, l, eb, hN, rfl⟩ : RowV (fun l => l = [4, 16, 256, 0, 1]) (c.tmps.getD 114 undef) wx := hI.fact 12 114 rfl (listed hall 12 (by kernel_rfl))
    simp only [Array.getD_eq_getD_getElem?] at eb
    have hNb := row_ne_tape hN hT
    go_simp
    refine (mk_Pick B b N 0 _ [4, 16, 256, 0, 1] wx hT (by simp) (by simp) hNb (fun i hi => row_at hN i hi)).mono ?_
    rintro e w2 ⟨r, rfl, hr, ht2, k2⟩
    have hr2 : 0 ≤ r ∧ r ≤ 2147483648 := by simp at hr; omega
    go_simp
    have hS2 := BusS.call HSX.out hZb k2 ht2
    exact hK' _ _ (hI.step bus24a 13 115 rfl (by rw [hsz]; decide) _ _ rfl hall hS2 (fun j u h => F24.stable j u _ _ hT ⟨_, hZ⟩ (k2.mono (fun _ _ e => Or.inl e)) h) ⟨r, rfl, hr2⟩)
  · go_simp
    exact hK' _ _ (hI.step bus24a 14 116 rfl (by rw [hsz]; decide) _ _ rfl hall HSX.out (fun _ _ h => h) rfl)
  · go_simp
    exact hK' _ _ (hI.step bus24a 15 117 rfl (by rw [hsz]; decide) _ _ rfl hall HSX.out (fun _ _ h => h) rfl)
  · have ea : c.tmps.getD 116 undef = .slice (some ⟨gS, 0, none⟩) n n := hI.fact 14 116 rfl (listed hall 14 (by kernel_rfl))
    simp only [Array.getD_eq_getD_getElem?] at ea
    have eb : c.tmps.getD 117 undef = .int .i64 i1 := hI.fact 15 117 rfl (listed hall 15 (by kernel_rfl))
    simp only [Array.getD_eq_getD_getElem?] at eb
    go_simp
    exact hK' _ _ (hI.step bus24a 16 118 rfl (by rw [hsz]; decide) _ _ rfl hall HSX.out (fun _ _ h => h) rfl)
  · have ea : c.tmps.getD 118 undef = .pointer (some ⟨gS, i1, none⟩) := hI.fact 16 118 rfl (listed hall 16 (by kernel_rfl))
    simp only [Array.getD_eq_getD_getElem?] at ea
    have hkl : i1 < lS.length := by rw [HS1.out]; exact hi1
    have hc : wx.cell? ⟨gS, i1, none⟩ = some (.int .i64 (lS[i1]'hkl)) := by rw [hS0.cell i1]; simp [hkl]
    go_simp
    exact hK' _ _ (hI.step bus24a 17 119 rfl (by rw [hsz]; decide) _ _ rfl hall HSX.out (fun _ _ h => h) ⟨_, rfl, hS2 _ (List.getElem_mem hkl)⟩)
  · obtain ⟨x, ea, hx1, hx2⟩ : NumV (fun x => 0 ≤ x ∧ x ≤ 2147483648) (c.tmps.getD 115 undef) wx := hI.fact 13 115 rfl (listed hall 13 (by kernel_rfl))
    simp only [Array.getD_eq_getD_getElem?] at ea
    obtain ⟨y, eb, hy⟩ : NumV (fun x => x = 0 ∨ x = 1 ∨ x = 2) (c.tmps.getD 119 undef) wx := hI.fact 17 119 rfl (listed hall 17 (by kernel_rfl))
    simp only [Array.getD_eq_getD_getElem?] at eb
    go_simp
    refine (grow_wide x y wx hx1 (by omega) (Or.inr (by omega))).mono ?_
    rintro e w2 ⟨rfl, hb2⟩
    go_simp
    have k2 := Keeps.of_fresh hb2 (fun i => i = b)
    have ht2 := hT.new hb2
    have hS2 := BusS.call HSX.out hZb k2 ht2
    exact hK' _ _ (hI.step bus24a 18 120 rfl (by rw [hsz]; decide) _ _ rfl hall hS2 (fun j u h => F24.stable j u _ _ hT ⟨_, hZ⟩ (k2.mono (fun _ _ e => Or.inl e)) h) ⟨_, rfl, wide_size _ _⟩)
  · obtain ⟨s', ea, hs'⟩ : StrV 8 (c.tmps.getD 112 undef) wx := hI.fact 10 112 rfl (listed hall 10 (by kernel_rfl))
    simp only [Array.getD_eq_getD_getElem?] at ea
    obtain ⟨t, eb, ht⟩ : StrV 8 (c.tmps.getD 120 undef) wx := hI.fact 18 120 rfl (listed hall 18 (by kernel_rfl))
    simp only [Array.getD_eq_getD_getElem?] at eb
    obtain ⟨ad, hA3, hA4⟩ := addsG_ex s' t (by omega)
    have hx : ad.size ≤ 8 + 8 := by omega
    unfold AddsG at hA3
    go_simp
    exact hK' _ _ (hI.step bus24a 19 121 rfl (by rw [hsz]; decide) _ _ rfl hall HSX.out (fun _ _ h => h) ⟨_, rfl, hx⟩)
  · have ea : c.tmps.getD 102 undef = .string s := hI.fact 0 102 rfl (listed hall 0 (by kernel_rfl))
    simp only [Array.getD_eq_getD_getElem?] at ea
    obtain ⟨t, eb, ht⟩ : StrV (8 + 8) (c.tmps.getD 121 undef) wx := hI.fact 19 121 rfl (listed hall 19 (by kernel_rfl))
    simp only [Array.getD_eq_getD_getElem?] at eb
    obtain ⟨ad, hA3, hA4⟩ := addsG_ex s t (by omega)
    have hx : ad.size ≤ M + 16 := by omega
    unfold AddsG at hA3
    go_simp
    exact hK' _ _ (hI.step bus24a 20 122 rfl (by rw [hsz]; decide) _ _ rfl hall HSX.out (fun _ _ h => h) ⟨_, rfl, hx⟩)
  · obtain ⟨t, ea, ht⟩ : StrV (M + 16) (c.tmps.getD 122 undef) wx := hI.fact 20 122 rfl (listed hall 20 (by kernel_rfl))
    simp only [Array.getD_eq_getD_getElem?] at ea
    go_simp
    exact hK' _ _ (hI.step bus24a 21 12 rfl (by rw [hsz]; decide) _ _ rfl hall HSX.out (fun _ _ h => h) ⟨_, rfl, ht⟩)
end Go.Proofs.Ythkoaakicdhnpaa

namespace Go.Proofs.Ythkoaakicdhnpaa
open Go.RowKit

theorem bus28 : inRow2 .any (busOps 28) = true := by kernel_rfl
theorem bus28a : apartB (busOps 28) = true := by kernel_rfl
theorem bus28n : (busOps 28).size = 29 := by kernel_rfl
def F28 (b n gA gS k i1 M : Nat) (s : ByteArray) (j : Nat) : Value → World → Prop := match j with
  | 0 => fun u _ => u = .string s
  | 1 => fun u _ => u = .pointer (some ⟨b, 0, none⟩)
  | 2 => RowV fun l => l = [0, 0, 16, 4096]
  | 3 => NumV fun x => 0 ≤ x ∧ x ≤ 2147483648
  | 4 => fun u _ => u = .slice (some ⟨gA, 0, none⟩) n n
  | 5 => fun u _ => u = .int .i64 k
  | 6 => fun u _ => u = .pointer (some ⟨gA, k, none⟩)
  | 7 => NumV fun x => x = 0 ∨ x = 1 ∨ x = 2
  | 8 => StrV 8
  | 9 => fun u _ => u = .pointer (some ⟨b, 0, none⟩)
  | 10 => RowV fun l => l = [4096, 65536, 0, 2147483648]
  | 11 => NumV fun x => 0 ≤ x ∧ x ≤ 2147483648
  | 12 => fun u _ => u = .slice (some ⟨gA, 0, none⟩) n n
  | 13 => fun u _ => u = .int .i64 i1
  | 14 => fun u _ => u = .pointer (some ⟨gA, i1, none⟩)
  | 15 => NumV fun x => x = 0 ∨ x = 1 ∨ x = 2
  | 16 => StrV 8
  | 17 => StrV (8 + 8)
  | 18 => fun u _ => u = .pointer (some ⟨b, 0, none⟩)
  | 19 => RowV fun l => l = [256, 4096, 8192, 1]
  | 20 => NumV fun x => 0 ≤ x ∧ x ≤ 2147483648
  | 21 => fun u _ => u = .slice (some ⟨gS, 0, none⟩) n n
  | 22 => fun u _ => u = .int .i64 k
  | 23 => fun u _ => u = .pointer (some ⟨gS, k, none⟩)
  | 24 => NumV fun x => x = 0 ∨ x = 1 ∨ x = 2
  | 25 => StrV 8
  | 26 => StrV (16 + 8)
  | 27 => StrV (M + 24)
  | 28 => StrV (M + 24)
  | _ => fun _ _ => True
theorem F28.stable {B b Z n gA gS k i1 M : Nat} {s : ByteArray} (j : Nat) : Stable B b Z (F28 b n gA gS k i1 M s j) := by
  unfold F28
  split
  · exact Stable.const
  · exact Stable.const
  · exact Stable.row
  · exact Stable.num
  · exact Stable.const
  · exact Stable.const
  · exact Stable.const
  · exact Stable.num
  · exact Stable.str
  · exact Stable.const
  · exact Stable.row
  · exact Stable.num
  · exact Stable.const
  · exact Stable.const
  · exact Stable.const
  · exact Stable.num
  · exact Stable.str
  · exact Stable.str
  · exact Stable.const
  · exact Stable.row
  · exact Stable.num
  · exact Stable.const
  · exact Stable.const
  · exact Stable.const
  · exact Stable.num
  · exact Stable.str
  · exact Stable.str
  · exact Stable.str
  · exact Stable.str
  · exact Stable.const

set_option maxHeartbeats 4000000 in
set_option maxRecDepth 100000 in
theorem bus_region28 {Q : Exit → Act → World → Prop} (B b base Z n gA gS k i1 M : Nat) (s : ByteArray) (W w : World) (A : Act) (hsz : A.tmps.size = 203) (hZb : Z ≠ b) (hk : k < n) (hi1 : i1 < n) (hsM : s.size ≤ M) (hM : M ≤ 1000)
    (a0 : A.tmps.getD 0 undef = .pointer (some ⟨b, 0, none⟩)) (a7 : A.tmps.getD 7 undef = .slice (some ⟨gA, 0, none⟩) n n) (a8 : A.tmps.getD 8 undef = .slice (some ⟨gS, 0, none⟩) n n) (a9 : A.tmps.getD 9 undef = .int .i64 k) (a11 : A.tmps.getD 11 undef = .int .i64 i1) (aac : A.tmps.getD 13 undef = .string s)
    (hS : BusS B b base Z n gA gS W w) (hQ : ∀ c w', SameBut (busOps 28) A c → BusS B b base Z n gA gS W w' → StrV (M + 24) (c.tmps.getD 13 undef) w' → Q .normal c w') :
    wpAny Try.prog .any (busOps 28) Q (busOps 28).size (Array.replicate (busOps 28).size false) A w := by
  refine wpAny_inv2 (fun l c wx => RInvF (busOps 28) A (F28 b n gA gS k i1 M s) (BusS B b base Z n gA gS W) l c wx) bus28 (fun l c wx hI hl => hQ c wx hI.1.1 hI.1.2.1 (hI.fact 28 13 rfl (hl 28 (by rw [bus28n]; decide)))) ?hstep _ _ _ _ (by simp) (by simp) (RInvF.start hS)
  intro l c wx hI i o ho hl hall K' hK'
  have hi13 : i < 29 := by rw [← bus28n]; exact (Array.getElem?_eq_some_iff.1 ho).1
  simp only [busOps, regOps, Try.f5, Option.getD_some, reduceIte, Nat.reduceEqDiff] at ho
  have hSx := hI.1.2.1
  have HSX := Lib.hid hSx
  obtain ⟨hT, ⟨v, T, hZ, _, _, _⟩, ⟨lA, hA, hA1, hA2⟩, ⟨lS, hS0, hS1, hS2⟩, _⟩ := hSx
  have HA1 := Lib.hid hA1
  have HS1 := Lib.hid hS1
  clear hA1 hS1
  have s0 := (hI.slot 0 (by kernel_rfl)).trans a0
  have s7 := (hI.slot 7 (by kernel_rfl)).trans a7
  have s8 := (hI.slot 8 (by kernel_rfl)).trans a8
  have s9 := (hI.slot 9 (by kernel_rfl)).trans a9
  have s11 := (hI.slot 11 (by kernel_rfl)).trans a11
  simp only [Array.getD_eq_getD_getElem?] at s0 s7 s8 s9 s11
  have hic : i = 0 ∨ i = 1 ∨ i = 2 ∨ i = 3 ∨ i = 4 ∨ i = 5 ∨ i = 6 ∨ i = 7 ∨ i = 8 ∨ i = 9 ∨ i = 10 ∨ i = 11 ∨ i = 12 ∨ i = 13 ∨ i = 14 ∨ i = 15 ∨ i = 16 ∨ i = 17 ∨ i = 18 ∨ i = 19 ∨ i = 20 ∨ i = 21 ∨ i = 22 ∨ i = 23 ∨ i = 24 ∨ i = 25 ∨ i = 26 ∨ i = 27 ∨ i = 28 := by omega
  rcases hic with rfl | rfl | rfl | rfl | rfl | rfl | rfl | rfl | rfl | rfl | rfl | rfl | rfl | rfl | rfl | rfl | rfl | rfl | rfl | rfl | rfl | rfl | rfl | rfl | rfl | rfl | rfl | rfl | rfl
  all_goals cases ho
  · have q0 : l.getD 27 false = false := hI.1.2.2.1.2.unlisted hl (by kernel_rfl)
    have q1 : l.getD 28 false = false := hI.1.2.2.1.2.unlisted q0 (by kernel_rfl)
    have sc := (hI.2 28 13 rfl q1).trans aac
    simp only [Array.getD_eq_getD_getElem?] at sc
    go_simp
    exact hK' _ _ (hI.step bus28a 0 129 rfl (by rw [hsz]; decide) _ _ rfl hall HSX.out (fun _ _ h => h) rfl)
  · go_simp
    exact hK' _ _ (hI.step bus28a 1 130 rfl (by rw [hsz]; decide) _ _ rfl hall HSX.out (fun _ _ h => h) rfl)
  · go_simp
    have hb2 : Below wx.heap.size wx (wx.alloc (.cells #[.int .i64 0, .int .i64 0, .int .i64 16, .int .i64 4096] 3)) := (Below.refl _ _).alloc (Nat.le_refl _) _
    have k2 := Keeps.of_fresh hb2 (fun i => i = b)
    have ht2 := hT.new hb2
    have hS2 := BusS.call HSX.out hZb k2 ht2
    exact hK' _ _ (hI.step bus28a 2 131 rfl (by rw [hsz]; decide) _ _ rfl hall hS2 (fun j u h => F28.stable j u _ _ hT ⟨_, hZ⟩ (k2.mono (fun _ _ e => Or.inl e)) h) ⟨_, [0, 0, 16, 4096], rfl, Holds.new _ _ _, rfl⟩)
  · have ea : c.tmps.getD 130 undef = .pointer (some ⟨b, 0, none⟩) := hI.fact 1 130 rfl (listed hall 1 (by kernel_rfl))
    simp only [Array.getD_eq_getD_getElem?] at ea
    obtain ⟨N, l, eb, hN, rfl⟩ : RowV (fun l => l = [0, 0, 16, 4096]) (c.tmps.getD 131 undef) wx := hI.fact 2 131 rfl (listed hall 2 (by kernel_rfl))
    simp only [Array.getD_eq_getD_getElem?] at eb
    have hNb := row_ne_tape hN hT
    go_simp
    refine (mk_Pick B b N 0 _ [0, 0, 16, 4096] wx hT (by simp) (by simp) hNb (fun i hi => row_at hN i hi)).mono ?_
    rintro e w2 ⟨r, rfl, hr, ht2, k2⟩
    have hr2 : 0 ≤ r ∧ r ≤ 2147483648 := by simp at hr; omega
    go_simp
    have hS2 := BusS.call HSX.out hZb k2 ht2
    exact hK' _ _ (hI.step bus28a 3 132 rfl (by rw [hsz]; decide) _ _ rfl hall hS2 (fun j u h => F28.stable j u _ _ hT ⟨_, hZ⟩ (k2.mono (fun _ _ e => Or.inl e)) h) ⟨r, rfl, hr2⟩)
  · go_simp
    exact hK' _ _ (hI.step bus28a 4 133 rfl (by rw [hsz]; decide) _ _ rfl hall HSX.out (fun _ _ h => h) rfl)
  · go_simp
    exact hK' _ _ (hI.step bus28a 5 134 rfl (by rw [hsz]; decide) _ _ rfl hall HSX.out (fun _ _ h => h) rfl)
  · have ea : c.tmps.getD 133 undef = .slice (some ⟨gA, 0, none⟩) n n := hI.fact 4 133 rfl (listed hall 4 (by kernel_rfl))
    simp only [Array.getD_eq_getD_getElem?] at ea
    have eb : c.tmps.getD 134 undef = .int .i64 k := hI.fact 5 134 rfl (listed hall 5 (by kernel_rfl))
    simp only [Array.getD_eq_getD_getElem?] at eb
    go_simp
    exact hK' _ _ (hI.step bus28a 6 135 rfl (by rw [hsz]; decide) _ _ rfl hall HSX.out (fun _ _ h => h) rfl)
  · have ea : c.tmps.getD 135 undef = .pointer (some ⟨gA, k, none⟩) := hI.fact 6 135 rfl (listed hall 6 (by kernel_rfl))
    simp only [Array.getD_eq_getD_getElem?] at ea
    have hkl : k < lA.length := by rw [HA1.out]; exact hk
    have hc : wx.cell? ⟨gA, k, none⟩ = some (.int .i64 (lA[k]'hkl)) := by rw [hA.cell k]; simp [hkl]
    go_simp
    exact hK' _ _ (hI.step bus28a 7 136 rfl (by rw [hsz]; decide) _ _ rfl hall HSX.out (fun _ _ h => h) ⟨_, rfl, hA2 _ (List.getElem_mem hkl)⟩)
  · obtain ⟨x, ea, hx1, hx2⟩ : NumV (fun x => 0 ≤ x ∧ x ≤ 2147483648) (c.tmps.getD 132 undef) wx := hI.fact 3 132 rfl (listed hall 3 (by kernel_rfl))
    simp only [Array.getD_eq_getD_getElem?] at ea
    obtain ⟨y, eb, hy⟩ : NumV (fun x => x = 0 ∨ x = 1 ∨ x = 2) (c.tmps.getD 136 undef) wx := hI.fact 7 136 rfl (listed hall 7 (by kernel_rfl))
    simp only [Array.getD_eq_getD_getElem?] at eb
    go_simp
    refine (grow_wide x y wx hx1 (by omega) (Or.inr (by omega))).mono ?_
    rintro e w2 ⟨rfl, hb2⟩
    go_simp
    have k2 := Keeps.of_fresh hb2 (fun i => i = b)
    have ht2 := hT.new hb2
    have hS2 := BusS.call HSX.out hZb k2 ht2
    exact hK' _ _ (hI.step bus28a 8 137 rfl (by rw [hsz]; decide) _ _ rfl hall hS2 (fun j u h => F28.stable j u _ _ hT ⟨_, hZ⟩ (k2.mono (fun _ _ e => Or.inl e)) h) ⟨_, rfl, wide_size _ _⟩)
  · go_simp
    exact hK' _ _ (hI.step bus28a 9 138 rfl (by rw [hsz]; decide) _ _ rfl hall HSX.out (fun _ _ h => h) rfl)
  · go_simp
    have hb2 : Below wx.heap.size wx (wx.alloc (.cells #[.int .i64 4096, .int .i64 65536, .int .i64 0, .int .i64 2147483648] 3)) := (Below.refl _ _).alloc (Nat.le_refl _) _
    have k2 := Keeps.of_fresh hb2 (fun i => i = b)
    have ht2 := hT.new hb2
    have hS2 := BusS.call HSX.out hZb k2 ht2
    exact hK' _ _ (hI.step bus28a 10 139 rfl (by rw [hsz]; decide) _ _ rfl hall hS2 (fun j u h => F28.stable j u _ _ hT ⟨_, hZ⟩ (k2.mono (fun _ _ e => Or.inl e)) h) ⟨_, [4096, 65536, 0, 2147483648], rfl, Holds.new _ _ _, rfl⟩)
  · have ea : c.tmps.getD 138 undef = .pointer (some ⟨b, 0, none⟩) := hI.fact 9 138 rfl (listed hall 9 (by kernel_rfl))
    simp only [Array.getD_eq_getD_getElem?] at ea
    obtain ⟨N, l, eb, hN, rfl⟩ : RowV (fun l => l = [4096, 65536, 0, 2147483648]) (c.tmps.getD 139 undef) wx := hI.fact 10 139 rfl (listed hall 10 (by kernel_rfl))
    simp only [Array.getD_eq_getD_getElem?] at eb
    have hNb := row_ne_tape hN hT
    go_simp
    refine (mk_Pick B b N 0 _ [4096, 65536, 0, 2147483648] wx hT (by simp) (by simp) hNb (fun i hi => row_at hN i hi)).mono ?_
    rintro e w2 ⟨r, rfl, hr, ht2, k2⟩
    have hr2 : 0 ≤ r ∧ r ≤ 2147483648 := by simp at hr; omega
    go_simp
    have hS2 := BusS.call HSX.out hZb k2 ht2
    exact hK' _ _ (hI.step bus28a 11 140 rfl (by rw [hsz]; decide) _ _ rfl hall hS2 (fun j u h => F28.stable j u _ _ hT ⟨_, hZ⟩ (k2.mono (fun _ _ e => Or.inl e)) h) ⟨r, rfl, hr2⟩)
  · go_simp
    exact hK' _ _ (hI.step bus28a 12 141 rfl (by rw [hsz]; decide) _ _ rfl hall HSX.out (fun _ _ h => h) rfl)
  · go_simp
    exact hK' _ _ (hI.step bus28a 13 142 rfl (by rw [hsz]; decide) _ _ rfl hall HSX.out (fun _ _ h => h) rfl)
  · have ea : c.tmps.getD 141 undef = .slice (some ⟨gA, 0, none⟩) n n := hI.fact 12 141 rfl (listed hall 12 (by kernel_rfl))
    simp only [Array.getD_eq_getD_getElem?] at ea
    have eb : c.tmps.getD 142 undef = .int .i64 i1 := hI.fact 13 142 rfl (listed hall 13 (by kernel_rfl))
    simp only [Array.getD_eq_getD_getElem?] at eb
    go_simp
    exact hK' _ _ (hI.step bus28a 14 143 rfl (by rw [hsz]; decide) _ _ rfl hall HSX.out (fun _ _ h => h) rfl)
  · have ea : c.tmps.getD 143 undef = .pointer (some ⟨gA, i1, none⟩) := hI.fact 14 143 rfl (listed hall 14 (by kernel_rfl))
    simp only [Array.getD_eq_getD_getElem?] at ea
    have hkl : i1 < lA.length := by rw [HA1.out]; exact hi1
    have hc : wx.cell? ⟨gA, i1, none⟩ = some (.int .i64 (lA[i1]'hkl)) := by rw [hA.cell i1]; simp [hkl]
    go_simp
    exact hK' _ _ (hI.step bus28a 15 144 rfl (by rw [hsz]; decide) _ _ rfl hall HSX.out (fun _ _ h => h) ⟨_, rfl, hA2 _ (List.getElem_mem hkl)⟩)
  · obtain ⟨x, ea, hx1, hx2⟩ : NumV (fun x => 0 ≤ x ∧ x ≤ 2147483648) (c.tmps.getD 140 undef) wx := hI.fact 11 140 rfl (listed hall 11 (by kernel_rfl))
    simp only [Array.getD_eq_getD_getElem?] at ea
    obtain ⟨y, eb, hy⟩ : NumV (fun x => x = 0 ∨ x = 1 ∨ x = 2) (c.tmps.getD 144 undef) wx := hI.fact 15 144 rfl (listed hall 15 (by kernel_rfl))
    simp only [Array.getD_eq_getD_getElem?] at eb
    go_simp
    refine (grow_wide x y wx hx1 (by omega) (Or.inr (by omega))).mono ?_
    rintro e w2 ⟨rfl, hb2⟩
    go_simp
    have k2 := Keeps.of_fresh hb2 (fun i => i = b)
    have ht2 := hT.new hb2
    have hS2 := BusS.call HSX.out hZb k2 ht2
    exact hK' _ _ (hI.step bus28a 16 145 rfl (by rw [hsz]; decide) _ _ rfl hall hS2 (fun j u h => F28.stable j u _ _ hT ⟨_, hZ⟩ (k2.mono (fun _ _ e => Or.inl e)) h) ⟨_, rfl, wide_size _ _⟩)
  · obtain ⟨s', ea, hs'⟩ : StrV 8 (c.tmps.getD 137 undef) wx := hI.fact 8 137 rfl (listed hall 8 (by kernel_rfl))
    simp only [Array.getD_eq_getD_getElem?] at ea
    obtain ⟨t, eb, ht⟩ : StrV 8 (c.tmps.getD 145 undef) wx := hI.fact 16 145 rfl (listed hall 16 (by kernel_rfl))
    simp only [Array.getD_eq_getD_getElem?] at eb
    obtain ⟨ad, hA3, hA4⟩ := addsG_ex s' t (by omega)
    have hx : ad.size ≤ 8 + 8 := by omega
    unfold AddsG at hA3
    go_simp
    exact hK' _ _ (hI.step bus28a 17 146 rfl (by rw [hsz]; decide) _ _ rfl hall HSX.out (fun _ _ h => h) ⟨_, rfl, hx⟩)
  · go_simp
    exact hK' _ _ (hI.step bus28a 18 147 rfl (by rw [hsz]; decide) _ _ rfl hall HSX.out (fun _ _ h => h) rfl)
  · go_simp
    have hb2 : Below wx.heap.size wx (wx.alloc (.cells #[.int .i64 256, .int .i64 4096, .int .i64 8192, .int .i64 1] 3)) := (Below.refl _ _).alloc (Nat.le_refl _) _
    have k2 := Keeps.of_fresh hb2 (fun i => i = b)
    have ht2 := hT.new hb2
    have hS2 := BusS.call HSX.out hZb k2 ht2
    exact hK' _ _ (hI.step bus28a 19 148 rfl (by rw [hsz]; decide) _ _ rfl hall hS2 (fun j u h => F28.stable j u _ _ hT ⟨_, hZ⟩ (k2.mono (fun _ _ e => Or.inl e)) h) ⟨_, [256, 4096, 8192, 1], rfl, Holds.new _ _ _, rfl⟩)
  · have ea : c.tmps.getD 147 undef = .pointer (some ⟨b, 0, none⟩) := hI.fact 18 147 rfl (listed hall 18 (by kernel_rfl))
    simp only [Array.getD_eq_getD_getElem?] at ea
    obtain ⟨N, l, eb, hN, rfl⟩ : RowV (fun l => l = [256, 4096, 8192, 1]) (c.tmps.getD 148 undef) wx := hI.fact 19 148 rfl (listed hall 19 (by kernel_rfl))
    simp only [Array.getD_eq_getD_getElem?] at eb
    have hNb := row_ne_tape hN hT
    go_simp
    refine (mk_Pick B b N 0 _ [256, 4096, 8192, 1] wx hT (by simp) (by simp) hNb (fun i hi => row_at hN i hi)).mono ?_
    rintro e w2 ⟨r, rfl, hr, ht2, k2⟩
    have hr2 : 0 ≤ r ∧ r ≤ 2147483648 := by simp at hr; omega
    go_simp
    have hS2 := BusS.call HSX.out hZb k2 ht2
    exact hK' _ _ (hI.step bus28a 20 149 rfl (by rw [hsz]; decide) _ _ rfl hall hS2 (fun j u h => F28.stable j u _ _ hT ⟨_, hZ⟩ (k2.mono (fun _ _ e => Or.inl e)) h) ⟨r, rfl, hr2⟩)
  · go_simp
    exact hK' _ _ (hI.step bus28a 21 150 rfl (by rw [hsz]; decide) _ _ rfl hall HSX.out (fun _ _ h => h) rfl)
  · go_simp
    exact hK' _ _ (hI.step bus28a 22 151 rfl (by rw [hsz]; decide) _ _ rfl hall HSX.out (fun _ _ h => h) rfl)
  · have ea : c.tmps.getD 150 undef = .slice (some ⟨gS, 0, none⟩) n n := hI.fact 21 150 rfl (listed hall 21 (by kernel_rfl))
    simp only [Array.getD_eq_getD_getElem?] at ea
    have eb : c.tmps.getD 151 undef = .int .i64 k := hI.fact 22 151 rfl (listed hall 22 (by kernel_rfl))
    simp only [Array.getD_eq_getD_getElem?] at eb
    go_simp
    exact hK' _ _ (hI.step bus28a 23 152 rfl (by rw [hsz]; decide) _ _ rfl hall HSX.out (fun _ _ h => h) rfl)
  · have ea : c.tmps.getD 152 undef = .pointer (some ⟨gS, k, none⟩) := hI.fact 23 152 rfl (listed hall 23 (by kernel_rfl))
    simp only [Array.getD_eq_getD_getElem?] at ea
    have hkl : k < lS.length := by rw [HS1.out]; exact hk
    have hc : wx.cell? ⟨gS, k, none⟩ = some (.int .i64 (lS[k]'hkl)) := by rw [hS0.cell k]; simp [hkl]
    go_simp
    exact hK' _ _ (hI.step bus28a 24 153 rfl (by rw [hsz]; decide) _ _ rfl hall HSX.out (fun _ _ h => h) ⟨_, rfl, hS2 _ (List.getElem_mem hkl)⟩)
  · obtain ⟨x, ea, hx1, hx2⟩ : NumV (fun x => 0 ≤ x ∧ x ≤ 2147483648) (c.tmps.getD 149 undef) wx := hI.fact 20 149 rfl (listed hall 20 (by kernel_rfl))
    simp only [Array.getD_eq_getD_getElem?] at ea
    obtain ⟨y, eb, hy⟩ : NumV (fun x => x = 0 ∨ x = 1 ∨ x = 2) (c.tmps.getD 153 undef) wx := hI.fact 24 153 rfl (listed hall 24 (by kernel_rfl))
    simp only [Array.getD_eq_getD_getElem?] at eb
    go_simp
    refine (grow_wide x y wx hx1 (by omega) (Or.inr (by omega))).mono ?_
    rintro e w2 ⟨rfl, hb2⟩
    go_simp
    have k2 := Keeps.of_fresh hb2 (fun i => i = b)
    have ht2 := hT.new hb2
    have hS2 := BusS.call HSX.out hZb k2 ht2
    exact hK' _ _ (hI.step bus28a 25 154 rfl (by rw [hsz]; decide) _ _ rfl hall hS2 (fun j u h => F28.stable j u _ _ hT ⟨_, hZ⟩ (k2.mono (fun _ _ e => Or.inl e)) h) ⟨_, rfl, wide_size _ _⟩)
  · obtain ⟨s', ea, hs'⟩ : StrV (8 + 8) (c.tmps.getD 146 undef) wx := hI.fact 17 146 rfl (listed hall 17 (by kernel_rfl))
    simp only [Array.getD_eq_getD_getElem?] at ea
    obtain ⟨t, eb, ht⟩ : StrV 8 (c.tmps.getD 154 undef) wx := hI.fact 25 154 rfl (listed hall 25 (by kernel_rfl))
    simp only [Array.getD_eq_getD_getElem?] at eb
    obtain ⟨ad, hA3, hA4⟩ := addsG_ex s' t (by omega)
    have hx : ad.size ≤ 16 + 8 := by omega
    unfold AddsG at hA3
    go_simp
    exact hK' _ _ (hI.step bus28a 26 155 rfl (by rw [hsz]; decide) _ _ rfl hall HSX.out (fun _ _ h => h) ⟨_, rfl, hx⟩)
  · have ea : c.tmps.getD 129 undef = .string s := hI.fact 0 129 rfl (listed hall 0 (by kernel_rfl))
    simp only [Array.getD_eq_getD_getElem?] at ea
    obtain ⟨t, eb, ht⟩ : StrV (16 + 8) (c.tmps.getD 155 undef) wx := hI.fact 26 155 rfl (listed hall 26 (by kernel_rfl))
    simp only [Array.getD_eq_getD_getElem?] at eb
    obtain ⟨ad, hA3, hA4⟩ := addsG_ex s t (by omega)
    have hx : ad.size ≤ M + 24 := by omega
    unfold AddsG at hA3
    go_simp
    exact hK' _ _ (hI.step bus28a 27 156 rfl (by rw [hsz]; decide) _ _ rfl hall HSX.out (fun _ _ h => h) ⟨_, rfl, hx⟩)
  · obtain ⟨t, ea, ht⟩ : StrV (M + 24) (c.tmps.getD 156 undef) wx := hI.fact 27 156 rfl (listed hall 27 (by kernel_rfl))
    simp only [Array.getD_eq_getD_getElem?] at ea
    go_simp
    exact hK' _ _ (hI.step bus28a 28 13 rfl (by rw [hsz]; decide) _ _ rfl hall HSX.out (fun _ _ h => h) ⟨_, rfl, ht⟩)
end Go.Proofs.Ythkoaakicdhnpaa

namespace Go.Proofs.Ythkoaakicdhnpaa
open Go.RowKit

set_option maxHeartbeats 4000000 in
set_option maxRecDepth 100000 in
theorem bus_blk4 {Q : Exit → Act → World → Prop} (B b base Z N gA gS : Nat) (w1 w : World) (hZ1b : Z ≠ b) (_hbs : base ≤ w1.heap.size) (_hZB : B ≤ Z) (_hl2 : N ≤ 1000) (_hgA : w1.heap.size ≤ gA) (_hgS : w1.heap.size ≤ gS) (_hBA : B ≤ gA) (_hBS : B ≤ gS) (k i1 : Nat) (hlt : k < N) (hi1 : i1 < N) (q : Int) (hq0 : 0 ≤ q) (hq1 : q < 3) {u1 u2 u3 u4 u6 u10 u13 u15 u16 u17 u18 u19 u20 u21 u22 u23 u24 u25 u26 u27 u28 u29 u30 u31 u32 u33 u34 u35 u36 u37 u38 u39 u40 u41 u42 u43 u44 u45 u46 u47 u48 u49 u50 u51 u52 u53 u54 u55 u56 u57 u58 u59 u60 u61 u62 u63 u64 u65 u66 u67 u68 u69 u70 u71 u72 u73 u74 u75 u76 u77 u78 u79 u80 u81 u82 u83 u84 u85 u86 u87 u88 u89 u90 u91 u92 u93 u94 u95 u96 u97 u98 u99 u100 u101 u102 u103 u104 u105 u106 u107 u108 u109 u110 u111 u112 u113 u114 u115 u116 u117 u118 u119 u120 u121 u122 u123 u124 u125 u126 u127 u128 u129 u130 u131 u132 u133 u134 u135 u136 u137 u138 u139 u140 u141 u142 u143 u144 u145 u146 u147 u148 u149 u150 u151 u152 u153 u154 u155 u156 u157 u158 u159 u160 u161 u162 u163 u164 u165 u166 u167 u168 u169 u170 u171 u172 u173 u174 u175 u176 u177 u178 u179 u180 u181 u182 u183 u184 u185 u186 u187 u188 u189 u190 u191 u192 u193 u194 u195 u196 u197 u198 u199 u200 u201 u202 : Value}
    (hB : Hid (BusS B b base Z N gA gS w1 w)) (hQ : Hid (∀ (x12 x14 x98 x99 x100 x101 x102 x103 x104 x105 x106 x107 x108 x109 x110 x111 x112 x113 x114 x115 x116 x117 x118 x119 x120 x121 x122 : Value) (wx : World), (∃ t : ByteArray, x12 = .string t ∧ t.size ≤ 200) ∧ BusS B b base Z N gA gS w1 wx → Q .normal ⟨#[.pointer (some ⟨b, 0, none⟩), u1, u2, u3, u4, .pointer (some ⟨Z, 0, none⟩), u6, .slice (some ⟨gA, 0, none⟩) N N, .slice (some ⟨gS, 0, none⟩) N N, .int .i64 k, u10, .int .i64 i1, x12, u13, x14, u15, u16, u17, u18, u19, u20, u21, u22, u23, u24, u25, u26, u27, u28, u29, u30, u31, u32, u33, u34, u35, u36, u37, u38, u39, u40, u41, u42, u43, u44, u45, u46, u47, u48, u49, u50, u51, u52, u53, u54, u55, u56, u57, u58, u59, u60, u61, u62, u63, u64, u65, u66, u67, u68, u69, u70, u71, u72, u73, u74, u75, u76, u77, u78, u79, u80, u81, u82, u83, u84, u85, u86, u87, u88, u89, u90, u91, u92, u93, u94, u95, u96, u97, x98, x99, x100, x101, x102, x103, x104, x105, x106, x107, x108, x109, x110, x111, x112, x113, x114, x115, x116, x117, x118, x119, x120, x121, x122, u123, u124, u125, u126, u127, u128, u129, u130, u131, u132, u133, u134, u135, u136, u137, u138, u139, u140, u141, u142, u143, u144, u145, u146, u147, u148, u149, u150, u151, u152, u153, u154, u155, u156, u157, u158, u159, u160, u161, u162, u163, u164, u165, u166, u167, u168, u169, u170, u171, u172, u173, u174, u175, u176, u177, u178, u179, u180, u181, u182, u183, u184, u185, u186, u187, u188, u189, u190, u191, u192, u193, u194, u195, u196, u197, u198, u199, u200, u201, u202], []⟩ wx)) :
    (busBlk 4).wp Try.prog Q ⟨#[.pointer (some ⟨b, 0, none⟩), u1, u2, u3, u4, .pointer (some ⟨Z, 0, none⟩), u6, .slice (some ⟨gA, 0, none⟩) N N, .slice (some ⟨gS, 0, none⟩) N N, .int .i64 k, u10, .int .i64 i1, .string ⟨#[]⟩, u13, .int .i64 q, u15, u16, u17, u18, u19, u20, u21, u22, u23, u24, u25, u26, u27, u28, u29, u30, u31, u32, u33, u34, u35, u36, u37, u38, u39, u40, u41, u42, u43, u44, u45, u46, u47, u48, u49, u50, u51, u52, u53, u54, u55, u56, u57, u58, u59, u60, u61, u62, u63, u64, u65, u66, u67, u68, u69, u70, u71, u72, u73, u74, u75, u76, u77, u78, u79, u80, u81, u82, u83, u84, u85, u86, u87, u88, u89, u90, u91, u92, u93, u94, u95, u96, u97, u98, u99, u100, u101, u102, u103, u104, u105, u106, u107, u108, u109, u110, u111, u112, u113, u114, u115, u116, u117, u118, u119, u120, u121, u122, u123, u124, u125, u126, u127, u128, u129, u130, u131, u132, u133, u134, u135, u136, u137, u138, u139, u140, u141, u142, u143, u144, u145, u146, u147, u148, u149, u150, u151, u152, u153, u154, u155, u156, u157, u158, u159, u160, u161, u162, u163, u164, u165, u166, u167, u168, u169, u170, u171, u172, u173, u174, u175, u176, u177, u178, u179, u180, u181, u182, u183, u184, u185, u186, u187, u188, u189, u190, u191, u192, u193, u194, u195, u196, u197, u198, u199, u200, u201, u202], []⟩ w := by
  simp only [busBlk, blkOf, Try.f5, Option.getD_some, reduceIte, Nat.reduceEqDiff]
  go_wp2_with fail
  go_loopg [12, 14] 3 (fun f x y wr => ∃ (t : ByteArray) (c : Int), x = .string t ∧ y = .int .i64 c ∧ 0 ≤ c ∧ c.toNat ≤ f ∧ t.size + 16 * c.toNat ≤ 200 ∧ BusS B b base Z N gA gS w1 wr)
  case atStart => exact ⟨⟨#[]⟩, q, rfl, rfl, hq0, by omega, (by show 0 + 16 * (q).toNat ≤ 200; omega), hB.out⟩
  case round =>
    clear hB
    obtain ⟨t, cc, rfl, rfl, hc0, hcf, hct, hB⟩ := hrel
    have HB := Lib.hid hB
    clear hB
    by_cases hc : 0 < cc
    · go_wp2_with fail
      refine wp_region_any (by kernel_rfl) ?_
      refine wpAny_ops (ops' := busOps 24) (by kernel_rfl) ?_
      refine bus_region24 B b base Z N gA gS k i1 t.size t w1 _ _ rfl hZ1b hlt hi1 (Nat.le_refl _) (by omega) rfl rfl rfl rfl rfl rfl (by exact HB.out.drew hZ1b) ?_
      intro c wn hsb hBn hst
      obtain ⟨t2, ht2, hts⟩ := hst
      have HT2 := Lib.hid ht2
      have HBn := Lib.hid hBn
      clear ht2 hBn
      obtain ⟨y102, y103, y104, y105, y106, y107, y108, y109, y110, y111, y112, y113, y114, y115, y116, y117, y118, y119, y120, y121, y122, hc⟩ := hsb.exAt [102, 103, 104, 105, 106, 107, 108, 109, 110, 111, 112, 113, 114, 115, 116, 117, 118, 119, 120, 121, 122] 12 (by kernel_rfl)
      rw [HT2.out] at hc
      subst hc
      clear HT2 hsb HB
      simp only [List.setIfInBounds_toArray, List.set_cons_zero, List.set_cons_succ]
      go_wp2_with fail
      go_roundg (cc - 1).toNat
      case measure => omega
      case rel => exact ⟨t2, cc - 1, rfl, rfl, by omega, by omega, by omega, HBn.out⟩
    · have hcz : ¬ cc > 0 := by omega
      go_wp2_with fail
      exact hQ.out _ _ _ _ _ _ _ _ _ _ _ _ _ _ _ _ _ _ _ _ _ _ _ _ _ _ _ _ ⟨⟨t, rfl, by omega⟩, HB.out⟩

set_option maxHeartbeats 4000000 in
set_option maxRecDepth 100000 in
theorem bus_blk6 {Q : Exit → Act → World → Prop} (B b base Z N gA gS : Nat) (w1 w : World) (hZ1b : Z ≠ b) (_hbs : base ≤ w1.heap.size) (_hZB : B ≤ Z) (_hl2 : N ≤ 1000) (_hgA : w1.heap.size ≤ gA) (_hgS : w1.heap.size ≤ gS) (_hBA : B ≤ gA) (_hBS : B ≤ gS) (k i1 : Nat) (hlt : k < N) (hi1 : i1 < N) (q : Int) (hq0 : 0 ≤ q) (hq1 : q < 3) {u1 u2 u3 u4 u6 u10 u12 u14 u16 u17 u18 u19 u20 u21 u22 u23 u24 u25 u26 u27 u28 u29 u30 u31 u32 u33 u34 u35 u36 u37 u38 u39 u40 u41 u42 u43 u44 u45 u46 u47 u48 u49 u50 u51 u52 u53 u54 u55 u56 u57 u58 u59 u60 u61 u62 u63 u64 u65 u66 u67 u68 u69 u70 u71 u72 u73 u74 u75 u76 u77 u78 u79 u80 u81 u82 u83 u84 u85 u86 u87 u88 u89 u90 u91 u92 u93 u94 u95 u96 u97 u98 u99 u100 u101 u102 u103 u104 u105 u106 u107 u108 u109 u110 u111 u112 u113 u114 u115 u116 u117 u118 u119 u120 u121 u122 u123 u124 u125 u126 u127 u128 u129 u130 u131 u132 u133 u134 u135 u136 u137 u138 u139 u140 u141 u142 u143 u144 u145 u146 u147 u148 u149 u150 u151 u152 u153 u154 u155 u156 u157 u158 u159 u160 u161 u162 u163 u164 u165 u166 u167 u168 u169 u170 u171 u172 u173 u174 u175 u176 u177 u178 u179 u180 u181 u182 u183 u184 u185 u186 u187 u188 u189 u190 u191 u192 u193 u194 u195 u196 u197 u198 u199 u200 u201 u202 : Value}
    (hB : Hid (BusS B b base Z N gA gS w1 w)) (hQ : Hid (∀ (x13 x15 x125 x126 x127 x128 x129 x130 x131 x132 x133 x134 x135 x136 x137 x138 x139 x140 x141 x142 x143 x144 x145 x146 x147 x148 x149 x150 x151 x152 x153 x154 x155 x156 : Value) (wx : World), (∃ t : ByteArray, x13 = .string t ∧ t.size ≤ 200) ∧ BusS B b base Z N gA gS w1 wx → Q .normal ⟨#[.pointer (some ⟨b, 0, none⟩), u1, u2, u3, u4, .pointer (some ⟨Z, 0, none⟩), u6, .slice (some ⟨gA, 0, none⟩) N N, .slice (some ⟨gS, 0, none⟩) N N, .int .i64 k, u10, .int .i64 i1, u12, x13, u14, x15, u16, u17, u18, u19, u20, u21, u22, u23, u24, u25, u26, u27, u28, u29, u30, u31, u32, u33, u34, u35, u36, u37, u38, u39, u40, u41, u42, u43, u44, u45, u46, u47, u48, u49, u50, u51, u52, u53, u54, u55, u56, u57, u58, u59, u60, u61, u62, u63, u64, u65, u66, u67, u68, u69, u70, u71, u72, u73, u74, u75, u76, u77, u78, u79, u80, u81, u82, u83, u84, u85, u86, u87, u88, u89, u90, u91, u92, u93, u94, u95, u96, u97, u98, u99, u100, u101, u102, u103, u104, u105, u106, u107, u108, u109, u110, u111, u112, u113, u114, u115, u116, u117, u118, u119, u120, u121, u122, u123, u124, x125, x126, x127, x128, x129, x130, x131, x132, x133, x134, x135, x136, x137, x138, x139, x140, x141, x142, x143, x144, x145, x146, x147, x148, x149, x150, x151, x152, x153, x154, x155, x156, u157, u158, u159, u160, u161, u162, u163, u164, u165, u166, u167, u168, u169, u170, u171, u172, u173, u174, u175, u176, u177, u178, u179, u180, u181, u182, u183, u184, u185, u186, u187, u188, u189, u190, u191, u192, u193, u194, u195, u196, u197, u198, u199, u200, u201, u202], []⟩ wx)) :
    (busBlk 6).wp Try.prog Q ⟨#[.pointer (some ⟨b, 0, none⟩), u1, u2, u3, u4, .pointer (some ⟨Z, 0, none⟩), u6, .slice (some ⟨gA, 0, none⟩) N N, .slice (some ⟨gS, 0, none⟩) N N, .int .i64 k, u10, .int .i64 i1, u12, .string ⟨#[]⟩, u14, .int .i64 q, u16, u17, u18, u19, u20, u21, u22, u23, u24, u25, u26, u27, u28, u29, u30, u31, u32, u33, u34, u35, u36, u37, u38, u39, u40, u41, u42, u43, u44, u45, u46, u47, u48, u49, u50, u51, u52, u53, u54, u55, u56, u57, u58, u59, u60, u61, u62, u63, u64, u65, u66, u67, u68, u69, u70, u71, u72, u73, u74, u75, u76, u77, u78, u79, u80, u81, u82, u83, u84, u85, u86, u87, u88, u89, u90, u91, u92, u93, u94, u95, u96, u97, u98, u99, u100, u101, u102, u103, u104, u105, u106, u107, u108, u109, u110, u111, u112, u113, u114, u115, u116, u117, u118, u119, u120, u121, u122, u123, u124, u125, u126, u127, u128, u129, u130, u131, u132, u133, u134, u135, u136, u137, u138, u139, u140, u141, u142, u143, u144, u145, u146, u147, u148, u149, u150, u151, u152, u153, u154, u155, u156, u157, u158, u159, u160, u161, u162, u163, u164, u165, u166, u167, u168, u169, u170, u171, u172, u173, u174, u175, u176, u177, u178, u179, u180, u181, u182, u183, u184, u185, u186, u187, u188, u189, u190, u191, u192, u193, u194, u195, u196, u197, u198, u199, u200, u201, u202], []⟩ w := by
  simp only [busBlk, blkOf, Try.f5, Option.getD_some, reduceIte, Nat.reduceEqDiff]
  go_wp2_with fail
  go_loopg [13, 15] 3 (fun f x y wr => ∃ (t : ByteArray) (c : Int), x = .string t ∧ y = .int .i64 c ∧ 0 ≤ c ∧ c.toNat ≤ f ∧ t.size + 24 * c.toNat ≤ 200 ∧ BusS B b base Z N gA gS w1 wr)
  case atStart => exact ⟨⟨#[]⟩, q, rfl, rfl, hq0, by omega, (by show 0 + 24 * (q).toNat ≤ 200; omega), hB.out⟩
  case round =>
    clear hB
    obtain ⟨t, cc, rfl, rfl, hc0, hcf, hct, hB⟩ := hrel
    have HB := Lib.hid hB
    clear hB
    by_cases hc : 0 < cc
    · go_wp2_with fail
      refine wp_region_any (by kernel_rfl) ?_
      refine wpAny_ops (ops' := busOps 28) (by kernel_rfl) ?_
      refine bus_region28 B b base Z N gA gS k i1 t.size t w1 _ _ rfl hZ1b hlt hi1 (Nat.le_refl _) (by omega) rfl rfl rfl rfl rfl rfl (by exact HB.out.drew hZ1b) ?_
      intro c wn hsb hBn hst
      obtain ⟨t2, ht2, hts⟩ := hst
      have HT2 := Lib.hid ht2
      have HBn := Lib.hid hBn
      clear ht2 hBn
      obtain ⟨y129, y130, y131, y132, y133, y134, y135, y136, y137, y138, y139, y140, y141, y142, y143, y144, y145, y146, y147, y148, y149, y150, y151, y152, y153, y154, y155, y156, hc⟩ := hsb.exAt [129, 130, 131, 132, 133, 134, 135, 136, 137, 138, 139, 140, 141, 142, 143, 144, 145, 146, 147, 148, 149, 150, 151, 152, 153, 154, 155, 156] 13 (by kernel_rfl)
      rw [HT2.out] at hc
      subst hc
      clear HT2 hsb HB
      simp only [List.setIfInBounds_toArray, List.set_cons_zero, List.set_cons_succ]
      go_wp2_with fail
      go_roundg (cc - 1).toNat
      case measure => omega
      case rel => exact ⟨t2, cc - 1, rfl, rfl, by omega, by omega, by omega, HBn.out⟩
    · have hcz : ¬ cc > 0 := by omega
      go_wp2_with fail
      exact hQ.out _ _ _ _ _ _ _ _ _ _ _ _ _ _ _ _ _ _ _ _ _ _ _ _ _ _ _ _ _ _ _ _ _ _ _ ⟨⟨t, rfl, by omega⟩, HB.out⟩
end Go.Proofs.Ythkoaakicdhnpaa

namespace Go.Proofs.Ythkoaakicdhnpaa
open Go.RowKit

theorem bus36 : inRow2 .any (busOps 36) = true := by kernel_rfl
theorem bus36a : apartB (busOps 36) = true := by kernel_rfl
theorem bus36n : (busOps 36).size = 24 := by kernel_rfl
def StrA (u : Value) (_ : World) : Prop := ∃ s, u = .string s
def StrR (m : Nat) (u : Value) (w : World) : Prop := ∃ (N : Nat) (l : List ByteArray), u = .slice (some ⟨N, 0, none⟩) m m ∧ Holds w N (l.map Value.string).toArray 9 ∧ l.length = m ∧ ∀ x ∈ l, x.size ≤ 100
def StrP (u : Value) (w : World) : Prop := ∃ (N m : Nat) (l : List ByteArray), u = .pointer (some ⟨N, m, none⟩) ∧ Holds w N (l.map Value.string).toArray 9 ∧ m < l.length ∧ ∀ x ∈ l, x.size ≤ 100
theorem str_keeps {B b Z N : Nat} {l : List ByteArray} {w w' : World} (h : Holds w N (l.map Value.string).toArray 9) (ht : Tape B w b) (hz : ∃ v, Holds w Z #[v] 27) (k : Keeps (fun i => i = b ∨ i = Z) w w') : Holds w' N (l.map Value.string).toArray 9 := by
  obtain ⟨cs, hH⟩ := ht.holds
  obtain ⟨z, hz⟩ := hz
  refine h.keeps k ?_
  rintro (rfl | rfl)
  · have := h.symm.trans hH
    injection this with this; injection this with _ this; exact absurd this (by decide)
  · have := h.symm.trans hz
    injection this with this; injection this with _ this; exact absurd this (by decide)
theorem Stable.strA {B b Z : Nat} : Stable B b Z StrA := fun _ _ _ _ _ _ h => h
theorem Stable.strR {B b Z m : Nat} : Stable B b Z (StrR m) := by
  rintro u w w' ht hz k ⟨N, l, e, h, h2, h3⟩
  exact ⟨N, l, e, str_keeps h ht hz k, h2, h3⟩
theorem Stable.strP {B b Z : Nat} : Stable B b Z StrP := by
  rintro u w w' ht hz k ⟨N, m, l, e, h, h2, h3⟩
  exact ⟨N, m, l, e, str_keeps h ht hz k, h2, h3⟩
theorem five {a b c d : ByteArray} (h1 : a.size ≤ 100) (h2 : b.size ≤ 100) (h3 : c.size ≤ 100) (h4 : d.size ≤ 100) : ∀ x ∈ [a, b, c, ⟨#[97, 0]⟩, d], x.size ≤ 100 := by
  intro x hx
  simp only [List.mem_cons, List.not_mem_nil, or_false] at hx
  rcases hx with rfl | rfl | rfl | rfl | rfl
  · exact h1
  · exact h2
  · exact h3
  · decide
  · exact h4
def F36 (b base n : Nat) (z : Int) (j : Nat) : Value → World → Prop := match j with
  | 0 => TreeV base n
  | 1 => TreeV base n
  | 2 => fun u _ => u = .int .i64 z
  | 3 => StrA
  | 4 => StrR 4
  | 5 => fun u _ => u = .pointer (some ⟨b, 0, none⟩)
  | 6 => NumV fun x => 0 ≤ x ∧ x < 4
  | 7 => StrP
  | 8 => StrV 100
  | 9 => RowV fun l => l = [3]
  | 10 => StrV 100
  | 11 => RowV fun l => l = [1]
  | 12 => StrV 100
  | 13 => RowV fun l => l = [4294967295, 4294967295, 1]
  | 14 => StrV 100
  | 15 => RowV fun l => l = [0, 1, 2, 3]
  | 16 => StrV 100
  | 17 => StrR 5
  | 18 => fun u _ => u = .pointer (some ⟨b, 0, none⟩)
  | 19 => NumV fun x => 0 ≤ x ∧ x < 5
  | 20 => StrP
  | 21 => StrV 100
  | 22 => TreeV base n
  | _ => fun _ _ => True
theorem F36.stable {B b Z base n : Nat} {z : Int} (j : Nat) : Stable B b Z (F36 b base n z j) := by
  unfold F36
  split
  · exact Stable.tree
  · exact Stable.tree
  · exact Stable.const
  · exact Stable.strA
  · exact Stable.strR
  · exact Stable.const
  · exact Stable.num
  · exact Stable.strP
  · exact Stable.str
  · exact Stable.row
  · exact Stable.str
  · exact Stable.row
  · exact Stable.str
  · exact Stable.row
  · exact Stable.str
  · exact Stable.row
  · exact Stable.str
  · exact Stable.strR
  · exact Stable.const
  · exact Stable.num
  · exact Stable.strP
  · exact Stable.str
  · exact Stable.tree
  · exact Stable.const

set_option maxHeartbeats 4000000 in
set_option maxRecDepth 100000 in
theorem bus_region36 {Q : Exit → Act → World → Prop} (B b base Z n gA gS : Nat) (z : Int) (W w : World) (A : Act) (hsz : A.tmps.size = 203) (hZb : Z ≠ b) (hWb : base ≤ W.heap.size) (hZB : B ≤ Z)
    (a0 : A.tmps.getD 0 undef = .pointer (some ⟨b, 0, none⟩)) (a5 : A.tmps.getD 5 undef = .pointer (some ⟨Z, 0, none⟩)) (a16 : A.tmps.getD 16 undef = .int .i64 z)
    (hS : BusS B b base Z n gA gS W w) (hQ : ∀ c w', SameBut (busOps 36) A c → BusS B b base Z n gA gS W w' → Q .normal c w') :
    wpAny Try.prog .any (busOps 36) Q (busOps 36).size (Array.replicate (busOps 36).size false) A w := by
  refine wpAny_inv2 (fun l c wx => RInv (busOps 36) A (F36 b base n z) (BusS B b base Z n gA gS W) l c wx) bus36 (fun l c wx hI _ => hQ c wx hI.1 hI.2.1) ?hstep _ _ _ _ (by simp) (by simp) (RInv.start hS)
  intro l c wx hI i o ho hl hall K' hK'
  have hi13 : i < 24 := by rw [← bus36n]; exact (Array.getElem?_eq_some_iff.1 ho).1
  simp only [busOps, regOps, Try.f5, Option.getD_some, reduceIte, Nat.reduceEqDiff] at ho
  have hSx := hI.2.1
  have HSX := Lib.hid hSx
  obtain ⟨hT, ⟨v, T, hZ, hr, hs, hlen⟩, _, _, hkW⟩ := hSx
  obtain ⟨ta, tc, rfl⟩ := hr.slice
  have HL := Lib.hid hlen
  clear hlen
  have hX := hZ.cell 0
  have hXf := hZ.free 0
  have hbx : base ≤ wx.heap.size := Nat.le_trans hWb hkW.size
  have s0 := (hI.slot 0 (by kernel_rfl)).trans a0
  have s5 := (hI.slot 5 (by kernel_rfl)).trans a5
  have s16 := (hI.slot 16 (by kernel_rfl)).trans a16
  simp only [Array.getD_eq_getD_getElem?] at s0 s5 s16
  have hic : i = 0 ∨ i = 1 ∨ i = 2 ∨ i = 3 ∨ i = 4 ∨ i = 5 ∨ i = 6 ∨ i = 7 ∨ i = 8 ∨ i = 9 ∨ i = 10 ∨ i = 11 ∨ i = 12 ∨ i = 13 ∨ i = 14 ∨ i = 15 ∨ i = 16 ∨ i = 17 ∨ i = 18 ∨ i = 19 ∨ i = 20 ∨ i = 21 ∨ i = 22 ∨ i = 23 := by omega
  rcases hic with rfl | rfl | rfl | rfl | rfl | rfl | rfl | rfl | rfl | rfl | rfl | rfl | rfl | rfl | rfl | rfl | rfl | rfl | rfl | rfl | rfl | rfl | rfl | rfl
  all_goals cases ho
  · go_simp
    exact hK' _ _ (hI.step bus36a 0 179 rfl (by rw [hsz]; decide) _ _ rfl hall HSX.out (fun _ _ h => h) ⟨_, T, rfl, hr, hs, HL.out⟩)
  · go_simp
    exact hK' _ _ (hI.step bus36a 1 180 rfl (by rw [hsz]; decide) _ _ rfl hall HSX.out (fun _ _ h => h) ⟨_, T, rfl, hr, hs, HL.out⟩)
  · go_simp
    exact hK' _ _ (hI.step bus36a 2 181 rfl (by rw [hsz]; decide) _ _ rfl hall HSX.out (fun _ _ h => h) rfl)
  · obtain ⟨v0, T0, ea, hr0, hs0, hl0⟩ : TreeV base n (c.tmps.getD 180 undef) wx := hI.fact 1 180 rfl (listed hall 1 (by kernel_rfl))
    simp only [Array.getD_eq_getD_getElem?] at ea
    have eb : c.tmps.getD 181 undef = .int .i64 z := hI.fact 2 181 rfl (listed hall 2 (by kernel_rfl))
    simp only [Array.getD_eq_getD_getElem?] at eb
    clear hl0
    go_simp
    refine (ref3_Path _ v0 T0 z wx hr0.in).mono ?_
    rintro e w2 ⟨rfl, hb2⟩
    go_simp
    have k2 := Keeps.of_fresh hb2 (fun i => i = b)
    have ht2 := hT.new hb2
    have hS2 := BusS.call HSX.out hZb k2 ht2
    exact hK' _ _ (hI.step bus36a 3 182 rfl (by rw [hsz]; decide) _ _ rfl hall hS2 (fun j u h => F36.stable j u _ _ hT ⟨_, hZ⟩ (k2.mono (fun _ _ e => Or.inl e)) h) ⟨_, rfl⟩)
  · go_simp
    have hb2 : Below wx.heap.size wx (wx.alloc (.cells #[.string ⟨#[114, 101, 103]⟩, .string ⟨#[114, 97, 110, 103, 101, 115]⟩, .string ⟨#[35, 97, 100, 100, 114, 101, 115, 115, 45, 99, 101, 108, 108, 115]⟩, .string ⟨#[35, 115, 105, 122, 101, 45, 99, 101, 108, 108, 115]⟩] 9)) := (Below.refl _ _).alloc (Nat.le_refl _) _
    have k2 := Keeps.of_fresh hb2 (fun i => i = b)
    have ht2 := hT.new hb2
    have hS2 := BusS.call HSX.out hZb k2 ht2
    exact hK' _ _ (hI.step bus36a 4 183 rfl (by rw [hsz]; decide) _ _ rfl hall hS2 (fun j u h => F36.stable j u _ _ hT ⟨_, hZ⟩ (k2.mono (fun _ _ e => Or.inl e)) h) ⟨_, [⟨#[114, 101, 103]⟩, ⟨#[114, 97, 110, 103, 101, 115]⟩, ⟨#[35, 97, 100, 100, 114, 101, 115, 115, 45, 99, 101, 108, 108, 115]⟩, ⟨#[35, 115, 105, 122, 101, 45, 99, 101, 108, 108, 115]⟩], rfl, Holds.new _ _ _, rfl, by decide⟩)
  · go_simp
    exact hK' _ _ (hI.step bus36a 5 184 rfl (by rw [hsz]; decide) _ _ rfl hall HSX.out (fun _ _ h => h) rfl)
  · have ea : c.tmps.getD 184 undef = .pointer (some ⟨b, 0, none⟩) := hI.fact 5 184 rfl (listed hall 5 (by kernel_rfl))
    simp only [Array.getD_eq_getD_getElem?] at ea
    go_simp
    refine (mk_N B b 4 wx hT (by decide) (by decide)).mono ?_
    rintro e w2 ⟨r, rfl, hr1, hr2, ht2, k2⟩
    go_simp
    have hS2 := BusS.call HSX.out hZb k2 ht2
    exact hK' _ _ (hI.step bus36a 6 185 rfl (by rw [hsz]; decide) _ _ rfl hall hS2 (fun j u h => F36.stable j u _ _ hT ⟨_, hZ⟩ (k2.mono (fun _ _ e => Or.inl e)) h) ⟨r, rfl, hr1, hr2⟩)
  · obtain ⟨N, l, ea, hN, hl, hsz2⟩ : StrR 4 (c.tmps.getD 183 undef) wx := hI.fact 4 183 rfl (listed hall 4 (by kernel_rfl))
    simp only [Array.getD_eq_getD_getElem?] at ea
    obtain ⟨x, eb, hx1, hx2⟩ : NumV (fun x => 0 ≤ x ∧ x < 4) (c.tmps.getD 185 undef) wx := hI.fact 6 185 rfl (listed hall 6 (by kernel_rfl))
    simp only [Array.getD_eq_getD_getElem?] at eb
    obtain ⟨m, rfl⟩ : ∃ m : Nat, x = m := ⟨x.toNat, by omega⟩
    have hm : m < 4 := by omega
    have hmi : (m : Int) < 4 := by omega
    clear hx1 hx2
    have HLL := Lib.hid hl
    clear hl
    go_simp
    exact hK' _ _ (hI.step bus36a 7 186 rfl (by rw [hsz]; decide) _ _ rfl hall HSX.out (fun _ _ h => h) ⟨N, m, l, rfl, hN, by rw [HLL.out]; exact hm, hsz2⟩)
  · obtain ⟨N, m, l, ea, hN, hm, hsz2⟩ : StrP  (c.tmps.getD 186 undef) wx := hI.fact 7 186 rfl (listed hall 7 (by kernel_rfl))
    simp only [Array.getD_eq_getD_getElem?] at ea
    have hc : wx.cell? ⟨N, m, none⟩ = some (.string (l[m]'hm)) := by rw [hN.cell m]; simp [hm]
    go_simp
    exact hK' _ _ (hI.step bus36a 8 187 rfl (by rw [hsz]; decide) _ _ rfl hall HSX.out (fun _ _ h => h) ⟨_, rfl, hsz2 _ (List.getElem_mem hm)⟩)
  · go_simp
    have hb2 : Below wx.heap.size wx (wx.alloc (.cells #[.int .i64 3] 3)) := (Below.refl _ _).alloc (Nat.le_refl _) _
    have k2 := Keeps.of_fresh hb2 (fun i => i = b)
    have ht2 := hT.new hb2
    have hS2 := BusS.call HSX.out hZb k2 ht2
    exact hK' _ _ (hI.step bus36a 9 188 rfl (by rw [hsz]; decide) _ _ rfl hall hS2 (fun j u h => F36.stable j u _ _ hT ⟨_, hZ⟩ (k2.mono (fun _ _ e => Or.inl e)) h) ⟨_, [3], rfl, Holds.new _ _ _, rfl⟩)
  · obtain ⟨N, l, ea, hN, rfl⟩ : RowV (fun l => l = [3]) (c.tmps.getD 188 undef) wx := hI.fact 9 188 rfl (listed hall 9 (by kernel_rfl))
    simp only [Array.getD_eq_getD_getElem?] at ea
    have hls : ListAt wx.heap.size wx (.slice (some ⟨N, 0, none⟩) ([3] : List Int).length ([3] : List Int).length) [3] := ⟨_, _, rfl, Nat.le_refl _, by simp, fun _ => ⟨N, 0, rfl, hN.lt, fun i hi => row_at hN i hi⟩⟩
    go_simp
    refine (grow_Cells [3] _ wx hls (by intro y hy; simp at hy; omega) (by simp)).mono ?_
    rintro e w2 ⟨rfl, hb2⟩
    go_simp
    have k2 := Keeps.of_fresh hb2 (fun i => i = b)
    have ht2 := hT.new hb2
    have hS2 := BusS.call HSX.out hZb k2 ht2
    exact hK' _ _ (hI.step bus36a 10 189 rfl (by rw [hsz]; decide) _ _ rfl hall hS2 (fun j u h => F36.stable j u _ _ hT ⟨_, hZ⟩ (k2.mono (fun _ _ e => Or.inl e)) h) ⟨_, rfl, by decide⟩)
  · go_simp
    have hb2 : Below wx.heap.size wx (wx.alloc (.cells #[.int .i64 1] 3)) := (Below.refl _ _).alloc (Nat.le_refl _) _
    have k2 := Keeps.of_fresh hb2 (fun i => i = b)
    have ht2 := hT.new hb2
    have hS2 := BusS.call HSX.out hZb k2 ht2
    exact hK' _ _ (hI.step bus36a 11 190 rfl (by rw [hsz]; decide) _ _ rfl hall hS2 (fun j u h => F36.stable j u _ _ hT ⟨_, hZ⟩ (k2.mono (fun _ _ e => Or.inl e)) h) ⟨_, [1], rfl, Holds.new _ _ _, rfl⟩)
  · obtain ⟨N, l, ea, hN, rfl⟩ : RowV (fun l => l = [1]) (c.tmps.getD 190 undef) wx := hI.fact 11 190 rfl (listed hall 11 (by kernel_rfl))
    simp only [Array.getD_eq_getD_getElem?] at ea
    have hls : ListAt wx.heap.size wx (.slice (some ⟨N, 0, none⟩) ([1] : List Int).length ([1] : List Int).length) [1] := ⟨_, _, rfl, Nat.le_refl _, by simp, fun _ => ⟨N, 0, rfl, hN.lt, fun i hi => row_at hN i hi⟩⟩
    go_simp
    refine (grow_Cells [1] _ wx hls (by intro y hy; simp at hy; omega) (by simp)).mono ?_
    rintro e w2 ⟨rfl, hb2⟩
    go_simp
    have k2 := Keeps.of_fresh hb2 (fun i => i = b)
    have ht2 := hT.new hb2
    have hS2 := BusS.call HSX.out hZb k2 ht2
    exact hK' _ _ (hI.step bus36a 12 191 rfl (by rw [hsz]; decide) _ _ rfl hall hS2 (fun j u h => F36.stable j u _ _ hT ⟨_, hZ⟩ (k2.mono (fun _ _ e => Or.inl e)) h) ⟨_, rfl, by decide⟩)
  · go_simp
    have hb2 : Below wx.heap.size wx (wx.alloc (.cells #[.int .i64 4294967295, .int .i64 4294967295, .int .i64 1] 3)) := (Below.refl _ _).alloc (Nat.le_refl _) _
    have k2 := Keeps.of_fresh hb2 (fun i => i = b)
    have ht2 := hT.new hb2
    have hS2 := BusS.call HSX.out hZb k2 ht2
    exact hK' _ _ (hI.step bus36a 13 192 rfl (by rw [hsz]; decide) _ _ rfl hall hS2 (fun j u h => F36.stable j u _ _ hT ⟨_, hZ⟩ (k2.mono (fun _ _ e => Or.inl e)) h) ⟨_, [4294967295, 4294967295, 1], rfl, Holds.new _ _ _, rfl⟩)
  · obtain ⟨N, l, ea, hN, rfl⟩ : RowV (fun l => l = [4294967295, 4294967295, 1]) (c.tmps.getD 192 undef) wx := hI.fact 13 192 rfl (listed hall 13 (by kernel_rfl))
    simp only [Array.getD_eq_getD_getElem?] at ea
    have hls : ListAt wx.heap.size wx (.slice (some ⟨N, 0, none⟩) ([4294967295, 4294967295, 1] : List Int).length ([4294967295, 4294967295, 1] : List Int).length) [4294967295, 4294967295, 1] := ⟨_, _, rfl, Nat.le_refl _, by simp, fun _ => ⟨N, 0, rfl, hN.lt, fun i hi => row_at hN i hi⟩⟩
    go_simp
    refine (grow_Cells [4294967295, 4294967295, 1] _ wx hls (by intro y hy; simp at hy; omega) (by simp)).mono ?_
    rintro e w2 ⟨rfl, hb2⟩
    go_simp
    have k2 := Keeps.of_fresh hb2 (fun i => i = b)
    have ht2 := hT.new hb2
    have hS2 := BusS.call HSX.out hZb k2 ht2
    exact hK' _ _ (hI.step bus36a 14 193 rfl (by rw [hsz]; decide) _ _ rfl hall hS2 (fun j u h => F36.stable j u _ _ hT ⟨_, hZ⟩ (k2.mono (fun _ _ e => Or.inl e)) h) ⟨_, rfl, by decide⟩)
  · go_simp
    have hb2 : Below wx.heap.size wx (wx.alloc (.cells #[.int .i64 0, .int .i64 1, .int .i64 2, .int .i64 3] 3)) := (Below.refl _ _).alloc (Nat.le_refl _) _
    have k2 := Keeps.of_fresh hb2 (fun i => i = b)
    have ht2 := hT.new hb2
    have hS2 := BusS.call HSX.out hZb k2 ht2
    exact hK' _ _ (hI.step bus36a 15 194 rfl (by rw [hsz]; decide) _ _ rfl hall hS2 (fun j u h => F36.stable j u _ _ hT ⟨_, hZ⟩ (k2.mono (fun _ _ e => Or.inl e)) h) ⟨_, [0, 1, 2, 3], rfl, Holds.new _ _ _, rfl⟩)
  · obtain ⟨N, l, ea, hN, rfl⟩ : RowV (fun l => l = [0, 1, 2, 3]) (c.tmps.getD 194 undef) wx := hI.fact 15 194 rfl (listed hall 15 (by kernel_rfl))
    simp only [Array.getD_eq_getD_getElem?] at ea
    have hls : ListAt wx.heap.size wx (.slice (some ⟨N, 0, none⟩) ([0, 1, 2, 3] : List Int).length ([0, 1, 2, 3] : List Int).length) [0, 1, 2, 3] := ⟨_, _, rfl, Nat.le_refl _, by simp, fun _ => ⟨N, 0, rfl, hN.lt, fun i hi => row_at hN i hi⟩⟩
    go_simp
    refine (grow_Cells [0, 1, 2, 3] _ wx hls (by intro y hy; simp at hy; omega) (by simp)).mono ?_
    rintro e w2 ⟨rfl, hb2⟩
    go_simp
    have k2 := Keeps.of_fresh hb2 (fun i => i = b)
    have ht2 := hT.new hb2
    have hS2 := BusS.call HSX.out hZb k2 ht2
    exact hK' _ _ (hI.step bus36a 16 195 rfl (by rw [hsz]; decide) _ _ rfl hall hS2 (fun j u h => F36.stable j u _ _ hT ⟨_, hZ⟩ (k2.mono (fun _ _ e => Or.inl e)) h) ⟨_, rfl, by decide⟩)
  · obtain ⟨y1, ea, hy1⟩ : StrV 100 (c.tmps.getD 189 undef) wx := hI.fact 10 189 rfl (listed hall 10 (by kernel_rfl))
    simp only [Array.getD_eq_getD_getElem?] at ea
    obtain ⟨y2, eb, hy2⟩ : StrV 100 (c.tmps.getD 191 undef) wx := hI.fact 12 191 rfl (listed hall 12 (by kernel_rfl))
    simp only [Array.getD_eq_getD_getElem?] at eb
    obtain ⟨y3, ec, hy3⟩ : StrV 100 (c.tmps.getD 193 undef) wx := hI.fact 14 193 rfl (listed hall 14 (by kernel_rfl))
    simp only [Array.getD_eq_getD_getElem?] at ec
    obtain ⟨y4, ed, hy4⟩ : StrV 100 (c.tmps.getD 195 undef) wx := hI.fact 16 195 rfl (listed hall 16 (by kernel_rfl))
    simp only [Array.getD_eq_getD_getElem?] at ed
    go_simp
    have hb2 : Below wx.heap.size wx (wx.alloc (.cells #[.string y1, .string y2, .string y3, .string ⟨#[97, 0]⟩, .string y4] 9)) := (Below.refl _ _).alloc (Nat.le_refl _) _
    have k2 := Keeps.of_fresh hb2 (fun i => i = b)
    have ht2 := hT.new hb2
    have hS2 := BusS.call HSX.out hZb k2 ht2
    exact hK' _ _ (hI.step bus36a 17 196 rfl (by rw [hsz]; decide) _ _ rfl hall hS2 (fun j u h => F36.stable j u _ _ hT ⟨_, hZ⟩ (k2.mono (fun _ _ e => Or.inl e)) h) ⟨_, [y1, y2, y3, ⟨#[97, 0]⟩, y4], rfl, Holds.new _ _ _, rfl, five hy1 hy2 hy3 hy4⟩)
  · go_simp
    exact hK' _ _ (hI.step bus36a 18 197 rfl (by rw [hsz]; decide) _ _ rfl hall HSX.out (fun _ _ h => h) rfl)
  · have ea : c.tmps.getD 197 undef = .pointer (some ⟨b, 0, none⟩) := hI.fact 18 197 rfl (listed hall 18 (by kernel_rfl))
    simp only [Array.getD_eq_getD_getElem?] at ea
    go_simp
    refine (mk_N B b 5 wx hT (by decide) (by decide)).mono ?_
    rintro e w2 ⟨r, rfl, hr1, hr2, ht2, k2⟩
    go_simp
    have hS2 := BusS.call HSX.out hZb k2 ht2
    exact hK' _ _ (hI.step bus36a 19 198 rfl (by rw [hsz]; decide) _ _ rfl hall hS2 (fun j u h => F36.stable j u _ _ hT ⟨_, hZ⟩ (k2.mono (fun _ _ e => Or.inl e)) h) ⟨r, rfl, hr1, hr2⟩)
  · obtain ⟨N, l, ea, hN, hl, hsz2⟩ : StrR 5 (c.tmps.getD 196 undef) wx := hI.fact 17 196 rfl (listed hall 17 (by kernel_rfl))
    simp only [Array.getD_eq_getD_getElem?] at ea
    obtain ⟨x, eb, hx1, hx2⟩ : NumV (fun x => 0 ≤ x ∧ x < 5) (c.tmps.getD 198 undef) wx := hI.fact 19 198 rfl (listed hall 19 (by kernel_rfl))
    simp only [Array.getD_eq_getD_getElem?] at eb
    obtain ⟨m, rfl⟩ : ∃ m : Nat, x = m := ⟨x.toNat, by omega⟩
    have hm : m < 5 := by omega
    have hmi : (m : Int) < 5 := by omega
    clear hx1 hx2
    have HLL := Lib.hid hl
    clear hl
    go_simp
    exact hK' _ _ (hI.step bus36a 20 199 rfl (by rw [hsz]; decide) _ _ rfl hall HSX.out (fun _ _ h => h) ⟨N, m, l, rfl, hN, by rw [HLL.out]; exact hm, hsz2⟩)
  · obtain ⟨N, m, l, ea, hN, hm, hsz2⟩ : StrP  (c.tmps.getD 199 undef) wx := hI.fact 20 199 rfl (listed hall 20 (by kernel_rfl))
    simp only [Array.getD_eq_getD_getElem?] at ea
    have hc : wx.cell? ⟨N, m, none⟩ = some (.string (l[m]'hm)) := by rw [hN.cell m]; simp [hm]
    go_simp
    exact hK' _ _ (hI.step bus36a 21 200 rfl (by rw [hsz]; decide) _ _ rfl hall HSX.out (fun _ _ h => h) ⟨_, rfl, hsz2 _ (List.getElem_mem hm)⟩)
  · obtain ⟨v0, T0, ea, hr0, hs0, hl0⟩ : TreeV base n (c.tmps.getD 179 undef) wx := hI.fact 0 179 rfl (listed hall 0 (by kernel_rfl))
    simp only [Array.getD_eq_getD_getElem?] at ea
    obtain ⟨s, eb⟩ : StrA  (c.tmps.getD 182 undef) wx := hI.fact 3 182 rfl (listed hall 3 (by kernel_rfl))
    simp only [Array.getD_eq_getD_getElem?] at eb
    obtain ⟨nm, ec, hnm⟩ : StrV 100 (c.tmps.getD 187 undef) wx := hI.fact 8 187 rfl (listed hall 8 (by kernel_rfl))
    simp only [Array.getD_eq_getD_getElem?] at ec
    obtain ⟨vl, ed, hvl⟩ : StrV 100 (c.tmps.getD 200 undef) wx := hI.fact 21 200 rfl (listed hall 21 (by kernel_rfl))
    simp only [Array.getD_eq_getD_getElem?] at ed
    have HL0 := Lib.hid hl0
    clear hl0
    go_simp
    refine (grow_with base v0 T0 s nm vl wx hr0 hbx (by omega) (by omega)).mono ?_
    rintro e w2 ⟨v2, rfl, hr2, hb2⟩
    go_simp
    have k2 := Keeps.of_fresh hb2 (fun i => i = b)
    have ht2 := hT.new hb2
    have hS2 := BusS.call HSX.out hZb k2 ht2
    exact hK' _ _ (hI.step bus36a 22 201 rfl (by rw [hsz]; decide) _ _ rfl hall hS2 (fun j u h => F36.stable j u _ _ hT ⟨_, hZ⟩ (k2.mono (fun _ _ e => Or.inl e)) h) ⟨_, _, rfl, hr2, shape_with hs0 _ _ _, (len_with hs0 _ _ _).trans HL0.out⟩)
  · obtain ⟨v0, T0, ea, hr0, hs0, hl0⟩ : TreeV base n (c.tmps.getD 201 undef) wx := hI.fact 22 201 rfl (listed hall 22 (by kernel_rfl))
    simp only [Array.getD_eq_getD_getElem?] at ea
    obtain ⟨a2, c2, rfl⟩ := hr0.slice
    have HL0 := Lib.hid hl0
    clear hl0
    go_simp
    have k2 : Keeps (fun i => i = b ∨ i = Z) wx (wx.setCell ⟨Z, 0, none⟩ (.slice a2 T0.length c2)) := (Keeps.refl _ wx).setCell (p := ⟨Z, 0, none⟩) (Or.inr (Or.inr rfl)) _
    have hS2 := BusS.store HSX.out hZb hZB hr0 hs0 HL0.out
    exact hK' _ _ (hI.stepN 23 rfl _ rfl hall hS2 (fun j u h => F36.stable j u _ _ hT ⟨_, hZ⟩ k2 h) trivial)
end Go.Proofs.Ythkoaakicdhnpaa

namespace Go.Proofs.Ythkoaakicdhnpaa
open Go.RowKit

set_option maxHeartbeats 4000000 in
set_option maxRecDepth 100000 in
theorem bus_if158 {Q : Exit → Act → World → Prop} (B b base Z N gA gS : Nat) (w1 w : World) (hZ1b : Z ≠ b) (hbs : base ≤ w1.heap.size) (hZB : B ≤ Z) (_hl2 : N ≤ 1000) (_hgA : w1.heap.size ≤ gA) (_hgS : w1.heap.size ≤ gS) (_hBA : B ≤ gA) (_hBS : B ≤ gS) (s t : ByteArray) (ht : t.size ≤ 200) (zb : Bool) {u1 u2 u3 u4 u6 u9 u11 u13 u14 u15 u16 u17 u18 u19 u20 u21 u22 u23 u24 u25 u26 u27 u28 u29 u30 u31 u32 u33 u34 u35 u36 u37 u38 u39 u40 u41 u42 u43 u44 u45 u46 u47 u48 u49 u50 u51 u52 u53 u54 u55 u56 u57 u58 u59 u60 u61 u62 u63 u64 u65 u66 u67 u68 u69 u70 u71 u72 u73 u74 u75 u76 u77 u78 u79 u80 u81 u82 u83 u84 u85 u86 u87 u88 u89 u90 u91 u92 u93 u94 u95 u96 u97 u98 u99 u100 u101 u102 u103 u104 u105 u106 u107 u108 u109 u110 u111 u112 u113 u114 u115 u116 u117 u118 u119 u120 u121 u122 u123 u124 u125 u126 u127 u128 u129 u130 u131 u132 u133 u134 u135 u136 u137 u138 u139 u140 u141 u142 u143 u144 u145 u146 u147 u148 u149 u150 u151 u152 u153 u154 u155 u156 u157 u159 u160 u161 u162 u163 u164 u165 u166 u167 u168 u169 u170 u171 u172 u173 u174 u175 u176 u177 u178 u179 u180 u181 u182 u183 u184 u185 u186 u187 u188 u189 u190 u191 u192 u193 u194 u195 u196 u197 u198 u199 u200 u201 u202 : Value}
    (hB : Hid (BusS B b base Z N gA gS w1 w)) (hQ : Hid (∀ (x158 x159 x160 x161 x162 : Value) (wx : World), BusS B b base Z N gA gS w1 wx → Q .normal ⟨#[.pointer (some ⟨b, 0, none⟩), u1, u2, u3, u4, .pointer (some ⟨Z, 0, none⟩), u6, .slice (some ⟨gA, 0, none⟩) N N, .slice (some ⟨gS, 0, none⟩) N N, u9, .string s, u11, .string t, u13, u14, u15, u16, u17, u18, u19, u20, u21, u22, u23, u24, u25, u26, u27, u28, u29, u30, u31, u32, u33, u34, u35, u36, u37, u38, u39, u40, u41, u42, u43, u44, u45, u46, u47, u48, u49, u50, u51, u52, u53, u54, u55, u56, u57, u58, u59, u60, u61, u62, u63, u64, u65, u66, u67, u68, u69, u70, u71, u72, u73, u74, u75, u76, u77, u78, u79, u80, u81, u82, u83, u84, u85, u86, u87, u88, u89, u90, u91, u92, u93, u94, u95, u96, u97, u98, u99, u100, u101, u102, u103, u104, u105, u106, u107, u108, u109, u110, u111, u112, u113, u114, u115, u116, u117, u118, u119, u120, u121, u122, u123, u124, u125, u126, u127, u128, u129, u130, u131, u132, u133, u134, u135, u136, u137, u138, u139, u140, u141, u142, u143, u144, u145, u146, u147, u148, u149, u150, u151, u152, u153, u154, u155, u156, u157, x158, x159, x160, x161, x162, u163, u164, u165, u166, u167, u168, u169, u170, u171, u172, u173, u174, u175, u176, u177, u178, u179, u180, u181, u182, u183, u184, u185, u186, u187, u188, u189, u190, u191, u192, u193, u194, u195, u196, u197, u198, u199, u200, u201, u202], []⟩ wx)) :
    (busIf 158).wp Try.prog Q ⟨#[.pointer (some ⟨b, 0, none⟩), u1, u2, u3, u4, .pointer (some ⟨Z, 0, none⟩), u6, .slice (some ⟨gA, 0, none⟩) N N, .slice (some ⟨gS, 0, none⟩) N N, u9, .string s, u11, .string t, u13, u14, u15, u16, u17, u18, u19, u20, u21, u22, u23, u24, u25, u26, u27, u28, u29, u30, u31, u32, u33, u34, u35, u36, u37, u38, u39, u40, u41, u42, u43, u44, u45, u46, u47, u48, u49, u50, u51, u52, u53, u54, u55, u56, u57, u58, u59, u60, u61, u62, u63, u64, u65, u66, u67, u68, u69, u70, u71, u72, u73, u74, u75, u76, u77, u78, u79, u80, u81, u82, u83, u84, u85, u86, u87, u88, u89, u90, u91, u92, u93, u94, u95, u96, u97, u98, u99, u100, u101, u102, u103, u104, u105, u106, u107, u108, u109, u110, u111, u112, u113, u114, u115, u116, u117, u118, u119, u120, u121, u122, u123, u124, u125, u126, u127, u128, u129, u130, u131, u132, u133, u134, u135, u136, u137, u138, u139, u140, u141, u142, u143, u144, u145, u146, u147, u148, u149, u150, u151, u152, u153, u154, u155, u156, u157, .bool zb, u159, u160, u161, u162, u163, u164, u165, u166, u167, u168, u169, u170, u171, u172, u173, u174, u175, u176, u177, u178, u179, u180, u181, u182, u183, u184, u185, u186, u187, u188, u189, u190, u191, u192, u193, u194, u195, u196, u197, u198, u199, u200, u201, u202], []⟩ w := by
  simp only [busIf, ifOf, Try.f5, Option.getD_some, reduceIte, Nat.reduceEqDiff]
  cases zb
  · go_wp2_with fail
    exact hQ.out _ _ _ _ _ _ hB.out
  · obtain ⟨qa, qc, T, hZ, hr, hs, hTN⟩ := hB.out.var
    have hX := hZ.cell 0
    have hXf := hZ.free 0
    have hbx : base ≤ w.heap.size := Nat.le_trans hbs hB.out.2.2.2.2.size
    have hT := hB.out.1
    clear hZ
    go_wp2_with fail
    refine (grow_with base _ T s _ t _ hr hbx (by decide) (by omega)).mono ?_
    rintro e w13 ⟨v2, rfl, hr2, hb2⟩
    have hBn := hB.out.new hZ1b hb2
    have hs2 := shape_with hs s ⟨#[114, 101, 103]⟩ t
    have hl2' := (len_with hs s ⟨#[114, 101, 103]⟩ t).trans hTN.out
    obtain ⟨qa2, qc2, hv2⟩ := hr2.slice
    rw [hl2'] at hv2
    subst hv2
    obtain ⟨_, _, _, hZn, -, -, -⟩ := hBn.var
    have y0 := hZn.cell 0
    have yf := hZn.free 0
    have HBn := Lib.hid (hBn.store hZ1b hZB hr2 hs2 hl2')
    clear hBn hs2 hl2' hr2 hZn hr hs hTN hX hXf hb2 hT
    go_wp2_with fail
    exact hQ.out _ _ _ _ _ _ HBn.out

set_option maxHeartbeats 4000000 in
set_option maxRecDepth 100000 in
theorem bus_if165 {Q : Exit → Act → World → Prop} (B b base Z N gA gS : Nat) (w1 w : World) (hZ1b : Z ≠ b) (hbs : base ≤ w1.heap.size) (hZB : B ≤ Z) (_hl2 : N ≤ 1000) (_hgA : w1.heap.size ≤ gA) (_hgS : w1.heap.size ≤ gS) (_hBA : B ≤ gA) (_hBS : B ≤ gS) (s t : ByteArray) (ht : t.size ≤ 200) (q : Int) {u1 u2 u3 u4 u6 u9 u11 u12 u14 u15 u16 u17 u18 u19 u20 u21 u22 u23 u24 u25 u26 u27 u28 u29 u30 u31 u32 u33 u34 u35 u36 u37 u38 u39 u40 u41 u42 u43 u44 u45 u46 u47 u48 u49 u50 u51 u52 u53 u54 u55 u56 u57 u58 u59 u60 u61 u62 u63 u64 u65 u66 u67 u68 u69 u70 u71 u72 u73 u74 u75 u76 u77 u78 u79 u80 u81 u82 u83 u84 u85 u86 u87 u88 u89 u90 u91 u92 u93 u94 u95 u96 u97 u98 u99 u100 u101 u102 u103 u104 u105 u106 u107 u108 u109 u110 u111 u112 u113 u114 u115 u116 u117 u118 u119 u120 u121 u122 u123 u124 u125 u126 u127 u128 u129 u130 u131 u132 u133 u134 u135 u136 u137 u138 u139 u140 u141 u142 u143 u144 u145 u146 u147 u148 u149 u150 u151 u152 u153 u154 u155 u156 u157 u158 u159 u160 u161 u162 u163 u166 u167 u168 u169 u170 u171 u172 u173 u174 u175 u176 u177 u178 u179 u180 u181 u182 u183 u184 u185 u186 u187 u188 u189 u190 u191 u192 u193 u194 u195 u196 u197 u198 u199 u200 u201 u202 : Value}
    (hB : Hid (BusS B b base Z N gA gS w1 w)) (hQ : Hid (∀ (x165 x166 x167 x168 x169 : Value) (wx : World), BusS B b base Z N gA gS w1 wx → Q .normal ⟨#[.pointer (some ⟨b, 0, none⟩), u1, u2, u3, u4, .pointer (some ⟨Z, 0, none⟩), u6, .slice (some ⟨gA, 0, none⟩) N N, .slice (some ⟨gS, 0, none⟩) N N, u9, .string s, u11, u12, .string t, u14, u15, u16, u17, u18, u19, u20, u21, u22, u23, u24, u25, u26, u27, u28, u29, u30, u31, u32, u33, u34, u35, u36, u37, u38, u39, u40, u41, u42, u43, u44, u45, u46, u47, u48, u49, u50, u51, u52, u53, u54, u55, u56, u57, u58, u59, u60, u61, u62, u63, u64, u65, u66, u67, u68, u69, u70, u71, u72, u73, u74, u75, u76, u77, u78, u79, u80, u81, u82, u83, u84, u85, u86, u87, u88, u89, u90, u91, u92, u93, u94, u95, u96, u97, u98, u99, u100, u101, u102, u103, u104, u105, u106, u107, u108, u109, u110, u111, u112, u113, u114, u115, u116, u117, u118, u119, u120, u121, u122, u123, u124, u125, u126, u127, u128, u129, u130, u131, u132, u133, u134, u135, u136, u137, u138, u139, u140, u141, u142, u143, u144, u145, u146, u147, u148, u149, u150, u151, u152, u153, u154, u155, u156, u157, u158, u159, u160, u161, u162, u163, .int .i64 q, x165, x166, x167, x168, x169, u170, u171, u172, u173, u174, u175, u176, u177, u178, u179, u180, u181, u182, u183, u184, u185, u186, u187, u188, u189, u190, u191, u192, u193, u194, u195, u196, u197, u198, u199, u200, u201, u202], []⟩ wx)) :
    (busIf 165).wp Try.prog Q ⟨#[.pointer (some ⟨b, 0, none⟩), u1, u2, u3, u4, .pointer (some ⟨Z, 0, none⟩), u6, .slice (some ⟨gA, 0, none⟩) N N, .slice (some ⟨gS, 0, none⟩) N N, u9, .string s, u11, u12, .string t, u14, u15, u16, u17, u18, u19, u20, u21, u22, u23, u24, u25, u26, u27, u28, u29, u30, u31, u32, u33, u34, u35, u36, u37, u38, u39, u40, u41, u42, u43, u44, u45, u46, u47, u48, u49, u50, u51, u52, u53, u54, u55, u56, u57, u58, u59, u60, u61, u62, u63, u64, u65, u66, u67, u68, u69, u70, u71, u72, u73, u74, u75, u76, u77, u78, u79, u80, u81, u82, u83, u84, u85, u86, u87, u88, u89, u90, u91, u92, u93, u94, u95, u96, u97, u98, u99, u100, u101, u102, u103, u104, u105, u106, u107, u108, u109, u110, u111, u112, u113, u114, u115, u116, u117, u118, u119, u120, u121, u122, u123, u124, u125, u126, u127, u128, u129, u130, u131, u132, u133, u134, u135, u136, u137, u138, u139, u140, u141, u142, u143, u144, u145, u146, u147, u148, u149, u150, u151, u152, u153, u154, u155, u156, u157, u158, u159, u160, u161, u162, u163, .int .i64 q, .bool (decide (q > 0)), u166, u167, u168, u169, u170, u171, u172, u173, u174, u175, u176, u177, u178, u179, u180, u181, u182, u183, u184, u185, u186, u187, u188, u189, u190, u191, u192, u193, u194, u195, u196, u197, u198, u199, u200, u201, u202], []⟩ w := by
  simp only [busIf, ifOf, Try.f5, Option.getD_some, reduceIte, Nat.reduceEqDiff]
  by_cases hz : 0 < q
  · obtain ⟨qa, qc, T, hZ, hr, hs, hTN⟩ := hB.out.var
    have hX := hZ.cell 0
    have hXf := hZ.free 0
    have hbx : base ≤ w.heap.size := Nat.le_trans hbs hB.out.2.2.2.2.size
    have hT := hB.out.1
    clear hZ
    go_wp2_with fail
    refine (grow_with base _ T s _ t _ hr hbx (by decide) (by omega)).mono ?_
    rintro e w13 ⟨v2, rfl, hr2, hb2⟩
    have hBn := hB.out.new hZ1b hb2
    have hs2 := shape_with hs s ⟨#[114, 97, 110, 103, 101, 115]⟩ t
    have hl2' := (len_with hs s ⟨#[114, 97, 110, 103, 101, 115]⟩ t).trans hTN.out
    obtain ⟨qa2, qc2, hv2⟩ := hr2.slice
    rw [hl2'] at hv2
    subst hv2
    obtain ⟨_, _, _, hZn, -, -, -⟩ := hBn.var
    have y0 := hZn.cell 0
    have yf := hZn.free 0
    have HBn := Lib.hid (hBn.store hZ1b hZB hr2 hs2 hl2')
    clear hBn hs2 hl2' hr2 hZn hr hs hTN hX hXf hb2 hT
    go_wp2_with fail
    exact hQ.out _ _ _ _ _ _ HBn.out
  · have hz' : ¬ q > 0 := by omega
    go_wp2_with fail
    exact hQ.out _ _ _ _ _ _ hB.out

set_option maxHeartbeats 4000000 in
set_option maxRecDepth 100000 in
theorem bus_if173 {Q : Exit → Act → World → Prop} (B b base Z N gA gS : Nat) (w1 w : World) (hZ1b : Z ≠ b) (hbs : base ≤ w1.heap.size) (hZB : B ≤ Z) (hl2 : N ≤ 1000) (_hgA : w1.heap.size ≤ gA) (_hgS : w1.heap.size ≤ gS) (_hBA : B ≤ gA) (_hBS : B ≤ gS) (q : Int) {u1 u2 u3 u4 u6 u9 u10 u11 u12 u13 u14 u15 u16 u17 u18 u19 u20 u21 u22 u23 u24 u25 u26 u27 u28 u29 u30 u31 u32 u33 u34 u35 u36 u37 u38 u39 u40 u41 u42 u43 u44 u45 u46 u47 u48 u49 u50 u51 u52 u53 u54 u55 u56 u57 u58 u59 u60 u61 u62 u63 u64 u65 u66 u67 u68 u69 u70 u71 u72 u73 u74 u75 u76 u77 u78 u79 u80 u81 u82 u83 u84 u85 u86 u87 u88 u89 u90 u91 u92 u93 u94 u95 u96 u97 u98 u99 u100 u101 u102 u103 u104 u105 u106 u107 u108 u109 u110 u111 u112 u113 u114 u115 u116 u117 u118 u119 u120 u121 u122 u123 u124 u125 u126 u127 u128 u129 u130 u131 u132 u133 u134 u135 u136 u137 u138 u139 u140 u141 u142 u143 u144 u145 u146 u147 u148 u149 u150 u151 u152 u153 u154 u155 u156 u157 u158 u159 u160 u161 u162 u163 u164 u165 u166 u167 u168 u169 u170 u171 u174 u175 u176 u177 u178 u179 u180 u181 u182 u183 u184 u185 u186 u187 u188 u189 u190 u191 u192 u193 u194 u195 u196 u197 u198 u199 u200 u201 u202 : Value}
    (hB : Hid (BusS B b base Z N gA gS w1 w)) (hQ : Hid (∀ (x16 x173 x174 x175 x176 x177 x178 x179 x180 x181 x182 x183 x184 x185 x186 x187 x188 x189 x190 x191 x192 x193 x194 x195 x196 x197 x198 x199 x200 x201 : Value) (wx : World), BusS B b base Z N gA gS w1 wx → Q .normal ⟨#[.pointer (some ⟨b, 0, none⟩), u1, u2, u3, u4, .pointer (some ⟨Z, 0, none⟩), u6, .slice (some ⟨gA, 0, none⟩) N N, .slice (some ⟨gS, 0, none⟩) N N, u9, u10, u11, u12, u13, u14, u15, x16, u17, u18, u19, u20, u21, u22, u23, u24, u25, u26, u27, u28, u29, u30, u31, u32, u33, u34, u35, u36, u37, u38, u39, u40, u41, u42, u43, u44, u45, u46, u47, u48, u49, u50, u51, u52, u53, u54, u55, u56, u57, u58, u59, u60, u61, u62, u63, u64, u65, u66, u67, u68, u69, u70, u71, u72, u73, u74, u75, u76, u77, u78, u79, u80, u81, u82, u83, u84, u85, u86, u87, u88, u89, u90, u91, u92, u93, u94, u95, u96, u97, u98, u99, u100, u101, u102, u103, u104, u105, u106, u107, u108, u109, u110, u111, u112, u113, u114, u115, u116, u117, u118, u119, u120, u121, u122, u123, u124, u125, u126, u127, u128, u129, u130, u131, u132, u133, u134, u135, u136, u137, u138, u139, u140, u141, u142, u143, u144, u145, u146, u147, u148, u149, u150, u151, u152, u153, u154, u155, u156, u157, u158, u159, u160, u161, u162, u163, u164, u165, u166, u167, u168, u169, u170, u171, .int .i64 q, x173, x174, x175, x176, x177, x178, x179, x180, x181, x182, x183, x184, x185, x186, x187, x188, x189, x190, x191, x192, x193, x194, x195, x196, x197, x198, x199, x200, x201, u202], []⟩ wx)) :
    (busIf 173).wp Try.prog Q ⟨#[.pointer (some ⟨b, 0, none⟩), u1, u2, u3, u4, .pointer (some ⟨Z, 0, none⟩), u6, .slice (some ⟨gA, 0, none⟩) N N, .slice (some ⟨gS, 0, none⟩) N N, u9, u10, u11, u12, u13, u14, u15, u16, u17, u18, u19, u20, u21, u22, u23, u24, u25, u26, u27, u28, u29, u30, u31, u32, u33, u34, u35, u36, u37, u38, u39, u40, u41, u42, u43, u44, u45, u46, u47, u48, u49, u50, u51, u52, u53, u54, u55, u56, u57, u58, u59, u60, u61, u62, u63, u64, u65, u66, u67, u68, u69, u70, u71, u72, u73, u74, u75, u76, u77, u78, u79, u80, u81, u82, u83, u84, u85, u86, u87, u88, u89, u90, u91, u92, u93, u94, u95, u96, u97, u98, u99, u100, u101, u102, u103, u104, u105, u106, u107, u108, u109, u110, u111, u112, u113, u114, u115, u116, u117, u118, u119, u120, u121, u122, u123, u124, u125, u126, u127, u128, u129, u130, u131, u132, u133, u134, u135, u136, u137, u138, u139, u140, u141, u142, u143, u144, u145, u146, u147, u148, u149, u150, u151, u152, u153, u154, u155, u156, u157, u158, u159, u160, u161, u162, u163, u164, u165, u166, u167, u168, u169, u170, u171, .int .i64 q, .bool (q == 11), u174, u175, u176, u177, u178, u179, u180, u181, u182, u183, u184, u185, u186, u187, u188, u189, u190, u191, u192, u193, u194, u195, u196, u197, u198, u199, u200, u201, u202], []⟩ w := by
  simp only [busIf, ifOf, Try.f5, Option.getD_some, reduceIte, Nat.reduceEqDiff]
  by_cases hz : q = 11
  · have hz' : (q == 11) = true := by simp [hz]
    clear hz
    obtain ⟨qa, qc, T, hZ, -, hs, hTN⟩ := hB.out.var
    have hX := hZ.cell 0
    have hN1 : 1 ≤ (N : Int) := by have := hs.1; rw [hTN.out] at this; omega
    have hT17 := hB.out.1
    clear hZ hs hTN
    go_wp2_with fail
    refine (mk_N B b N _ hT17 (by omega) (by omega)).mono ?_
    rintro e w18 ⟨z, rfl, hz0, hz1, hT18, hk18⟩
    have HB18 := Lib.hid (hB.out.call hZ1b hk18 hT18)
    clear hB hT17 hk18 hX
    go_wp2_with fail
    refine wp_region_any (by kernel_rfl) ?_
    refine wpAny_ops (ops' := busOps 36) (by kernel_rfl) ?_
    refine bus_region36 B b base Z N gA gS z w1 _ _ rfl hZ1b hbs hZB rfl rfl rfl (by exact HB18.out.drew hZ1b) ?_
    intro c w19 hsb hB19
    obtain ⟨y179, y180, y181, y182, y183, y184, y185, y186, y187, y188, y189, y190, y191, y192, y193, y194, y195, y196, y197, y198, y199, y200, y201, hc⟩ := hsb.ex [179, 180, 181, 182, 183, 184, 185, 186, 187, 188, 189, 190, 191, 192, 193, 194, 195, 196, 197, 198, 199, 200, 201] (by kernel_rfl)
    subst hc
    simp only [List.setIfInBounds_toArray, List.set_cons_zero, List.set_cons_succ]
    exact hQ.out _ _ _ _ _ _ _ _ _ _ _ _ _ _ _ _ _ _ _ _ _ _ _ _ _ _ _ _ _ _ _ hB19
  · have hz' : (q == 11) = false := by simpa using hz
    clear hz
    go_wp2_with fail
    exact hQ.out _ _ _ _ _ _ _ _ _ _ _ _ _ _ _ _ _ _ _ _ _ _ _ _ _ _ _ _ _ _ _ hB.out
end Go.Proofs.Ythkoaakicdhnpaa
