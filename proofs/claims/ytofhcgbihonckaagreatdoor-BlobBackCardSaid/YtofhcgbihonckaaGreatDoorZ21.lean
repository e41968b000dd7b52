/- Contracts of bringupgrow: with, wide; a tree of the call's own beside a tape. | Contracts of bringupgrow: Path. | Contracts of bringupgrow: Step. | Contracts of bringupgrow: Value: some string of at most 100 bytes. | Contracts of bringupgrow: region 9 of Tree (printed by gset.py). | Contracts of bringupgrow: Tree (loop 1 done; loop 2 not yet). -/
import Derived.Test.YtofhcgbihonckaaGreatDoorZ17
import Derived.Test.YtofhcgbihonckaaGreatDoorZ20
import Derived.Test.YtofhcgbihonckaaGreatDoorZ9
import Derived.Test.YtofhcgbihonckaaGreatDoorZ1
import Derived.Test.YtofhcgbihonckaaGreatDoorZ2
import Derived.Deep.DeepCutAuto
import Derived.Deep.CutBlock
import Derived.Test.YtofhcgbihonckaaGreatDoorZ3

set_option linter.unusedVariables false
set_option linter.unusedSimpArgs false
set_option linter.unusedSectionVars false

namespace Go.Proofs.YtofhcgbihonckaaGreatDoor
open Go.RowKit

theorem Tape.holds {B b : Nat} {w : World} (h : Tape B w b) : ∃ cs, Holds w b cs 61 := by
  obtain ⟨_, _, _, _, _, hH, _⟩ := h; exact ⟨_, hH⟩
theorem TreeRow.tape {B b base : Nat} {w w' : World} {v : Value} {T : List NodeT} (h : TreeRow w base v T) (ht : Tape B w b) (k : Keeps (· = b) w w') : TreeRow w' base v T := by
  obtain ⟨cs, hH⟩ := ht.holds
  exact h.other hH (by decide) (by decide) k
theorem Tape.new {B b : Nat} {w w' : World} (h : Tape B w b) (k : Below w.heap.size w w') : Tape B w' b := h.keeps (Keeps.of_fresh k (fun _ => False)) (fun _ e => e.elim)
def withT (T : List NodeT) (s name value : ByteArray) : List NodeT := if (setT T s name value).2 ≠ 0 then T else (setT T s name value).1
theorem TreeRow.slice {w : World} {base : Nat} {v : Value} {T : List NodeT} (h : TreeRow w base v T) : ∃ a c, v = .slice a T.length c := by
  obtain ⟨_, _, g2, _⟩ := h; exact row_slice g2

end Go.Proofs.YtofhcgbihonckaaGreatDoor

namespace Go.Proofs.YtofhcgbihonckaaGreatDoor
open Go.RowKit

def lPath : List ByteArray := [⟨#[]⟩, ⟨#[47, 113]⟩, ⟨#[47, 47]⟩, ⟨#[97]⟩, ⟨#[47, 97, 47]⟩]
set_option maxHeartbeats 4000000 in
set_option maxRecDepth 100000 in
theorem grow_Path (B b base : Nat) (v : Value) (T : List NodeT) (w : World) (h : Tape B w b) (hT : TreeRow w base v T) (h1 : 0 < T.length) (h2 : T.length ≤ 1000) :
    Calls Tryz.prog 30 #[.pointer (some ⟨b, 0, none⟩), .agg #[v]] w fun e w' => ∃ s, e = .returned (.string s) ∧ Tape B w' b ∧ Keeps (· = b) w w' := by
  obtain ⟨a, cap, rfl⟩ := hT.slice
  have hlt := h.lt
  have HT := Lib.hid hT; clear hT
  have hb0 : Below w.heap.size w (w.alloc (.cells #[.slice a T.length cap] 25)) := (Below.refl _ _).alloc (Nat.le_refl _) _
  have hX0 := Holds.new w #[.slice a T.length cap] 25
  go_enter Tryz.func30, Tryz.ntmps30
  go_wp2_with fail
  refine (mk_N B b 30 _ (h.new hb0) (by omega) (by omega)).mono ?_
  rintro e w1 ⟨r, rfl, r0, r1, hT1, hK1⟩
  have hX1 := hX0.keeps hK1 (by omega)
  have hR1 := (HT.out.new hb0).tape (h.new hb0) hK1
  have hK : Keeps (· = b) w w1 := (Keeps.of_fresh hb0 (fun i => i = b)).trans hK1 (fun _ _ e => e)
  by_cases hr : r = 29
  · have hr' : (r == 29) = true := by simp [hr]
    clear hr
    go_wp2_with fail
    refine (mk_N B b 5 _ (hT1.new ((Below.refl _ _).alloc (Nat.le_refl _) _)) (by omega) (by omega)).mono ?_
    rintro e w2 ⟨q, rfl, q0, q1, hT2, hK2⟩
    obtain ⟨q, rfl⟩ := Int.eq_ofNat_of_zero_le q0
    have hlt1 := hT1.lt
    have hH := (Holds.new w1 (lPath.map Value.string).toArray 9).keeps hK2 (by omega)
    obtain ⟨s, hs1, _⟩ := pick_one lPath q (by have : lPath.length = 5 := rfl; omega)
    have hc : w2.cell? ⟨w1.heap.size, q, none⟩ = some (.string s) := (hH.cell q).trans (by simp [hs1])
    have hKf : Keeps (fun i => i = b) w w2 := (hK.alloc _).trans hK2 (fun _ _ e => e)
    go_wp2_with fail
    go_ret
    exact ⟨s, rfl, hT2, hKf⟩
  · have hr' : (r == 29) = false := by simpa using hr
    clear hr
    have x0 := hX1.cell 0
    have xl := hX1.lt
    have hxb : w.heap.size ≠ b := by omega
    have hT1d : Tape B w1.drew b := hT1.keeps ((Keeps.refl (fun _ => False) w1).drew) (fun _ e => e.elim)
    have hpth := Lib.hid (fun (wx : World) (node : Int) (hx : NodesIn (fun g => base ≤ g) wx (.slice a T.length cap) T) => ref3_Path (fun g => base ≤ g) (.slice a T.length cap) T node wx hx)
    have HR1 := Lib.hid hR1
    clear hR1
    go_wp2_with fail
    go_region_with (first
      | (go_at_call 16; refine (mk_N B b T.length _ (by exact hT1d) (by omega) (by omega)).mono ?_; rintro e w2 ⟨q, rfl, q0, q1, hT2, hK2⟩; have hK2' : Keeps (· = b) w1 w2 := ((Keeps.refl (fun i => i = b) w1).drew).trans hK2 (fun _ _ e => e); have hX2 := hX1.keeps hK2' hxb; have k0 := hX2.cell 0; have kl := hX2.lt; have hR2 := HR1.out.tape hT1 hK2')
      | (go_at_call 26; refine (hpth.out _ q (by exact hR2.in)).mono ?_; rintro e w3 ⟨rfl, hb3⟩; have hT3 := hT2.new hb3; have hKf := (hK.trans hK2' (fun _ _ e => e)).trans (Keeps.of_fresh hb3 (fun i => i = b)) (fun _ _ e => e)))
    all_goals
      go_wp2_with fail
      go_ret
      exact ⟨_, rfl, hT3, hKf⟩
end Go.Proofs.YtofhcgbihonckaaGreatDoor

namespace Go.Proofs.YtofhcgbihonckaaGreatDoor
open Go.RowKit

/-- What a step adds: nothing, or a node. -/
def Stepped (T T' : List NodeT) (er : Int) : Prop := er = 0 → ∃ s nm, (addT T s nm).2 = 0 ∧ T' = (addT T s nm).1
def StF (b base : Nat) (v : Value) (T : List NodeT) (sv : Value) (er : Int) (T' : List NodeT) (N : Nat) (j : Nat) (u : Value) (w : World) : Prop :=
  if j = 0 ∨ j = 2 then u = .agg #[v]
  else if j = 1 ∨ j = 4 then u = .pointer (some ⟨b, 0, none⟩)
  else if j = 3 then ∃ s, u = .string s
  else if j = 5 then ∃ s, u = .string s ∧ s ∈ lName
  else if j = 6 ∨ j = 7 then u = .tuple #[.agg #[sv], .int .i64 er] ∧ TreeRow w base sv T' ∧ Stepped T T' er
  else if j = 8 then u = .agg #[sv]
  else if j = 10 then u = .pointer (some ⟨N, 0, none⟩) ∧ N ≠ b ∧ ∃ x, Holds w N #[x] 25
  else if j = 11 then Holds w N #[sv] 25
  else u = .int .i64 er
def StS (B b base : Nat) (v : Value) (T : List NodeT) (X : Nat) (W w : World) : Prop := Tape B w b ∧ TreeRow w base v T ∧ Holds w X #[v] 25 ∧ Holds w (X + 1) #[.slice none 0 0] 25 ∧ Keeps (· = b) W w
theorem StF.keeps {B b base : Nat} {v : Value} {T : List NodeT} {sv : Value} {er : Int} {T' : List NodeT} {N j : Nat} {u : Value} {w w' : World} (h : StF b base v T sv er T' N j u w) (hT : Tape B w b) (k : Keeps (· = b) w w') (hN : N ≠ b) : StF b base v T sv er T' N j u w' := by
  unfold StF at *
  split at h
  · rename_i hc; rw [if_pos hc]; exact h
  · rename_i h1; rw [if_neg h1]
    split at h
    · rename_i hc; rw [if_pos hc]; exact h
    · rename_i h2; rw [if_neg h2]
      split at h
      · rename_i hc; rw [if_pos hc]; exact h
      · rename_i h3; rw [if_neg h3]
        split at h
        · rename_i hc; rw [if_pos hc]; exact h
        · rename_i h4; rw [if_neg h4]
          split at h
          · rename_i hc; rw [if_pos hc]; exact ⟨h.1, h.2.1.tape hT k, h.2.2⟩
          · rename_i h5; rw [if_neg h5]
            split at h
            · rename_i hc; rw [if_pos hc]; exact h
            · rename_i h6; rw [if_neg h6]
              split at h
              · rename_i hc; rw [if_pos hc]
                obtain ⟨e, e2, x, hH⟩ := h
                exact ⟨e, e2, x, hH.keeps k e2⟩
              · rename_i h7; rw [if_neg h7]
                split at h
                · rename_i hc; rw [if_pos hc]; exact Holds.keeps h k hN
                · rename_i h8; rw [if_neg h8]; exact h

theorem StS.keeps {B b base : Nat} {v : Value} {T : List NodeT} {X : Nat} {W w w' : World} (h : StS B b base v T X W w) (h1 : X ≠ b) (h2 : X + 1 ≠ b) (k : Keeps (· = b) w w') : Tape B w' b → StS B b base v T X W w' := fun ht =>
  ⟨ht, h.2.1.tape h.1 k, h.2.2.1.keeps k h1, h.2.2.2.1.keeps k h2, h.2.2.2.2.trans k (fun _ _ e => e)⟩
theorem lName_sz : ∀ s ∈ lName, s.size ≤ 20 := by decide
theorem StF.ghost {b base : Nat} {v : Value} {T : List NodeT} {sv : Value} {er : Int} {T' : List NodeT} {N j : Nat} {u : Value} {w : World} {sv2 : Value} {er2 : Int} {T2 : List NodeT} (h : StF b base v T sv er T' N j u w) (hj : j < 6 ∨ j = 10) : StF b base v T sv2 er2 T2 N j u w := by
  rcases (show j = 0 ∨ j = 1 ∨ j = 2 ∨ j = 3 ∨ j = 4 ∨ j = 5 ∨ j = 10 from by omega) with rfl | rfl | rfl | rfl | rfl | rfl | rfl <;> exact h
theorem StF.ghostN {b base : Nat} {v : Value} {T : List NodeT} {sv : Value} {er : Int} {T' : List NodeT} {N j : Nat} {u : Value} {w : World} {N2 : Nat} (h : StF b base v T sv er T' N j u w) (hj : j < 13) (h1 : j ≠ 10) (h2 : j ≠ 11) : StF b base v T sv er T' N2 j u w := by
  rcases (show j = 0 ∨ j = 1 ∨ j = 2 ∨ j = 3 ∨ j = 4 ∨ j = 5 ∨ j = 6 ∨ j = 7 ∨ j = 8 ∨ j = 9 ∨ j = 12 from by omega) with rfl | rfl | rfl | rfl | rfl | rfl | rfl | rfl | rfl | rfl | rfl <;> exact h
theorem StF.store {b base : Nat} {v : Value} {T : List NodeT} {sv : Value} {er : Int} {T' : List NodeT} {N j : Nat} {u x : Value} {w : World} (h : StF b base v T sv er T' N j u w) (hH : Holds w N #[x] 25) : StF b base v T sv er T' N j u (w.setCell ⟨N, 0, none⟩ sv) := by
  unfold StF at *
  split at h
  · rename_i hc; rw [if_pos hc]; exact h
  · rename_i h1; rw [if_neg h1]
    split at h
    · rename_i hc; rw [if_pos hc]; exact h
    · rename_i h2; rw [if_neg h2]
      split at h
      · rename_i hc; rw [if_pos hc]; exact h
      · rename_i h3; rw [if_neg h3]
        split at h
        · rename_i hc; rw [if_pos hc]; exact h
        · rename_i h4; rw [if_neg h4]
          split at h
          · rename_i hc; rw [if_pos hc]; exact ⟨h.1, h.2.1.set hH (by decide) (by decide) 0 sv, h.2.2⟩
          · rename_i h5; rw [if_neg h5]
            split at h
            · rename_i hc; rw [if_pos hc]; exact h
            · rename_i h6; rw [if_neg h6]
              split at h
              · rename_i hc; rw [if_pos hc]
                exact ⟨h.1, h.2.1, _, hH.set 0 sv⟩
              · rename_i h7; rw [if_neg h7]
                split at h
                · rename_i hc; rw [if_pos hc]; exact hH.set 0 sv
                · rename_i h8; rw [if_neg h8]; exact h
theorem StS.store {B b base : Nat} {v : Value} {T : List NodeT} {X N : Nat} {x sv : Value} {W w : World} (h : StS B b base v T X W w) (hH : Holds w N #[x] 25) (h1 : X + 2 ≤ N) (hX : X = W.heap.size) (hb : b < X) (hB : B ≤ X) : StS B b base v T X W (w.setCell ⟨N, 0, none⟩ sv) := by
  have k : Keeps (· = N) w (w.setCell ⟨N, 0, none⟩ sv) := (Keeps.refl (· = N) w).setCell (p := ⟨N, 0, none⟩) (Or.inr rfl) sv
  refine ⟨h.1.keeps k (fun i e => by subst e; omega), h.2.1.set hH (by decide) (by decide) 0 sv, h.2.2.1.keeps k (by omega), h.2.2.2.1.keeps k (by omega), h.2.2.2.2.trans k (fun i hi e => by omega)⟩
theorem StS.fin {B b base : Nat} {v : Value} {T : List NodeT} {X : Nat} {W w : World} (h : StS B b base v T X W w) (hX : X = W.heap.size) (hb : b < X) (hB : B ≤ X) (y : Value) :
    Tape B (w.setCell ⟨X + 1, 0, none⟩ y) b ∧ Keeps (· = b) W (w.setCell ⟨X + 1, 0, none⟩ y) ∧ Holds (w.setCell ⟨X + 1, 0, none⟩ y) (X + 1) #[y] 25 ∧ ∀ v' T', TreeRow w base v' T' → TreeRow (w.setCell ⟨X + 1, 0, none⟩ y) base v' T' := by
  have k : Keeps (· = X + 1) w (w.setCell ⟨X + 1, 0, none⟩ y) := (Keeps.refl (· = X + 1) w).setCell (p := ⟨X + 1, 0, none⟩) (Or.inr rfl) y
  exact ⟨h.1.keeps k (fun i e => by subst e; omega), h.2.2.2.2.trans k (fun i hi e => by omega), h.2.2.2.1.set 0 y, fun v' T' hr => hr.set h.2.2.2.1 (by decide) (by decide) 0 y⟩
set_option maxHeartbeats 4000000 in
set_option maxRecDepth 100000 in
theorem grow_Step (B b base : Nat) (v : Value) (T : List NodeT) (w : World) (h : Tape B w b) (hT : TreeRow w base v T) (h1 : 0 < T.length) (h2 : T.length ≤ 1000) (hbase : base ≤ w.heap.size) :
    Calls Tryz.prog 29 #[.pointer (some ⟨b, 0, none⟩), .agg #[v]] w fun e w' => ∃ v' T', e = .returned (.agg #[v']) ∧ TreeRow w' base v' T' ∧ (T' = T ∨ Stepped T T' 0) ∧ Tape B w' b ∧ Keeps (· = b) w w' := by
  obtain ⟨a, cap, rfl⟩ := hT.slice
  have hlt := h.lt
  have hBw : B ≤ w.heap.size := Nat.le_trans h.1 (Nat.le_of_lt hlt)
  have hb0 : Below w.heap.size w ((w.alloc (.cells #[.slice a T.length cap] 25)).alloc (.cells #[.slice none 0 0] 25)) := ((Below.refl _ _).alloc (Nat.le_refl _) _).alloc (by simp) _
  have hX0 := (Holds.new w #[.slice a T.length cap] 25).alloc (.cells #[.slice none 0 0] 25)
  have hZ0 := Holds.newAt (w := w.alloc (.cells #[.slice a T.length cap] 25)) (B := w.heap.size + 1) (by simp) #[.slice none 0 0] 25
  have hR0 := hT.new hb0
  have hT0 := h.new hb0
  have hXb : w.heap.size ≠ b := by omega
  have hXb1 : w.heap.size + 1 ≠ b := by omega
  have HR := Lib.hid hR0
  clear hT hR0
  go_enter Tryz.func29, Tryz.ntmps29
  go_wp2_with fail
  have hS0 : StS B b base (.slice a T.length cap) T w.heap.size w ((w.alloc (.cells #[.slice a T.length cap] 25)).alloc (.cells #[.slice none 0 0] 25)).drew :=
    ⟨hT0.keeps ((Keeps.refl (fun _ => False) _).drew) (fun _ e => e.elim), HR.out, hX0, hZ0, (Keeps.of_fresh hb0 (fun i => i = b)).drew⟩
  generalize (w.alloc (.cells #[.slice a T.length cap] 25)).alloc (.cells #[.slice none 0 0] 25) = W0 at *
  refine wp_region_any (by kernel_rfl) ?_
  refine wpAny_inv2 (fun l c wx => ∃ sv er T' N, RInv _ _ (StF b base (.slice a T.length cap) T sv er T' N) (StS B b base (.slice a T.length cap) T w.heap.size w) l c wx ∧ w.heap.size + 2 ≤ N) (by kernel_rfl) ?hend ?hstep _ _ _ _ (by rfl) (by decide) ⟨.slice none 0 0, 0, [], w.heap.size + 2, RInv.start hS0, by omega⟩
  case hstep =>
    intro l c wx hI i o ho hl hall K' hK'
    obtain ⟨sv, er, T', N, hI, hNq⟩ := hI
    have hNb : N ≠ b := by omega
    have hi13 : i < 13 := (Array.getElem?_eq_some_iff.1 ho).1
    have hSx := hI.2.1
    have HSX := Lib.hid hSx
    have hX := hSx.2.2.1.cell 0
    have hXl := hSx.2.2.1.lt
    have hic : i = 0 ∨ i = 1 ∨ i = 2 ∨ i = 3 ∨ i = 4 ∨ i = 5 ∨ i = 6 ∨ i = 7 ∨ i = 8 ∨ i = 9 ∨ i = 10 ∨ i = 11 ∨ i = 12 := by omega
    clear hSx
    rcases hic with rfl | rfl | rfl | rfl | rfl | rfl | rfl | rfl | rfl | rfl | rfl | rfl | rfl
    all_goals cases ho
    all_goals have s3 := hI.slot 3 (by kernel_rfl)
    all_goals have s0 := hI.slot 0 (by kernel_rfl)
    all_goals simp only [Array.getD_eq_getD_getElem?] at s3 s0
    · go_simp
      exact hK' _ _ ⟨sv, er, T', N, hI.step (by kernel_rfl) 0 8 rfl (Nat.le_of_ble_eq_true (by kernel_rfl)) _ _ rfl hall HSX.out (fun _ _ h => h) rfl, hNq⟩
    · go_simp
      exact hK' _ _ ⟨sv, er, T', N, hI.step (by kernel_rfl) 1 9 rfl (Nat.le_of_ble_eq_true (by kernel_rfl)) _ _ rfl hall HSX.out (fun _ _ h => h) rfl, hNq⟩
    · go_simp
      exact hK' _ _ ⟨sv, er, T', N, hI.step (by kernel_rfl) 2 10 rfl (Nat.le_of_ble_eq_true (by kernel_rfl)) _ _ rfl hall HSX.out (fun _ _ h => h) rfl, hNq⟩
    · have e1 : c.tmps.getD 9 undef = .pointer (some ⟨b, 0, none⟩) := hI.fact 1 9 rfl (listed hall 1 (by kernel_rfl))
      simp only [Array.getD_eq_getD_getElem?] at e1
      have e2 : c.tmps.getD 10 undef = .agg #[.slice a T.length cap] := hI.fact 2 10 rfl (listed hall 2 (by kernel_rfl))
      simp only [Array.getD_eq_getD_getElem?] at e2
      go_simp
      refine (grow_Path B b base _ T wx HSX.out.1 HSX.out.2.1 h1 h2).mono ?_
      rintro e w2 ⟨s, rfl, ht2, k2⟩
      go_simp
      have hS2 := StS.keeps HSX.out hXb hXb1 k2 ht2
      exact hK' _ _ ⟨sv, er, T', N, hI.step (by kernel_rfl) 3 11 rfl (Nat.le_of_ble_eq_true (by kernel_rfl)) _ _ rfl hall hS2 (fun _ _ h => StF.keeps h HSX.out.1 k2 hNb) ⟨s, rfl⟩, hNq⟩
    · go_simp
      exact hK' _ _ ⟨sv, er, T', N, hI.step (by kernel_rfl) 4 12 rfl (Nat.le_of_ble_eq_true (by kernel_rfl)) _ _ rfl hall HSX.out (fun _ _ h => h) rfl, hNq⟩
    · have e4 : c.tmps.getD 12 undef = .pointer (some ⟨b, 0, none⟩) := hI.fact 4 12 rfl (listed hall 4 (by kernel_rfl))
      simp only [Array.getD_eq_getD_getElem?] at e4
      go_simp
      refine (mk_Name B b wx HSX.out.1).mono ?_
      rintro e w2 ⟨s, rfl, hs, ht2, k2⟩
      go_simp
      have hS2 := StS.keeps HSX.out hXb hXb1 k2 ht2
      exact hK' _ _ ⟨sv, er, T', N, hI.step (by kernel_rfl) 5 13 rfl (Nat.le_of_ble_eq_true (by kernel_rfl)) _ _ rfl hall hS2 (fun _ _ h => StF.keeps h HSX.out.1 k2 hNb) ⟨s, rfl, hs⟩, hNq⟩
    · have e0 : c.tmps.getD 8 undef = .agg #[.slice a T.length cap] := hI.fact 0 8 rfl (listed hall 0 (by kernel_rfl))
      simp only [Array.getD_eq_getD_getElem?] at e0
      obtain ⟨s, e3⟩ : ∃ s, c.tmps.getD 11 undef = .string s := hI.fact 3 11 rfl (listed hall 3 (by kernel_rfl))
      simp only [Array.getD_eq_getD_getElem?] at e3
      obtain ⟨nm, e5, hnm⟩ : ∃ s, c.tmps.getD 13 undef = .string s ∧ s ∈ lName := hI.fact 5 13 rfl (listed hall 5 (by kernel_rfl))
      simp only [Array.getD_eq_getD_getElem?] at e5
      have hnz : nm.size ≤ 9223372036854775807 := by have := lName_sz nm hnm; omega
      go_simp
      refine (ref3_Add _ _ T s nm wx HSX.out.2.1.in hnz).mono ?_
      rintro e w2 ⟨v2, rfl, hr2, hb2⟩
      go_simp
      have k2 := Keeps.of_fresh hb2 (fun i => i = b)
      have hS2 := StS.keeps HSX.out hXb hXb1 k2 (HSX.out.1.new hb2)
      have hr3 := hr2.base (Nat.le_trans hbase HSX.out.2.2.2.2.size)
      have hst : Stepped T (addT T s nm).1 (addT T s nm).2 := fun e => ⟨s, nm, e, rfl⟩
      have u7 := hI.2.2.1.2.unlisted hl (j := 7) (by kernel_rfl)
      have u8 := hI.2.2.1.2.unlisted u7 (j := 8) (by kernel_rfl)
      have u9 := hI.2.2.1.2.unlisted u7 (j := 9) (by kernel_rfl)
      have u11 := hI.2.2.1.2.unlisted u8 (j := 11) (by kernel_rfl)
      have u12 := hI.2.2.1.2.unlisted u9 (j := 12) (by kernel_rfl)
      have hJ := hI.other (F' := StF b base (.slice a T.length cap) T v2 (addT T s nm).2 (addT T s nm).1 N) (fun j hj u hF => hF.ghost (by
        have q1 : j < 13 := hI.lt hj
        have q2 := yes_no hj hl
        have q3 := yes_no hj u7
        have q4 := yes_no hj u8
        have q5 := yes_no hj u9
        have q6 := yes_no hj u11
        have q7 := yes_no hj u12
        omega))
      exact hK' _ _ ⟨v2, (addT T s nm).2, (addT T s nm).1, N, hJ.step (by kernel_rfl) 6 14 rfl (Nat.le_of_ble_eq_true (by kernel_rfl)) _ _ rfl hall hS2 (fun _ _ h => StF.keeps h HSX.out.1 k2 hNb) ⟨rfl, hr3, hst⟩, hNq⟩
    · obtain ⟨e6, hr6, hs6⟩ : c.tmps.getD 14 undef = .tuple #[.agg #[sv], .int .i64 er] ∧ TreeRow wx base sv T' ∧ Stepped T T' er := hI.fact 6 14 rfl (listed hall 6 (by kernel_rfl))
      simp only [Array.getD_eq_getD_getElem?] at e6
      go_simp
      exact hK' _ _ ⟨sv, er, T', N, hI.step (by kernel_rfl) 7 7 rfl (Nat.le_of_ble_eq_true (by kernel_rfl)) _ _ rfl hall HSX.out (fun _ _ h => h) ⟨rfl, hr6, hs6⟩, hNq⟩
    · obtain ⟨e7, hr7, hs7⟩ : c.tmps.getD 7 undef = .tuple #[.agg #[sv], .int .i64 er] ∧ TreeRow wx base sv T' ∧ Stepped T T' er := hI.fact 7 7 rfl (listed hall 7 (by kernel_rfl))
      simp only [Array.getD_eq_getD_getElem?] at e7
      go_simp
      exact hK' _ _ ⟨sv, er, T', N, hI.step (by kernel_rfl) 8 15 rfl (Nat.le_of_ble_eq_true (by kernel_rfl)) _ _ rfl hall HSX.out (fun _ _ h => h) rfl, hNq⟩
    · obtain ⟨e7, hr7, hs7⟩ : c.tmps.getD 7 undef = .tuple #[.agg #[sv], .int .i64 er] ∧ TreeRow wx base sv T' ∧ Stepped T T' er := hI.fact 7 7 rfl (listed hall 7 (by kernel_rfl))
      simp only [Array.getD_eq_getD_getElem?] at e7
      go_simp
      exact hK' _ _ ⟨sv, er, T', N, hI.step (by kernel_rfl) 9 16 rfl (Nat.le_of_ble_eq_true (by kernel_rfl)) _ _ rfl hall HSX.out (fun _ _ h => h) rfl, hNq⟩
    · go_simp
      have hb2 : Below wx.heap.size wx (wx.alloc (.cells #[.slice none 0 0] 25)) := (Below.refl _ _).alloc (Nat.le_refl _) _
      have k2 := Keeps.of_fresh hb2 (fun i => i = b)
      have hS2 := StS.keeps HSX.out hXb hXb1 k2 (HSX.out.1.new hb2)
      have u11 := hI.2.2.1.2.unlisted hl (j := 11) (by kernel_rfl)
      have hNn : wx.heap.size ≠ b := by have := HSX.out.1.lt; omega
      have hNm : w.heap.size + 2 ≤ wx.heap.size := HSX.out.2.2.2.1.lt
      have hJ := hI.other (F' := StF b base (.slice a T.length cap) T sv er T' wx.heap.size) (fun j hj u hF => hF.ghostN (hI.lt hj) (yes_no hj hl) (yes_no hj u11))
      exact hK' _ _ ⟨sv, er, T', wx.heap.size, hJ.step (by kernel_rfl) 10 5 rfl (Nat.le_of_ble_eq_true (by kernel_rfl)) _ _ rfl hall hS2 (fun _ _ h => StF.keeps h HSX.out.1 k2 hNn) ⟨rfl, hNn, _, Holds.new _ _ _⟩, hNm⟩
    · obtain ⟨e10, _, x, hHN⟩ : c.tmps.getD 5 undef = .pointer (some ⟨N, 0, none⟩) ∧ N ≠ b ∧ ∃ x, Holds wx N #[x] 25 := hI.fact 10 5 rfl (listed hall 10 (by kernel_rfl))
      simp only [Array.getD_eq_getD_getElem?] at e10
      have e8 : c.tmps.getD 15 undef = .agg #[sv] := hI.fact 8 15 rfl (listed hall 8 (by kernel_rfl))
      simp only [Array.getD_eq_getD_getElem?] at e8
      obtain ⟨e7, hr7, hs7⟩ : c.tmps.getD 7 undef = .tuple #[.agg #[sv], .int .i64 er] ∧ TreeRow wx base sv T' ∧ Stepped T T' er := hI.fact 7 7 rfl (listed hall 7 (by kernel_rfl))
      obtain ⟨a2, c2, rfl⟩ := hr7.slice
      have n0 : wx.cell? ⟨N, 0, none⟩ = some x := hHN.cell 0
      have n1 : wx.frozen? ⟨N, 0, none⟩ = false := hHN.free 0
      go_simp
      exact hK' _ _ ⟨.slice a2 T'.length c2, er, T', N, hI.stepN 11 rfl _ rfl hall (HSX.out.store hHN hNq rfl hlt hBw) (fun _ _ h => h.store hHN) (hHN.set 0 _), hNq⟩
    · have e9 : c.tmps.getD 16 undef = .int .i64 er := hI.fact 9 16 rfl (listed hall 9 (by kernel_rfl))
      simp only [Array.getD_eq_getD_getElem?] at e9
      go_simp
      exact hK' _ _ ⟨sv, er, T', N, hI.step (by kernel_rfl) 12 6 rfl (Nat.le_of_ble_eq_true (by kernel_rfl)) _ _ rfl hall HSX.out (fun _ _ h => h) rfl, hNq⟩
  case hend =>
    rintro l c wx ⟨sv, er, T', N, hI, hNb⟩ hl
    obtain ⟨e10, _, x, hHN⟩ : c.tmps.getD 5 undef = .pointer (some ⟨N, 0, none⟩) ∧ N ≠ b ∧ ∃ x, Holds wx N #[x] 25 := hI.fact 10 5 rfl (hl 10 (by decide))
    have hH : Holds wx N #[sv] 25 := hI.2.2.2 11 (by decide) (hl 11 (by decide))
    obtain ⟨e7, hr7, hs7⟩ : c.tmps.getD 7 undef = .tuple #[.agg #[sv], .int .i64 er] ∧ TreeRow wx base sv T' ∧ Stepped T T' er := hI.fact 7 7 rfl (hl 7 (by decide))
    have e12 : c.tmps.getD 6 undef = .int .i64 er := hI.fact 12 6 rfl (hl 12 (by decide))
    have s0 := hI.slot 0 (by kernel_rfl)
    have s1 := hI.slot 1 (by kernel_rfl)
    have s3 := hI.slot 3 (by kernel_rfl)
    have s4 := hI.slot 4 (by kernel_rfl)
    have hsz : c.tmps.size = 21 := hI.1.1
    have hdf := hI.1.2.1
    have hS := hI.2.1
    obtain ⟨a2, c2, rfl⟩ := hr7.slice
    have hX := hS.2.2.1.cell 0
    have hZ := hS.2.2.2.1.cell 0
    have hN0 := hH.cell 0
    obtain ⟨ct, cd⟩ := c
    have hfr : ct = #[ct.getD 0 undef, ct.getD 1 undef, ct.getD 2 undef, ct.getD 3 undef, ct.getD 4 undef, ct.getD 5 undef, ct.getD 6 undef, ct.getD 7 undef, ct.getD 8 undef, ct.getD 9 undef, ct.getD 10 undef, ct.getD 11 undef, ct.getD 12 undef, ct.getD 13 undef, ct.getD 14 undef, ct.getD 15 undef, ct.getD 16 undef, ct.getD 17 undef, ct.getD 18 undef, ct.getD 19 undef, ct.getD 20 undef] := frame_list ct 21 hsz
    simp only at s0 s1 s3 s4 e10 e12 hdf
    rw [s0, s1, s3, s4, e10, e12] at hfr
    clear e7 hsz s0 s1 s3 s4 e10 e12 hI
    generalize ct.getD 2 undef = u2 at hfr
    generalize ct.getD 7 undef = u7 at hfr
    generalize ct.getD 8 undef = u8 at hfr
    generalize ct.getD 9 undef = u9 at hfr
    generalize ct.getD 10 undef = u10 at hfr
    generalize ct.getD 11 undef = u11 at hfr
    generalize ct.getD 12 undef = u12 at hfr
    generalize ct.getD 13 undef = u13 at hfr
    generalize ct.getD 14 undef = u14 at hfr
    generalize ct.getD 15 undef = u15 at hfr
    generalize ct.getD 16 undef = u16 at hfr
    generalize ct.getD 17 undef = u17 at hfr
    generalize ct.getD 18 undef = u18 at hfr
    generalize ct.getD 19 undef = u19 at hfr
    generalize ct.getD 20 undef = u20 at hfr
    subst hfr
    have hZf := hS.2.2.2.1.free 0
    by_cases he : er = 0
    · have hne : (er != 0) = false := by simpa using he
      subst he
      obtain ⟨f1, f2, f3, f4⟩ := hS.fin rfl hlt hBw (.slice a2 T'.length c2)
      go_simp
      go_wp2_with fail
      have q0 := f3.cell 0
      exact bodyPost_ret (v := .agg #[.slice a2 T'.length c2]) (by simp [results, Tryz.results29, go_sem, q0]) rfl ⟨_, _, rfl, f4 _ _ hr7, Or.inr hs7, f1, f2⟩
    · have hne : (er != 0) = true := by simpa using he
      obtain ⟨f1, f2, f3, f4⟩ := hS.fin rfl hlt hBw (.slice a T.length cap)
      have hrT := hS.2.1
      go_simp
      go_wp2_with fail
      have q0 := f3.cell 0
      exact bodyPost_ret (v := .agg #[.slice a T.length cap]) (by simp [results, Tryz.results29, go_sem, q0]) rfl ⟨_, _, rfl, f4 _ _ hrT, Or.inl rfl, f1, f2⟩
end Go.Proofs.YtofhcgbihonckaaGreatDoor

namespace Go.Proofs.YtofhcgbihonckaaGreatDoor
open Go.RowKit

theorem row_tape {B b base : Nat} {w w' : World} {e : TypeId} {size : Nat} {v : Value} {n : Nat} {xs : List Value} (h : w.ownsRow base e size v n xs) (ht : Tape B w b) (hne : 61 ≠ e) (k : Keeps (· = b) w w') : w'.ownsRow base e size v n xs := by
  obtain ⟨cs, hH⟩ := ht.holds
  exact row_other h hH hne k
theorem owns_len2 {w : World} {base : Nat} {e : TypeId} {size : Nat} {a : Option Addr} {n c : Nat} {xs : List Value} (h : w.ownsRow base e size (.slice a n c) n xs) : n ≤ c ∧ c ≤ 9223372036854775807 := by
  rcases h.2 with ⟨e, rfl⟩ | ⟨g, cap, cur, e, _, _, h2, h3, _⟩
  · cases e; omega
  · cases e; unfold maxLen at h3; omega
theorem growT_len (l : List Int) : (⟨(growT l).toArray⟩ : ByteArray).size = 4 * l.length := by
  show (growT l).toArray.size = _
  simp only [List.size_toArray]
  induction l with
  | nil => rfl
  | cons x l ih =>
    show (bytes4 x ++ growT l).length = _
    rw [List.length_append, ih, show (bytes4 x).length = 4 from rfl, List.length_cons]; omega
theorem list_row {w : World} {base : Nat} {e : TypeId} {v : Value} {l : List Int} (h : w.ownsRow base e 1 v l.length (intCells l)) : ListAt w.heap.size w v l := by
  obtain ⟨a, c, rfl⟩ := row_slice h
  have hl := owns_len2 h
  refine ⟨a, c, rfl, hl.1, hl.2, fun h0 => ?_⟩
  obtain ⟨g, c', e, -, hg⟩ := h.form h0
  simp only [Value.slice.injEq] at e
  obtain ⟨rfl, -, rfl⟩ := e
  refine ⟨g, 0, rfl, hg, fun i hi => ?_⟩
  rw [Nat.zero_add, h.cellAt i (by omega)]
  simp [intCells, hi]
theorem u8_backV (v : Int) (h0 : 0 ≤ v) (h1 : v ≤ 255) : ((v.toNat.toUInt8).toNat : Int) = v := by simp [Nat.toUInt8]; omega
theorem byteCells_snocV (acc : List UInt8) (v : Int) (h0 : 0 ≤ v) (h1 : v ≤ 255) : Lib.byteCells acc ++ [.int .u8 v] = Lib.byteCells (acc ++ [v.toNat.toUInt8]) := by
  unfold Lib.byteCells; rw [List.map_append, List.map_singleton, u8_backV v h0 h1]
def ValPost (B b : Nat) (w : World) (e : Ending) (w' : World) : Prop := ∃ s : ByteArray, e = .returned (.string s) ∧ s.size ≤ 100 ∧ Tape B w' b ∧ Keeps (· = b) w w'
def lVals : List ByteArray := [⟨#[97, 0]⟩, ⟨#[111, 107, 97, 121, 0]⟩, ⟨#[102, 105, 114, 115, 116, 0, 115, 101, 99, 111, 110, 100, 0]⟩, ⟨#[119, 105, 116, 104, 32, 34, 113, 117, 111, 116, 101, 34, 32, 97, 110, 100, 32, 92, 0]⟩, ⟨#[116, 97, 98, 9, 0]⟩, ⟨#[97, 98, 0, 0]⟩]
theorem lVals_sz : ∀ s ∈ lVals, s.size ≤ 100 := by decide

set_option maxRecDepth 100000 in
set_option maxHeartbeats 4000000 in
theorem grow_Value (B b : Nat) (w : World) (h : Tape B w b) :
    Calls Tryz.prog 28 #[.pointer (some ⟨b, 0, none⟩)] w (ValPost B b w) := by
  have hlt := h.lt
  have hBw : B ≤ w.heap.size := Nat.le_trans h.1 (Nat.le_of_lt hlt)
  go_enter Tryz.func28, Tryz.ntmps28
  go_wp2_with fail
  refine (mk_N B b 7 _ h (by omega) (by omega)).mono ?_
  rintro e w1 ⟨r, rfl, r0, r1, hT1, hK1⟩
  have hs1 := hK1.size
  by_cases h0 : r = 0
  · have h0' : (r == 0) = true := by simp [h0]
    clear h0
    go_wp2_with fail
    go_ret
    exact ⟨_, rfl, by decide, hT1, hK1⟩
  · have h0' : (r == 0) = false := by simpa using h0
    have hr12 : (r = 1 ∨ r = 2) ∨ ¬ (r = 1 ∨ r = 2) := by omega
    clear h0
    rcases hr12 with h12 | h12
    · have hnum := Lib.hid (fun wx hx => mk_Number B b wx hx)
      rcases h12 with rfl | rfl
      all_goals
        go_wp2_with fail
        refine (mk_Range B b 1 3 _ hT1 (by omega) (by omega) (by omega)).mono ?_
        rintro e w2 ⟨q, rfl, q0, q1, hT2, hK2⟩
        have hKK := hK1.trans hK2 (fun _ _ e => e)
        clear hT1 hK1 hK2
        go_wp2_with fail
        go_loopg [3, 4] 3 (fun f x y wr => ∃ (l : List Int) (c : Int), y = .int .i64 c ∧ 0 ≤ c ∧ c.toNat ≤ f ∧ (l.length : Int) + c ≤ 3 ∧ Hid (∀ z ∈ l, 0 ≤ z ∧ z ≤ 4294967295) ∧ wr.ownsRow w.heap.size 3 1 x l.length (intCells l) ∧ Tape B wr b ∧ Keeps (· = b) w wr)
        case atStart => exact ⟨[], q, rfl, by omega, by omega, by simp; omega, (fun z hz => by cases hz), World.ownsRow_nil _ _ _ _, hT2, hKK⟩
        case round =>
          clear hT2 hKK
          obtain ⟨l, c, rfl, hc0, hcf, hlc, hlb, hown, hT, hK⟩ := hrel
          by_cases hc : 0 < c
          · obtain ⟨ra, rc, rfl⟩ := row_slice hown
            have HLB := hlb
            have HOWN := Lib.hid hown
            clear hown hlb
            go_wp2_with fail
            refine (hnum.out _ (by exact hT)).mono ?_
            rintro e w3 ⟨x, rfl, x0, x1, hT3, hK3⟩
            have hown3 := row_tape HOWN.out hT (by decide) hK3
            have hKK := hK.trans hK3 (fun _ _ e => e)
            have hs3 := hKK.size
            have hb3 : Below w3.heap.size w3 (w3.alloc (.cells #[.int .i64 x] 3)) := (Below.refl _ _).alloc (Nat.le_refl _) _
            have hT4 := hT3.new hb3
            have hown4 := Lib.hid (row_new hown3 hb3)
            obtain ⟨i0, hi, hz0, hz1, hz2⟩ := info_parts infoInt
            clear hT hK hK3 hown3 HOWN
            go_wp2_with (at_builtin; refine wpList_append_own _ rfl _ _ 22 rfl w.heap.size 3 i0 (.int .i64 0) 1 8 Tryz.underlying22 hi hz0 hz1 hz2 rfl (by decide) _ l.length (intCells l) rfl (by exact hown4.out) ⟨w3.heap.size, 0, none⟩ 1 1 [.int .i64 x] rfl rfl ?c1 ?c2 ?c3 ?c4 ?c5 ?_)
            case c1 => exact new_cells _ _ _ _ rfl _ rfl
            case c2 => intro u hu; simp at hu; rcases hu with rfl; rfl
            case c3 => unfold maxLen; omega
            case c4 => omega
            case c5 => simp; omega
            intro v' w5 hown' hgrow _
            obtain ⟨ra', rc', rfl⟩ := row_slice hown'
            have hT5 : Tape B w5 b := hT4.keeps (Keeps.of_grown hgrow (S := fun i => (Value.slice ra l.length rc).ownBlock = some i) (fun _ e => e)) (fun i e => by
              obtain ⟨cs, hH⟩ := hT4.holds
              exact ⟨by have := (hown4.out.lt i e).1; omega, fun e2 => by subst e2; exact owns_ne_holds hown4.out hH (by decide) e⟩)
            have hK5 : Keeps (· = b) w w5 := (hKK.trans (Keeps.of_fresh hb3 (fun i => i = b)) (fun _ _ e => e)).grown hgrow (fun i e => .inl (hown4.out.lt i e).1)
            have HF := Lib.hid (show w5.ownsRow w.heap.size 3 1 (.slice ra' (l.length + 1) rc') (l ++ [x]).length (intCells (l ++ [x])) from by
              rw [List.length_append, List.length_singleton]; unfold intCells; rw [List.map_append]; exact hown')
            clear hown' hgrow hown4 hT4 hKK hb3
            go_wp2_with fail
            go_roundg (c - 1).toNat
            case measure => omega
            case rel =>
              refine ⟨l ++ [x], c - 1, rfl, by omega, by omega, by simp; omega, ?_, HF.out, hT5, hK5⟩
              intro z hz
              rcases List.mem_append.1 hz with hz | hz
              · exact HLB.out z hz
              · simp at hz; subst hz; exact ⟨x0, x1⟩
          · have hcz : ¬ c > 0 := by omega
            have hlr := Lib.hid (list_row hown)
            have HLB := hlb
            clear hown hlb
            go_wp2_with fail
            refine (grow_Cells l _ _ hlr.out HLB.out (by omega)).mono ?_
            rintro e w3 ⟨rfl, hb3⟩
            have hsz := growT_len l
            have hT3 := hT.new hb3
            have hK3 := hK.trans (Keeps.of_fresh hb3 (fun i => i = b)) (fun _ _ e => e)
            go_wp2_with fail
            go_ret
            exact ⟨_, rfl, by omega, hT3, hK3⟩
    · have e1 : (r == 1) = false := by simp; omega
      have e2 : (r == 2) = false := by simp; omega
      clear h12
      by_cases h3 : r = 3
      · have e3 : (r == 3) = true := by simp [h3]
        clear h3
        go_wp2_with fail
        refine (mk_N B b 6 _ (hT1.new ((Below.refl _ _).alloc (Nat.le_refl _) _)) (by omega) (by omega)).mono ?_
        rintro e w2 ⟨q, rfl, q0, q1, hT2, hK2⟩
        obtain ⟨q, rfl⟩ := Int.eq_ofNat_of_zero_le q0
        have hlt1 := hT1.lt
        have hH := (Holds.new w1 (lVals.map Value.string).toArray 9).keeps hK2 (by omega)
        obtain ⟨s, hs1, hs2⟩ := pick_one lVals q (by have : lVals.length = 6 := rfl; omega)
        have hc : w2.cell? ⟨w1.heap.size, q, none⟩ = some (.string s) := (hH.cell q).trans (by simp [hs1])
        have hKf : Keeps (fun i => i = b) w w2 := (hK1.alloc _).trans hK2 (fun _ _ e => e)
        have hsz := lVals_sz s hs2
        go_wp2_with fail
        go_ret
        exact ⟨s, rfl, hsz, hT2, hKf⟩
      · have e3 : (r == 3) = false := by simp; omega
        by_cases h4 : r = 4
        · have e4 : (r == 4) = true := by simp [h4]
          clear h3 h4
          go_wp2_with fail
          go_ret
          exact ⟨_, rfl, by decide, hT1, hK1⟩
        · have e4 : (r == 4) = false := by simp; omega
          clear h3 h4
          go_wp2_with fail
          refine (mk_N B b 9 _ hT1 (by omega) (by omega)).mono ?_
          rintro e w2 ⟨q, rfl, q0, q1, hT2, hK2⟩
          have hKK := hK1.trans hK2 (fun _ _ e => e)
          clear hT1 hK1 hK2
          go_wp2_with fail
          go_loopg [5, 6] 9 (fun f x y wr => ∃ (l : List UInt8) (c : Int), y = .int .i64 c ∧ 0 ≤ c ∧ c.toNat ≤ f ∧ (l.length : Int) + c ≤ 9 ∧ wr.ownsRow w.heap.size 5 1 x l.length (Lib.byteCells l) ∧ Tape B wr b ∧ Keeps (· = b) w wr)
          case atStart => exact ⟨[], q, rfl, by omega, by omega, by simp; omega, World.ownsRow_nil _ _ _ _, hT2, hKK⟩
          case round =>
            clear hT2 hKK
            obtain ⟨l, c, rfl, hc0, hcf, hlc, hown, hT, hK⟩ := hrel
            by_cases hc : 0 < c
            · obtain ⟨ra, rc, rfl⟩ := row_slice hown
              have HOWN := Lib.hid hown
              clear hown
              go_wp2_with fail
              refine (mk_N B b 256 _ (by exact hT) (by omega) (by omega)).mono ?_
              rintro e w3 ⟨x, rfl, x0, x1, hT3, hK3⟩
              have hlt := hT3.lt
              have hl1 := hK3.size
              have hb4 : Below w3.heap.size w3 (w3.alloc (.cells #[.int .i64 0, .int .i64 1, .int .i64 65, .int .i64 255, .int .i64 x] 3)) := (Below.refl _ _).alloc (Nat.le_refl _) _
              have hT4 := hT3.new hb4
              have hH := Holds.new w3 (([0, 1, 65, 255, x] : List Int).map (Value.int .i64)).toArray 3
              have hc' : ∀ (i : Nat) (h : i < ([0, 1, 65, 255, x] : List Int).length), (w3.alloc (.cells #[.int .i64 0, .int .i64 1, .int .i64 65, .int .i64 255, .int .i64 x] 3)).cell? ⟨w3.heap.size, 0 + i, none⟩ = some (.int .i64 ([0, 1, 65, 255, x] : List Int)[i]) := by
                intro i hi
                rw [Nat.zero_add]
                exact (hH.cell i).trans (row_ints_at _ i hi)
              have hp := Lib.hid (mk_Pick B b w3.heap.size 0 5 [0, 1, 65, 255, x] _ hT4 (by simp) (by simp) (by omega) hc')
              have hown3 := Lib.hid (row_new (row_tape HOWN.out hT (by decide) hK3) hb4)
              have hKK := (hK.trans hK3 (fun _ _ e => e)).trans (Keeps.of_fresh hb4 (fun i => i = b)) (fun _ _ e => e)
              clear hT3 hH hc' hT hK hK3 HOWN hl1
              go_wp2_with fail
              refine (hp.out).mono ?_
              rintro e w4 ⟨r, rfl, hr, hT5, hK5⟩
              have hr2 : 0 ≤ r ∧ r ≤ 255 := by simp at hr; omega
              have hown4 := Lib.hid (row_tape hown3.out hT4 (by decide) hK5)
              have hKK2 := hKK.trans hK5 (fun _ _ e => e)
              have hlt5 := hT5.lt
              have hb6 : Below w4.heap.size w4 (w4.alloc (.cells #[.int .u8 r] 5)) := (Below.refl _ _).alloc (Nat.le_refl _) _
              have hT6 := hT5.new hb6
              have hown6 := Lib.hid (row_new hown4.out hb6)
              obtain ⟨i0, hi, hz0, hz1, hz2⟩ := info_parts infoByte
              have hr0 := hr2.1
              have hr1 := hr2.2
              have hs7 := hKK2.size
              clear hT4 hown3 hr hKK hK5 hp hb4 hT5 hown4
              go_wp2_with (at_builtin; refine wpList_append_own _ rfl _ _ 26 rfl w.heap.size 5 i0 (.int .u8 0) 1 1 Tryz.underlying26 hi hz0 hz1 hz2 rfl (by decide) _ l.length (Lib.byteCells l) rfl (by exact hown6.out) ⟨w4.heap.size, 0, none⟩ 1 1 [.int .u8 r] rfl rfl ?c1 ?c2 ?c3 ?c4 ?c5 ?_)
              case c1 => exact new_cells _ _ _ _ rfl _ rfl
              case c2 => intro u hu; simp at hu; rcases hu with rfl; rfl
              case c3 => unfold maxLen; omega
              case c4 => omega
              case c5 => simp; omega
              intro v' w7 hown' hgrow _
              obtain ⟨ra', rc', rfl⟩ := row_slice hown'
              have hT7 : Tape B w7 b := hT6.keeps (Keeps.of_grown hgrow (S := fun i => (Value.slice ra l.length rc).ownBlock = some i) (fun _ e => e)) (fun i e => by
                obtain ⟨cs, hH⟩ := hT6.holds
                exact ⟨by have := (hown6.out.lt i e).1; omega, fun e2 => by subst e2; exact owns_ne_holds hown6.out hH (by decide) e⟩)
              have hK7 : Keeps (· = b) w w7 := (hKK2.trans (Keeps.of_fresh hb6 (fun i => i = b)) (fun _ _ e => e)).grown hgrow (fun i e => .inl (hown6.out.lt i e).1)
              have HF := Lib.hid (show w7.ownsRow w.heap.size 5 1 (.slice ra' (l.length + 1) rc') (l ++ [r.toNat.toUInt8]).length (Lib.byteCells (l ++ [r.toNat.toUInt8])) from by
                rw [← byteCells_snocV l r hr0 hr1, List.length_append, List.length_singleton]; exact hown')
              clear hown' hgrow hown6 hT6 hKK2 hb6
              go_wp2_with fail
              go_roundg (c - 1).toNat
              case measure => omega
              case rel =>
                exact ⟨l ++ [r.toNat.toUInt8], c - 1, rfl, by omega, by omega, by simp; omega, HF.out, hT7, hK7⟩
            · have hcz : ¬ c > 0 := by omega
              have hcv := bytes_conv hown
              obtain ⟨ra, rc, rfl⟩ := row_slice hown
              go_wp2_with fail
              go_ret
              exact ⟨_, rfl, by show l.toArray.size ≤ 100; simp; omega, hT, hK⟩
end Go.Proofs.YtofhcgbihonckaaGreatDoor

namespace Go.Proofs.YtofhcgbihonckaaGreatDoor
open Go.RowKit

noncomputable def grtOps (n : Nat) : Array Oper := (regOps (Tryz.f12.body.getD .skip) n).getD #[]
theorem grt9 : inRow2 .any (grtOps 9) = true := by kernel_rfl
theorem grt9a : apartB (grtOps 9) = true := by kernel_rfl
theorem grt9n : (grtOps 9).size = 15 := by kernel_rfl
theorem lProperty_sz : ∀ s ∈ lProperty, s.size ≤ 100 := by decide
/-- What a setting gives. -/
def Setted (T T' : List NodeT) (er : Int) : Prop := er = 0 → ∃ s nm va : ByteArray, nm.size ≤ 100 ∧ va.size ≤ 100 ∧ (setT T s nm va).2 = 0 ∧ T' = (setT T s nm va).1
def GsS (B b base Z : Nat) (v : Value) (T : List NodeT) (W w : World) : Prop := Tape B w b ∧ TreeRow w base v T ∧ Holds w Z #[v] 25 ∧ Keeps (· = b) W w
def GsF (b base : Nat) (v : Value) (T : List NodeT) (sv : Value) (er : Int) (T' : List NodeT) (N : Nat) (j : Nat) : Value → World → Prop := match j with
  | 0 => fun u _ => u = .agg #[v]
  | 1 => fun u _ => u = .pointer (some ⟨b, 0, none⟩)
  | 2 => fun u _ => u = .agg #[v]
  | 3 => fun u _ => ∃ s, u = .string s
  | 4 => fun u _ => u = .pointer (some ⟨b, 0, none⟩)
  | 5 => fun u _ => ∃ s : ByteArray, u = .string s ∧ s.size ≤ 100
  | 6 => fun u _ => u = .pointer (some ⟨b, 0, none⟩)
  | 7 => fun u _ => ∃ s : ByteArray, u = .string s ∧ s.size ≤ 100
  | 8 => fun u w => u = .tuple #[.agg #[sv], .int .i64 er] ∧ TreeRow w base sv T' ∧ Setted T T' er
  | 9 => fun u w => u = .tuple #[.agg #[sv], .int .i64 er] ∧ TreeRow w base sv T' ∧ Setted T T' er
  | 10 => fun u _ => u = .agg #[sv]
  | 11 => fun u _ => u = .int .i64 er
  | 12 => fun u w => u = .pointer (some ⟨N, 0, none⟩) ∧ ∃ x, Holds w N #[x] 25
  | 13 => fun _ w => Holds w N #[sv] 25
  | 14 => fun u _ => u = .int .i64 er
  | _ => fun _ _ => True
section
variable {B b base Z : Nat} {v sv : Value} {T T' : List NodeT} {er : Int} {N : Nat} {W w w' : World}
theorem GsS.call (h : GsS B b base Z v T W w) (hZb : Z ≠ b) (k : Keeps (· = b) w w') (ht : Tape B w' b) : GsS B b base Z v T W w' :=
  ⟨ht, h.2.1.tape h.1 k, h.2.2.1.keeps k hZb, h.2.2.2.trans k (fun _ _ e => e)⟩
theorem GsS.store {x : Value} (h : GsS B b base Z v T W w) (hH : Holds w N #[x] 25) (h1 : W.heap.size ≤ N) (hZ : Z < W.heap.size) (hb : b < W.heap.size) (hB : B ≤ W.heap.size) : GsS B b base Z v T W (w.setCell ⟨N, 0, none⟩ sv) := by
  have k : Keeps (· = N) w (w.setCell ⟨N, 0, none⟩ sv) := (Keeps.refl (· = N) w).setCell (p := ⟨N, 0, none⟩) (Or.inr rfl) sv
  exact ⟨h.1.keeps k (fun i e => by subst e; omega), h.2.1.set hH (by decide) (by decide) 0 sv, h.2.2.1.keeps k (by omega), h.2.2.2.trans k (fun i hi e => by omega)⟩
theorem GsF.keeps {j : Nat} {u : Value} (h : GsF b base v T sv er T' N j u w) (hT : Tape B w b) (k : Keeps (· = b) w w') (hN : N ≠ b) : GsF b base v T sv er T' N j u w' := by
  unfold GsF at *
  split at h
  all_goals first
    | exact h
    | exact ⟨h.1, h.2.1.tape hT k, h.2.2⟩
    | (obtain ⟨e, x, hH⟩ := h; exact ⟨e, x, hH.keeps k hN⟩)
    | exact Holds.keeps h k hN
theorem GsF.store {j : Nat} {u x : Value} (h : GsF b base v T sv er T' N j u w) (hH : Holds w N #[x] 25) : GsF b base v T sv er T' N j u (w.setCell ⟨N, 0, none⟩ sv) := by
  unfold GsF at *
  split at h
  all_goals first
    | exact h
    | exact ⟨h.1, h.2.1.set hH (by decide) (by decide) 0 sv, h.2.2⟩
    | exact ⟨h.1, _, hH.set 0 sv⟩
    | exact hH.set 0 sv
theorem GsF.ghost {j : Nat} {u : Value} {sv2 : Value} {er2 : Int} {T2 : List NodeT} (h : GsF b base v T sv er T' N j u w) (h8 : j ≠ 8) (h9 : j ≠ 9) (h10 : j ≠ 10) (h11 : j ≠ 11) (h13 : j ≠ 13) (h14 : j ≠ 14) : GsF b base v T sv2 er2 T2 N j u w := by
  unfold GsF at *
  split at h
  all_goals first
    | exact h
    | exact absurd rfl h8
    | exact absurd rfl h9
    | exact absurd rfl h10
    | exact absurd rfl h11
    | exact absurd rfl h13
    | exact absurd rfl h14
theorem GsF.ghostN {j : Nat} {u : Value} {N2 : Nat} (h : GsF b base v T sv er T' N j u w) (h12 : j ≠ 12) (h13 : j ≠ 13) : GsF b base v T sv er T' N2 j u w := by
  unfold GsF at *
  split at h
  all_goals first
    | exact h
    | exact absurd rfl h12
    | exact absurd rfl h13
end

set_option maxHeartbeats 4000000 in
set_option maxRecDepth 100000 in
theorem grt_region9 {Q : Exit → Act → World → Prop} (B b base Z : Nat) (v : Value) (T : List NodeT) (W w : World) (A : Act) (hsz : A.tmps.size = 49) (hZW : Z < W.heap.size) (hbW : b < W.heap.size) (hBW : B ≤ W.heap.size) (hbase : base ≤ W.heap.size) (hZb : Z ≠ b) (h1 : 0 < T.length) (h2 : T.length ≤ 1000)
    (a0 : A.tmps.getD 0 undef = .pointer (some ⟨b, 0, none⟩)) (a5 : A.tmps.getD 5 undef = .pointer (some ⟨Z, 0, none⟩)) (hS : GsS B b base Z v T W w)
    (hQ : ∀ c w' sv er T' N, SameBut (grtOps 9) A c → GsS B b base Z v T W w' → c.tmps.getD 8 undef = .pointer (some ⟨N, 0, none⟩) → Holds w' N #[sv] 25 → c.tmps.getD 9 undef = .int .i64 er → TreeRow w' base sv T' → Setted T T' er → W.heap.size ≤ N → Q .normal c w') :
    wpAny Tryz.prog .any (grtOps 9) Q (grtOps 9).size (Array.replicate (grtOps 9).size false) A w := by
  refine wpAny_inv2 (fun l c wx => ∃ sv er T' N, RInv (grtOps 9) A (GsF b base v T sv er T' N) (GsS B b base Z v T W) l c wx ∧ W.heap.size ≤ N) grt9 ?hend ?hstep _ _ _ _ (by simp) (by simp) ⟨.slice none 0 0, 0, [], W.heap.size, RInv.start hS, Nat.le_refl _⟩
  case hend =>
    rintro l c wx ⟨sv, er, T', N, hI, hNq⟩ hl
    have hh : ∀ k, k < 15 → l.getD k false = true := fun k hk => hl k (by rw [grt9n]; exact hk)
    obtain ⟨e9, hr9, hs9⟩ : c.tmps.getD 33 undef = .tuple #[.agg #[sv], .int .i64 er] ∧ TreeRow wx base sv T' ∧ Setted T T' er := hI.fact 9 33 rfl (hh 9 (by decide))
    have e12 : c.tmps.getD 8 undef = .pointer (some ⟨N, 0, none⟩) ∧ ∃ x, Holds wx N #[x] 25 := hI.fact 12 8 rfl (hh 12 (by decide))
    have h13 : Holds wx N #[sv] 25 := hI.2.2.2 13 (by rw [grt9n]; decide) (hh 13 (by decide))
    have e14 : c.tmps.getD 9 undef = .int .i64 er := hI.fact 14 9 rfl (hh 14 (by decide))
    exact hQ c wx sv er T' N hI.1 hI.2.1 e12.1 h13 e14 hr9 hs9 hNq
  intro l c wx hI i' op ho hl hall K' hK'
  obtain ⟨sv, er, T', N, hI, hNq⟩ := hI
  have hNb : N ≠ b := by omega
  have hi13 : i' < 15 := by rw [← grt9n]; exact (Array.getElem?_eq_some_iff.1 ho).1
  simp only [grtOps, regOps, Tryz.f12, Option.getD_some, reduceIte, Nat.reduceEqDiff] at ho
  have HS := Lib.hid hI.2.1
  have s0 := (hI.slot 0 (by kernel_rfl)).trans a0
  have s5 := (hI.slot 5 (by kernel_rfl)).trans a5
  simp only [Array.getD_eq_getD_getElem?] at s0 s5
  have hic : i' = 0 ∨ i' = 1 ∨ i' = 2 ∨ i' = 3 ∨ i' = 4 ∨ i' = 5 ∨ i' = 6 ∨ i' = 7 ∨ i' = 8 ∨ i' = 9 ∨ i' = 10 ∨ i' = 11 ∨ i' = 12 ∨ i' = 13 ∨ i' = 14 := by omega
  rcases hic with rfl | rfl | rfl | rfl | rfl | rfl | rfl | rfl | rfl | rfl | rfl | rfl | rfl | rfl | rfl
  all_goals cases ho
  · have hX := HS.out.2.2.1.cell 0
    go_simp
    exact hK' _ _ ⟨sv, er, T', N, hI.step grt9a 0 34 rfl (by rw [hsz]; decide) _ _ rfl hall HS.out (fun _ _ h => h) rfl, hNq⟩
  · go_simp
    exact hK' _ _ ⟨sv, er, T', N, hI.step grt9a 1 35 rfl (by rw [hsz]; decide) _ _ rfl hall HS.out (fun _ _ h => h) rfl, hNq⟩
  · have hX := HS.out.2.2.1.cell 0
    go_simp
    exact hK' _ _ ⟨sv, er, T', N, hI.step grt9a 2 36 rfl (by rw [hsz]; decide) _ _ rfl hall HS.out (fun _ _ h => h) rfl, hNq⟩
  · have e1 : c.tmps.getD 35 undef = .pointer (some ⟨b, 0, none⟩) := hI.fact 1 35 rfl (listed hall 1 (by kernel_rfl))
    simp only [Array.getD_eq_getD_getElem?] at e1
    have e2 : c.tmps.getD 36 undef = .agg #[v] := hI.fact 2 36 rfl (listed hall 2 (by kernel_rfl))
    simp only [Array.getD_eq_getD_getElem?] at e2
    go_simp
    refine (grow_Path B b base _ T wx HS.out.1 HS.out.2.1 h1 h2).mono ?_
    rintro e w2 ⟨s, rfl, ht2, k2⟩
    go_simp
    have hS2 := HS.out.call hZb k2 ht2
    exact hK' _ _ ⟨sv, er, T', N, hI.step grt9a 3 37 rfl (by rw [hsz]; decide) _ _ rfl hall hS2 (fun _ _ h => GsF.keeps h HS.out.1 k2 hNb) ⟨s, rfl⟩, hNq⟩
  · go_simp
    exact hK' _ _ ⟨sv, er, T', N, hI.step grt9a 4 38 rfl (by rw [hsz]; decide) _ _ rfl hall HS.out (fun _ _ h => h) rfl, hNq⟩
  · have e4 : c.tmps.getD 38 undef = .pointer (some ⟨b, 0, none⟩) := hI.fact 4 38 rfl (listed hall 4 (by kernel_rfl))
    simp only [Array.getD_eq_getD_getElem?] at e4
    go_simp
    refine (mk_Property B b wx HS.out.1).mono ?_
    rintro e w2 ⟨s, rfl, hs, ht2, k2⟩
    go_simp
    have hS2 := HS.out.call hZb k2 ht2
    exact hK' _ _ ⟨sv, er, T', N, hI.step grt9a 5 39 rfl (by rw [hsz]; decide) _ _ rfl hall hS2 (fun _ _ h => GsF.keeps h HS.out.1 k2 hNb) ⟨s, rfl, lProperty_sz s hs⟩, hNq⟩
  · go_simp
    exact hK' _ _ ⟨sv, er, T', N, hI.step grt9a 6 40 rfl (by rw [hsz]; decide) _ _ rfl hall HS.out (fun _ _ h => h) rfl, hNq⟩
  · have e6 : c.tmps.getD 40 undef = .pointer (some ⟨b, 0, none⟩) := hI.fact 6 40 rfl (listed hall 6 (by kernel_rfl))
    simp only [Array.getD_eq_getD_getElem?] at e6
    go_simp
    refine (grow_Value B b wx HS.out.1).mono ?_
    rintro e w2 ⟨s, rfl, hs, ht2, k2⟩
    go_simp
    have hS2 := HS.out.call hZb k2 ht2
    exact hK' _ _ ⟨sv, er, T', N, hI.step grt9a 7 41 rfl (by rw [hsz]; decide) _ _ rfl hall hS2 (fun _ _ h => GsF.keeps h HS.out.1 k2 hNb) ⟨s, rfl, hs⟩, hNq⟩
  · have e0 : c.tmps.getD 34 undef = .agg #[v] := hI.fact 0 34 rfl (listed hall 0 (by kernel_rfl))
    simp only [Array.getD_eq_getD_getElem?] at e0
    obtain ⟨s, e3⟩ : ∃ s, c.tmps.getD 37 undef = .string s := hI.fact 3 37 rfl (listed hall 3 (by kernel_rfl))
    simp only [Array.getD_eq_getD_getElem?] at e3
    obtain ⟨nm, e5, hnm⟩ : ∃ s : ByteArray, c.tmps.getD 39 undef = .string s ∧ s.size ≤ 100 := hI.fact 5 39 rfl (listed hall 5 (by kernel_rfl))
    simp only [Array.getD_eq_getD_getElem?] at e5
    obtain ⟨vl, e7, hvl⟩ : ∃ s : ByteArray, c.tmps.getD 41 undef = .string s ∧ s.size ≤ 100 := hI.fact 7 41 rfl (listed hall 7 (by kernel_rfl))
    simp only [Array.getD_eq_getD_getElem?] at e7
    go_simp
    refine (ref3_Set _ _ T s nm vl wx HS.out.2.1.in (by omega) (by omega)).mono ?_
    rintro e w2 ⟨v2, rfl, hr2, hb2⟩
    go_simp
    have k2 := Keeps.of_fresh hb2 (fun i => i = b)
    have hS2 := HS.out.call hZb k2 (HS.out.1.new hb2)
    have hr3 := hr2.base (Nat.le_trans hbase HS.out.2.2.2.size)
    have hst : Setted T (setT T s nm vl).1 (setT T s nm vl).2 := fun e => ⟨s, nm, vl, hnm, hvl, e, rfl⟩
    have u9 := hI.2.2.1.2.unlisted hl (j := 9) (by kernel_rfl)
    have u10 := hI.2.2.1.2.unlisted u9 (j := 10) (by kernel_rfl)
    have u11 := hI.2.2.1.2.unlisted u9 (j := 11) (by kernel_rfl)
    have u13 := hI.2.2.1.2.unlisted u10 (j := 13) (by kernel_rfl)
    have u14 := hI.2.2.1.2.unlisted u11 (j := 14) (by kernel_rfl)
    have hJ := hI.other (F' := GsF b base v T v2 (setT T s nm vl).2 (setT T s nm vl).1 N) (fun j hj u hF => hF.ghost (yes_no hj hl) (yes_no hj u9) (yes_no hj u10) (yes_no hj u11) (yes_no hj u13) (yes_no hj u14))
    exact hK' _ _ ⟨v2, (setT T s nm vl).2, (setT T s nm vl).1, N, hJ.step grt9a 8 42 rfl (by rw [hsz]; decide) _ _ rfl hall hS2 (fun _ _ h => GsF.keeps h HS.out.1 k2 hNb) ⟨rfl, hr3, hst⟩, hNq⟩
  · obtain ⟨e8, hr8, hs8⟩ : c.tmps.getD 42 undef = .tuple #[.agg #[sv], .int .i64 er] ∧ TreeRow wx base sv T' ∧ Setted T T' er := hI.fact 8 42 rfl (listed hall 8 (by kernel_rfl))
    simp only [Array.getD_eq_getD_getElem?] at e8
    go_simp
    exact hK' _ _ ⟨sv, er, T', N, hI.step grt9a 9 33 rfl (by rw [hsz]; decide) _ _ rfl hall HS.out (fun _ _ h => h) ⟨rfl, hr8, hs8⟩, hNq⟩
  · obtain ⟨e9, hr9, hs9⟩ : c.tmps.getD 33 undef = .tuple #[.agg #[sv], .int .i64 er] ∧ TreeRow wx base sv T' ∧ Setted T T' er := hI.fact 9 33 rfl (listed hall 9 (by kernel_rfl))
    simp only [Array.getD_eq_getD_getElem?] at e9
    go_simp
    exact hK' _ _ ⟨sv, er, T', N, hI.step grt9a 10 43 rfl (by rw [hsz]; decide) _ _ rfl hall HS.out (fun _ _ h => h) rfl, hNq⟩
  · obtain ⟨e9, hr9, hs9⟩ : c.tmps.getD 33 undef = .tuple #[.agg #[sv], .int .i64 er] ∧ TreeRow wx base sv T' ∧ Setted T T' er := hI.fact 9 33 rfl (listed hall 9 (by kernel_rfl))
    simp only [Array.getD_eq_getD_getElem?] at e9
    go_simp
    exact hK' _ _ ⟨sv, er, T', N, hI.step grt9a 11 44 rfl (by rw [hsz]; decide) _ _ rfl hall HS.out (fun _ _ h => h) rfl, hNq⟩
  · go_simp
    have hb2 : Below wx.heap.size wx (wx.alloc (.cells #[.slice none 0 0] 25)) := (Below.refl _ _).alloc (Nat.le_refl _) _
    have k2 := Keeps.of_fresh hb2 (fun i => i = b)
    have hS2 := HS.out.call hZb k2 (HS.out.1.new hb2)
    have u13 := hI.2.2.1.2.unlisted hl (j := 13) (by kernel_rfl)
    have hNn : wx.heap.size ≠ b := by have := HS.out.1.lt; omega
    have hNm : W.heap.size ≤ wx.heap.size := HS.out.2.2.2.size
    have hJ := hI.other (F' := GsF b base v T sv er T' wx.heap.size) (fun j hj u hF => hF.ghostN (yes_no hj hl) (yes_no hj u13))
    exact hK' _ _ ⟨sv, er, T', wx.heap.size, hJ.step grt9a 12 8 rfl (by rw [hsz]; decide) _ _ rfl hall hS2 (fun _ _ h => GsF.keeps h HS.out.1 k2 hNn) ⟨rfl, _, Holds.new _ _ _⟩, hNm⟩
  · obtain ⟨e12, x, hHN⟩ : c.tmps.getD 8 undef = .pointer (some ⟨N, 0, none⟩) ∧ ∃ x, Holds wx N #[x] 25 := hI.fact 12 8 rfl (listed hall 12 (by kernel_rfl))
    simp only [Array.getD_eq_getD_getElem?] at e12
    have e10 : c.tmps.getD 43 undef = .agg #[sv] := hI.fact 10 43 rfl (listed hall 10 (by kernel_rfl))
    simp only [Array.getD_eq_getD_getElem?] at e10
    have u0 := hHN.cell 0
    have u1 := hHN.free 0
    obtain ⟨e9, hr9, hs9⟩ : c.tmps.getD 33 undef = .tuple #[.agg #[sv], .int .i64 er] ∧ TreeRow wx base sv T' ∧ Setted T T' er := hI.fact 9 33 rfl (by
      have p10 := listed hall 10 (by kernel_rfl)
      cases p9 : l.getD 9 false with
      | true => rfl
      | false => rw [hI.2.2.1.2.unlisted p9 (j := 10) (by kernel_rfl)] at p10; cases p10)
    obtain ⟨a2, c2, rfl⟩ := hr9.slice
    have n0 : wx.cell? ⟨N, 0, none⟩ = some x := u0
    have n1 : wx.frozen? ⟨N, 0, none⟩ = false := u1
    go_simp
    exact hK' _ _ ⟨.slice a2 T'.length c2, er, T', N, hI.stepN 13 rfl _ rfl hall (HS.out.store hHN hNq hZW hbW hBW) (fun _ _ h => h.store hHN) (hHN.set 0 _), hNq⟩
  · have e11 : c.tmps.getD 44 undef = .int .i64 er := hI.fact 11 44 rfl (listed hall 11 (by kernel_rfl))
    simp only [Array.getD_eq_getD_getElem?] at e11
    go_simp
    exact hK' _ _ ⟨sv, er, T', N, hI.step grt9a 14 9 rfl (by rw [hsz]; decide) _ _ rfl hall HS.out (fun _ _ h => h) rfl, hNq⟩
end Go.Proofs.YtofhcgbihonckaaGreatDoor

namespace Go.Proofs.YtofhcgbihonckaaGreatDoor
open Go.RowKit

/-- Tree in its first loop. -/
def TreA (B b base Z : Nat) (m : Int) (P : List NodeT → Prop) (W w : World) : Prop := ∃ v T, Tape B w b ∧ Holds w Z #[v] 25 ∧ TreeRow w base v T ∧ checkT T = 0 ∧ (T.length : Int) ≤ m ∧ P T ∧ Keeps (fun i => i = b ∨ i = Z) W w

set_option maxHeartbeats 4000000 in
set_option maxRecDepth 100000 in
theorem grow_TreeB (B b : Nat) (n : Int) (w : World) (h : Tape B w b) (hn : 0 ≤ n) (hn2 : n ≤ 30) :
    Calls Tryz.prog 12 #[.pointer (some ⟨b, 0, none⟩), .int .i64 n] w fun e w' => ∃ v T, e = .returned (.agg #[v]) ∧ TreeRow w' w.heap.size v T ∧ checkT T = 0 ∧ (T.length : Int) ≤ n + 1 ∧ (bulkT T : Int) ≤ 440 * n ∧ Tape B w' b ∧ Keeps (· = b) w w' := by
  have hlt := h.lt
  have hBw : B ≤ w.heap.size := Nat.le_trans h.1 (Nat.le_of_lt hlt)

  have hb0 : Below w.heap.size w (w.alloc (.cells #[.slice none 0 0] 25)) := (Below.refl _ _).alloc (Nat.le_refl _) _
  have hr0 := root_row (w.alloc (.cells #[.slice none 0 0] 25)) w.heap.size (w.heap.size + 1) (by simp) (by omega)
  have hH0 := (Holds.new w #[.slice none 0 0] 25).alloc (.cells #[.int .i64 (-1), .string ⟨#[]⟩, .slice none 0 0] 52)
  have hw1 : IntKind.i64.wrap (n + 1) = n + 1 := IntWalk.i64_in _ (by omega)
  go_enter Tryz.func12, Tryz.ntmps12
  go_wp2_with fail
  have hZn := Holds.newAt (w := (w.alloc (.cells #[.slice none 0 0] 25)).alloc (.cells #[.int .i64 (-1), .string ⟨#[]⟩, .slice none 0 0] 52)) (B := w.heap.size + 1 + 1) (by simp) #[.slice (some ⟨w.heap.size + 1, 0, none⟩) 1 1] 25
  have hb1 : Below w.heap.size w (((w.alloc (.cells #[.slice none 0 0] 25)).alloc (.cells #[.int .i64 (-1), .string ⟨#[]⟩, .slice none 0 0] 52)).alloc (.cells #[.slice (some ⟨w.heap.size + 1, 0, none⟩) 1 1] 25)) := (hb0.alloc (by simp) _).alloc (by simp; omega) _
  refine (mk_N B b (n + 1) _ (by exact h.new hb1) (by omega) (by omega)).mono ?_
  rintro e w1 ⟨r, rfl, hr1, hr2, ht1, k1⟩
  have hZ1 := hZn.keeps k1 (by omega)
  have hR1 := ((hr0.new (by exact (Below.refl _ _).alloc (Nat.le_refl _) _)).tape (by exact h.new hb1) k1)
  have hK1 := (Keeps.of_fresh hb1 (fun i => i = b)).trans k1 (fun _ _ e => e)
  have hZ1b : w.heap.size + 1 + 1 ≠ b := by omega
  have hszw : w.heap.size + 1 + 1 < w1.heap.size := hZ1.lt
  have hA0 : TreA B b w.heap.size (w.heap.size + 1 + 1) 1 Bare w1 w1 := ⟨_, _, ht1, hZ1, (by simpa using hR1), root_valid, by simp [rootT], (fun n hn => by rw [show n = ⟨-1, ⟨#[]⟩, []⟩ from by simpa [rootT] using hn]), Keeps.refl _ _⟩
  have hZB : B ≤ w.heap.size + 1 + 1 := by omega
  have hbs : w.heap.size ≤ w1.heap.size := by omega
  clear hZ1 hR1 ht1 hZn hr0 hb0 hb1
  generalize hZdef : w.heap.size + 1 + 1 = Z at *
  generalize hRdef : w.heap.size = base at *
  go_upto_block 0 with fail
  go_cut [] (fun wx => TreA B b base Z (n + 1) Bare w1 wx)
  case first =>
    go_wp2_with fail
    go_loopg [6] (r.toNat) (fun f x wr => ∃ (q m : Int), x = .int .i64 q ∧ 0 ≤ q ∧ q.toNat ≤ f ∧ m + q = r + 1 ∧ TreA B b base Z m Bare w1 wr)
    case atStart => exact ⟨r, 1, rfl, hr1, by omega, by omega, hA0⟩
    case round =>
      obtain ⟨q, m, rfl, hq0, hqf, hqm, v, T, hT, hZ, hr, hs, hl, hP, hk⟩ := hrel
      by_cases hq : 0 < q
      · have hX := hZ.cell 0
        have hXf := hZ.free 0
        have hs1 := (limits_len (check_limits hs)).1
        have hbx : base ≤ wr.heap.size := Nat.le_trans hbs hk.size
        have hl2 : T.length ≤ 1000 := by omega
        go_wp2_with fail
        refine (grow_Step B b base v T _ hT hr hs1 hl2 hbx).mono ?_
        rintro e w2 ⟨v2, T2, rfl, hr2, hst, hT2, hk2⟩
        obtain ⟨a2, c2, rfl⟩ := hr2.slice
        have hZ2 := hZ.keeps hk2 hZ1b
        have y0 := hZ2.cell 0
        have yf := hZ2.free 0
        have hlen2 : checkT T2 = 0 ∧ (T2.length : Int) ≤ m + 1 ∧ Bare T2 := by
          rcases hst with rfl | h2
          · exact ⟨hs, by omega, hP⟩
          · obtain ⟨sq, nq, hq, eq⟩ := h2 rfl
            obtain ⟨h3, h4⟩ := add_valid hq
            have h5 := bare_add hP hq
            rw [← eq] at h3 h4 h5
            exact ⟨h3, by omega, h5⟩
        have k1 : Keeps (· = Z) w2 (w2.setCell ⟨Z, 0, none⟩ (.slice a2 T2.length c2)) := (Keeps.refl (· = Z) w2).setCell (p := ⟨Z, 0, none⟩) (Or.inr rfl) _
        have hfin : TreA B b base Z (m + 1) Bare w1 (w2.setCell ⟨Z, 0, none⟩ (.slice a2 T2.length c2)) :=
          ⟨_, T2, hT2.keeps k1 (fun i e => by subst e; exact ⟨hZB, hZ1b⟩), hZ2.set 0 _, hr2.set hZ2 (by decide) (by decide) 0 _, hlen2.1, hlen2.2.1, hlen2.2.2, (hk.trans (hk2.mono (fun i _ e => show i = b ∨ i = Z from Or.inl e)) (fun _ _ e => e)).trans (k1.mono (fun i _ e => show i = b ∨ i = Z from Or.inr e)) (fun _ _ e => e)⟩
        have HF := Lib.hid hfin
        clear hfin hlen2 hst
        go_wp2_with fail
        go_roundg (q - 1).toNat
        case measure => omega
        case rel => exact ⟨q - 1, m + 1, rfl, by omega, by omega, by omega, HF.out⟩
      · have hq0 : q = 0 := by omega
        subst hq0
        have hfin : TreA B b base Z (n + 1) Bare w1 wr := ⟨v, T, hT, hZ, hr, hs, by omega, hP, hk⟩
        have HF := Lib.hid hfin
        clear hfin
        go_wp2_with fail
        go_meet
        case rel => exact HF.out
  case rest =>
    obtain ⟨v, T, hT, hZ, hr, hs, hl, hP, hk⟩ := hcut
    have hX := hZ.cell 0
    have hXf := hZ.free 0
    have hw2 : IntKind.i64.wrap (2 * n) = 2 * n := IntWalk.i64_in _ (by omega)
    have hw3 : IntKind.i64.wrap (2 * n + 1) = 2 * n + 1 := IntWalk.i64_in _ (by omega)
    go_wp2_with fail
    refine (mk_N B b (2 * n + 1) _ (by exact hT) (by omega) (by omega)).mono ?_
    rintro e w3 ⟨r2, rfl, hr21, hr22, ht3, k3⟩
    have hA3 : TreA B b base Z (n + 1) (fun T => (bulkT T : Int) + 220 * r2 ≤ 440 * n) w1 w3 := ⟨v, T, ht3, hZ.keeps k3 hZ1b, hr.tape hT k3, hs, hl, by show (bulkT T : Int) + _ ≤ _; rw [bare_bulk hP]; omega, hk.trans k3 (fun i _ e => Or.inl e)⟩
    clear hT hZ hr hs hl hP hk hX hXf k3 ht3
    go_wp2_with fail
    go_loopg [7] (r2.toNat) (fun f x wr => ∃ q : Int, x = .int .i64 q ∧ 0 ≤ q ∧ q.toNat ≤ f ∧ q ≤ r2 ∧ TreA B b base Z (n + 1) (fun T => (bulkT T : Int) + 220 * q ≤ 440 * n) w1 wr)
    case atStart => exact ⟨r2, rfl, hr21, by omega, by omega, hA3⟩
    case round =>
      obtain ⟨q, rfl, hq0, hqf, hqr, v, T, hT, hZ, hr, hs, hl, hP, hk⟩ := hrel
      have hX := hZ.cell 0
      have hXf := hZ.free 0
      by_cases hq : 0 < q
      · have hl2 : T.length ≤ 1000 := by omega
        have hs1 := (limits_len (check_limits hs)).1
        have hbx : base ≤ wr.heap.size := Nat.le_trans hbs hk.size
        have htb := hT.lt
        have hzl := hZ.lt
        have hBr : B ≤ wr.heap.size := by omega
        have HS := Lib.hid hs
        have HK := Lib.hid hk
        have hS0 : GsS B b base Z v T wr wr.drew := ⟨hT.keeps ((Keeps.refl (fun _ => False) _).drew) (fun _ e => e.elim), hr, hZ, (Keeps.refl _ _).drew⟩
        clear hT hr hs hk hX hXf
        go_wp2_with fail
        refine wp_region_any (by kernel_rfl) ?_
        refine wpAny_ops (ops' := grtOps 9) (by kernel_rfl) ?_
        refine grt_region9 B b base Z v T wr _ _ rfl hzl htb hBr hbx hZ1b hs1 hl2 rfl rfl (by exact hS0) ?_
        intro c w2 sv er T2 N hsb hS2 e8 hN e9 hr2 hst hNq
        obtain ⟨y8, y9, y33, y34, y35, y36, y37, y38, y39, y40, y41, y42, y43, y44, hc⟩ := hsb.ex [8, 9, 33, 34, 35, 36, 37, 38, 39, 40, 41, 42, 43, 44] (by kernel_rfl)
        subst hc
        simp only [List.setIfInBounds_toArray, List.set_cons_zero, List.set_cons_succ] at e8 e9 ⊢
        have e8' : y8 = .pointer (some ⟨N, 0, none⟩) := e8
        have e9' : y9 = .int .i64 er := e9
        subst e8'
        subst e9'
        obtain ⟨sa, sc, rfl⟩ := hr2.slice
        have hKw := HK.out.trans hS2.2.2.2 (fun i _ e => show i = b ∨ i = Z from Or.inl e)
        by_cases he : er = 0
        · subst he
          obtain ⟨s, nm, va, hnm, hva, hq2, hT2⟩ := hst rfl
          have hbk := bulk_set hq2
          obtain ⟨hc2, hl3⟩ := set_valid hq2
          rw [← hT2] at hc2 hl3 hbk
          have hZ2 := hS2.2.2.1
          have kz : Keeps (· = Z) w2 (w2.setCell ⟨Z, 0, none⟩ (.slice sa T2.length sc)) := (Keeps.refl (· = Z) w2).setCell (p := ⟨Z, 0, none⟩) (Or.inr rfl) _
          have HF := Lib.hid (show TreA B b base Z (n + 1) (fun T => (bulkT T : Int) + 220 * (q - 1) ≤ 440 * n) w1 (w2.setCell ⟨Z, 0, none⟩ (.slice sa T2.length sc)) from
            ⟨_, T2, hS2.1.keeps kz (fun i e => by subst e; exact ⟨hZB, hZ1b⟩), hZ2.set 0 _, hr2.set hZ2 (by decide) (by decide) 0 _, hc2, by omega, by show (bulkT T2 : Int) + _ ≤ _; omega, hKw.trans kz (fun i _ e => Or.inr e)⟩)
          have n0 := hN.cell 0
          have z0 := hZ2.cell 0
          have z1 := hZ2.free 0
          clear hS2 hZ2 hr2 hst hc2 hT2 hq2 hN hsb e8 e9 HS HK hKw kz hS0 hl3
          go_wp2_with fail
          go_roundg (q - 1).toNat
          case measure => omega
          case rel => exact ⟨q - 1, rfl, by omega, by omega, by omega, HF.out⟩
        · have he' : (er == 0) = false := by simpa using he
          have HF := Lib.hid (show TreA B b base Z (n + 1) (fun T => (bulkT T : Int) + 220 * (q - 1) ≤ 440 * n) w1 w2 from ⟨v, T, hS2.1, hS2.2.2.1, hS2.2.1, HS.out, hl, by show (bulkT T : Int) + _ ≤ _; omega, hKw⟩)
          clear hS2 hr2 hst hN hsb e8 e9 HS HK hKw hS0 he
          go_wp2_with fail
          go_roundg (q - 1).toNat
          case measure => omega
          case rel => exact ⟨q - 1, rfl, by omega, by omega, by omega, HF.out⟩
      · obtain ⟨qa, qc, rfl⟩ := hr.slice
        have hbZ : base ≠ Z := by omega
        have hbb : base ≠ b := by omega
        have hR1 : Holds w1 base #[.slice none 0 0] 25 := (hH0.alloc (.cells #[.slice (some ⟨base + 1, 0, none⟩) 1 1] 25)).keeps k1 hbb
        have hR := hR1.keeps hk (by omega)
        have hY := hR.cell 0
        have hYf := hR.free 0
        have kz : Keeps (· = base) wr (wr.setCell ⟨base, 0, none⟩ (.slice qa T.length qc)) := (Keeps.refl (· = base) wr).setCell (p := ⟨base, 0, none⟩) (Or.inr rfl) _
        have q0 := (hR.set 0 (.slice qa T.length qc)).cell 0
        have HF := Lib.hid (show TreeRow (wr.setCell ⟨base, 0, none⟩ (.slice qa T.length qc)) base (.slice qa T.length qc) T ∧ checkT T = 0 ∧ (T.length : Int) ≤ n + 1 ∧ (bulkT T : Int) ≤ 440 * n ∧ Tape B (wr.setCell ⟨base, 0, none⟩ (.slice qa T.length qc)) b ∧ Keeps (· = b) w (wr.setCell ⟨base, 0, none⟩ (.slice qa T.length qc)) from
          ⟨hr.set hR (by decide) (by decide) 0 _, hs, hl, by omega, hT.keeps kz (fun i e => by subst e; exact ⟨hBw, hbb⟩),
            hK1.trans ((hk.mono (fun i _ e => (show i = b ∨ i = Z ∨ i = base from by omega))).trans kz (fun i _ e => (show i = b ∨ i = Z ∨ i = base from by omega))) (fun i hi e => by omega)⟩)
        clear hT hr hs hk hR hR1 hZ kz
        go_wp2_with fail
        exact bodyPost_ret (v := .agg #[.slice qa T.length qc]) (by simp [results, Tryz.results12, go_sem, q0]) rfl ⟨_, rfl, _, HF.out⟩
theorem grow_Tree (B b : Nat) (n : Int) (w : World) (h : Tape B w b) (hn : 0 ≤ n) (hn2 : n ≤ 30) :
    Calls Tryz.prog 12 #[.pointer (some ⟨b, 0, none⟩), .int .i64 n] w fun e w' => ∃ v T, e = .returned (.agg #[v]) ∧ TreeRow w' w.heap.size v T ∧ checkT T = 0 ∧ (T.length : Int) ≤ n + 1 ∧ Tape B w' b ∧ Keeps (· = b) w w' :=
  (grow_TreeB B b n w h hn hn2).mono fun _ _ ⟨v, T, h1, h2, h3, h4, _, h5⟩ => ⟨v, T, h1, h2, h3, h4, h5⟩
end Go.Proofs.YtofhcgbihonckaaGreatDoor
