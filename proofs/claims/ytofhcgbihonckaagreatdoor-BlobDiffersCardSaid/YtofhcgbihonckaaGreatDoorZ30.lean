/- Region 5 of bringuplaw08's BlobDiffers (printed by gdf.py). -/
import Derived.Test.YtofhcgbihonckaaGreatDoorZ21
import Derived.Test.YtofhcgbihonckaaGreatDoorZ1
import Derived.Test.YtofhcgbihonckaaGreatDoorZ16

set_option linter.unusedVariables false
set_option linter.unusedSimpArgs false
set_option linter.unusedSectionVars false

namespace Go.Proofs.YtofhcgbihonckaaGreatDoor
open Go.RowKit

noncomputable def lbfOps : Array Oper := (regOps (Tryz.f8.body.getD .skip) 5).getD #[]
theorem lbfR : inRow2 .any lbfOps = true := by kernel_rfl
theorem lbfRa : apartB lbfOps = true := by kernel_rfl
theorem lbfRn : lbfOps.size = 19 := by kernel_rfl
def LbfF (b base Z : Nat) (v : Value) (T : List NodeT) (sv : Value) (er : Int) (T' : List NodeT) (N : Nat) (j : Nat) : Value → World → Prop := match j with
  | 0 => fun u _ => u = .agg #[v]
  | 1 => fun u _ => u = .agg #[v]
  | 2 => fun u _ => u = .pointer (some ⟨b, 0, none⟩)
  | 3 => fun u _ => u = .pointer (some ⟨Z, 0, none⟩)
  | 4 => fun u _ => u = v
  | 5 => fun u _ => u = .int .i64 (T.length : Int)
  | 6 => fun u _ => ∃ r : Int, u = .int .i64 r ∧ 0 ≤ r ∧ r < (T.length : Int)
  | 7 => fun u _ => ∃ s, u = .string s
  | 8 => fun u _ => u = .pointer (some ⟨b, 0, none⟩)
  | 9 => fun u _ => ∃ s : ByteArray, u = .string s ∧ s.size ≤ 100
  | 10 => fun u _ => u = .pointer (some ⟨b, 0, none⟩)
  | 11 => fun u _ => ∃ s : ByteArray, u = .string s ∧ s.size ≤ 100
  | 12 => fun u w => u = .tuple #[.agg #[sv], .int .i64 er] ∧ TreeRow w base sv T' ∧ Setted T T' er
  | 13 => fun u w => u = .tuple #[.agg #[sv], .int .i64 er] ∧ TreeRow w base sv T' ∧ Setted T T' er
  | 14 => fun u _ => u = .agg #[sv]
  | 15 => fun u _ => u = .int .i64 er
  | 16 => fun u w => u = .pointer (some ⟨N, 0, none⟩) ∧ ∃ x, Holds w N #[x] 25
  | 17 => fun _ w => Holds w N #[sv] 25
  | 18 => fun u _ => u = .int .i64 er
  | _ => fun _ _ => True
section
variable {B b base Z : Nat} {v sv : Value} {T T' : List NodeT} {er : Int} {N : Nat} {W w w' : World}
theorem LbfF.keeps {j : Nat} {u : Value} (h : LbfF b base Z v T sv er T' N j u w) (hT : Tape B w b) (k : Keeps (· = b) w w') (hN : N ≠ b) : LbfF b base Z v T sv er T' N j u w' := by
  unfold LbfF at *
  split at h
  all_goals first
    | exact h
    | exact ⟨h.1, h.2.1.tape hT k, h.2.2⟩
    | (obtain ⟨e, x, hH⟩ := h; exact ⟨e, x, hH.keeps k hN⟩)
    | exact Holds.keeps h k hN
theorem LbfF.store {j : Nat} {u x : Value} (h : LbfF b base Z v T sv er T' N j u w) (hH : Holds w N #[x] 25) : LbfF b base Z v T sv er T' N j u (w.setCell ⟨N, 0, none⟩ sv) := by
  unfold LbfF at *
  split at h
  all_goals first
    | exact h
    | exact ⟨h.1, h.2.1.set hH (by decide) (by decide) 0 sv, h.2.2⟩
    | exact ⟨h.1, _, hH.set 0 sv⟩
    | exact hH.set 0 sv
theorem LbfF.ghost {j : Nat} {u : Value} {sv2 : Value} {er2 : Int} {T2 : List NodeT} (h : LbfF b base Z v T sv er T' N j u w) (h12 : j ≠ 12) (h13 : j ≠ 13) (h14 : j ≠ 14) (h15 : j ≠ 15) (h17 : j ≠ 17) (h18 : j ≠ 18) : LbfF b base Z v T sv2 er2 T2 N j u w := by
  unfold LbfF at *
  split at h
  all_goals first
    | exact h
    | exact absurd rfl h12
    | exact absurd rfl h13
    | exact absurd rfl h14
    | exact absurd rfl h15
    | exact absurd rfl h17
    | exact absurd rfl h18
theorem LbfF.ghostN {j : Nat} {u : Value} {N2 : Nat} (h : LbfF b base Z v T sv er T' N j u w) (h16 : j ≠ 16) (h17 : j ≠ 17) : LbfF b base Z v T sv er T' N2 j u w := by
  unfold LbfF at *
  split at h
  all_goals first
    | exact h
    | exact absurd rfl h16
    | exact absurd rfl h17
end

set_option maxHeartbeats 4000000 in
set_option maxRecDepth 100000 in
theorem lbf_region5 {Q : Exit → Act → World → Prop} (B b base Z : Nat) (v : Value) (T : List NodeT) (W w : World) (A : Act) (hsz : A.tmps.size = 71) (hZW : Z < W.heap.size) (hbW : b < W.heap.size) (hBW : B ≤ W.heap.size) (hbase : base ≤ W.heap.size) (hZb : Z ≠ b) (h1 : 0 < T.length) (h2 : T.length ≤ 1000)
    (a0 : A.tmps.getD 3 undef = .pointer (some ⟨b, 0, none⟩)) (a5 : A.tmps.getD 4 undef = .pointer (some ⟨Z, 0, none⟩)) (hS : GsS B b base Z v T W w)
    (hQ : ∀ c w' sv er T' N, SameBut lbfOps A c → GsS B b base Z v T W w' → c.tmps.getD 6 undef = .pointer (some ⟨N, 0, none⟩) → Holds w' N #[sv] 25 → c.tmps.getD 7 undef = .int .i64 er → TreeRow w' base sv T' → Setted T T' er → W.heap.size ≤ N → Q .normal c w') :
    wpAny Tryz.prog .any lbfOps Q lbfOps.size (Array.replicate lbfOps.size false) A w := by
  refine wpAny_inv2 (fun l c wx => ∃ sv er T' N, RInv lbfOps A (LbfF b base Z v T sv er T' N) (GsS B b base Z v T W) l c wx ∧ W.heap.size ≤ N) lbfR ?hend ?hstep _ _ _ _ (by simp) (by simp) ⟨.slice none 0 0, 0, [], W.heap.size, RInv.start hS, Nat.le_refl _⟩
  case hend =>
    rintro l c wx ⟨sv, er, T', N, hI, hNq⟩ hl
    have hh : ∀ k, k < 19 → l.getD k false = true := fun k hk => hl k (by rw [lbfRn]; exact hk)
    obtain ⟨e13, hr13, hs13⟩ : c.tmps.getD 22 undef = .tuple #[.agg #[sv], .int .i64 er] ∧ TreeRow wx base sv T' ∧ Setted T T' er := hI.fact 13 22 rfl (hh 13 (by decide))
    have e16 : c.tmps.getD 6 undef = .pointer (some ⟨N, 0, none⟩) ∧ ∃ x, Holds wx N #[x] 25 := hI.fact 16 6 rfl (hh 16 (by decide))
    have h17 : Holds wx N #[sv] 25 := hI.2.2.2 17 (by rw [lbfRn]; decide) (hh 17 (by decide))
    have e18 : c.tmps.getD 7 undef = .int .i64 er := hI.fact 18 7 rfl (hh 18 (by decide))
    exact hQ c wx sv er T' N hI.1 hI.2.1 e16.1 h17 e18 hr13 hs13 hNq
  intro l c wx hI i' op ho hl hall K' hK'
  obtain ⟨sv, er, T', N, hI, hNq⟩ := hI
  have hNb : N ≠ b := by omega
  have hi13 : i' < 19 := by rw [← lbfRn]; exact (Array.getElem?_eq_some_iff.1 ho).1
  simp only [lbfOps, regOps, Tryz.f8, Option.getD_some, reduceIte, Nat.reduceEqDiff] at ho
  have HS := Lib.hid hI.2.1
  have s0 := (hI.slot 3 (by kernel_rfl)).trans a0
  have s5 := (hI.slot 4 (by kernel_rfl)).trans a5
  simp only [Array.getD_eq_getD_getElem?] at s0 s5
  have hic : i' = 0 ∨ i' = 1 ∨ i' = 2 ∨ i' = 3 ∨ i' = 4 ∨ i' = 5 ∨ i' = 6 ∨ i' = 7 ∨ i' = 8 ∨ i' = 9 ∨ i' = 10 ∨ i' = 11 ∨ i' = 12 ∨ i' = 13 ∨ i' = 14 ∨ i' = 15 ∨ i' = 16 ∨ i' = 17 ∨ i' = 18 := by omega
  rcases hic with rfl | rfl | rfl | rfl | rfl | rfl | rfl | rfl | rfl | rfl | rfl | rfl | rfl | rfl | rfl | rfl | rfl | rfl | rfl
  all_goals cases ho
  · have hX := HS.out.2.2.1.cell 0
    go_simp
    exact hK' _ _ ⟨sv, er, T', N, hI.step lbfRa 0 23 rfl (by rw [hsz]; decide) _ _ rfl hall HS.out (fun _ _ h => h) rfl, hNq⟩
  · have hX := HS.out.2.2.1.cell 0
    go_simp
    exact hK' _ _ ⟨sv, er, T', N, hI.step lbfRa 1 24 rfl (by rw [hsz]; decide) _ _ rfl hall HS.out (fun _ _ h => h) rfl, hNq⟩
  · go_simp
    exact hK' _ _ ⟨sv, er, T', N, hI.step lbfRa 2 25 rfl (by rw [hsz]; decide) _ _ rfl hall HS.out (fun _ _ h => h) rfl, hNq⟩
  · go_simp
    exact hK' _ _ ⟨sv, er, T', N, hI.step lbfRa 3 26 rfl (by rw [hsz]; decide) _ _ rfl hall HS.out (fun _ _ h => h) rfl, hNq⟩
  · have e3 : c.tmps.getD 26 undef = .pointer (some ⟨Z, 0, none⟩) := hI.fact 3 26 rfl (listed hall 3 (by kernel_rfl))
    simp only [Array.getD_eq_getD_getElem?] at e3
    have hX : wx.cell? ⟨Z, 0, none⟩ = some v := HS.out.2.2.1.cell 0
    have hZl := HS.out.2.2.1.lt
    obtain ⟨va, vc, hv⟩ := HS.out.2.1.slice
    subst hv
    go_simp
    exact hK' _ _ ⟨sv, er, T', N, hI.step lbfRa 4 27 rfl (by rw [hsz]; decide) _ _ rfl hall HS.out (fun _ _ h => h) rfl, hNq⟩
  · have e4 : c.tmps.getD 27 undef = v := hI.fact 4 27 rfl (listed hall 4 (by kernel_rfl))
    simp only [Array.getD_eq_getD_getElem?] at e4
    obtain ⟨va, vc, hv⟩ := HS.out.2.1.slice
    subst hv
    go_simp
    exact hK' _ _ ⟨sv, er, T', N, hI.step lbfRa 5 28 rfl (by rw [hsz]; decide) _ _ rfl hall HS.out (fun _ _ h => h) rfl, hNq⟩
  · have e2 : c.tmps.getD 25 undef = .pointer (some ⟨b, 0, none⟩) := hI.fact 2 25 rfl (listed hall 2 (by kernel_rfl))
    simp only [Array.getD_eq_getD_getElem?] at e2
    have e5 : c.tmps.getD 28 undef = .int .i64 (T.length : Int) := hI.fact 5 28 rfl (listed hall 5 (by kernel_rfl))
    simp only [Array.getD_eq_getD_getElem?] at e5
    go_simp
    refine (mk_N B b (T.length : Int) wx HS.out.1 (by omega) (by omega)).mono ?_
    rintro e w2 ⟨r, rfl, hr1, hr2, ht2, k2⟩
    go_simp
    have hS2 := HS.out.call hZb k2 ht2
    exact hK' _ _ ⟨sv, er, T', N, hI.step lbfRa 6 29 rfl (by rw [hsz]; decide) _ _ rfl hall hS2 (fun _ _ h => LbfF.keeps h HS.out.1 k2 hNb) ⟨r, rfl, hr1, hr2⟩, hNq⟩
  · have e1 : c.tmps.getD 24 undef = .agg #[v] := hI.fact 1 24 rfl (listed hall 1 (by kernel_rfl))
    simp only [Array.getD_eq_getD_getElem?] at e1
    obtain ⟨r, e6, hr1, hr2⟩ : ∃ r : Int, c.tmps.getD 29 undef = .int .i64 r ∧ 0 ≤ r ∧ r < (T.length : Int) := hI.fact 6 29 rfl (listed hall 6 (by kernel_rfl))
    simp only [Array.getD_eq_getD_getElem?] at e6
    obtain ⟨k, rfl⟩ : ∃ k : Nat, r = (k : Int) := ⟨r.toNat, by omega⟩
    go_simp
    refine (ref3_Path _ _ T (k : Int) wx HS.out.2.1.in).mono ?_
    rintro e w2 ⟨rfl, hb2⟩
    go_simp
    have k2 := Keeps.of_fresh hb2 (fun i => i = b)
    have hS2 := HS.out.call hZb k2 (HS.out.1.new hb2)
    exact hK' _ _ ⟨sv, er, T', N, hI.step lbfRa 7 30 rfl (by rw [hsz]; decide) _ _ rfl hall hS2 (fun _ _ h => LbfF.keeps h HS.out.1 k2 hNb) ⟨_, rfl⟩, hNq⟩
  · go_simp
    exact hK' _ _ ⟨sv, er, T', N, hI.step lbfRa 8 31 rfl (by rw [hsz]; decide) _ _ rfl hall HS.out (fun _ _ h => h) rfl, hNq⟩
  · have e8 : c.tmps.getD 31 undef = .pointer (some ⟨b, 0, none⟩) := hI.fact 8 31 rfl (listed hall 8 (by kernel_rfl))
    simp only [Array.getD_eq_getD_getElem?] at e8
    go_simp
    refine (mk_Property B b wx HS.out.1).mono ?_
    rintro e w2 ⟨s, rfl, hs, ht2, k2⟩
    go_simp
    have hS2 := HS.out.call hZb k2 ht2
    exact hK' _ _ ⟨sv, er, T', N, hI.step lbfRa 9 32 rfl (by rw [hsz]; decide) _ _ rfl hall hS2 (fun _ _ h => LbfF.keeps h HS.out.1 k2 hNb) ⟨s, rfl, lProperty_sz s hs⟩, hNq⟩
  · go_simp
    exact hK' _ _ ⟨sv, er, T', N, hI.step lbfRa 10 33 rfl (by rw [hsz]; decide) _ _ rfl hall HS.out (fun _ _ h => h) rfl, hNq⟩
  · have e10 : c.tmps.getD 33 undef = .pointer (some ⟨b, 0, none⟩) := hI.fact 10 33 rfl (listed hall 10 (by kernel_rfl))
    simp only [Array.getD_eq_getD_getElem?] at e10
    go_simp
    refine (grow_Value B b wx HS.out.1).mono ?_
    rintro e w2 ⟨s, rfl, hs, ht2, k2⟩
    go_simp
    have hS2 := HS.out.call hZb k2 ht2
    exact hK' _ _ ⟨sv, er, T', N, hI.step lbfRa 11 34 rfl (by rw [hsz]; decide) _ _ rfl hall hS2 (fun _ _ h => LbfF.keeps h HS.out.1 k2 hNb) ⟨s, rfl, hs⟩, hNq⟩
  · have e0 : c.tmps.getD 23 undef = .agg #[v] := hI.fact 0 23 rfl (listed hall 0 (by kernel_rfl))
    simp only [Array.getD_eq_getD_getElem?] at e0
    obtain ⟨s, e7⟩ : ∃ s, c.tmps.getD 30 undef = .string s := hI.fact 7 30 rfl (listed hall 7 (by kernel_rfl))
    simp only [Array.getD_eq_getD_getElem?] at e7
    obtain ⟨nm, e9, hnm⟩ : ∃ s : ByteArray, c.tmps.getD 32 undef = .string s ∧ s.size ≤ 100 := hI.fact 9 32 rfl (listed hall 9 (by kernel_rfl))
    simp only [Array.getD_eq_getD_getElem?] at e9
    obtain ⟨vl, e11, hvl⟩ : ∃ s : ByteArray, c.tmps.getD 34 undef = .string s ∧ s.size ≤ 100 := hI.fact 11 34 rfl (listed hall 11 (by kernel_rfl))
    simp only [Array.getD_eq_getD_getElem?] at e11
    go_simp
    refine (ref3_Set _ _ T s nm vl wx HS.out.2.1.in (by omega) (by omega)).mono ?_
    rintro e w2 ⟨v2, rfl, hr2, hb2⟩
    go_simp
    have k2 := Keeps.of_fresh hb2 (fun i => i = b)
    have hS2 := HS.out.call hZb k2 (HS.out.1.new hb2)
    have hr3 := hr2.base (Nat.le_trans hbase HS.out.2.2.2.size)
    have hst : Setted T (setT T s nm vl).1 (setT T s nm vl).2 := fun e => ⟨s, nm, vl, hnm, hvl, e, rfl⟩
    have u13 := hI.2.2.1.2.unlisted hl (j := 13) (by kernel_rfl)
    have u14 := hI.2.2.1.2.unlisted u13 (j := 14) (by kernel_rfl)
    have u15 := hI.2.2.1.2.unlisted u13 (j := 15) (by kernel_rfl)
    have u17 := hI.2.2.1.2.unlisted u14 (j := 17) (by kernel_rfl)
    have u18 := hI.2.2.1.2.unlisted u15 (j := 18) (by kernel_rfl)
    have hJ := hI.other (F' := LbfF b base Z v T v2 (setT T s nm vl).2 (setT T s nm vl).1 N) (fun j hj u hF => hF.ghost (yes_no hj hl) (yes_no hj u13) (yes_no hj u14) (yes_no hj u15) (yes_no hj u17) (yes_no hj u18))
    exact hK' _ _ ⟨v2, (setT T s nm vl).2, (setT T s nm vl).1, N, hJ.step lbfRa 12 35 rfl (by rw [hsz]; decide) _ _ rfl hall hS2 (fun _ _ h => LbfF.keeps h HS.out.1 k2 hNb) ⟨rfl, hr3, hst⟩, hNq⟩
  · obtain ⟨e12, hr12, hs12⟩ : c.tmps.getD 35 undef = .tuple #[.agg #[sv], .int .i64 er] ∧ TreeRow wx base sv T' ∧ Setted T T' er := hI.fact 12 35 rfl (listed hall 12 (by kernel_rfl))
    simp only [Array.getD_eq_getD_getElem?] at e12
    go_simp
    exact hK' _ _ ⟨sv, er, T', N, hI.step lbfRa 13 22 rfl (by rw [hsz]; decide) _ _ rfl hall HS.out (fun _ _ h => h) ⟨rfl, hr12, hs12⟩, hNq⟩
  · obtain ⟨e13, hr13, hs13⟩ : c.tmps.getD 22 undef = .tuple #[.agg #[sv], .int .i64 er] ∧ TreeRow wx base sv T' ∧ Setted T T' er := hI.fact 13 22 rfl (listed hall 13 (by kernel_rfl))
    simp only [Array.getD_eq_getD_getElem?] at e13
    go_simp
    exact hK' _ _ ⟨sv, er, T', N, hI.step lbfRa 14 36 rfl (by rw [hsz]; decide) _ _ rfl hall HS.out (fun _ _ h => h) rfl, hNq⟩
  · obtain ⟨e13, hr13, hs13⟩ : c.tmps.getD 22 undef = .tuple #[.agg #[sv], .int .i64 er] ∧ TreeRow wx base sv T' ∧ Setted T T' er := hI.fact 13 22 rfl (listed hall 13 (by kernel_rfl))
    simp only [Array.getD_eq_getD_getElem?] at e13
    go_simp
    exact hK' _ _ ⟨sv, er, T', N, hI.step lbfRa 15 37 rfl (by rw [hsz]; decide) _ _ rfl hall HS.out (fun _ _ h => h) rfl, hNq⟩
  · go_simp
    have hb2 : Below wx.heap.size wx (wx.alloc (.cells #[.slice none 0 0] 25)) := (Below.refl _ _).alloc (Nat.le_refl _) _
    have k2 := Keeps.of_fresh hb2 (fun i => i = b)
    have hS2 := HS.out.call hZb k2 (HS.out.1.new hb2)
    have u17 := hI.2.2.1.2.unlisted hl (j := 17) (by kernel_rfl)
    have hNn : wx.heap.size ≠ b := by have := HS.out.1.lt; omega
    have hNm : W.heap.size ≤ wx.heap.size := HS.out.2.2.2.size
    have hJ := hI.other (F' := LbfF b base Z v T sv er T' wx.heap.size) (fun j hj u hF => hF.ghostN (yes_no hj hl) (yes_no hj u17))
    exact hK' _ _ ⟨sv, er, T', wx.heap.size, hJ.step lbfRa 16 6 rfl (by rw [hsz]; decide) _ _ rfl hall hS2 (fun _ _ h => LbfF.keeps h HS.out.1 k2 hNn) ⟨rfl, _, Holds.new _ _ _⟩, hNm⟩
  · obtain ⟨e16, x, hHN⟩ : c.tmps.getD 6 undef = .pointer (some ⟨N, 0, none⟩) ∧ ∃ x, Holds wx N #[x] 25 := hI.fact 16 6 rfl (listed hall 16 (by kernel_rfl))
    simp only [Array.getD_eq_getD_getElem?] at e16
    have e14 : c.tmps.getD 36 undef = .agg #[sv] := hI.fact 14 36 rfl (listed hall 14 (by kernel_rfl))
    simp only [Array.getD_eq_getD_getElem?] at e14
    have u0 := hHN.cell 0
    have u1 := hHN.free 0
    obtain ⟨e13, hr13, hs13⟩ : c.tmps.getD 22 undef = .tuple #[.agg #[sv], .int .i64 er] ∧ TreeRow wx base sv T' ∧ Setted T T' er := hI.fact 13 22 rfl (by
      have p14 := listed hall 14 (by kernel_rfl)
      cases p13 : l.getD 13 false with
      | true => rfl
      | false => rw [hI.2.2.1.2.unlisted p13 (j := 14) (by kernel_rfl)] at p14; cases p14)
    obtain ⟨a2, c2, rfl⟩ := hr13.slice
    have n0 : wx.cell? ⟨N, 0, none⟩ = some x := u0
    have n1 : wx.frozen? ⟨N, 0, none⟩ = false := u1
    go_simp
    exact hK' _ _ ⟨.slice a2 T'.length c2, er, T', N, hI.stepN 17 rfl _ rfl hall (HS.out.store hHN hNq hZW hbW hBW) (fun _ _ h => h.store hHN) (hHN.set 0 _), hNq⟩
  · have e15 : c.tmps.getD 37 undef = .int .i64 er := hI.fact 15 37 rfl (listed hall 15 (by kernel_rfl))
    simp only [Array.getD_eq_getD_getElem?] at e15
    go_simp
    exact hK' _ _ ⟨sv, er, T', N, hI.step lbfRa 18 7 rfl (by rw [hsz]; decide) _ _ rfl hall HS.out (fun _ _ h => h) rfl, hNq⟩
end Go.Proofs.YtofhcgbihonckaaGreatDoor
