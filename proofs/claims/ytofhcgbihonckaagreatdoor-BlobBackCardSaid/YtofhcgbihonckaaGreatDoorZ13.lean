/- blob: region 20 of encode (printed by gblb.py). | Contracts of package blob: encode (the world of it, in lemmas). | Contracts of package blob: encode. | Contracts of package blob: Encode; get; the reader's fail, fits, number. | Contracts of package blob: the reader's fits, number, text, string. -/
import Derived.Test.YtofhcgbihonckaaGreatDoorZ11
import Derived.Test.YtofhcgbihonckaaGreatDoorZ9
import Derived.Test.YtofhcgbihonckaaGreatDoorZ2
import Derived.IntWalk
import Derived.Test.YtofhcgbihonckaaGreatDoorZ3
import Derived.Deep.LoopGhost
import Derived.Test.YtofhcgbihonckaaGreatDoorZ7
import Derived.Test.YtofhcgbihonckaaGreatDoorZ6
import Derived.Deep.QuietTactic
import Derived.BigQuiet
import Derived.Deep.RegionWith
import Derived.Deep.RegionHeld3

set_option linter.unusedVariables false
set_option linter.unusedSimpArgs false
set_option linter.unusedSectionVars false

namespace Go.Proofs.YtofhcgbihonckaaGreatDoor
open Go.RowKit
open Go.ChangeMaps
noncomputable def bjOps : Array Oper := (regOps (Tryz.f33.body.getD .skip) 20).getD #[]
theorem bjR : inRow2 .any bjOps = true := by kernel_rfl
theorem bjRa : apartB bjOps = true := by kernel_rfl
theorem bjRn : bjOps.size = 12 := by kernel_rfl
theorem bj_keep {W w w2 : World} {base wb mb vb : Nat} {sv tv hv v v2 : Value} {st : List UInt8} {N : List ByteArray} (hG : Grew W w hv v) (hG2 : Grew w w2 v v2) (hWb : wb < W.heap.size ∧ vb < W.heap.size ∧ mb < W.heap.size) (hWs : ∀ g, sv.ownBlock = some g → g < W.heap.size) (hWt : ∀ g, tv.ownBlock = some g → g < W.heap.size)
    (hap : ∀ g, hv.ownBlock = some g → g ≠ wb ∧ g ≠ vb ∧ g ≠ mb ∧ sv.ownBlock ≠ some g ∧ tv.ownBlock ≠ some g) (hV : Holds w vb #[.pointer (some ⟨wb, 0, none⟩)] 99) (hW : WrAt w base wb mb sv tv st N) : Holds w2 vb #[.pointer (some ⟨wb, 0, none⟩)] 99 ∧ WrAt w2 base wb mb sv tv st N := by
  have key : ∀ g, v.ownBlock = some g → g ≠ wb ∧ g ≠ vb ∧ g ≠ mb ∧ sv.ownBlock ≠ some g ∧ tv.ownBlock ≠ some g := by
    intro g hg
    rcases hG.2 g hg with e | e
    · exact hap g e
    · exact ⟨by omega, by omega, by omega, fun k => by have := hWs g k; omega, fun k => by have := hWt g k; omega⟩
  exact ⟨hV.keeps hG2.1 (fun e => (key _ e).2.1 rfl), hW.keeps hG2.1 (fun e => (key _ e).1 rfl) (fun e => (key _ e).2.2.1 rfl) (fun g hg e => (key _ e).2.2.2.1 hg) (fun g hg e => (key _ e).2.2.2.2 hg)⟩
def BjF (_ _ wb _ : Nat) (sa ta : Option Addr) (sc tc : Nat) (st : List UInt8) (N : List ByteArray) (ha : Option Addr) (hc0 : Nat) (hd : List UInt8) (v1 : Value) (v2 : Value) (j : Nat) : Value → World → Prop := match j with
  | 0 => fun u _ => u = (.slice ha hd.length hc0)
  | 1 => fun u _ => u = .pointer (some ⟨wb, 0, none⟩)
  | 2 => fun u _ => u = .pointer (some ⟨wb, 0, none⟩)
  | 3 => fun u _ => u = .pointer (some ⟨wb, 0, none⟩)
  | 4 => fun u _ => u = (.slice sa st.length sc)
  | 5 => fun u _ => u = v1
  | 6 => fun u _ => u = .pointer (some ⟨wb, 0, none⟩)
  | 7 => fun u _ => u = .pointer (some ⟨wb, 0, none⟩)
  | 8 => fun u _ => u = .pointer (some ⟨wb, 1, none⟩)
  | 9 => fun u _ => u = (.slice ta (strsT N).length tc)
  | 10 => fun u _ => u = v2
  | 11 => fun u _ => u = v2
  | _ => fun _ _ => True
/-- What holds until the chain's end. -/
def BjC (base vb wb mb : Nat) (sa ta : Option Addr) (sc tc : Nat) (st : List UInt8) (N : List ByteArray) (_ : Option Addr) (_ : Nat) (_ : List UInt8) (_ w : World) : Prop := (Holds w vb #[.pointer (some ⟨wb, 0, none⟩)] 99) ∧ WrAt w base wb mb (.slice sa st.length sc) (.slice ta (strsT N).length tc) st N
/-- Where the chain stands. -/
def BjE (base _ _ _ : Nat) (_ _ : Option Addr) (_ _ : Nat) (st : List UInt8) (N : List ByteArray) (ha : Option Addr) (hc0 : Nat) (hd : List UInt8) (v1 : Value) (v2 : Value) (W w : World) (l : Array Bool) : Prop :=
  if l.getD 5 false = false then (Bts w base (.slice ha hd.length hc0) hd ∧ Grew W w (.slice ha hd.length hc0) (.slice ha hd.length hc0)) else
  if l.getD 10 false = false then (Bts w base v1 (hd ++ st) ∧ Grew W w (.slice ha hd.length hc0) v1) else
  Bts w base v2 (hd ++ st ++ strsT N) ∧ Grew W w (.slice ha hd.length hc0) v2
section
variable {base vb wb mb : Nat} {sa ta : Option Addr} {sc tc : Nat} {st : List UInt8} {N : List ByteArray} {ha : Option Addr} {hc0 : Nat} {hd : List UInt8} {v1 : Value} {v2 : Value} {W w : World} {l : Array Bool}
theorem BjE.other {j : Nat} (h : BjE base vb wb mb sa ta sc tc st N ha hc0 hd v1 v2 W w l) (n0 : j ≠ 5) (n1 : j ≠ 10) : BjE base vb wb mb sa ta sc tc st N ha hc0 hd v1 v2 W w (l.setIfInBounds j true) := by
  unfold BjE at h ⊢
  rw [set_other n0, set_other n1]
  exact h
theorem BjE.at0 (h : BjE base vb wb mb sa ta sc tc st N ha hc0 hd v1 v2 W w l)  (no : l.getD 5 false = false) : Bts w base (.slice ha hd.length hc0) hd ∧ Grew W w (.slice ha hd.length hc0) (.slice ha hd.length hc0) := by
  unfold BjE at h
  rw [no, if_pos rfl] at h
  exact h
theorem BjE.to0  (hs : 5 < l.size) (no : l.getD 10 false = false) (h : Bts w base v1 (hd ++ st) ∧ Grew W w (.slice ha hd.length hc0) v1) : BjE base vb wb mb sa ta sc tc st N ha hc0 hd v1 v2 W w (l.setIfInBounds 5 true) := by
  unfold BjE
  rw [set_here hs, if_neg (by simp)]
  rw [set_other (show 5 ≠ 10 by decide), no, if_pos rfl]
  exact h
theorem BjE.at1 (h : BjE base vb wb mb sa ta sc tc st N ha hc0 hd v1 v2 W w l) (y0 : l.getD 5 false = true) (no : l.getD 10 false = false) : Bts w base v1 (hd ++ st) ∧ Grew W w (.slice ha hd.length hc0) v1 := by
  unfold BjE at h
  rw [y0, if_neg (by simp)] at h
  rw [no, if_pos rfl] at h
  exact h
theorem BjE.to1 (y0 : l.getD 5 false = true) (hs : 10 < l.size) (h : Bts w base v2 (hd ++ st ++ strsT N) ∧ Grew W w (.slice ha hd.length hc0) v2) : BjE base vb wb mb sa ta sc tc st N ha hc0 hd v1 v2 W w (l.setIfInBounds 10 true) := by
  unfold BjE
  rw [set_other (show 10 ≠ 5 by decide), y0, if_neg (by simp)]
  rw [set_here hs, if_neg (by simp)]
  exact h
theorem BjF.ghost0 {v1' : Value} {j : Nat} {u : Value} (h : BjF base vb wb mb sa ta sc tc st N ha hc0 hd v1 v2 j u w) (n0 : j ≠ 5) : BjF base vb wb mb sa ta sc tc st N ha hc0 hd v1' v2 j u w := by
  unfold BjF at *
  split at h
  all_goals first
    | exact h
    | exact absurd rfl n0
theorem BjF.ghost1 {v2' : Value} {j : Nat} {u : Value} (h : BjF base vb wb mb sa ta sc tc st N ha hc0 hd v1 v2 j u w) (n0 : j ≠ 10) (n1 : j ≠ 11) : BjF base vb wb mb sa ta sc tc st N ha hc0 hd v1 v2' j u w := by
  unfold BjF at *
  split at h
  all_goals first
    | exact h
    | exact absurd rfl n0
    | exact absurd rfl n1
theorem BjF.world {j : Nat} {u : Value} {w' : World} (h : BjF base vb wb mb sa ta sc tc st N ha hc0 hd v1 v2 j u w) : BjF base vb wb mb sa ta sc tc st N ha hc0 hd v1 v2 j u w' := by
  unfold BjF at *
  split at h
  all_goals exact h
end

set_option maxHeartbeats 8000000 in
set_option maxRecDepth 100000 in
theorem bj_region20 {Q : Exit → Act → World → Prop} (base vb wb mb : Nat) (sa ta : Option Addr) (sc tc : Nat) (st : List UInt8) (N : List ByteArray) (ha : Option Addr) (hc0 : Nat) (hd : List UInt8) (W w : World) (A : Act) (hsz : A.tmps.size = 132) (hst : st.length ≤ 900000000) (hsn : (strsT N).length ≤ 900000000) (hhd : hd.length ≤ 900000000) (hbase : base ≤ W.heap.size) (hWb : wb < W.heap.size ∧ vb < W.heap.size ∧ mb < W.heap.size) (hWs : ∀ g, Value.ownBlock (.slice sa st.length sc) = some g → g < W.heap.size) (hWt : ∀ g, Value.ownBlock (.slice ta (strsT N).length tc) = some g → g < W.heap.size) (hap : ∀ g, Value.ownBlock (.slice ha hd.length hc0) = some g → g ≠ wb ∧ g ≠ vb ∧ g ≠ mb ∧ Value.ownBlock (.slice sa st.length sc) ≠ some g ∧ Value.ownBlock (.slice ta (strsT N).length tc) ≠ some g)
    (a3 : A.tmps.getD 3 undef = .pointer (some ⟨vb, 0, none⟩)) (a10 : A.tmps.getD 10 undef = (.slice ha hd.length hc0)) (hC0 : BjC base vb wb mb sa ta sc tc st N ha hc0 hd W w) (hE0 : Bts w base (.slice ha hd.length hc0) hd ∧ Grew W w (.slice ha hd.length hc0) (.slice ha hd.length hc0))
    (hQ : ∀ c w' (v1 : Value) (v2 : Value), SameBut bjOps A c → c.tmps.getD 2 undef = v2 → BjC base vb wb mb sa ta sc tc st N ha hc0 hd W w' → (Bts w' base v2 (hd ++ st ++ strsT N) ∧ Grew W w' (.slice ha hd.length hc0) v2) → Q .normal c w') :
    wpAny Tryz.prog .any bjOps Q bjOps.size (Array.replicate bjOps.size false) A w := by
  refine wpAny_inv2 (fun l c wx => ∃ v1 v2, RInvF bjOps A (BjF base vb wb mb sa ta sc tc st N ha hc0 hd v1 v2) (fun _ => True) l c wx ∧ BjC base vb wb mb sa ta sc tc st N ha hc0 hd W wx ∧ BjE base vb wb mb sa ta sc tc st N ha hc0 hd v1 v2 W wx l) bjR ?hend ?hstep _ _ _ _ (by simp) (by simp) ⟨.slice none 0 0, .slice none 0 0, RInvF.start trivial, hC0, by unfold BjE; rw [if_pos (rep_no _ _)]; exact hE0⟩
  case hend =>
    rintro l c wx ⟨v1, v2, hI, hC, hE⟩ hl
    have hh : ∀ k, k < 12 → l.getD k false = true := fun k hk => hl k (by rw [bjRn]; exact hk)
    have hEm : Bts wx base v2 (hd ++ st ++ strsT N) ∧ Grew W wx (.slice ha hd.length hc0) v2 := by
      unfold BjE at hE
      rw [hh 5 (by decide), if_neg (by simp)] at hE
      rw [hh 10 (by decide), if_neg (by simp)] at hE
      exact hE
    exact hQ c wx v1 v2 hI.1.1 (hI.fact 11 2 rfl (hh 11 (by decide))) hC hEm
  intro l c wx hIx i' op ho hl hall K' hK'
  obtain ⟨v1, v2, hI, hC, hE⟩ := hIx
  have hls : l.size = 12 := by rw [hI.1.2.2.1.1, bjRn]
  have hi' : i' < 12 := by rw [← bjRn]; exact (Array.getElem?_eq_some_iff.1 ho).1
  have ho2 := ho
  simp only [bjOps, regOps, Tryz.f33, Option.getD_some, reduceIte, Nat.reduceEqDiff] at ho
  have s3 := (hI.slot 3 (by kernel_rfl)).trans a3
  have s10 := (hI.slot 10 (by kernel_rfl)).trans a10
  have fs := And.intro True.intro True.intro
  simp only [Array.getD_eq_getD_getElem?] at s3 s10
  have hic : i' = 0 ∨ i' = 1 ∨ i' = 2 ∨ i' = 3 ∨ i' = 4 ∨ i' = 5 ∨ i' = 6 ∨ i' = 7 ∨ i' = 8 ∨ i' = 9 ∨ i' = 10 ∨ i' = 11 := by omega
  clear hi'
  rcases hic with rfl | rfl | rfl | rfl | rfl | rfl | rfl | rfl | rfl | rfl | rfl | rfl
  all_goals cases ho
  · go_simp
    exact hK' _ _ ⟨v1, v2, hI.step bjRa 0 121 rfl (by rw [hsz]; decide) _ _ ho2 hall trivial (fun _ _ h => h) rfl, hC, hE.other (by decide) (by decide)⟩
  · have hc := hC
    have x0 := hc.1.cell 0
    go_simp
    exact hK' _ _ ⟨v1, v2, hI.step bjRa 1 122 rfl (by rw [hsz]; decide) _ _ ho2 hall trivial (fun _ _ h => h) rfl, hC, hE.other (by decide) (by decide)⟩
  · have e1 : c.tmps.getD 122 undef = .pointer (some ⟨wb, 0, none⟩) := hI.fact 1 122 rfl (hI.1.2.2.1.2.yes_far 12 ho2 hall (by decide) (by kernel_rfl))
    have f1 := e1
    simp only [Array.getD_eq_getD_getElem?] at e1
    go_simp
    exact hK' _ _ ⟨v1, v2, hI.step bjRa 2 123 rfl (by rw [hsz]; decide) _ _ ho2 hall trivial (fun _ _ h => h) rfl, hC, hE.other (by decide) (by decide)⟩
  · have e2 : c.tmps.getD 123 undef = .pointer (some ⟨wb, 0, none⟩) := hI.fact 2 123 rfl (hI.1.2.2.1.2.yes_far 12 ho2 hall (by decide) (by kernel_rfl))
    have f2 := e2
    simp only [Array.getD_eq_getD_getElem?] at e2
    go_simp
    exact hK' _ _ ⟨v1, v2, hI.step bjRa 3 124 rfl (by rw [hsz]; decide) _ _ ho2 hall trivial (fun _ _ h => h) rfl, hC, hE.other (by decide) (by decide)⟩
  · have e3 : c.tmps.getD 124 undef = .pointer (some ⟨wb, 0, none⟩) := hI.fact 3 124 rfl (hI.1.2.2.1.2.yes_far 12 ho2 hall (by decide) (by kernel_rfl))
    have f3 := e3
    simp only [Array.getD_eq_getD_getElem?] at e3
    have hc := hC
    have x0 := hc.2.holds.cell 0
    go_simp
    exact hK' _ _ ⟨v1, v2, hI.step bjRa 4 125 rfl (by rw [hsz]; decide) _ _ ho2 hall trivial (fun _ _ h => h) rfl, hC, hE.other (by decide) (by decide)⟩
  · have e0 : c.tmps.getD 121 undef = (.slice ha hd.length hc0) := hI.fact 0 121 rfl (hI.1.2.2.1.2.yes_far 12 ho2 hall (by decide) (by kernel_rfl))
    have f0 := e0
    simp only [Array.getD_eq_getD_getElem?] at e0
    have e4 : c.tmps.getD 125 undef = (.slice sa st.length sc) := hI.fact 4 125 rfl (hI.1.2.2.1.2.yes_far 12 ho2 hall (by decide) (by kernel_rfl))
    have f4 := e4
    simp only [Array.getD_eq_getD_getElem?] at e4
    have hc := hC
    have hp := hE.at0  hl
    have un := hI.1.2.2.1.2.no_far 12 hl (by kernel_rfl : farB bjOps 12 10 5 = true)
    obtain ⟨i0, hi, hz0, hz1, hz2⟩ := info_parts infoByte
    refine step_append_src wx rfl (.tmp 121) (.tmp 125) 26 26 rfl base 5 i0 (.int .u8 0) 1 1 Tryz.underlying26 hi hz0 hz1 hz2 rfl (.slice ha hd.length hc0) hd.length (Lib.byteCells hd) (by exact f0) (by exact hp.1) _ (by exact f4) st.length (Lib.byteCells st) hc.2.s.read.src (by unfold maxLen; omega) (by omega) (Nat.le_trans hbase hp.2.1.size) ?_
    intro v7 w2 hown hgrow hat
    have hG2 : Grew wx w2 (.slice ha hd.length hc0) v7 := Grew.of hgrow hat
    have hp2 : Bts w2 base v7 (hd ++ st) ∧ Grew W w2 (.slice ha hd.length hc0) v7 := ⟨by unfold Bts; rw [show Lib.byteCells (hd ++ st) = Lib.byteCells hd ++ Lib.byteCells st from by simp [Lib.byteCells], List.length_append]; exact hown, hp.2.trans hG2⟩
    have hc2 : BjC base vb wb mb sa ta sc tc st N ha hc0 hd W w2 := bj_keep hp.2 hG2 hWb hWs hWt hap hc.1 hc.2
    have hJ : RInvF bjOps A (BjF base vb wb mb sa ta sc tc st N ha hc0 hd (v7) v2) (fun _ => True) l c wx := ⟨hI.1.other (fun j hj u hF => BjF.ghost0 hF (yes_no hj hl)), hI.2⟩
    exact hK' _ _ ⟨v7, _, hJ.step bjRa 5 126 rfl (by rw [hsz]; decide) _ _ ho2 hall trivial (fun _ _ h => BjF.world h) rfl, hc2, BjE.to0  (by rw [hls]; decide) un hp2⟩
  · have hc := hC
    have x0 := hc.1.cell 0
    go_simp
    exact hK' _ _ ⟨v1, v2, hI.step bjRa 6 127 rfl (by rw [hsz]; decide) _ _ ho2 hall trivial (fun _ _ h => h) rfl, hC, hE.other (by decide) (by decide)⟩
  · have e6 : c.tmps.getD 127 undef = .pointer (some ⟨wb, 0, none⟩) := hI.fact 6 127 rfl (hI.1.2.2.1.2.yes_far 12 ho2 hall (by decide) (by kernel_rfl))
    have f6 := e6
    simp only [Array.getD_eq_getD_getElem?] at e6
    go_simp
    exact hK' _ _ ⟨v1, v2, hI.step bjRa 7 128 rfl (by rw [hsz]; decide) _ _ ho2 hall trivial (fun _ _ h => h) rfl, hC, hE.other (by decide) (by decide)⟩
  · have e7 : c.tmps.getD 128 undef = .pointer (some ⟨wb, 0, none⟩) := hI.fact 7 128 rfl (hI.1.2.2.1.2.yes_far 12 ho2 hall (by decide) (by kernel_rfl))
    have f7 := e7
    simp only [Array.getD_eq_getD_getElem?] at e7
    go_simp
    exact hK' _ _ ⟨v1, v2, hI.step bjRa 8 129 rfl (by rw [hsz]; decide) _ _ ho2 hall trivial (fun _ _ h => h) rfl, hC, hE.other (by decide) (by decide)⟩
  · have e8 : c.tmps.getD 129 undef = .pointer (some ⟨wb, 1, none⟩) := hI.fact 8 129 rfl (hI.1.2.2.1.2.yes_far 12 ho2 hall (by decide) (by kernel_rfl))
    have f8 := e8
    simp only [Array.getD_eq_getD_getElem?] at e8
    have hc := hC
    have x0 := hc.2.holds.cell 1
    go_simp
    exact hK' _ _ ⟨v1, v2, hI.step bjRa 9 130 rfl (by rw [hsz]; decide) _ _ ho2 hall trivial (fun _ _ h => h) rfl, hC, hE.other (by decide) (by decide)⟩
  · have e5 : c.tmps.getD 126 undef = v1 := hI.fact 5 126 rfl (hI.1.2.2.1.2.yes_far 12 ho2 hall (by decide) (by kernel_rfl))
    have f5 := e5
    simp only [Array.getD_eq_getD_getElem?] at e5
    have e9 : c.tmps.getD 130 undef = (.slice ta (strsT N).length tc) := hI.fact 9 130 rfl (hI.1.2.2.1.2.yes_far 12 ho2 hall (by decide) (by kernel_rfl))
    have f9 := e9
    simp only [Array.getD_eq_getD_getElem?] at e9
    have hc := hC
    have y0 : l.getD 5 false = true := hI.1.2.2.1.2.yes_far 12 ho2 hall (by decide) (by kernel_rfl)
    have hp := hE.at1 y0 hl
    have hhl : (hd ++ st).length ≤ 1800000000 := by rw [List.length_append]; omega
    obtain ⟨i0, hi, hz0, hz1, hz2⟩ := info_parts infoByte
    refine step_append_src wx rfl (.tmp 126) (.tmp 130) 26 26 rfl base 5 i0 (.int .u8 0) 1 1 Tryz.underlying26 hi hz0 hz1 hz2 rfl v1 (hd ++ st).length (Lib.byteCells (hd ++ st)) (by exact f5) (by exact hp.1) _ (by exact f9) (strsT N).length (Lib.byteCells (strsT N)) hc.2.t.read.src (by unfold maxLen; omega) (by omega) (Nat.le_trans hbase hp.2.1.size) ?_
    intro v7 w2 hown hgrow hat
    have hG2 : Grew wx w2 v1 v7 := Grew.of hgrow hat
    have hp2 : Bts w2 base v7 (hd ++ st ++ strsT N) ∧ Grew W w2 (.slice ha hd.length hc0) v7 := ⟨by unfold Bts; rw [show Lib.byteCells (hd ++ st ++ strsT N) = Lib.byteCells (hd ++ st) ++ Lib.byteCells (strsT N) from by simp [Lib.byteCells], show (hd ++ st ++ strsT N).length = (hd ++ st).length + (strsT N).length from List.length_append]; exact hown, hp.2.trans hG2⟩
    have hc2 : BjC base vb wb mb sa ta sc tc st N ha hc0 hd W w2 := bj_keep hp.2 hG2 hWb hWs hWt hap hc.1 hc.2
    have u11 := hI.1.2.2.1.2.no_far 12 hl (by kernel_rfl : farB bjOps 12 11 10 = true)
    have hJ : RInvF bjOps A (BjF base vb wb mb sa ta sc tc st N ha hc0 hd v1 (v7)) (fun _ => True) l c wx := ⟨hI.1.other (fun j hj u hF => BjF.ghost1 hF (yes_no hj hl) (yes_no hj u11)), hI.2⟩
    exact hK' _ _ ⟨_, v7, hJ.step bjRa 10 131 rfl (by rw [hsz]; decide) _ _ ho2 hall trivial (fun _ _ h => BjF.world h) rfl, hc2, BjE.to1 y0 (by rw [hls]; decide) hp2⟩
  · have e10 : c.tmps.getD 131 undef = v2 := hI.fact 10 131 rfl (hI.1.2.2.1.2.yes_far 12 ho2 hall (by decide) (by kernel_rfl))
    have f10 := e10
    simp only [Array.getD_eq_getD_getElem?] at e10
    go_simp
    exact hK' _ _ ⟨v1, v2, hI.step bjRa 11 2 rfl (by rw [hsz]; decide) _ _ ho2 hall trivial (fun _ _ h => h) rfl, hC, hE.other (by decide) (by decide)⟩
end Go.Proofs.YtofhcgbihonckaaGreatDoor

namespace Go.Proofs.YtofhcgbihonckaaGreatDoor
open Go.RowKit Go.ChangeMaps

section
variable {w w' : World} {base ob vb wb mb : Nat} {ov sv tv sv' tv' : Value} {opn : List Nat} {st st' : List UInt8} {N N' : List ByteArray}
/-- The blocks of the writer. -/
def WrS (wb mb : Nat) (sv tv : Value) (g : Nat) : Prop := g = wb ∨ g = mb ∨ sv.ownBlock = some g ∨ tv.ownBlock = some g
theorem WrAt.not (h : WrAt w base wb mb sv tv st N) {b : Nat} {xs : Array Value} {t : TypeId} (hb : Holds w b xs t) (ht : t ≠ 102) (hu : t ≠ 5) : ¬ WrS wb mb sv tv b := by
  rintro (e | e | e | e)
  · exact holds_apart hb h.holds ht e
  · exact holds_not_map hb h.m e
  · exact bts_not h.s hb hu e
  · exact bts_not h.t hb hu e
theorem WrAt.low (h : WrAt w base wb mb sv tv st N) {g : Nat} (hg : WrS wb mb sv tv g) : base ≤ g := by
  rcases hg with rfl | rfl | e | e
  · exact h.lb.1
  · exact h.lb.2
  · exact (bts_holds h.s e).1
  · exact (bts_holds h.t e).1
theorem EncAt.turn (h : EncAt w base ob vb wb mb ov sv tv opn st N) (k : Keeps (WrS wb mb sv tv) w w') (hW : WrAt w' base wb mb sv' tv' st' N') : EncAt w' base ob vb wb mb ov sv' tv' opn st' N' := by
  refine ⟨h.o.keeps k (h.wr.not h.o (by decide) (by decide)), ownsRow_keeps h.r k (fun g hg => ?_), h.v.keeps k (h.wr.not h.v (by decide) (by decide)), hW, h.lb⟩
  rintro (e | e | e | e)
  · exact row_not h.r h.wr.holds (by decide) (by rw [hg, e])
  · exact row_not_map h.r h.wr.m (by rw [hg, e])
  · obtain ⟨xs, hx⟩ := (bts_holds h.wr.s e).2
    exact row_not h.r hx (by decide) hg
  · obtain ⟨xs, hx⟩ := (bts_holds h.wr.t e).2
    exact row_not h.r hx (by decide) hg
theorem EncAt.fresh (h : EncAt w base ob vb wb mb ov sv tv opn st N) (k : Keeps (fun _ => False) w w') : EncAt w' base ob vb wb mb ov sv tv opn st N :=
  ⟨h.o.keeps k (fun e => e), ownsRow_keeps h.r k (fun _ _ e => e), h.v.keeps k (fun e => e), h.wr.keeps k (fun e => e) (fun e => e) (fun _ _ e => e) (fun _ _ e => e), h.lb⟩
/-- Behind a store of the structure. -/
theorem WrAt.stored {w1 : World} (h : WrAt w base wb mb sv tv st N) (hw : w' = w1.setCell ⟨wb, 0, none⟩ sv') (hb : Bts w1 base sv' st') (hG : Grew w w1 sv sv') : WrAt w' base wb mb sv' tv st' N ∧ Keeps (WrS wb mb sv tv) w w' := by
  subst hw
  refine ⟨h.grew hG hb, ?_⟩
  exact (hG.1.mono (fun _ _ e => .inr (.inr (.inl e)))).trans ((Keeps.refl (· = wb) w1).setCell (p := ⟨wb, 0, none⟩) (.inr rfl) _) (fun _ _ e => .inl e)
end
theorem EncAt.push {w w1 : World} {base ob vb wb mb i : Nat} {ov ov' sv tv : Value} {opn : List Nat} {st : List UInt8} {N : List ByteArray} (h : EncAt w base ob vb wb mb ov sv tv opn st N) (k : Keeps (fun g => ov.ownBlock = some g) w w1) (hr : w1.ownsRow base 3 1 ov' (i :: opn).length (opnCells (i :: opn))) :
    EncAt (w1.setCell ⟨ob, 0, none⟩ ov') base ob vb wb mb ov' sv tv (i :: opn) st N ∧ Keeps (fun g => g = ob ∨ ov.ownBlock = some g) w (w1.setCell ⟨ob, 0, none⟩ ov') := by
  have no : ov.ownBlock ≠ some ob := row_not h.r h.o (by decide)
  have hO := h.o.keeps k no
  have kst : Keeps (· = ob) w1 (w1.setCell ⟨ob, 0, none⟩ ov') := (Keeps.refl (· = ob) w1).setCell (p := ⟨ob, 0, none⟩) (.inr rfl) _
  have hV := h.v.keeps k (row_not h.r h.v (by decide))
  have hW := h.wr.keeps k (row_not h.r h.wr.holds (by decide)) (row_not_map h.r h.wr.m) (fun g hg e => by
    obtain ⟨xs, hx⟩ := (bts_holds h.wr.s hg).2
    exact row_not h.r hx (by decide) e) (fun g hg e => by
    obtain ⟨xs, hx⟩ := (bts_holds h.wr.t hg).2
    exact row_not h.r hx (by decide) e)
  refine ⟨⟨hO.set 0 ov', ownsRow_keeps hr kst (fun g hg e => row_not hr hO (by decide) (by rw [hg, e])), hV.keeps kst (fun e => holds_apart hO hV (by decide) e.symm), hW.other hO (by decide) (by decide) kst, h.lb⟩, ?_⟩
  exact (k.mono (fun _ _ e => .inr e)).trans kst (fun _ _ e => .inl e)
theorem infoInt8 : (Tryz.prog.info? 3).map (fun i => (i.zero, i.size, i.bytes)) = some (some (.int .i64 0), 1, 8) := by kernel_rfl
theorem enc_start (w : World) (o : Obj) (n1 n2 n3 n4 : Nat) (e1 : n1 = w.heap.size + 1) (e2 : n2 = n1 + 1) (e3 : n3 = n2 + 1) (e4 : n4 = n3 + 1) :
    EncAt (((((w.alloc o).alloc (.map #[] 0)).alloc (.cells #[.slice none 0 0, .slice none 0 0, .map (some n1)] 102)).alloc (.cells #[.pointer (some ⟨n2, 0, none⟩)] 99)).alloc (.cells #[.slice none 0 0] 22)) w.heap.size n4 n3 n2 n1 (.slice none 0 0) (.slice none 0 0) (.slice none 0 0) [] [] [] := by
  have s1 : (w.alloc o).heap.size = n1 := by simp [e1]
  have hm : NumsAt ((w.alloc o).alloc (.map #[] 0)) n1 [] := by have := NumsAt.new (w.alloc o); rwa [s1] at this
  have s2 : ((w.alloc o).alloc (.map #[] 0)).heap.size = n2 := by simp; omega
  have hw := Holds.new ((w.alloc o).alloc (.map #[] 0)) #[.slice none 0 0, .slice none 0 0, .map (some n1)] 102
  rw [s2] at hw
  have hm2 := hm.keeps ((Keeps.refl (fun _ => False) _).alloc (.cells #[.slice none 0 0, .slice none 0 0, .map (some n1)] 102)) (fun e => e)
  generalize h3 : ((w.alloc o).alloc (.map #[] 0)).alloc (.cells #[.slice none 0 0, .slice none 0 0, .map (some n1)] 102) = w3 at *
  have s3 : w3.heap.size = n3 := by rw [← h3]; simp; omega
  have hv := Holds.new w3 #[.pointer (some ⟨n2, 0, none⟩)] 99
  rw [s3] at hv
  have s4 : (w3.alloc (.cells #[.pointer (some ⟨n2, 0, none⟩)] 99)).heap.size = n4 := by simp; omega
  have ho := Holds.new (w3.alloc (.cells #[.pointer (some ⟨n2, 0, none⟩)] 99)) #[.slice none 0 0] 22
  rw [s4] at ho
  have k : Keeps (fun _ => False) w3 ((w3.alloc (.cells #[.pointer (some ⟨n2, 0, none⟩)] 99)).alloc (.cells #[.slice none 0 0] 22)) := ((Keeps.refl _ w3).alloc _).alloc _
  exact ⟨ho, World.ownsRow_nil _ _ _ _, hv.alloc _, ⟨hw.keeps k (fun e => e), Bts.nil _ _, Bts.nil _ _, hm2.keeps k (fun e => e), .nil, fun g e => by simp [Value.ownBlock] at e, ⟨by omega, by omega⟩⟩, ⟨by omega, by omega⟩⟩
/-- What is known of a tree that encode takes. -/
structure EncOk (T : List NodeT) : Prop where
  len : T.length ≤ 1000
  tot : (encodeT T).length ≤ 100000000
  par : ∀ n ∈ T, -1 ≤ n.parent ∧ n.parent ≤ 1000
  nm : ∀ n ∈ T, n.name.size ≤ 1000
  pr : ∀ n ∈ T, n.props.length ≤ 1000 ∧ ∀ p ∈ n.props, p.name.size ≤ 1000 ∧ p.value.size ≤ 1000
set_option maxRecDepth 100000 in
theorem encOk_check {T : List NodeT} (hc : checkT T = 0) : EncOk T := by
  obtain ⟨hlim, hn, _, _, _⟩ := check_parts hc
  have hl : 1 ≤ T.length ∧ T.length ≤ 120 ∧ ∀ n ∈ T, fitB n = true := by
    unfold limitsT at hlim
    simp only [Bool.and_eq_true, decide_eq_true_eq, List.all_eq_true] at hlim
    exact ⟨hlim.1.1, hlim.1.2, hlim.2⟩
  have hp : ∀ n ∈ T, ∀ p ∈ n.props, p.name.size ≤ 32 := by
    intro n hn' p hp
    obtain ⟨k, hk, rfl⟩ := List.getElem_of_mem hn'
    have := List.all_eq_true.1 (named_at T 0 hn k hk).2 p hp
    unfold propB propT at this
    have e : p.name.data.toList.length = p.name.size := Array.length_toList
    split at this
    · rw [Bool.and_eq_true] at this
      have h2 := this.1
      unfold nameT at h2
      simp only [Bool.and_eq_true, decide_eq_true_eq] at h2
      have := h2.1.1.2
      simp at this
      omega
    · rw [Bool.and_eq_true] at this
      have h2 := this.1
      unfold nameT at h2
      simp only [Bool.and_eq_true, decide_eq_true_eq] at h2
      have := h2.1.1.2
      omega
  have hf : ∀ n ∈ T, n.props.length ≤ 24 ∧ ∀ p ∈ n.props, p.value.size ≤ 256 := by
    intro n hn'
    have := hl.2.2 n hn'
    unfold fitB at this
    simp only [Bool.and_eq_true, decide_eq_true_eq, List.all_eq_true] at this
    exact this
  have hb : ∀ n ∈ T, bulkP n.props ≤ 24 * 308 := by
    intro n hn'
    have h1 : ∀ (l : List PropT), (∀ p ∈ l, bulk1 p ≤ 308) → bulkP l ≤ l.length * 308 := by
      intro l
      induction l with
      | nil => intro _; simp [bulkP]
      | cons p l ih =>
        intro h
        have := ih (fun q hq => h q (by simp [hq]))
        have := h p (by simp)
        rw [bulkP_cons, List.length_cons]
        omega
    have := h1 n.props (fun p hp' => by have := hp n hn' p hp'; have := (hf n hn').2 p hp'; unfold bulk1; omega)
    have := (hf n hn').1
    omega
  have hbt : ∀ (U : List NodeT), (∀ n ∈ U, bulkP n.props ≤ 7392) → bulkT U ≤ U.length * 7392 := by
    intro U
    induction U with
    | nil => intro _; simp [bulkT]
    | cons n U ih =>
      intro h
      have h1 := ih (fun q hq => h q (by simp [hq]))
      have h2 := h n (by simp)
      have hB : bulkT (n :: U) = bulkP n.props + bulkT U := by simp only [bulkT, List.map_cons, List.sum_cons]
      rw [hB, List.length_cons]
      omega
  have hB := hbt T hb
  have hE := encode_bulk hc
  refine ⟨by omega, by omega, fun n hn' => ?_, fun n hn' => ?_, fun n hn' => ⟨by have := (hf n hn').1; omega, fun p hp' => ⟨by have := hp n hn' p hp'; omega, by have := (hf n hn').2 p hp'; omega⟩⟩⟩
  · obtain ⟨k, hk, rfl⟩ := List.getElem_of_mem hn'
    obtain ⟨a, b⟩ := named_par hn k hk
    rcases Nat.eq_zero_or_pos k with h0 | h0
    · rw [a h0]; omega
    · have := b h0; omega
  · obtain ⟨k, hk, rfl⟩ := List.getElem_of_mem hn'
    have := name_size hn k hk
    omega
end Go.Proofs.YtofhcgbihonckaaGreatDoor

namespace Go.Proofs.YtofhcgbihonckaaGreatDoor
open Go.RowKit Go.ChangeMaps

/-- What a function answers that gives bytes of its own. -/
def BtsPost (l : List UInt8) (w : World) (e : Ending) (w' : World) : Prop := ∃ v, e = .returned v ∧ Bts w' w.heap.size v l ∧ Below w.heap.size w w'
/-- Where encode stands ahead of node i. -/
structure EncL (T : List NodeT) (W w : World) (ob vb wb mb i : Nat) (opn : List Nat) (st : List UInt8) (N : List ByteArray) : Prop where
  ex : ∃ ov sv tv, EncAt w W.heap.size ob vb wb mb ov sv tv opn st N
  bel : Below W.heap.size W w
  str : st ++ nodesB i opn N (T.drop i) = nodesB 0 [] [] T
  nam : nodesN N (T.drop i) = nodesN [] T
  opl : opn.length ≤ i
  opb : ∀ o ∈ opn, o ≤ 1000
theorem EncL.sizes {T : List NodeT} {W w : World} {ob vb wb mb i : Nat} {opn : List Nat} {st : List UInt8} {N : List ByteArray} (h : EncL T W w ob vb wb mb i opn st N) (hT : EncOk T) : st.length ≤ 100000000 ∧ (strsT N).length ≤ 100000000 := by
  have h1 := hT.tot
  rw [encodeT_len] at h1
  have h2 : (nodesB 0 [] [] T).length = nodesSz T := by rw [nodesB_len]; simp
  have h3 := congrArg List.length h.str
  rw [List.length_append, h2] at h3
  obtain ⟨M, hM⟩ := nodesN_pre (T.drop i) N
  rw [h.nam] at hM
  have h4 : (strsT (nodesN [] T)).length = (strsT N).length + (strsT M).length := by rw [hM, strs_len_app]
  omega
/-- Where encode stands ahead of property k. -/
structure EncP (ps : List PropT) (sP : List UInt8) (nP : List ByteArray) (W w : World) (ob vb wb mb k : Nat) (opn : List Nat) (st : List UInt8) (N : List ByteArray) : Prop where
  ex : ∃ ov sv tv, EncAt w W.heap.size ob vb wb mb ov sv tv opn st N
  bel : Below W.heap.size W w
  str : st ++ propsB N (ps.drop k) = sP
  nam : propsN N (ps.drop k) = nP
theorem EncP.sizes {ps : List PropT} {sP : List UInt8} {nP : List ByteArray} {W w : World} {ob vb wb mb k : Nat} {opn : List Nat} {st : List UInt8} {N : List ByteArray} (h : EncP ps sP nP W w ob vb wb mb k opn st N) (h1 : sP.length ≤ 100000000) (h2 : (strsT nP).length ≤ 100000000) : st.length ≤ 100000000 ∧ (strsT N).length ≤ 100000000 := by
  have h3 := congrArg List.length h.str
  rw [List.length_append] at h3
  obtain ⟨M, hM⟩ := propsN_pre (ps.drop k) N
  rw [h.nam] at hM
  have h4 : (strsT nP).length = (strsT N).length + (strsT M).length := by rw [hM, strs_len_app]
  omega
set_option maxRecDepth 100000 in
set_option maxHeartbeats 8000000 in
theorem blob_encode (R : Nat → Prop) (v : Value) (T : List NodeT) (w : World) (hL : NodesIn R w v T) (hT : EncOk T) :
    Calls Tryz.prog 33 #[.agg #[v]] w (BtsPost (encodeT T) w) := by
  obtain ⟨va, vc, rfl, hc1, hc2⟩ := hL.shape
  have HL := Lib.hid hL
  have HT := Lib.hid hT
  have htl := hT.len
  clear hL hT
  go_enter Tryz.func33, Tryz.ntmps33
  have hmk := fun wx => run_makeMap (P := Tryz.prog) 100 wx
  go_wp2_with fail
  obtain ⟨mb, hmb⟩ : ∃ n, n = w.heap.size + 1 := ⟨_, rfl⟩
  obtain ⟨wb, hwb⟩ : ∃ n, n = mb + 1 := ⟨_, rfl⟩
  obtain ⟨vb, hvb⟩ : ∃ n, n = wb + 1 := ⟨_, rfl⟩
  obtain ⟨ob, hob⟩ : ∃ n, n = vb + 1 := ⟨_, rfl⟩
  have hE0 := enc_start w (.cells #[.slice va T.length vc] 25) mb wb vb ob hmb hwb hvb hob
  rw [← hmb, ← hwb, ← hvb, ← hob]
  have hb5 : Below w.heap.size w (((((w.alloc (.cells #[.slice va T.length vc] 25)).alloc (.map #[] 0)).alloc (.cells #[.slice none 0 0, .slice none 0 0, .map (some mb)] 102)).alloc (.cells #[.pointer (some ⟨wb, 0, none⟩)] 99)).alloc (.cells #[.slice none 0 0] 22)) :=
    (((((Below.refl _ _).alloc (Nat.le_refl _) _).alloc (by simp) _).alloc (by simp; omega) _).alloc (by simp; omega) _).alloc (by simp; omega) _
  generalize ((((w.alloc (.cells #[.slice va T.length vc] 25)).alloc (.map #[] 0)).alloc (.cells #[.slice none 0 0, .slice none 0 0, .map (some mb)] 102)).alloc (.cells #[.pointer (some ⟨wb, 0, none⟩)] 99)).alloc (.cells #[.slice none 0 0] 22) = w5 at *
  have HI0 := Lib.hid (show EncL T w w5 ob vb wb mb 0 [] [] [] from ⟨⟨_, _, _, hE0⟩, hb5, by simp, by simp, by simp, by simp⟩)
  clear hE0 hb5 hmb hwb hvb hob
  go_loopg [18] T.length (fun f x wr => ∃ (i : Nat) (opn : List Nat) (st : List UInt8) (N : List ByteArray), x = .int .i64 i ∧ i ≤ T.length ∧ T.length ≤ i + f ∧ EncL T w wr ob vb wb mb i opn st N)
  case atStart => exact ⟨0, [], [], [], rfl, by omega, by omega, HI0.out⟩
  case round =>
    obtain ⟨i, opn, st, N, rfl, hi1, hi2, hE⟩ := hrel
    obtain ⟨hs1, hs2⟩ := hE.sizes HT.out
    obtain ⟨ov, sv, tv, hA⟩ := hE.ex
    have hbel := hE.bel
    have hbs := hbel.size
    by_cases hlt : i < T.length
    · obtain ⟨g, o, pa, pc, hva, hg, k0, k1, k2, hpr, hpc1, hpc2, -, -, -⟩ := HL.out.at i hlt
      subst hva
      obtain ⟨nd, hnd⟩ : ∃ nd, nd = T[i] := ⟨_, rfl⟩
      have hmem : nd ∈ T := by rw [hnd]; exact List.getElem_mem hlt
      rw [← hnd] at k0 k1 k2 hpr hpc1
      have hpar := HT.out.par nd hmem
      have hnm := HT.out.nm nd hmem
      obtain ⟨hpl, hps⟩ := HT.out.pr nd hmem
      have hdr := Lib.hid (show T.drop i = nd :: T.drop (i + 1) from by rw [hnd]; exact List.drop_eq_getElem_cons hlt)
      have c0 := (hbel.cell (p := ⟨g, o + i * 3, none⟩) hg).trans k0
      have c1 := (hbel.cell (p := ⟨g, o + i * 3 + 1, none⟩) hg).trans k1
      have c2 := (hbel.cell (p := ⟨g, o + i * 3 + 2, none⟩) hg).trans k2
      have hgr : g < wr.heap.size := by omega
      have HPR := Lib.hid hpr
      have HPS := Lib.hid hps
      have HEL := Lib.hid hE
      have hol := hE.opl
      have hob := Lib.hid hE.opb
      have hA1 := hA.fresh ((Keeps.refl (fun _ => False) wr).alloc (.cells #[.int .i64 nd.parent, .string nd.name, .slice pa nd.props.length pc] 52))
      have hN1 := Holds.new wr #[.int .i64 nd.parent, .string nd.name, .slice pa nd.props.length pc] 52
      have HB := Lib.hid hbel
      clear k0 k1 k2 hnd hpr hps hE hA hbel
      obtain ⟨par, nm, ps⟩ := nd
      simp only at c0 c1 c2 hpar hnm hpl hpc1 hA1 hN1 HPR HPS hdr
      go_wp2_with fail
      obtain ⟨nb, hnb⟩ : ∃ nb, nb = wr.heap.size := ⟨_, rfl⟩
      rw [← hnb] at hN1 ⊢
      have kb1 : Below w.heap.size w (wr.alloc (.cells #[.int .i64 par, .string nm, .slice pa ps.length pc] 52)) := HB.out.alloc HB.out.size _
      have HNB := Lib.hid hnb
      clear c0 c1 c2 hnb
      generalize wr.alloc (.cells #[.int .i64 par, .string nm, .slice pa ps.length pc] 52) = w1 at *
      refine (blob_close w.heap.size ob vb wb mb ov sv tv opn st N par _ hA1 (by omega) (by omega) kb1.size hpar hob.out).mono ?_
      rintro e w2 ⟨ov2, sv2, rfl, hA2, hK2, hO2⟩
      have hN2 := hN1.keeps hK2 (by
        rintro (e | e | e)
        · exact holds_apart hN1 hA1.o (by decide) e
        · exact holds_apart hN1 hA1.wr.holds (by decide) e
        · exact bts_not hA1.wr.s hN1 (by decide) e)
      have kb2 : Below w.heap.size w w2 := kb1.trans (hK2.below kb1.size (by
        rintro i hi (e | e | e)
        · have := hA1.lb.1; omega
        · have := hA1.wr.lb.1; omega
        · have := (bts_holds hA1.wr.s e).1; omega))
      have hcl := (closeR_drop opn par).2
      obtain ⟨o2, ho2⟩ : ∃ o2, o2 = closeR opn par := ⟨_, rfl⟩
      rw [← ho2] at hA2 hcl
      have HO2 := Lib.hid ho2
      have HA1 := Lib.hid hA1
      clear ho2 hA1 hN1 hK2
      obtain ⟨oa, oc, rfl⟩ : ∃ a c, ov2 = .slice a o2.length c := bytes_shape hA2.r
      have x0 : w2.cell? ⟨ob, 0, none⟩ = some (.slice oa o2.length oc) := hA2.o.cell 0
      have x0f := hA2.o.free 0
      have xl := hA2.o.lt
      have hrow := hA2.r
      have HA2 := Lib.hid hA2
      have hbs2 := kb2.size
      clear hA2
      obtain ⟨i0, hi, hz0, hz1, hz2⟩ := info_parts infoInt8
      go_wp2_with (at_builtin; refine wpList_append_src _ rfl _ _ 22 22 rfl w.heap.size 3 i0 (.int .i64 0) 1 8 Tryz.underlying22 hi hz0 hz1 hz2 rfl _ o2.length (opnCells o2) rfl (by exact World.ownsRow.alloc hrow _) _ rfl 1 [.int .i64 i] ?c1 ?c2 ?c3 ?c4 ?_)
      case c1 => exact Src.ofSlice _ Tryz.underlying22 _ 1 1 _ rfl (new_cells _ _ _ _ rfl _ rfl) (fun u hu => by simp at hu; rcases hu with rfl; rfl)
      case c2 => unfold maxLen; omega
      case c3 => omega
      case c4 => first | omega | (simp; omega)
      intro v3 w3 hown3 hgrow3 _
      have k3 : Keeps (fun g => Value.ownBlock (.slice oa o2.length oc) = some g) w2 w3 := ((Keeps.refl _ w2).alloc _).trans (Keeps.of_grown hgrow3 (fun i e => e)) (fun _ _ e => e)
      have hrow3 : w3.ownsRow w.heap.size 3 1 v3 (i :: o2).length (opnCells (i :: o2)) := by rw [opnCells_cons]; exact hown3
      obtain ⟨a3, q3, rfl⟩ : ∃ a c, v3 = .slice a (o2.length + 1) c := bytes_shape hown3
      have hO3 := HA2.out.o.keeps k3 (row_not HA2.out.r HA2.out.o (by decide))
      have y0 : w3.cell? ⟨ob, 0, none⟩ = some (.slice oa o2.length oc) := hO3.cell 0
      have y0f := hO3.free 0
      have yl := hO3.lt
      obtain ⟨hA4, hK4⟩ := HA2.out.push k3 hrow3
      have hN4 := hN2.keeps hK4 (by
        rintro (e | e)
        · exact holds_apart hN2 HA2.out.o (by decide) e
        · exact row_not HA2.out.r hN2 (by decide) e)
      have kb4 := kb2.trans (hK4.below kb2.size (by
        rintro i hi (e | e)
        · have := HA2.out.lb.1; omega
        · have := (HA2.out.r.lt _ e).1; omega))
      clear hown3 hgrow3 k3 hrow3 hO3 hK4 hN2 x0 x0f xl hrow
      go_wp2_with fail
      generalize w3.setCell ⟨ob, 0, none⟩ (.slice a3 (o2.length + 1) q3) = w4 at *
      have hbs4 := kb4.size
      have HB4 := Lib.hid kb4
      have HA4 := Lib.hid hA4
      have HN4 := Lib.hid hN4
      obtain ⟨s4, hs4⟩ : ∃ s4, s4 = st ++ closeB opn par := ⟨_, rfl⟩
      have hs4l : s4.length ≤ 100004000 := by
        rw [hs4, List.length_append]; unfold closeB; rw [leaves_len]; omega
      rw [← hs4] at HA4
      have HS4 := Lib.hid hs4
      clear kb4 hA4 hN4 hs4 y0 y0f yl
      refine wp_region_any (by kernel_rfl) ?_
      refine wpAny_ops (ops' := bgOps) (by kernel_rfl) ?_
      refine bg_region9 w.heap.size vb wb mb nb sv2 tv (.slice pa ps.length pc) par nm s4 (s4 ++ b4 1) (s4 ++ b4 1 ++ padT 1 nm.data.toList) N w4 _ _ rfl HA4.out.wr (by omega) hnm rfl rfl (by omega) rfl rfl ⟨HA4.out.v.drew, HA4.out.wr.holds.drew, HN4.out.drew⟩ ((Keeps.refl _ w4).drew) ?_
      rintro c w5 nB sv5 sv6 hsb ⟨w6, hw6, hb6, hG6⟩
      obtain ⟨hW6, hK6⟩ := HA4.out.wr.stored hw6 hb6 hG6
      have hA6 := HA4.out.turn hK6 hW6
      have hN6 := HN4.out.keeps hK6 (HA4.out.wr.not HN4.out (by decide) (by decide))
      have kb6 := HB4.out.trans (hK6.below hbs4 (fun i hi e => by have := HA4.out.wr.low e; omega))
      obtain ⟨y31, y32, y33, y34, y35, y36, y37, y38, y39, y40, y41, y42, rfl⟩ := hsb.ex [31, 32, 33, 34, 35, 36, 37, 38, 39, 40, 41, 42] (by kernel_rfl)
      simp only [List.setIfInBounds_toArray, List.set_cons_zero, List.set_cons_succ]
      clear hw6 hb6 hG6 hW6 hK6 hsb
      have z2 : w5.cell? ⟨nb, 2, none⟩ = some (.slice pa ps.length pc) := hN6.cell 2
      have zl := hN6.lt
      have HA6 := Lib.hid hA6
      have HB6 := Lib.hid kb6
      clear hA6 kb6 hN6
      go_wp2_with fail
      obtain ⟨sP, hsP⟩ : ∃ sP, sP = s4 ++ b4 1 ++ padT 1 nm.data.toList ++ propsB N ps := ⟨_, rfl⟩
      obtain ⟨nP, hnP⟩ : ∃ nP, nP = propsN N ps := ⟨_, rfl⟩
      have hstr2 : sP ++ nodesB (i + 1) (i :: o2) nP (T.drop (i + 1)) = nodesB 0 [] [] T := by
        rw [← HEL.out.str, hdr.out, nodesB, hsP, hnP, HS4.out, HO2.out]
        simp only [List.append_assoc]
      have hnam2 : nodesN nP (T.drop (i + 1)) = nodesN [] T := by rw [← HEL.out.nam, hdr.out, nodesN, hnP]
      have hEL2 : EncL T w w5 ob vb wb mb i opn st N → True := fun _ => trivial
      have hsPl : sP.length ≤ 100000000 ∧ (strsT nP).length ≤ 100000000 := by
        have h1 := HT.out.tot
        rw [encodeT_len] at h1
        have h2 : (nodesB 0 [] [] T).length = nodesSz T := by rw [nodesB_len]; simp
        have h3 := congrArg List.length hstr2
        rw [List.length_append, h2] at h3
        obtain ⟨M, hM⟩ := nodesN_pre (T.drop (i + 1)) nP
        rw [hnam2] at hM
        have h4 : (strsT (nodesN [] T)).length = (strsT nP).length + (strsT M).length := by rw [hM, strs_len_app]
        omega
      have HP0 := Lib.hid (show EncP ps sP nP w w5 ob vb wb mb 0 (i :: o2) (s4 ++ b4 1 ++ padT 1 nm.data.toList) N from ⟨⟨_, _, _, HA6.out⟩, HB6.out, by rw [hsP]; rfl, by rw [hnP]; rfl⟩)
      have HSTR := Lib.hid hstr2
      have HNAM := Lib.hid hnam2
      have HSPL := Lib.hid hsPl
      clear hsP hnP hstr2 hnam2 hEL2 hsPl z2 zl
      obtain ⟨go, rfl⟩ : ∃ x : Nat, x = gk := ⟨_, rfl⟩
      obtain ⟨wo, rfl⟩ : ∃ x : World, x = wr := ⟨_, rfl⟩
      go_loopg [46] ps.length (fun f x wr => ∃ (k : Nat) (s5 : List UInt8) (N5 : List ByteArray), x = .int .i64 k ∧ k ≤ ps.length ∧ ps.length ≤ k + f ∧ EncP ps sP nP w wr ob vb wb mb k (i :: o2) s5 N5)
      case atStart => exact ⟨0, _, N, rfl, by omega, by omega, HP0.out⟩
      case round =>
        obtain ⟨k, s5, N5, rfl, hk1, hk2, hE⟩ := hrel
        obtain ⟨hs5, hn5⟩ := hE.sizes HSPL.out.1 HSPL.out.2
        obtain ⟨ov7, sv7, tv7, hA⟩ := hE.ex
        have hbel := hE.bel
        have hbs7 := hbel.size
        by_cases hkl : k < ps.length
        · obtain ⟨pg, po, hpa, hpg, k0, k1, -, -⟩ := HPR.out.at k hkl
          subst hpa
          obtain ⟨hpn, hvl⟩ := HPS.out ps[k] (List.getElem_mem hkl)
          have hdp := Lib.hid (List.drop_eq_getElem_cons hkl)
          have c0 := (hbel.cell (p := ⟨pg, po + k * 2, none⟩) hpg).trans k0
          have c1 := (hbel.cell (p := ⟨pg, po + k * 2 + 1, none⟩) hpg).trans k1
          have hpgr : pg < wr.heap.size := by omega
          have HE := Lib.hid hE
          have HA := Lib.hid hA
          have HB7 := Lib.hid hbel
          clear k0 k1 hE hA hbel
          generalize ps[k] = pr at *
          obtain ⟨pn, vl⟩ := pr
          simp only at hpn hvl c0 c1 hdp
          go_wp2_with fail
          have hA8 := HA.out.fresh ((Keeps.refl (fun _ => False) wr).alloc (.cells #[.string pn, .string vl] 54))
          have hQ8 := Holds.new wr #[.string pn, .string vl] 54
          have kb8 : Below w.heap.size w (wr.alloc (.cells #[.string pn, .string vl] 54)) := HB7.out.alloc HB7.out.size _
          obtain ⟨qb, hqb⟩ : ∃ qb, qb = wr.heap.size := ⟨_, rfl⟩
          rw [← hqb] at hQ8 ⊢
          have HQB := Lib.hid hqb
          clear c0 c1 hqb
          generalize wr.alloc (.cells #[.string pn, .string vl] 54) = w8 at *
          have hbs8 := kb8.size
          have HB8 := Lib.hid kb8
          have HA8 := Lib.hid hA8
          have HQ8 := Lib.hid hQ8
          obtain ⟨N6, hN6⟩ : ∃ N6, N6 = addN N5 pn := ⟨_, rfl⟩
          have hpre6 := propsN_pre (ps.drop (k + 1)) N6
          have hpl6 : plcB N6 pn < 4294967296 := by
            obtain ⟨M, hM⟩ := hpre6
            have e1 : propsN N6 (ps.drop (k + 1)) = nP := by rw [← HE.out.nam, hdp.out, propsN, hN6]
            have e2 : (strsT nP).length = (strsT N6).length + (strsT M).length := by rw [← e1, hM, strs_len_app]
            obtain ⟨_, _, e3⟩ := addN_pre N5 pn
            have := place_lt (N := N6) (n := pn) (by rw [hN6]; exact e3)
            have := HSPL.out.2
            omega
          have HN6 := Lib.hid hN6
          clear kb8 hA8 hQ8 hN6 hpre6
          refine wp_region_any (by kernel_rfl) ?_
          refine wpAny_ops (ops' := bhOps) (by kernel_rfl) ?_
          refine bh_region13 w.heap.size vb wb mb qb sv7 tv7 pn vl s5 (s5 ++ (b4 3 ++ b4 vl.size ++ b4 (plcB N6 pn))) (s5 ++ (b4 3 ++ b4 vl.size ++ b4 (plcB N6 pn)) ++ padT 0 vl.data.toList) N5 N6 w8 _ _ rfl HA8.out.wr (by omega) hpn hvl (by omega) HN6 rfl rfl hpl6 (by omega) rfl rfl ⟨HA8.out.v.drew, ⟨_, HA8.out.wr.holds.drew⟩, HQ8.out.drew⟩ ((Keeps.refl _ w8).drew) ?_
          rintro c w9 tv9 nB9 W9 sv8 sv9 hsb ⟨⟨hW1, hK1, hO1⟩, w10, hw10, hb10, hG10⟩
          obtain ⟨hW9, hK9⟩ := hW1.stored hw10 hb10 hG10
          have hK89 : Keeps (WrS wb mb sv7 tv7) w8 w9 := (hK1.mono (fun j _ e => by rcases e with e | e | e; exact .inl e; exact .inr (.inl e); exact .inr (.inr (.inr e)))).trans hK9 (fun j hj e => by
            rcases e with e | e | e | e
            · exact .inl e
            · exact .inr (.inl e)
            · exact .inr (.inr (.inl e))
            · rcases hO1 j e with e | e
              · exact .inr (.inr (.inr e))
              · omega)
          have hA9 := HA8.out.turn hK89 hW9
          have kb9 := HB8.out.trans (hK89.below hbs8 (fun j hj e => by have := HA8.out.wr.low e; omega))
          have hEP : EncP ps sP nP w w9 ob vb wb mb (k + 1) (i :: o2) (s5 ++ (b4 3 ++ b4 vl.size ++ b4 (plcB N6 pn)) ++ padT 0 vl.data.toList) N6 := ⟨⟨_, _, _, hA9⟩, kb9, by
            rw [← HE.out.str, hdp.out, propsB]
            unfold propB4
            rw [← HN6.out]
            simp only [List.append_assoc], by rw [← HE.out.nam, hdp.out, propsN, HN6.out]⟩
          obtain ⟨y50, y51, y52, y53, y54, y55, y56, y57, y58, y59, y60, y61, y62, y63, y64, y65, y66, y67, y68, rfl⟩ := hsb.ex [50, 51, 52, 53, 54, 55, 56, 57, 58, 59, 60, 61, 62, 63, 64, 65, 66, 67, 68] (by kernel_rfl)
          simp only [List.setIfInBounds_toArray, List.set_cons_zero, List.set_cons_succ]
          have HEP := Lib.hid hEP
          clear hw10 hb10 hG10 hW9 hK9 hK89 hA9 kb9 hEP hW1 hK1 hO1 hsb
          go_wp2_with fail
          go_roundg (gk - 1)
          case measure => omega
          case rel => exact ⟨k + 1, _, N6, by go_num, by omega, by omega, HEP.out⟩
        · have hkk : k = ps.length := by omega
          have hfin : EncL T w wr ob vb wb mb (i + 1) (i :: o2) sP nP := by
            have e1 : s5 = sP := by rw [← hE.str, hkk, List.drop_length]; simp [propsB]
            have e2 : N5 = nP := by rw [← hE.nam, hkk, List.drop_length]; rfl
            have h1 := HSTR.out
            have h2 := HNAM.out
            rw [← e1, ← e2] at h1
            rw [← e2] at h2
            rw [← e1, ← e2]
            exact ⟨⟨_, _, _, hA⟩, hbel, h1, h2, by simp only [List.length_cons]; omega, fun o ho => by
              rcases List.mem_cons.1 ho with rfl | ho
              · omega
              · rw [HO2.out, (closeR_drop opn par).1] at ho
                exact hob.out o (List.mem_of_mem_drop ho)⟩
          have HFIN := Lib.hid hfin
          clear hfin hE hA hbel hkk
          go_wp2_with fail
          go_roundg (go - 1)
          case measure => omega
          case rel => exact ⟨i + 1, i :: o2, sP, nP, by go_num, by omega, by omega, HFIN.out⟩
    · have hii : i = T.length := by omega
      have hstr := hE.str
      have hnam := hE.nam
      rw [hii, List.drop_length, nodesB] at hstr
      rw [hii, List.drop_length] at hnam
      have hnm : N = nodesN [] T := hnam
      have hob := Lib.hid hE.opb
      have hol := hE.opl
      have HSTR := Lib.hid hstr
      have HNM := Lib.hid hnm
      have HA := Lib.hid hA
      have HB := Lib.hid hbel
      clear hstr hnam hnm hE hA hbel hii
      go_wp2_with fail
      refine (blob_close w.heap.size ob vb wb mb ov sv tv opn st N (-1) _ HA.out (by omega) (by omega) hbs (by omega) hob.out).mono ?_
      rintro e w2 ⟨ov2, sv2, rfl, hA2, hK2, hO2⟩
      rw [HSTR.out, close_all] at hA2
      have kb2 : Below w.heap.size w w2 := HB.out.trans (hK2.below hbs (by
        rintro i hi (e | e | e)
        · have := HA.out.lb.1; omega
        · have := HA.out.wr.lb.1; omega
        · have := (bts_holds HA.out.wr.s e).1; omega))
      have hS0 : (nodesB 0 [] [] T).length ≤ 100000000 := by
        have h1 := HT.out.tot
        rw [encodeT_len] at h1
        have h2 : (nodesB 0 [] [] T).length = nodesSz T := by rw [nodesB_len]; simp
        omega
      have HST := Lib.hid (show structT T = nodesB 0 [] [] T ++ b4 9 from rfl)
      have hbs2 := kb2.size
      have HA2 := Lib.hid hA2
      have HB2 := Lib.hid kb2
      have HSR := Lib.hid (show stringsT T = strsT N from by rw [HNM.out]; rfl)
      clear hA2 hK2 hO2 kb2
      generalize nodesB 0 [] [] T = S0 at *
      go_wp2_with fail
      refine wp_region_any (by kernel_rfl) ?_
      refine wpAny_ops (ops' := bfOps) (by kernel_rfl) ?_
      refine bf_region17 w.heap.size vb wb mb sv2 tv S0 (S0 ++ b4 9) N w2 _ _ rfl HA2.out.wr (by omega) rfl (by omega) rfl ⟨HA2.out.v.drew, HA2.out.wr.holds.drew⟩ ((Keeps.refl _ w2).drew) ?_
      rintro c w3 nB sv3 hsb ⟨w4, hw4, hb4, hG4⟩
      obtain ⟨hW3, hK3⟩ := HA2.out.wr.stored hw4 hb4 hG4
      have hA3 := HA2.out.turn hK3 hW3
      have kb3 := HB2.out.trans (hK3.below hbs2 (fun i hi e => by have := HA2.out.wr.low e; omega))
      obtain ⟨y73, y74, y75, y76, y77, y78, y79, y80, y81, rfl⟩ := hsb.ex [73, 74, 75, 76, 77, 78, 79, 80, 81] (by kernel_rfl)
      simp only [List.setIfInBounds_toArray, List.set_cons_zero, List.set_cons_succ]
      rw [← HST.out] at hA3
      have hSl : (structT T).length ≤ 100000004 := by rw [HST.out, List.length_append, b4_len]; omega
      obtain ⟨ST, hST⟩ : ∃ ST, ST = structT T := ⟨_, rfl⟩
      rw [← hST] at hA3 hSl
      have HST2 := Lib.hid hST
      obtain ⟨sa, sc, rfl⟩ := hA3.wr.s.shape
      obtain ⟨ta, tc, rfl⟩ := hA3.wr.t.shape
      have hbs3 := kb3.size
      have HA3 := Lib.hid hA3
      have HB3 := Lib.hid kb3
      clear hw4 hb4 hG4 hW3 hK3 hA3 kb3 hST hsb
      go_wp2_with fail
      refine wp_region_any (by kernel_rfl) ?_
      refine wpAny_ops (ops' := biOps) (by kernel_rfl) ?_
      refine bi_region18 w.heap.size vb wb mb sa ta sc tc ST N w3 _ _ rfl (by omega) (by omega) (by omega) rfl ⟨HA3.out.v.drew, HA3.out.wr.keeps ((Keeps.refl (fun _ => False) w3).drew) (fun e => e) (fun e => e) (fun _ _ e => e) (fun _ _ e => e)⟩ ((Keeps.refl _ w3).drew) ?_
      rintro c w5 nB5 hv hsb e10 ⟨hV5, hW5⟩ ⟨hH5, hK5, hO5⟩
      obtain ⟨ha, hc5, rfl⟩ := hH5.shape
      obtain ⟨y82, y83, y84, y85, y86, y87, y88, y89, y90, y91, y92, y93, y94, y95, y96, y97, y98, y99, y100, y101, y102, y103, y104, y105, y106, y107, y108, y109, y110, y111, y112, y113, y114, y115, y10, hc⟩ := hsb.ex [82, 83, 84, 85, 86, 87, 88, 89, 90, 91, 92, 93, 94, 95, 96, 97, 98, 99, 100, 101, 102, 103, 104, 105, 106, 107, 108, 109, 110, 111, 112, 113, 114, 115, 10] (by kernel_rfl)
      subst hc
      simp only [List.setIfInBounds_toArray, List.set_cons_zero, List.set_cons_succ] at e10 ⊢
      have e10' : y10 = .slice ha (frontT ST (strsT N)).length hc5 := e10
      subst e10'
      have kb5 := HB3.out.trans (hK5.below hbs3 (fun i hi e => e.elim))
      have hfl := front_len ST (strsT N)
      obtain ⟨hd, hhd⟩ : ∃ hd, hd = frontT ST (strsT N) := ⟨_, rfl⟩
      rw [← hhd] at hH5 hfl hO5 ⊢
      have HHD := Lib.hid hhd
      have hdl : hd.length ≤ 100 := by omega
      have HB5 := Lib.hid kb5
      have hbs5 := kb5.size
      have hs35 := hK5.size
      have HK5 := Lib.hid hK5
      have HO5 := Lib.hid hO5
      have HV5 := Lib.hid hV5
      have HW5 := Lib.hid hW5
      have HH5 := Lib.hid hH5
      clear e10 hhd hfl kb5 hK5 hO5 hV5 hW5 hH5 hsb
      go_wp2_with fail
      refine (blob_Sum (.slice ha hd.length hc5) hd _ HH5.out.read (by omega)).mono ?_
      rintro e w6 ⟨rfl, rfl⟩
      have hsm := sumB_lt hd
      go_wp2_with fail
      have hsn : ∀ b, Value.ownBlock (.slice ha hd.length hc5) = some b → Value.ownBlock (.slice (some ⟨w5.heap.size, 0, none⟩) 1 1) ≠ some b := fun b hb e => by
        have e2 : w5.heap.size = b := Option.some.inj e
        obtain ⟨xs, hx⟩ := (bts_holds HH5.out hb).2
        have := hx.lt
        omega
      have ka : Keeps (fun _ => False) w5 (w5.alloc (.cells #[.int .i64 (sumB hd)] 3)) := (Keeps.refl _ w5).alloc _
      refine (blob_put w.heap.size (.slice ha hd.length hc5) (.slice (some ⟨w5.heap.size, 0, none⟩) 1 1) hd [(sumB hd : Int)] _ (HH5.out.keeps ka (fun _ _ e => e)) (list_one w5 _ _) hsn (by intro x hx; simp at hx; rcases hx with rfl; omega) (by simp) (by omega) (Nat.le_trans hbs5 ka.size)).mono ?_
      rintro e w7 ⟨hv7, rfl, hH7, hG7⟩
      have hG7 := hG7.after ka
      have hH7 : Bts w7 w.heap.size hv7 (hd ++ b4 (sumB hd)) := by rw [← bytes4_b4 _ hsm]; simpa [b4s] using hH7
      obtain ⟨ha7, hc7, rfl⟩ := hH7.shape
      obtain ⟨hd7, hhd7⟩ : ∃ hd7, hd7 = hd ++ b4 (sumB hd) := ⟨_, rfl⟩
      rw [← hhd7] at hH7 hG7 ⊢
      have hdl7 : hd7.length ≤ 104 := by rw [hhd7, List.length_append, b4_len]; omega
      have HHD7 := Lib.hid hhd7
      have hnh : ∀ g, Value.ownBlock (.slice ha hd.length hc5) = some g → w3.heap.size ≤ g := HO5.out
      have hW7 := HW5.out.keeps hG7.1 (fun e => by have := hnh _ e; have := HA3.out.wr.holds.lt; omega) (fun e => by have := hnh _ e; have := HA3.out.wr.m.lt; omega) (fun g hg e => by
        obtain ⟨xs, hx⟩ := (bts_holds HA3.out.wr.s hg).2
        have := hx.lt; have := hnh _ e; omega) (fun g hg e => by
        obtain ⟨xs, hx⟩ := (bts_holds HA3.out.wr.t hg).2
        have := hx.lt; have := hnh _ e; omega)
      have hV7 := HV5.out.keeps hG7.1 (fun e => by have := hnh _ e; have := HA3.out.v.lt; omega)
      have hn7 : ∀ g, Value.ownBlock (.slice ha7 hd7.length hc7) = some g → w3.heap.size ≤ g := fun g hg => by
        rcases hG7.2 g hg with e | e
        · exact hnh g e
        · omega
      have kb7 := HB5.out.trans (hG7.1.below hbs5 (fun i hi e => by have := hnh _ e; omega))
      have hs57 := hG7.1.size
      have HN7 := Lib.hid hn7
      have HB7 := Lib.hid kb7
      have HW7 := Lib.hid hW7
      have HV7 := Lib.hid hV7
      have HH7 := Lib.hid hH7
      have hbs7 := kb7.size
      clear hhd7 hsn ka hnh hG7 hW7 hV7 hn7 kb7 hH7
      go_wp2_with fail
      refine wp_region_any (by kernel_rfl) ?_
      refine wpAny_ops (ops' := bjOps) (by kernel_rfl) ?_
      refine bj_region20 w.heap.size vb wb mb sa ta sc tc ST N ha7 hc7 hd7 w7 _ _ rfl (by omega) (by omega) (by omega) (by omega) ⟨by have := HW7.out.holds.lt; omega, HV7.out.lt, HW7.out.m.lt⟩ (fun g hg => by
        obtain ⟨xs, hx⟩ := (bts_holds HW7.out.s hg).2
        exact hx.lt) (fun g hg => by
        obtain ⟨xs, hx⟩ := (bts_holds HW7.out.t hg).2
        exact hx.lt) (fun g hg => by
        have h0 := HN7.out g hg
        have h1 := HA3.out.wr.holds.lt
        have h2 := HA3.out.v.lt
        have h3 := HA3.out.wr.m.lt
        refine ⟨by omega, by omega, by omega, fun e => ?_, fun e => ?_⟩
        · obtain ⟨xs, hx⟩ := (bts_holds HA3.out.wr.s e).2
          have := hx.lt; omega
        · obtain ⟨xs, hx⟩ := (bts_holds HA3.out.wr.t e).2
          have := hx.lt; omega) rfl rfl ⟨HV7.out.drew, HW7.out.keeps ((Keeps.refl (fun _ => False) w7).drew) (fun e => e) (fun e => e) (fun _ _ e => e) (fun _ _ e => e)⟩ ⟨HH7.out.keeps ((Keeps.refl (fun _ => False) w7).drew) (fun _ _ e => e), ⟨(Keeps.refl _ w7).drew, fun g e => .inl e⟩⟩ ?_
      rintro c w8 v1 v2 hsb e2 - ⟨hb8, hG8⟩
      obtain ⟨y121, y122, y123, y124, y125, y126, y127, y128, y129, y130, y131, y2, hc⟩ := hsb.ex [121, 122, 123, 124, 125, 126, 127, 128, 129, 130, 131, 2] (by kernel_rfl)
      subst hc
      simp only [List.setIfInBounds_toArray, List.set_cons_zero, List.set_cons_succ] at e2 ⊢
      have e2' : y2 = v2 := e2
      subst e2'
      have hfin : encodeT T = hd7 ++ ST ++ strsT N := by
        unfold encodeT sealT
        rw [HSR.out, ← HST2.out, ← HHD.out, ← HHD7.out]
      have kb8 := HB7.out.trans (hG8.1.below hbs7 (fun i hi e => by have := HN7.out i e; omega))
      have HFIN := Lib.hid (show BtsPost (encodeT T) w (.returned y2) w8 from ⟨_, rfl, by rw [hfin]; exact hb8, kb8⟩)
      clear e2 hfin kb8 hb8 hG8 hsb
      go_wp2_with fail
      go_ret
      exact HFIN.out
end Go.Proofs.YtofhcgbihonckaaGreatDoor

namespace Go.Proofs.YtofhcgbihonckaaGreatDoor
open Go.RowKit Go.ChangeMaps

def EncPost (T : List NodeT) (w : World) (e : Ending) (w' : World) : Prop := ∃ v, e = .returned (.tuple #[v, .int .i64 (encB T).2]) ∧ Bts w' w.heap.size v (encB T).1 ∧ Below w.heap.size w w'
set_option maxRecDepth 100000 in
set_option maxHeartbeats 2000000 in
theorem blob_Encode (R : Nat → Prop) (v : Value) (T : List NodeT) (w : World) (hL : NodesIn R w v T) :
    Calls Tryz.prog 14 #[.agg #[v]] w (EncPost T w) := by
  obtain ⟨a, cap, rfl, hc1, hc2⟩ := hL.shape
  have hb1 : Below w.heap.size w (w.alloc (.cells #[.slice a T.length cap] 25)) := (Below.refl _ _).alloc (Nat.le_refl _) _
  have x0 := (Holds.new w #[.slice a T.length cap] 25).cell 0
  have hch := tree_Check R (.slice a T.length cap) T (w.alloc (.cells #[.slice a T.length cap] 25)) (hL.new hb1)
  have HL := Lib.hid hL
  have HX := Lib.hid (show Holds (w.alloc (.cells #[.slice a T.length cap] 25)) w.heap.size #[.slice a T.length cap] 25 from Holds.new w _ _)
  have HB1 := Lib.hid hb1
  clear hL hb1
  by_cases hc : checkT T = 0
  · have hok := encOk_check hc
    have HC := Lib.hid hc
    rw [hc] at hch
    clear hc
    go_enter Tryz.func14, Tryz.ntmps14
    go_wp2_with fail
    refine (by exact hch : Calls _ _ _ _ _).mono ?_
    rintro e w2 ⟨rfl, hb2⟩
    have x1 := (HX.out.keeps (Keeps.of_fresh hb2 (fun _ => False)) (fun e => e)).cell 0
    have hb2' := HB1.out.trans (hb2.mono HB1.out.size)
    go_wp2_with fail
    refine (blob_encode R (.slice a T.length cap) T w2 (HL.out.new hb2') hok).mono ?_
    rintro e w3 ⟨v3, rfl, hbt, hb3⟩
    have hb3' := hb2'.trans (hb3.mono hb2'.size)
    obtain ⟨a3, c3, rfl⟩ := hbt.shape
    have hbt' : Bts w3 w.heap.size (.slice a3 (encodeT T).length c3) (encodeT T) := row_base hbt hb2'.size
    have HBT := Lib.hid hbt'
    have HB3 := Lib.hid hb3'
    clear hbt hb3 hb2 hb2' hbt' hb3'
    obtain ⟨L, hL⟩ : ∃ L, L = (encodeT T).length := ⟨_, rfl⟩
    rw [← hL]
    have HLL := Lib.hid hL
    clear hL
    by_cases hl : 40000 < L
    · have hp := Lib.hid (show encB T = ([], 3) from by unfold encB; rw [if_neg (by rw [HC.out]; simp), if_pos (by rw [← HLL.out]; exact hl)])
      have hd : decide (40000 < L) = true := by simpa using hl
      have hd2 : decide ((40000 : Int) < (L : Int)) = true := by simp; omega
      clear hl
      go_wp2_with fail
      go_ret2
      exact ⟨.slice none 0 0, by rw [hp.out]; rfl, by rw [hp.out]; exact Bts.nil _ _, HB3.out⟩
    · have hp := Lib.hid (show encB T = (encodeT T, 0) from by unfold encB; rw [if_neg (by rw [HC.out]; simp), if_neg (by rw [← HLL.out]; exact hl)])
      have hd : decide (40000 < L) = false := by simpa using hl
      have hd2 : decide ((40000 : Int) < (L : Int)) = false := by simp; omega
      clear hl
      go_wp2_with fail
      go_ret2
      exact ⟨.slice a3 (encodeT T).length c3, by rw [hp.out, ← HLL.out]; rfl, by rw [hp.out]; exact HBT.out, HB3.out⟩
  · have hp := Lib.hid (show encB T = ([], checkT T) from by unfold encB; rw [if_pos hc])
    generalize checkT T = ec at hch hp hc
    have hne : (ec != 0) = true := by simpa using hc
    have hne2 : (ec == 0) = false := by simpa using hc
    clear hc
    go_enter Tryz.func14, Tryz.ntmps14
    go_wp2_with fail
    refine (by exact hch : Calls _ _ _ _ _).mono ?_
    rintro e w2 ⟨rfl, hb2⟩
    have hb2' := HB1.out.trans (hb2.mono HB1.out.size)
    go_wp2_with fail
    go_ret2
    exact ⟨.slice none 0 0, by rw [hp.out]; rfl, by rw [hp.out]; exact Bts.nil _ _, hb2'⟩
/-! ### reading -/
set_option maxHeartbeats 2000000 in
theorem blob_get (v : Value) (l : List UInt8) (i : Nat) (w : World) (hl : BytesAt w v l) (hi : i + 4 ≤ l.length) (hll : l.length ≤ 1000000000) :
    Calls Tryz.prog 71 #[v, .int .i64 i] w fun e w' => e = .returned (.int .i64 (numB l i)) ∧ ∃ q, w' = w.drewN q := by
  obtain ⟨a, cap, rfl, hc1, hc2, hat⟩ := hl
  obtain ⟨g, o, rfl, hc⟩ := hat (by omega)
  have k0 := hc i (by omega)
  have k1 := hc (i + 1) (by omega)
  have k2 := hc (i + 2) (by omega)
  have k3 := hc (i + 3) (by omega)
  have hn := Lib.hid (show (numB l i : Int) = wordT (l[i]'(by omega)) (l[i + 1]'(by omega)) (l[i + 2]'(by omega)) (l[i + 3]'(by omega)) from by
    unfold numB wordT
    have e : ∀ j (h : j < l.length), l.getD j 0 = l[j] := fun j h => by rw [List.getD_eq_getElem?_getD, List.getElem?_eq_getElem h]; rfl
    rw [e i (by omega), e (i + 1) (by omega), e (i + 2) (by omega), e (i + 3) (by omega)]
    omega)
  generalize l[i]'(by omega) = b0 at *
  generalize l[i + 1]'(by omega) = b1 at *
  generalize l[i + 2]'(by omega) = b2 at *
  generalize l[i + 3]'(by omega) = b3 at *
  have WO := Lib.hid (word_or b0 b1 b2 b3)
  have W0 := Lib.hid (show IntKind.i64.wrap ((b0.toNat : Int) * 16777216) = (b0.toNat : Int) * 16777216 from wrap_mul b0 16777216 (by omega))
  have W1 := Lib.hid (show IntKind.i64.wrap ((b1.toNat : Int) * 65536) = (b1.toNat : Int) * 65536 from wrap_mul b1 65536 (by omega))
  have W2 := Lib.hid (show IntKind.i64.wrap ((b2.toNat : Int) * 256) = (b2.toNat : Int) * 256 from wrap_mul b2 256 (by omega))
  have w3 := wrap_byte b0
  have w4 := wrap_byte b1
  have w5 := wrap_byte b2
  have w6 := wrap_byte b3
  have j1 : IntKind.i64.wrap ((i : Int) + 1) = (i : Int) + 1 := IntWalk.i64_in _ (by omega)
  have j2 : IntKind.i64.wrap ((i : Int) + 2) = (i : Int) + 2 := IntWalk.i64_in _ (by omega)
  have j3 : IntKind.i64.wrap ((i : Int) + 3) = (i : Int) + 3 := IntWalk.i64_in _ (by omega)
  have n1 : ((i : Int) + 1).toNat = i + 1 := by omega
  have n2 : ((i : Int) + 2).toNat = i + 2 := by omega
  have n3 : ((i : Int) + 3).toNat = i + 3 := by omega
  have p1 : (0 : Int) ≤ (i : Int) + 1 := by omega
  have p2 : (0 : Int) ≤ (i : Int) + 2 := by omega
  have p3 : (0 : Int) ≤ (i : Int) + 3 := by omega
  have q0 : i < l.length := by omega
  have q1 : i + 1 < l.length := by omega
  have q2 : i + 2 < l.length := by omega
  have q3 : i + 3 < l.length := by omega
  have r1 : (i : Int) + 1 < l.length := by omega
  have r2 : (i : Int) + 2 < l.length := by omega
  have r3 : (i : Int) + 3 < l.length := by omega
  clear hat hc
  go_enter Tryz.func71, Tryz.ntmps71
  go_wp2_with fail
  go_quiet (fail)
  go_wp2_with fail
  go_ret
  refine ⟨ret_int ?_, _, rfl⟩
  rw [hn.out, ← WO.out]
  have z0 := W0.out
  have z1 := W1.out
  have z2 := W2.out
  rw [IntWalk.i64_left] at z0 z1 z2
  rw [z0, z1, z2]
/-- The reader's cells. -/
def rdC (bv sv : Value) (at_ : Nat) (nv ov cv : Value) (pl er : Int) : Array Value := #[bv, sv, .int .i64 at_, nv, ov, cv, .int .i64 pl, .int .i64 er]
def FailPost (rb : Nat) (bv sv : Value) (at_ : Nat) (nv ov cv : Value) (pl er : Int) (w : World) (e : Ending) (w' : World) : Prop :=
  e = .returned (.bool false) ∧ Holds w' rb (rdC bv sv at_ nv ov cv pl er) 75 ∧ Keeps (· = rb) w w'
set_option maxHeartbeats 2000000 in
theorem blob_fail (rb : Nat) (bv sv : Value) (at_ : Nat) (nv ov cv : Value) (pl0 : Int) (pl er : Int) (w : World) (h : Holds w rb (rdC bv sv at_ nv ov cv pl0 0) 75) :
    Calls Tryz.prog 75 #[.pointer (some ⟨rb, 0, none⟩), .int .i64 pl, .int .i64 er] w (FailPost rb bv sv at_ nv ov cv pl er w) := by
  have x6 : w.cell? ⟨rb, 6, none⟩ = some (.int .i64 pl0) := h.cell 6
  have x7 : w.cell? ⟨rb, 7, none⟩ = some (.int .i64 0) := h.cell 7
  have f6 := h.free 6
  have f7 := h.free 7
  have hl := h.lt
  have HF := Lib.hid (show Holds ((w.setCell ⟨rb, 6, none⟩ (.int .i64 pl)).setCell ⟨rb, 7, none⟩ (.int .i64 er)) rb (rdC bv sv at_ nv ov cv pl er) 75 from (h.set 6 _).set 7 _)
  have HK := Lib.hid (show Keeps (· = rb) w ((w.setCell ⟨rb, 6, none⟩ (.int .i64 pl)).setCell ⟨rb, 7, none⟩ (.int .i64 er)) from ((Keeps.refl (· = rb) w).setCell (p := ⟨rb, 6, none⟩) (.inr rfl) _).setCell (p := ⟨rb, 7, none⟩) (.inr rfl) _)
  clear h
  go_enter Tryz.func75, Tryz.ntmps75
  go_wp2_with fail
  go_ret
  exact ⟨rfl, HF.out, HK.out⟩
end Go.Proofs.YtofhcgbihonckaaGreatDoor

namespace Go.Proofs.YtofhcgbihonckaaGreatDoor
open Go.RowKit Go.ChangeMaps

def FitPost (rb : Nat) (bv sv : Value) (at_ : Nat) (nv ov cv : Value) (L n : Nat) (w : World) (e : Ending) (w' : World) : Prop :=
  (at_ + n ≤ L → e = .returned (.bool true) ∧ Holds w' rb (rdC bv sv at_ nv ov cv 0 0) 75 ∧ Keeps (fun _ => False) w w') ∧
  (¬ at_ + n ≤ L → e = .returned (.bool false) ∧ Holds w' rb (rdC bv sv at_ nv ov cv L 21) 75 ∧ Keeps (· = rb) w w')
set_option maxHeartbeats 2000000 in
theorem blob_fits (rb : Nat) (ba : Option Addr) (L bc : Nat) (sv : Value) (at_ n : Nat) (nv ov cv : Value) (w : World) (h : Holds w rb (rdC (.slice ba L bc) sv at_ nv ov cv 0 0) 75) (hL : L ≤ 1000000000) (hn : n ≤ 10000000000) (ha : at_ ≤ 1000000000) :
    Calls Tryz.prog 87 #[.pointer (some ⟨rb, 0, none⟩), .int .i64 n] w (FitPost rb (.slice ba L bc) sv at_ nv ov cv L n w) := by
  have x0 : w.cell? ⟨rb, 0, none⟩ = some (.slice ba L bc) := h.cell 0
  have x2 : w.cell? ⟨rb, 2, none⟩ = some (.int .i64 at_) := h.cell 2
  have hl := h.lt
  have j1 : IntKind.i64.wrap ((L : Int) - (at_ : Int)) = (L : Int) - (at_ : Int) := IntWalk.i64_in _ (by omega)
  by_cases hf : at_ + n ≤ L
  · have hd : decide ((n : Int) ≤ (L : Int) - (at_ : Int)) = true := by simp; omega
    have HF := Lib.hid hf
    have HH := Lib.hid h
    clear h hf
    go_enter Tryz.func87, Tryz.ntmps87
    go_wp2_with fail
    go_quiet (fail)
    go_wp2_with fail
    go_ret
    exact ⟨fun _ => ⟨rfl, HH.out.drewN _, (Keeps.refl _ w).drewN _⟩, fun e => absurd HF.out e⟩
  · have hd : decide ((n : Int) ≤ (L : Int) - (at_ : Int)) = false := by simp; omega
    have HF := Lib.hid hf
    have hfl := Lib.hid (fun (wx : World) (hx : Holds wx rb (rdC (.slice ba L bc) sv at_ nv ov cv 0 0) 75) => blob_fail rb (.slice ba L bc) sv at_ nv ov cv 0 L 21 wx hx)
    have HH := Lib.hid h
    clear h hf
    go_enter Tryz.func87, Tryz.ntmps87
    go_wp2_with fail
    go_region_held3 (fun wx => wx.cell? ⟨rb, 0, none⟩ = some (.slice ba L bc) ∧ wx.cell? ⟨rb, 2, none⟩ = some (.int .i64 at_))
      (first
      | exact ⟨x0, x2⟩
      | exact ⟨hH2.cell 0, hH2.cell 2⟩
      | go_keep)
      ((go_at_call 75; refine (hfl.out _ (by exact HH.out.drew)).mono ?_; rintro e w2 ⟨rfl, hH2, hK2⟩))
    all_goals
      have hK3 : Keeps (· = rb) w w2 := ((Keeps.refl (· = rb) w).drew).trans hK2 (fun _ _ e => e)
      go_wp2_with fail
      go_ret
      exact ⟨fun e => absurd e HF.out, fun _ => ⟨rfl, hH2, hK3⟩⟩
def NumPost (rb : Nat) (bv sv : Value) (at_ : Nat) (nv ov cv : Value) (b : List UInt8) (w : World) (e : Ending) (w' : World) : Prop :=
  (at_ + 4 ≤ b.length → e = .returned (.tuple #[.int .i64 (numB b at_), .bool true]) ∧ Holds w' rb (rdC bv sv ((at_ + 4 : Nat)) nv ov cv 0 0) 75 ∧ Keeps (· = rb) w w') ∧
  (¬ at_ + 4 ≤ b.length → e = .returned (.tuple #[.int .i64 0, .bool false]) ∧ Holds w' rb (rdC bv sv at_ nv ov cv b.length 21) 75 ∧ Keeps (· = rb) w w')
set_option maxHeartbeats 2000000 in
theorem blob_number (rb : Nat) (ba : Option Addr) (bc : Nat) (sv : Value) (at_ : Nat) (nv ov cv : Value) (b : List UInt8) (w : World) (h : Holds w rb (rdC (.slice ba b.length bc) sv at_ nv ov cv 0 0) 75) (hb : BytesAt w (.slice ba b.length bc) b) (hne : ∀ g, Value.ownBlock (.slice ba b.length bc) = some g → g ≠ rb) (hL : b.length ≤ 1000000000) (ha : at_ ≤ 1000000000) :
    Calls Tryz.prog 72 #[.pointer (some ⟨rb, 0, none⟩)] w (NumPost rb (.slice ba b.length bc) sv at_ nv ov cv b w) := by
  have hft := blob_fits rb ba b.length bc sv at_ 4 nv ov cv w h hL (by omega) ha
  unfold FitPost at hft
  have HB := Lib.hid hb
  by_cases hf : at_ + 4 ≤ b.length
  · have HF := Lib.hid hf
    clear h hb
    go_enter Tryz.func72, Tryz.ntmps72
    go_wp2_with fail
    refine (by exact hft : Calls _ _ _ _ _).mono ?_
    rintro e w1 ⟨h1, -⟩
    obtain ⟨rfl, hH1, hK1⟩ := h1 HF.out
    have x0 : w1.cell? ⟨rb, 0, none⟩ = some (.slice ba b.length bc) := hH1.cell 0
    have x2 : w1.cell? ⟨rb, 2, none⟩ = some (.int .i64 at_) := hH1.cell 2
    have f2 := hH1.free 2
    have hl1 := hH1.lt
    have hg := Lib.hid (fun (wx : World) (hx : BytesAt wx (.slice ba b.length bc) b) => blob_get (.slice ba b.length bc) b at_ wx hx HF.out hL)
    have HB1 := Lib.hid (HB.out.keeps hK1 (fun _ _ e => e))
    have HH1 := Lib.hid hH1
    have HK1 := Lib.hid hK1
    have j1 : IntKind.i64.wrap ((at_ : Int) + 4) = (at_ : Int) + 4 := IntWalk.i64_in _ (by omega)
    clear hft hH1 hK1 hf
    go_wp2_with fail
    go_quiet ((go_at_call 71; exact Calls.quiet_of (hg.out _ (by exact HB1.out.keeps ((Keeps.refl (fun _ => False) w1).drewN _) (fun _ _ e => e)))))
    go_wp2_with fail
    go_ret2
    exact ⟨fun _ => ⟨rfl, (HH1.out.drewN _).set 2 _, ((show Keeps (· = rb) w w1 from HK1.out.mono (fun _ _ e => e.elim)).drewN _).setCell (p := ⟨rb, 2, none⟩) (.inr rfl) _⟩, fun e => absurd HF.out e⟩
  · have HF := Lib.hid hf
    clear h hb
    go_enter Tryz.func72, Tryz.ntmps72
    go_wp2_with fail
    refine (by exact hft : Calls _ _ _ _ _).mono ?_
    rintro e w1 ⟨-, h1⟩
    obtain ⟨rfl, hH1, hK1⟩ := h1 HF.out
    have HH1 := Lib.hid hH1
    have HK1 := Lib.hid hK1
    clear hft hH1 hK1 hf
    go_wp2_with fail
    go_ret2
    exact ⟨fun e => absurd e HF.out, fun _ => ⟨rfl, HH1.out, HK1.out⟩⟩
end Go.Proofs.YtofhcgbihonckaaGreatDoor
