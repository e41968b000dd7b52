/- Region 10 of TreeUndone (printed by gund.py). -/
import Derived.Test.YtjfkjnakmmkkiaaGreatZ13
import Derived.Test.YtjfkjnakmmkkiaaGreatZ18
import Derived.Test.YtjfkjnakmmkkiaaGreatZ2

namespace Go.Proofs.YtjfkjnakmmkkiaaGreat
open Go.RowKit

noncomputable def undOps : Array Oper := (regOps (Tryz.f8.body.getD .skip) 10).getD #[]
theorem undR : inRow2 .any undOps = true := by kernel_rfl
theorem undRa : apartB undOps = true := by kernel_rfl
theorem undRn : undOps.size = 17 := by kernel_rfl
def UndF (b Z : Nat) (aa : Option Addr) (ac : Nat) (A : List NodeT) (j : Nat) : Value → World → Prop := match j with
  | 0 => fun u _ => u = .agg #[.slice aa A.length ac]
  | 1 => fun u _ => u = .pointer (some ⟨b, 0, none⟩)
  | 2 => fun u _ => u = .pointer (some ⟨Z, 0, none⟩)
  | 3 => fun u _ => u = .slice aa A.length ac
  | 4 => fun u _ => u = .int .i64 A.length
  | 5 => fun u _ => ∃ k : Nat, k < A.length ∧ u = .int .i64 k
  | 6 => fun u _ => ∃ k : Nat, k < A.length ∧ u = .string (pathQ A k)
  | 7 => fun u _ => u = .pointer (some ⟨b, 0, none⟩)
  | 8 => fun u _ => ∃ s, s ∈ lName ∧ u = .string s
  | 9 => fun u _ => u = .pointer (some ⟨b, 0, none⟩)
  | 10 => fun u _ => ∃ s, s ∈ lProperty ∧ u = .string s
  | 11 => fun u _ => u = .pointer (some ⟨b, 0, none⟩)
  | 12 => fun u _ => ∃ s : ByteArray, s.size ≤ 100 ∧ u = .string s
  | 13 => fun u _ => ∃ k : Nat, k < A.length ∧ u = .string (pathQ A k)
  | 14 => fun u _ => ∃ s, s ∈ lName ∧ u = .string s
  | 15 => fun u _ => ∃ s, s ∈ lProperty ∧ u = .string s
  | 16 => fun u _ => ∃ s : ByteArray, s.size ≤ 100 ∧ u = .string s
  | _ => fun _ _ => True
theorem UndF.any {b Z : Nat} {aa : Option Addr} {ac : Nat} {A : List NodeT} {j : Nat} {u : Value} {w w' : World} (h : UndF b Z aa ac A j u w) : UndF b Z aa ac A j u w' := by
  unfold UndF at *
  split at h
  all_goals exact h

set_option maxHeartbeats 4000000 in
set_option maxRecDepth 100000 in
theorem und_region {Q : Exit → Act → World → Prop} (B b Z : Nat) (aa : Option Addr) (ac : Nat) (A : List NodeT) (W w : World) (Ac : Act) (hsz : Ac.tmps.size = 177) (hA0 : 0 < A.length) (hAl : A.length ≤ 1000)
    (hZW : Holds W Z #[.slice aa A.length ac] 25) (hzb : Z ≠ b) (hAN : NodesIn (fun g => g ≠ b) W (.slice aa A.length ac) A) (a4 : Ac.tmps.getD 4 undef = .pointer (some ⟨Z, 0, none⟩)) (a3 : Ac.tmps.getD 3 undef = .pointer (some ⟨b, 0, none⟩))
    (hS : Tape B w b ∧ Keeps (fun i => i = b) W w)
    (hQ : ∀ c w', SameBut undOps Ac c → Tape B w' b → Keeps (fun i => i = b) W w' → (∃ k : Nat, k < A.length ∧ c.tmps.getD 8 undef = .string (pathQ A k)) → (∃ s, s ∈ lName ∧ c.tmps.getD 9 undef = .string s) → (∃ s, s ∈ lProperty ∧ c.tmps.getD 10 undef = .string s) → (∃ s : ByteArray, s.size ≤ 100 ∧ c.tmps.getD 11 undef = .string s) → Q .normal c w') :
    wpAny Tryz.prog .any undOps Q undOps.size (Array.replicate undOps.size false) Ac w := by
  refine wpAny_inv2 (fun l c wx => RInv undOps Ac (UndF b Z aa ac A) (fun wx => Tape B wx b ∧ Keeps (fun i => i = b) W wx) l c wx) undR ?hend ?hstep _ _ _ _ (by simp) (by simp) (RInv.start hS)
  case hend =>
    intro l c wx hI hl
    have hh : ∀ k, k < 17 → l.getD k false = true := fun k hk => hl k (by rw [undRn]; exact hk)
    exact hQ c wx hI.1 hI.2.1.1 hI.2.1.2 (hI.fact 13 8 rfl (hh 13 (by decide))) (hI.fact 14 9 rfl (hh 14 (by decide))) (hI.fact 15 10 rfl (hh 15 (by decide))) (hI.fact 16 11 rfl (hh 16 (by decide)))
  intro l c wx hI i' op ho _ hall K' hK'
  have hi : i' < 17 := by rw [← undRn]; exact (Array.getElem?_eq_some_iff.1 ho).1
  simp only [undOps, regOps, Tryz.f8, Option.getD_some, reduceIte, Nat.reduceEqDiff] at ho
  have hS := hI.2.1
  have s4 := (hI.slot 4 (by kernel_rfl)).trans a4
  have s3 := (hI.slot 3 (by kernel_rfl)).trans a3
  simp only [Array.getD_eq_getD_getElem?] at s4 s3
  have hic : i' = 0 ∨ i' = 1 ∨ i' = 2 ∨ i' = 3 ∨ i' = 4 ∨ i' = 5 ∨ i' = 6 ∨ i' = 7 ∨ i' = 8 ∨ i' = 9 ∨ i' = 10 ∨ i' = 11 ∨ i' = 12 ∨ i' = 13 ∨ i' = 14 ∨ i' = 15 ∨ i' = 16 := by omega
  rcases hic with rfl | rfl | rfl | rfl | rfl | rfl | rfl | rfl | rfl | rfl | rfl | rfl | rfl | rfl | rfl | rfl | rfl
  all_goals cases ho
  · have c0 := (hZW.keeps hS.2 hzb).cell 0
    have cl := (hZW.keeps hS.2 hzb).lt
    go_simp
    exact hK' _ _ (hI.step undRa 0 53 rfl (by rw [hsz]; decide) _ _ rfl hall hS (fun _ _ h => h) rfl)
  · go_simp
    exact hK' _ _ (hI.step undRa 1 54 rfl (by rw [hsz]; decide) _ _ rfl hall hS (fun _ _ h => h) rfl)
  · go_simp
    exact hK' _ _ (hI.step undRa 2 55 rfl (by rw [hsz]; decide) _ _ rfl hall hS (fun _ _ h => h) rfl)
  · have e2 : c.tmps.getD 55 undef = .pointer (some ⟨Z, 0, none⟩) := hI.fact 2 55 rfl (listed hall 2 (by kernel_rfl))
    simp only [Array.getD_eq_getD_getElem?] at e2
    have c0 := (hZW.keeps hS.2 hzb).cell 0
    have cl := (hZW.keeps hS.2 hzb).lt
    go_simp
    exact hK' _ _ (hI.step undRa 3 56 rfl (by rw [hsz]; decide) _ _ rfl hall hS (fun _ _ h => h) rfl)
  · have e3 : c.tmps.getD 56 undef = .slice aa A.length ac := hI.fact 3 56 rfl (listed hall 3 (by kernel_rfl))
    simp only [Array.getD_eq_getD_getElem?] at e3
    go_simp
    exact hK' _ _ (hI.step undRa 4 57 rfl (by rw [hsz]; decide) _ _ rfl hall hS (fun _ _ h => h) rfl)
  · have e1 : c.tmps.getD 54 undef = .pointer (some ⟨b, 0, none⟩) := hI.fact 1 54 rfl (listed hall 1 (by kernel_rfl))
    simp only [Array.getD_eq_getD_getElem?] at e1
    have e4 : c.tmps.getD 57 undef = .int .i64 A.length := hI.fact 4 57 rfl (listed hall 4 (by kernel_rfl))
    simp only [Array.getD_eq_getD_getElem?] at e4
    go_simp
    refine (mk_N B b A.length wx hS.1 (by omega) (by omega)).mono ?_
    rintro e w2 ⟨r, rfl, r0, r1, ht2, k2⟩
    go_simp
    have hS2 : Tape B w2 b ∧ Keeps (fun i => i = b) W w2 := ⟨ht2, hS.2.trans k2 (fun _ _ e => e)⟩
    exact hK' _ _ (hI.step undRa 5 58 rfl (by rw [hsz]; decide) _ _ rfl hall hS2 (fun _ _ h => UndF.any h) ⟨r.toNat, by omega, by rw [Int.toNat_of_nonneg r0]⟩)
  · have e0 : c.tmps.getD 53 undef = .agg #[.slice aa A.length ac] := hI.fact 0 53 rfl (listed hall 0 (by kernel_rfl))
    simp only [Array.getD_eq_getD_getElem?] at e0
    obtain ⟨x5, hx5, e5⟩ : ∃ k : Nat, k < A.length ∧ c.tmps.getD 58 undef = .int .i64 k := hI.fact 5 58 rfl (listed hall 5 (by kernel_rfl))
    simp only [Array.getD_eq_getD_getElem?] at e5
    go_simp
    refine (tree_Path (fun g => g ≠ b) _ A x5 wx (hAN.keeps hS.2 (fun _ h e => h e))).mono ?_
    rintro e w2 ⟨rfl, hb2⟩
    go_simp
    have hS2 : Tape B w2 b ∧ Keeps (fun i => i = b) W w2 := ⟨hS.1.new hb2, hS.2.trans (Keeps.of_fresh hb2 _) (fun _ _ e => e)⟩
    exact hK' _ _ (hI.step undRa 6 59 rfl (by rw [hsz]; decide) _ _ rfl hall hS2 (fun _ _ h => UndF.any h) ⟨x5, hx5, rfl⟩)
  · go_simp
    exact hK' _ _ (hI.step undRa 7 60 rfl (by rw [hsz]; decide) _ _ rfl hall hS (fun _ _ h => h) rfl)
  · have e7 : c.tmps.getD 60 undef = .pointer (some ⟨b, 0, none⟩) := hI.fact 7 60 rfl (listed hall 7 (by kernel_rfl))
    simp only [Array.getD_eq_getD_getElem?] at e7
    go_simp
    refine (mk_Name B b wx hS.1).mono ?_
    rintro e w2 ⟨s, rfl, hs, ht2, k2⟩
    go_simp
    have hS2 : Tape B w2 b ∧ Keeps (fun i => i = b) W w2 := ⟨ht2, hS.2.trans k2 (fun _ _ e => e)⟩
    exact hK' _ _ (hI.step undRa 8 61 rfl (by rw [hsz]; decide) _ _ rfl hall hS2 (fun _ _ h => UndF.any h) ⟨s, hs, rfl⟩)
  · go_simp
    exact hK' _ _ (hI.step undRa 9 62 rfl (by rw [hsz]; decide) _ _ rfl hall hS (fun _ _ h => h) rfl)
  · have e9 : c.tmps.getD 62 undef = .pointer (some ⟨b, 0, none⟩) := hI.fact 9 62 rfl (listed hall 9 (by kernel_rfl))
    simp only [Array.getD_eq_getD_getElem?] at e9
    go_simp
    refine (mk_Property B b wx hS.1).mono ?_
    rintro e w2 ⟨s, rfl, hs, ht2, k2⟩
    go_simp
    have hS2 : Tape B w2 b ∧ Keeps (fun i => i = b) W w2 := ⟨ht2, hS.2.trans k2 (fun _ _ e => e)⟩
    exact hK' _ _ (hI.step undRa 10 63 rfl (by rw [hsz]; decide) _ _ rfl hall hS2 (fun _ _ h => UndF.any h) ⟨s, hs, rfl⟩)
  · go_simp
    exact hK' _ _ (hI.step undRa 11 64 rfl (by rw [hsz]; decide) _ _ rfl hall hS (fun _ _ h => h) rfl)
  · have e11 : c.tmps.getD 64 undef = .pointer (some ⟨b, 0, none⟩) := hI.fact 11 64 rfl (listed hall 11 (by kernel_rfl))
    simp only [Array.getD_eq_getD_getElem?] at e11
    go_simp
    refine (grow_Value B b wx hS.1).mono ?_
    rintro e w2 ⟨s, rfl, hs, ht2, k2⟩
    go_simp
    have hS2 : Tape B w2 b ∧ Keeps (fun i => i = b) W w2 := ⟨ht2, hS.2.trans k2 (fun _ _ e => e)⟩
    exact hK' _ _ (hI.step undRa 12 65 rfl (by rw [hsz]; decide) _ _ rfl hall hS2 (fun _ _ h => UndF.any h) ⟨s, hs, rfl⟩)
  · obtain ⟨x6, hx6, e6⟩ : ∃ k : Nat, k < A.length ∧ c.tmps.getD 59 undef = .string (pathQ A k) := hI.fact 6 59 rfl (listed hall 6 (by kernel_rfl))
    simp only [Array.getD_eq_getD_getElem?] at e6
    go_simp
    exact hK' _ _ (hI.step undRa 13 8 rfl (by rw [hsz]; decide) _ _ rfl hall hS (fun _ _ h => h) ⟨x6, hx6, rfl⟩)
  · obtain ⟨x8, hx8, e8⟩ : ∃ s, s ∈ lName ∧ c.tmps.getD 61 undef = .string s := hI.fact 8 61 rfl (listed hall 8 (by kernel_rfl))
    simp only [Array.getD_eq_getD_getElem?] at e8
    go_simp
    exact hK' _ _ (hI.step undRa 14 9 rfl (by rw [hsz]; decide) _ _ rfl hall hS (fun _ _ h => h) ⟨x8, hx8, rfl⟩)
  · obtain ⟨x10, hx10, e10⟩ : ∃ s, s ∈ lProperty ∧ c.tmps.getD 63 undef = .string s := hI.fact 10 63 rfl (listed hall 10 (by kernel_rfl))
    simp only [Array.getD_eq_getD_getElem?] at e10
    go_simp
    exact hK' _ _ (hI.step undRa 15 10 rfl (by rw [hsz]; decide) _ _ rfl hall hS (fun _ _ h => h) ⟨x10, hx10, rfl⟩)
  · obtain ⟨x12, hx12, e12⟩ : ∃ s : ByteArray, s.size ≤ 100 ∧ c.tmps.getD 65 undef = .string s := hI.fact 12 65 rfl (listed hall 12 (by kernel_rfl))
    simp only [Array.getD_eq_getD_getElem?] at e12
    go_simp
    exact hK' _ _ (hI.step undRa 16 11 rfl (by rw [hsz]; decide) _ _ rfl hall hS (fun _ _ h => h) ⟨x12, hx12, rfl⟩)
end Go.Proofs.YtjfkjnakmmkkiaaGreat
