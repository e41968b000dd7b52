/- Region 14 of TreeOrder (printed by gord.py). | Region 25 of TreeOrder (printed by gord.py). -/
import Derived.Test.YtjfkjnakmmkkiaaGreatZ6
import Derived.Test.YtjfkjnakmmkkiaaGreatZ13
import Derived.Test.YtjfkjnakmmkkiaaGreatZ2

namespace Go.Proofs.YtjfkjnakmmkkiaaGreat
open Go.RowKit

noncomputable def oraOps (n : Nat) : Array Oper := (regOps (Tryz.f6.body.getD .skip) n).getD #[]
theorem oraR : inRow2 .any (oraOps 14) = true := by kernel_rfl
theorem oraRa : apartB (oraOps 14) = true := by kernel_rfl
theorem oraRn : (oraOps 14).size = 22 := by kernel_rfl
def OraF (Z _ g o n cap k base : Nat) (par : Int) (vy : Value) (p nm : ByteArray) (T' : List NodeT) (er : Int) (sv : Value) (N : Nat) (j : Nat) : Value → World → Prop := match j with
  | 0 => fun u _ => u = .agg #[vy]
  | 1 => fun u _ => u = .agg #[.slice (some ⟨g, o, none⟩) n cap]
  | 2 => fun u _ => u = .pointer (some ⟨Z, 0, none⟩)
  | 3 => fun u _ => u = .slice (some ⟨g, o, none⟩) n cap
  | 4 => fun u _ => u = .int .i64 k
  | 5 => fun u _ => u = .pointer (some ⟨g, o + k * 3, none⟩)
  | 6 => fun u _ => u = .pointer (some ⟨g, o + k * 3, none⟩)
  | 7 => fun u _ => u = .int .i64 par
  | 8 => fun u _ => u = .string p
  | 9 => fun u _ => u = .pointer (some ⟨Z, 0, none⟩)
  | 10 => fun u _ => u = .slice (some ⟨g, o, none⟩) n cap
  | 11 => fun u _ => u = .int .i64 k
  | 12 => fun u _ => u = .pointer (some ⟨g, o + k * 3, none⟩)
  | 13 => fun u _ => u = .pointer (some ⟨g, o + k * 3 + 1, none⟩)
  | 14 => fun u _ => u = .string nm
  | 15 => fun u w => u = .tuple #[.agg #[sv], .int .i64 er] ∧ TreeRow w base sv T'
  | 16 => fun u w => u = .tuple #[.agg #[sv], .int .i64 er] ∧ TreeRow w base sv T'
  | 17 => fun u _ => u = .agg #[sv]
  | 18 => fun u _ => u = .int .i64 er
  | 19 => fun u w => u = .pointer (some ⟨N, 0, none⟩) ∧ ∃ x, Holds w N #[x] 25
  | 20 => fun _ w => Holds w N #[sv] 25
  | 21 => fun u _ => u = .int .i64 er
  | _ => fun _ _ => True
section
variable {Z Yb g o n cap k base : Nat} {par : Int} {vy : Value} {p nm : ByteArray} {T' : List NodeT} {er : Int} {sv : Value} {N : Nat} {w w' : World} {j : Nat} {u : Value}
theorem OraF.new (h : OraF Z Yb g o n cap k base par vy p nm T' er sv N j u w) (kb : Below w.heap.size w w') : OraF Z Yb g o n cap k base par vy p nm T' er sv N j u w' := by
  unfold OraF at *
  have kk := Keeps.of_fresh kb (fun _ => False)
  split at h
  all_goals first
    | exact h
    | exact ⟨h.1, TreeRow.new h.2 kb⟩
    | exact ⟨h.1, h.2.choose, h.2.choose_spec.keeps kk (fun e => e)⟩
    | exact Holds.keeps h kk (fun e => e)
theorem OraF.store {x : Value} (h : OraF Z Yb g o n cap k base par vy p nm T' er sv N j u w) (hH : Holds w N #[x] 25) : OraF Z Yb g o n cap k base par vy p nm T' er sv N j u (w.setCell ⟨N, 0, none⟩ sv) := by
  unfold OraF at *
  split at h
  all_goals first
    | exact h
    | exact ⟨h.1, h.2.set hH (by decide) (by decide) 0 sv⟩
    | exact ⟨h.1, _, hH.set 0 sv⟩
    | exact hH.set 0 sv
theorem OraF.ghost {sv2 : Value} (h : OraF Z Yb g o n cap k base par vy p nm T' er sv N j u w) (h15 : j ≠ 15) (h16 : j ≠ 16) (h17 : j ≠ 17) (h20 : j ≠ 20) : OraF Z Yb g o n cap k base par vy p nm T' er sv2 N j u w := by
  unfold OraF at *
  split at h
  all_goals first
    | exact absurd rfl h15
    | exact absurd rfl h16
    | exact absurd rfl h17
    | exact absurd rfl h20
    | exact h
theorem OraF.ghostN {N2 : Nat} (h : OraF Z Yb g o n cap k base par vy p nm T' er sv N j u w) (h12 : j ≠ 19) (h13 : j ≠ 20) : OraF Z Yb g o n cap k base par vy p nm T' er sv N2 j u w := by
  unfold OraF at *
  split at h
  all_goals first
    | exact absurd rfl h12
    | exact absurd rfl h13
    | exact h
end

set_option maxHeartbeats 4000000 in
set_option maxRecDepth 100000 in
theorem ora_region {Q : Exit → Act → World → Prop} (Z Yb g o n cap k base : Nat) (par : Int) (vy : Value) (p nm : ByteArray) (T' : List NodeT) (er : Int) (W w : World) (A : Act) (hsz : A.tmps.size = 143) (hbase : base ≤ W.heap.size)
    (hXW : Holds W Z #[.slice (some ⟨g, o, none⟩) n cap] 25) (hYW : Holds W Yb #[vy] 25) (hkn : k < n) (hgl : g < W.heap.size) (q0 : W.cell? ⟨g, o + k * 3, none⟩ = some (.int .i64 par)) (q1 : W.cell? ⟨g, o + k * 3 + 1, none⟩ = some (.string nm))
    (a4 : A.tmps.getD 4 undef = .pointer (some ⟨Z, 0, none⟩)) (a5 : A.tmps.getD 5 undef = .pointer (some ⟨Yb, 0, none⟩)) (ak : A.tmps.getD 9 undef = .int .i64 k)
    (hpath : Hid (∀ wx, Below W.heap.size W wx → Calls Tryz.prog 15 #[.agg #[.slice (some ⟨g, o, none⟩) n cap], .int .i64 par] wx fun e w' => e = .returned (.string p) ∧ Below wx.heap.size wx w'))
    (hedit : Hid (∀ wx, Below W.heap.size W wx → Calls Tryz.prog 58 #[.agg #[vy], .string p, .string nm] wx (EditPost (T', er) wx)))
    (hS : Below W.heap.size W w)
    (hQ : ∀ c w' sv N, SameBut (oraOps 14) A c → Below W.heap.size W w' → c.tmps.getD 13 undef = .pointer (some ⟨N, 0, none⟩) → Holds w' N #[sv] 25 → c.tmps.getD 14 undef = .int .i64 er → TreeRow w' base sv T' → W.heap.size ≤ N → Q .normal c w') :
    wpAny Tryz.prog .any (oraOps 14) Q (oraOps 14).size (Array.replicate (oraOps 14).size false) A w := by
  refine wpAny_inv2 (fun l c wx => ∃ sv N, RInv (oraOps 14) A (OraF Z Yb g o n cap k base par vy p nm T' er sv N) (fun wx => Below W.heap.size W wx) l c wx ∧ W.heap.size ≤ N) oraR ?hend ?hstep _ _ _ _ (by simp) (by simp) ⟨.slice none 0 0, W.heap.size, RInv.start hS, Nat.le_refl _⟩
  case hend =>
    rintro l c wx ⟨sv, N, hI, hNq⟩ hl
    have hh : ∀ k, k < 22 → l.getD k false = true := fun k hk => hl k (by rw [oraRn]; exact hk)
    obtain ⟨_, hr9⟩ : c.tmps.getD 59 undef = .tuple #[.agg #[sv], .int .i64 er] ∧ TreeRow wx base sv T' := hI.fact 16 59 rfl (hh 16 (by decide))
    have e12 : c.tmps.getD 13 undef = .pointer (some ⟨N, 0, none⟩) ∧ ∃ x, Holds wx N #[x] 25 := hI.fact 19 13 rfl (hh 19 (by decide))
    have h13 : Holds wx N #[sv] 25 := hI.2.2.2 20 (by rw [oraRn]; decide) (hh 20 (by decide))
    have e14 : c.tmps.getD 14 undef = .int .i64 er := hI.fact 21 14 rfl (hh 21 (by decide))
    exact hQ c wx sv N hI.1 hI.2.1 e12.1 h13 e14 hr9 hNq
  intro l c wx hI i' op ho hl hall K' hK'
  obtain ⟨sv, N, hI, hNq⟩ := hI
  have hi13 : i' < 22 := by rw [← oraRn]; exact (Array.getElem?_eq_some_iff.1 ho).1
  simp only [oraOps, regOps, Tryz.f6, Option.getD_some, reduceIte, Nat.reduceEqDiff] at ho
  have hS := hI.2.1
  have s4 := (hI.slot 4 (by kernel_rfl)).trans a4
  have s5 := (hI.slot 5 (by kernel_rfl)).trans a5
  have sk := (hI.slot 9 (by kernel_rfl)).trans ak
  simp only [Array.getD_eq_getD_getElem?] at s4 s5 sk
  have hic : i' = 0 ∨ i' = 1 ∨ i' = 2 ∨ i' = 3 ∨ i' = 4 ∨ i' = 5 ∨ i' = 6 ∨ i' = 7 ∨ i' = 8 ∨ i' = 9 ∨ i' = 10 ∨ i' = 11 ∨ i' = 12 ∨ i' = 13 ∨ i' = 14 ∨ i' = 15 ∨ i' = 16 ∨ i' = 17 ∨ i' = 18 ∨ i' = 19 ∨ i' = 20 ∨ i' = 21 := by omega
  rcases hic with rfl | rfl | rfl | rfl | rfl | rfl | rfl | rfl | rfl | rfl | rfl | rfl | rfl | rfl | rfl | rfl | rfl | rfl | rfl | rfl | rfl | rfl
  all_goals cases ho
  · have hY := (hYW.keeps (Keeps.of_fresh hS (fun _ => False)) (fun e => e)).cell 0
    go_simp
    exact hK' _ _ ⟨sv, N, hI.step oraRa 0 60 rfl (by rw [hsz]; decide) _ _ rfl hall hS (fun _ _ h => h) rfl, hNq⟩
  · have hX := (hXW.keeps (Keeps.of_fresh hS (fun _ => False)) (fun e => e)).cell 0
    go_simp
    exact hK' _ _ ⟨sv, N, hI.step oraRa 1 61 rfl (by rw [hsz]; decide) _ _ rfl hall hS (fun _ _ h => h) rfl, hNq⟩
  · go_simp
    exact hK' _ _ ⟨sv, N, hI.step oraRa 2 62 rfl (by rw [hsz]; decide) _ _ rfl hall hS (fun _ _ h => h) rfl, hNq⟩
  · have e2 : c.tmps.getD 62 undef = .pointer (some ⟨Z, 0, none⟩) := hI.fact 2 62 rfl (listed hall 2 (by kernel_rfl))
    simp only [Array.getD_eq_getD_getElem?] at e2
    have hX := (hXW.keeps (Keeps.of_fresh hS (fun _ => False)) (fun e => e)).cell 0
    go_simp
    exact hK' _ _ ⟨sv, N, hI.step oraRa 3 63 rfl (by rw [hsz]; decide) _ _ rfl hall hS (fun _ _ h => h) rfl, hNq⟩
  · go_simp
    exact hK' _ _ ⟨sv, N, hI.step oraRa 4 64 rfl (by rw [hsz]; decide) _ _ rfl hall hS (fun _ _ h => h) rfl, hNq⟩
  · have e3 : c.tmps.getD 63 undef = .slice (some ⟨g, o, none⟩) n cap := hI.fact 3 63 rfl (listed hall 3 (by kernel_rfl))
    simp only [Array.getD_eq_getD_getElem?] at e3
    have e4 : c.tmps.getD 64 undef = .int .i64 k := hI.fact 4 64 rfl (listed hall 4 (by kernel_rfl))
    simp only [Array.getD_eq_getD_getElem?] at e4
    go_simp
    exact hK' _ _ ⟨sv, N, hI.step oraRa 5 65 rfl (by rw [hsz]; decide) _ _ rfl hall hS (fun _ _ h => h) rfl, hNq⟩
  · have e5 : c.tmps.getD 65 undef = .pointer (some ⟨g, o + k * 3, none⟩) := hI.fact 5 65 rfl (listed hall 5 (by kernel_rfl))
    simp only [Array.getD_eq_getD_getElem?] at e5
    go_simp
    exact hK' _ _ ⟨sv, N, hI.step oraRa 6 66 rfl (by rw [hsz]; decide) _ _ rfl hall hS (fun _ _ h => h) rfl, hNq⟩
  · have e6 : c.tmps.getD 66 undef = .pointer (some ⟨g, o + k * 3, none⟩) := hI.fact 6 66 rfl (listed hall 6 (by kernel_rfl))
    simp only [Array.getD_eq_getD_getElem?] at e6
    have c0 := (hS.cell (p := ⟨g, o + k * 3, none⟩) hgl).trans q0
    go_simp
    exact hK' _ _ ⟨sv, N, hI.step oraRa 7 67 rfl (by rw [hsz]; decide) _ _ rfl hall hS (fun _ _ h => h) rfl, hNq⟩
  · have e1 : c.tmps.getD 61 undef = .agg #[.slice (some ⟨g, o, none⟩) n cap] := hI.fact 1 61 rfl (listed hall 1 (by kernel_rfl))
    simp only [Array.getD_eq_getD_getElem?] at e1
    have e7 : c.tmps.getD 67 undef = .int .i64 par := hI.fact 7 67 rfl (listed hall 7 (by kernel_rfl))
    simp only [Array.getD_eq_getD_getElem?] at e7
    go_simp
    refine (hpath.out wx hS).mono ?_
    rintro e w2 ⟨rfl, hb2⟩
    go_simp
    have hS2 : Below W.heap.size W w2 := hS.trans (hb2.mono hS.size)
    exact hK' _ _ ⟨sv, N, hI.step oraRa 8 68 rfl (by rw [hsz]; decide) _ _ rfl hall hS2 (fun _ _ h => OraF.new h hb2) rfl, hNq⟩
  · go_simp
    exact hK' _ _ ⟨sv, N, hI.step oraRa 9 69 rfl (by rw [hsz]; decide) _ _ rfl hall hS (fun _ _ h => h) rfl, hNq⟩
  · have e9 : c.tmps.getD 69 undef = .pointer (some ⟨Z, 0, none⟩) := hI.fact 9 69 rfl (listed hall 9 (by kernel_rfl))
    simp only [Array.getD_eq_getD_getElem?] at e9
    have hX := (hXW.keeps (Keeps.of_fresh hS (fun _ => False)) (fun e => e)).cell 0
    go_simp
    exact hK' _ _ ⟨sv, N, hI.step oraRa 10 70 rfl (by rw [hsz]; decide) _ _ rfl hall hS (fun _ _ h => h) rfl, hNq⟩
  · go_simp
    exact hK' _ _ ⟨sv, N, hI.step oraRa 11 71 rfl (by rw [hsz]; decide) _ _ rfl hall hS (fun _ _ h => h) rfl, hNq⟩
  · have e10 : c.tmps.getD 70 undef = .slice (some ⟨g, o, none⟩) n cap := hI.fact 10 70 rfl (listed hall 10 (by kernel_rfl))
    simp only [Array.getD_eq_getD_getElem?] at e10
    have e11 : c.tmps.getD 71 undef = .int .i64 k := hI.fact 11 71 rfl (listed hall 11 (by kernel_rfl))
    simp only [Array.getD_eq_getD_getElem?] at e11
    go_simp
    exact hK' _ _ ⟨sv, N, hI.step oraRa 12 72 rfl (by rw [hsz]; decide) _ _ rfl hall hS (fun _ _ h => h) rfl, hNq⟩
  · have e12 : c.tmps.getD 72 undef = .pointer (some ⟨g, o + k * 3, none⟩) := hI.fact 12 72 rfl (listed hall 12 (by kernel_rfl))
    simp only [Array.getD_eq_getD_getElem?] at e12
    go_simp
    exact hK' _ _ ⟨sv, N, hI.step oraRa 13 73 rfl (by rw [hsz]; decide) _ _ rfl hall hS (fun _ _ h => h) rfl, hNq⟩
  · have e13 : c.tmps.getD 73 undef = .pointer (some ⟨g, o + k * 3 + 1, none⟩) := hI.fact 13 73 rfl (listed hall 13 (by kernel_rfl))
    simp only [Array.getD_eq_getD_getElem?] at e13
    have c1 := (hS.cell (p := ⟨g, o + k * 3 + 1, none⟩) hgl).trans q1
    go_simp
    exact hK' _ _ ⟨sv, N, hI.step oraRa 14 74 rfl (by rw [hsz]; decide) _ _ rfl hall hS (fun _ _ h => h) rfl, hNq⟩
  · have e0 : c.tmps.getD 60 undef = .agg #[vy] := hI.fact 0 60 rfl (listed hall 0 (by kernel_rfl))
    simp only [Array.getD_eq_getD_getElem?] at e0
    have e8 : c.tmps.getD 68 undef = .string p := hI.fact 8 68 rfl (listed hall 8 (by kernel_rfl))
    simp only [Array.getD_eq_getD_getElem?] at e8
    have e14 : c.tmps.getD 74 undef = .string nm := hI.fact 14 74 rfl (listed hall 14 (by kernel_rfl))
    simp only [Array.getD_eq_getD_getElem?] at e14
    go_simp
    refine (hedit.out wx hS).mono ?_
    rintro e w2 ⟨v2, rfl, hr2, hb2⟩
    go_simp
    have hS2 : Below W.heap.size W w2 := hS.trans (hb2.mono hS.size)
    have hr3 := hr2.base (Nat.le_trans hbase hS.size)
    have u9 := hI.2.2.1.2.unlisted hl (j := 16) (by kernel_rfl)
    have u10 := hI.2.2.1.2.unlisted u9 (j := 17) (by kernel_rfl)
    have u13 := hI.2.2.1.2.unlisted u10 (j := 20) (by kernel_rfl)
    have hJ := hI.other (F' := OraF Z Yb g o n cap k base par vy p nm T' er v2 N) (fun j hj u hF => hF.ghost (yes_no hj hl) (yes_no hj u9) (yes_no hj u10) (yes_no hj u13))
    exact hK' _ _ ⟨v2, N, hJ.step oraRa 15 75 rfl (by rw [hsz]; decide) _ _ rfl hall hS2 (fun _ _ h => OraF.new h hb2) ⟨rfl, hr3⟩, hNq⟩
  · obtain ⟨ee, hr8⟩ : c.tmps.getD 75 undef = .tuple #[.agg #[sv], .int .i64 er] ∧ TreeRow wx base sv T' := hI.fact 15 75 rfl (listed hall 15 (by kernel_rfl))
    simp only [Array.getD_eq_getD_getElem?] at ee
    go_simp
    exact hK' _ _ ⟨sv, N, hI.step oraRa 16 59 rfl (by rw [hsz]; decide) _ _ rfl hall hS (fun _ _ h => h) ⟨rfl, hr8⟩, hNq⟩
  · obtain ⟨ee, hr8⟩ : c.tmps.getD 59 undef = .tuple #[.agg #[sv], .int .i64 er] ∧ TreeRow wx base sv T' := hI.fact 16 59 rfl (listed hall 16 (by kernel_rfl))
    simp only [Array.getD_eq_getD_getElem?] at ee
    go_simp
    exact hK' _ _ ⟨sv, N, hI.step oraRa 17 76 rfl (by rw [hsz]; decide) _ _ rfl hall hS (fun _ _ h => h) rfl, hNq⟩
  · obtain ⟨ee, hr8⟩ : c.tmps.getD 59 undef = .tuple #[.agg #[sv], .int .i64 er] ∧ TreeRow wx base sv T' := hI.fact 16 59 rfl (listed hall 16 (by kernel_rfl))
    simp only [Array.getD_eq_getD_getElem?] at ee
    go_simp
    exact hK' _ _ ⟨sv, N, hI.step oraRa 18 77 rfl (by rw [hsz]; decide) _ _ rfl hall hS (fun _ _ h => h) rfl, hNq⟩
  · go_simp
    have hb2 : Below wx.heap.size wx (wx.alloc (.cells #[.slice none 0 0] 25)) := (Below.refl _ _).alloc (Nat.le_refl _) _
    have hS2 : Below W.heap.size W _ := hS.trans (hb2.mono hS.size)
    have u13 := hI.2.2.1.2.unlisted hl (j := 20) (by kernel_rfl)
    have hNn : W.heap.size ≤ wx.heap.size := hS.size
    have hJ := hI.other (F' := OraF Z Yb g o n cap k base par vy p nm T' er sv wx.heap.size) (fun j hj u hF => hF.ghostN (yes_no hj hl) (yes_no hj u13))
    exact hK' _ _ ⟨sv, wx.heap.size, hJ.step oraRa 19 13 rfl (by rw [hsz]; decide) _ _ rfl hall hS2 (fun _ _ h => OraF.new h hb2) ⟨rfl, _, Holds.new _ _ _⟩, hNn⟩
  · obtain ⟨ea, x, hHN⟩ : c.tmps.getD 13 undef = .pointer (some ⟨N, 0, none⟩) ∧ ∃ x, Holds wx N #[x] 25 := hI.fact 19 13 rfl (listed hall 19 (by kernel_rfl))
    simp only [Array.getD_eq_getD_getElem?] at ea
    have e17 : c.tmps.getD 76 undef = .agg #[sv] := hI.fact 17 76 rfl (listed hall 17 (by kernel_rfl))
    simp only [Array.getD_eq_getD_getElem?] at e17
    obtain ⟨_, hr9⟩ : c.tmps.getD 59 undef = .tuple #[.agg #[sv], .int .i64 er] ∧ TreeRow wx base sv T' := hI.fact 16 59 rfl (by
      have p10 := listed hall 17 (by kernel_rfl)
      cases p9 : l.getD 16 false with
      | true => rfl
      | false => rw [hI.2.2.1.2.unlisted p9 (j := 17) (by kernel_rfl)] at p10; cases p10)
    obtain ⟨a2, c2, rfl⟩ := hr9.slice
    have n0 : wx.cell? ⟨N, 0, none⟩ = some x := hHN.cell 0
    have n1 : wx.frozen? ⟨N, 0, none⟩ = false := hHN.free 0
    go_simp
    have hS2 : Below W.heap.size W (wx.setCell ⟨N, 0, none⟩ (.slice a2 T'.length c2)) := hS.setCell (p := ⟨N, 0, none⟩) hNq _
    exact hK' _ _ ⟨.slice a2 T'.length c2, N, hI.stepN 20 rfl _ rfl hall hS2 (fun _ _ h => h.store hHN) (hHN.set 0 _), hNq⟩
  · have e18 : c.tmps.getD 77 undef = .int .i64 er := hI.fact 18 77 rfl (listed hall 18 (by kernel_rfl))
    simp only [Array.getD_eq_getD_getElem?] at e18
    go_simp
    exact hK' _ _ ⟨sv, N, hI.step oraRa 21 14 rfl (by rw [hsz]; decide) _ _ rfl hall hS (fun _ _ h => h) rfl, hNq⟩
end Go.Proofs.YtjfkjnakmmkkiaaGreat

namespace Go.Proofs.YtjfkjnakmmkkiaaGreat
open Go.RowKit

noncomputable def orbOps (n : Nat) : Array Oper := (regOps (Tryz.f6.body.getD .skip) n).getD #[]
theorem orbR : inRow2 .any (orbOps 25) = true := by kernel_rfl
theorem orbRa : apartB (orbOps 25) = true := by kernel_rfl
theorem orbRn : (orbOps 25).size = 15 := by kernel_rfl
def OrbF (_ _ Pb g o n cap k base : Nat) (vy : Value) (p nm vl : ByteArray) (T' : List NodeT) (er : Int) (sv : Value) (N : Nat) (j : Nat) : Value → World → Prop := match j with
  | 0 => fun u _ => u = .agg #[vy]
  | 1 => fun u _ => u = .agg #[.slice (some ⟨g, o, none⟩) n cap]
  | 2 => fun u _ => u = .int .i64 k
  | 3 => fun u _ => u = .string p
  | 4 => fun u _ => u = .pointer (some ⟨Pb, 0, none⟩)
  | 5 => fun u _ => u = .string nm
  | 6 => fun u _ => u = .pointer (some ⟨Pb, 1, none⟩)
  | 7 => fun u _ => u = .string vl
  | 8 => fun u w => u = .tuple #[.agg #[sv], .int .i64 er] ∧ TreeRow w base sv T'
  | 9 => fun u w => u = .tuple #[.agg #[sv], .int .i64 er] ∧ TreeRow w base sv T'
  | 10 => fun u _ => u = .agg #[sv]
  | 11 => fun u _ => u = .int .i64 er
  | 12 => fun u w => u = .pointer (some ⟨N, 0, none⟩) ∧ ∃ x, Holds w N #[x] 25
  | 13 => fun _ w => Holds w N #[sv] 25
  | 14 => fun u _ => u = .int .i64 er
  | _ => fun _ _ => True
section
variable {Z Yb Pb g o n cap k base : Nat} {vy : Value} {p nm vl : ByteArray} {T' : List NodeT} {er : Int} {sv : Value} {N : Nat} {w w' : World} {j : Nat} {u : Value}
theorem OrbF.new (h : OrbF Z Yb Pb g o n cap k base vy p nm vl T' er sv N j u w) (kb : Below w.heap.size w w') : OrbF Z Yb Pb g o n cap k base vy p nm vl T' er sv N j u w' := by
  unfold OrbF at *
  have kk := Keeps.of_fresh kb (fun _ => False)
  split at h
  all_goals first
    | exact h
    | exact ⟨h.1, TreeRow.new h.2 kb⟩
    | exact ⟨h.1, h.2.choose, h.2.choose_spec.keeps kk (fun e => e)⟩
    | exact Holds.keeps h kk (fun e => e)
theorem OrbF.store {x : Value} (h : OrbF Z Yb Pb g o n cap k base vy p nm vl T' er sv N j u w) (hH : Holds w N #[x] 25) : OrbF Z Yb Pb g o n cap k base vy p nm vl T' er sv N j u (w.setCell ⟨N, 0, none⟩ sv) := by
  unfold OrbF at *
  split at h
  all_goals first
    | exact h
    | exact ⟨h.1, h.2.set hH (by decide) (by decide) 0 sv⟩
    | exact ⟨h.1, _, hH.set 0 sv⟩
    | exact hH.set 0 sv
theorem OrbF.ghost {sv2 : Value} (h : OrbF Z Yb Pb g o n cap k base vy p nm vl T' er sv N j u w) (h8 : j ≠ 8) (h9 : j ≠ 9) (h10 : j ≠ 10) (h13 : j ≠ 13) : OrbF Z Yb Pb g o n cap k base vy p nm vl T' er sv2 N j u w := by
  unfold OrbF at *
  split at h
  all_goals first
    | exact absurd rfl h8
    | exact absurd rfl h9
    | exact absurd rfl h10
    | exact absurd rfl h13
    | exact h
theorem OrbF.ghostN {N2 : Nat} (h : OrbF Z Yb Pb g o n cap k base vy p nm vl T' er sv N j u w) (h12 : j ≠ 12) (h13 : j ≠ 13) : OrbF Z Yb Pb g o n cap k base vy p nm vl T' er sv N2 j u w := by
  unfold OrbF at *
  split at h
  all_goals first
    | exact absurd rfl h12
    | exact absurd rfl h13
    | exact h
end

set_option maxHeartbeats 4000000 in
set_option maxRecDepth 100000 in
theorem orb_region {Q : Exit → Act → World → Prop} (Z Yb Pb g o n cap k base : Nat) (vy : Value) (p nm vl : ByteArray) (T' : List NodeT) (er : Int) (W w : World) (A : Act) (hsz : A.tmps.size = 143) (hbase : base ≤ W.heap.size)
    (hXW : Holds W Z #[.slice (some ⟨g, o, none⟩) n cap] 25) (hYW : Holds W Yb #[vy] 25) (hPW : Holds W Pb #[.string nm, .string vl] 83)
    (a4 : A.tmps.getD 4 undef = .pointer (some ⟨Z, 0, none⟩)) (a5 : A.tmps.getD 5 undef = .pointer (some ⟨Yb, 0, none⟩)) (ak : A.tmps.getD 16 undef = .int .i64 k)
    (a19 : A.tmps.getD 19 undef = .pointer (some ⟨Pb, 0, none⟩))
    (hpath : Hid (∀ wx, Below W.heap.size W wx → Calls Tryz.prog 15 #[.agg #[.slice (some ⟨g, o, none⟩) n cap], .int .i64 k] wx fun e w' => e = .returned (.string p) ∧ Below wx.heap.size wx w'))
    (hedit : Hid (∀ wx, Below W.heap.size W wx → Calls Tryz.prog 53 #[.agg #[vy], .string p, .string nm, .string vl] wx (EditPost (T', er) wx)))
    (hS : Below W.heap.size W w)
    (hQ : ∀ c w' sv N, SameBut (orbOps 25) A c → Below W.heap.size W w' → c.tmps.getD 20 undef = .pointer (some ⟨N, 0, none⟩) → Holds w' N #[sv] 25 → c.tmps.getD 21 undef = .int .i64 er → TreeRow w' base sv T' → W.heap.size ≤ N → Q .normal c w') :
    wpAny Tryz.prog .any (orbOps 25) Q (orbOps 25).size (Array.replicate (orbOps 25).size false) A w := by
  refine wpAny_inv2 (fun l c wx => ∃ sv N, RInv (orbOps 25) A (OrbF Z Yb Pb g o n cap k base vy p nm vl T' er sv N) (fun wx => Below W.heap.size W wx) l c wx ∧ W.heap.size ≤ N) orbR ?hend ?hstep _ _ _ _ (by simp) (by simp) ⟨.slice none 0 0, W.heap.size, RInv.start hS, Nat.le_refl _⟩
  case hend =>
    rintro l c wx ⟨sv, N, hI, hNq⟩ hl
    have hh : ∀ k, k < 15 → l.getD k false = true := fun k hk => hl k (by rw [orbRn]; exact hk)
    obtain ⟨_, hr9⟩ : c.tmps.getD 115 undef = .tuple #[.agg #[sv], .int .i64 er] ∧ TreeRow wx base sv T' := hI.fact 9 115 rfl (hh 9 (by decide))
    have e12 : c.tmps.getD 20 undef = .pointer (some ⟨N, 0, none⟩) ∧ ∃ x, Holds wx N #[x] 25 := hI.fact 12 20 rfl (hh 12 (by decide))
    have h13 : Holds wx N #[sv] 25 := hI.2.2.2 13 (by rw [orbRn]; decide) (hh 13 (by decide))
    have e14 : c.tmps.getD 21 undef = .int .i64 er := hI.fact 14 21 rfl (hh 14 (by decide))
    exact hQ c wx sv N hI.1 hI.2.1 e12.1 h13 e14 hr9 hNq
  intro l c wx hI i' op ho hl hall K' hK'
  obtain ⟨sv, N, hI, hNq⟩ := hI
  have hi13 : i' < 15 := by rw [← orbRn]; exact (Array.getElem?_eq_some_iff.1 ho).1
  simp only [orbOps, regOps, Tryz.f6, Option.getD_some, reduceIte, Nat.reduceEqDiff] at ho
  have hS := hI.2.1
  have s4 := (hI.slot 4 (by kernel_rfl)).trans a4
  have s5 := (hI.slot 5 (by kernel_rfl)).trans a5
  have sk := (hI.slot 16 (by kernel_rfl)).trans ak
  have s19 := (hI.slot 19 (by kernel_rfl)).trans a19
  simp only [Array.getD_eq_getD_getElem?] at s4 s5 sk s19
  have hic : i' = 0 ∨ i' = 1 ∨ i' = 2 ∨ i' = 3 ∨ i' = 4 ∨ i' = 5 ∨ i' = 6 ∨ i' = 7 ∨ i' = 8 ∨ i' = 9 ∨ i' = 10 ∨ i' = 11 ∨ i' = 12 ∨ i' = 13 ∨ i' = 14 := by omega
  rcases hic with rfl | rfl | rfl | rfl | rfl | rfl | rfl | rfl | rfl | rfl | rfl | rfl | rfl | rfl | rfl
  all_goals cases ho
  · have hY := (hYW.keeps (Keeps.of_fresh hS (fun _ => False)) (fun e => e)).cell 0
    go_simp
    exact hK' _ _ ⟨sv, N, hI.step orbRa 0 116 rfl (by rw [hsz]; decide) _ _ rfl hall hS (fun _ _ h => h) rfl, hNq⟩
  · have hX := (hXW.keeps (Keeps.of_fresh hS (fun _ => False)) (fun e => e)).cell 0
    go_simp
    exact hK' _ _ ⟨sv, N, hI.step orbRa 1 117 rfl (by rw [hsz]; decide) _ _ rfl hall hS (fun _ _ h => h) rfl, hNq⟩
  · go_simp
    exact hK' _ _ ⟨sv, N, hI.step orbRa 2 118 rfl (by rw [hsz]; decide) _ _ rfl hall hS (fun _ _ h => h) rfl, hNq⟩
  · have e1 : c.tmps.getD 117 undef = .agg #[.slice (some ⟨g, o, none⟩) n cap] := hI.fact 1 117 rfl (listed hall 1 (by kernel_rfl))
    simp only [Array.getD_eq_getD_getElem?] at e1
    have e2 : c.tmps.getD 118 undef = .int .i64 k := hI.fact 2 118 rfl (listed hall 2 (by kernel_rfl))
    simp only [Array.getD_eq_getD_getElem?] at e2
    go_simp
    refine (hpath.out wx hS).mono ?_
    rintro e w2 ⟨rfl, hb2⟩
    go_simp
    have hS2 : Below W.heap.size W w2 := hS.trans (hb2.mono hS.size)
    exact hK' _ _ ⟨sv, N, hI.step orbRa 3 119 rfl (by rw [hsz]; decide) _ _ rfl hall hS2 (fun _ _ h => OrbF.new h hb2) rfl, hNq⟩
  · go_simp
    exact hK' _ _ ⟨sv, N, hI.step orbRa 4 120 rfl (by rw [hsz]; decide) _ _ rfl hall hS (fun _ _ h => h) rfl, hNq⟩
  · have e4 : c.tmps.getD 120 undef = .pointer (some ⟨Pb, 0, none⟩) := hI.fact 4 120 rfl (listed hall 4 (by kernel_rfl))
    simp only [Array.getD_eq_getD_getElem?] at e4
    have c1 := (hPW.keeps (Keeps.of_fresh hS (fun _ => False)) (fun e => e)).cell 0
    go_simp
    exact hK' _ _ ⟨sv, N, hI.step orbRa 5 121 rfl (by rw [hsz]; decide) _ _ rfl hall hS (fun _ _ h => h) rfl, hNq⟩
  · go_simp
    exact hK' _ _ ⟨sv, N, hI.step orbRa 6 122 rfl (by rw [hsz]; decide) _ _ rfl hall hS (fun _ _ h => h) rfl, hNq⟩
  · have e6 : c.tmps.getD 122 undef = .pointer (some ⟨Pb, 1, none⟩) := hI.fact 6 122 rfl (listed hall 6 (by kernel_rfl))
    simp only [Array.getD_eq_getD_getElem?] at e6
    have c1 := (hPW.keeps (Keeps.of_fresh hS (fun _ => False)) (fun e => e)).cell 1
    go_simp
    exact hK' _ _ ⟨sv, N, hI.step orbRa 7 123 rfl (by rw [hsz]; decide) _ _ rfl hall hS (fun _ _ h => h) rfl, hNq⟩
  · have e0 : c.tmps.getD 116 undef = .agg #[vy] := hI.fact 0 116 rfl (listed hall 0 (by kernel_rfl))
    simp only [Array.getD_eq_getD_getElem?] at e0
    have e3 : c.tmps.getD 119 undef = .string p := hI.fact 3 119 rfl (listed hall 3 (by kernel_rfl))
    simp only [Array.getD_eq_getD_getElem?] at e3
    have e5 : c.tmps.getD 121 undef = .string nm := hI.fact 5 121 rfl (listed hall 5 (by kernel_rfl))
    simp only [Array.getD_eq_getD_getElem?] at e5
    have e7 : c.tmps.getD 123 undef = .string vl := hI.fact 7 123 rfl (listed hall 7 (by kernel_rfl))
    simp only [Array.getD_eq_getD_getElem?] at e7
    go_simp
    refine (hedit.out wx hS).mono ?_
    rintro e w2 ⟨v2, rfl, hr2, hb2⟩
    go_simp
    have hS2 : Below W.heap.size W w2 := hS.trans (hb2.mono hS.size)
    have hr3 := hr2.base (Nat.le_trans hbase hS.size)
    have u9 := hI.2.2.1.2.unlisted hl (j := 9) (by kernel_rfl)
    have u10 := hI.2.2.1.2.unlisted u9 (j := 10) (by kernel_rfl)
    have u13 := hI.2.2.1.2.unlisted u10 (j := 13) (by kernel_rfl)
    have hJ := hI.other (F' := OrbF Z Yb Pb g o n cap k base vy p nm vl T' er v2 N) (fun j hj u hF => hF.ghost (yes_no hj hl) (yes_no hj u9) (yes_no hj u10) (yes_no hj u13))
    exact hK' _ _ ⟨v2, N, hJ.step orbRa 8 124 rfl (by rw [hsz]; decide) _ _ rfl hall hS2 (fun _ _ h => OrbF.new h hb2) ⟨rfl, hr3⟩, hNq⟩
  · obtain ⟨ee, hr8⟩ : c.tmps.getD 124 undef = .tuple #[.agg #[sv], .int .i64 er] ∧ TreeRow wx base sv T' := hI.fact 8 124 rfl (listed hall 8 (by kernel_rfl))
    simp only [Array.getD_eq_getD_getElem?] at ee
    go_simp
    exact hK' _ _ ⟨sv, N, hI.step orbRa 9 115 rfl (by rw [hsz]; decide) _ _ rfl hall hS (fun _ _ h => h) ⟨rfl, hr8⟩, hNq⟩
  · obtain ⟨ee, hr8⟩ : c.tmps.getD 115 undef = .tuple #[.agg #[sv], .int .i64 er] ∧ TreeRow wx base sv T' := hI.fact 9 115 rfl (listed hall 9 (by kernel_rfl))
    simp only [Array.getD_eq_getD_getElem?] at ee
    go_simp
    exact hK' _ _ ⟨sv, N, hI.step orbRa 10 125 rfl (by rw [hsz]; decide) _ _ rfl hall hS (fun _ _ h => h) rfl, hNq⟩
  · obtain ⟨ee, hr8⟩ : c.tmps.getD 115 undef = .tuple #[.agg #[sv], .int .i64 er] ∧ TreeRow wx base sv T' := hI.fact 9 115 rfl (listed hall 9 (by kernel_rfl))
    simp only [Array.getD_eq_getD_getElem?] at ee
    go_simp
    exact hK' _ _ ⟨sv, N, hI.step orbRa 11 126 rfl (by rw [hsz]; decide) _ _ rfl hall hS (fun _ _ h => h) rfl, hNq⟩
  · go_simp
    have hb2 : Below wx.heap.size wx (wx.alloc (.cells #[.slice none 0 0] 25)) := (Below.refl _ _).alloc (Nat.le_refl _) _
    have hS2 : Below W.heap.size W _ := hS.trans (hb2.mono hS.size)
    have u13 := hI.2.2.1.2.unlisted hl (j := 13) (by kernel_rfl)
    have hNn : W.heap.size ≤ wx.heap.size := hS.size
    have hJ := hI.other (F' := OrbF Z Yb Pb g o n cap k base vy p nm vl T' er sv wx.heap.size) (fun j hj u hF => hF.ghostN (yes_no hj hl) (yes_no hj u13))
    exact hK' _ _ ⟨sv, wx.heap.size, hJ.step orbRa 12 20 rfl (by rw [hsz]; decide) _ _ rfl hall hS2 (fun _ _ h => OrbF.new h hb2) ⟨rfl, _, Holds.new _ _ _⟩, hNn⟩
  · obtain ⟨ea, x, hHN⟩ : c.tmps.getD 20 undef = .pointer (some ⟨N, 0, none⟩) ∧ ∃ x, Holds wx N #[x] 25 := hI.fact 12 20 rfl (listed hall 12 (by kernel_rfl))
    simp only [Array.getD_eq_getD_getElem?] at ea
    have e10 : c.tmps.getD 125 undef = .agg #[sv] := hI.fact 10 125 rfl (listed hall 10 (by kernel_rfl))
    simp only [Array.getD_eq_getD_getElem?] at e10
    obtain ⟨_, hr9⟩ : c.tmps.getD 115 undef = .tuple #[.agg #[sv], .int .i64 er] ∧ TreeRow wx base sv T' := hI.fact 9 115 rfl (by
      have p10 := listed hall 10 (by kernel_rfl)
      cases p9 : l.getD 9 false with
      | true => rfl
      | false => rw [hI.2.2.1.2.unlisted p9 (j := 10) (by kernel_rfl)] at p10; cases p10)
    obtain ⟨a2, c2, rfl⟩ := hr9.slice
    have n0 : wx.cell? ⟨N, 0, none⟩ = some x := hHN.cell 0
    have n1 : wx.frozen? ⟨N, 0, none⟩ = false := hHN.free 0
    go_simp
    have hS2 : Below W.heap.size W (wx.setCell ⟨N, 0, none⟩ (.slice a2 T'.length c2)) := hS.setCell (p := ⟨N, 0, none⟩) hNq _
    exact hK' _ _ ⟨.slice a2 T'.length c2, N, hI.stepN 13 rfl _ rfl hall hS2 (fun _ _ h => h.store hHN) (hHN.set 0 _), hNq⟩
  · have e11 : c.tmps.getD 126 undef = .int .i64 er := hI.fact 11 126 rfl (listed hall 11 (by kernel_rfl))
    simp only [Array.getD_eq_getD_getElem?] at e11
    go_simp
    exact hK' _ _ ⟨sv, N, hI.step orbRa 14 21 rfl (by rw [hsz]; decide) _ _ rfl hall hS (fun _ _ h => h) rfl, hNq⟩
end Go.Proofs.YtjfkjnakmmkkiaaGreat
