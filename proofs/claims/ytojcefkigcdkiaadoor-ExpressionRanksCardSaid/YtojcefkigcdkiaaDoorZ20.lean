/- Plain laws: of two signs the one that binds more tightly comes first. | The law ExpressionRanks: its drawn region (printed by grnk.py). | The law ExpressionRanks: the walk. -/
import Derived.Test.YtojcefkigcdkiaaDoorZ19
import Derived.Test.YtojcefkigcdkiaaDoorZ18
import Derived.Test.YtojcefkigcdkiaaDoorZ21

set_option linter.unusedVariables false
set_option linter.unusedSimpArgs false
set_option linter.unusedSectionVars false

namespace Go.Proofs.YtojcefkigcdkiaaDoor
open Go.RowKit

/-- The signs by their ranks, the weakest ones first. -/
def rankL : List (List (List UInt8)) := [[[124, 124]], [[38, 38]], [[124]], [[94]], [[38]], [[61, 61], [33, 61]], [[60], [62], [60, 61], [62, 61]], [[60, 60], [62, 62]], [[43], [45]], [[42], [47], [37]]]
theorem rank_len : ∀ i, i < 10 → (rankL.getD i []).length ≤ 4 ∧ 1 ≤ (rankL.getD i []).length := by decide
theorem rank_row {i : Nat} {s : List UInt8} (hi : i < 10) (hs : s ∈ rankL.getD i []) : s ∈ signsX ∧ ∃ f, (⟨s.toArray⟩, 9 - i, f) ∈ rowsK ∧ (1 ≤ 9 - i → f ≠ 2 ∧ f ≠ 3) := by
  have hc : i = 0 ∨ i = 1 ∨ i = 2 ∨ i = 3 ∨ i = 4 ∨ i = 5 ∨ i = 6 ∨ i = 7 ∨ i = 8 ∨ i = 9 := by omega
  rcases hc with rfl | rfl | rfl | rfl | rfl | rfl | rfl | rfl | rfl | rfl
  · simp only [rankL, List.getD_cons_zero, List.getD_cons_succ, List.mem_cons, List.not_mem_nil, or_false] at hs
    obtain rfl := hs
    · exact ⟨by decide, 18, by simp [rowsK], by decide⟩
  · simp only [rankL, List.getD_cons_zero, List.getD_cons_succ, List.mem_cons, List.not_mem_nil, or_false] at hs
    obtain rfl := hs
    · exact ⟨by decide, 17, by simp [rowsK], by decide⟩
  · simp only [rankL, List.getD_cons_zero, List.getD_cons_succ, List.mem_cons, List.not_mem_nil, or_false] at hs
    obtain rfl := hs
    · exact ⟨by decide, 16, by simp [rowsK], by decide⟩
  · simp only [rankL, List.getD_cons_zero, List.getD_cons_succ, List.mem_cons, List.not_mem_nil, or_false] at hs
    obtain rfl := hs
    · exact ⟨by decide, 15, by simp [rowsK], by decide⟩
  · simp only [rankL, List.getD_cons_zero, List.getD_cons_succ, List.mem_cons, List.not_mem_nil, or_false] at hs
    obtain rfl := hs
    · exact ⟨by decide, 14, by simp [rowsK], by decide⟩
  · simp only [rankL, List.getD_cons_zero, List.getD_cons_succ, List.mem_cons, List.not_mem_nil, or_false] at hs
    obtain rfl | rfl := hs
    · exact ⟨by decide, 12, by simp [rowsK], by decide⟩
    · exact ⟨by decide, 13, by simp [rowsK], by decide⟩
  · simp only [rankL, List.getD_cons_zero, List.getD_cons_succ, List.mem_cons, List.not_mem_nil, or_false] at hs
    obtain rfl | rfl | rfl | rfl := hs
    · exact ⟨by decide, 8, by simp [rowsK], by decide⟩
    · exact ⟨by decide, 9, by simp [rowsK], by decide⟩
    · exact ⟨by decide, 10, by simp [rowsK], by decide⟩
    · exact ⟨by decide, 11, by simp [rowsK], by decide⟩
  · simp only [rankL, List.getD_cons_zero, List.getD_cons_succ, List.mem_cons, List.not_mem_nil, or_false] at hs
    obtain rfl | rfl := hs
    · exact ⟨by decide, 6, by simp [rowsK], by decide⟩
    · exact ⟨by decide, 7, by simp [rowsK], by decide⟩
  · simp only [rankL, List.getD_cons_zero, List.getD_cons_succ, List.mem_cons, List.not_mem_nil, or_false] at hs
    obtain rfl | rfl := hs
    · exact ⟨by decide, 4, by simp [rowsK], by decide⟩
    · exact ⟨by decide, 5, by simp [rowsK], by decide⟩
  · simp only [rankL, List.getD_cons_zero, List.getD_cons_succ, List.mem_cons, List.not_mem_nil, or_false] at hs
    obtain rfl | rfl | rfl := hs
    · exact ⟨by decide, 1, by simp [rowsK], by decide⟩
    · exact ⟨by decide, 2, by simp [rowsK], by decide⟩
    · exact ⟨by decide, 3, by simp [rowsK], by decide⟩
theorem div_no {f n : Nat} (h : 1 ≤ n) : divB f (n : Int) = false := by
  unfold divB
  rw [show ((n : Int) == 0) = false from by rw [beq_eq_false_iff_ne]; omega]
  rfl
theorem div_not {f : Nat} {v : Int} (h : f ≠ 2 ∧ f ≠ 3) : divB f v = false := by
  unfold divB
  simp [h.1, h.2]
section
variable {i k a b c : Nat} {p q : List UInt8} (hi : i < 10) (hk : k < 10) (hp : p ∈ rankL.getD i []) (hq : q ∈ rankL.getD k []) (ha : a ≤ 4294967295) (hb : 1 ≤ b) (hb2 : b ≤ 40) (hc : 1 ≤ c) (hc2 : c ≤ 40)
include hi hk hp hq ha hb hb2 hc hc2
theorem rnk_left (h : k ≤ i) : ∃ v, CompR (fmtT a ++ [32] ++ p ++ [32] ++ fmtT b ++ [32] ++ q ++ [32] ++ fmtT c) v 0 ∧ CompR ([40] ++ fmtT a ++ p ++ [32] ++ fmtT b ++ [41] ++ q ++ [32] ++ fmtT c) v 0 := by
  obtain ⟨p1, fp, p2, p3⟩ := rank_row hi hp
  obtain ⟨q1, fq, q2, q3⟩ := rank_row hk hq
  have la := fmt_len a ha
  have lb := fmt_len b (by omega)
  have lc := fmt_len c (by omega)
  have lp := sign_len p p1
  have lq := sign_len q q1
  refine ⟨appT fq (appT fp a b) c, ?_, ?_⟩
  · have := (WX.left (OX.num 0 a ha) (Pc.sp p p1) p2 (OX.num 0 b (by omega)) (Pc.sp q q1) q2 (OX.num 0 c (by omega)) (by omega) (div_no hb) (div_no hc)).comp (by omega) (by omega) (by simp; omega)
    simpa using this
  · have := (WX.bin (WX.par (WX.bin (OX.num 0 a ha) (Pc.af p p1) p2 (OX.num 0 b (by omega)) (div_no hb))) (Pc.af q q1) q2 (OX.num 1 c (by omega)) (div_no hc)).comp (by omega) (by omega) (by simp; omega)
    simpa using this
theorem rnk_one : ∃ v, CompR ([40] ++ fmtT a ++ p ++ [32] ++ fmtT b ++ [41] ++ q ++ [32] ++ fmtT c) v 0 := by
  obtain ⟨p1, fp, p2, p3⟩ := rank_row hi hp
  obtain ⟨q1, fq, q2, q3⟩ := rank_row hk hq
  have la := fmt_len a ha
  have lb := fmt_len b (by omega)
  have lc := fmt_len c (by omega)
  have lp := sign_len p p1
  have lq := sign_len q q1
  refine ⟨appT fq (appT fp a b) c, ?_⟩
  have := (WX.bin (WX.par (WX.bin (OX.num 0 a ha) (Pc.af p p1) p2 (OX.num 0 b (by omega)) (div_no hb))) (Pc.af q q1) q2 (OX.num 1 c (by omega)) (div_no hc)).comp (by omega) (by omega) (by simp; omega)
  simpa using this
theorem rnk_right (h : i < k) : ∃ v, CompR (fmtT a ++ [32] ++ p ++ [32] ++ fmtT b ++ [32] ++ q ++ [32] ++ fmtT c) v 0 ∧ CompR (fmtT a ++ [32] ++ p ++ [32, 40] ++ fmtT b ++ q ++ [32] ++ fmtT c ++ [41]) v 0 := by
  obtain ⟨p1, fp, p2, p3⟩ := rank_row hi hp
  obtain ⟨q1, fq, q2, q3⟩ := rank_row hk hq
  have la := fmt_len a ha
  have lb := fmt_len b (by omega)
  have lc := fmt_len c (by omega)
  have lp := sign_len p p1
  have lq := sign_len q q1
  have hf := p3 (by omega)
  refine ⟨appT fp a (appT fq b c), ?_, ?_⟩
  · have := (WX.right (OX.num 0 a ha) (Pc.sp p p1) p2 (OX.num 0 b (by omega)) (Pc.sp q q1) q2 (OX.num 0 c (by omega)) (by omega) (div_not hf) (div_no hc)).comp (by omega) (by omega) (by simp; omega)
    simpa using this
  · have := (WX.bin (OX.num 1 a ha) (Pc.sp p p1) p2 (WX.par (WX.bin (OX.num 0 b (by omega)) (Pc.af q q1) q2 (OX.num 0 c (by omega)) (div_no hc))) (div_not hf)).comp (by omega) (by omega) (by simp; omega)
    simpa using this
end
end Go.Proofs.YtojcefkigcdkiaaDoor

namespace Go.Proofs.YtojcefkigcdkiaaDoor
open Go.RowKit

noncomputable def rnkOps (n : Nat) : Array Oper := (regOps (Tryd.f4.body.getD .skip) n).getD #[]
theorem rnk4n : (rnkOps 4).size = 28 := by kernel_rfl
theorem rnk4r : inRow2 .any (rnkOps 4) = true := by kernel_rfl
theorem rnk4a : apartB (rnkOps 4) = true := by kernel_rfl
def RnkS (B tb : Nat) (W w : World) : Prop := Tape B w tb ∧ Keeps (· = tb) W w
def StrIn (L : List (List UInt8)) (u : Value) : Prop := ∃ s ∈ L, u = .string ⟨s.toArray⟩
def RnkG (tb g i k bi bk : Nat) (Li Lk : List (List UInt8)) : Nat → Value → Prop
  | 0 => fun u => u = .slice (some ⟨g, 0, none⟩) 10 10
  | 1 => fun u => u = .int .i64 (i : Int)
  | 2 => fun u => u = .pointer (some ⟨g, i, none⟩)
  | 3 => fun u => u = .slice (some ⟨bi, 0, none⟩) Li.length Li.length
  | 4 => fun u => u = .pointer (some ⟨tb, 0, none⟩)
  | 5 => fun u => u = .slice (some ⟨g, 0, none⟩) 10 10
  | 6 => fun u => u = .int .i64 (i : Int)
  | 7 => fun u => u = .pointer (some ⟨g, i, none⟩)
  | 8 => fun u => u = .slice (some ⟨bi, 0, none⟩) Li.length Li.length
  | 9 => fun u => u = .int .i64 Li.length
  | 10 => fun u => ∃ r : Nat, u = .int .i64 r ∧ r < Li.length
  | 11 => fun u => ∃ r : Nat, u = .pointer (some ⟨bi, r, none⟩) ∧ r < Li.length
  | 12 => fun u => StrIn Li u
  | 13 => fun u => u = .slice (some ⟨g, 0, none⟩) 10 10
  | 14 => fun u => u = .int .i64 (k : Int)
  | 15 => fun u => u = .pointer (some ⟨g, k, none⟩)
  | 16 => fun u => u = .slice (some ⟨bk, 0, none⟩) Lk.length Lk.length
  | 17 => fun u => u = .pointer (some ⟨tb, 0, none⟩)
  | 18 => fun u => u = .slice (some ⟨g, 0, none⟩) 10 10
  | 19 => fun u => u = .int .i64 (k : Int)
  | 20 => fun u => u = .pointer (some ⟨g, k, none⟩)
  | 21 => fun u => u = .slice (some ⟨bk, 0, none⟩) Lk.length Lk.length
  | 22 => fun u => u = .int .i64 Lk.length
  | 23 => fun u => ∃ r : Nat, u = .int .i64 r ∧ r < Lk.length
  | 24 => fun u => ∃ r : Nat, u = .pointer (some ⟨bk, r, none⟩) ∧ r < Lk.length
  | 25 => fun u => StrIn Lk u
  | 26 => fun u => StrIn Li u
  | 27 => fun u => StrIn Lk u
  | _ => fun _ => True
def RnkF (tb g i k bi bk : Nat) (Li Lk : List (List UInt8)) : Nat → Value → World → Prop := fun j u _ => RnkG tb g i k bi bk Li Lk j u
set_option maxHeartbeats 8000000 in
set_option maxRecDepth 100000 in
theorem rnk_region4 {Q : Exit → Act → World → Prop} (B tb g i k bi bk : Nat) (Li Lk : List (List UInt8)) (W w : World) (A : Act) (hsz : A.tmps.size = 139) (hi : i < 10) (hk : k < 10) (hLi : 1 ≤ Li.length ∧ Li.length ≤ 4) (hLk : 1 ≤ Lk.length ∧ Lk.length ≤ 4)
    (a3 : A.tmps.getD 3 undef = .pointer (some ⟨tb, 0, none⟩)) (a4 : A.tmps.getD 4 undef = .slice (some ⟨g, 0, none⟩) 10 10) (a5 : A.tmps.getD 5 undef = .int .i64 (i : Int)) (a6 : A.tmps.getD 6 undef = .int .i64 (k : Int))
    (hg : g ≠ tb) (hbi : bi ≠ tb) (hbk : bk ≠ tb) (ci : W.cell? ⟨g, i, none⟩ = some (.slice (some ⟨bi, 0, none⟩) Li.length Li.length)) (ck : W.cell? ⟨g, k, none⟩ = some (.slice (some ⟨bk, 0, none⟩) Lk.length Lk.length))
    (di : ∀ (j : Nat) (h : j < Li.length), W.cell? ⟨bi, j, none⟩ = some (.string ⟨(Li[j]'h).toArray⟩)) (dk : ∀ (j : Nat) (h : j < Lk.length), W.cell? ⟨bk, j, none⟩ = some (.string ⟨(Lk[j]'h).toArray⟩))
    (hS : RnkS B tb W w) (hQ : ∀ c w', SameBut (rnkOps 4) A c → RnkS B tb W w' → StrIn Li (c.tmps.getD 7 undef) → StrIn Lk (c.tmps.getD 8 undef) → Q .normal c w') :
    wpAny Tryd.prog .any (rnkOps 4) Q (rnkOps 4).size (Array.replicate (rnkOps 4).size false) A w := by
  refine wpAny_inv2 (fun l c wx => RInv (rnkOps 4) A (RnkF tb g i k bi bk Li Lk) (RnkS B tb W) l c wx) rnk4r (fun l c wx hI hl => hQ c wx hI.1 hI.2.1 (hI.fact 26 7 rfl (hl 26 (by rw [rnk4n]; decide))) (hI.fact 27 8 rfl (hl 27 (by rw [rnk4n]; decide)))) ?hstep _ _ _ _ (by simp) (by simp) (RInv.start hS)
  intro l c wx hI j o ho hl hall K' hK'
  have hi13 : j < 28 := by rw [← rnk4n]; exact (Array.getElem?_eq_some_iff.1 ho).1
  simp only [rnkOps, regOps, Tryd.f4, Option.getD_some, reduceIte, Nat.reduceEqDiff] at ho
  have hSx := hI.2.1
  have HSX := Lib.hid hSx
  obtain ⟨hT, hkW⟩ := hSx
  have di2 : ∀ (j : Nat) (h : j < Li.length), wx.cell? ⟨bi, j, none⟩ = some (.string ⟨(Li[j]'h).toArray⟩) := fun j h => (hkW.cell (p := ⟨bi, j, none⟩) (World.block_lt_of_cell? W _ (di j h)) hbi).trans (di j h)
  have dk2 : ∀ (j : Nat) (h : j < Lk.length), wx.cell? ⟨bk, j, none⟩ = some (.string ⟨(Lk[j]'h).toArray⟩) := fun j h => (hkW.cell (p := ⟨bk, j, none⟩) (World.block_lt_of_cell? W _ (dk j h)) hbk).trans (dk j h)
  have ci2 := (hkW.cell (p := ⟨g, i, none⟩) (World.block_lt_of_cell? W _ ci) hg).trans ci
  have ck2 := (hkW.cell (p := ⟨g, k, none⟩) (World.block_lt_of_cell? W _ ck) hg).trans ck
  have DI := Lib.hid di2
  have DK := Lib.hid dk2
  clear di dk di2 dk2 ci ck hkW
  have s3 := (hI.slot 3 (by kernel_rfl)).trans a3
  have s4 := (hI.slot 4 (by kernel_rfl)).trans a4
  have s5 := (hI.slot 5 (by kernel_rfl)).trans a5
  have s6 := (hI.slot 6 (by kernel_rfl)).trans a6
  simp only [Array.getD_eq_getD_getElem?] at s3 s4 s5 s6
  have hiI : (i : Int) < 10 := by omega
  have hkI : (k : Int) < 10 := by omega
  have hic : j = 0 ∨ j = 1 ∨ j = 2 ∨ j = 3 ∨ j = 4 ∨ j = 5 ∨ j = 6 ∨ j = 7 ∨ j = 8 ∨ j = 9 ∨ j = 10 ∨ j = 11 ∨ j = 12 ∨ j = 13 ∨ j = 14 ∨ j = 15 ∨ j = 16 ∨ j = 17 ∨ j = 18 ∨ j = 19 ∨ j = 20 ∨ j = 21 ∨ j = 22 ∨ j = 23 ∨ j = 24 ∨ j = 25 ∨ j = 26 ∨ j = 27 := by omega
  rcases hic with rfl | rfl | rfl | rfl | rfl | rfl | rfl | rfl | rfl | rfl | rfl | rfl | rfl | rfl | rfl | rfl | rfl | rfl | rfl | rfl | rfl | rfl | rfl | rfl | rfl | rfl | rfl | rfl
  all_goals cases ho
  · go_simp
    exact hK' _ _ (hI.step rnk4a 0 37 rfl (by rw [hsz]; decide) _ _ rfl hall HSX.out (fun _ _ h => h) rfl)
  · go_simp
    exact hK' _ _ (hI.step rnk4a 1 38 rfl (by rw [hsz]; decide) _ _ rfl hall HSX.out (fun _ _ h => h) rfl)
  · have e0 : c.tmps.getD 37 undef = .slice (some ⟨g, 0, none⟩) 10 10 := hI.fact 0 37 rfl (listed hall 0 (by kernel_rfl))
    simp only [Array.getD_eq_getD_getElem?] at e0
    have e1 : c.tmps.getD 38 undef = .int .i64 (i : Int) := hI.fact 1 38 rfl (listed hall 1 (by kernel_rfl))
    simp only [Array.getD_eq_getD_getElem?] at e1
    go_simp
    exact hK' _ _ (hI.step rnk4a 2 39 rfl (by rw [hsz]; decide) _ _ rfl hall HSX.out (fun _ _ h => h) rfl)
  · have e2 : c.tmps.getD 39 undef = .pointer (some ⟨g, i, none⟩) := hI.fact 2 39 rfl (listed hall 2 (by kernel_rfl))
    simp only [Array.getD_eq_getD_getElem?] at e2
    go_simp
    exact hK' _ _ (hI.step rnk4a 3 40 rfl (by rw [hsz]; decide) _ _ rfl hall HSX.out (fun _ _ h => h) rfl)
  · go_simp
    exact hK' _ _ (hI.step rnk4a 4 41 rfl (by rw [hsz]; decide) _ _ rfl hall HSX.out (fun _ _ h => h) rfl)
  · go_simp
    exact hK' _ _ (hI.step rnk4a 5 42 rfl (by rw [hsz]; decide) _ _ rfl hall HSX.out (fun _ _ h => h) rfl)
  · go_simp
    exact hK' _ _ (hI.step rnk4a 6 43 rfl (by rw [hsz]; decide) _ _ rfl hall HSX.out (fun _ _ h => h) rfl)
  · have e5 : c.tmps.getD 42 undef = .slice (some ⟨g, 0, none⟩) 10 10 := hI.fact 5 42 rfl (listed hall 5 (by kernel_rfl))
    simp only [Array.getD_eq_getD_getElem?] at e5
    have e6 : c.tmps.getD 43 undef = .int .i64 (i : Int) := hI.fact 6 43 rfl (listed hall 6 (by kernel_rfl))
    simp only [Array.getD_eq_getD_getElem?] at e6
    go_simp
    exact hK' _ _ (hI.step rnk4a 7 44 rfl (by rw [hsz]; decide) _ _ rfl hall HSX.out (fun _ _ h => h) rfl)
  · have e7 : c.tmps.getD 44 undef = .pointer (some ⟨g, i, none⟩) := hI.fact 7 44 rfl (listed hall 7 (by kernel_rfl))
    simp only [Array.getD_eq_getD_getElem?] at e7
    go_simp
    exact hK' _ _ (hI.step rnk4a 8 45 rfl (by rw [hsz]; decide) _ _ rfl hall HSX.out (fun _ _ h => h) rfl)
  · have e8 : c.tmps.getD 45 undef = .slice (some ⟨bi, 0, none⟩) Li.length Li.length := hI.fact 8 45 rfl (listed hall 8 (by kernel_rfl))
    simp only [Array.getD_eq_getD_getElem?] at e8
    go_simp
    exact hK' _ _ (hI.step rnk4a 9 46 rfl (by rw [hsz]; decide) _ _ rfl hall HSX.out (fun _ _ h => h) rfl)
  · have e4 : c.tmps.getD 41 undef = .pointer (some ⟨tb, 0, none⟩) := hI.fact 4 41 rfl (listed hall 4 (by kernel_rfl))
    simp only [Array.getD_eq_getD_getElem?] at e4
    have e9 : c.tmps.getD 46 undef = .int .i64 Li.length := hI.fact 9 46 rfl (listed hall 9 (by kernel_rfl))
    simp only [Array.getD_eq_getD_getElem?] at e9
    go_simp
    refine (mk_N B tb Li.length wx hT (by omega) (by omega)).mono ?_
    rintro e w2 ⟨r, rfl, hr0, hr1, hT2, hK2⟩
    obtain ⟨r, rfl⟩ := Int.eq_ofNat_of_zero_le hr0
    go_simp
    exact hK' _ _ (hI.step rnk4a 10 47 rfl (by rw [hsz]; decide) _ _ rfl hall ⟨hT2, HSX.out.2.trans hK2 (fun _ _ e => e)⟩ (fun _ _ h => h) ⟨r, rfl, by omega⟩)
  · have e3 : c.tmps.getD 40 undef = .slice (some ⟨bi, 0, none⟩) Li.length Li.length := hI.fact 3 40 rfl (listed hall 3 (by kernel_rfl))
    simp only [Array.getD_eq_getD_getElem?] at e3
    obtain ⟨r, e10, hr⟩ : ∃ r : Nat, c.tmps.getD 47 undef = .int .i64 r ∧ r < Li.length := hI.fact 10 47 rfl (listed hall 10 (by kernel_rfl))
    simp only [Array.getD_eq_getD_getElem?] at e10
    have hrI : (r : Int) < Li.length := by omega
    go_simp
    exact hK' _ _ (hI.step rnk4a 11 48 rfl (by rw [hsz]; decide) _ _ rfl hall HSX.out (fun _ _ h => h) ⟨r, rfl, hr⟩)
  · obtain ⟨r, e11, hr⟩ : ∃ r : Nat, c.tmps.getD 48 undef = .pointer (some ⟨bi, r, none⟩) ∧ r < Li.length := hI.fact 11 48 rfl (listed hall 11 (by kernel_rfl))
    simp only [Array.getD_eq_getD_getElem?] at e11
    have dd := DI.out r hr
    go_simp
    exact hK' _ _ (hI.step rnk4a 12 49 rfl (by rw [hsz]; decide) _ _ rfl hall HSX.out (fun _ _ h => h) ⟨_, List.getElem_mem hr, rfl⟩)
  · go_simp
    exact hK' _ _ (hI.step rnk4a 13 50 rfl (by rw [hsz]; decide) _ _ rfl hall HSX.out (fun _ _ h => h) rfl)
  · go_simp
    exact hK' _ _ (hI.step rnk4a 14 51 rfl (by rw [hsz]; decide) _ _ rfl hall HSX.out (fun _ _ h => h) rfl)
  · have e13 : c.tmps.getD 50 undef = .slice (some ⟨g, 0, none⟩) 10 10 := hI.fact 13 50 rfl (listed hall 13 (by kernel_rfl))
    simp only [Array.getD_eq_getD_getElem?] at e13
    have e14 : c.tmps.getD 51 undef = .int .i64 (k : Int) := hI.fact 14 51 rfl (listed hall 14 (by kernel_rfl))
    simp only [Array.getD_eq_getD_getElem?] at e14
    go_simp
    exact hK' _ _ (hI.step rnk4a 15 52 rfl (by rw [hsz]; decide) _ _ rfl hall HSX.out (fun _ _ h => h) rfl)
  · have e15 : c.tmps.getD 52 undef = .pointer (some ⟨g, k, none⟩) := hI.fact 15 52 rfl (listed hall 15 (by kernel_rfl))
    simp only [Array.getD_eq_getD_getElem?] at e15
    go_simp
    exact hK' _ _ (hI.step rnk4a 16 53 rfl (by rw [hsz]; decide) _ _ rfl hall HSX.out (fun _ _ h => h) rfl)
  · go_simp
    exact hK' _ _ (hI.step rnk4a 17 54 rfl (by rw [hsz]; decide) _ _ rfl hall HSX.out (fun _ _ h => h) rfl)
  · go_simp
    exact hK' _ _ (hI.step rnk4a 18 55 rfl (by rw [hsz]; decide) _ _ rfl hall HSX.out (fun _ _ h => h) rfl)
  · go_simp
    exact hK' _ _ (hI.step rnk4a 19 56 rfl (by rw [hsz]; decide) _ _ rfl hall HSX.out (fun _ _ h => h) rfl)
  · have e18 : c.tmps.getD 55 undef = .slice (some ⟨g, 0, none⟩) 10 10 := hI.fact 18 55 rfl (listed hall 18 (by kernel_rfl))
    simp only [Array.getD_eq_getD_getElem?] at e18
    have e19 : c.tmps.getD 56 undef = .int .i64 (k : Int) := hI.fact 19 56 rfl (listed hall 19 (by kernel_rfl))
    simp only [Array.getD_eq_getD_getElem?] at e19
    go_simp
    exact hK' _ _ (hI.step rnk4a 20 57 rfl (by rw [hsz]; decide) _ _ rfl hall HSX.out (fun _ _ h => h) rfl)
  · have e20 : c.tmps.getD 57 undef = .pointer (some ⟨g, k, none⟩) := hI.fact 20 57 rfl (listed hall 20 (by kernel_rfl))
    simp only [Array.getD_eq_getD_getElem?] at e20
    go_simp
    exact hK' _ _ (hI.step rnk4a 21 58 rfl (by rw [hsz]; decide) _ _ rfl hall HSX.out (fun _ _ h => h) rfl)
  · have e21 : c.tmps.getD 58 undef = .slice (some ⟨bk, 0, none⟩) Lk.length Lk.length := hI.fact 21 58 rfl (listed hall 21 (by kernel_rfl))
    simp only [Array.getD_eq_getD_getElem?] at e21
    go_simp
    exact hK' _ _ (hI.step rnk4a 22 59 rfl (by rw [hsz]; decide) _ _ rfl hall HSX.out (fun _ _ h => h) rfl)
  · have e17 : c.tmps.getD 54 undef = .pointer (some ⟨tb, 0, none⟩) := hI.fact 17 54 rfl (listed hall 17 (by kernel_rfl))
    simp only [Array.getD_eq_getD_getElem?] at e17
    have e22 : c.tmps.getD 59 undef = .int .i64 Lk.length := hI.fact 22 59 rfl (listed hall 22 (by kernel_rfl))
    simp only [Array.getD_eq_getD_getElem?] at e22
    go_simp
    refine (mk_N B tb Lk.length wx hT (by omega) (by omega)).mono ?_
    rintro e w2 ⟨r, rfl, hr0, hr1, hT2, hK2⟩
    obtain ⟨r, rfl⟩ := Int.eq_ofNat_of_zero_le hr0
    go_simp
    exact hK' _ _ (hI.step rnk4a 23 60 rfl (by rw [hsz]; decide) _ _ rfl hall ⟨hT2, HSX.out.2.trans hK2 (fun _ _ e => e)⟩ (fun _ _ h => h) ⟨r, rfl, by omega⟩)
  · have e16 : c.tmps.getD 53 undef = .slice (some ⟨bk, 0, none⟩) Lk.length Lk.length := hI.fact 16 53 rfl (listed hall 16 (by kernel_rfl))
    simp only [Array.getD_eq_getD_getElem?] at e16
    obtain ⟨r, e23, hr⟩ : ∃ r : Nat, c.tmps.getD 60 undef = .int .i64 r ∧ r < Lk.length := hI.fact 23 60 rfl (listed hall 23 (by kernel_rfl))
    simp only [Array.getD_eq_getD_getElem?] at e23
    have hrI : (r : Int) < Lk.length := by omega
    go_simp
    exact hK' _ _ (hI.step rnk4a 24 61 rfl (by rw [hsz]; decide) _ _ rfl hall HSX.out (fun _ _ h => h) ⟨r, rfl, hr⟩)
  · obtain ⟨r, e24, hr⟩ : ∃ r : Nat, c.tmps.getD 61 undef = .pointer (some ⟨bk, r, none⟩) ∧ r < Lk.length := hI.fact 24 61 rfl (listed hall 24 (by kernel_rfl))
    simp only [Array.getD_eq_getD_getElem?] at e24
    have dd := DK.out r hr
    go_simp
    exact hK' _ _ (hI.step rnk4a 25 62 rfl (by rw [hsz]; decide) _ _ rfl hall HSX.out (fun _ _ h => h) ⟨_, List.getElem_mem hr, rfl⟩)
  · obtain ⟨s, hs, e12⟩ : StrIn Li (c.tmps.getD 49 undef) := hI.fact 12 49 rfl (listed hall 12 (by kernel_rfl))
    simp only [Array.getD_eq_getD_getElem?] at e12
    go_simp
    exact hK' _ _ (hI.step rnk4a 26 7 rfl (by rw [hsz]; decide) _ _ rfl hall HSX.out (fun _ _ h => h) ⟨s, hs, rfl⟩)
  · obtain ⟨s, hs, e25⟩ : StrIn Lk (c.tmps.getD 62 undef) := hI.fact 25 62 rfl (listed hall 25 (by kernel_rfl))
    simp only [Array.getD_eq_getD_getElem?] at e25
    go_simp
    exact hK' _ _ (hI.step rnk4a 27 8 rfl (by rw [hsz]; decide) _ _ rfl hall HSX.out (fun _ _ h => h) ⟨s, hs, rfl⟩)
end Go.Proofs.YtojcefkigcdkiaaDoor

namespace Go.Proofs.YtojcefkigcdkiaaDoor
open Go.RowKit

theorem add_pc (x y : List UInt8) (n m : Nat) (hx : x.length ≤ n) (hy : y.length ≤ m) (h : n + m ≤ 1000000) : ∃ V : List UInt8, V = x ++ y ∧ V.length ≤ n + m ∧ ∀ wx : World, (Op.stringOp .add ⟨x.toArray⟩ ⟨y.toArray⟩).run Tryd.prog wx = .ok (.string ⟨V.toArray⟩) wx :=
  ⟨_, rfl, by simp; omega, adds_of x y (by omega)⟩
/-- Rows of texts, each in a block of its own. -/
def rkC : World → List (List (List UInt8)) → World
  | w, [] => w
  | w, L :: r => rkC (w.alloc (.cells (L.map fun s => Value.string ⟨s.toArray⟩).toArray 9)) r
theorem rkC_below : ∀ (r : List (List (List UInt8))) (w : World), Below w.heap.size w (rkC w r) ∧ (rkC w r).heap.size = w.heap.size + r.length := by
  intro r
  induction r with
  | nil => intro w; exact ⟨Below.refl _ _, rfl⟩
  | cons L r ih =>
    intro w
    have hb := (Below.refl w.heap.size w).alloc (Nat.le_refl _) (.cells (L.map fun s => Value.string ⟨s.toArray⟩).toArray 9)
    obtain ⟨h1, h2⟩ := ih (w.alloc (.cells (L.map fun s => Value.string ⟨s.toArray⟩).toArray 9))
    refine ⟨hb.trans (h1.mono hb.size), ?_⟩
    show (rkC _ r).heap.size = _
    rw [h2]; simp; omega
theorem rkC_row : ∀ (r : List (List (List UInt8))) (w : World) (i : Nat) (h : i < r.length) (j : Nat) (hj : j < r[i].length), (rkC w r).cell? ⟨w.heap.size + i, j, none⟩ = some (.string ⟨(r[i][j]).toArray⟩) := by
  intro r
  induction r with
  | nil => intro w i h; cases h
  | cons L r ih =>
    intro w i h j hj
    cases i with
    | zero =>
      have hN := Holds.new w (L.map fun s => Value.string ⟨s.toArray⟩).toArray 9
      have hb := (rkC_below r (w.alloc (.cells (L.map fun s => Value.string ⟨s.toArray⟩).toArray 9))).1
      have c := hN.cell j
      have hjl : j < L.length := hj
      have e : (w.alloc (.cells (L.map fun s => Value.string ⟨s.toArray⟩).toArray 9)).cell? ⟨w.heap.size, j, none⟩ = some (.string ⟨(L[j]'hjl).toArray⟩) := by
        rw [c]; simp [hjl]
      exact (hb.cell (World.block_lt_of_cell? _ _ e)).trans e
    | succ i =>
      have := ih (w.alloc (.cells (L.map fun s => Value.string ⟨s.toArray⟩).toArray 9)) i (by simpa using h) j (by simpa using hj)
      have e : (w.alloc (.cells (L.map fun s => Value.string ⟨s.toArray⟩).toArray 9)).heap.size + i = w.heap.size + (i + 1) := by simp; omega
      rw [e] at this
      exact this
/-- The rows of signs in memory. -/
def RankAt (w : World) (n g : Nat) : Prop := n ≤ g ∧ ∀ i, i < 10 → ∃ b, n ≤ b ∧ w.cell? ⟨g, i, none⟩ = some (.slice (some ⟨b, 0, none⟩) (rankL.getD i []).length (rankL.getD i []).length) ∧
  ∀ (j : Nat) (h : j < (rankL.getD i []).length), w.cell? ⟨b, j, none⟩ = some (.string ⟨((rankL.getD i [])[j]'h).toArray⟩)
theorem RankAt.keeps {w w2 : World} {n g tb : Nat} (h : RankAt w n g) (k : Keeps (· = tb) w w2) (hn : tb < n) : RankAt w2 n g := by
  refine ⟨h.1, fun i hi => ?_⟩
  obtain ⟨b, h1, h2, h3⟩ := h.2 i hi
  exact ⟨b, h1, (k.cell (p := ⟨g, i, none⟩) (World.block_lt_of_cell? w _ h2) (by have := h.1; show g ≠ tb; omega)).trans h2, fun j hj => (k.cell (p := ⟨b, j, none⟩) (World.block_lt_of_cell? w _ (h3 j hj)) (by show b ≠ tb; omega)).trans (h3 j hj)⟩
theorem rank_world (w1 : World) : Below w1.heap.size w1 (((((((((((w1.alloc (.cells #[.string ⟨#[124, 124]⟩] 9)).alloc (.cells #[.string ⟨#[38, 38]⟩] 9)).alloc (.cells #[.string ⟨#[124]⟩] 9)).alloc (.cells #[.string ⟨#[94]⟩] 9)).alloc (.cells #[.string ⟨#[38]⟩] 9)).alloc (.cells #[.string ⟨#[61, 61]⟩, .string ⟨#[33, 61]⟩] 9)).alloc (.cells #[.string ⟨#[60]⟩, .string ⟨#[62]⟩, .string ⟨#[60, 61]⟩, .string ⟨#[62, 61]⟩] 9)).alloc (.cells #[.string ⟨#[60, 60]⟩, .string ⟨#[62, 62]⟩] 9)).alloc (.cells #[.string ⟨#[43]⟩, .string ⟨#[45]⟩] 9)).alloc (.cells #[.string ⟨#[42]⟩, .string ⟨#[47]⟩, .string ⟨#[37]⟩] 9)).alloc (.cells #[.slice (some ⟨w1.heap.size, 0, none⟩) 1 1, .slice (some ⟨w1.heap.size + 1, 0, none⟩) 1 1, .slice (some ⟨w1.heap.size + 1 + 1, 0, none⟩) 1 1, .slice (some ⟨w1.heap.size + 1 + 1 + 1, 0, none⟩) 1 1, .slice (some ⟨w1.heap.size + 1 + 1 + 1 + 1, 0, none⟩) 1 1, .slice (some ⟨w1.heap.size + 1 + 1 + 1 + 1 + 1, 0, none⟩) 2 2, .slice (some ⟨w1.heap.size + 1 + 1 + 1 + 1 + 1 + 1, 0, none⟩) 4 4, .slice (some ⟨w1.heap.size + 1 + 1 + 1 + 1 + 1 + 1 + 1, 0, none⟩) 2 2, .slice (some ⟨w1.heap.size + 1 + 1 + 1 + 1 + 1 + 1 + 1 + 1, 0, none⟩) 2 2, .slice (some ⟨w1.heap.size + 1 + 1 + 1 + 1 + 1 + 1 + 1 + 1 + 1, 0, none⟩) 3 3] 33)) ∧ RankAt (((((((((((w1.alloc (.cells #[.string ⟨#[124, 124]⟩] 9)).alloc (.cells #[.string ⟨#[38, 38]⟩] 9)).alloc (.cells #[.string ⟨#[124]⟩] 9)).alloc (.cells #[.string ⟨#[94]⟩] 9)).alloc (.cells #[.string ⟨#[38]⟩] 9)).alloc (.cells #[.string ⟨#[61, 61]⟩, .string ⟨#[33, 61]⟩] 9)).alloc (.cells #[.string ⟨#[60]⟩, .string ⟨#[62]⟩, .string ⟨#[60, 61]⟩, .string ⟨#[62, 61]⟩] 9)).alloc (.cells #[.string ⟨#[60, 60]⟩, .string ⟨#[62, 62]⟩] 9)).alloc (.cells #[.string ⟨#[43]⟩, .string ⟨#[45]⟩] 9)).alloc (.cells #[.string ⟨#[42]⟩, .string ⟨#[47]⟩, .string ⟨#[37]⟩] 9)).alloc (.cells #[.slice (some ⟨w1.heap.size, 0, none⟩) 1 1, .slice (some ⟨w1.heap.size + 1, 0, none⟩) 1 1, .slice (some ⟨w1.heap.size + 1 + 1, 0, none⟩) 1 1, .slice (some ⟨w1.heap.size + 1 + 1 + 1, 0, none⟩) 1 1, .slice (some ⟨w1.heap.size + 1 + 1 + 1 + 1, 0, none⟩) 1 1, .slice (some ⟨w1.heap.size + 1 + 1 + 1 + 1 + 1, 0, none⟩) 2 2, .slice (some ⟨w1.heap.size + 1 + 1 + 1 + 1 + 1 + 1, 0, none⟩) 4 4, .slice (some ⟨w1.heap.size + 1 + 1 + 1 + 1 + 1 + 1 + 1, 0, none⟩) 2 2, .slice (some ⟨w1.heap.size + 1 + 1 + 1 + 1 + 1 + 1 + 1 + 1, 0, none⟩) 2 2, .slice (some ⟨w1.heap.size + 1 + 1 + 1 + 1 + 1 + 1 + 1 + 1 + 1, 0, none⟩) 3 3] 33)) w1.heap.size (w1.heap.size + 1 + 1 + 1 + 1 + 1 + 1 + 1 + 1 + 1 + 1) := by
  have e : (((((((((((w1.alloc (.cells #[.string ⟨#[124, 124]⟩] 9)).alloc (.cells #[.string ⟨#[38, 38]⟩] 9)).alloc (.cells #[.string ⟨#[124]⟩] 9)).alloc (.cells #[.string ⟨#[94]⟩] 9)).alloc (.cells #[.string ⟨#[38]⟩] 9)).alloc (.cells #[.string ⟨#[61, 61]⟩, .string ⟨#[33, 61]⟩] 9)).alloc (.cells #[.string ⟨#[60]⟩, .string ⟨#[62]⟩, .string ⟨#[60, 61]⟩, .string ⟨#[62, 61]⟩] 9)).alloc (.cells #[.string ⟨#[60, 60]⟩, .string ⟨#[62, 62]⟩] 9)).alloc (.cells #[.string ⟨#[43]⟩, .string ⟨#[45]⟩] 9)).alloc (.cells #[.string ⟨#[42]⟩, .string ⟨#[47]⟩, .string ⟨#[37]⟩] 9)).alloc (.cells #[.slice (some ⟨w1.heap.size, 0, none⟩) 1 1, .slice (some ⟨w1.heap.size + 1, 0, none⟩) 1 1, .slice (some ⟨w1.heap.size + 1 + 1, 0, none⟩) 1 1, .slice (some ⟨w1.heap.size + 1 + 1 + 1, 0, none⟩) 1 1, .slice (some ⟨w1.heap.size + 1 + 1 + 1 + 1, 0, none⟩) 1 1, .slice (some ⟨w1.heap.size + 1 + 1 + 1 + 1 + 1, 0, none⟩) 2 2, .slice (some ⟨w1.heap.size + 1 + 1 + 1 + 1 + 1 + 1, 0, none⟩) 4 4, .slice (some ⟨w1.heap.size + 1 + 1 + 1 + 1 + 1 + 1 + 1, 0, none⟩) 2 2, .slice (some ⟨w1.heap.size + 1 + 1 + 1 + 1 + 1 + 1 + 1 + 1, 0, none⟩) 2 2, .slice (some ⟨w1.heap.size + 1 + 1 + 1 + 1 + 1 + 1 + 1 + 1 + 1, 0, none⟩) 3 3] 33)) = (rkC w1 rankL).alloc (.cells #[.slice (some ⟨w1.heap.size, 0, none⟩) 1 1, .slice (some ⟨w1.heap.size + 1, 0, none⟩) 1 1, .slice (some ⟨w1.heap.size + 1 + 1, 0, none⟩) 1 1, .slice (some ⟨w1.heap.size + 1 + 1 + 1, 0, none⟩) 1 1, .slice (some ⟨w1.heap.size + 1 + 1 + 1 + 1, 0, none⟩) 1 1, .slice (some ⟨w1.heap.size + 1 + 1 + 1 + 1 + 1, 0, none⟩) 2 2, .slice (some ⟨w1.heap.size + 1 + 1 + 1 + 1 + 1 + 1, 0, none⟩) 4 4, .slice (some ⟨w1.heap.size + 1 + 1 + 1 + 1 + 1 + 1 + 1, 0, none⟩) 2 2, .slice (some ⟨w1.heap.size + 1 + 1 + 1 + 1 + 1 + 1 + 1 + 1, 0, none⟩) 2 2, .slice (some ⟨w1.heap.size + 1 + 1 + 1 + 1 + 1 + 1 + 1 + 1 + 1, 0, none⟩) 3 3] 33) := rfl
  rw [e]
  obtain ⟨h1, h2⟩ := rkC_below rankL w1
  have hb : Below w1.heap.size w1 ((rkC w1 rankL).alloc (.cells #[.slice (some ⟨w1.heap.size, 0, none⟩) 1 1, .slice (some ⟨w1.heap.size + 1, 0, none⟩) 1 1, .slice (some ⟨w1.heap.size + 1 + 1, 0, none⟩) 1 1, .slice (some ⟨w1.heap.size + 1 + 1 + 1, 0, none⟩) 1 1, .slice (some ⟨w1.heap.size + 1 + 1 + 1 + 1, 0, none⟩) 1 1, .slice (some ⟨w1.heap.size + 1 + 1 + 1 + 1 + 1, 0, none⟩) 2 2, .slice (some ⟨w1.heap.size + 1 + 1 + 1 + 1 + 1 + 1, 0, none⟩) 4 4, .slice (some ⟨w1.heap.size + 1 + 1 + 1 + 1 + 1 + 1 + 1, 0, none⟩) 2 2, .slice (some ⟨w1.heap.size + 1 + 1 + 1 + 1 + 1 + 1 + 1 + 1, 0, none⟩) 2 2, .slice (some ⟨w1.heap.size + 1 + 1 + 1 + 1 + 1 + 1 + 1 + 1 + 1, 0, none⟩) 3 3] 33)) := h1.alloc h1.size _
  have hN := Holds.new (rkC w1 rankL) #[.slice (some ⟨w1.heap.size, 0, none⟩) 1 1, .slice (some ⟨w1.heap.size + 1, 0, none⟩) 1 1, .slice (some ⟨w1.heap.size + 1 + 1, 0, none⟩) 1 1, .slice (some ⟨w1.heap.size + 1 + 1 + 1, 0, none⟩) 1 1, .slice (some ⟨w1.heap.size + 1 + 1 + 1 + 1, 0, none⟩) 1 1, .slice (some ⟨w1.heap.size + 1 + 1 + 1 + 1 + 1, 0, none⟩) 2 2, .slice (some ⟨w1.heap.size + 1 + 1 + 1 + 1 + 1 + 1, 0, none⟩) 4 4, .slice (some ⟨w1.heap.size + 1 + 1 + 1 + 1 + 1 + 1 + 1, 0, none⟩) 2 2, .slice (some ⟨w1.heap.size + 1 + 1 + 1 + 1 + 1 + 1 + 1 + 1, 0, none⟩) 2 2, .slice (some ⟨w1.heap.size + 1 + 1 + 1 + 1 + 1 + 1 + 1 + 1 + 1, 0, none⟩) 3 3] 33
  rw [show (rkC w1 rankL).heap.size = w1.heap.size + 1 + 1 + 1 + 1 + 1 + 1 + 1 + 1 + 1 + 1 from by rw [h2]; rfl] at hN
  refine ⟨hb, by omega, fun i hi => ?_⟩
  have hrow : ∀ (j : Nat) (h : j < (rankL.getD i []).length), ((rkC w1 rankL).alloc (.cells #[.slice (some ⟨w1.heap.size, 0, none⟩) 1 1, .slice (some ⟨w1.heap.size + 1, 0, none⟩) 1 1, .slice (some ⟨w1.heap.size + 1 + 1, 0, none⟩) 1 1, .slice (some ⟨w1.heap.size + 1 + 1 + 1, 0, none⟩) 1 1, .slice (some ⟨w1.heap.size + 1 + 1 + 1 + 1, 0, none⟩) 1 1, .slice (some ⟨w1.heap.size + 1 + 1 + 1 + 1 + 1, 0, none⟩) 2 2, .slice (some ⟨w1.heap.size + 1 + 1 + 1 + 1 + 1 + 1, 0, none⟩) 4 4, .slice (some ⟨w1.heap.size + 1 + 1 + 1 + 1 + 1 + 1 + 1, 0, none⟩) 2 2, .slice (some ⟨w1.heap.size + 1 + 1 + 1 + 1 + 1 + 1 + 1 + 1, 0, none⟩) 2 2, .slice (some ⟨w1.heap.size + 1 + 1 + 1 + 1 + 1 + 1 + 1 + 1 + 1, 0, none⟩) 3 3] 33)).cell? ⟨w1.heap.size + i, j, none⟩ = some (.string ⟨((rankL.getD i [])[j]'h).toArray⟩) := by
    intro j hj
    have hil : i < rankL.length := hi
    have eL : rankL.getD i [] = rankL[i]'hil := by rw [List.getD_eq_getElem?_getD, List.getElem?_eq_getElem hil]; rfl
    have hj2 : j < (rankL[i]'hil).length := by rw [← eL]; exact hj
    have := rkC_row rankL w1 i hil j hj2
    have e3 := (((Below.refl _ (rkC w1 rankL)).alloc (Nat.le_refl _) (.cells #[.slice (some ⟨w1.heap.size, 0, none⟩) 1 1, .slice (some ⟨w1.heap.size + 1, 0, none⟩) 1 1, .slice (some ⟨w1.heap.size + 1 + 1, 0, none⟩) 1 1, .slice (some ⟨w1.heap.size + 1 + 1 + 1, 0, none⟩) 1 1, .slice (some ⟨w1.heap.size + 1 + 1 + 1 + 1, 0, none⟩) 1 1, .slice (some ⟨w1.heap.size + 1 + 1 + 1 + 1 + 1, 0, none⟩) 2 2, .slice (some ⟨w1.heap.size + 1 + 1 + 1 + 1 + 1 + 1, 0, none⟩) 4 4, .slice (some ⟨w1.heap.size + 1 + 1 + 1 + 1 + 1 + 1 + 1, 0, none⟩) 2 2, .slice (some ⟨w1.heap.size + 1 + 1 + 1 + 1 + 1 + 1 + 1 + 1, 0, none⟩) 2 2, .slice (some ⟨w1.heap.size + 1 + 1 + 1 + 1 + 1 + 1 + 1 + 1 + 1, 0, none⟩) 3 3] 33)).cell (World.block_lt_of_cell? _ _ this)).trans this
    rw [e3]
    congr 4
    simp only [eL]
  refine ⟨w1.heap.size + i, by omega, ?_, hrow⟩
  clear hrow e
  have hc : i = 0 ∨ i = 1 ∨ i = 2 ∨ i = 3 ∨ i = 4 ∨ i = 5 ∨ i = 6 ∨ i = 7 ∨ i = 8 ∨ i = 9 := by omega
  rcases hc with rfl | rfl | rfl | rfl | rfl | rfl | rfl | rfl | rfl | rfl
  · exact hN.cell 0
  · exact hN.cell 1
  · exact hN.cell 2
  · exact hN.cell 3
  · exact hN.cell 4
  · exact hN.cell 5
  · exact hN.cell 6
  · exact hN.cell 7
  · exact hN.cell 8
  · exact hN.cell 9
set_option maxHeartbeats 8000000 in
set_option maxRecDepth 100000 in
theorem exRanks_walk (a : Option Addr) (len cap : Nat) (w : World) (hi : IntsIn w a len) (hlc : len ≤ cap) (hcap : cap ≤ maxLen) (hnil : a = none → len = 0 ∧ cap = 0) (y0 : Lay0 w) (yB : LayB w) :
    Calls Tryd.prog 4 #[.slice a len cap] w fun e w' => e = .returned (.bool true) ∧ Below w.heap.size w w' := by
  have LL := Lib.hid (lay_keep y0 yB)
  have aw := fun wx hb => law02_awake wx (LL.out wx hb).1 (LL.out wx hb).2
  have AW := Lib.hid aw
  have fm := fun (n : Nat) (h : n ≤ 4294967295) wx hb => fmt_calls h wx (LL.out wx hb).2
  have FM := Lib.hid fm
  clear y0 yB aw fm
  go_enter Tryd.func4, Tryd.ntmps4
  go_wp2_with fail
  refine (mk_New a len cap _ hi hlc hcap hnil).mono ?_
  rintro e w1 ⟨tb, rfl, hT1, hb1⟩
  have htb := hT1.1
  have htl := hT1.lt
  have hRW := rank_world w1
  go_wp2_with fail
  obtain ⟨hWb, hWR⟩ := hRW
  obtain ⟨W, hW⟩ : ∃ z, z = (((((((((((w1.alloc (.cells #[.string ⟨#[124, 124]⟩] 9)).alloc (.cells #[.string ⟨#[38, 38]⟩] 9)).alloc (.cells #[.string ⟨#[124]⟩] 9)).alloc (.cells #[.string ⟨#[94]⟩] 9)).alloc (.cells #[.string ⟨#[38]⟩] 9)).alloc (.cells #[.string ⟨#[61, 61]⟩, .string ⟨#[33, 61]⟩] 9)).alloc (.cells #[.string ⟨#[60]⟩, .string ⟨#[62]⟩, .string ⟨#[60, 61]⟩, .string ⟨#[62, 61]⟩] 9)).alloc (.cells #[.string ⟨#[60, 60]⟩, .string ⟨#[62, 62]⟩] 9)).alloc (.cells #[.string ⟨#[43]⟩, .string ⟨#[45]⟩] 9)).alloc (.cells #[.string ⟨#[42]⟩, .string ⟨#[47]⟩, .string ⟨#[37]⟩] 9)).alloc (.cells #[.slice (some ⟨w1.heap.size, 0, none⟩) 1 1, .slice (some ⟨w1.heap.size + 1, 0, none⟩) 1 1, .slice (some ⟨w1.heap.size + 1 + 1, 0, none⟩) 1 1, .slice (some ⟨w1.heap.size + 1 + 1 + 1, 0, none⟩) 1 1, .slice (some ⟨w1.heap.size + 1 + 1 + 1 + 1, 0, none⟩) 1 1, .slice (some ⟨w1.heap.size + 1 + 1 + 1 + 1 + 1, 0, none⟩) 2 2, .slice (some ⟨w1.heap.size + 1 + 1 + 1 + 1 + 1 + 1, 0, none⟩) 4 4, .slice (some ⟨w1.heap.size + 1 + 1 + 1 + 1 + 1 + 1 + 1, 0, none⟩) 2 2, .slice (some ⟨w1.heap.size + 1 + 1 + 1 + 1 + 1 + 1 + 1 + 1, 0, none⟩) 2 2, .slice (some ⟨w1.heap.size + 1 + 1 + 1 + 1 + 1 + 1 + 1 + 1 + 1, 0, none⟩) 3 3] 33)) := ⟨_, rfl⟩
  rw [← hW] at hWb hWR ⊢
  obtain ⟨g, hg⟩ : ∃ z, z = w1.heap.size + 1 + 1 + 1 + 1 + 1 + 1 + 1 + 1 + 1 + 1 := ⟨_, rfl⟩
  rw [← hg] at hWR ⊢
  have HR := Lib.hid hWR
  have hbW : Below w.heap.size w W := hb1.trans (hWb.mono hb1.size)
  have hTW := hT1.keeps (Keeps.of_fresh hWb (fun _ => False)) (fun _ e => e.elim)
  clear hW hg hWR hT1 hb1
  refine (mk_N w.heap.size tb 10 W hTW (by omega) (by omega)).mono ?_
  rintro e w2 ⟨i, rfl, hi0, hi1, hT2, hK2⟩
  go_wp2_with fail
  refine (mk_N w.heap.size tb 10 w2 hT2 (by omega) (by omega)).mono ?_
  rintro e w3 ⟨k, rfl, hk0, hk1, hT3, hK3⟩
  obtain ⟨i, rfl⟩ := Int.eq_ofNat_of_zero_le hi0
  obtain ⟨k, rfl⟩ := Int.eq_ofNat_of_zero_le hk0
  have hb3 : Below w.heap.size w w3 := (hbW.trans (hK2.below hbW.size (by intro i hi e; omega))).trans (hK3.below (Nat.le_trans hbW.size hK2.size) (by intro i hi e; omega))
  have HR3 := Lib.hid ((HR.out.keeps hK2 htl).keeps hK3 htl)
  clear hT2 hK2 hK3 hTW HR hWb hbW
  go_wp2_with fail
  obtain ⟨bi, hbi, ci, di⟩ := HR3.out.2 i (by omega)
  obtain ⟨bk, hbk, ck, dk⟩ := HR3.out.2 k (by omega)
  have hgn := HR3.out.1
  have hli := rank_len i (by omega)
  have hlk := rank_len k (by omega)
  have hb3d : Below w.heap.size w w3.drew := hb3.drew
  refine wp_region_any (by kernel_rfl) ?_
  refine wpAny_ops (ops' := rnkOps 4) (by kernel_rfl) ?_
  refine rnk_region4 w.heap.size tb g i k bi bk (rankL.getD i []) (rankL.getD k []) w3.drew w3.drew _ rfl (by omega) (by omega) ⟨hli.2, hli.1⟩ ⟨hlk.2, hlk.1⟩ rfl rfl rfl rfl (by omega) (by omega) (by omega) ci ck di dk ⟨hT3.keeps ((Keeps.refl (fun _ => False) w3).drew) (fun _ e => e.elim), Keeps.refl _ _⟩ ?_
  intro c w4 hsb hS4 h7 h8
  obtain ⟨x7, x8, x37, x38, x39, x40, x41, x42, x43, x44, x45, x46, x47, x48, x49, x50, x51, x52, x53, x54, x55, x56, x57, x58, x59, x60, x61, x62, hc⟩ := hsb.ex [7, 8, 37, 38, 39, 40, 41, 42, 43, 44, 45, 46, 47, 48, 49, 50, 51, 52, 53, 54, 55, 56, 57, 58, 59, 60, 61, 62] (by kernel_rfl)
  subst hc
  simp only [List.setIfInBounds_toArray, List.set_cons_zero, List.set_cons_succ] at h7 h8 ⊢
  obtain ⟨p, hp, rfl⟩ : StrIn (rankL.getD i []) x7 := h7
  obtain ⟨q, hq, rfl⟩ : StrIn (rankL.getD k []) x8 := h8
  have hlp : p.length ≤ 2 := sign_len p (rank_row (by omega) hp).1
  have hlq : q.length ≤ 2 := sign_len q (rank_row (by omega) hq).1
  have hT4 := hS4.1
  have hb4 : Below w.heap.size w w4 := hb3d.trans (hS4.2.below hb3d.size (by intro i hi e; omega))
  have HPQ := Lib.hid (And.intro hp hq)
  clear hp hq hS4 hsb ci ck di dk hT3 hb3 hb3d HR3 hli hlk
  go_wp2_with fail
  refine (mk_Number w.heap.size tb w4 hT4).mono ?_
  rintro e w5 ⟨n, rfl, hn0, hn1, hT5, hK5⟩
  obtain ⟨n, rfl⟩ := Int.eq_ofNat_of_zero_le hn0
  have hb5 : Below w.heap.size w w5 := hb4.trans (hK5.below hb4.size (by intro i hi e; omega))
  have f1 := Lib.hid (FM.out n (by omega) w5 hb5)
  clear hT4 hK5 hb4
  go_wp2_with fail
  refine (by exact f1.out : Calls _ _ _ _ _).mono ?_
  rintro e w6 ⟨rfl, hb6⟩
  have hb6' : Below w.heap.size w w6 := hb5.trans (hb6.mono hb5.size)
  have hT6 := hT5.keeps (Keeps.of_fresh hb6 (fun _ => False)) (fun _ e => e.elim)
  clear hb5 hb6 hT5 f1
  go_wp2_with fail
  refine (mk_N w.heap.size tb 40 w6 hT6 (by omega) (by omega)).mono ?_
  rintro e w7 ⟨b, rfl, hr0, hr1, hT7, hK7⟩
  obtain ⟨b, rfl⟩ := Int.eq_ofNat_of_zero_le hr0
  obtain ⟨kb, hkb⟩ : ∃ z, z = 1 + b := ⟨_, rfl⟩
  have hbw : (1 : Int) + (b : Int) = (kb : Int) := by omega
  have hkb1 : 1 ≤ kb ∧ kb ≤ 40 := by omega
  have hb7 : Below w.heap.size w w7 := hb6'.trans (hK7.below hb6'.size (by intro i hi e; omega))
  have f2 := Lib.hid (FM.out kb (by omega) w7 hb7)
  clear hT6 hK7 hb6' hkb
  go_wp2_with fail
  refine (by exact f2.out : Calls _ _ _ _ _).mono ?_
  rintro e w8 ⟨rfl, hb8⟩
  have hb8' : Below w.heap.size w w8 := hb7.trans (hb8.mono hb7.size)
  have hT8 := hT7.keeps (Keeps.of_fresh hb8 (fun _ => False)) (fun _ e => e.elim)
  clear hb7 hb8 hT7 f2 hbw
  go_wp2_with fail
  refine (mk_N w.heap.size tb 40 w8 hT8 (by omega) (by omega)).mono ?_
  rintro e w9 ⟨c, rfl, hr2, hr3, hT9, hK9⟩
  obtain ⟨c, rfl⟩ := Int.eq_ofNat_of_zero_le hr2
  obtain ⟨kc, hkc⟩ : ∃ z, z = 1 + c := ⟨_, rfl⟩
  have hcw : (1 : Int) + (c : Int) = (kc : Int) := by omega
  have hkc1 : 1 ≤ kc ∧ kc ≤ 40 := by omega
  have hb9 : Below w.heap.size w w9 := hb8'.trans (hK9.below hb8'.size (by intro i hi e; omega))
  have f3 := Lib.hid (FM.out kc (by omega) w9 hb9)
  clear hT8 hK9 hb8' hkc
  go_wp2_with fail
  refine (by exact f3.out : Calls _ _ _ _ _).mono ?_
  rintro e wa ⟨rfl, hba⟩
  have hba' : Below w.heap.size w wa := hb9.trans (hba.mono hb9.size)
  clear hb9 hba hT9 f3 hcw
  have hN := Lib.hid (show n ≤ 4294967295 by omega)
  have hI := Lib.hid (show i < 10 ∧ k < 10 by omega)
  have hlA := fmt_len n (by omega)
  have hlB := fmt_len kb (by omega)
  have hlC := fmt_len kc (by omega)
  have r1 := rnk_one (i := i) (k := k) (p := p) (q := q) hI.out.1 hI.out.2 HPQ.out.1 HPQ.out.2 hN.out hkb1.1 hkb1.2 hkc1.1 hkc1.2
  have r2 := rnk_left (i := i) (k := k) (p := p) (q := q) hI.out.1 hI.out.2 HPQ.out.1 HPQ.out.2 hN.out hkb1.1 hkb1.2 hkc1.1 hkc1.2
  have r3 := rnk_right (i := i) (k := k) (p := p) (q := q) hI.out.1 hI.out.2 HPQ.out.1 HPQ.out.2 hN.out hkb1.1 hkb1.2 hkc1.1 hkc1.2
  generalize fmtT n = A at *
  generalize fmtT kb = Bt at *
  generalize fmtT kc = C at *
  clear hN hkb1 hkc1 hn0 hn1 hr0 hr1 hr2 hr3 HPQ
  by_cases hki : k ≤ i
  · have hkiI : ¬ (i : Int) < (k : Int) := by omega
    obtain ⟨v, q1, q2⟩ := r2 hki
    clear r1 r2 r3 hki
    obtain ⟨V1, eV1, lV1, dV1⟩ := add_pc A [32] 40 1 hlA (by simp) (by omega)
    simp only [Nat.reduceAdd] at lV1
    obtain ⟨V2, eV2, lV2, dV2⟩ := add_pc V1 p 41 2 lV1 hlp (by omega)
    simp only [Nat.reduceAdd] at lV2
    obtain ⟨V3, eV3, lV3, dV3⟩ := add_pc V2 [32] 43 1 lV2 (by simp) (by omega)
    simp only [Nat.reduceAdd] at lV3
    obtain ⟨V4, eV4, lV4, dV4⟩ := add_pc V3 Bt 44 40 lV3 hlB (by omega)
    simp only [Nat.reduceAdd] at lV4
    obtain ⟨V5, eV5, lV5, dV5⟩ := add_pc V4 [32] 84 1 lV4 (by simp) (by omega)
    simp only [Nat.reduceAdd] at lV5
    obtain ⟨V6, eV6, lV6, dV6⟩ := add_pc V5 q 85 2 lV5 hlq (by omega)
    simp only [Nat.reduceAdd] at lV6
    obtain ⟨V7, eV7, lV7, dV7⟩ := add_pc V6 [32] 87 1 lV6 (by simp) (by omega)
    simp only [Nat.reduceAdd] at lV7
    obtain ⟨V8, eV8, lV8, dV8⟩ := add_pc V7 C 88 40 lV7 hlC (by omega)
    simp only [Nat.reduceAdd] at lV8
    obtain ⟨U1, eU1, lU1, dU1⟩ := add_pc [40] A 1 40 (by simp) hlA (by omega)
    simp only [Nat.reduceAdd] at lU1
    obtain ⟨U2, eU2, lU2, dU2⟩ := add_pc U1 p 41 2 lU1 hlp (by omega)
    simp only [Nat.reduceAdd] at lU2
    obtain ⟨U3, eU3, lU3, dU3⟩ := add_pc U2 [32] 43 1 lU2 (by simp) (by omega)
    simp only [Nat.reduceAdd] at lU3
    obtain ⟨U4, eU4, lU4, dU4⟩ := add_pc U3 Bt 44 40 lU3 hlB (by omega)
    simp only [Nat.reduceAdd] at lU4
    obtain ⟨U5, eU5, lU5, dU5⟩ := add_pc U4 [41] 84 1 lU4 (by simp) (by omega)
    simp only [Nat.reduceAdd] at lU5
    obtain ⟨U6, eU6, lU6, dU6⟩ := add_pc U5 q 85 2 lU5 hlq (by omega)
    simp only [Nat.reduceAdd] at lU6
    obtain ⟨U7, eU7, lU7, dU7⟩ := add_pc U6 [32] 87 1 lU6 (by simp) (by omega)
    simp only [Nat.reduceAdd] at lU7
    obtain ⟨U8, eU8, lU8, dU8⟩ := add_pc U7 C 88 40 lU7 hlC (by omega)
    simp only [Nat.reduceAdd] at lU8
    have EV8 : V8 = A ++ [32] ++ p ++ [32] ++ Bt ++ [32] ++ q ++ [32] ++ C := by rw [eV8, eV7, eV6, eV5, eV4, eV3, eV2, eV1]
    have EU8 : U8 = [40] ++ A ++ p ++ [32] ++ Bt ++ [41] ++ q ++ [32] ++ C := by rw [eU8, eU7, eU6, eU5, eU4, eU3, eU2, eU1]
    rw [← EV8] at q1
    rw [← EU8] at q2
    have Q1 := Lib.hid q1
    have Q2 := Lib.hid q2
    have hL1 : V8.length ≤ 1000000 := by omega
    have hL2 : U8.length ≤ 1000000 := by omega
    clear q1 q2 EV8 EU8 eV1 lV1 eV2 lV2 eV3 lV3 eV4 lV4 eV5 lV5 eV6 lV6 eV7 lV7 eV8 lV8 eU1 lU1 eU2 lU2 eU3 lU3 eU4 lU4 eU5 lU5 eU6 lU6 eU7 lU7 eU8 lU8 hlA hlB hlC
    go_wp2_with fail
    refine (exp_comp Q1.out wa hL1 (LL.out wa hba').1).mono ?_
    rintro e wb ⟨rfl, hbb⟩
    have hbb' : Below w.heap.size w wb := hba'.trans (hbb.mono hba'.size)
    go_wp2_with fail
    refine (exp_comp Q2.out wb hL2 (LL.out wb hbb').1).mono ?_
    rintro e wc ⟨rfl, hbc⟩
    have hbc' : Below w.heap.size w wc := hbb'.trans (hbc.mono hbb'.size)
    go_wp2_with fail
    refine (AW.out wc hbc').mono ?_
    rintro e we ⟨rfl, hbe⟩
    go_wp2_with fail
    go_ret
    exact ⟨rfl, hbc'.trans (hbe.mono hbc'.size)⟩
  · have hkiI : (i : Int) < (k : Int) := by omega
    obtain ⟨v, q1, q3⟩ := r3 (by omega)
    obtain ⟨v2, q2⟩ := r1
    clear r2 r3 hki
    obtain ⟨V1, eV1, lV1, dV1⟩ := add_pc A [32] 40 1 hlA (by simp) (by omega)
    simp only [Nat.reduceAdd] at lV1
    obtain ⟨V2, eV2, lV2, dV2⟩ := add_pc V1 p 41 2 lV1 hlp (by omega)
    simp only [Nat.reduceAdd] at lV2
    obtain ⟨V3, eV3, lV3, dV3⟩ := add_pc V2 [32] 43 1 lV2 (by simp) (by omega)
    simp only [Nat.reduceAdd] at lV3
    obtain ⟨V4, eV4, lV4, dV4⟩ := add_pc V3 Bt 44 40 lV3 hlB (by omega)
    simp only [Nat.reduceAdd] at lV4
    obtain ⟨V5, eV5, lV5, dV5⟩ := add_pc V4 [32] 84 1 lV4 (by simp) (by omega)
    simp only [Nat.reduceAdd] at lV5
    obtain ⟨V6, eV6, lV6, dV6⟩ := add_pc V5 q 85 2 lV5 hlq (by omega)
    simp only [Nat.reduceAdd] at lV6
    obtain ⟨V7, eV7, lV7, dV7⟩ := add_pc V6 [32] 87 1 lV6 (by simp) (by omega)
    simp only [Nat.reduceAdd] at lV7
    obtain ⟨V8, eV8, lV8, dV8⟩ := add_pc V7 C 88 40 lV7 hlC (by omega)
    simp only [Nat.reduceAdd] at lV8
    obtain ⟨U1, eU1, lU1, dU1⟩ := add_pc [40] A 1 40 (by simp) hlA (by omega)
    simp only [Nat.reduceAdd] at lU1
    obtain ⟨U2, eU2, lU2, dU2⟩ := add_pc U1 p 41 2 lU1 hlp (by omega)
    simp only [Nat.reduceAdd] at lU2
    obtain ⟨U3, eU3, lU3, dU3⟩ := add_pc U2 [32] 43 1 lU2 (by simp) (by omega)
    simp only [Nat.reduceAdd] at lU3
    obtain ⟨U4, eU4, lU4, dU4⟩ := add_pc U3 Bt 44 40 lU3 hlB (by omega)
    simp only [Nat.reduceAdd] at lU4
    obtain ⟨U5, eU5, lU5, dU5⟩ := add_pc U4 [41] 84 1 lU4 (by simp) (by omega)
    simp only [Nat.reduceAdd] at lU5
    obtain ⟨U6, eU6, lU6, dU6⟩ := add_pc U5 q 85 2 lU5 hlq (by omega)
    simp only [Nat.reduceAdd] at lU6
    obtain ⟨U7, eU7, lU7, dU7⟩ := add_pc U6 [32] 87 1 lU6 (by simp) (by omega)
    simp only [Nat.reduceAdd] at lU7
    obtain ⟨U8, eU8, lU8, dU8⟩ := add_pc U7 C 88 40 lU7 hlC (by omega)
    simp only [Nat.reduceAdd] at lU8
    obtain ⟨X1, eX1, lX1, dX1⟩ := add_pc V2 [32, 40] 43 2 lV2 (by simp) (by omega)
    simp only [Nat.reduceAdd] at lX1
    obtain ⟨X2, eX2, lX2, dX2⟩ := add_pc X1 Bt 45 40 lX1 hlB (by omega)
    simp only [Nat.reduceAdd] at lX2
    obtain ⟨X3, eX3, lX3, dX3⟩ := add_pc X2 q 85 2 lX2 hlq (by omega)
    simp only [Nat.reduceAdd] at lX3
    obtain ⟨X4, eX4, lX4, dX4⟩ := add_pc X3 [32] 87 1 lX3 (by simp) (by omega)
    simp only [Nat.reduceAdd] at lX4
    obtain ⟨X5, eX5, lX5, dX5⟩ := add_pc X4 C 88 40 lX4 hlC (by omega)
    simp only [Nat.reduceAdd] at lX5
    obtain ⟨X6, eX6, lX6, dX6⟩ := add_pc X5 [41] 128 1 lX5 (by simp) (by omega)
    simp only [Nat.reduceAdd] at lX6
    have EV8 : V8 = A ++ [32] ++ p ++ [32] ++ Bt ++ [32] ++ q ++ [32] ++ C := by rw [eV8, eV7, eV6, eV5, eV4, eV3, eV2, eV1]
    have EU8 : U8 = [40] ++ A ++ p ++ [32] ++ Bt ++ [41] ++ q ++ [32] ++ C := by rw [eU8, eU7, eU6, eU5, eU4, eU3, eU2, eU1]
    have EX6 : X6 = A ++ [32] ++ p ++ [32, 40] ++ Bt ++ q ++ [32] ++ C ++ [41] := by rw [eX6, eX5, eX4, eX3, eX2, eX1, eV2, eV1]
    rw [← EV8] at q1
    rw [← EU8] at q2
    rw [← EX6] at q3
    have Q1 := Lib.hid q1
    have Q2 := Lib.hid q2
    have Q3 := Lib.hid q3
    have hL1 : V8.length ≤ 1000000 := by omega
    have hL2 : U8.length ≤ 1000000 := by omega
    have hL3 : X6.length ≤ 1000000 := by omega
    clear q1 q2 q3 EV8 EU8 EX6 eV1 lV1 eV2 lV2 eV3 lV3 eV4 lV4 eV5 lV5 eV6 lV6 eV7 lV7 eV8 lV8 eU1 lU1 eU2 lU2 eU3 lU3 eU4 lU4 eU5 lU5 eU6 lU6 eU7 lU7 eU8 lU8 eX1 lX1 eX2 lX2 eX3 lX3 eX4 lX4 eX5 lX5 eX6 lX6 hlA hlB hlC
    go_wp2_with fail
    refine (exp_comp Q1.out wa hL1 (LL.out wa hba').1).mono ?_
    rintro e wb ⟨rfl, hbb⟩
    have hbb' : Below w.heap.size w wb := hba'.trans (hbb.mono hba'.size)
    go_wp2_with fail
    refine (exp_comp Q2.out wb hL2 (LL.out wb hbb').1).mono ?_
    rintro e wc ⟨rfl, hbc⟩
    have hbc' : Below w.heap.size w wc := hbb'.trans (hbc.mono hbb'.size)
    go_wp2_with fail
    refine (exp_comp Q3.out wc hL3 (LL.out wc hbc').1).mono ?_
    rintro e wd ⟨rfl, hbd⟩
    have hbd' : Below w.heap.size w wd := hbc'.trans (hbd.mono hbc'.size)
    go_wp2_with fail
    refine (AW.out wd hbd').mono ?_
    rintro e we ⟨rfl, hbe⟩
    go_wp2_with fail
    go_ret
    exact ⟨rfl, hbd'.trans (hbe.mono hbd'.size)⟩
end Go.Proofs.YtojcefkigcdkiaaDoor
