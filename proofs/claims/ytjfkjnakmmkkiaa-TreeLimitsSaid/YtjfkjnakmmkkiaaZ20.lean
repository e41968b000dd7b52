/- The law TreeLimits: its plain facts, and a slice of zero bytes as a string. | The law TreeLimits: its regions that set a property to a made value (printed by glim.py). | The law TreeLimits: its walk. -/
import Derived.Test.YtjfkjnakmmkkiaaZ16
import Derived.Test.YtjfkjnakmmkkiaaZ14
import Derived.Test.YtjfkjnakmmkkiaaZ19
import Derived.Deep.LoopGhost

namespace Go.Proofs.Ytjfkjnakmmkkiaa
open Go.RowKit

def sD : ByteArray := ⟨#[100]⟩
/-- The chain after i steps, and the path to its end. -/
def limP : Nat → ByteArray
  | 0 => ⟨#[47]⟩
  | i + 1 => (if i = 0 then limP i else limP i ++ ⟨#[47]⟩) ++ sD
def limT : Nat → List NodeT
  | 0 => rootT
  | i + 1 => (addT (limT i) (limP i) sD).1
theorem lim_add : ∀ i, i < 8 → (addT (limT i) (limP i) sD).2 = 0 := by
  intro i h
  rcases (show i = 0 ∨ i = 1 ∨ i = 2 ∨ i = 3 ∨ i = 4 ∨ i = 5 ∨ i = 6 ∨ i = 7 from by omega) with rfl | rfl | rfl | rfl | rfl | rfl | rfl | rfl <;> kernel_rfl
theorem lim_end : (addT (limT 8) (limP 8) sD).2 = 2 := by kernel_rfl
def sR : ByteArray := ⟨#[47]⟩
def nmP (i : Nat) : ByteArray := ⟨#[112, UInt8.ofNat (97 + i)]⟩
def limZ : Nat → List NodeT
  | 0 => rootT
  | i + 1 => (setT (limZ i) sR (nmP i) ⟨#[]⟩).1
theorem lim_set : ∀ i, i < 24 → (setT (limZ i) sR (nmP i) ⟨#[]⟩).2 = 0 := by
  intro i h
  rcases (show i = 0 ∨ i = 1 ∨ i = 2 ∨ i = 3 ∨ i = 4 ∨ i = 5 ∨ i = 6 ∨ i = 7 ∨ i = 8 ∨ i = 9 ∨ i = 10 ∨ i = 11 ∨ i = 12 ∨ i = 13 ∨ i = 14 ∨ i = 15 ∨ i = 16 ∨ i = 17 ∨ i = 18 ∨ i = 19 ∨ i = 20 ∨ i = 21 ∨ i = 22 ∨ i = 23 from by omega) with rfl | rfl | rfl | rfl | rfl | rfl | rfl | rfl | rfl | rfl | rfl | rfl | rfl | rfl | rfl | rfl | rfl | rfl | rfl | rfl | rfl | rfl | rfl | rfl <;> kernel_rfl
theorem lim_full : (setT (limZ 24) sR ⟨#[113]⟩ ⟨#[]⟩).2 = 3 := by kernel_rfl
def zerosB (n : Nat) : ByteArray := ⟨(List.replicate n (0 : UInt8)).toArray⟩
theorem zerosB_size (n : Nat) : (zerosB n).size = n := by show (List.replicate n (0 : UInt8)).toArray.size = n; simp
theorem limZ_check : checkT (limZ 24) = 0 := by kernel_rfl
theorem limZ_begin : rBeginT (limZ 24) sR = (0, 0) := by kernel_rfl
theorem limZ_len : (limZ 24).length = 1 := by kernel_rfl
theorem limZ_zero : (setT (limZ 24) sR ⟨#[112, 97]⟩ (zerosB 256)).2 = 0 := by kernel_rfl
theorem lim_over (n : Nat) (h : 256 < n) : (setT (limZ 24) sR ⟨#[112, 97]⟩ (zerosB n)).2 = 3 := by
  have hb : rBeginT (limZ 24) sR = (((0 : Nat) : Int), 0) := limZ_begin
  have hk : 0 < (limZ 24).length := by rw [limZ_len]; omega
  rw [setT_ok hb, if_neg (by decide), if_pos]
  rw [set_limit (check_limits limZ_check) hk]
  have : decide ((zerosB n).size ≤ 256) = false := by rw [zerosB_size]; simp; omega
  simp only [this, Bool.and_false]
theorem make_bytes (n : Nat) (hn : n ≤ 1000) (wx : World) : (Instr.makeSlice 77 (.int .i64 n) (.int .i64 n)).run Try.prog wx = .ok (.slice (some ⟨wx.heap.size, 0, none⟩) n n) (wx.alloc (.cells (Array.replicate n (.int .u8 0)) 5)) := by
  obtain ⟨i0, hi, hz0, hz1, hz2⟩ := info_parts infoByte
  have := run_make (P := Try.prog) wx 77 5 i0 _ Try.underlying77 hi hz0 .i64 .i64 n n (by omega) (by omega) (by rw [hz2]; omega) (by omega)
  rw [this, hz1, show (Value.int .u8 0).cells = #[.int .u8 0] from rfl]
  simp [madeCells_one]
theorem zeros_conv {w : World} {M n : Nat} (h : Holds w M (Array.replicate n (.int .u8 0)) 5) : (convert 77 9 (.slice (some ⟨M, 0, none⟩) n n)).run Try.prog w = .ok (.string (zerosB n)) w := by
  have hl : (List.replicate n (0 : UInt8)).length = n := by simp
  have h2 := run_convert_bytes_back w 77 9 5 ⟨M, 0, none⟩ n (List.replicate n (0 : UInt8)) Try.underlying77 Try.underlying5 Try.underlying9 (fun j hj => by
    rw [Addr.add_lit, Nat.zero_add, h.cell j]
    simp at hj ⊢
    simp [Array.getElem?_replicate, hj])
  rw [hl] at h2
  exact h2
theorem limP_size : ∀ i, (limP i).size ≤ 2 * i + 1 := by
  intro i
  induction i with
  | zero => decide
  | succ i ih =>
    unfold limP
    split
    · rw [ByteArray.size_append]; have : sD.size = 1 := rfl; omega
    · rw [ByteArray.size_append, ByteArray.size_append]
      have : sD.size = 1 := rfl
      have : (⟨#[47]⟩ : ByteArray).size = 1 := rfl
      omega
end Go.Proofs.Ytjfkjnakmmkkiaa

namespace Go.Proofs.Ytjfkjnakmmkkiaa
open Go.RowKit

noncomputable def lim22O : Array Oper := (regOps (Try.f10.body.getD .skip) 22).getD #[]
theorem lim22 : inRow2 .any lim22O = true := by kernel_rfl
theorem lim22a : apartB lim22O = true := by kernel_rfl
theorem lim22n : lim22O.size = 10 := by kernel_rfl
def L22F (Z n k : Nat) (zv : Value) (er : Int) (W : World) (j : Nat) : Value → World → Prop := match j with
  | 0 => fun u _ => u = .agg #[zv]
  | 1 => fun u w => ∃ M, u = .slice (some ⟨M, 0, none⟩) k k ∧ Holds w M (Array.replicate k (.int .u8 0)) 5
  | 2 => fun u _ => u = .string (zerosB k)
  | 3 => fun u _ => ∃ sa sn sc, u = .tuple #[.agg #[.slice sa sn sc], .int .i64 er]
  | 4 => fun u _ => ∃ sa sn sc, u = .tuple #[.agg #[.slice sa sn sc], .int .i64 er]
  | 5 => fun u _ => ∃ sa sn sc, u = .agg #[.slice sa sn sc]
  | 6 => fun u _ => u = .int .i64 er
  | 7 => fun u w => ∃ N x, u = .pointer (some ⟨N, 0, none⟩) ∧ W.heap.size ≤ N ∧ Holds w N #[x] 27
  | 8 => fun _ _ => True
  | 9 => fun u _ => u = .int .i64 er
  | _ => fun _ _ => True
theorem L22F.new {Z n k : Nat} {zv : Value} {er : Int} {W w w' : World} {j : Nat} {u : Value} (h : L22F Z n k zv er W j u w) (kb : Below w.heap.size w w') : L22F Z n k zv er W j u w' := by
  unfold L22F at *
  have kk := Keeps.of_fresh kb (fun _ => False)
  split at h
  all_goals first
    | exact h
    | (obtain ⟨M, e, hM⟩ := h; exact ⟨M, e, hM.keeps kk (fun e => e)⟩)
    | (obtain ⟨N, x, e, hN, hH⟩ := h; exact ⟨N, x, e, hN, hH.keeps kk (fun e => e)⟩)
theorem L22F.put {Z n k N : Nat} {zv x : Value} {er : Int} {W w : World} {j : Nat} {u : Value} (h : L22F Z n k zv er W j u w) (hH : Holds w N #[x] 27) (y : Value) : L22F Z n k zv er W j u (w.setCell ⟨N, 0, none⟩ y) := by
  unfold L22F at *
  split at h
  all_goals first
    | exact h
    | (obtain ⟨M, e, hM⟩ := h; exact ⟨M, e, hM.other _ _ (holds_ne hM hH (by decide))⟩)
    | (obtain ⟨N', x', e, hN, hH'⟩ := h
       by_cases en : N' = N
       · subst en; exact ⟨N', _, e, hN, hH'.set 0 y⟩
       · exact ⟨N', x', e, hN, hH'.other _ _ en⟩)

set_option maxHeartbeats 4000000 in
set_option maxRecDepth 100000 in
theorem lim22_region {Q : Exit → Act → World → Prop} (Z n k : Nat) (zv : Value) (er : Int) (W : World) (w : World) (A : Act) (hsz : A.tmps.size = 104) (hk : k ≤ 1000) (hk256 : Hid (k = 256))
    (hZW : Holds W Z #[zv] 27) (az : A.tmps.getD 10 undef = .pointer (some ⟨Z, 0, none⟩))
    (hcl : Hid (∀ wx, Below W.heap.size W wx → Calls Try.prog 35 #[.agg #[zv], .string ⟨#[47]⟩, .string ⟨#[112, 97]⟩, .string (zerosB k)] wx fun e w' => ∃ sa sn sc, e = .returned (.tuple #[.agg #[.slice sa sn sc], .int .i64 er]) ∧ Below wx.heap.size wx w'))
    (hS : Below W.heap.size W w) (hQ : ∀ c w', SameBut lim22O A c → Below W.heap.size W w' → c.tmps.getD 17 undef = .int .i64 er → Q .normal c w') :
    wpAny Try.prog .any lim22O Q lim22O.size (Array.replicate lim22O.size false) A w := by
  refine wpAny_inv2 (fun l c wx => RInv lim22O A (L22F Z n k zv er W) (fun wx => Below W.heap.size W wx) l c wx) lim22 (fun l c wx hI hl => hQ c wx hI.1 hI.2.1 (hI.fact 9 17 rfl (hl 9 (by rw [lim22n]; decide)))) ?hstep _ _ _ _ (by simp) (by simp) (RInv.start hS)
  intro l c wx hI i' op ho hl hall K' hK'
  have hi13 : i' < 10 := by rw [← lim22n]; exact (Array.getElem?_eq_some_iff.1 ho).1
  simp only [lim22O, regOps, Try.f10, Option.getD_some, reduceIte, Nat.reduceEqDiff] at ho
  have hS := hI.2.1
  have sz := (hI.slot 10 (by kernel_rfl)).trans az
  simp only [Array.getD_eq_getD_getElem?] at sz
  have hic : i' = 0 ∨ i' = 1 ∨ i' = 2 ∨ i' = 3 ∨ i' = 4 ∨ i' = 5 ∨ i' = 6 ∨ i' = 7 ∨ i' = 8 ∨ i' = 9 := by omega
  rcases hic with rfl | rfl | rfl | rfl | rfl | rfl | rfl | rfl | rfl | rfl
  all_goals cases ho
  · have hX := (hZW.keeps (Keeps.of_fresh hS (fun _ => False)) (fun e => e)).cell 0
    go_simp
    exact hK' _ _ (hI.step lim22a 0 71 rfl (by rw [hsz]; decide) _ _ rfl hall hS (fun _ _ h => h) rfl)
  · have hb2 : Below wx.heap.size wx (wx.alloc (.cells (Array.replicate k (.int .u8 0)) 5)) := (Below.refl _ _).alloc (Nat.le_refl _) _
    have hS2 := hS.trans (hb2.mono hS.size)
    have hmk := make_bytes k hk wx
    have hmk2 : (Instr.makeSlice 77 (.int .i64 256) (.int .i64 256)).run Try.prog wx = .ok (.slice (some ⟨wx.heap.size, 0, none⟩) k k) (wx.alloc (.cells (Array.replicate k (.int .u8 0)) 5)) := by rw [← hmk, hk256.out]; rfl
    clear hmk
    go_simp
    exact hK' _ _ (hI.step lim22a 1 72 rfl (by rw [hsz]; decide) _ _ rfl hall hS2 (fun _ _ h => L22F.new h hb2) ⟨_, rfl, Holds.new _ _ _⟩)
  · obtain ⟨M, e_make, hM⟩ : ∃ M, c.tmps.getD 72 undef = .slice (some ⟨M, 0, none⟩) k k ∧ Holds wx M (Array.replicate k (.int .u8 0)) 5 := hI.fact 1 72 rfl (listed hall 1 (by kernel_rfl))
    simp only [Array.getD_eq_getD_getElem?] at e_make
    have hcv := zeros_conv hM
    go_simp
    exact hK' _ _ (hI.step lim22a 2 73 rfl (by rw [hsz]; decide) _ _ rfl hall hS (fun _ _ h => h) rfl)
  · have e_load : c.tmps.getD 71 undef = .agg #[zv] := hI.fact 0 71 rfl (listed hall 0 (by kernel_rfl))
    simp only [Array.getD_eq_getD_getElem?] at e_load
    have e_conv : c.tmps.getD 73 undef = .string (zerosB k) := hI.fact 2 73 rfl (listed hall 2 (by kernel_rfl))
    simp only [Array.getD_eq_getD_getElem?] at e_conv
    go_simp
    refine (hcl.out wx hS).mono ?_
    rintro e w2 ⟨sa, sn, sc, rfl, hb2⟩
    go_simp
    have hS2 : Below W.heap.size W w2 := hS.trans (hb2.mono hS.size)
    exact hK' _ _ (hI.step lim22a 3 74 rfl (by rw [hsz]; decide) _ _ rfl hall hS2 (fun _ _ h => L22F.new h hb2) ⟨_, _, _, rfl⟩)
  · obtain ⟨sa, sn, sc, e_call⟩ : ∃ sa sn sc, c.tmps.getD 74 undef = .tuple #[.agg #[.slice sa sn sc], .int .i64 er] := hI.fact 3 74 rfl (listed hall 3 (by kernel_rfl))
    simp only [Array.getD_eq_getD_getElem?] at e_call
    go_simp
    exact hK' _ _ (hI.step lim22a 4 70 rfl (by rw [hsz]; decide) _ _ rfl hall hS (fun _ _ h => h) ⟨_, _, _, rfl⟩)
  · obtain ⟨sa, sn, sc, e_mv⟩ : ∃ sa sn sc, c.tmps.getD 70 undef = .tuple #[.agg #[.slice sa sn sc], .int .i64 er] := hI.fact 4 70 rfl (listed hall 4 (by kernel_rfl))
    simp only [Array.getD_eq_getD_getElem?] at e_mv
    go_simp
    exact hK' _ _ (hI.step lim22a 5 75 rfl (by rw [hsz]; decide) _ _ rfl hall hS (fun _ _ h => h) ⟨_, _, _, rfl⟩)
  · obtain ⟨sa, sn, sc, e_mv⟩ : ∃ sa sn sc, c.tmps.getD 70 undef = .tuple #[.agg #[.slice sa sn sc], .int .i64 er] := hI.fact 4 70 rfl (listed hall 4 (by kernel_rfl))
    simp only [Array.getD_eq_getD_getElem?] at e_mv
    go_simp
    exact hK' _ _ (hI.step lim22a 6 76 rfl (by rw [hsz]; decide) _ _ rfl hall hS (fun _ _ h => h) rfl)
  · go_simp
    have hb2 : Below wx.heap.size wx (wx.alloc (.cells #[.slice none 0 0] 27)) := (Below.refl _ _).alloc (Nat.le_refl _) _
    have hS2 := hS.trans (hb2.mono hS.size)
    exact hK' _ _ (hI.step lim22a 7 16 rfl (by rw [hsz]; decide) _ _ rfl hall hS2 (fun _ _ h => L22F.new h hb2) ⟨_, _, rfl, hS.size, Holds.new _ _ _⟩)
  · obtain ⟨N, x, e_al, hN, hHN⟩ : ∃ N x, c.tmps.getD 16 undef = .pointer (some ⟨N, 0, none⟩) ∧ W.heap.size ≤ N ∧ Holds wx N #[x] 27 := hI.fact 7 16 rfl (listed hall 7 (by kernel_rfl))
    simp only [Array.getD_eq_getD_getElem?] at e_al
    obtain ⟨sa, sn, sc, e_ex⟩ : ∃ sa sn sc, c.tmps.getD 75 undef = .agg #[.slice sa sn sc] := hI.fact 5 75 rfl (listed hall 5 (by kernel_rfl))
    simp only [Array.getD_eq_getD_getElem?] at e_ex
    have n0 : wx.cell? ⟨N, 0, none⟩ = some x := hHN.cell 0
    have n1 : wx.frozen? ⟨N, 0, none⟩ = false := hHN.free 0
    go_simp
    have hS2 : Below W.heap.size W (wx.setCell ⟨N, 0, none⟩ (.slice sa sn sc)) := hS.setCell (p := ⟨N, 0, none⟩) hN _
    exact hK' _ _ (hI.stepN 8 rfl _ rfl hall hS2 (fun _ _ h => L22F.put h hHN _) trivial)
  · have e_ex1 : c.tmps.getD 76 undef = .int .i64 er := hI.fact 6 76 rfl (listed hall 6 (by kernel_rfl))
    simp only [Array.getD_eq_getD_getElem?] at e_ex1
    go_simp
    exact hK' _ _ (hI.step lim22a 9 17 rfl (by rw [hsz]; decide) _ _ rfl hall hS (fun _ _ h => h) rfl)

noncomputable def lim23O : Array Oper := (regOps (Try.f10.body.getD .skip) 23).getD #[]
theorem lim23 : inRow2 .any lim23O = true := by kernel_rfl
theorem lim23a : apartB lim23O = true := by kernel_rfl
theorem lim23n : lim23O.size = 13 := by kernel_rfl
def L23F (Z n k : Nat) (zv : Value) (er : Int) (W : World) (j : Nat) : Value → World → Prop := match j with
  | 0 => fun u _ => u = .agg #[zv]
  | 1 => fun u _ => u = .int .u8 n
  | 2 => fun u _ => u = .int .i64 n
  | 3 => fun u _ => u = .int .i64 k
  | 4 => fun u w => ∃ M, u = .slice (some ⟨M, 0, none⟩) k k ∧ Holds w M (Array.replicate k (.int .u8 0)) 5
  | 5 => fun u _ => u = .string (zerosB k)
  | 6 => fun u _ => ∃ sa sn sc, u = .tuple #[.agg #[.slice sa sn sc], .int .i64 er]
  | 7 => fun u _ => ∃ sa sn sc, u = .tuple #[.agg #[.slice sa sn sc], .int .i64 er]
  | 8 => fun u _ => ∃ sa sn sc, u = .agg #[.slice sa sn sc]
  | 9 => fun u _ => u = .int .i64 er
  | 10 => fun u w => ∃ N x, u = .pointer (some ⟨N, 0, none⟩) ∧ W.heap.size ≤ N ∧ Holds w N #[x] 27
  | 11 => fun _ _ => True
  | 12 => fun u _ => u = .int .i64 er
  | _ => fun _ _ => True
theorem L23F.new {Z n k : Nat} {zv : Value} {er : Int} {W w w' : World} {j : Nat} {u : Value} (h : L23F Z n k zv er W j u w) (kb : Below w.heap.size w w') : L23F Z n k zv er W j u w' := by
  unfold L23F at *
  have kk := Keeps.of_fresh kb (fun _ => False)
  split at h
  all_goals first
    | exact h
    | (obtain ⟨M, e, hM⟩ := h; exact ⟨M, e, hM.keeps kk (fun e => e)⟩)
    | (obtain ⟨N, x, e, hN, hH⟩ := h; exact ⟨N, x, e, hN, hH.keeps kk (fun e => e)⟩)
theorem L23F.put {Z n k N : Nat} {zv x : Value} {er : Int} {W w : World} {j : Nat} {u : Value} (h : L23F Z n k zv er W j u w) (hH : Holds w N #[x] 27) (y : Value) : L23F Z n k zv er W j u (w.setCell ⟨N, 0, none⟩ y) := by
  unfold L23F at *
  split at h
  all_goals first
    | exact h
    | (obtain ⟨M, e, hM⟩ := h; exact ⟨M, e, hM.other _ _ (holds_ne hM hH (by decide))⟩)
    | (obtain ⟨N', x', e, hN, hH'⟩ := h
       by_cases en : N' = N
       · subst en; exact ⟨N', _, e, hN, hH'.set 0 y⟩
       · exact ⟨N', x', e, hN, hH'.other _ _ en⟩)

set_option maxHeartbeats 4000000 in
set_option maxRecDepth 100000 in
theorem lim23_region {Q : Exit → Act → World → Prop} (Z n k : Nat) (zv : Value) (er : Int) (W : World) (w : World) (A : Act) (hsz : A.tmps.size = 104) (hk : k ≤ 1000) (hkn : Hid (k = 257 + n)) (hn : n ≤ 255) (a0 : A.tmps.getD 0 undef = .int .u8 n)
    (hZW : Holds W Z #[zv] 27) (az : A.tmps.getD 10 undef = .pointer (some ⟨Z, 0, none⟩))
    (hcl : Hid (∀ wx, Below W.heap.size W wx → Calls Try.prog 35 #[.agg #[zv], .string ⟨#[47]⟩, .string ⟨#[112, 97]⟩, .string (zerosB k)] wx fun e w' => ∃ sa sn sc, e = .returned (.tuple #[.agg #[.slice sa sn sc], .int .i64 er]) ∧ Below wx.heap.size wx w'))
    (hS : Below W.heap.size W w) (hQ : ∀ c w', SameBut lim23O A c → Below W.heap.size W w' → c.tmps.getD 19 undef = .int .i64 er → Q .normal c w') :
    wpAny Try.prog .any lim23O Q lim23O.size (Array.replicate lim23O.size false) A w := by
  refine wpAny_inv2 (fun l c wx => RInv lim23O A (L23F Z n k zv er W) (fun wx => Below W.heap.size W wx) l c wx) lim23 (fun l c wx hI hl => hQ c wx hI.1 hI.2.1 (hI.fact 12 19 rfl (hl 12 (by rw [lim23n]; decide)))) ?hstep _ _ _ _ (by simp) (by simp) (RInv.start hS)
  intro l c wx hI i' op ho hl hall K' hK'
  have hi13 : i' < 13 := by rw [← lim23n]; exact (Array.getElem?_eq_some_iff.1 ho).1
  simp only [lim23O, regOps, Try.f10, Option.getD_some, reduceIte, Nat.reduceEqDiff] at ho
  have hS := hI.2.1
  have sz := (hI.slot 10 (by kernel_rfl)).trans az
  have s0 := (hI.slot 0 (by kernel_rfl)).trans a0
  simp only [Array.getD_eq_getD_getElem?] at s0
  have hw0 : IntKind.i64.wrap (n : Int) = n := IntWalk.i64_in _ (by omega)
  have hw1 : IntKind.i64.wrap (257 + (n : Int)) = (k : Int) := by have := hkn.out; rw [IntKind.wrap_i64]; omega
  simp only [Array.getD_eq_getD_getElem?] at sz
  have hic : i' = 0 ∨ i' = 1 ∨ i' = 2 ∨ i' = 3 ∨ i' = 4 ∨ i' = 5 ∨ i' = 6 ∨ i' = 7 ∨ i' = 8 ∨ i' = 9 ∨ i' = 10 ∨ i' = 11 ∨ i' = 12 := by omega
  rcases hic with rfl | rfl | rfl | rfl | rfl | rfl | rfl | rfl | rfl | rfl | rfl | rfl | rfl
  all_goals cases ho
  · have hX := (hZW.keeps (Keeps.of_fresh hS (fun _ => False)) (fun e => e)).cell 0
    go_simp
    exact hK' _ _ (hI.step lim23a 0 78 rfl (by rw [hsz]; decide) _ _ rfl hall hS (fun _ _ h => h) rfl)
  · go_simp
    exact hK' _ _ (hI.step lim23a 1 79 rfl (by rw [hsz]; decide) _ _ rfl hall hS (fun _ _ h => h) rfl)
  · have e_move0 : c.tmps.getD 79 undef = .int .u8 n := hI.fact 1 79 rfl (listed hall 1 (by kernel_rfl))
    simp only [Array.getD_eq_getD_getElem?] at e_move0
    go_simp
    exact hK' _ _ (hI.step lim23a 2 80 rfl (by rw [hsz]; decide) _ _ rfl hall hS (fun _ _ h => h) rfl)
  · have e_conv3 : c.tmps.getD 80 undef = .int .i64 n := hI.fact 2 80 rfl (listed hall 2 (by kernel_rfl))
    simp only [Array.getD_eq_getD_getElem?] at e_conv3
    go_simp
    exact hK' _ _ (hI.step lim23a 3 81 rfl (by rw [hsz]; decide) _ _ rfl hall hS (fun _ _ h => h) rfl)
  · have e_add : c.tmps.getD 81 undef = .int .i64 k := hI.fact 3 81 rfl (listed hall 3 (by kernel_rfl))
    simp only [Array.getD_eq_getD_getElem?] at e_add
    have hb2 : Below wx.heap.size wx (wx.alloc (.cells (Array.replicate k (.int .u8 0)) 5)) := (Below.refl _ _).alloc (Nat.le_refl _) _
    have hS2 := hS.trans (hb2.mono hS.size)
    have hmk := make_bytes k hk wx
    go_simp
    exact hK' _ _ (hI.step lim23a 4 82 rfl (by rw [hsz]; decide) _ _ rfl hall hS2 (fun _ _ h => L23F.new h hb2) ⟨_, rfl, Holds.new _ _ _⟩)
  · obtain ⟨M, e_make, hM⟩ : ∃ M, c.tmps.getD 82 undef = .slice (some ⟨M, 0, none⟩) k k ∧ Holds wx M (Array.replicate k (.int .u8 0)) 5 := hI.fact 4 82 rfl (listed hall 4 (by kernel_rfl))
    simp only [Array.getD_eq_getD_getElem?] at e_make
    have hcv := zeros_conv hM
    go_simp
    exact hK' _ _ (hI.step lim23a 5 83 rfl (by rw [hsz]; decide) _ _ rfl hall hS (fun _ _ h => h) rfl)
  · have e_load : c.tmps.getD 78 undef = .agg #[zv] := hI.fact 0 78 rfl (listed hall 0 (by kernel_rfl))
    simp only [Array.getD_eq_getD_getElem?] at e_load
    have e_conv : c.tmps.getD 83 undef = .string (zerosB k) := hI.fact 5 83 rfl (listed hall 5 (by kernel_rfl))
    simp only [Array.getD_eq_getD_getElem?] at e_conv
    go_simp
    refine (hcl.out wx hS).mono ?_
    rintro e w2 ⟨sa, sn, sc, rfl, hb2⟩
    go_simp
    have hS2 : Below W.heap.size W w2 := hS.trans (hb2.mono hS.size)
    exact hK' _ _ (hI.step lim23a 6 84 rfl (by rw [hsz]; decide) _ _ rfl hall hS2 (fun _ _ h => L23F.new h hb2) ⟨_, _, _, rfl⟩)
  · obtain ⟨sa, sn, sc, e_call⟩ : ∃ sa sn sc, c.tmps.getD 84 undef = .tuple #[.agg #[.slice sa sn sc], .int .i64 er] := hI.fact 6 84 rfl (listed hall 6 (by kernel_rfl))
    simp only [Array.getD_eq_getD_getElem?] at e_call
    go_simp
    exact hK' _ _ (hI.step lim23a 7 77 rfl (by rw [hsz]; decide) _ _ rfl hall hS (fun _ _ h => h) ⟨_, _, _, rfl⟩)
  · obtain ⟨sa, sn, sc, e_mv⟩ : ∃ sa sn sc, c.tmps.getD 77 undef = .tuple #[.agg #[.slice sa sn sc], .int .i64 er] := hI.fact 7 77 rfl (listed hall 7 (by kernel_rfl))
    simp only [Array.getD_eq_getD_getElem?] at e_mv
    go_simp
    exact hK' _ _ (hI.step lim23a 8 85 rfl (by rw [hsz]; decide) _ _ rfl hall hS (fun _ _ h => h) ⟨_, _, _, rfl⟩)
  · obtain ⟨sa, sn, sc, e_mv⟩ : ∃ sa sn sc, c.tmps.getD 77 undef = .tuple #[.agg #[.slice sa sn sc], .int .i64 er] := hI.fact 7 77 rfl (listed hall 7 (by kernel_rfl))
    simp only [Array.getD_eq_getD_getElem?] at e_mv
    go_simp
    exact hK' _ _ (hI.step lim23a 9 86 rfl (by rw [hsz]; decide) _ _ rfl hall hS (fun _ _ h => h) rfl)
  · go_simp
    have hb2 : Below wx.heap.size wx (wx.alloc (.cells #[.slice none 0 0] 27)) := (Below.refl _ _).alloc (Nat.le_refl _) _
    have hS2 := hS.trans (hb2.mono hS.size)
    exact hK' _ _ (hI.step lim23a 10 18 rfl (by rw [hsz]; decide) _ _ rfl hall hS2 (fun _ _ h => L23F.new h hb2) ⟨_, _, rfl, hS.size, Holds.new _ _ _⟩)
  · obtain ⟨N, x, e_al, hN, hHN⟩ : ∃ N x, c.tmps.getD 18 undef = .pointer (some ⟨N, 0, none⟩) ∧ W.heap.size ≤ N ∧ Holds wx N #[x] 27 := hI.fact 10 18 rfl (listed hall 10 (by kernel_rfl))
    simp only [Array.getD_eq_getD_getElem?] at e_al
    obtain ⟨sa, sn, sc, e_ex⟩ : ∃ sa sn sc, c.tmps.getD 85 undef = .agg #[.slice sa sn sc] := hI.fact 8 85 rfl (listed hall 8 (by kernel_rfl))
    simp only [Array.getD_eq_getD_getElem?] at e_ex
    have n0 : wx.cell? ⟨N, 0, none⟩ = some x := hHN.cell 0
    have n1 : wx.frozen? ⟨N, 0, none⟩ = false := hHN.free 0
    go_simp
    have hS2 : Below W.heap.size W (wx.setCell ⟨N, 0, none⟩ (.slice sa sn sc)) := hS.setCell (p := ⟨N, 0, none⟩) hN _
    exact hK' _ _ (hI.stepN 11 rfl _ rfl hall hS2 (fun _ _ h => L23F.put h hHN _) trivial)
  · have e_ex1 : c.tmps.getD 86 undef = .int .i64 er := hI.fact 9 86 rfl (listed hall 9 (by kernel_rfl))
    simp only [Array.getD_eq_getD_getElem?] at e_ex1
    go_simp
    exact hK' _ _ (hI.step lim23a 12 19 rfl (by rw [hsz]; decide) _ _ rfl hall hS (fun _ _ h => h) rfl)
end Go.Proofs.Ytjfkjnakmmkkiaa

namespace Go.Proofs.Ytjfkjnakmmkkiaa
open Go.RowKit

theorem addsL (a b : ByteArray) (h : a.size + b.size ≤ 9223372036854775807) : ∀ wx : World, (Op.stringOp .add a b).run Try.prog wx = .ok (.string (a ++ b)) wx := by
  exact fun wx => run_string_add_sum wx a b h
def LimA (base Z : Nat) (W : World) (i : Nat) (w : World) : Prop := ∃ tv, Holds w Z #[tv] 27 ∧ TreeRow w base tv (limT i) ∧ Below W.heap.size W w
def LimZ (base Z : Nat) (W : World) (i : Nat) (w : World) : Prop := ∃ tv, Holds w Z #[tv] 27 ∧ TreeRow w base tv (limZ i) ∧ Below W.heap.size W w

set_option maxRecDepth 100000 in
set_option maxHeartbeats 4000000 in
theorem treeLimits_walk (n : Nat) (hn : n ≤ 255) (w : World) :
    Calls Try.prog 10 #[.int .u8 n] w fun e w' => e = .returned (.bool true) ∧ Below w.heap.size w w' := by
  have hroot := Lib.hid (fun wx => law03_root wx)
  go_enter Try.func10, Try.ntmps10
  go_wp2_with fail
  refine (hroot.out _).mono ?_
  rintro e w1 ⟨v1, rfl, hr1, hb1⟩
  obtain ⟨a1, c1, rfl⟩ := tree_slice hr1
  have hr1' := hr1.new ((Below.refl _ _).alloc (Nat.le_refl _) (.cells #[.slice a1 rootT.length c1] 27))
  have hb1' := hb1.alloc hb1.size (.cells #[.slice a1 rootT.length c1] 27)
  have hZ1 := Holds.new w1 #[.slice a1 rootT.length c1] 27
  have hL0 : LimA w.heap.size w1.heap.size w 0 _ := ⟨_, hZ1, hr1', hb1'⟩
  have hZw : w.heap.size ≤ w1.heap.size := hb1.size
  clear hr1 hb1 hr1' hb1' hZ1
  go_wp2_with fail
  generalize w1.heap.size = Z at *
  go_loopg [4, 5] 8 (fun f x y wr => ∃ i : Nat, x = .string (limP i) ∧ y = .int .i64 i ∧ i ≤ 8 ∧ 8 ≤ i + f ∧ LimA w.heap.size Z w i wr)
  case atStart => exact ⟨0, rfl, rfl, by omega, by omega, hL0⟩
  case round =>
    clear hL0
    obtain ⟨i, rfl, rfl, hi1, hi2, tv, hZ, hr, hb⟩ := hrel
    obtain ⟨ta, tc, rfl⟩ := tree_slice hr
    have hX := hZ.cell 0
    have hXf := hZ.free 0
    have hN := hr.in
    by_cases hlt : i < 8
    · have hsz := limP_size i
      have hadd := Lib.hid (tree_Add (fun g => w.heap.size ≤ g) (.slice ta (limT i).length tc) (limT i) (limP i) sD wr (by exact hN) (by decide))
      have hz := lim_add i hlt
      have hp1 := addsL (limP i) ⟨#[47]⟩ (by show (limP i).size + 1 ≤ _; omega)
      have hp2 := addsL (limP i) sD (by show (limP i).size + 1 ≤ _; omega)
      have hp3 := addsL (limP i ++ ⟨#[47]⟩) sD (by rw [ByteArray.size_append]; show (limP i).size + 1 + 1 ≤ _; omega)
      have hps : limP (i + 1) = (if i = 0 then limP i else limP i ++ ⟨#[47]⟩) ++ sD := rfl
      have hTs := Lib.hid (show limT (i + 1) = (addT (limT i) (limP i) sD).1 from rfl)
      have HPS := Lib.hid hps
      unfold sD at hp2 hp3
      clear hps hN
      go_wp2_with fail
      refine hadd.out.mono ?_
      rintro e w2 ⟨v2, rfl, hr2, hb2⟩
      rw [hz]
      rw [← hTs.out] at hr2
      obtain ⟨a2, c2, rfl⟩ := tree_slice hr2
      have hZ2 := (hZ.keeps (Keeps.of_fresh hb2 (fun _ => False)) (fun e => e)).alloc (.cells #[.slice a2 (limT (i + 1)).length c2] 27)
      have hr3 := (hr2.base hb.size).new ((Below.refl _ _).alloc (Nat.le_refl _) (.cells #[.slice a2 (limT (i + 1)).length c2] 27))
      have hb3 := (hb.trans (hb2.mono hb.size)).alloc (hb.trans (hb2.mono hb.size)).size (.cells #[.slice a2 (limT (i + 1)).length c2] 27)
      have z0 := hZ2.cell 0
      have zf := hZ2.free 0
      have HF := Lib.hid (show LimA w.heap.size Z w (i + 1) ((w2.alloc (.cells #[.slice a2 (limT (i + 1)).length c2] 27)).setCell ⟨Z, 0, none⟩ (.slice a2 (limT (i + 1)).length c2)) from
        ⟨_, hZ2.set 0 _, hr3.set hZ2 (by decide) (by decide) 0 _, hb3.setCell (p := ⟨Z, 0, none⟩) (by show w.heap.size ≤ Z; omega) _⟩)
      clear hZ hr hb hZ2 hr3 hb3 hr2 hb2 hX hXf hadd hz
      generalize (limT (i + 1)).length = m2 at *
      by_cases hi0 : i = 0
      · subst hi0
        have hs : limP (0 + 1) = limP 0 ++ ⟨#[100]⟩ := rfl
        have HS := Lib.hid hs
        clear hs
        go_wp2_with fail
        go_roundg (gk - 1)
        case measure => omega
        case rel => exact ⟨0 + 1, by rw [HS.out], rfl, by omega, by omega, HF.out⟩
      · have hs : limP (i + 1) = limP i ++ ⟨#[47]⟩ ++ ⟨#[100]⟩ := by rw [HPS.out, if_neg hi0]; rfl
        have HS := Lib.hid hs
        have hgt : (0 : Int) < (i : Int) := by omega
        clear hs
        go_wp2_with fail
        go_roundg (gk - 1)
        case measure => omega
        case rel => exact ⟨i + 1, by rw [HS.out], by go_num, by omega, by omega, HF.out⟩
    · obtain rfl : i = 8 := by omega
      have hadd := Lib.hid (tree_Add (fun g => w.heap.size ≤ g) (.slice ta (limT 8).length tc) (limT 8) (limP 8) sD wr (by exact hN) (by decide))
      have hlz := Lib.hid lim_end
      have hz := hlz.out
      have hBW : w.heap.size ≤ wr.heap.size := hb.size
      clear hN
      generalize limP 8 = p8 at *
      generalize limT 8 = t8 at *
      unfold sD at hadd hz
      go_wp2_with fail
      refine hadd.out.mono ?_
      rintro e w2 ⟨v2, rfl, hr2, hb2⟩
      rw [hz]
      obtain ⟨a2, c2, rfl⟩ := tree_slice hr2
      have hb3 := (hb.trans (hb2.mono hb.size)).alloc (hb.trans (hb2.mono hb.size)).size (.cells #[.slice a2 ((addT t8 p8 ⟨#[100]⟩).1).length c2] 27)
      clear hZ hr hb hb2 hX hXf hadd hlz hz hr2
      generalize ((addT t8 p8 ⟨#[100]⟩).1).length = m2 at *
      go_wp2_with fail
      refine (hroot.out _).mono ?_
      rintro e w3 ⟨v3, rfl, hr3, hb4⟩
      obtain ⟨a3, c3, rfl⟩ := tree_slice hr3
      have hb5 := hb3.trans (hb4.mono hb3.size)
      have hr5 := (hr3.base hb3.size).new ((Below.refl _ _).alloc (Nat.le_refl _) (.cells #[.slice a3 rootT.length c3] 27))
      have hb6 := hb5.alloc hb5.size (.cells #[.slice a3 rootT.length c3] 27)
      have hZ6 := Holds.new w3 #[.slice a3 rootT.length c3] 27
      have hY0 : LimZ w.heap.size w3.heap.size w 0 _ := ⟨_, hZ6, hr5, hb6⟩
      have hYw : w.heap.size ≤ w3.heap.size := hb5.size
      clear hr3 hb4 hb5 hr5 hb6 hZ6 hb3
      go_wp2_with fail
      generalize w3.heap.size = Y at *
      obtain ⟨wo, rfl⟩ : ∃ x : World, x = wr := ⟨_, rfl⟩
      go_loopg [11] 24 (fun f y wr => ∃ i : Nat, y = .int .i64 i ∧ i ≤ 24 ∧ 24 ≤ i + f ∧ LimZ w.heap.size Y w i wr)
      case atStart => exact ⟨0, rfl, by omega, by omega, hY0⟩
      case round =>
        clear hY0
        obtain ⟨i, rfl, hi1, hi2, tv, hZ, hr, hb⟩ := hrel
        obtain ⟨ta, tc, rfl⟩ := tree_slice hr
        have hX := hZ.cell 0
        have hXf := hZ.free 0
        have hN := hr.in
        by_cases hlt : i < 24
        · have hset := Lib.hid (fun wx hx => tree_Set (fun g => w.heap.size ≤ g) (.slice ta (limZ i).length tc) (limZ i) ⟨#[47]⟩ (nmP i) ⟨#[]⟩ wx hx (by show 2 ≤ _; omega) (by show 0 ≤ _; omega))
          have hz := lim_set i hlt
          unfold sR at hz
          have hTs := Lib.hid (show limZ (i + 1) = (setT (limZ i) ⟨#[47]⟩ (nmP i) ⟨#[]⟩).1 from rfl)
          have hba : Below wr.heap.size wr (wr.alloc (.cells #[.int .u8 (97 + (i : Int))] 5)) := (Below.refl _ _).alloc (Nat.le_refl _) _
          have hcv : (convert 77 9 (.slice (some ⟨wr.heap.size, 0, none⟩) 1 1)).run Try.prog (wr.alloc (.cells #[.int .u8 (97 + (i : Int))] 5)) = .ok (.string ⟨#[UInt8.ofNat (97 + i)]⟩) (wr.alloc (.cells #[.int .u8 (97 + (i : Int))] 5)) := by
            refine bytes_conv (base := wr.heap.size) (acc := [UInt8.ofNat (97 + i)]) ?_
            have h := World.ownsRow_lit wr #[.int .u8 (97 + (i : Int))] 1 (e := 5) (size := 1) (Nat.le_refl _) (by decide) rfl
            have e : Lib.byteCells [UInt8.ofNat (97 + i)] = [Value.int .u8 (97 + (i : Int))] := by
              have := u8_toNat (n := 97 + (i : Int)) (by omega) (by omega)
              rw [show (97 + (i : Int)).toNat = 97 + i from by omega] at this
              show [Value.int .u8 ((UInt8.ofNat (97 + i)).toNat : Int)] = _
              rw [this]
            rw [e]; exact h
          have hp1 : ∀ wx : World, (Op.stringOp .add ⟨#[112]⟩ ⟨#[UInt8.ofNat (97 + i)]⟩).run Try.prog wx = .ok (.string (nmP i)) wx := fun wx => run_string_add_sum wx _ _ (by show 1 + 1 ≤ _; omega)
          have hw1 : IntKind.u8.wrap (97 + (i : Int)) = 97 + (i : Int) := by simp [IntKind.wrap, IntKind.signed, IntKind.bits]; omega
          have hNa := hN.new hba
          have hZa := hZ.alloc (.cells #[.int .u8 (97 + (i : Int))] 5)
          have hba2 := hb.alloc hb.size (.cells #[.int .u8 (97 + (i : Int))] 5)
          have hs1 := hb.size
          clear hN hr
          generalize nmP i = np at *
          generalize UInt8.ofNat (97 + i) = ub at *
          go_wp2_with fail
          refine (hset.out _ (by exact hNa)).mono ?_
          rintro e w2 ⟨v2, rfl, hr2, hb2⟩
          rw [hz]
          rw [← hTs.out] at hr2
          obtain ⟨a2, c2, rfl⟩ := tree_slice hr2
          have hZ2 := (hZa.keeps (Keeps.of_fresh hb2 (fun _ => False)) (fun e => e)).alloc (.cells #[.slice a2 (limZ (i + 1)).length c2] 27)
          have hr3 := (hr2.base (base' := w.heap.size) (by simp; omega)).new ((Below.refl _ _).alloc (Nat.le_refl _) (.cells #[.slice a2 (limZ (i + 1)).length c2] 27))
          have hb3 := (hba2.trans (hb2.mono hba2.size)).alloc (hba2.trans (hb2.mono hba2.size)).size (.cells #[.slice a2 (limZ (i + 1)).length c2] 27)
          have z0 := hZ2.cell 0
          have zf := hZ2.free 0
          have HF := Lib.hid (show LimZ w.heap.size Y w (i + 1) ((w2.alloc (.cells #[.slice a2 (limZ (i + 1)).length c2] 27)).setCell ⟨Y, 0, none⟩ (.slice a2 (limZ (i + 1)).length c2)) from
            ⟨_, hZ2.set 0 _, hr3.set hZ2 (by decide) (by decide) 0 _, hb3.setCell (p := ⟨Y, 0, none⟩) (by show w.heap.size ≤ Y; omega) _⟩)
          clear hZ hb hZ2 hr3 hb3 hr2 hb2 hX hXf hset hz hZa hNa hba hba2
          generalize (limZ (i + 1)).length = m2 at *
          go_wp2_with fail
          go_roundg (gk - 1)
          case measure => omega
          case rel => exact ⟨i + 1, by go_num, by omega, by omega, HF.out⟩
        · obtain rfl : i = 24 := by omega
          have hset := Lib.hid (tree_Set (fun g => w.heap.size ≤ g) (.slice ta (limZ 24).length tc) (limZ 24) ⟨#[47]⟩ ⟨#[113]⟩ ⟨#[]⟩ wr (by exact hN) (by decide) (by decide))
          have hz := lim_full
          unfold sR at hz
          have hs24 := Lib.hid (fun k (hk : k ≤ 1000) wx hx => tree_Set (fun g => w.heap.size ≤ g) (.slice ta (limZ 24).length tc) (limZ 24) ⟨#[47]⟩ ⟨#[112, 97]⟩ (zerosB k) wx hx (by decide) (by rw [zerosB_size]; omega))
          have hz0 := Lib.hid limZ_zero
          have hzo := Lib.hid (fun k hk => lim_over k hk)
          have hN' := Lib.hid hN
          clear hN hr
          generalize limZ 24 = t24 at *
          go_wp2_with fail
          refine hset.out.mono ?_
          rintro e w2 ⟨v2, rfl, hr2, hb2⟩
          rw [hz]
          obtain ⟨a2, c2, rfl⟩ := tree_slice hr2
          generalize (setT t24 ⟨#[47]⟩ ⟨#[113]⟩ ⟨#[]⟩).1.length = m2 at *
          have hb3 := (hb.trans (hb2.mono hb.size)).alloc (hb.trans (hb2.mono hb.size)).size (.cells #[.slice a2 m2 c2] 27)
          have hZ3 := (hZ.keeps (Keeps.of_fresh hb2 (fun _ => False)) (fun e => e)).alloc (.cells #[.slice a2 m2 c2] 27)
          have hN3 := Lib.hid ((hN'.out.new hb2).new ((Below.refl _ _).alloc (Nat.le_refl _) (.cells #[.slice a2 m2 c2] 27)))
          clear hX hXf hZ hb hset hr2 hb2 hN'
          have hc1 : ∀ W : World, NodesIn (fun g => w.heap.size ≤ g) W (.slice ta t24.length tc) t24 → ∀ (k : Nat) (er : Int), k ≤ 1000 → (setT t24 ⟨#[47]⟩ ⟨#[112, 97]⟩ (zerosB k)).2 = er → Hid (∀ wx, Below W.heap.size W wx → Calls Try.prog 35 #[.agg #[.slice ta t24.length tc], .string ⟨#[47]⟩, .string ⟨#[112, 97]⟩, .string (zerosB k)] wx fun e w' => ∃ sa sn sc, e = .returned (.tuple #[.agg #[.slice sa sn sc], .int .i64 er]) ∧ Below wx.heap.size wx w') :=
            fun W hW k er hk he => Lib.hid (fun wx hx => (hs24.out k hk wx (hW.new hx)).mono fun e w' ⟨v', h1, h2, h3⟩ => by
              obtain ⟨sa, sc, rfl⟩ := tree_slice h2
              rw [he] at h1
              exact ⟨_, _, _, h1, h3⟩)
          have HC1 := Lib.hid hc1
          clear hc1 hs24
          go_wp2_with fail
          generalize hW3 : w2.alloc (.cells #[.slice a2 m2 c2] 27) = W3 at *
          refine wp_region_any (by kernel_rfl) ?_
          refine wpAny_ops (ops' := lim22O) (by kernel_rfl) ?_
          refine lim22_region Y 0 256 _ 0 W3 _ _ rfl (by decide) (Lib.hid rfl) hZ3 rfl (HC1.out W3 hN3.out 256 0 (by decide) hz0.out) ((Below.refl _ _).drew) ?_
          intro c w4 hsb hb4 e17
          obtain ⟨y16, y17, y70, y71, y72, y73, y74, y75, y76, hc⟩ := hsb.ex [16, 17, 70, 71, 72, 73, 74, 75, 76] (by kernel_rfl)
          subst hc
          simp only [List.setIfInBounds_toArray, List.set_cons_zero, List.set_cons_succ] at e17 ⊢
          have e17' : y17 = .int .i64 0 := e17
          subst e17'
          have hZ4 := hZ3.keeps (Keeps.of_fresh hb4 (fun _ => False)) (fun e => e)
          have hN4 := Lib.hid (hN3.out.new hb4)
          have hb5 := hb3.trans (hb4.mono hb3.size)
          clear hZ3 hN3 hb3 hb4 hsb e17
          go_wp2_with fail
          refine wp_region_any (by kernel_rfl) ?_
          refine wpAny_ops (ops' := lim23O) (by kernel_rfl) ?_
          refine lim23_region Y n (257 + n) _ 3 w4 _ _ rfl (by omega) (Lib.hid rfl) hn rfl hZ4 rfl (HC1.out w4 hN4.out (257 + n) 3 (by omega) (hzo.out _ (by omega))) ((Below.refl _ _).drew) ?_
          intro c w5 hsb hb6 e19
          obtain ⟨y18, y19, y77, y78, y79, y80, y81, y82, y83, y84, y85, y86, hc⟩ := hsb.ex [18, 19, 77, 78, 79, 80, 81, 82, 83, 84, 85, 86] (by kernel_rfl)
          subst hc
          simp only [List.setIfInBounds_toArray, List.set_cons_zero, List.set_cons_succ] at e19 ⊢
          have e19' : y19 = .int .i64 3 := e19
          subst e19'
          have hb7 := hb5.trans (hb6.mono hb5.size)
          have haw := Lib.hid (fun wx => law03_awake wx)
          clear hZ4 hN4 hb5 hb6 hsb e19 HC1
          go_wp2_with fail
          refine (haw.out _).mono ?_
          rintro e w6 ⟨rfl, hb8⟩
          go_wp2_with fail
          go_ret
          exact ⟨rfl, hb7.trans (hb8.mono hb7.size)⟩
end Go.Proofs.Ytjfkjnakmmkkiaa
