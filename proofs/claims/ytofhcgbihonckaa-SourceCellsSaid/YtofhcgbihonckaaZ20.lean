/- Expressions put together of pieces, in plain Lean: what is read of them. -/
import Derived.Test.YtofhcgbihonckaaZ3
import Derived.Test.YtofhcgbihonckaaZ19

set_option linter.unusedVariables false
set_option linter.unusedSimpArgs false
set_option linter.unusedSectionVars false

namespace Go.Proofs.Ytofhcgbihonckaa
open Go.RowKit

def cvT (t : Int × List UInt8 × Int) : Int × ByteArray × Int := (t.1, ⟨t.2.1.toArray⟩, t.2.2)
/-- From place i on the list begins with T. -/
def AtT (L : List (Int × ByteArray × Int)) (i : Nat) (T : List (Int × ByteArray × Int)) : Prop := ∃ R, L.drop i = T ++ R
section
variable {L T U : List (Int × ByteArray × Int)} {i d j j2 k f : Nat} {t : Int × ByteArray × Int} {v x y : Int} {s b : ByteArray}
theorem AtT.left (h : AtT L i (T ++ U)) : AtT L i T := by
  obtain ⟨R, h⟩ := h; exact ⟨U ++ R, by rw [h, List.append_assoc]⟩
theorem AtT.right (h : AtT L i (T ++ U)) : AtT L (i + T.length) U := by
  obtain ⟨R, h⟩ := h; exact ⟨R, by rw [← List.drop_drop, h, List.append_assoc, List.drop_left]⟩
theorem AtT.get (h : AtT L i (t :: U)) : L[i]? = some t := by
  obtain ⟨R, h⟩ := h
  have e : (L.drop i)[0]? = some t := by rw [h]; rfl
  simpa using e
theorem AtT.tail (h : AtT L i (t :: U)) : AtT L (i + 1) U := AtT.right (T := [t]) h
theorem AtT.sgn (h : AtT L i ((4, s, v) :: U)) : sgnT L i = s := by unfold sgnT; rw [h.get]; rfl
/-- Signs behind a whole expression. -/
def endS (s : ByteArray) : Prop := s = ⟨#[]⟩ ∨ s = ⟨#[41]⟩ ∨ s = ⟨#[58]⟩
theorem end_row (h : endS s) : ∀ q, q < 10 → rowN q s = none := by
  rcases h with rfl | rfl | rfl <;> decide
theorem end_q (h : endS s) : s ≠ ⟨#[63]⟩ := by
  rcases h with rfl | rfl | rfl <;> decide
theorem lvl_opnd (K : Nat) (h : Rd L .opnd d i (some (v, j, noF))) (hn : ∀ q, q < K → rowN q (sgnT L j) = none) : Rd L (.lvl K) d i (some (v, j, noF)) := by
  have := rd_lvls h K _ (rl_end K hn)
  simpa [addF, orF, noF] using this
theorem whole_opnd (h : Rd L .opnd d i (some (v, j, noF))) (he : endS (sgnT L j)) : Rd L .whole d i (some (v, j, noF)) :=
  rd_whole (lvl_opnd 10 h (end_row he)) (end_q he)
theorem opnd_par (h : sgnT L i = ⟨#[40]⟩) (hw : Rd L .whole (d + 1) (i + 1) (some (v, j, noF))) (hr : sgnT L j = ⟨#[41]⟩) : Rd L .opnd d i (some (v, j + 1, noF)) :=
  rd_op (by rw [h]; decide) (rd_par h hw hr)
theorem opnd_num (h : L[i]? = some (2, b, v)) (h0 : 0 ≤ v) (h1 : v ≤ 4294967295) (hd : d ≤ 8) : Rd L .opnd d i (some (v, i + 1, noF)) := by
  have hs : sgnT L i = ⟨#[]⟩ := by unfold sgnT; rw [h]; rfl
  have := rd_num (d := d) (by rw [hs]; decide) h rfl
  have e1 : v % 4294967296 = v := Int.emod_eq_of_lt h0 (by omega)
  have e2 : decide (8 < d) = false := by simp; omega
  have e3 : decide (v < 0) = false := by simp; omega
  have e4 : decide (4294967295 < v) = false := by simp; omega
  simp only [e1, e2, e3, e4, Bool.or_false] at this
  exact rd_op (by rw [hs]; decide) this
theorem opnd_un (hs : unB (sgnT L i) = true) (h : Rd L .opnd d (i + 1) (some (v, j, noF))) : Rd L .opnd d i (some (unT (sgnT L i) v, j, noF)) := rd_un hs h
/-- Two operands with a sign between them. -/
theorem lvl_bin (h : Rd L .opnd d i (some (x, j, noF))) (hr : rowN k (sgnT L j) = some f) (hk : k < 10) (hm : ∀ m, m < k → rowN m (sgnT L j) = none) (h2 : Rd L .opnd d (j + 1) (some (y, j2, noF)))
    (he : ∀ q, q < 10 → rowN q (sgnT L j2) = none) (hd : divB f y = false) : Rd L (.lvl 10) d i (some (appT f x y, j2, noF)) := by
  have e := rl_step (x := x) hr hm (lvl_opnd k h2 (fun q hq => he q (by omega))) 10 hk (some (appT f x y, j2, noF)) (by
    show RL L 10 (appT f x (if divB f y = true then 1 else y)) d j2 _
    rw [hd]
    exact rl_end 10 he)
  have := rd_lvls h 10 _ e
  simpa [addF, orF, noF, hd] using this
theorem whole_bin (h : Rd L .opnd d i (some (x, j, noF))) (hr : rowN k (sgnT L j) = some f) (hk : k < 10) (hm : ∀ m, m < k → rowN m (sgnT L j) = none) (h2 : Rd L .opnd d (j + 1) (some (y, j2, noF)))
    (he : endS (sgnT L j2)) (hd : divB f y = false) : Rd L .whole d i (some (appT f x y, j2, noF)) :=
  rd_whole (lvl_bin h hr hk hm h2 (end_row he) hd) (end_q he)
theorem whole_if {z : Int} {j3 : Nat} (h : Rd L (.lvl 10) d i (some (x, j, noF))) (hq : sgnT L j = ⟨#[63]⟩) (h2 : Rd L .whole d (j + 1) (some (y, j2, noF))) (hc : sgnT L j2 = ⟨#[58]⟩)
    (h3 : Rd L .whole d (j2 + 1) (some (z, j3, noF))) : Rd L .whole d i (some (if x = 0 then z else y, j3, noF)) := by
  have := rd_if h hq h2 hc h3
  simpa [orF, noF] using this
end
/-- The signs between operands: their rows, their numbers. -/
def rowsK : List (ByteArray × Nat × Nat) := [(⟨#[42]⟩, 0, 1), (⟨#[47]⟩, 0, 2), (⟨#[37]⟩, 0, 3), (⟨#[43]⟩, 1, 4), (⟨#[45]⟩, 1, 5), (⟨#[60, 60]⟩, 2, 6), (⟨#[62, 62]⟩, 2, 7), (⟨#[60]⟩, 3, 8), (⟨#[62]⟩, 3, 9), (⟨#[60, 61]⟩, 3, 10), (⟨#[62, 61]⟩, 3, 11), (⟨#[61, 61]⟩, 4, 12), (⟨#[33, 61]⟩, 4, 13), (⟨#[38]⟩, 5, 14), (⟨#[94]⟩, 6, 15), (⟨#[124]⟩, 7, 16), (⟨#[38, 38]⟩, 8, 17), (⟨#[124, 124]⟩, 9, 18)]
theorem rows_are : ∀ e ∈ rowsK, rowN e.2.1 e.1 = some e.2.2 ∧ e.2.1 < 10 ∧ (∀ m, m < 10 → m ≠ e.2.1 → rowN m e.1 = none) ∧ e.1 ≠ ⟨#[63]⟩ := by decide

/-- The bounds of an expression's text and tokens. -/
def xlen : Nat → Nat
  | 0 => 10
  | k + 1 => 2 * xlen k + 20
def xcnt : Nat → Nat
  | 0 => 1
  | k + 1 => 2 * xcnt k + 7
theorem xlen_pos : ∀ k, 10 ≤ xlen k := by
  intro k; cases k <;> simp [xlen]
theorem xcnt_pos : ∀ k, 1 ≤ xcnt k := by
  intro k; cases k <;> simp [xcnt]
/-- The text a is an expression of depth k at most, with the value x. -/
structure XG (k : Nat) (a : List UInt8) (x : Int) : Prop where
  lo : 0 ≤ x
  hi : x ≤ 4294967295
  len : a.length ≤ xlen k
  ex : ∃ T : List (Int × List UInt8 × Int), T.length ≤ xcnt k ∧ (∀ r, (r = [] ∨ ∃ r', r = 41 :: r') → Lx a T r) ∧
    ∀ (L : List (Int × ByteArray × Int)) (i d : Nat), d + k ≤ 8 → AtT L i (T.map cvT) → endS (sgnT L (i + T.length)) → Rd L .whole d i (some (x, i + T.length, noF))
/-- The same in brackets, as an operand. -/
structure XO (k : Nat) (a : List UInt8) (x : Int) : Prop where
  lo : 0 ≤ x
  hi : x ≤ 4294967295
  len : a.length ≤ xlen k + 2
  ex : ∃ T : List (Int × List UInt8 × Int), T.length ≤ xcnt k + 2 ∧ (∀ r, Lx a T r) ∧
    ∀ (L : List (Int × ByteArray × Int)) (i d : Nat), d + k + 1 ≤ 8 → AtT L i (T.map cvT) → Rd L .opnd d i (some (x, i + T.length, noF))
theorem XG.par {k : Nat} {a : List UInt8} {x : Int} (h : XG k a x) : XO k (40 :: (a ++ [41])) x := by
  obtain ⟨h1, h2, h3, T, hc, hT, hR⟩ := h
  refine ⟨h1, h2, by simp; omega, [(4, [40], 0)] ++ (T ++ [(4, [41], 0)]), by simp; omega, fun r => ?_, fun L i d hd hA => ?_⟩
  · exact Lx.append (x := [40]) (Lx.lpar _) (Lx.append (hT _ (.inr ⟨_, rfl⟩)) (Lx.rpar r))
  · simp only [List.map_append] at hA
    have e0 := hA.left.sgn (s := ⟨#[40]⟩)
    have hB := hA.right
    have hC := hB.right.sgn (s := ⟨#[41]⟩)
    simp only [List.length_map, List.length_cons, List.length_nil, Nat.zero_add] at hB hC
    have := opnd_par e0 (hR L (i + 1) (d + 1) (by omega) hB.left (by rw [hC]; exact .inr (.inl rfl))) hC
    simpa [Nat.add_assoc, Nat.add_comm, Nat.add_left_comm] using this
theorem XG.num (k n : Nat) (h : n ≤ 4294967295) : XG k (basedT 10 false n) n := by
  refine ⟨by omega, by omega, ?_, [(2, [], (n : Int))], by simpa using xcnt_pos k, fun r hr => ?_, fun L i d hd hA he => ?_⟩
  · have := basedT_len10 n h
    have := xlen_pos k
    omega
  · refine Lx.dec h ?_
    rcases hr with rfl | ⟨r', rfl⟩
    · exact .inl rfl
    · exact .inr (by rfl)
  · exact whole_opnd (opnd_num hA.get (by omega) (by omega) (by omega)) he
theorem XO.un {k : Nat} {a : List UInt8} {x : Int} {c : UInt8} (hc : c = 45 ∨ c = 126 ∨ c = 33) (h : XG k a x) : XG (k + 1) (c :: (40 :: (a ++ [41]))) (unT ⟨#[c]⟩ x) := by
  obtain ⟨h1, h2, h3, T, hcn, hT, hR⟩ := h.par
  have hu : unB ⟨#[c]⟩ = true := by rcases hc with rfl | rfl | rfl <;> decide
  have hb : 0 ≤ unT ⟨#[c]⟩ x ∧ unT ⟨#[c]⟩ x ≤ 4294967295 := by
    unfold unT bitT
    split
    · omega
    · split
      · omega
      · split <;> omega
  refine ⟨hb.1, hb.2, by simp only [xlen, List.length_cons] at h3 ⊢; omega, [(4, [c], 0)] ++ T, by simp only [xcnt, List.length_append, List.length_cons, List.length_nil]; omega, fun r _ => ?_, fun L i d hd hA he => ?_⟩
  · refine Lx.append (x := [c]) ?_ (hT r)
    rcases hc with rfl | rfl | rfl
    · exact Lx.minus _
    · exact Lx.compl _
    · exact Lx.bang _
  · simp only [List.map_append] at hA
    have e0 := hA.left.sgn (s := ⟨#[c]⟩)
    have hB := hA.right
    simp only [List.length_map, List.length_cons, List.length_nil, Nat.zero_add] at hB
    have := opnd_un (by rw [e0]; exact hu) (hR L (i + 1) d (by omega) hB)
    rw [e0] at this
    have e1 : i + ([(4, [c], 0)] ++ T : List (Int × List UInt8 × Int)).length = i + 1 + T.length := by simp; omega
    rw [e1] at he ⊢
    exact whole_opnd this he
/-- Two operands and a sign. -/
theorem XG.bin {k row f : Nat} {a b m s : List UInt8} {x y : Int} (ha : XG k a x) (hb : XG k b y) (hs : (⟨s.toArray⟩, row, f) ∈ rowsK) (hm : ∀ r, Lx m [(4, s, 0)] (40 :: r)) (hml : m.length ≤ 4) (hd : divB f y = false)
    (h0 : 0 ≤ appT f x y) (h1 : appT f x y ≤ 4294967295) : XG (k + 1) (40 :: (a ++ [41]) ++ (m ++ (40 :: (b ++ [41])))) (appT f x y) := by
  obtain ⟨a1, a2, a3, T, ac, aT, aR⟩ := ha.par
  obtain ⟨b1, b2, b3, U, bc, bT, bR⟩ := hb.par
  obtain ⟨r1, r2, r3, _⟩ := rows_are _ hs
  simp only at r1 r2 r3
  refine ⟨h0, h1, by simp only [xlen, List.length_append] at a3 b3 ⊢; omega, T ++ ([(4, s, 0)] ++ U), by simp only [xcnt, List.length_append, List.length_cons, List.length_nil] at ac bc ⊢; omega, fun r _ => ?_, fun L i d hd' hA he => ?_⟩
  · exact Lx.append (aT _) (Lx.append (hm _) (bT r))
  · simp only [List.map_append] at hA
    have hB := hA.right
    have e0 := hB.left.sgn (s := ⟨s.toArray⟩)
    have hC := hB.right
    simp only [List.length_map, List.length_cons, List.length_nil, Nat.zero_add] at e0 hC
    have hx := aR L i d (by omega) hA.left
    have hy := bR L (i + T.length + 1) d (by omega) hC
    have e1 : i + (T ++ ([(4, s, 0)] ++ U)).length = i + T.length + 1 + U.length := by simp; omega
    rw [e1] at he ⊢
    exact whole_bin hx (by rw [e0]; exact r1) r2 (fun q hq => by rw [e0]; exact r3 q (by omega) (by omega)) hy he hd
/-- An operand, a sign and a number. -/
theorem XG.binN {k row f n : Nat} {a m s : List UInt8} {x : Int} (ha : XG k a x) (hs : (⟨s.toArray⟩, row, f) ∈ rowsK) (hm : ∀ r, Lx m [(4, s, 0)] (32 :: r)) (hml : m.length ≤ 4) (hn : n < 10) (hd : divB f n = false)
    (h0 : 0 ≤ appT f x n) (h1 : appT f x n ≤ 4294967295) : XG (k + 1) (40 :: (a ++ [41]) ++ (m ++ (32 :: basedT 10 false n))) (appT f x n) := by
  obtain ⟨a1, a2, a3, T, ac, aT, aR⟩ := ha.par
  obtain ⟨r1, r2, r3, _⟩ := rows_are _ hs
  simp only at r1 r2 r3
  have hl : (basedT 10 false n).length = 1 := by rw [basedT_small 10 false n hn]; rfl
  refine ⟨h0, h1, by simp only [xlen, List.length_append, List.length_cons, hl] at a3 ⊢; omega, T ++ ([(4, s, 0)] ++ ([] ++ [(2, [], (n : Int))])), by simp only [xcnt, List.length_append, List.length_cons, List.length_nil] at ac ⊢; omega, fun r hr => ?_, fun L i d hd' hA he => ?_⟩
  · refine Lx.append (aT _) (Lx.append (hm _) (Lx.append (x := [32]) (Lx.sp _) (Lx.dec (by omega) ?_)))
    rcases hr with rfl | ⟨r', rfl⟩
    · exact .inl rfl
    · exact .inr (by rfl)
  · simp only [List.map_append, List.nil_append, List.map_nil] at hA he ⊢
    have hB := hA.right
    have e0 := hB.left.sgn (s := ⟨s.toArray⟩)
    have hC := hB.right
    simp only [List.length_map, List.length_cons, List.length_nil, Nat.zero_add] at e0 hC
    have hx := aR L i d (by omega) hA.left
    have hy := opnd_num (d := d) (b := ⟨([] : List UInt8).toArray⟩) (v := (n : Int)) hC.get (by omega) (by omega) (by omega)
    have e1 : i + (T ++ ([(4, s, 0)] ++ [(2, [], (n : Int))])).length = i + T.length + 1 + 1 := by simp; omega
    rw [e1] at he ⊢
    exact whole_bin hx (by rw [e0]; exact r1) r2 (fun q hq => by rw [e0]; exact r3 q (by omega) (by omega)) hy he hd
/-- A choice. -/
theorem XG.cond {k : Nat} {a b : List UInt8} {x y : Int} (ha : XG k a x) (hb : XG k b y) : XG (k + 1) (40 :: (a ++ [41]) ++ ([32, 63, 32] ++ (40 :: (b ++ [41]) ++ ([32, 58, 32] ++ basedT 10 false 5)))) (if x = 0 then 5 else y) := by
  obtain ⟨a1, a2, a3, T, ac, aT, aR⟩ := ha.par
  obtain ⟨b1, b2, b3, U, bc, bT, bR⟩ := hb.par
  have hl : (basedT 10 false 5).length = 1 := by rw [basedT_small 10 false 5 (by omega)]; rfl
  refine ⟨by split <;> omega, by split <;> omega, by simp only [xlen, List.length_append, List.length_cons, List.length_nil, hl] at a3 b3 ⊢; omega,
    T ++ ([(4, [63], 0)] ++ (U ++ ([(4, [58], 0)] ++ [(2, [], ((5 : Nat) : Int))]))), by simp only [xcnt, List.length_append, List.length_cons, List.length_nil] at ac bc ⊢; omega, fun r hr => ?_, fun L i d hd' hA he => ?_⟩
  · have sgnLx : ∀ (c : UInt8) (r : List UInt8), (∀ r, Lx [c] [(4, [c], 0)] r) → Lx [32, c, 32] [(4, [c], 0)] r := by
      intro c r hc
      exact Lx.append (x := [32]) (T := []) (y := [c, 32]) (Lx.sp _) (Lx.append (x := [c]) (U := []) (hc _) (Lx.sp r))
    refine Lx.append (aT _) (Lx.append (sgnLx 63 _ Lx.quest) (Lx.append (bT _) (Lx.append (sgnLx 58 _ Lx.colon) (Lx.dec (by omega) ?_))))
    rcases hr with rfl | ⟨r', rfl⟩
    · exact .inl rfl
    · exact .inr (by rfl)
  · simp only [List.map_append] at hA
    have hB := hA.right
    have e0 := hB.left.sgn (s := ⟨#[63]⟩)
    have hC := hB.right
    have hD := hC.right
    have e2 := hD.left.sgn (s := ⟨#[58]⟩)
    have hE := hD.right
    simp only [List.length_map, List.length_cons, List.length_nil, Nat.zero_add] at e0 hC e2 hE
    have hx := aR L i d (by omega) hA.left
    have hy := bR L (i + T.length + 1) d (by omega) hC.left
    have hz := opnd_num (d := d) (b := ⟨([] : List UInt8).toArray⟩) (v := ((5 : Nat) : Int)) hE.get (by omega) (by omega) (by omega)
    have e1 : i + (T ++ ([(4, [63], 0)] ++ (U ++ ([(4, [58], 0)] ++ [(2, [], ((5 : Nat) : Int))])))).length = i + T.length + 1 + U.length + 1 + 1 := by simp; omega
    rw [e1] at he ⊢
    exact whole_if (lvl_opnd 10 hx (by rw [e0]; decide)) e0 (whole_opnd hy (by rw [e2]; exact .inr (.inr rfl))) e2 (whole_opnd hz he)
end Go.Proofs.Ytofhcgbihonckaa
