/- Plain laws: expressions without brackets around everything: chains of signs. | Plain laws: sums, differences, shifts, quotients modulo 2^32. | Plain laws: the texts of ExpressionWraps (printed by gwr.py). | The law ExpressionWraps: the walk (printed by gwr.py). -/
import Derived.Test.YtojcefkigcdkiaaDoorZ13
import Derived.Test.YtojcefkigcdkiaaDoorZ18

set_option linter.unusedVariables false
set_option linter.unusedSimpArgs false
set_option linter.unusedSectionVars false

namespace Go.Proofs.YtojcefkigcdkiaaDoor
open Go.RowKit

/-- Nothing that goes on with a word. -/
def NoW (r : List UInt8) : Prop := r = [] ∨ wordB (r.headD 0).toNat = false
/-- A sign as a piece of a text. -/
structure Pc (m s : List UInt8) : Prop where
  lex : ∀ r, Lx m [(4, s, 0)] r
  head : ∀ r, NoW (m ++ r)
  len : m.length ≤ 10
theorem Pc.head2 {m s : List UInt8} (h : Pc m s) (x r : List UInt8) : NoW (m ++ x ++ r) := by rw [List.append_assoc]; exact h.head _
theorem sign_head : ∀ s ∈ signsX, ∀ r, NoW (s ++ r) := by
  intro s hs r
  refine .inr ?_
  simp only [signsX, List.mem_cons, List.not_mem_nil, or_false] at hs
  rcases hs with rfl | rfl | rfl | rfl | rfl | rfl | rfl | rfl | rfl | rfl | rfl | rfl | rfl | rfl | rfl | rfl | rfl | rfl <;> rfl
theorem sign_len : ∀ s ∈ signsX, s.length ≤ 2 := by decide
theorem Pc.sp (s : List UInt8) (hs : s ∈ signsX) : Pc (32 :: (s ++ [32])) s :=
  ⟨fun r => Lx.append (x := [32]) (T := []) (Lx.sp _) (Lx.append (U := []) (Lx.sign r s hs) (Lx.sp r)), fun _ => .inr rfl, by have := sign_len s hs; simp; omega⟩
theorem Pc.af (s : List UInt8) (hs : s ∈ signsX) : Pc (s ++ [32]) s :=
  ⟨fun r => Lx.append (U := []) (Lx.sign r s hs) (Lx.sp r), fun r => by rw [List.append_assoc]; exact sign_head s hs _, by have := sign_len s hs; simp; omega⟩
/-- An operand: its text, its value; its brackets, its tokens. -/
def OX (D N : Nat) (a : List UInt8) (v : Int) : Prop :=
  ∃ T : List (Int × List UInt8 × Int), T.length ≤ N ∧ (∀ r, NoW r → Lx a T r) ∧
    ∀ (L : List (Int × ByteArray × Int)) (i d : Nat), d + D ≤ 8 → AtT L i (T.map cvT) → Rd L .opnd d i (some (v, i + T.length, noF))
/-- A whole expression: its text, its value. -/
def WX (D N : Nat) (a : List UInt8) (v : Int) : Prop :=
  ∃ T : List (Int × List UInt8 × Int), T.length ≤ N ∧ (∀ r, (r = [] ∨ ∃ r', r = 41 :: r') → Lx a T r) ∧
    ∀ (L : List (Int × ByteArray × Int)) (i d : Nat), d + D ≤ 8 → AtT L i (T.map cvT) → endS (sgnT L (i + T.length)) → Rd L .whole d i (some (v, i + T.length, noF))
theorem noW_end {r : List UInt8} (h : r = [] ∨ ∃ r', r = 41 :: r') : NoW r := by
  rcases h with rfl | ⟨r', rfl⟩
  · exact .inl rfl
  · exact .inr rfl
theorem OX.num (D n : Nat) (h : n ≤ 4294967295) : OX D 1 (fmtT n) n :=
  ⟨[(2, [], (n : Int))], by simp, fun _ hr => Lx.fmt h hr, fun _ _ _ hd hA => opnd_num (b := ⟨([] : List UInt8).toArray⟩) (v := (n : Int)) hA.get (by omega) (by omega) (by omega)⟩
theorem OX.minus {D n : Nat} (h : n ≤ 4294967295) : OX D 2 (45 :: fmtT n) (unT ⟨#[45]⟩ n) :=
  ⟨[(4, [45], 0)] ++ [(2, [], (n : Int))], by simp, fun _ hr => Lx.append (x := [45]) (Lx.minus _) (Lx.fmt h hr), fun L i d hd hA => by
    simp only [List.map_append] at hA
    have e0 := hA.left.sgn (s := ⟨#[45]⟩)
    have hB := hA.right
    have h2 := opnd_num (d := d) (b := ⟨([] : List UInt8).toArray⟩) (v := (n : Int)) hB.get (by omega) (by omega) (by omega)
    have h3 := opnd_un (by rw [e0]; decide) h2
    rw [e0] at h3
    exact h3⟩
theorem OX.compl {D n : Nat} (h : n ≤ 4294967295) : OX D 2 (126 :: fmtT n) (unT ⟨#[126]⟩ n) :=
  ⟨[(4, [126], 0)] ++ [(2, [], (n : Int))], by simp, fun _ hr => Lx.append (x := [126]) (Lx.compl _) (Lx.fmt h hr), fun L i d hd hA => by
    simp only [List.map_append] at hA
    have e0 := hA.left.sgn (s := ⟨#[126]⟩)
    have hB := hA.right
    have h2 := opnd_num (d := d) (b := ⟨([] : List UInt8).toArray⟩) (v := (n : Int)) hB.get (by omega) (by omega) (by omega)
    have h3 := opnd_un (by rw [e0]; decide) h2
    rw [e0] at h3
    exact h3⟩
theorem WX.par {D N : Nat} {a : List UInt8} {v : Int} (h : WX D N a v) : OX (D + 1) (N + 2) (40 :: (a ++ [41])) v := by
  obtain ⟨T, hc, hT, hR⟩ := h
  refine ⟨[(4, [40], 0)] ++ (T ++ [(4, [41], 0)]), by simp; omega, fun r _ => ?_, fun L i d hd hA => ?_⟩
  · exact Lx.append (x := [40]) (Lx.lpar _) (Lx.append (hT _ (.inr ⟨_, rfl⟩)) (Lx.rpar r))
  · simp only [List.map_append] at hA
    have e0 := hA.left.sgn (s := ⟨#[40]⟩)
    have hB := hA.right
    have hC := hB.right.sgn (s := ⟨#[41]⟩)
    simp only [List.length_map, List.length_cons, List.length_nil, Nat.zero_add] at hB hC
    have := opnd_par e0 (hR L (i + 1) (d + 1) (by omega) hB.left (by rw [hC]; exact .inr (.inl rfl))) hC
    simpa [Nat.add_assoc, Nat.add_comm, Nat.add_left_comm] using this
theorem OX.bang {D N : Nat} {a : List UInt8} {v : Int} (h : WX D N a v) : OX (D + 1) (N + 3) (33 :: (40 :: (a ++ [41]))) (unT ⟨#[33]⟩ v) := by
  obtain ⟨T, hc, hT, hR⟩ := h.par
  refine ⟨[(4, [33], 0)] ++ T, by simp; omega, fun r hr => Lx.append (x := [33]) (Lx.bang _) (hT r hr), fun L i d hd hA => ?_⟩
  simp only [List.map_append] at hA
  have e0 := hA.left.sgn (s := ⟨#[33]⟩)
  have hB := hA.right
  simp only [List.length_map, List.length_cons, List.length_nil, Nat.zero_add] at hB
  have h3 := opnd_un (by rw [e0]; decide) (hR L (i + 1) d hd hB)
  rw [e0] at h3
  have e1 : i + ([(4, [33], 0)] ++ T : List (Int × List UInt8 × Int)).length = i + 1 + T.length := by simp; omega
  rw [e1]
  exact h3
theorem OX.lift {D E N : Nat} {a : List UInt8} {v : Int} (h : OX D N a v) (hE : D ≤ E) : OX E N a v := by
  obtain ⟨T, hc, hT, hR⟩ := h
  exact ⟨T, hc, hT, fun L i d hd hA => hR L i d (by omega) hA⟩
theorem OX.whole {D N : Nat} {a : List UInt8} {v : Int} (h : OX D N a v) : WX D N a v := by
  obtain ⟨T, hc, hT, hR⟩ := h
  exact ⟨T, hc, fun r hr => hT r (noW_end hr), fun L i d hd hA he => whole_opnd (hR L i d hd hA) he⟩
theorem WX.comp {D N : Nat} {a : List UInt8} {v : Int} (h : WX D N a v) (hD : D ≤ 8) (hN : N < 6000) (hl : a.length ≤ 16000) : CompR a v 0 := by
  obtain ⟨T, hc, hT, hR⟩ := h
  exact comp_all (hT [] (.inl rfl)) hl (by omega) (fun L hA he => hR L 0 0 (by omega) hA he)
section
variable {L : List (Int × ByteArray × Int)} {d i j j2 j3 rp rq fp fq : Nat} {x y z : Int}
/-- A sign and what its level reads behind it. -/
theorem lvl_more (h : Rd L .opnd d i (some (x, j, noF))) (hr : rowN rp (sgnT L j) = some fp) (hk : rp < 10) (hm : ∀ m, m < rp → rowN m (sgnT L j) = none) (h2 : Rd L (.lvl rp) d (j + 1) (some (y, j2, noF)))
    (hd : divB fp y = false) (K : Nat) (hK : rp < K) (h3 : RL L K (appT fp x y) d j2 (some (z, j3, noF))) : Rd L (.lvl K) d i (some (z, j3, noF)) := by
  have e := rl_step (x := x) hr hm h2 K hK (some (z, j3, noF)) (by
    show RL L K (appT fp x (if divB fp y = true then 1 else y)) d j2 _
    rw [hd]; exact h3)
  have := rd_lvls h K _ e
  simpa [addF, orF, noF, hd] using this
theorem rl_more (hr : rowN rq (sgnT L j) = some fq) (hm : ∀ m, m < rq → rowN m (sgnT L j) = none) (h2 : Rd L (.lvl rq) d (j + 1) (some (y, j2, noF)))
    (hd : divB fq y = false) (K : Nat) (hK : rq < K) (h3 : RL L K (appT fq x y) d j2 (some (z, j3, noF))) : RL L K x d j (some (z, j3, noF)) := by
  have e := rl_step (x := x) hr hm h2 K hK (some (z, j3, noF)) (by
    show RL L K (appT fq x (if divB fq y = true then 1 else y)) d j2 _
    rw [hd]; exact h3)
  simpa [addF, orF, noF, hd] using e
end
theorem row_apart {s : List UInt8} {row f : Nat} (hs : (⟨s.toArray⟩, row, f) ∈ rowsK) : rowN row ⟨s.toArray⟩ = some f ∧ row < 10 ∧ (∀ m, m < 10 → m ≠ row → rowN m ⟨s.toArray⟩ = none) := by
  have := rows_are _ hs
  exact ⟨this.1, this.2.1, this.2.2.1⟩
section
variable {D N1 N2 N3 N4 rp rq rr fp fq fr : Nat} {a b c e m n o s t u : List UInt8} {x y z v : Int}
theorem WX.bin (ha : OX D N1 a x) (hm : Pc m s) (hs : (⟨s.toArray⟩, rp, fp) ∈ rowsK) (hb : OX D N2 b y) (hd : divB fp y = false) : WX D (N1 + N2 + 1) (a ++ (m ++ b)) (appT fp x y) := by
  obtain ⟨T, ac, aT, aR⟩ := ha
  obtain ⟨U, bc, bT, bR⟩ := hb
  obtain ⟨r1, r2, r3⟩ := row_apart hs
  refine ⟨T ++ ([(4, s, 0)] ++ U), by simp; omega, fun r hr => Lx.append (aT _ (hm.head2 _ _)) (Lx.append (hm.lex _) (bT r (noW_end hr))), fun L i d hd' hA he => ?_⟩
  simp only [List.map_append] at hA
  have hB := hA.right
  have e0 := hB.left.sgn (s := ⟨s.toArray⟩)
  have hC := hB.right
  simp only [List.length_map, List.length_cons, List.length_nil, Nat.zero_add] at e0 hC
  have hx := aR L i d hd' hA.left
  have hy := bR L (i + T.length + 1) d hd' hC
  have e1 : i + (T ++ ([(4, s, 0)] ++ U)).length = i + T.length + 1 + U.length := by simp; omega
  rw [e1] at he ⊢
  exact whole_bin hx (by rw [e0]; exact r1) r2 (fun q hq => by rw [e0]; exact r3 q (by omega) (by omega)) hy he hd
/-- Two signs, the left one not weaker. -/
theorem WX.left (ha : OX D N1 a x) (hm : Pc m s) (hs : (⟨s.toArray⟩, rp, fp) ∈ rowsK) (hb : OX D N2 b y) (hn : Pc n t) (ht : (⟨t.toArray⟩, rq, fq) ∈ rowsK) (hc : OX D N3 c z) (hle : rp ≤ rq) (hd : divB fp y = false) (hd2 : divB fq z = false) :
    WX D (N1 + N2 + N3 + 2) (a ++ (m ++ (b ++ (n ++ c)))) (appT fq (appT fp x y) z) := by
  obtain ⟨T, ac, aT, aR⟩ := ha
  obtain ⟨U, bc, bT, bR⟩ := hb
  obtain ⟨V, cc, cT, cR⟩ := hc
  obtain ⟨p1, p2, p3⟩ := row_apart hs
  obtain ⟨q1, q2, q3⟩ := row_apart ht
  refine ⟨T ++ ([(4, s, 0)] ++ (U ++ ([(4, t, 0)] ++ V))), by simp; omega, fun r hr => Lx.append (aT _ (hm.head2 _ _)) (Lx.append (hm.lex _) (Lx.append (bT _ (hn.head2 _ _)) (Lx.append (hn.lex _) (cT r (noW_end hr))))), fun L i d hd' hA he => ?_⟩
  simp only [List.map_append] at hA
  have hB := hA.right
  have e0 := hB.left.sgn (s := ⟨s.toArray⟩)
  have hC := hB.right
  have hD := hC.right
  have e2 := hD.left.sgn (s := ⟨t.toArray⟩)
  have hE := hD.right
  simp only [List.length_map, List.length_cons, List.length_nil, Nat.zero_add] at e0 hC e2 hE
  have hx := aR L i d hd' hA.left
  have hy := bR L (i + T.length + 1) d hd' hC.left
  have hz := cR L (i + T.length + 1 + U.length + 1) d hd' hE
  have e1 : i + (T ++ ([(4, s, 0)] ++ (U ++ ([(4, t, 0)] ++ V)))).length = i + T.length + 1 + U.length + 1 + V.length := by simp; omega
  rw [e1] at he ⊢
  refine rd_whole (lvl_more hx (by rw [e0]; exact p1) p2 (fun q hq => by rw [e0]; exact p3 q (by omega) (by omega)) (lvl_opnd rp hy (fun q hq => by rw [e2]; exact q3 q (by omega) (by omega))) hd 10 p2 ?_) (end_q he)
  exact rl_more (by rw [e2]; exact q1) (fun q hq => by rw [e2]; exact q3 q (by omega) (by omega)) (lvl_opnd rq hz (fun q hq => end_row he q (by omega))) hd2 10 q2 (rl_end 10 (end_row he))
/-- Two signs, the right one stronger. -/
theorem WX.right (ha : OX D N1 a x) (hm : Pc m s) (hs : (⟨s.toArray⟩, rp, fp) ∈ rowsK) (hb : OX D N2 b y) (hn : Pc n t) (ht : (⟨t.toArray⟩, rq, fq) ∈ rowsK) (hc : OX D N3 c z) (hlt : rq < rp) (hd : divB fp (appT fq y z) = false) (hd2 : divB fq z = false) :
    WX D (N1 + N2 + N3 + 2) (a ++ (m ++ (b ++ (n ++ c)))) (appT fp x (appT fq y z)) := by
  obtain ⟨T, ac, aT, aR⟩ := ha
  obtain ⟨U, bc, bT, bR⟩ := hb
  obtain ⟨V, cc, cT, cR⟩ := hc
  obtain ⟨p1, p2, p3⟩ := row_apart hs
  obtain ⟨q1, q2, q3⟩ := row_apart ht
  refine ⟨T ++ ([(4, s, 0)] ++ (U ++ ([(4, t, 0)] ++ V))), by simp; omega, fun r hr => Lx.append (aT _ (hm.head2 _ _)) (Lx.append (hm.lex _) (Lx.append (bT _ (hn.head2 _ _)) (Lx.append (hn.lex _) (cT r (noW_end hr))))), fun L i d hd' hA he => ?_⟩
  simp only [List.map_append] at hA
  have hB := hA.right
  have e0 := hB.left.sgn (s := ⟨s.toArray⟩)
  have hC := hB.right
  have hD := hC.right
  have e2 := hD.left.sgn (s := ⟨t.toArray⟩)
  have hE := hD.right
  simp only [List.length_map, List.length_cons, List.length_nil, Nat.zero_add] at e0 hC e2 hE
  have hx := aR L i d hd' hA.left
  have hy := bR L (i + T.length + 1) d hd' hC.left
  have hz := cR L (i + T.length + 1 + U.length + 1) d hd' hE
  have e1 : i + (T ++ ([(4, s, 0)] ++ (U ++ ([(4, t, 0)] ++ V)))).length = i + T.length + 1 + U.length + 1 + V.length := by simp; omega
  rw [e1] at he ⊢
  have hin := lvl_more hy (by rw [e2]; exact q1) q2 (fun q hq => by rw [e2]; exact q3 q (by omega) (by omega)) (lvl_opnd rq hz (fun q hq => end_row he q (by omega))) hd2 rp hlt (rl_end rp (fun q hq => end_row he q (by omega)))
  exact rd_whole (lvl_more hx (by rw [e0]; exact p1) p2 (fun q hq => by rw [e0]; exact p3 q (by omega) (by omega)) hin hd 10 p2 (rl_end 10 (end_row he))) (end_q he)
/-- Three signs, the middle one the weakest. -/
theorem WX.mid (ha : OX D N1 a x) (hm : Pc m s) (hs : (⟨s.toArray⟩, rp, fp) ∈ rowsK) (hb : OX D N2 b y) (hn : Pc n t) (ht : (⟨t.toArray⟩, rq, fq) ∈ rowsK) (hc : OX D N3 c z) (ho : Pc o u) (hu : (⟨u.toArray⟩, rr, fr) ∈ rowsK) (hv : OX D N4 e v)
    (h1 : rp ≤ rq) (h2 : rr < rq) (hd : divB fp y = false) (hd2 : divB fq (appT fr z v) = false) (hd3 : divB fr v = false) :
    WX D (N1 + N2 + N3 + N4 + 3) (a ++ (m ++ (b ++ (n ++ (c ++ (o ++ e)))))) (appT fq (appT fp x y) (appT fr z v)) := by
  obtain ⟨T, ac, aT, aR⟩ := ha
  obtain ⟨U, bc, bT, bR⟩ := hb
  obtain ⟨V, cc, cT, cR⟩ := hc
  obtain ⟨X, vc, vT, vR⟩ := hv
  obtain ⟨p1, p2, p3⟩ := row_apart hs
  obtain ⟨q1, q2, q3⟩ := row_apart ht
  obtain ⟨u1, u2, u3⟩ := row_apart hu
  refine ⟨T ++ ([(4, s, 0)] ++ (U ++ ([(4, t, 0)] ++ (V ++ ([(4, u, 0)] ++ X))))), by simp; omega, fun r hr => Lx.append (aT _ (hm.head2 _ _)) (Lx.append (hm.lex _) (Lx.append (bT _ (hn.head2 _ _)) (Lx.append (hn.lex _) (Lx.append (cT _ (ho.head2 _ _)) (Lx.append (ho.lex _) (vT r (noW_end hr))))))), fun L i d hd' hA he => ?_⟩
  simp only [List.map_append] at hA
  have hB := hA.right
  have e0 := hB.left.sgn (s := ⟨s.toArray⟩)
  have hC := hB.right
  have hD := hC.right
  have e2 := hD.left.sgn (s := ⟨t.toArray⟩)
  have hE := hD.right
  have hF := hE.right
  have e3 := hF.left.sgn (s := ⟨u.toArray⟩)
  have hG := hF.right
  simp only [List.length_map, List.length_cons, List.length_nil, Nat.zero_add] at e0 hC e2 hE e3 hG
  have hx := aR L i d hd' hA.left
  have hy := bR L (i + T.length + 1) d hd' hC.left
  have hz := cR L (i + T.length + 1 + U.length + 1) d hd' hE.left
  have hw := vR L (i + T.length + 1 + U.length + 1 + V.length + 1) d hd' hG
  have e1 : i + (T ++ ([(4, s, 0)] ++ (U ++ ([(4, t, 0)] ++ (V ++ ([(4, u, 0)] ++ X)))))).length = i + T.length + 1 + U.length + 1 + V.length + 1 + X.length := by simp; omega
  rw [e1] at he ⊢
  have hin := lvl_more hz (by rw [e3]; exact u1) u2 (fun q hq => by rw [e3]; exact u3 q (by omega) (by omega)) (lvl_opnd rr hw (fun q hq => end_row he q (by omega))) hd3 rq h2 (rl_end rq (fun q hq => end_row he q (by omega)))
  refine rd_whole (lvl_more hx (by rw [e0]; exact p1) p2 (fun q hq => by rw [e0]; exact p3 q (by omega) (by omega)) (lvl_opnd rp hy (fun q hq => by rw [e2]; exact q3 q (by omega) (by omega))) hd 10 p2 ?_) (end_q he)
  exact rl_more (by rw [e2]; exact q1) (fun q hq => by rw [e2]; exact q3 q (by omega) (by omega)) hin hd2 10 q2 (rl_end 10 (end_row he))
end
end Go.Proofs.YtojcefkigcdkiaaDoor

namespace Go.Proofs.YtojcefkigcdkiaaDoor
open Go.RowKit

theorem and_or_sum : ∀ (n a b : Nat), a < 2 ^ n → (a &&& b) + (a ||| b) = a + b := by
  intro n
  induction n with
  | zero =>
    intro a b h
    obtain rfl : a = 0 := by simp at h; exact h
    simp
  | succ n ih =>
    intro a b h
    have h1 := ih (a / 2) (b / 2) (by rw [Nat.pow_succ] at h; omega)
    have e1 : (a &&& b) / 2 = (a / 2) &&& (b / 2) := Nat.and_div_two
    have e2 : (a ||| b) / 2 = (a / 2) ||| (b / 2) := Nat.or_div_two
    have e3 : (a &&& b) % 2 = (a % 2) * (b % 2) := by
      have := Nat.and_mod_two_pow (a := a) (b := b) (n := 1)
      simp only [Nat.pow_one] at this
      rw [this]
      rcases Nat.mod_two_eq_zero_or_one a with h | h <;> rcases Nat.mod_two_eq_zero_or_one b with h' | h' <;> rw [h, h'] <;> rfl
    have e4 : (a ||| b) % 2 = (a % 2) + (b % 2) - (a % 2) * (b % 2) := by
      have := Nat.or_mod_two_pow (a := a) (b := b) (n := 1)
      simp only [Nat.pow_one] at this
      rw [this]
      rcases Nat.mod_two_eq_zero_or_one a with h | h <;> rcases Nat.mod_two_eq_zero_or_one b with h' | h' <;> rw [h, h'] <;> rfl
    rcases Nat.mod_two_eq_zero_or_one a with h2 | h2 <;> rcases Nat.mod_two_eq_zero_or_one b with h3 | h3 <;> rw [h2, h3] at e3 e4 <;> rw [← e1, ← e2] at h1 <;> omega
theorem bv_nat (k : Nat) (h : k ≤ 4294967295) : (BitVec.ofInt 32 (k : Int)).toNat = k := by
  rw [BitVec.toNat_ofInt]; norm_cast; omega
theorem app_and (a b : Nat) (ha : a ≤ 4294967295) (hb : b ≤ 4294967295) : appT 14 a b = ((a &&& b : Nat) : Int) := by
  show IntKind.u32.wrap ((((BitVec.ofInt 32 (a : Int)) &&& (BitVec.ofInt 32 (b : Int))).toNat : Nat) : Int) = _
  rw [BitVec.toNat_and, bv_nat a ha, bv_nat b hb, IntWalk.u32_in _ (by have : a &&& b ≤ a := Nat.and_le_left; omega)]
theorem app_or (a b : Nat) (ha : a ≤ 4294967295) (hb : b ≤ 4294967295) : appT 16 a b = ((a ||| b : Nat) : Int) := by
  show IntKind.u32.wrap ((((BitVec.ofInt 32 (a : Int)) ||| (BitVec.ofInt 32 (b : Int))).toNat : Nat) : Int) = _
  have hl : a ||| b < 2 ^ 32 := Nat.or_lt_two_pow (by omega) (by omega)
  rw [BitVec.toNat_or, bv_nat a ha, bv_nat b hb, IntWalk.u32_in _ (by omega)]
theorem app_xor (a b : Nat) (ha : a ≤ 4294967295) (hb : b ≤ 4294967295) : appT 15 a b = ((a ^^^ b : Nat) : Int) := by
  show IntKind.u32.wrap ((((BitVec.ofInt 32 (a : Int)) ^^^ (BitVec.ofInt 32 (b : Int))).toNat : Nat) : Int) = _
  have hl : a ^^^ b < 2 ^ 32 := Nat.xor_lt_two_pow (by omega) (by omega)
  rw [BitVec.toNat_xor, bv_nat a ha, bv_nat b hb, IntWalk.u32_in _ (by omega)]
section
variable (a b i k : Nat) (ha : a ≤ 4294967295) (hb : b ≤ 4294967295) (hi : i < 20) (hk : k < 20)
include ha
theorem wr1 : appT 5 (appT 4 a b) b = (a : Int) := by
  show (((a : Int) + b) % 4294967296 - b) % 4294967296 = a
  omega
theorem wr2 : unT ⟨#[45]⟩ a = appT 4 (unT ⟨#[126]⟩ a) 1 := by
  have e1 : unT ⟨#[45]⟩ (a : Int) = -(a : Int) % 4294967296 := by unfold unT; rw [if_pos rfl]
  have e2 : unT ⟨#[126]⟩ (a : Int) = 4294967295 - (a : Int) := by unfold unT; rw [if_neg (by decide), if_pos rfl]
  rw [e1, e2]
  show _ = ((4294967295 - (a : Int)) + 1) % 4294967296
  omega
omit ha in
include hi hk in
theorem wr_ik : appT 4 i k = ((i + k : Nat) : Int) := by
  show ((i : Int) + k) % 4294967296 = _
  omega
omit ha in
include hi hk in
theorem wr3 : appT 6 (appT 6 a i) k = appT 6 a (appT 4 i k) := by
  rw [wr_ik i k hi hk]
  show (a : Int) * 2 ^ min (i : Int).toNat 32 % 4294967296 * 2 ^ min (k : Int).toNat 32 % 4294967296 = (a : Int) * 2 ^ min ((i + k : Nat) : Int).toNat 32 % 4294967296
  simp only [Int.toNat_natCast]
  rw [Nat.min_eq_left (by omega : i ≤ 32), Nat.min_eq_left (by omega : k ≤ 32), Int.mul_emod ((a : Int) * 2 ^ i % 4294967296), Int.emod_emod_of_dvd _ (Int.dvd_refl _), ← Int.mul_emod, Int.mul_assoc, ← Int.pow_add]
  rcases Nat.lt_or_ge (i + k) 33 with h | h
  · rw [Nat.min_eq_left (by omega)]
  · rw [Nat.min_eq_right (by omega), show i + k = 32 + (i + k - 32) from by omega, Int.pow_add]
    have e : (2 : Int) ^ 32 = 4294967296 := by decide
    rw [e, ← Int.mul_assoc, Int.mul_right_comm, Int.mul_emod_left, Int.mul_emod_left]
include hi hk in
theorem wr4 : appT 7 (appT 7 a i) k = appT 7 a (appT 4 i k) := by
  rw [wr_ik i k hi hk]
  show (a : Int) / 2 ^ min (i : Int).toNat 32 / 2 ^ min (k : Int).toNat 32 = (a : Int) / 2 ^ min ((i + k : Nat) : Int).toNat 32
  simp only [Int.toNat_natCast]
  rw [Nat.min_eq_left (by omega : i ≤ 32), Nat.min_eq_left (by omega : k ≤ 32)]
  have e0 : ∀ n : Nat, (a : Int) / 2 ^ n = ((a / 2 ^ n : Nat) : Int) := fun n => by rw [Int.natCast_ediv, Int.natCast_pow]; rfl
  have e1 : ((a / 2 ^ i : Nat) : Int) / 2 ^ k = ((a / 2 ^ i / 2 ^ k : Nat) : Int) := by rw [Int.natCast_ediv (a / 2 ^ i), Int.natCast_pow]; rfl
  rw [e0, e1, e0, Nat.div_div_eq_div_mul, ← Nat.pow_add]
  rcases Nat.lt_or_ge (i + k) 33 with h | h
  · rw [Nat.min_eq_left (by omega)]
  · rw [Nat.min_eq_right (by omega), Nat.div_eq_of_lt (by omega : a < 2 ^ 32), Nat.div_eq_of_lt]
    have : 2 ^ 32 ≤ 2 ^ (i + k) := Nat.pow_le_pow_right (by omega) (by omega)
    omega
include hb in
theorem wr5 : 1 ≤ appT 16 b 1 ∧ appT 4 (appT 1 (appT 16 b 1) (appT 2 a (appT 16 b 1))) (appT 3 a (appT 16 b 1)) = (a : Int) := by
  have e := app_or b 1 hb (by omega)
  rw [show ((1 : Nat) : Int) = 1 from rfl] at e
  rw [e]
  have h1 : 1 ≤ b ||| 1 := Nat.right_le_or
  obtain ⟨d, hd⟩ : ∃ d, d = b ||| 1 := ⟨_, rfl⟩
  rw [← hd] at h1 ⊢
  refine ⟨by omega, ?_⟩
  show ((d : Int) * ((a : Int) / d) % 4294967296 + (a : Int) % d) % 4294967296 = a
  have h2 : ((a / d : Nat) : Int) = (a : Int) / d := Int.natCast_ediv a d
  have h3 : ((a % d : Nat) : Int) = (a : Int) % d := Int.natCast_emod a d
  rw [← h2, ← h3]
  have h4 := Nat.div_add_mod a d
  have h5 : ((d * (a / d) : Nat) : Int) = (d : Int) * ((a / d : Nat) : Int) := Int.natCast_mul ..
  rw [← h5]
  omega
include hb in
theorem wr6 : appT 15 (appT 15 a b) b = (a : Int) := by
  rw [app_xor a b ha hb, app_xor _ b (by have : a ^^^ b < 2 ^ 32 := Nat.xor_lt_two_pow (by omega) (by omega); omega) hb, Nat.xor_assoc, Nat.xor_self, Nat.xor_zero]
omit ha in
theorem wr7 : unT ⟨#[33]⟩ (appT 8 a b) = appT 11 a b := by
  have e1 : ∀ v, unT ⟨#[33]⟩ v = bitT (v == 0) := fun v => by unfold unT; rw [if_neg (by decide), if_neg (by decide)]
  rw [e1]
  show bitT (bitT (decide ((a : Int) < b)) == 0) = bitT (decide ((b : Int) ≤ a))
  by_cases h : (a : Int) < b
  · have h2 : ¬ (b : Int) ≤ a := by omega
    rw [decide_eq_true h, decide_eq_false h2]; rfl
  · have h2 : (b : Int) ≤ a := by omega
    rw [decide_eq_false h, decide_eq_true h2]; rfl
include hb in
theorem wr8 : appT 4 (appT 14 a b) (appT 16 a b) = appT 4 a b := by
  rw [app_and a b ha hb, app_or a b ha hb]
  show (((a &&& b : Nat) : Int) + ((a ||| b : Nat) : Int)) % 4294967296 = ((a : Int) + b) % 4294967296
  have := and_or_sum 32 a b (by omega)
  omega
end
end Go.Proofs.YtojcefkigcdkiaaDoor

namespace Go.Proofs.YtojcefkigcdkiaaDoor
open Go.RowKit

theorem fmt_one : fmtT 1 = [49] := rfl
/-- Two texts with one value. -/
def SameX (l r : List UInt8) : Prop := ∃ v, CompR l v 0 ∧ CompR r v 0
section
variable (a b i k : Nat) (ha : a ≤ 4294967295) (hb : b ≤ 4294967295) (hi : i < 20) (hk : k < 20)
include ha hb in
theorem wq1 : SameX (fmtT a ++ [32, 43, 32] ++ fmtT b ++ [32, 45, 32] ++ fmtT b) (fmtT a) := by
  have la := fmt_len a ha
  have lb := fmt_len b hb
  have h1 := (WX.left (OX.num 2 a ha) (Pc.sp [43] (by decide)) (rp := 1) (fp := 4) (by simp [rowsK]) (OX.num 2 b hb) (Pc.sp [45] (by decide)) (rq := 1) (fq := 5) (by simp [rowsK]) (OX.num 2 b hb) (by decide) (by unfold divB; simp) (by unfold divB; simp)).comp (by omega) (by omega) (by first | omega | (simp [fmt_one]; omega))
  have h2 := (OX.num 0 a ha).whole.comp (by omega) (by omega) (by first | omega | (simp [fmt_one]; omega))
  have e := wr1 a b ha
  rw [e] at h1
  exact ⟨_, by simpa [fmt_one] using h1, by simpa [fmt_one] using h2⟩
include ha in
theorem wq2 : SameX ([45] ++ fmtT a) ([126] ++ fmtT a ++ [32, 43, 32, 49]) := by
  have la := fmt_len a ha
  have h1 := (OX.minus (D := 2) ha).whole.comp (by omega) (by omega) (by first | omega | (simp [fmt_one]; omega))
  have h2 := (WX.bin (OX.compl (D := 2) ha) (Pc.sp [43] (by decide)) (rp := 1) (fp := 4) (by simp [rowsK]) (OX.num 2 1 (by omega)) (by unfold divB; simp)).comp (by omega) (by omega) (by first | omega | (simp [fmt_one]; omega))
  have e := wr2 a ha
  rw [show ((1 : Nat) : Int) = 1 from rfl] at h2
  rw [e] at h1
  exact ⟨_, by simpa [fmt_one] using h1, by simpa [fmt_one] using h2⟩
include ha hi hk in
theorem wq3 : SameX (fmtT a ++ [32, 60, 60, 32] ++ fmtT i ++ [32, 60, 60, 32] ++ fmtT k) (fmtT a ++ [32, 60, 60, 32, 40] ++ fmtT i ++ [32, 43, 32] ++ fmtT k ++ [41]) := by
  have la := fmt_len a ha
  have li := fmt_len i (by omega)
  have lk := fmt_len k (by omega)
  have h1 := (WX.left (OX.num 2 a ha) (Pc.sp [60, 60] (by decide)) (rp := 2) (fp := 6) (by simp [rowsK]) (OX.num 2 i (by omega)) (Pc.sp [60, 60] (by decide)) (rq := 2) (fq := 6) (by simp [rowsK]) (OX.num 2 k (by omega)) (by decide) (by unfold divB; simp) (by unfold divB; simp)).comp (by omega) (by omega) (by first | omega | (simp [fmt_one]; omega))
  have h2 := (WX.bin (OX.num 2 a ha) (Pc.sp [60, 60] (by decide)) (rp := 2) (fp := 6) (by simp [rowsK]) (WX.par (WX.bin (OX.num 1 i (by omega)) (Pc.sp [43] (by decide)) (rp := 1) (fp := 4) (by simp [rowsK]) (OX.num 1 k (by omega)) (by unfold divB; simp))) (by unfold divB; simp)).comp (by omega) (by omega) (by first | omega | (simp [fmt_one]; omega))
  have e := wr3 a i k hi hk
  rw [e] at h1
  exact ⟨_, by simpa [fmt_one] using h1, by simpa [fmt_one] using h2⟩
include ha hi hk in
theorem wq4 : SameX (fmtT a ++ [32, 62, 62, 32] ++ fmtT i ++ [32, 62, 62, 32] ++ fmtT k) (fmtT a ++ [32, 62, 62, 32, 40] ++ fmtT i ++ [32, 43, 32] ++ fmtT k ++ [41]) := by
  have la := fmt_len a ha
  have li := fmt_len i (by omega)
  have lk := fmt_len k (by omega)
  have h1 := (WX.left (OX.num 2 a ha) (Pc.sp [62, 62] (by decide)) (rp := 2) (fp := 7) (by simp [rowsK]) (OX.num 2 i (by omega)) (Pc.sp [62, 62] (by decide)) (rq := 2) (fq := 7) (by simp [rowsK]) (OX.num 2 k (by omega)) (by decide) (by unfold divB; simp) (by unfold divB; simp)).comp (by omega) (by omega) (by first | omega | (simp [fmt_one]; omega))
  have h2 := (WX.bin (OX.num 2 a ha) (Pc.sp [62, 62] (by decide)) (rp := 2) (fp := 7) (by simp [rowsK]) (WX.par (WX.bin (OX.num 1 i (by omega)) (Pc.sp [43] (by decide)) (rp := 1) (fp := 4) (by simp [rowsK]) (OX.num 1 k (by omega)) (by unfold divB; simp))) (by unfold divB; simp)).comp (by omega) (by omega) (by first | omega | (simp [fmt_one]; omega))
  have e := wr4 a i k ha hi hk
  rw [e] at h1
  exact ⟨_, by simpa [fmt_one] using h1, by simpa [fmt_one] using h2⟩
include ha hb in
theorem wq5 : SameX ([40] ++ fmtT b ++ [32, 124, 32, 49, 41, 32, 42, 32, 40] ++ fmtT a ++ [32, 47, 32, 40] ++ fmtT b ++ [32, 124, 32, 49, 41, 41, 32, 43, 32] ++ fmtT a ++ [32, 37, 32, 40] ++ fmtT b ++ [32, 124, 32, 49, 41]) (fmtT a) := by
  have la := fmt_len a ha
  have lb := fmt_len b hb
  have hd := (wr5 a b ha hb).1
  have hnd : ∀ f, divB f (appT 16 b 1) = false := by
    intro f
    unfold divB
    rw [show (appT 16 (b : Int) 1 == 0) = false from by rw [beq_eq_false_iff_ne]; omega]
    rfl
  have o1 := WX.par (WX.bin (OX.num 0 b hb) (Pc.sp [124] (by decide)) (rp := 7) (fp := 16) (by simp [rowsK]) (OX.num 0 1 (by omega)) (by unfold divB; simp))
  have o2 := WX.par (WX.bin (OX.num 1 a ha) (Pc.sp [47] (by decide)) (rp := 0) (fp := 2) (by simp [rowsK]) o1 (hnd 2))
  have h1 := (WX.mid (o1.lift (E := 2) (by omega)) (Pc.sp [42] (by decide)) (rp := 0) (fp := 1) (by simp [rowsK]) o2 (Pc.sp [43] (by decide)) (rq := 1) (fq := 4) (by simp [rowsK]) (OX.num 2 a ha) (Pc.sp [37] (by decide)) (rr := 0) (fr := 3) (by simp [rowsK]) (o1.lift (E := 2) (by omega)) (by decide) (by decide) (by unfold divB; simp) (by unfold divB; simp) (hnd 3)).comp (by omega) (by omega) (by first | omega | (simp [fmt_one]; omega))
  have h2 := (OX.num 0 a ha).whole.comp (by omega) (by omega) (by first | omega | (simp [fmt_one]; omega))
  have e := (wr5 a b ha hb).2
  rw [show ((1 : Nat) : Int) = 1 from rfl] at h1
  rw [e] at h1
  exact ⟨_, by simpa [fmt_one] using h1, by simpa [fmt_one] using h2⟩
include ha hb in
theorem wq6 : SameX (fmtT a ++ [32, 94, 32] ++ fmtT b ++ [32, 94, 32] ++ fmtT b) (fmtT a) := by
  have la := fmt_len a ha
  have lb := fmt_len b hb
  have h1 := (WX.left (OX.num 2 a ha) (Pc.sp [94] (by decide)) (rp := 6) (fp := 15) (by simp [rowsK]) (OX.num 2 b hb) (Pc.sp [94] (by decide)) (rq := 6) (fq := 15) (by simp [rowsK]) (OX.num 2 b hb) (by decide) (by unfold divB; simp) (by unfold divB; simp)).comp (by omega) (by omega) (by first | omega | (simp [fmt_one]; omega))
  have h2 := (OX.num 0 a ha).whole.comp (by omega) (by omega) (by first | omega | (simp [fmt_one]; omega))
  have e := wr6 a b ha hb
  rw [e] at h1
  exact ⟨_, by simpa [fmt_one] using h1, by simpa [fmt_one] using h2⟩
include ha hb in
theorem wq7 : SameX ([33, 40] ++ fmtT a ++ [32, 60, 32] ++ fmtT b ++ [41]) (fmtT a ++ [32, 62, 61, 32] ++ fmtT b) := by
  have la := fmt_len a ha
  have lb := fmt_len b hb
  have h1 := (OX.bang (WX.bin (OX.num 1 a ha) (Pc.sp [60] (by decide)) (rp := 3) (fp := 8) (by simp [rowsK]) (OX.num 1 b hb) (by unfold divB; simp))).whole.comp (by omega) (by omega) (by first | omega | (simp [fmt_one]; omega))
  have h2 := (WX.bin (OX.num 2 a ha) (Pc.sp [62, 61] (by decide)) (rp := 3) (fp := 11) (by simp [rowsK]) (OX.num 2 b hb) (by unfold divB; simp)).comp (by omega) (by omega) (by first | omega | (simp [fmt_one]; omega))
  have e := wr7 a b
  rw [e] at h1
  exact ⟨_, by simpa [fmt_one] using h1, by simpa [fmt_one] using h2⟩
include ha hb in
theorem wq8 : SameX ([40] ++ fmtT a ++ [32, 38, 32] ++ fmtT b ++ [41, 32, 43, 32, 40] ++ fmtT a ++ [32, 124, 32] ++ fmtT b ++ [41]) (fmtT a ++ [32, 43, 32] ++ fmtT b) := by
  have la := fmt_len a ha
  have lb := fmt_len b hb
  have h1 := (WX.bin (WX.par (WX.bin (OX.num 1 a ha) (Pc.sp [38] (by decide)) (rp := 5) (fp := 14) (by simp [rowsK]) (OX.num 1 b hb) (by unfold divB; simp))) (Pc.sp [43] (by decide)) (rp := 1) (fp := 4) (by simp [rowsK]) (WX.par (WX.bin (OX.num 1 a ha) (Pc.sp [124] (by decide)) (rp := 7) (fp := 16) (by simp [rowsK]) (OX.num 1 b hb) (by unfold divB; simp))) (by unfold divB; simp)).comp (by omega) (by omega) (by first | omega | (simp [fmt_one]; omega))
  have h2 := (WX.bin (OX.num 2 a ha) (Pc.sp [43] (by decide)) (rp := 1) (fp := 4) (by simp [rowsK]) (OX.num 2 b hb) (by unfold divB; simp)).comp (by omega) (by omega) (by first | omega | (simp [fmt_one]; omega))
  have e := wr8 a b ha hb
  rw [e] at h1
  exact ⟨_, by simpa [fmt_one] using h1, by simpa [fmt_one] using h2⟩
end
end Go.Proofs.YtojcefkigcdkiaaDoor

namespace Go.Proofs.YtojcefkigcdkiaaDoor
open Go.RowKit

/-- Two texts put together. -/
theorem add_ex (x y : List UInt8) (n m : Nat) (hx : x.length ≤ n) (hy : y.length ≤ m) (h : n + m ≤ 1000000) : ∃ V : List UInt8, V = x ++ y ∧ V.length ≤ n + m ∧ ∀ wx : World, (Op.stringOp .add ⟨x.toArray⟩ ⟨y.toArray⟩).run Tryd.prog wx = .ok (.string ⟨V.toArray⟩) wx :=
  ⟨_, rfl, by simp; omega, adds_of x y (by omega)⟩
/-- A text read by Compute, as both of a pair are. -/
def Pairs (W : List (List UInt8 × List UInt8)) : Prop := ∀ p ∈ W, SameX p.1 p.2 ∧ p.1.length ≤ 1000000 ∧ p.2.length ≤ 1000000
def PairsAt (w : World) (g : Nat) (W : List (List UInt8 × List UInt8)) : Prop := ∀ (j : Nat) (h : j < W.length), w.cell? ⟨g, j * 2, none⟩ = some (.string ⟨W[j].1.toArray⟩) ∧ w.cell? ⟨g, j * 2 + 1, none⟩ = some (.string ⟨W[j].2.toArray⟩)
theorem PairsAt.fresh {w w2 : World} {g : Nat} {W : List (List UInt8 × List UInt8)} (h : PairsAt w g W) (hb : Below w.heap.size w w2) : PairsAt w2 g W := by
  intro j hj
  obtain ⟨c0, c1⟩ := h j hj
  exact ⟨(hb.cell (World.block_lt_of_cell? w _ c0)).trans c0, (hb.cell (World.block_lt_of_cell? w _ c1)).trans c1⟩
set_option maxHeartbeats 8000000 in
set_option maxRecDepth 100000 in
theorem exWraps_walk (a b c e0 : Int) (w : World) (ha0 : 0 ≤ a) (ha1 : a ≤ 4294967295) (hb0 : 0 ≤ b) (hb1 : b ≤ 4294967295) (hc0 : 0 ≤ c) (hc1 : c ≤ 255) (he0 : 0 ≤ e0) (he1 : e0 ≤ 255) (y0 : Lay0 w) (yB : LayB w) :
    Calls Tryd.prog 6 #[.int .u32 a, .int .u32 b, .int .u8 c, .int .u8 e0] w fun e w' => e = .returned (.bool true) ∧ Below w.heap.size w w' := by
  have LL := Lib.hid (lay_keep y0 yB)
  have aw := fun wx hb => law02_awake wx (LL.out wx hb).1 (LL.out wx hb).2
  have AW := Lib.hid aw
  have fm := fun (n : Nat) (h : n ≤ 4294967295) wx hb => fmt_calls h wx (LL.out wx hb).2
  have FM := Lib.hid fm
  clear y0 yB aw fm
  obtain ⟨a, rfl⟩ := Int.eq_ofNat_of_zero_le ha0
  obtain ⟨b, rfl⟩ := Int.eq_ofNat_of_zero_le hb0
  obtain ⟨i, hi'⟩ : ∃ i : Nat, c % 20 = i := ⟨(c % 20).toNat, by omega⟩
  obtain ⟨k, hk'⟩ : ∃ k : Nat, e0 % 20 = k := ⟨(e0 % 20).toNat, by omega⟩
  have ha : a ≤ 4294967295 := by omega
  have hb : b ≤ 4294967295 := by omega
  have hi : i < 20 := by omega
  have hk : k < 20 := by omega
  have q1 := wq1 a b ha hb
  have q2 := wq2 a ha
  have q3 := wq3 a i k ha hi hk
  have q4 := wq4 a i k ha hi hk
  have q5 := wq5 a b ha hb
  have q6 := wq6 a b ha hb
  have q7 := wq7 a b ha hb
  have q8 := wq8 a b ha hb
  have hlX := fmt_len a ha
  have hlY := fmt_len b hb
  have hlI := fmt_len i (by omega)
  have hlK := fmt_len k (by omega)
  have FX := Lib.hid (fun wx hb => FM.out a ha wx hb)
  have FY := Lib.hid (fun wx hb' => FM.out b hb wx hb')
  have FI := Lib.hid (fun wx hb => FM.out i (by omega) wx hb)
  have FK := Lib.hid (fun wx hb => FM.out k (by omega) wx hb)
  obtain ⟨X, hX⟩ : ∃ z, z = fmtT a := ⟨_, rfl⟩
  obtain ⟨Y, hY⟩ : ∃ z, z = fmtT b := ⟨_, rfl⟩
  obtain ⟨I, hI⟩ : ∃ z, z = fmtT i := ⟨_, rfl⟩
  obtain ⟨K, hK⟩ : ∃ z, z = fmtT k := ⟨_, rfl⟩
  rw [← hX] at hlX FX
  rw [← hY] at hlY FY
  rw [← hI] at hlI FI
  rw [← hK] at hlK FK
  obtain ⟨V35, e35, l35, d35⟩ := add_ex X [32, 43, 32] 40 3 hlX (by simp) (by omega)
  simp only [Nat.reduceAdd] at l35
  obtain ⟨V37, e37, l37, d37⟩ := add_ex V35 Y 43 40 l35 hlY (by omega)
  simp only [Nat.reduceAdd] at l37
  obtain ⟨V38, e38, l38, d38⟩ := add_ex V37 [32, 45, 32] 83 3 l37 (by simp) (by omega)
  simp only [Nat.reduceAdd] at l38
  obtain ⟨V40, e40, l40, d40⟩ := add_ex V38 Y 86 40 l38 hlY (by omega)
  simp only [Nat.reduceAdd] at l40
  obtain ⟨V44, e44, l44, d44⟩ := add_ex [45] X 1 40 (by simp) hlX (by omega)
  simp only [Nat.reduceAdd] at l44
  obtain ⟨V46, e46, l46, d46⟩ := add_ex [126] X 1 40 (by simp) hlX (by omega)
  simp only [Nat.reduceAdd] at l46
  obtain ⟨V47, e47, l47, d47⟩ := add_ex V46 [32, 43, 32, 49] 41 4 l46 (by simp) (by omega)
  simp only [Nat.reduceAdd] at l47
  obtain ⟨V50, e50, l50, d50⟩ := add_ex X [32, 60, 60, 32] 40 4 hlX (by simp) (by omega)
  simp only [Nat.reduceAdd] at l50
  obtain ⟨V52, e52, l52, d52⟩ := add_ex V50 I 44 40 l50 hlI (by omega)
  simp only [Nat.reduceAdd] at l52
  obtain ⟨V53, e53, l53, d53⟩ := add_ex V52 [32, 60, 60, 32] 84 4 l52 (by simp) (by omega)
  simp only [Nat.reduceAdd] at l53
  obtain ⟨V55, e55, l55, d55⟩ := add_ex V53 K 88 40 l53 hlK (by omega)
  simp only [Nat.reduceAdd] at l55
  obtain ⟨V57, e57, l57, d57⟩ := add_ex X [32, 60, 60, 32, 40] 40 5 hlX (by simp) (by omega)
  simp only [Nat.reduceAdd] at l57
  obtain ⟨V59, e59, l59, d59⟩ := add_ex V57 I 45 40 l57 hlI (by omega)
  simp only [Nat.reduceAdd] at l59
  obtain ⟨V60, e60, l60, d60⟩ := add_ex V59 [32, 43, 32] 85 3 l59 (by simp) (by omega)
  simp only [Nat.reduceAdd] at l60
  obtain ⟨V62, e62, l62, d62⟩ := add_ex V60 K 88 40 l60 hlK (by omega)
  simp only [Nat.reduceAdd] at l62
  obtain ⟨V63, e63, l63, d63⟩ := add_ex V62 [41] 128 1 l62 (by simp) (by omega)
  simp only [Nat.reduceAdd] at l63
  obtain ⟨V66, e66, l66, d66⟩ := add_ex X [32, 62, 62, 32] 40 4 hlX (by simp) (by omega)
  simp only [Nat.reduceAdd] at l66
  obtain ⟨V68, e68, l68, d68⟩ := add_ex V66 I 44 40 l66 hlI (by omega)
  simp only [Nat.reduceAdd] at l68
  obtain ⟨V69, e69, l69, d69⟩ := add_ex V68 [32, 62, 62, 32] 84 4 l68 (by simp) (by omega)
  simp only [Nat.reduceAdd] at l69
  obtain ⟨V71, e71, l71, d71⟩ := add_ex V69 K 88 40 l69 hlK (by omega)
  simp only [Nat.reduceAdd] at l71
  obtain ⟨V73, e73, l73, d73⟩ := add_ex X [32, 62, 62, 32, 40] 40 5 hlX (by simp) (by omega)
  simp only [Nat.reduceAdd] at l73
  obtain ⟨V75, e75, l75, d75⟩ := add_ex V73 I 45 40 l73 hlI (by omega)
  simp only [Nat.reduceAdd] at l75
  obtain ⟨V76, e76, l76, d76⟩ := add_ex V75 [32, 43, 32] 85 3 l75 (by simp) (by omega)
  simp only [Nat.reduceAdd] at l76
  obtain ⟨V78, e78, l78, d78⟩ := add_ex V76 K 88 40 l76 hlK (by omega)
  simp only [Nat.reduceAdd] at l78
  obtain ⟨V79, e79, l79, d79⟩ := add_ex V78 [41] 128 1 l78 (by simp) (by omega)
  simp only [Nat.reduceAdd] at l79
  obtain ⟨V82, e82, l82, d82⟩ := add_ex [40] Y 1 40 (by simp) hlY (by omega)
  simp only [Nat.reduceAdd] at l82
  obtain ⟨V83, e83, l83, d83⟩ := add_ex V82 [32, 124, 32, 49, 41, 32, 42, 32, 40] 41 9 l82 (by simp) (by omega)
  simp only [Nat.reduceAdd] at l83
  obtain ⟨V85, e85, l85, d85⟩ := add_ex V83 X 50 40 l83 hlX (by omega)
  simp only [Nat.reduceAdd] at l85
  obtain ⟨V86, e86, l86, d86⟩ := add_ex V85 [32, 47, 32, 40] 90 4 l85 (by simp) (by omega)
  simp only [Nat.reduceAdd] at l86
  obtain ⟨V88, e88, l88, d88⟩ := add_ex V86 Y 94 40 l86 hlY (by omega)
  simp only [Nat.reduceAdd] at l88
  obtain ⟨V89, e89, l89, d89⟩ := add_ex V88 [32, 124, 32, 49, 41, 41, 32, 43, 32] 134 9 l88 (by simp) (by omega)
  simp only [Nat.reduceAdd] at l89
  obtain ⟨V91, e91, l91, d91⟩ := add_ex V89 X 143 40 l89 hlX (by omega)
  simp only [Nat.reduceAdd] at l91
  obtain ⟨V92, e92, l92, d92⟩ := add_ex V91 [32, 37, 32, 40] 183 4 l91 (by simp) (by omega)
  simp only [Nat.reduceAdd] at l92
  obtain ⟨V94, e94, l94, d94⟩ := add_ex V92 Y 187 40 l92 hlY (by omega)
  simp only [Nat.reduceAdd] at l94
  obtain ⟨V95, e95, l95, d95⟩ := add_ex V94 [32, 124, 32, 49, 41] 227 5 l94 (by simp) (by omega)
  simp only [Nat.reduceAdd] at l95
  obtain ⟨V99, e99, l99, d99⟩ := add_ex X [32, 94, 32] 40 3 hlX (by simp) (by omega)
  simp only [Nat.reduceAdd] at l99
  obtain ⟨V101, e101, l101, d101⟩ := add_ex V99 Y 43 40 l99 hlY (by omega)
  simp only [Nat.reduceAdd] at l101
  obtain ⟨V102, e102, l102, d102⟩ := add_ex V101 [32, 94, 32] 83 3 l101 (by simp) (by omega)
  simp only [Nat.reduceAdd] at l102
  obtain ⟨V104, e104, l104, d104⟩ := add_ex V102 Y 86 40 l102 hlY (by omega)
  simp only [Nat.reduceAdd] at l104
  obtain ⟨V108, e108, l108, d108⟩ := add_ex [33, 40] X 2 40 (by simp) hlX (by omega)
  simp only [Nat.reduceAdd] at l108
  obtain ⟨V109, e109, l109, d109⟩ := add_ex V108 [32, 60, 32] 42 3 l108 (by simp) (by omega)
  simp only [Nat.reduceAdd] at l109
  obtain ⟨V111, e111, l111, d111⟩ := add_ex V109 Y 45 40 l109 hlY (by omega)
  simp only [Nat.reduceAdd] at l111
  obtain ⟨V112, e112, l112, d112⟩ := add_ex V111 [41] 85 1 l111 (by simp) (by omega)
  simp only [Nat.reduceAdd] at l112
  obtain ⟨V114, e114, l114, d114⟩ := add_ex X [32, 62, 61, 32] 40 4 hlX (by simp) (by omega)
  simp only [Nat.reduceAdd] at l114
  obtain ⟨V116, e116, l116, d116⟩ := add_ex V114 Y 44 40 l114 hlY (by omega)
  simp only [Nat.reduceAdd] at l116
  obtain ⟨V119, e119, l119, d119⟩ := add_ex [40] X 1 40 (by simp) hlX (by omega)
  simp only [Nat.reduceAdd] at l119
  obtain ⟨V120, e120, l120, d120⟩ := add_ex V119 [32, 38, 32] 41 3 l119 (by simp) (by omega)
  simp only [Nat.reduceAdd] at l120
  obtain ⟨V122, e122, l122, d122⟩ := add_ex V120 Y 44 40 l120 hlY (by omega)
  simp only [Nat.reduceAdd] at l122
  obtain ⟨V123, e123, l123, d123⟩ := add_ex V122 [41, 32, 43, 32, 40] 84 5 l122 (by simp) (by omega)
  simp only [Nat.reduceAdd] at l123
  obtain ⟨V125, e125, l125, d125⟩ := add_ex V123 X 89 40 l123 hlX (by omega)
  simp only [Nat.reduceAdd] at l125
  obtain ⟨V126, e126, l126, d126⟩ := add_ex V125 [32, 124, 32] 129 3 l125 (by simp) (by omega)
  simp only [Nat.reduceAdd] at l126
  obtain ⟨V128, e128, l128, d128⟩ := add_ex V126 Y 132 40 l126 hlY (by omega)
  simp only [Nat.reduceAdd] at l128
  obtain ⟨V129, e129, l129, d129⟩ := add_ex V128 [41] 172 1 l128 (by simp) (by omega)
  simp only [Nat.reduceAdd] at l129
  have E40 : V40 = X ++ [32, 43, 32] ++ Y ++ [32, 45, 32] ++ Y := by rw [e40, e38, e37, e35]
  have E44 : V44 = [45] ++ X := by rw [e44]
  have E47 : V47 = [126] ++ X ++ [32, 43, 32, 49] := by rw [e47, e46]
  have E55 : V55 = X ++ [32, 60, 60, 32] ++ I ++ [32, 60, 60, 32] ++ K := by rw [e55, e53, e52, e50]
  have E63 : V63 = X ++ [32, 60, 60, 32, 40] ++ I ++ [32, 43, 32] ++ K ++ [41] := by rw [e63, e62, e60, e59, e57]
  have E71 : V71 = X ++ [32, 62, 62, 32] ++ I ++ [32, 62, 62, 32] ++ K := by rw [e71, e69, e68, e66]
  have E79 : V79 = X ++ [32, 62, 62, 32, 40] ++ I ++ [32, 43, 32] ++ K ++ [41] := by rw [e79, e78, e76, e75, e73]
  have E95 : V95 = [40] ++ Y ++ [32, 124, 32, 49, 41, 32, 42, 32, 40] ++ X ++ [32, 47, 32, 40] ++ Y ++ [32, 124, 32, 49, 41, 41, 32, 43, 32] ++ X ++ [32, 37, 32, 40] ++ Y ++ [32, 124, 32, 49, 41] := by rw [e95, e94, e92, e91, e89, e88, e86, e85, e83, e82]
  have E104 : V104 = X ++ [32, 94, 32] ++ Y ++ [32, 94, 32] ++ Y := by rw [e104, e102, e101, e99]
  have E112 : V112 = [33, 40] ++ X ++ [32, 60, 32] ++ Y ++ [41] := by rw [e112, e111, e109, e108]
  have E116 : V116 = X ++ [32, 62, 61, 32] ++ Y := by rw [e116, e114]
  have E129 : V129 = [40] ++ X ++ [32, 38, 32] ++ Y ++ [41, 32, 43, 32, 40] ++ X ++ [32, 124, 32] ++ Y ++ [41] := by rw [e129, e128, e126, e125, e123, e122, e120, e119]
  have E37 : V37 = X ++ [32, 43, 32] ++ Y := by rw [e37, e35]
  rw [← hX] at q1 q2 q3 q4 q5 q6 q7 q8
  rw [← hY] at q1 q5 q6 q7 q8
  rw [← hI, ← hK] at q3 q4
  rw [← E40] at q1
  rw [← E44, ← E47] at q2
  rw [← E55, ← E63] at q3
  rw [← E71, ← E79] at q4
  rw [← E95] at q5
  rw [← E104] at q6
  rw [← E112, ← E116] at q7
  rw [← E129, ← E37] at q8
  have hW : Pairs [(V40, X), (V44, V47), (V55, V63), (V71, V79), (V95, X), (V104, X), (V112, V116), (V129, V37)] := by
    intro p hp
    simp only [List.mem_cons, List.not_mem_nil, or_false] at hp
    rcases hp with rfl | rfl | rfl | rfl | rfl | rfl | rfl | rfl
    · exact ⟨q1, by dsimp only; omega, by dsimp only; omega⟩
    · exact ⟨q2, by dsimp only; omega, by dsimp only; omega⟩
    · exact ⟨q3, by dsimp only; omega, by dsimp only; omega⟩
    · exact ⟨q4, by dsimp only; omega, by dsimp only; omega⟩
    · exact ⟨q5, by dsimp only; omega, by dsimp only; omega⟩
    · exact ⟨q6, by dsimp only; omega, by dsimp only; omega⟩
    · exact ⟨q7, by dsimp only; omega, by dsimp only; omega⟩
    · exact ⟨q8, by dsimp only; omega, by dsimp only; omega⟩
  obtain ⟨W, hWW⟩ : ∃ z, z = [(V40, X), (V44, V47), (V55, V63), (V71, V79), (V95, X), (V104, X), (V112, V116), (V129, V37)] := ⟨_, rfl⟩
  rw [← hWW] at hW
  have HW := Lib.hid hW
  have hWl : W.length = 8 := by rw [hWW]; rfl
  have hPA : ∀ wx : World, PairsAt (wx.alloc (.cells #[.string ⟨(V40).toArray⟩, .string ⟨(X).toArray⟩, .string ⟨(V44).toArray⟩, .string ⟨(V47).toArray⟩, .string ⟨(V55).toArray⟩, .string ⟨(V63).toArray⟩, .string ⟨(V71).toArray⟩, .string ⟨(V79).toArray⟩, .string ⟨(V95).toArray⟩, .string ⟨(X).toArray⟩, .string ⟨(V104).toArray⟩, .string ⟨(X).toArray⟩, .string ⟨(V112).toArray⟩, .string ⟨(V116).toArray⟩, .string ⟨(V129).toArray⟩, .string ⟨(V37).toArray⟩] 39)) wx.heap.size W := by
    intro wx j hj
    have hN := Holds.new wx #[.string ⟨(V40).toArray⟩, .string ⟨(X).toArray⟩, .string ⟨(V44).toArray⟩, .string ⟨(V47).toArray⟩, .string ⟨(V55).toArray⟩, .string ⟨(V63).toArray⟩, .string ⟨(V71).toArray⟩, .string ⟨(V79).toArray⟩, .string ⟨(V95).toArray⟩, .string ⟨(X).toArray⟩, .string ⟨(V104).toArray⟩, .string ⟨(X).toArray⟩, .string ⟨(V112).toArray⟩, .string ⟨(V116).toArray⟩, .string ⟨(V129).toArray⟩, .string ⟨(V37).toArray⟩] 39
    have hj8 : j < 8 := by omega
    have hc : j = 0 ∨ j = 1 ∨ j = 2 ∨ j = 3 ∨ j = 4 ∨ j = 5 ∨ j = 6 ∨ j = 7 := by omega
    subst hWW
    rcases hc with rfl | rfl | rfl | rfl | rfl | rfl | rfl | rfl
    · exact ⟨hN.cell 0, hN.cell 1⟩
    · exact ⟨hN.cell 2, hN.cell 3⟩
    · exact ⟨hN.cell 4, hN.cell 5⟩
    · exact ⟨hN.cell 6, hN.cell 7⟩
    · exact ⟨hN.cell 8, hN.cell 9⟩
    · exact ⟨hN.cell 10, hN.cell 11⟩
    · exact ⟨hN.cell 12, hN.cell 13⟩
    · exact ⟨hN.cell 14, hN.cell 15⟩
  have HPA := Lib.hid hPA
  have HWL := Lib.hid hWl
  clear hW hPA hWl hWW q1 q2 q3 q4 q5 q6 q7 q8 E40 E44 E47 E55 E63 E71 E79 E95 E104 E112 E116 E129 E37 e35 l35 e37 l37 e38 l38 e40 l40 e44 l44 e46 l46 e47 l47 e50 l50 e52 l52 e53 l53 e55 l55 e57 l57 e59 l59 e60 l60 e62 l62 e63 l63 e66 l66 e68 l68 e69 l69 e71 l71 e73 l73 e75 l75 e76 l76 e78 l78 e79 l79 e82 l82 e83 l83 e85 l85 e86 l86 e88 l88 e89 l89 e91 l91 e92 l92 e94 l94 e95 l95 e99 l99 e101 l101 e102 l102 e104 l104 e108 l108 e109 l109 e111 l111 e112 l112 e114 l114 e116 l116 e119 l119 e120 l120 e122 l122 e123 l123 e125 l125 e126 l126 e128 l128 e129 l129 hX hY hI hK
  go_enter Tryd.func6, Tryd.ntmps6
  go_wp2_with fail
  refine (by exact FX.out w (Below.refl _ _) : Calls _ _ _ _ _).mono ?_
  rintro e w1 ⟨rfl, hb1⟩
  go_wp2_with fail
  refine (by exact FY.out w1 hb1 : Calls _ _ _ _ _).mono ?_
  rintro e w2 ⟨rfl, hb2⟩
  have hb2' : Below w.heap.size w w2 := hb1.trans (hb2.mono hb1.size)
  go_wp2_with fail
  refine (by exact FI.out w2 hb2' : Calls _ _ _ _ _).mono ?_
  rintro e w3 ⟨rfl, hb3⟩
  have hb3' : Below w.heap.size w w3 := hb2'.trans (hb3.mono hb2'.size)
  go_wp2_with fail
  refine (by exact FK.out w3 hb3' : Calls _ _ _ _ _).mono ?_
  rintro e w4 ⟨rfl, hb4⟩
  have hb4' : Below w.heap.size w w4 := hb3'.trans (hb4.mono hb3'.size)
  clear hb1 hb2 hb3 hb4 hb2' hb3' FX FY FI FK
  go_wp2_with fail
  go_loopg [138] 8 (fun f x wr => ∃ i : Nat, x = .int .i64 i ∧ i + f = 8 ∧ Below w.heap.size w wr ∧ Hid (PairsAt wr w4.heap.size W))
  case atStart => exact ⟨0, rfl, rfl, hb4'.alloc hb4'.size _, Lib.hid (HPA.out _)⟩
  case round =>
    obtain ⟨i, rfl, hif, hb, HP⟩ := hrel
    by_cases h3 : i < 8
    · have h3I : (i : Int) < 8 := by omega
      have hil : i < W.length := by rw [HWL.out]; exact h3
      obtain ⟨c0, c1⟩ := HP.out i hil
      obtain ⟨⟨v, q1, q2⟩, l1, l2⟩ := HW.out (W[i]'hil) (List.getElem_mem hil)
      generalize (W[i]'hil).1 = x1 at *
      generalize (W[i]'hil).2 = x2 at *
      have Q1 := Lib.hid q1
      have Q2 := Lib.hid q2
      have cl := World.block_lt_of_cell? wr _ c0
      simp only at cl
      clear q1 q2
      go_wp2_with fail
      have hN := Holds.new wr #[.string ⟨x1.toArray⟩, .string ⟨x2.toArray⟩] 39
      have hbA : Below w.heap.size w (wr.alloc (.cells #[.string ⟨x1.toArray⟩, .string ⟨x2.toArray⟩] 39)) := hb.alloc hb.size _
      have hPA : Hid (PairsAt (wr.alloc (.cells #[.string ⟨x1.toArray⟩, .string ⟨x2.toArray⟩] 39)) w4.heap.size W) := Lib.hid (HP.out.fresh (Below.refl _ wr |>.alloc (Nat.le_refl _) _))
      refine (exp_comp Q1.out _ l1 (LL.out _ hbA).1).mono ?_
      rintro e w5 ⟨rfl, hb5⟩
      have hb5' : Below w.heap.size w w5 := hbA.trans (hb5.mono hbA.size)
      have hN5 := hN.keeps (Keeps.of_fresh hb5 (fun _ => False)) (fun e => e)
      have hP5 : Hid (PairsAt w5 w4.heap.size W) := Lib.hid (hPA.out.fresh hb5)
      have c51 := hN5.cell 1
      go_wp2_with fail
      refine (exp_comp Q2.out w5 l2 (LL.out _ hb5').1).mono ?_
      rintro e w6 ⟨rfl, hb6⟩
      have hb6' : Below w.heap.size w w6 := hb5'.trans (hb6.mono hb5'.size)
      have hP6 : Hid (PairsAt w6 w4.heap.size W) := Lib.hid (hP5.out.fresh hb6)
      go_wp2_with fail
      go_roundg (gk - 1)
      case measure => omega
      case rel => exact ⟨i + 1, rfl, by omega, hb6', hP6⟩
    · obtain rfl : i = 8 := by omega
      go_wp2_with fail
      refine (AW.out wr hb).mono ?_
      rintro e w5 ⟨rfl, hb5⟩
      go_wp2_with fail
      go_ret
      exact ⟨rfl, hb.trans (hb5.mono hb.size)⟩
end Go.Proofs.YtojcefkigcdkiaaDoor
