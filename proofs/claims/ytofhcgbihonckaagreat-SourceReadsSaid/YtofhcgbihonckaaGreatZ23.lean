/- bringupref04: member: the region that reads a property's name and makes its definition. | bringupref04: member at a label (printed by gr4v.py). | bringupref04: member at a label (printed by gr4v.py). | bringupref04: top, include (printed by gr4x.py). | bringupref04: top, a node's deletion (printed by gr4x.py). | bringupref04: top, a reference (printed by gr4y.py). | bringupref04: top, no label (printed by gr4y.py). | bringupref04: top, a label (printed by gr4y.py). -/
import Derived.Test.YtofhcgbihonckaaGreatZ22
import Derived.Test.YtofhcgbihonckaaGreatZ1
import Derived.Deep.DeepCutAuto
import Derived.Test.YtofhcgbihonckaaGreatZ16
set_option linter.unusedVariables false
set_option linter.unusedSimpArgs false
set_option linter.unusedSectionVars false
namespace Go.Proofs.YtofhcgbihonckaaGreat
open Go.RowKit
noncomputable def pgOps : Array Oper := (regOps (Tryz.f109.body.getD .skip) 21).getD #[]
theorem pgR : inRow2 .any pgOps = true := by kernel_rfl
theorem pgRa : apartB pgOps = true := by kernel_rfl
theorem pgRn : pgOps.size = 6 := by kernel_rfl
def PgF (r : Nat) (file tl tc : Int) (Y : ByteArray) (Z : Nat) (j : Nat) : Value → World → Prop := match j with
  | 0 => fun u _ => u = .pointer (some ⟨r, 0, none⟩)
  | 1 => fun u _ => u = .string Y
  | 2 => fun u _ => u = .agg #[.int .i64 file, .int .i64 tl, .int .i64 tc]
  | 3 => fun u _ => u = .agg #[.int .i64 3, .string ⟨#[]⟩, .string Y, .slice none 0 0, .int .i64 file, .int .i64 tl, .int .i64 tc]
  | 4 => fun u _ => u = .pointer (some ⟨Z, 0, none⟩)
  | _ => fun _ _ => True
def RT (r base : Nat) (file : Int) (L : List Tok) (lv ov : Value) (D : List DefT) (T : Rs Nat) (X Y : ByteArray) (w : World) : Prop := (∃ j, T = .ok j ∧ Y = X ∧ R4At w r base file L lv ov j D) ∨ ∃ k c, T = .error (k, c) ∧ R4Bad w r file L k c
def propZ : Array Value := #[.int .i64 0, .string ⟨#[]⟩, .string ⟨#[]⟩, .slice none 0 0, .int .i64 0, .int .i64 0, .int .i64 0]
def propC (file tl tc : Int) (Y : ByteArray) : Array Value := #[.int .i64 3, .string ⟨#[]⟩, .string Y, .slice none 0 0, .int .i64 file, .int .i64 tl, .int .i64 tc]
structure PgE (r base P : Nat) (file : Int) (L : List Tok) (lv ov : Value) (i : Nat) (D : List DefT) (T : Rs Nat) (X : ByteArray) (tl tc : Int) (W : World) (Y : ByteArray) (Z : Nat) (l : Array Bool) (w : World) : Prop where
  n1 : l.getD 1 false = false → R4At w r base file L lv ov i D
  y1 : l.getD 1 false = true → RT r base file L lv ov D T X Y w
  pos : Holds w P #[.int .i64 file, .int .i64 tl, .int .i64 tc] 27
  n5 : l.getD 4 false = true → l.getD 5 false = false → Holds w Z propZ 34 ∧ W.heap.size ≤ Z ∧ Z ≠ r
  y5 : l.getD 5 false = true → Holds w Z (propC file tl tc Y) 34 ∧ W.heap.size ≤ Z ∧ Z ≠ r
section
variable {r base P : Nat} {file : Int} {L : List Tok} {lv ov : Value} {i : Nat} {D : List DefT} {T : Rs Nat} {X : ByteArray} {tl tc : Int} {W w w' : World} {Y : ByteArray} {Z : Nat} {l : Array Bool} {j : Nat}
theorem PgF.world {u : Value} (h : PgF r file tl tc Y Z j u w) : PgF r file tl tc Y Z j u w' := by
  unfold PgF at *
  split at h
  all_goals exact h
theorem PgF.gh_Y {x : ByteArray} {u : Value} (h : PgF r file tl tc Y Z j u w) (n1 : j ≠ 1) (n3 : j ≠ 3) : PgF r file tl tc x Z j u w := by
  unfold PgF at *
  split at h
  all_goals first
    | exact h
    | exact absurd rfl n1
    | exact absurd rfl n3
theorem PgF.gh_Z {x : Nat} {u : Value} (h : PgF r file tl tc Y Z j u w) (n4 : j ≠ 4) : PgF r file tl tc Y x j u w := by
  unfold PgF at *
  split at h
  all_goals first
    | exact h
    | exact absurd rfl n4
theorem RT.keeps (h : RT r base file L lv ov D T X Y w) (k : Keeps (fun _ => False) w w') : RT r base file L lv ov D T X Y w' := by
  rcases h with ⟨j, e1, e2, e3⟩ | ⟨k', c, e1, e2⟩
  · exact .inl ⟨j, e1, e2, e3.keeps k⟩
  · exact .inr ⟨k', c, e1, e2.keeps k (fun e => e)⟩
theorem RT.turn (h : RT r base file L lv ov D T X Y w) (h0 : R4At W r base file L lv ov i D) (hij : ∀ j, T = .ok j → i ≤ j) (k : Keeps (· = r) W w') (ho : ∀ {xs : Array Value} {t : TypeId}, Holds w r xs t → Holds w' r xs t) : RT r base file L lv ov D T X Y w' := by
  rcases h with ⟨j, e1, e2, e3⟩ | ⟨k', c, e1, e0, lv', x', ov', hx⟩
  · exact .inl ⟨j, e1, e2, h0.turn k (ho e3.holds) e3.lt (hij j e1)⟩
  · exact .inr ⟨k', c, e1, e0, lv', x', ov', ho hx⟩
theorem PgE.put (h : PgE r base P file L lv ov i D T X tl tc W Y Z l w) (n1 : j ≠ 1) (n4 : j ≠ 4) (n5 : j ≠ 5) : PgE r base P file L lv ov i D T X tl tc W Y Z (l.setIfInBounds j true) w := by
  constructor
  · rw [set_other n1]; exact h.n1
  · rw [set_other n1]; exact h.y1
  · exact h.pos
  · rw [set_other n4, set_other n5]; exact h.n5
  · rw [set_other n5]; exact h.y5
end
theorem pg_rep {n j : Nat} : (Array.replicate n false).getD j false = false := by
  rw [Array.getD_eq_getD_getElem?]
  by_cases h : j < n
  · rw [Array.getElem?_replicate, if_pos h]; rfl
  · rw [Array.getElem?_replicate, if_neg h]; rfl
set_option maxHeartbeats 8000000 in
set_option maxRecDepth 100000 in
theorem pg_region21 {Q : Exit → Act → World → Prop} (r base P : Nat) (file : Int) (L : List Tok) (lv ov : Value) (i : Nat) (D : List DefT) (T : Rs Nat) (X : ByteArray) (tl tc : Int) (W w : World) (A : Act) (hsz : A.tmps.size = 191)
    (h0 : R4At W r base file L lv ov i D) (hij : ∀ j, T = .ok j → i ≤ j) (hPr : P ≠ r) (hw : R4At w r base file L lv ov i D) (hP : Holds w P #[.int .i64 file, .int .i64 tl, .int .i64 tc] 27)
    (hword : ∀ wx : World, R4At wx r base file L lv ov i D → Calls Tryz.prog 65 #[.pointer (some ⟨r, 0, none⟩), .int .i64 1, .int .i64 2] wx fun e w' => ∃ Y : ByteArray, Keeps (· = r) wx w' ∧ e = .returned (.string Y) ∧ RT r base file L lv ov D T X Y w')
    (a0 : A.tmps.getD 0 undef = .pointer (some ⟨r, 0, none⟩)) (a4 : A.tmps.getD 4 undef = .pointer (some ⟨P, 0, none⟩)) (hS0 : Keeps (· = r) W w)
    (hQ : ∀ c w' Z Y, SameBut pgOps A c → Keeps (· = r) W w' → c.tmps.getD 7 undef = .pointer (some ⟨Z, 0, none⟩) → Holds w' Z (propC file tl tc Y) 34 → W.heap.size ≤ Z → Z ≠ r → RT r base file L lv ov D T X Y w' → Q .normal c w') :
    wpAny Tryz.prog .any pgOps Q pgOps.size (Array.replicate pgOps.size false) A w := by
  refine wpAny_inv2 (fun l c wx => ∃ Y Z, RInv pgOps A (PgF r file tl tc Y Z) (fun wx => Keeps (· = r) W wx) l c wx ∧ PgE r base P file L lv ov i D T X tl tc W Y Z l wx) pgR ?hend ?hstep _ _ _ _ (by simp) (by simp)
    ⟨⟨#[]⟩, 0, RInv.start hS0, ⟨fun _ => hw, fun h => by rw [pg_rep] at h; (cases h), hP, fun h => by rw [pg_rep] at h; (cases h), fun h => by rw [pg_rep] at h; (cases h)⟩⟩
  case hend =>
    rintro l c wx ⟨Y, Z, hI, hE⟩ hl
    have hh : ∀ k, k < 6 → l.getD k false = true := fun k hk => hl k (by rw [pgRn]; exact hk)
    obtain ⟨q1, q2, q3⟩ := hE.y5 (hh 5 (by decide))
    exact hQ c wx Z Y hI.1 hI.2.1 (hI.fact 4 7 rfl (hh 4 (by decide))) q1 q2 q3 (hE.y1 (hh 1 (by decide)))
  intro l c wx hIx i' op ho hl hall K' hK'
  obtain ⟨Y, Z, hI, hE⟩ := hIx
  have hls : l.size = 6 := by rw [hI.2.2.1.1, pgRn]
  have hi' : i' < 6 := by rw [← pgRn]; exact (Array.getElem?_eq_some_iff.1 ho).1
  have ho2 := ho
  simp only [pgOps, regOps, Tryz.f109, Option.getD_some, reduceIte, Nat.reduceEqDiff] at ho
  have hS := hI.2.1
  have s0 := (hI.slot 0 (by kernel_rfl)).trans a0
  have s4 := (hI.slot 4 (by kernel_rfl)).trans a4
  simp only [Array.getD_eq_getD_getElem?] at s0 s4
  have hic : i' = 0 ∨ i' = 1 ∨ i' = 2 ∨ i' = 3 ∨ i' = 4 ∨ i' = 5 := by omega
  clear hi'
  rcases hic with rfl | rfl | rfl | rfl | rfl | rfl
  all_goals cases ho
  · go_simp
    exact hK' _ _ ⟨Y, Z, hI.step pgRa 0 136 rfl (by rw [hsz]; decide) _ _ ho2 hall hS (fun _ _ h => PgF.world h) rfl, hE.put (by decide) (by decide) (by decide)⟩
  · have e0 : c.tmps.getD 136 undef = .pointer (some ⟨r, 0, none⟩) := hI.fact 0 136 rfl (listed hall 0 (by kernel_rfl))
    simp only [Array.getD_eq_getD_getElem?] at e0
    have hld := hword wx (hE.n1 hl)
    go_simp
    refine hld.mono ?_
    rintro e w2 ⟨Y', hk2, rfl, hT2⟩
    have hS2 := hS.trans hk2 (fun _ _ e => e)
    have u3 := (hI.2.2.1.2.no_far 6 hl (by kernel_rfl : farB pgOps 6 3 1 = true))
    have u5 := (hI.2.2.1.2.no_far 6 hl (by kernel_rfl : farB pgOps 6 5 1 = true))
    have hJ := hI.other (F' := PgF r file tl tc Y' Z) (fun j hj u hF => PgF.gh_Y hF (yes_no hj hl) (yes_no hj u3))
    refine hK' _ _ ⟨Y', Z, hJ.step pgRa 1 137 rfl (by rw [hsz]; decide) _ _ ho2 hall hS2 (fun _ _ h => PgF.world h) rfl, ?_⟩
    constructor
    · intro h; rw [set_here (by omega)] at h; cases h
    · intro _; exact hT2
    · exact hE.pos.keeps hk2 hPr
    · rw [set_other (show 1 ≠ 4 by decide), set_other (show 1 ≠ 5 by decide)]
      intro a b
      obtain ⟨q1, q2, q3⟩ := hE.n5 a b
      exact ⟨q1.keeps hk2 q3, q2, q3⟩
    · rw [set_other (show 1 ≠ 5 by decide)]; intro a; rw [u5] at a; cases a
  · obtain ⟨x0, x1, x2, _, _, _, xl⟩ := three hE.pos
    go_simp
    exact hK' _ _ ⟨Y, Z, hI.step pgRa 2 138 rfl (by rw [hsz]; decide) _ _ ho2 hall hS (fun _ _ h => PgF.world h) rfl, hE.put (by decide) (by decide) (by decide)⟩
  · have e1 : c.tmps.getD 137 undef = .string Y := hI.fact 1 137 rfl (listed hall 1 (by kernel_rfl))
    have e2 : c.tmps.getD 138 undef = .agg #[.int .i64 file, .int .i64 tl, .int .i64 tc] := hI.fact 2 138 rfl (listed hall 2 (by kernel_rfl))
    simp only [Array.getD_eq_getD_getElem?] at e1 e2
    go_simp
    exact hK' _ _ ⟨Y, Z, hI.step pgRa 3 139 rfl (by rw [hsz]; decide) _ _ ho2 hall hS (fun _ _ h => PgF.world h) rfl, hE.put (by decide) (by decide) (by decide)⟩
  · go_simp
    have hk2 : Keeps (fun _ => False) wx (wx.alloc (.cells propZ 34)) := (Keeps.refl _ wx).alloc _
    have hS2 := hS.trans hk2 (fun _ _ e => e.elim)
    have u5 := (hI.2.2.1.2.no_far 6 hl (by kernel_rfl : farB pgOps 6 5 4 = true))
    have hJ := hI.other (F' := PgF r file tl tc Y wx.heap.size) (fun j hj u hF => PgF.gh_Z hF (yes_no hj hl))
    have hrl : r < wx.heap.size := Nat.lt_of_lt_of_le h0.holds.lt hS.size
    refine hK' _ _ ⟨Y, wx.heap.size, hJ.step pgRa 4 7 rfl (by rw [hsz]; decide) _ _ ho2 hall hS2 (fun _ _ h => PgF.world h) rfl, ?_⟩
    constructor
    · rw [set_other (show 4 ≠ 1 by decide)]; intro a; exact (hE.n1 a).keeps hk2
    · rw [set_other (show 4 ≠ 1 by decide)]; intro a; exact (hE.y1 a).keeps hk2
    · exact hE.pos.keeps hk2 (fun e => e)
    · intro _ _; exact ⟨Holds.new _ _ _, hS.size, by omega⟩
    · rw [set_other (show 4 ≠ 5 by decide)]; intro a; rw [u5] at a; cases a
  · have e3 : c.tmps.getD 139 undef = .agg #[.int .i64 3, .string ⟨#[]⟩, .string Y, .slice none 0 0, .int .i64 file, .int .i64 tl, .int .i64 tc] := hI.fact 3 139 rfl (listed hall 3 (by kernel_rfl))
    have e4 : c.tmps.getD 7 undef = .pointer (some ⟨Z, 0, none⟩) := hI.fact 4 7 rfl (listed hall 4 (by kernel_rfl))
    simp only [Array.getD_eq_getD_getElem?] at e3 e4
    obtain ⟨q1, q2, q3⟩ := hE.n5 (listed hall 4 (by kernel_rfl)) hl
    have y1 : l.getD 1 false = true := (hI.2.2.1.2.yes_far 6 ho2 hall (by decide) (by kernel_rfl))
    have hT := hE.y1 y1
    unfold propZ at q1
    obtain ⟨z0, z1, z2, z3, z4, z5, z6⟩ := seven_cells q1
    have g0 := q1.free 0
    have g1 := q1.free 1
    have g2 := q1.free 2
    have g3 := q1.free 3
    have g4 := q1.free 4
    have g5 := q1.free 5
    have g6 := q1.free 6
    have zl := q1.lt
    go_simp
    have hk2 : Keeps (· = Z) wx (((((((wx.setCell ⟨Z, 0, none⟩ (.int .i64 3)).setCell ⟨Z, 1, none⟩ (.string ⟨#[]⟩)).setCell ⟨Z, 2, none⟩ (.string Y)).setCell ⟨Z, 3, none⟩ (.slice none 0 0)).setCell ⟨Z, 4, none⟩ (.int .i64 file)).setCell ⟨Z, 5, none⟩ (.int .i64 tl)).setCell ⟨Z, 6, none⟩ (.int .i64 tc)) := (((((((Keeps.refl (· = Z) wx).setCell (p := ⟨Z, 0, none⟩) (.inr rfl) _).setCell (p := ⟨Z, 1, none⟩) (.inr rfl) _).setCell (p := ⟨Z, 2, none⟩) (.inr rfl) _).setCell (p := ⟨Z, 3, none⟩) (.inr rfl) _).setCell (p := ⟨Z, 4, none⟩) (.inr rfl) _).setCell (p := ⟨Z, 5, none⟩) (.inr rfl) _).setCell (p := ⟨Z, 6, none⟩) (.inr rfl) _
    have hS2 : Keeps (· = r) W (((((((wx.setCell ⟨Z, 0, none⟩ (.int .i64 3)).setCell ⟨Z, 1, none⟩ (.string ⟨#[]⟩)).setCell ⟨Z, 2, none⟩ (.string Y)).setCell ⟨Z, 3, none⟩ (.slice none 0 0)).setCell ⟨Z, 4, none⟩ (.int .i64 file)).setCell ⟨Z, 5, none⟩ (.int .i64 tl)).setCell ⟨Z, 6, none⟩ (.int .i64 tc)) := ((((((hS.setCell (p := ⟨Z, 0, none⟩) (.inl q2) _).setCell (p := ⟨Z, 1, none⟩) (.inl q2) _).setCell (p := ⟨Z, 2, none⟩) (.inl q2) _).setCell (p := ⟨Z, 3, none⟩) (.inl q2) _).setCell (p := ⟨Z, 4, none⟩) (.inl q2) _).setCell (p := ⟨Z, 5, none⟩) (.inl q2) _).setCell (p := ⟨Z, 6, none⟩) (.inl q2) _
    have hfin := ((((((q1.set 0 (.int .i64 3)).set 1 (.string ⟨#[]⟩)).set 2 (.string Y)).set 3 (.slice none 0 0)).set 4 (.int .i64 file)).set 5 (.int .i64 tl)).set 6 (.int .i64 tc)
    refine hK' _ _ ⟨Y, Z, hI.stepN 5 rfl _ ho2 hall hS2 (fun _ _ h => PgF.world h) trivial, ?_⟩
    constructor
    · rw [set_other (show 5 ≠ 1 by decide)]; intro a; rw [y1] at a; cases a
    · intro _; exact hT.turn h0 hij hS2 (fun hx => hx.keeps hk2 (fun e => q3 e.symm))
    · refine hE.pos.keeps hk2 (fun e => ?_)
      have e2 : P = Z := e
      subst e2
      have := hE.pos.symm.trans q1
      injection this with this; injection this with _ this; exact absurd this (by decide)
    · intro _ a; rw [set_here (by omega)] at a; cases a
    · intro _; exact ⟨hfin, q2, q3⟩
end Go.Proofs.YtofhcgbihonckaaGreat
namespace Go.Proofs.YtofhcgbihonckaaGreat
open Go.RowKit
set_option maxRecDepth 100000 in
set_option maxHeartbeats 4000000 in
theorem r4_member_labx (r base : Nat) (file : Int) (L : List Tok) (lv : Value) (w : World) (ov : Value) (i : Nat) (D : List DefT) (h : R4At w r base file L lv ov i D) (dp : Nat) (hdp : dp ≤ 50) (h5 : (tkN L i).kind = 5) (hl : labelT (tkN L i).text = false) :
    Calls Tryz.prog 109 #[.pointer (some ⟨r, 0, none⟩), .int .i64 (dp : Int)] w (R4Out r base file L lv D (.error (i, 1)) w) := by
  obtain ⟨c0, c1, c2, c3, _, _, _, f1, f2, f3, _, _, _, cl⟩ := h.cells
  obtain ⟨n1, n2⟩ := h.num
  have HH := Lib.hid h
  have HNX := Lib.hid (h.ok.next h.lt (by rw [h5]; decide))
  obtain ⟨g, cap, rfl, hg, d0, d1, d2, d3, d4, d5⟩ := h.toks.at h.lt
  have gl : g < w.heap.size := World.block_lt_of_cell? w _ d0
  rw [h5] at d0
  obtain ⟨tl, htl⟩ : ∃ t, t = (tkN L i).line := ⟨_, rfl⟩
  obtain ⟨tc, htc⟩ : ∃ t, t = (tkN L i).col := ⟨_, rfl⟩
  rw [← htl] at d4
  rw [← htc] at d5
  have HTL := Lib.hid htl
  have HTC := Lib.hid htc
  clear htl htc
  have hN := Holds.new w #[.int .i64 0, .int .i64 0, .int .i64 0] 27
  have hbl : Below w.heap.size w (w.alloc (.cells #[.int .i64 0, .int .i64 0, .int .i64 0] 27)) := (Below.refl _ _).alloc (Nat.le_refl _) _
  have c0' := (hbl.cell cl).trans c0
  have c1' := (hbl.cell cl).trans c1
  have d3' := (hbl.cell gl).trans d3
  have d4' := (hbl.cell gl).trans d4
  have d5' := (hbl.cell gl).trans d5
  obtain ⟨m0, m1, m2, mf0, mf1, mf2, ml⟩ := three hN
  have hM := (Holds.new w #[.int .i64 file, .int .i64 tl, .int .i64 tc] 27).drew
  have hk3 : Keeps (fun _ => False) w (w.alloc (.cells #[.int .i64 file, .int .i64 tl, .int .i64 tc] 27)).drew := ((Keeps.refl _ w).alloc _).drew
  have h3 := h.keeps hk3
  obtain ⟨x0, x1, x2, _, _, _, xl⟩ := three hM
  obtain ⟨y0, y1, _, y3, _, _, _, z1, _, z3, _, _, _, yl⟩ := h3.cells
  have e0 := (hk3.cell (p := ⟨g, i * 6, none⟩) gl (fun e => e)).trans d0
  have gl3 := Nat.lt_of_lt_of_le gl hk3.size
  have H3 := Lib.hid h3
  have HK3 := Lib.hid hk3
  have HM := Lib.hid hM
  have HW3 := Lib.hid (fun wx hx => r4_word3 wx r base file L (.slice (some ⟨g, 0, none⟩) L.length cap) ov i D hx 5 (by decide))
  rw [show takenR L 5 (rightH 3) i = .error (i, 1) from by unfold takenR; rw [if_pos h5]; exact if_neg (by show ¬ labelT _ = true; rw [hl]; exact Bool.false_ne_true)] at HW3
  have hdp1 : (dp : Int) ≤ 50 := by omega
  have hPr : w.heap.size ≠ r := by omega
  have HLOW := Lib.hid (show ∀ b, b < base → ¬ b = r from fun b hb e => by have := h.low; omega)
  clear h h5 hl hN hbl hM hk3 h3
  go_enter Tryz.func109, Tryz.ntmps109
  go_wp2_with fail
  go_region
  generalize (w.alloc (.cells #[.int .i64 file, .int .i64 tl, .int .i64 tc] 27)).drew = w3 at *
  clear c0 c1 c2 c3 d0 d1 d2 d3 d4 d5 c0' c1' d3' d4' d5' m0 m1 m2 mf0 mf1 mf2 ml gl cl f1 f2 f3
  go_wp2_with fail
  go_quiet (fail)
  go_wp2_with fail
  go_quiet (fail)
  go_wp2_with fail
  refine (by exact HW3.out _ (by exact H3.out.keeps (keeps_draws _ _)) : Calls _ _ _ _ _).mono ?_
  rintro e w4 ⟨hk4, rfl, hb4⟩
  have HB4 := Lib.hid hb4
  have HK4 := Lib.hid (((HK3.out.trans (keeps_draws _ _) (fun _ _ e => e)).mono (S := (· = r)) (fun _ _ e => e.elim)).trans hk4 (fun _ _ e => e))
  obtain ⟨hc0, lv', x', ov', hH⟩ := id hb4
  have b3 := hH.cell 3
  have bl := hH.lt
  clear hb4 hk4 hH hc0
  go_wp2_with fail
  refine bodyPost_ret (results_none rfl _ _ _) rfl ?_
  exact ⟨rfl, HK4.out.below HH.out.size HLOW.out, HB4.out⟩
set_option maxRecDepth 100000 in
set_option maxHeartbeats 4000000 in
theorem r4_member_labn (r base : Nat) (file : Int) (L : List Tok) (lv : Value) (w : World) (ov : Value) (i : Nat) (D : List DefT) (h : R4At w r base file L lv ov i D) (dp : Nat) (hdp : dp ≤ 50) (h5 : (tkN L i).kind = 5) (hl : labelT (tkN L i).text = true) (h1 : (tkN L (i + 1)).kind ≠ 1) :
    Calls Tryz.prog 109 #[.pointer (some ⟨r, 0, none⟩), .int .i64 (dp : Int)] w (R4Out r base file L lv D (.error (i + 1, 6)) w) := by
  obtain ⟨c0, c1, c2, c3, _, _, _, f1, f2, f3, _, _, _, cl⟩ := h.cells
  obtain ⟨n1, n2⟩ := h.num
  have HH := Lib.hid h
  have HNX := Lib.hid (h.ok.next h.lt (by rw [h5]; decide))
  obtain ⟨g, cap, rfl, hg, d0, d1, d2, d3, d4, d5⟩ := h.toks.at h.lt
  have gl : g < w.heap.size := World.block_lt_of_cell? w _ d0
  rw [h5] at d0
  obtain ⟨tl, htl⟩ : ∃ t, t = (tkN L i).line := ⟨_, rfl⟩
  obtain ⟨tc, htc⟩ : ∃ t, t = (tkN L i).col := ⟨_, rfl⟩
  rw [← htl] at d4
  rw [← htc] at d5
  have HTL := Lib.hid htl
  have HTC := Lib.hid htc
  clear htl htc
  have hN := Holds.new w #[.int .i64 0, .int .i64 0, .int .i64 0] 27
  have hbl : Below w.heap.size w (w.alloc (.cells #[.int .i64 0, .int .i64 0, .int .i64 0] 27)) := (Below.refl _ _).alloc (Nat.le_refl _) _
  have c0' := (hbl.cell cl).trans c0
  have c1' := (hbl.cell cl).trans c1
  have d3' := (hbl.cell gl).trans d3
  have d4' := (hbl.cell gl).trans d4
  have d5' := (hbl.cell gl).trans d5
  obtain ⟨m0, m1, m2, mf0, mf1, mf2, ml⟩ := three hN
  have hM := (Holds.new w #[.int .i64 file, .int .i64 tl, .int .i64 tc] 27).drew
  have hk3 : Keeps (fun _ => False) w (w.alloc (.cells #[.int .i64 file, .int .i64 tl, .int .i64 tc] 27)).drew := ((Keeps.refl _ w).alloc _).drew
  have h3 := h.keeps hk3
  obtain ⟨x0, x1, x2, _, _, _, xl⟩ := three hM
  obtain ⟨y0, y1, _, y3, _, _, _, z1, _, z3, _, _, _, yl⟩ := h3.cells
  have e0 := (hk3.cell (p := ⟨g, i * 6, none⟩) gl (fun e => e)).trans d0
  have gl3 := Nat.lt_of_lt_of_le gl hk3.size
  have H3 := Lib.hid h3
  have HK3 := Lib.hid hk3
  have HM := Lib.hid hM
  have HW3 := Lib.hid (fun wx hx => r4_word3 wx r base file L (.slice (some ⟨g, 0, none⟩) L.length cap) ov i D hx 5 (by decide))
  rw [show takenR L 5 (rightH 3) i = .ok (i + 1) from by unfold takenR; rw [if_pos h5]; exact if_pos hl] at HW3
  have hdp1 : (dp : Int) ≤ 50 := by omega
  have hPr : w.heap.size ≠ r := by omega
  have HLOW := Lib.hid (show ∀ b, b < base → ¬ b = r from fun b hb e => by have := h.low; omega)
  have HF := Lib.hid (fun wx hx => r4_fail wx r base file L (.slice (some ⟨g, 0, none⟩) L.length cap) ov (i + 1) D hx 6 (by decide))
  have hkb : ((tkN L (i + 1)).kind != 1) = true := by rw [bne_iff_ne]; exact h1
  clear h h5 hl hN hbl hM hk3 h3 h1
  go_enter Tryz.func109, Tryz.ntmps109
  go_wp2_with fail
  go_region
  generalize (w.alloc (.cells #[.int .i64 file, .int .i64 tl, .int .i64 tc] 27)).drew = w3 at *
  clear c0 c1 c2 c3 d0 d1 d2 d3 d4 d5 c0' c1' d3' d4' d5' m0 m1 m2 mf0 mf1 mf2 ml gl cl f1 f2 f3
  go_wp2_with fail
  go_quiet (fail)
  go_wp2_with fail
  go_quiet (fail)
  go_wp2_with fail
  refine (by exact HW3.out _ (by exact H3.out.keeps (keeps_draws _ _)) : Calls _ _ _ _ _).mono ?_
  rintro e w4 ⟨hk4, rfl, ha4⟩
  have HA4 := Lib.hid ha4
  have hk34 := ((keeps_draws w3 _).mono (S := (· = r)) (fun _ _ e => e.elim)).trans hk4 (fun _ _ e => e)
  have HM4 := Lib.hid (HM.out.keeps hk34 hPr)
  have HK4 := Lib.hid ((HK3.out.mono (S := (· = r)) (fun _ _ e => e.elim)).trans hk34 (fun _ _ e => e))
  obtain ⟨b0, b1, _, b3, _, _, _, _, _, _, _, _, _, bl⟩ := ha4.cells
  obtain ⟨g1, cap1, eg1, hg1, k0, _⟩ := ha4.toks.at ha4.lt
  cases eg1
  have kl : g < w4.heap.size := World.block_lt_of_cell? w4 _ k0
  obtain ⟨n3, n4⟩ := ha4.num
  generalize (tkN L (i + 1)).kind = kd at *
  clear ha4 hk4 hk34
  go_wp2_with fail
  go_quiet (fail)
  go_wp2_with fail
  refine (by exact HF.out _ (HA4.out.keeps (keeps_draws _ _)) : Calls _ _ _ _ _).mono ?_
  rintro e w6 ⟨rfl, hbad, hk6⟩
  have HB6 := Lib.hid hbad
  have HK6 := Lib.hid ((HK4.out.trans (keeps_draws w4 _) (fun _ _ e => e.elim)).trans hk6 (fun _ _ e => e))
  clear hbad hk6
  go_wp2_with fail
  refine bodyPost_ret (results_none rfl _ _ _) rfl ?_
  exact ⟨rfl, HK6.out.below HH.out.size HLOW.out, HB6.out⟩
end Go.Proofs.YtofhcgbihonckaaGreat
namespace Go.Proofs.YtofhcgbihonckaaGreat
open Go.RowKit
set_option maxRecDepth 100000 in
set_option maxHeartbeats 4000000 in
theorem r4_member_labd (n : Nat) (r base : Nat) (file : Int) (L : List Tok) (lv : Value) (w : World) (ov : Value) (i : Nat) (D : List DefT) (h : R4At w r base file L lv ov i D) (dp : Nat) (hdp : dp ≤ 50) (h5 : (tkN L i).kind = 5) (hB : B4C r base file L lv n) (hl : labelT (tkN L i).text = true) (h1 : (tkN L (i + 1)).kind = 1) (hcD : D.length ≤ 2 * i) (hn : 3 * (L.length - i) ≤ n + 1) :
    Calls Tryz.prog 109 #[.pointer (some ⟨r, 0, none⟩), .int .i64 (dp : Int)] w (R4Out r base file L lv D (endB4 L (seqR (takenR L 1 nameT (i + 1)) (srcE L n (.body ⟨1, txN L i, txN L (i + 1), [], (tkN L i).line, (tkN L i).col⟩ (dp + 1)) (i + 1 + 1)))) w) := by
  obtain ⟨c0, c1, c2, c3, _, _, _, f1, f2, f3, _, _, _, cl⟩ := h.cells
  obtain ⟨n1, n2⟩ := h.num
  have HH := Lib.hid h
  have HNX := Lib.hid (h.ok.next h.lt (by rw [h5]; decide))
  obtain ⟨g, cap, rfl, hg, d0, d1, d2, d3, d4, d5⟩ := h.toks.at h.lt
  have gl : g < w.heap.size := World.block_lt_of_cell? w _ d0
  rw [h5] at d0
  obtain ⟨tl, htl⟩ : ∃ t, t = (tkN L i).line := ⟨_, rfl⟩
  obtain ⟨tc, htc⟩ : ∃ t, t = (tkN L i).col := ⟨_, rfl⟩
  rw [← htl] at d4
  rw [← htc] at d5
  have HTL := Lib.hid htl
  have HTC := Lib.hid htc
  clear htl htc
  have hN := Holds.new w #[.int .i64 0, .int .i64 0, .int .i64 0] 27
  have hbl : Below w.heap.size w (w.alloc (.cells #[.int .i64 0, .int .i64 0, .int .i64 0] 27)) := (Below.refl _ _).alloc (Nat.le_refl _) _
  have c0' := (hbl.cell cl).trans c0
  have c1' := (hbl.cell cl).trans c1
  have d3' := (hbl.cell gl).trans d3
  have d4' := (hbl.cell gl).trans d4
  have d5' := (hbl.cell gl).trans d5
  obtain ⟨m0, m1, m2, mf0, mf1, mf2, ml⟩ := three hN
  have hM := (Holds.new w #[.int .i64 file, .int .i64 tl, .int .i64 tc] 27).drew
  have hk3 : Keeps (fun _ => False) w (w.alloc (.cells #[.int .i64 file, .int .i64 tl, .int .i64 tc] 27)).drew := ((Keeps.refl _ w).alloc _).drew
  have h3 := h.keeps hk3
  obtain ⟨x0, x1, x2, _, _, _, xl⟩ := three hM
  obtain ⟨y0, y1, _, y3, _, _, _, z1, _, z3, _, _, _, yl⟩ := h3.cells
  have e0 := (hk3.cell (p := ⟨g, i * 6, none⟩) gl (fun e => e)).trans d0
  have gl3 := Nat.lt_of_lt_of_le gl hk3.size
  have H3 := Lib.hid h3
  have HK3 := Lib.hid hk3
  have HM := Lib.hid hM
  have HW3 := Lib.hid (fun wx hx => r4_word3 wx r base file L (.slice (some ⟨g, 0, none⟩) L.length cap) ov i D hx 5 (by decide))
  rw [show takenR L 5 (rightH 3) i = .ok (i + 1) from by unfold takenR; rw [if_pos h5]; exact if_pos hl] at HW3
  have hdp1 : (dp : Int) ≤ 50 := by omega
  have hPr : w.heap.size ≠ r := by omega
  have HLOW := Lib.hid (show ∀ b, b < base → ¬ b = r from fun b hb e => by have := h.low; omega)
  have HNX2 := Lib.hid (h.ok.next HNX.out (by rw [h1]; decide))
  have HWD := Lib.hid (fun wx hx => r4_word1 wx r base file L (.slice (some ⟨g, 0, none⟩) L.length cap) ov (i + 1) D hx 1 (by decide))
  have hlne := Lib.hid (show ((txN L i).toList == []) = false from by
    rw [beq_eq_false_iff_ne, ByteArray.toList_eq]
    intro e
    have e2 : (tkN L i).text = [] := by unfold txN at e; simpa using e
    rw [e2] at hl
    revert hl
    decide)
  obtain ⟨LX, hLX⟩ : ∃ x, x = txN L i := ⟨_, rfl⟩
  unfold R4WordOut at HW3
  rw [← hLX] at HW3 hlne
  rw [← hLX]
  obtain ⟨BR, hBR⟩ : ∃ R, R = srcE L n (.body ⟨1, LX, txN L (i + 1), [], (tkN L i).line, (tkN L i).col⟩ (dp + 1)) (i + 1 + 1) := ⟨_, rfl⟩
  have HBD : Hid (∀ wx ovx, R4At wx r base file L (.slice (some ⟨g, 0, none⟩) L.length cap) ovx (i + 1 + 1) (D ++ [⟨1, LX, txN L (i + 1), [], tl, tc⟩]) → Calls Tryz.prog 66 #[.pointer (some ⟨r, 0, none⟩), .int .i64 ((dp : Int) + 1)] wx (R4Out r base file L (.slice (some ⟨g, 0, none⟩) L.length cap) D BR wx)) := Lib.hid (fun wx ovx hx => by
    have h9 := hB wx ovx (i + 1 + 1) D ⟨1, LX, txN L (i + 1), [], tl, tc⟩ (dp + 1) hx (by omega) (by omega) (by omega)
    rw [show ((dp + 1 : Nat) : Int) = (dp : Int) + 1 from by omega, HTL.out, HTC.out, ← hBR] at h9
    exact h9)
  rw [← hBR]
  obtain ⟨T, hT⟩ : ∃ T, T = takenR L 1 (rightH 1) (i + 1) := ⟨_, rfl⟩
  rw [← hT] at HWD
  have hT2 : takenR L 1 nameT (i + 1) = T := hT.symm
  rw [hT2]
  have HJ2 := Lib.hid (show ∀ j, T = .ok j → j = i + 1 + 1 from fun j e => taken4_ok (by rw [← hT]; exact e))
  have HCD := Lib.hid (show D.length ≤ 2 * (i + 1) from by omega)
  clear h h5 hl hN hbl hM hk3 h3 hBR hT hT2 hLX hB hcD
  go_enter Tryz.func109, Tryz.ntmps109
  go_wp2_with fail
  go_region
  generalize (w.alloc (.cells #[.int .i64 file, .int .i64 tl, .int .i64 tc] 27)).drew = w3 at *
  clear c0 c1 c2 c3 d0 d1 d2 d3 d4 d5 c0' c1' d3' d4' d5' m0 m1 m2 mf0 mf1 mf2 ml gl cl f1 f2 f3
  go_wp2_with fail
  go_quiet (fail)
  go_wp2_with fail
  go_quiet (fail)
  go_wp2_with fail
  refine (by exact HW3.out _ (by exact H3.out.keeps (keeps_draws _ _)) : Calls _ _ _ _ _).mono ?_
  rintro e w4 ⟨hk4, rfl, ha4⟩
  have HA4 := Lib.hid ha4
  have hk34 := ((keeps_draws w3 _).mono (S := (· = r)) (fun _ _ e => e.elim)).trans hk4 (fun _ _ e => e)
  have HM4 := Lib.hid (HM.out.keeps hk34 hPr)
  have HK4 := Lib.hid ((HK3.out.mono (S := (· = r)) (fun _ _ e => e.elim)).trans hk34 (fun _ _ e => e))
  obtain ⟨b0, b1, _, b3, _, _, _, _, _, _, _, _, _, bl⟩ := ha4.cells
  obtain ⟨g1, cap1, eg1, hg1, k0, _⟩ := ha4.toks.at ha4.lt
  cases eg1
  have kl : g < w4.heap.size := World.block_lt_of_cell? w4 _ k0
  obtain ⟨n3, n4⟩ := ha4.num
  rw [h1] at k0
  clear ha4 hk4 hk34 h1
  go_wp2_with fail
  go_quiet (fail)
  go_wp2_with fail
  generalize hw5 : World.drewN w4 _ = w5
  have hk5 : Keeps (fun _ => False) w4 w5 := by rw [← hw5]; exact keeps_draws _ _
  have H5 := Lib.hid (HA4.out.keeps hk5)
  have HM5 := Lib.hid (HM4.out.keeps hk5 (fun e => e))
  have HK5 := Lib.hid (HK4.out.trans hk5 (fun _ _ e => e.elim))
  obtain ⟨g', cap', eg, hg', q0, q1, q2, q3, q4, q5⟩ := H5.out.toks.at HNX2.out
  cases eg
  obtain ⟨kd, hkd⟩ : ∃ x, x = (tkN L (i + 1 + 1)).kind := ⟨_, rfl⟩
  obtain ⟨tx, htx⟩ : ∃ x, x = (tkN L (i + 1 + 1)).text := ⟨_, rfl⟩
  rw [← hkd] at q0
  rw [← htx] at q1
  clear hkd htx
  have ql : g < w5.heap.size := World.block_lt_of_cell? w5 _ q0
  obtain ⟨b0, b1, _, b3, _, _, _, _, _, _, _, _, _, bl⟩ := H5.out.cells
  generalize (tkN L (i + 1 + 1)).value = tv at *
  generalize (tkN L (i + 1 + 1)).line = tl2 at *
  generalize (tkN L (i + 1 + 1)).col = tc2 at *
  have hNT := Holds.new w5 #[.int .i64 0, .string ⟨#[]⟩, .int .i64 0, .int .i64 0, .int .i64 0, .int .i64 0] 65
  have hbt : Below w5.heap.size w5 (w5.alloc (.cells #[.int .i64 0, .string ⟨#[]⟩, .int .i64 0, .int .i64 0, .int .i64 0, .int .i64 0] 65)) := (Below.refl _ _).alloc (Nat.le_refl _) _
  have b0' := (hbt.cell bl).trans b0
  have b1' := (hbt.cell bl).trans b1
  have q0' := (hbt.cell ql).trans q0
  have q1' := (hbt.cell ql).trans q1
  have q2' := (hbt.cell ql).trans q2
  have q3' := (hbt.cell ql).trans q3
  have q4' := (hbt.cell ql).trans q4
  have q5' := (hbt.cell ql).trans q5
  obtain ⟨g0, g1, g2, g3, g4, g5⟩ := six_free hNT
  obtain ⟨o0, o1, o2, o3, o4, o5⟩ := six_cells hNT
  have hlt := hNT.lt
  have hk6 : Keeps (fun _ => False) w5 (w5.alloc (.cells #[.int .i64 kd, .string ⟨tx.toArray⟩, .int .i64 tv, .int .i64 file, .int .i64 tl2, .int .i64 tc2] 65)).drew := ((Keeps.refl _ w5).alloc _).drew
  have hMT := (Holds.new w5 #[.int .i64 kd, .string ⟨tx.toArray⟩, .int .i64 tv, .int .i64 file, .int .i64 tl2, .int .i64 tc2] 65).drew
  obtain ⟨u0, u1, _, _, _, _⟩ := six_cells hMT
  have ul := hMT.lt
  have h6 := H5.out.keeps hk6
  have HM6 := Lib.hid (HM5.out.keeps hk6 (fun e => e))
  have HK6 := Lib.hid (HK5.out.trans hk6 (fun _ _ e => e.elim))
  obtain ⟨s0, s1, _, s3, _, _, _, r1, _, _, _, _, _, sl⟩ := h6.cells
  have H6 := Lib.hid h6
  have HMT := Lib.hid hMT
  have hw1 : IntKind.i64.wrap ((((i + 1) : Nat) : Int) + 1) = (((i + 1) : Nat) : Int) + 1 := IntWalk.i64_in _ (by omega)
  have hw2 : (0 : Int) ≤ (((i + 1) : Nat) : Int) + 1 := by omega
  have hw3 : (((i + 1) : Nat) : Int) + 1 < (L.length : Int) := by have := HNX2.out; omega
  have hw4 : ((((i + 1) : Nat) : Int) + 1).toNat = (i + 1) + 1 := by omega
  clear hNT hbt hk6 hMT h6 hk5
  go_region
  generalize (w5.alloc (.cells #[.int .i64 kd, .string ⟨tx.toArray⟩, .int .i64 tv, .int .i64 file, .int .i64 tl2, .int .i64 tc2] 65)).drew = w6 at *
  clear hw1 hw2 hw3 hw4 b0 b1 b3 bl b0' b1' q0 q1 q2 q3 q4 q5 q0' q1' q2' q3' q4' q5' g0 g1 g2 g3 g4 g5 o0 o1 o2 o3 o4 o5 hlt ql
  have hlne2 := hlne.out
  go_upto_region 18 with fail
  obtain ⟨p0, p1, p2, _, _, _, pl⟩ := three HM6.out
  cases T with
  | ok j =>
    have hj2 := HJ2.out j rfl
    have HAD := Lib.hid (fun wx ovx (hx : R4At wx r base file L (.slice (some ⟨g, 0, none⟩) L.length cap) ovx j D) (X : ByteArray) => r4_add_at wx r base file L (.slice (some ⟨g, 0, none⟩) L.length cap) ovx j D ⟨1, LX, X, [], tl, tc⟩ (.slice none 0 0) hx (PartsRow.none _ _) (by have := HCD.out; omega))
    go_region_with (first | (go_at_call 65; refine (by exact HWD.out _ (by exact H6.out.keeps ((Keeps.refl _ _).drew)) : Calls _ _ _ _ _).mono ?_; rintro e w7 ⟨hk7, rfl, ha7⟩; have HA7 := Lib.hid ha7; have hk67 := (((Keeps.refl (fun _ => False) w6).drew).mono (S := (· = r)) (fun _ _ e => e.elim)).trans hk7 (fun _ _ e => e); have hM7 := HM6.out.keeps hk67 hPr; obtain ⟨v0, v1, v2, _, _, _, vl⟩ := three hM7; have HK7 := Lib.hid (HK6.out.trans hk67 (fun _ _ e => e)); clear ha7 hk7 hk67 hM7) | (go_at_call 64; refine (by exact HAD.out _ _ HA7.out _ : Calls _ _ _ _ _).mono ?_; rintro e w8 ⟨rfl, ov8, ha8, hb8⟩))
    all_goals
      have HBY := Lib.hid (HBD.out w8 ov8 (by rw [hj2] at ha8; exact ha8))
      have HB8 := Lib.hid (((HK7.out.below HH.out.size HLOW.out)).trans hb8)
      clear ha8 hb8
      go_wp2_with fail
      refine (by exact HBY.out : Calls _ _ _ _ _).mono ?_
      rintro e w9 ⟨rfl, hb9, hm9⟩
      have HB9 := Lib.hid (HB8.out.trans hb9)
      clear hb9
      cases BR with
      | ok q =>
        obtain ⟨m, ds⟩ := q
        obtain ⟨ov9, ha9, hc9⟩ := hm9
        have HTK := Lib.hid (r4_take w9 r base file L _ ov9 m (D ++ ds) ha9 [59] (by decide))
        have HC9 := Lib.hid hc9
        have HS9 := Lib.hid ha9.size
        clear ha9 hc9
        go_wp2_with fail
        refine (by exact HTK.out : Calls _ _ _ _ _).mono ?_
        rintro e w10 ⟨rfl, hk10, t1, t2⟩
        have HT10 := Lib.hid (And.intro t1 t2)
        have HB10 := Lib.hid (HB9.out.trans (hk10.below HS9.out HLOW.out))
        clear hk10 t1 t2
        go_wp2_with fail
        refine bodyPost_ret (results_none rfl _ _ _) rfl ?_
        refine ⟨rfl, HB10.out, ?_⟩
        cases hg : isK L m 4 [59] with
        | true =>
          rw [show endB4 L (seqR (.ok j) (.ok (m, ds))) = _ from endB4_ok hg]
          exact ⟨ov9, HT10.out.1 hg, by have := HC9.out; omega⟩
        | false =>
          rw [show endB4 L (seqR (.ok j) (.ok (m, ds))) = _ from endB4_bad hg]
          exact HT10.out.2 hg
      | error q =>
        obtain ⟨k, c⟩ := q
        have HBD9 := Lib.hid hm9
        clear hm9
        have HTB := Lib.hid (r4_take_bad w9 r file L k c HBD9.out ⟨#[59]⟩)
        go_wp2_with fail
        refine (by exact HTB.out : Calls _ _ _ _ _).mono ?_
        rintro e w10 ⟨rfl, rfl⟩
        go_wp2_with fail
        refine bodyPost_ret (results_none rfl _ _ _) rfl ?_
        exact ⟨rfl, HB9.out, HBD9.out⟩
  | error q =>
    obtain ⟨k, c⟩ := q
    go_region_with (first | (go_at_call 65; refine (by exact HWD.out _ (by exact H6.out.keeps ((Keeps.refl _ _).drew)) : Calls _ _ _ _ _).mono ?_; rintro e w7 ⟨hk7, rfl, ha7⟩; have HA7 := Lib.hid ha7; have hk67 := (((Keeps.refl (fun _ => False) w6).drew).mono (S := (· = r)) (fun _ _ e => e.elim)).trans hk7 (fun _ _ e => e); have hM7 := HM6.out.keeps hk67 hPr; obtain ⟨v0, v1, v2, _, _, _, vl⟩ := three hM7; have HK7 := Lib.hid (HK6.out.trans hk67 (fun _ _ e => e)); clear ha7 hk7 hk67 hM7) | (go_at_call 64; refine (by exact r4_add_bad _ r file L k c HA7.out _ _ _ _ _ _ _ _ _ : Calls _ _ _ _ _).mono ?_; rintro e w8 ⟨rfl, ha8, hk8⟩))
    all_goals
      have HBB : Hid (Calls Tryz.prog 66 #[.pointer (some ⟨r, 0, none⟩), .int .i64 ((dp : Int) + 1)] w8 (fun e w' => e = .returned (.tuple #[]) ∧ w8 = w')) := Lib.hid (by
        have h9 := r4_body_bad w8 r file L k c ha8 (dp + 1) (by omega)
        rw [show ((dp + 1 : Nat) : Int) = (dp : Int) + 1 from by omega] at h9
        exact h9)
      have HB8 := Lib.hid ((HK7.out.trans (hk8.mono (S := (· = r)) (fun _ _ e => e.elim)) (fun _ _ e => e)).below HH.out.size HLOW.out)
      have HA8 := Lib.hid ha8
      clear ha8 hk8
      go_wp2_with fail
      refine (by exact HBB.out : Calls _ _ _ _ _).mono ?_
      rintro e w9 ⟨rfl, rfl⟩
      have HTB := Lib.hid (r4_take_bad w8 r file L k c HA8.out ⟨#[59]⟩)
      go_wp2_with fail
      refine (by exact HTB.out : Calls _ _ _ _ _).mono ?_
      rintro e w10 ⟨rfl, rfl⟩
      go_wp2_with fail
      refine bodyPost_ret (results_none rfl _ _ _) rfl ?_
      exact ⟨rfl, HB8.out, HA8.out⟩
end Go.Proofs.YtofhcgbihonckaaGreat
namespace Go.Proofs.YtofhcgbihonckaaGreat
open Go.RowKit
set_option maxRecDepth 100000 in
set_option maxHeartbeats 2000000 in
theorem r4_top_incl (w : World) (r base : Nat) (file : Int) (L : List Tok) (lv ov : Value) (i : Nat) (D : List DefT) (h : R4At w r base file L lv ov i D) (hk : (tkN L i).kind = 7) (h1 : isK L i 7 [105, 110, 99, 108, 117, 100, 101] = true) (hcD : D.length ≤ 2 * i) :
    Calls Tryz.prog 34 #[.pointer (some ⟨r, 0, none⟩)] w (R4Out r base file L lv D (delR L 6 3 [] (fun _ => true) i) w) := by
  obtain ⟨c0, c1, c2, c3, _, _, _, f1, f2, f3, _, _, _, cl⟩ := h.cells
  obtain ⟨n1, n2⟩ := h.num
  have his1 := fun wx hx => r4_is wx r base file L lv ov i D hx 7 [105, 110, 99, 108, 117, 100, 101] (by decide)
  have HWD := Lib.hid (fun wx hx => r4_word4 wx r base file L lv ov (i + 1) D hx 3 (by decide))
  have HNX := Lib.hid (h.ok.next h.lt (by rw [hk]; decide))
  rw [h1] at his1
  have HI1 := Lib.hid his1
  have HF := Lib.hid (fun wx hx => r4_fail wx r base file L lv ov i D hx 6 (by decide))
  have HH := Lib.hid h
  obtain ⟨g, cap, rfl, hg, d0, d1, d2, d3, d4, d5⟩ := h.toks.at h.lt
  have gl : g < w.heap.size := World.block_lt_of_cell? w _ d0
  rw [hk] at d0
  obtain ⟨tl, htl⟩ : ∃ t, t = (tkN L i).line := ⟨_, rfl⟩
  obtain ⟨tc, htc⟩ : ∃ t, t = (tkN L i).col := ⟨_, rfl⟩
  rw [← htl] at d4
  rw [← htc] at d5
  have HTL := Lib.hid htl
  have HTC := Lib.hid htc
  clear htl htc
  have hN := Holds.new w #[.int .i64 0, .int .i64 0, .int .i64 0] 27
  have hbl : Below w.heap.size w (w.alloc (.cells #[.int .i64 0, .int .i64 0, .int .i64 0] 27)) := (Below.refl _ _).alloc (Nat.le_refl _) _
  have c0' := (hbl.cell cl).trans c0
  have c1' := (hbl.cell cl).trans c1
  have d3' := (hbl.cell gl).trans d3
  have d4' := (hbl.cell gl).trans d4
  have d5' := (hbl.cell gl).trans d5
  obtain ⟨m0, m1, m2, mf0, mf1, mf2, ml⟩ := three hN
  have hM := (Holds.new w #[.int .i64 file, .int .i64 tl, .int .i64 tc] 27).drew
  have hk3 : Keeps (fun _ => False) w (w.alloc (.cells #[.int .i64 file, .int .i64 tl, .int .i64 tc] 27)).drew := ((Keeps.refl _ w).alloc _).drew
  have h3 := h.keeps hk3
  obtain ⟨x0, x1, x2, _, _, _, xl⟩ := three hM
  obtain ⟨y0, y1, _, y3, _, _, _, z1, _, z3, _, _, _, yl⟩ := h3.cells
  have e0 := (hk3.cell (p := ⟨g, i * 6, none⟩) gl (fun e => e)).trans d0
  have gl3 := Nat.lt_of_lt_of_le gl hk3.size
  have H3 := Lib.hid h3
  have HK3 := Lib.hid hk3
  have HM := Lib.hid hM
  clear h hk h1 his1 hN hbl hM hk3 h3
  go_enter Tryz.func34, Tryz.ntmps34
  go_wp2_with fail
  go_region
  generalize (w.alloc (.cells #[.int .i64 file, .int .i64 tl, .int .i64 tc] 27)).drew = w3 at *
  go_wp2_with fail
  refine (by exact HI1.out _ H3.out : Calls _ _ _ _ _).mono ?_
  rintro e w4 ⟨rfl, hk4⟩
  have HK4 := Lib.hid hk4
  clear hk4
  have h4 := H3.out.keeps HK4.out
  have H4 := Lib.hid h4
  obtain ⟨_, b1, _, b3, _, _, _, a1, _, _, _, _, _, bl⟩ := h4.cells
  have HM4 := Lib.hid (HM.out.keeps HK4.out (fun e => e))
  have HKW := Lib.hid ((HK3.out.trans HK4.out (fun _ _ e => e)).mono (S := (· = r)) (fun _ _ e => e.elim))
  clear h4
  go_wp2_with fail
  obtain ⟨hs1, hs2⟩ := H4.out.step HNX.out
  have hM5 := HM4.out.keeps hs2 (by omega)
  obtain ⟨p0, p1, p2, _, _, _, pl⟩ := three hM5
  have H5 := Lib.hid hs1
  have HM5 := Lib.hid hM5
  have HKX := Lib.hid (HKW.out.trans hs2 (fun _ _ e => e))
  generalize w4.setCell ⟨r, 1, none⟩ (.int .i64 ((i : Int) + 1)) = w5 at *
  clear hs1 hs2 hM5 b1 b3 a1 bl
  obtain ⟨T, hT⟩ : ∃ T, T = takenR L 3 (rightH 4) (i + 1) := ⟨_, rfl⟩
  rw [← hT] at HWD
  have HTT := Lib.hid hT
  clear hT
  cases T with
  | ok j =>
    have HAD := Lib.hid (fun wx ovx (hx : R4At wx r base file L (.slice (some ⟨g, 0, none⟩) L.length cap) ovx j D) (X : ByteArray) (hj : i + 1 ≤ j) => r4_add_at wx r base file L (.slice (some ⟨g, 0, none⟩) L.length cap) ovx j D ⟨6, ⟨#[]⟩, X, [], tl, tc⟩ (.slice none 0 0) hx (PartsRow.none _ _) (by omega))
    have hj2 : j = i + 2 := taken4_ok HTT.out.symm
    have hPr : w.heap.size ≠ r := by omega
    go_region_with (first | (go_at_call 65; refine (by exact HWD.out _ (by exact H5.out.keeps ((Keeps.refl _ _).drew)) : Calls _ _ _ _ _).mono ?_; rintro e w6 ⟨hk6, rfl, ha6⟩; have HA6 := Lib.hid ha6; have hk56 := (((Keeps.refl (fun _ => False) w5).drew).mono (S := (· = r)) (fun _ _ e => e.elim)).trans hk6 (fun _ _ e => e); have hM6 := HM5.out.keeps hk56 hPr; obtain ⟨q0, q1, q2, _, _, _, ql⟩ := three hM6; have HK6 := Lib.hid (HKX.out.trans hk56 (fun _ _ e => e)); clear ha6 hk6 hk56 hM6) | (go_at_call 64; refine (by exact HAD.out _ _ HA6.out _ (by omega) : Calls _ _ _ _ _).mono ?_; rintro e w8 ⟨rfl, ov8, ha8, hb8⟩))
    all_goals
      have HTK := Lib.hid (r4_take w8 r base file L _ ov8 j _ ha8 [59] (by decide))
      have HB8 := Lib.hid hb8
      clear ha8 hb8
      go_wp2_with fail
      refine (by exact HTK.out : Calls _ _ _ _ _).mono ?_
      rintro e w9 ⟨rfl, hk9, t1, t2⟩
      have HT9 := Lib.hid (And.intro t1 t2)
      have HK9 := Lib.hid hk9
      clear hk9 t1 t2
      go_wp2_with fail
      refine bodyPost_ret (results_none rfl _ _ _) rfl ?_
      have hlow : ∀ b, b < base → ¬ b = r := fun b hb e => by have := HH.out.low; omega
      have hbel := ((HK6.out.below HH.out.size hlow).trans HB8.out).trans (HK9.out.below (Nat.le_trans HH.out.size (Nat.le_trans HK6.out.size HB8.out.size)) hlow)
      refine ⟨rfl, hbel, ?_⟩
      cases hg : isK L j 4 [59] with
      | true =>
        rw [show delR L 6 3 [] (fun _ => true) i = _ from del4_ok HTT.out.symm hg]
        refine ⟨ov8, ?_, by simp; omega⟩
        have h9 := HT9.out.1 hg
        rw [HTL.out, HTC.out] at h9
        exact h9
      | false =>
        rw [show delR L 6 3 [] (fun _ => true) i = _ from del4_bad HTT.out.symm hg]
        exact HT9.out.2 hg
  | error q =>
    obtain ⟨k, c⟩ := q
    have hPr : w.heap.size ≠ r := by omega
    go_region_with (first | (go_at_call 65; refine (by exact HWD.out _ (by exact H5.out.keeps ((Keeps.refl _ _).drew)) : Calls _ _ _ _ _).mono ?_; rintro e w6 ⟨hk6, rfl, ha6⟩; have HA6 := Lib.hid ha6; have hk56 := (((Keeps.refl (fun _ => False) w5).drew).mono (S := (· = r)) (fun _ _ e => e.elim)).trans hk6 (fun _ _ e => e); have hM6 := HM5.out.keeps hk56 hPr; obtain ⟨q0, q1, q2, _, _, _, ql⟩ := three hM6; have HK6 := Lib.hid (HKX.out.trans hk56 (fun _ _ e => e)); clear ha6 hk6 hk56 hM6) | (go_at_call 64; refine (by exact r4_add_bad _ r file L k c HA6.out _ _ _ _ _ _ _ _ _ : Calls _ _ _ _ _).mono ?_; rintro e w8 ⟨rfl, ha8, hk8⟩))
    all_goals
      have HTK := Lib.hid (r4_take_bad w8 r file L k c ha8 ⟨#[59]⟩)
      have HK8 := Lib.hid (HK6.out.trans (hk8.mono (S := (· = r)) (fun _ _ e => e.elim)) (fun _ _ e => e))
      have HA8 := Lib.hid ha8
      clear ha8 hk8
      go_wp2_with fail
      refine (by exact HTK.out : Calls _ _ _ _ _).mono ?_
      rintro e w9 ⟨rfl, rfl⟩
      go_wp2_with fail
      refine bodyPost_ret (results_none rfl _ _ _) rfl ?_
      refine ⟨rfl, HK8.out.below HH.out.size (fun b hb e => by have := HH.out.low; omega), ?_⟩
      rw [show delR L 6 3 [] (fun _ => true) i = _ from del4_err HTT.out.symm]
      exact HA8.out
end Go.Proofs.YtofhcgbihonckaaGreat
namespace Go.Proofs.YtofhcgbihonckaaGreat
open Go.RowKit
set_option maxRecDepth 100000 in
set_option maxHeartbeats 2000000 in
theorem r4_top_deln (w : World) (r base : Nat) (file : Int) (L : List Tok) (lv ov : Value) (i : Nat) (D : List DefT) (h : R4At w r base file L lv ov i D) (hk : (tkN L i).kind = 7) (h1 : isK L i 7 [105, 110, 99, 108, 117, 100, 101] = false) (h2 : isK L i 7 [100, 101, 108, 101, 116, 101, 45, 110, 111, 100, 101] = true) (hcD : D.length ≤ 2 * i) :
    Calls Tryz.prog 34 #[.pointer (some ⟨r, 0, none⟩)] w (R4Out r base file L lv D (delR L 5 6 [38] labelT i) w) := by
  obtain ⟨c0, c1, c2, c3, _, _, _, f1, f2, f3, _, _, _, cl⟩ := h.cells
  obtain ⟨n1, n2⟩ := h.num
  have his1 := fun wx hx => r4_is wx r base file L lv ov i D hx 7 [105, 110, 99, 108, 117, 100, 101] (by decide)
  have HWD := Lib.hid (fun wx hx => r4_word3 wx r base file L lv ov (i + 1) D hx 6 (by decide))
  have hAD := adds_of [38] (tkN L (i + 1)).text (by have := h.ok.at (i + 1); simp; omega)
  have hA0 := adds_of [38] [] (by simp)
  unfold Adds at hAD hA0
  unfold R4WordOut at HWD
  obtain ⟨XA, hXA⟩ : ∃ x : ByteArray, x = ⟨([38] ++ (tkN L (i + 1)).text).toArray⟩ := ⟨_, rfl⟩
  obtain ⟨X, hX⟩ : ∃ x, x = txN L (i + 1) := ⟨_, rfl⟩
  rw [← hXA] at hAD
  rw [show (⟨((tkN L (i + 1)).text).toArray⟩ : ByteArray) = X from hX.symm] at hAD
  rw [← hX] at HWD
  have HXA := Lib.hid hXA
  clear hXA hX
  have HNX := Lib.hid (h.ok.next h.lt (by rw [hk]; decide))
  have his2 := fun wx hx => r4_is wx r base file L lv ov i D hx 7 [100, 101, 108, 101, 116, 101, 45, 110, 111, 100, 101] (by decide)
  rw [h1] at his1
  rw [h2] at his2
  have HI2 := Lib.hid his2
  have HI1 := Lib.hid his1
  have HF := Lib.hid (fun wx hx => r4_fail wx r base file L lv ov i D hx 6 (by decide))
  have HH := Lib.hid h
  obtain ⟨g, cap, rfl, hg, d0, d1, d2, d3, d4, d5⟩ := h.toks.at h.lt
  have gl : g < w.heap.size := World.block_lt_of_cell? w _ d0
  rw [hk] at d0
  obtain ⟨tl, htl⟩ : ∃ t, t = (tkN L i).line := ⟨_, rfl⟩
  obtain ⟨tc, htc⟩ : ∃ t, t = (tkN L i).col := ⟨_, rfl⟩
  rw [← htl] at d4
  rw [← htc] at d5
  have HTL := Lib.hid htl
  have HTC := Lib.hid htc
  clear htl htc
  have hN := Holds.new w #[.int .i64 0, .int .i64 0, .int .i64 0] 27
  have hbl : Below w.heap.size w (w.alloc (.cells #[.int .i64 0, .int .i64 0, .int .i64 0] 27)) := (Below.refl _ _).alloc (Nat.le_refl _) _
  have c0' := (hbl.cell cl).trans c0
  have c1' := (hbl.cell cl).trans c1
  have d3' := (hbl.cell gl).trans d3
  have d4' := (hbl.cell gl).trans d4
  have d5' := (hbl.cell gl).trans d5
  obtain ⟨m0, m1, m2, mf0, mf1, mf2, ml⟩ := three hN
  have hM := (Holds.new w #[.int .i64 file, .int .i64 tl, .int .i64 tc] 27).drew
  have hk3 : Keeps (fun _ => False) w (w.alloc (.cells #[.int .i64 file, .int .i64 tl, .int .i64 tc] 27)).drew := ((Keeps.refl _ w).alloc _).drew
  have h3 := h.keeps hk3
  obtain ⟨x0, x1, x2, _, _, _, xl⟩ := three hM
  obtain ⟨y0, y1, _, y3, _, _, _, z1, _, z3, _, _, _, yl⟩ := h3.cells
  have e0 := (hk3.cell (p := ⟨g, i * 6, none⟩) gl (fun e => e)).trans d0
  have gl3 := Nat.lt_of_lt_of_le gl hk3.size
  have H3 := Lib.hid h3
  have HK3 := Lib.hid hk3
  have HM := Lib.hid hM
  clear h hk h1 h2 his1 his2 hN hbl hM hk3 h3
  go_enter Tryz.func34, Tryz.ntmps34
  go_wp2_with fail
  go_region
  generalize (w.alloc (.cells #[.int .i64 file, .int .i64 tl, .int .i64 tc] 27)).drew = w3 at *
  go_wp2_with fail
  refine (by exact HI1.out _ H3.out : Calls _ _ _ _ _).mono ?_
  rintro e w40 ⟨rfl, hk40⟩
  have HK40 := Lib.hid hk40
  clear hk40
  go_wp2_with fail
  refine (by exact HI2.out _ (H3.out.keeps HK40.out) : Calls _ _ _ _ _).mono ?_
  rintro e w4 ⟨rfl, hk4⟩
  have HK4 := Lib.hid (HK40.out.trans hk4 (fun _ _ e => e))
  clear hk4
  have h4 := H3.out.keeps HK4.out
  have H4 := Lib.hid h4
  obtain ⟨_, b1, _, b3, _, _, _, a1, _, _, _, _, _, bl⟩ := h4.cells
  have HM4 := Lib.hid (HM.out.keeps HK4.out (fun e => e))
  have HKW := Lib.hid ((HK3.out.trans HK4.out (fun _ _ e => e)).mono (S := (· = r)) (fun _ _ e => e.elim))
  clear h4
  go_wp2_with fail
  obtain ⟨hs1, hs2⟩ := H4.out.step HNX.out
  have hM5 := HM4.out.keeps hs2 (by omega)
  obtain ⟨p0, p1, p2, _, _, _, pl⟩ := three hM5
  have H5 := Lib.hid hs1
  have HM5 := Lib.hid hM5
  have HKX := Lib.hid (HKW.out.trans hs2 (fun _ _ e => e))
  generalize w4.setCell ⟨r, 1, none⟩ (.int .i64 ((i : Int) + 1)) = w5 at *
  clear hs1 hs2 hM5 b1 b3 a1 bl
  obtain ⟨T, hT⟩ : ∃ T, T = takenR L 6 (rightH 3) (i + 1) := ⟨_, rfl⟩
  rw [← hT] at HWD
  have HTT := Lib.hid hT
  clear hT
  cases T with
  | ok j =>
    have HAD := Lib.hid (fun wx ovx (hx : R4At wx r base file L (.slice (some ⟨g, 0, none⟩) L.length cap) ovx j D) (hj : i + 1 ≤ j) => r4_add_at wx r base file L (.slice (some ⟨g, 0, none⟩) L.length cap) ovx j D ⟨5, ⟨#[]⟩, XA, [], tl, tc⟩ (.slice none 0 0) hx (PartsRow.none _ _) (by omega))
    have hj2 : j = i + 2 := taken4_ok HTT.out.symm
    have hPr : w.heap.size ≠ r := by omega
    go_region_with (first | (go_at_call 65; refine (by exact HWD.out _ (by exact H5.out.keeps ((Keeps.refl _ _).drew)) : Calls _ _ _ _ _).mono ?_; rintro e w6 ⟨hk6, rfl, ha6⟩; have HA6 := Lib.hid ha6; have hk56 := (((Keeps.refl (fun _ => False) w5).drew).mono (S := (· = r)) (fun _ _ e => e.elim)).trans hk6 (fun _ _ e => e); have hM6 := HM5.out.keeps hk56 hPr; obtain ⟨q0, q1, q2, _, _, _, ql⟩ := three hM6; have HK6 := Lib.hid (HKX.out.trans hk56 (fun _ _ e => e)); clear ha6 hk6 hk56 hM6) | (go_at_call 64; refine (by exact HAD.out _ _ HA6.out (by omega) : Calls _ _ _ _ _).mono ?_; rintro e w8 ⟨rfl, ov8, ha8, hb8⟩))
    all_goals
      have HTK := Lib.hid (r4_take w8 r base file L _ ov8 j _ ha8 [59] (by decide))
      have HB8 := Lib.hid hb8
      clear ha8 hb8
      go_wp2_with fail
      refine (by exact HTK.out : Calls _ _ _ _ _).mono ?_
      rintro e w9 ⟨rfl, hk9, t1, t2⟩
      have HT9 := Lib.hid (And.intro t1 t2)
      have HK9 := Lib.hid hk9
      clear hk9 t1 t2
      go_wp2_with fail
      refine bodyPost_ret (results_none rfl _ _ _) rfl ?_
      have hlow : ∀ b, b < base → ¬ b = r := fun b hb e => by have := HH.out.low; omega
      have hbel := ((HK6.out.below HH.out.size hlow).trans HB8.out).trans (HK9.out.below (Nat.le_trans HH.out.size (Nat.le_trans HK6.out.size HB8.out.size)) hlow)
      refine ⟨rfl, hbel, ?_⟩
      cases hg : isK L j 4 [59] with
      | true =>
        rw [show delR L 5 6 [38] labelT i = _ from del4_ok HTT.out.symm hg]
        refine ⟨ov8, ?_, by simp; omega⟩
        have h9 := HT9.out.1 hg
        rw [HTL.out, HTC.out, HXA.out] at h9
        exact h9
      | false =>
        rw [show delR L 5 6 [38] labelT i = _ from del4_bad HTT.out.symm hg]
        exact HT9.out.2 hg
  | error q =>
    obtain ⟨k, c⟩ := q
    have hPr : w.heap.size ≠ r := by omega
    go_region_with (first | (go_at_call 65; refine (by exact HWD.out _ (by exact H5.out.keeps ((Keeps.refl _ _).drew)) : Calls _ _ _ _ _).mono ?_; rintro e w6 ⟨hk6, rfl, ha6⟩; have HA6 := Lib.hid ha6; have hk56 := (((Keeps.refl (fun _ => False) w5).drew).mono (S := (· = r)) (fun _ _ e => e.elim)).trans hk6 (fun _ _ e => e); have hM6 := HM5.out.keeps hk56 hPr; obtain ⟨q0, q1, q2, _, _, _, ql⟩ := three hM6; have HK6 := Lib.hid (HKX.out.trans hk56 (fun _ _ e => e)); clear ha6 hk6 hk56 hM6) | (go_at_call 64; refine (by exact r4_add_bad _ r file L k c HA6.out _ _ _ _ _ _ _ _ _ : Calls _ _ _ _ _).mono ?_; rintro e w8 ⟨rfl, ha8, hk8⟩))
    all_goals
      have HTK := Lib.hid (r4_take_bad w8 r file L k c ha8 ⟨#[59]⟩)
      have HK8 := Lib.hid (HK6.out.trans (hk8.mono (S := (· = r)) (fun _ _ e => e.elim)) (fun _ _ e => e))
      have HA8 := Lib.hid ha8
      clear ha8 hk8
      go_wp2_with fail
      refine (by exact HTK.out : Calls _ _ _ _ _).mono ?_
      rintro e w9 ⟨rfl, rfl⟩
      go_wp2_with fail
      refine bodyPost_ret (results_none rfl _ _ _) rfl ?_
      refine ⟨rfl, HK8.out.below HH.out.size (fun b hb e => by have := HH.out.low; omega), ?_⟩
      rw [show delR L 5 6 [38] labelT i = _ from del4_err HTT.out.symm]
      exact HA8.out
end Go.Proofs.YtofhcgbihonckaaGreat
namespace Go.Proofs.YtofhcgbihonckaaGreat
open Go.RowKit
set_option maxRecDepth 100000 in
set_option maxHeartbeats 4000000 in
theorem r4_top_ref (r base : Nat) (file : Int) (L : List Tok) (lv : Value) (w : World) (ov : Value) (i : Nat) (D : List DefT) (h : R4At w r base file L lv ov i D) (hB : B4C r base file L lv (fuelS L)) (h6 : (tkN L i).kind = 6) (hcD : D.length ≤ 2 * i) :
    Calls Tryz.prog 34 #[.pointer (some ⟨r, 0, none⟩)] w (R4Out r base file L lv D (endB4 L (seqR (takenR L 6 labelT i) (srcE L (fuelS L) (.body ⟨1, ⟨#[]⟩, ⟨(38 :: (tkN L i).text).toArray⟩, [], (tkN L i).line, (tkN L i).col⟩ 0) (i + 1)))) w) := by
  have h1 : isK L i 7 [105, 110, 99, 108, 117, 100, 101] = false := by unfold isK; rw [decide_eq_false (by rw [h6]; decide)]; rfl
  have h2 : isK L i 7 [100, 101, 108, 101, 116, 101, 45, 110, 111, 100, 101] = false := by unfold isK; rw [decide_eq_false (by rw [h6]; decide)]; rfl
  obtain ⟨c0, c1, c2, c3, _, _, _, f1, f2, f3, _, _, _, cl⟩ := h.cells
  obtain ⟨n1, n2⟩ := h.num
  have HH := Lib.hid h
  have HNX := Lib.hid (h.ok.next h.lt (by rw [h6]; decide))
  obtain ⟨g, cap, rfl, hg, d0, d1, d2, d3, d4, d5⟩ := h.toks.at h.lt
  have gl : g < w.heap.size := World.block_lt_of_cell? w _ d0
  rw [h6] at d0
  obtain ⟨tl, htl⟩ : ∃ t, t = (tkN L i).line := ⟨_, rfl⟩
  obtain ⟨tc, htc⟩ : ∃ t, t = (tkN L i).col := ⟨_, rfl⟩
  rw [← htl] at d4
  rw [← htc] at d5
  have HTL := Lib.hid htl
  have HTC := Lib.hid htc
  clear htl htc
  have hN := Holds.new w #[.int .i64 0, .int .i64 0, .int .i64 0] 27
  have hbl : Below w.heap.size w (w.alloc (.cells #[.int .i64 0, .int .i64 0, .int .i64 0] 27)) := (Below.refl _ _).alloc (Nat.le_refl _) _
  have c0' := (hbl.cell cl).trans c0
  have c1' := (hbl.cell cl).trans c1
  have d3' := (hbl.cell gl).trans d3
  have d4' := (hbl.cell gl).trans d4
  have d5' := (hbl.cell gl).trans d5
  obtain ⟨m0, m1, m2, mf0, mf1, mf2, ml⟩ := three hN
  have hM := (Holds.new w #[.int .i64 file, .int .i64 tl, .int .i64 tc] 27).drew
  have hk3 : Keeps (fun _ => False) w (w.alloc (.cells #[.int .i64 file, .int .i64 tl, .int .i64 tc] 27)).drew := ((Keeps.refl _ w).alloc _).drew
  have h3 := h.keeps hk3
  obtain ⟨x0, x1, x2, _, _, _, xl⟩ := three hM
  obtain ⟨y0, y1, _, y3, _, _, _, z1, _, z3, _, _, _, yl⟩ := h3.cells
  have e0 := (hk3.cell (p := ⟨g, i * 6, none⟩) gl (fun e => e)).trans d0
  have gl3 := Nat.lt_of_lt_of_le gl hk3.size
  have H3 := Lib.hid h3
  have HK3 := Lib.hid hk3
  have HM := Lib.hid hM
  have his1 := fun wx hx => r4_is wx r base file L (.slice (some ⟨g, 0, none⟩) L.length cap) ov i D hx 7 [105, 110, 99, 108, 117, 100, 101] (by decide)
  have his2 := fun wx hx => r4_is wx r base file L (.slice (some ⟨g, 0, none⟩) L.length cap) ov i D hx 7 [100, 101, 108, 101, 116, 101, 45, 110, 111, 100, 101] (by decide)
  rw [h1] at his1
  rw [h2] at his2
  have HI1 := Lib.hid his1
  have HI2 := Lib.hid his2
  have hPr : w.heap.size ≠ r := by omega
  have HLOW := Lib.hid (show ∀ b, b < base → ¬ b = r from fun b hb e => by have := h.low; omega)
  have HWD := Lib.hid (fun wx hx => r4_word3 wx r base file L (.slice (some ⟨g, 0, none⟩) L.length cap) ov i D hx 6 (by decide))
  have hAD := adds_of [38] (tkN L i).text (by have := h.ok.at i; simp; omega)
  have hA0 := adds_of [38] [] (by simp)
  unfold Adds at hAD hA0
  unfold R4WordOut at HWD
  obtain ⟨XA, hXA⟩ : ∃ x : ByteArray, x = ⟨(38 :: (tkN L i).text).toArray⟩ := ⟨_, rfl⟩
  obtain ⟨X, hX⟩ : ∃ x, x = txN L i := ⟨_, rfl⟩
  have hXA2 : (⟨([38] ++ (tkN L i).text).toArray⟩ : ByteArray) = XA := hXA.symm
  have hX2 : (⟨((tkN L i).text).toArray⟩ : ByteArray) = X := hX.symm
  rw [hXA2, hX2] at hAD
  rw [← hX] at HWD
  rw [← hXA]
  obtain ⟨BR, hBR⟩ : ∃ R, R = srcE L (fuelS L) (.body ⟨1, ⟨#[]⟩, XA, [], (tkN L i).line, (tkN L i).col⟩ 0) (i + 1) := ⟨_, rfl⟩
  have HBD : Hid (∀ wx ovx, R4At wx r base file L (.slice (some ⟨g, 0, none⟩) L.length cap) ovx (i + 1) (D ++ [⟨1, ⟨#[]⟩, XA, [], tl, tc⟩]) → Calls Tryz.prog 66 #[.pointer (some ⟨r, 0, none⟩), .int .i64 0] wx (R4Out r base file L (.slice (some ⟨g, 0, none⟩) L.length cap) D BR wx)) := Lib.hid (fun wx ovx hx => by
    have h9 := hB wx ovx (i + 1) D ⟨1, ⟨#[]⟩, XA, [], tl, tc⟩ 0 hx (by omega) (by unfold fuelS; omega) (by omega)
    rw [show (((0 : Nat) : Int)) = 0 from rfl, HTL.out, HTC.out, ← hBR] at h9
    exact h9)
  rw [← hBR]
  obtain ⟨T, hT⟩ : ∃ T, T = takenR L 6 (rightH 3) i := ⟨_, rfl⟩
  rw [← hT] at HWD
  have hT2 : takenR L 6 labelT i = T := hT.symm
  rw [hT2]
  have HJ2 := Lib.hid (show ∀ j, T = .ok j → j = i + 1 from fun j e => taken4_ok (by rw [← hT]; exact e))
  have HCD := Lib.hid hcD
  clear h h1 h2 his1 his2 hN hbl hM hk3 h3 hBR hT hT2 hX hXA hXA2 hX2 hB hcD h6
  go_enter Tryz.func34, Tryz.ntmps34
  go_wp2_with fail
  go_region
  generalize (w.alloc (.cells #[.int .i64 file, .int .i64 tl, .int .i64 tc] 27)).drew = w3 at *
  clear c0 c1 c2 c3 d0 d1 d2 d3 d4 d5 c0' c1' d3' d4' d5' m0 m1 m2 mf0 mf1 mf2 ml gl cl f1 f2 f3
  go_wp2_with fail
  refine (by exact HI1.out _ H3.out : Calls _ _ _ _ _).mono ?_
  rintro e w40 ⟨rfl, hk40⟩
  have HK40 := Lib.hid hk40
  clear hk40
  go_wp2_with fail
  refine (by exact HI2.out _ (H3.out.keeps HK40.out) : Calls _ _ _ _ _).mono ?_
  rintro e w4 ⟨rfl, hk4⟩
  have HK4 := Lib.hid (HK3.out.trans (HK40.out.trans hk4 (fun _ _ e => e)) (fun _ _ e => e))
  have HM4 := Lib.hid (HM.out.keeps (HK40.out.trans hk4 (fun _ _ e => e)) (fun e => e))
  have h4 := HH.out.keeps HK4.out
  obtain ⟨b0, b1, _, b3, _, _, _, _, _, _, _, _, _, bl⟩ := h4.cells
  have e4 := ((HK40.out.trans hk4 (fun _ _ e => e)).cell (p := ⟨g, i * 6, none⟩) gl3 (fun e => e)).trans e0
  have gl4 := Nat.lt_of_lt_of_le gl3 (HK40.out.trans hk4 (fun _ _ e => e)).size
  have H4 := Lib.hid h4
  clear hk4 h4 e0 gl3 x0 x1 x2 xl y0 y1 y3 z1 z3 yl
  go_wp2_with fail
  go_quiet (fail)
  go_wp2_with fail
  generalize hw6 : World.drewN w4 _ = w6
  have hk6 : Keeps (fun _ => False) w4 w6 := by rw [← hw6]; exact keeps_draws _ _
  have H6 := Lib.hid (H4.out.keeps hk6)
  have HK6 := Lib.hid ((HK4.out.trans hk6 (fun _ _ e => e)).mono (S := (· = r)) (fun _ _ e => e.elim))
  have HM6 := Lib.hid (HM4.out.keeps hk6 (fun e => e))
  clear hk6 hw6
  obtain ⟨p0, p1, p2, _, _, _, pl⟩ := three HM6.out
  cases T with
  | ok j =>
    have hj2 := HJ2.out j rfl
    have HAD := Lib.hid (fun wx ovx (hx : R4At wx r base file L (.slice (some ⟨g, 0, none⟩) L.length cap) ovx j D) => r4_add_at wx r base file L (.slice (some ⟨g, 0, none⟩) L.length cap) ovx j D ⟨1, ⟨#[]⟩, XA, [], tl, tc⟩ (.slice none 0 0) hx (PartsRow.none _ _) (by have := HCD.out; omega))
    go_region_with (first | (go_at_call 65; refine (by exact HWD.out _ (by exact H6.out.keeps ((Keeps.refl _ _).drew)) : Calls _ _ _ _ _).mono ?_; rintro e w7 ⟨hk7, rfl, ha7⟩; have HA7 := Lib.hid ha7; have hk67 := (((Keeps.refl (fun _ => False) w6).drew).mono (S := (· = r)) (fun _ _ e => e.elim)).trans hk7 (fun _ _ e => e); have hM7 := HM6.out.keeps hk67 hPr; obtain ⟨v0, v1, v2, _, _, _, vl⟩ := three hM7; have HK7 := Lib.hid (HK6.out.trans hk67 (fun _ _ e => e)); clear ha7 hk7 hk67 hM7) | (go_at_call 64; refine (by exact HAD.out _ _ HA7.out : Calls _ _ _ _ _).mono ?_; rintro e w8 ⟨rfl, ov8, ha8, hb8⟩))
    all_goals
      have HBY := Lib.hid (HBD.out w8 ov8 (by rw [hj2] at ha8; exact ha8))
      have HB8 := Lib.hid (((HK7.out.below HH.out.size HLOW.out)).trans hb8)
      clear ha8 hb8
      go_wp2_with fail
      refine (by exact HBY.out : Calls _ _ _ _ _).mono ?_
      rintro e w9 ⟨rfl, hb9, hm9⟩
      have HB9 := Lib.hid (HB8.out.trans hb9)
      clear hb9
      cases BR with
      | ok q =>
        obtain ⟨m, ds⟩ := q
        obtain ⟨ov9, ha9, hc9⟩ := hm9
        have HTK := Lib.hid (r4_take w9 r base file L _ ov9 m (D ++ ds) ha9 [59] (by decide))
        have HC9 := Lib.hid hc9
        have HS9 := Lib.hid ha9.size
        clear ha9 hc9
        go_wp2_with fail
        refine (by exact HTK.out : Calls _ _ _ _ _).mono ?_
        rintro e w10 ⟨rfl, hk10, t1, t2⟩
        have HT10 := Lib.hid (And.intro t1 t2)
        have HB10 := Lib.hid (HB9.out.trans (hk10.below HS9.out HLOW.out))
        clear hk10 t1 t2
        go_wp2_with fail
        refine bodyPost_ret (results_none rfl _ _ _) rfl ?_
        refine ⟨rfl, HB10.out, ?_⟩
        cases hg : isK L m 4 [59] with
        | true =>
          rw [show endB4 L (seqR (.ok j) (.ok (m, ds))) = _ from endB4_ok hg]
          exact ⟨ov9, HT10.out.1 hg, by have := HC9.out; omega⟩
        | false =>
          rw [show endB4 L (seqR (.ok j) (.ok (m, ds))) = _ from endB4_bad hg]
          exact HT10.out.2 hg
      | error q =>
        obtain ⟨k, c⟩ := q
        have HBD9 := Lib.hid hm9
        clear hm9
        have HTB := Lib.hid (r4_take_bad w9 r file L k c HBD9.out ⟨#[59]⟩)
        go_wp2_with fail
        refine (by exact HTB.out : Calls _ _ _ _ _).mono ?_
        rintro e w10 ⟨rfl, rfl⟩
        go_wp2_with fail
        refine bodyPost_ret (results_none rfl _ _ _) rfl ?_
        exact ⟨rfl, HB9.out, HBD9.out⟩
  | error q =>
    obtain ⟨k, c⟩ := q
    go_region_with (first | (go_at_call 65; refine (by exact HWD.out _ (by exact H6.out.keeps ((Keeps.refl _ _).drew)) : Calls _ _ _ _ _).mono ?_; rintro e w7 ⟨hk7, rfl, ha7⟩; have HA7 := Lib.hid ha7; have hk67 := (((Keeps.refl (fun _ => False) w6).drew).mono (S := (· = r)) (fun _ _ e => e.elim)).trans hk7 (fun _ _ e => e); have hM7 := HM6.out.keeps hk67 hPr; obtain ⟨v0, v1, v2, _, _, _, vl⟩ := three hM7; have HK7 := Lib.hid (HK6.out.trans hk67 (fun _ _ e => e)); clear ha7 hk7 hk67 hM7) | (go_at_call 64; refine (by exact r4_add_bad _ r file L k c HA7.out _ _ _ _ _ _ _ _ _ : Calls _ _ _ _ _).mono ?_; rintro e w8 ⟨rfl, ha8, hk8⟩))
    all_goals
      have HBB : Hid (Calls Tryz.prog 66 #[.pointer (some ⟨r, 0, none⟩), .int .i64 0] w8 (fun e w' => e = .returned (.tuple #[]) ∧ w8 = w')) := Lib.hid (by
        have h9 := r4_body_bad w8 r file L k c ha8 0 (by decide)
        rw [show (((0 : Nat) : Int)) = 0 from rfl] at h9
        exact h9)
      have HB8 := Lib.hid ((HK7.out.trans (hk8.mono (S := (· = r)) (fun _ _ e => e.elim)) (fun _ _ e => e)).below HH.out.size HLOW.out)
      have HA8 := Lib.hid ha8
      clear ha8 hk8
      go_wp2_with fail
      refine (by exact HBB.out : Calls _ _ _ _ _).mono ?_
      rintro e w9 ⟨rfl, rfl⟩
      have HTB := Lib.hid (r4_take_bad w8 r file L k c HA8.out ⟨#[59]⟩)
      go_wp2_with fail
      refine (by exact HTB.out : Calls _ _ _ _ _).mono ?_
      rintro e w10 ⟨rfl, rfl⟩
      go_wp2_with fail
      refine bodyPost_ret (results_none rfl _ _ _) rfl ?_
      exact ⟨rfl, HB8.out, HA8.out⟩
end Go.Proofs.YtofhcgbihonckaaGreat
namespace Go.Proofs.YtofhcgbihonckaaGreat
open Go.RowKit
set_option maxRecDepth 100000 in
set_option maxHeartbeats 4000000 in
theorem r4_top_slash (r base : Nat) (file : Int) (L : List Tok) (lv : Value) (w : World) (ov : Value) (i : Nat) (D : List DefT) (h : R4At w r base file L lv ov i D) (hB : B4C r base file L lv (fuelS L)) (h1 : isK L i 7 [105, 110, 99, 108, 117, 100, 101] = false) (h2 : isK L i 7 [100, 101, 108, 101, 116, 101, 45, 110, 111, 100, 101] = false) (k5 : (tkN L i).kind ≠ 5) (k6 : (tkN L i).kind ≠ 6) (hs : isK L i 4 [47] = true) (hcD : D.length ≤ 2 * i) :
    Calls Tryz.prog 34 #[.pointer (some ⟨r, 0, none⟩)] w (R4Out r base file L lv D (endB4 L (srcE L (fuelS L) (.body ⟨1, ⟨#[]⟩, ⟨#[47]⟩, [], (tkN L i).line, (tkN L i).col⟩ 0) (i + 1))) w) := by
  obtain ⟨c0, c1, c2, c3, _, _, _, f1, f2, f3, _, _, _, cl⟩ := h.cells
  obtain ⟨n1, n2⟩ := h.num
  have HH := Lib.hid h
  obtain ⟨g, cap, rfl, hg, d0, d1, d2, d3, d4, d5⟩ := h.toks.at h.lt
  have gl : g < w.heap.size := World.block_lt_of_cell? w _ d0
  obtain ⟨kd, hkd⟩ : ∃ x, x = (tkN L i).kind := ⟨_, rfl⟩
  rw [← hkd] at d0 k5 k6
  obtain ⟨tl, htl⟩ : ∃ t, t = (tkN L i).line := ⟨_, rfl⟩
  obtain ⟨tc, htc⟩ : ∃ t, t = (tkN L i).col := ⟨_, rfl⟩
  rw [← htl] at d4
  rw [← htc] at d5
  have HTL := Lib.hid htl
  have HTC := Lib.hid htc
  clear htl htc
  have hN := Holds.new w #[.int .i64 0, .int .i64 0, .int .i64 0] 27
  have hbl : Below w.heap.size w (w.alloc (.cells #[.int .i64 0, .int .i64 0, .int .i64 0] 27)) := (Below.refl _ _).alloc (Nat.le_refl _) _
  have c0' := (hbl.cell cl).trans c0
  have c1' := (hbl.cell cl).trans c1
  have d3' := (hbl.cell gl).trans d3
  have d4' := (hbl.cell gl).trans d4
  have d5' := (hbl.cell gl).trans d5
  obtain ⟨m0, m1, m2, mf0, mf1, mf2, ml⟩ := three hN
  have hM := (Holds.new w #[.int .i64 file, .int .i64 tl, .int .i64 tc] 27).drew
  have hk3 : Keeps (fun _ => False) w (w.alloc (.cells #[.int .i64 file, .int .i64 tl, .int .i64 tc] 27)).drew := ((Keeps.refl _ w).alloc _).drew
  have h3 := h.keeps hk3
  obtain ⟨x0, x1, x2, _, _, _, xl⟩ := three hM
  obtain ⟨y0, y1, _, y3, _, _, _, z1, _, z3, _, _, _, yl⟩ := h3.cells
  have e0 := (hk3.cell (p := ⟨g, i * 6, none⟩) gl (fun e => e)).trans d0
  have gl3 := Nat.lt_of_lt_of_le gl hk3.size
  have H3 := Lib.hid h3
  have HK3 := Lib.hid hk3
  have HM := Lib.hid hM
  have his1 := fun wx hx => r4_is wx r base file L (.slice (some ⟨g, 0, none⟩) L.length cap) ov i D hx 7 [105, 110, 99, 108, 117, 100, 101] (by decide)
  have his2 := fun wx hx => r4_is wx r base file L (.slice (some ⟨g, 0, none⟩) L.length cap) ov i D hx 7 [100, 101, 108, 101, 116, 101, 45, 110, 111, 100, 101] (by decide)
  rw [h1] at his1
  rw [h2] at his2
  have HI1 := Lib.hid his1
  have HI2 := Lib.hid his2
  have hPr : w.heap.size ≠ r := by omega
  have HLOW := Lib.hid (show ∀ b, b < base → ¬ b = r from fun b hb e => by have := h.low; omega)
  obtain ⟨BR, hBR⟩ : ∃ R, R = srcE L (fuelS L) (.body ⟨1, ⟨#[]⟩, ⟨#[47]⟩, [], (tkN L i).line, (tkN L i).col⟩ 0) (i + 1) := ⟨_, rfl⟩
  have HBD : Hid (∀ wx ovx, R4At wx r base file L (.slice (some ⟨g, 0, none⟩) L.length cap) ovx (i + 1) (D ++ [⟨1, ⟨#[]⟩, ⟨#[47]⟩, [], tl, tc⟩]) → Calls Tryz.prog 66 #[.pointer (some ⟨r, 0, none⟩), .int .i64 0] wx (R4Out r base file L (.slice (some ⟨g, 0, none⟩) L.length cap) D BR wx)) := Lib.hid (fun wx ovx hx => by
    have h9 := hB wx ovx (i + 1) D ⟨1, ⟨#[]⟩, ⟨#[47]⟩, [], tl, tc⟩ 0 hx (by omega) (by unfold fuelS; omega) (by omega)
    rw [show (((0 : Nat) : Int)) = 0 from rfl, HTL.out, HTC.out, ← hBR] at h9
    exact h9)
  rw [← hBR]
  have HCD := Lib.hid hcD
  have HSG := Lib.hid hs
  have q6 : (kd == 6) = false := by rw [beq_eq_false_iff_ne]; exact k6
  have q5 : (kd == 5) = false := by rw [beq_eq_false_iff_ne]; exact k5
  clear h h1 h2 his1 his2 hN hbl hM hk3 h3 hBR hB hcD hs hkd k5 k6
  go_enter Tryz.func34, Tryz.ntmps34
  go_wp2_with fail
  go_region
  generalize (w.alloc (.cells #[.int .i64 file, .int .i64 tl, .int .i64 tc] 27)).drew = w3 at *
  clear c0 c1 c2 c3 d0 d1 d2 d3 d4 d5 c0' c1' d3' d4' d5' m0 m1 m2 mf0 mf1 mf2 ml gl cl f1 f2 f3
  go_wp2_with fail
  refine (by exact HI1.out _ H3.out : Calls _ _ _ _ _).mono ?_
  rintro e w40 ⟨rfl, hk40⟩
  have HK40 := Lib.hid hk40
  clear hk40
  go_wp2_with fail
  refine (by exact HI2.out _ (H3.out.keeps HK40.out) : Calls _ _ _ _ _).mono ?_
  rintro e w4 ⟨rfl, hk4⟩
  have HK4 := Lib.hid (HK3.out.trans (HK40.out.trans hk4 (fun _ _ e => e)) (fun _ _ e => e))
  have HM4 := Lib.hid (HM.out.keeps (HK40.out.trans hk4 (fun _ _ e => e)) (fun e => e))
  have h4 := HH.out.keeps HK4.out
  obtain ⟨b0, b1, _, b3, _, _, _, _, _, _, _, _, _, bl⟩ := h4.cells
  have e4 := ((HK40.out.trans hk4 (fun _ _ e => e)).cell (p := ⟨g, i * 6, none⟩) gl3 (fun e => e)).trans e0
  have gl4 := Nat.lt_of_lt_of_le gl3 (HK40.out.trans hk4 (fun _ _ e => e)).size
  have H4 := Lib.hid h4
  clear hk4 h4 e0 gl3 x0 x1 x2 xl y0 y1 y3 z1 z3 yl
  go_wp2_with fail
  go_quiet (fail)
  go_wp2_with fail
  go_quiet (fail)
  go_wp2_with fail
  generalize hw6 : World.drewN w4 _ = w6
  have hk6 : Keeps (fun _ => False) w4 w6 := by rw [← hw6]; exact keeps_draws _ _
  have H6 := Lib.hid (H4.out.keeps hk6)
  have HK6 := Lib.hid ((HK4.out.trans hk6 (fun _ _ e => e)).mono (S := (· = r)) (fun _ _ e => e.elim))
  have HM6 := Lib.hid (HM4.out.keeps hk6 (fun e => e))
  clear hk6 hw6
  have HTS := Lib.hid (r4_take w6 r base file L (.slice (some ⟨g, 0, none⟩) L.length cap) ov (i) D H6.out [47] (by decide))
  refine (by exact HTS.out : Calls _ _ _ _ _).mono ?_
  rintro e w7 ⟨rfl, hk7, t1, _⟩
  have HA7 := Lib.hid (t1 HSG.out)
  have HM7 := Lib.hid (HM6.out.keeps hk7 hPr)
  have HK7 := Lib.hid (HK6.out.trans hk7 (fun _ _ e => e))
  obtain ⟨v0, v1, v2, _, _, _, vl⟩ := three HM7.out
  have HAD := Lib.hid (r4_add_at w7 r base file L (.slice (some ⟨g, 0, none⟩) L.length cap) ov (i + 1) D ⟨1, ⟨#[]⟩, ⟨#[47]⟩, [], tl, tc⟩ (.slice none 0 0) HA7.out (PartsRow.none _ _) (by have := HCD.out; omega))
  clear hk7 t1
  go_wp2_with fail
  refine (by exact HAD.out : Calls _ _ _ _ _).mono ?_
  rintro e w8 ⟨rfl, ov8, ha8, hb8⟩
  have HBY := Lib.hid (HBD.out w8 ov8 ha8)
  have HB8 := Lib.hid ((HK7.out.below HH.out.size HLOW.out).trans hb8)
  clear ha8 hb8
  go_wp2_with fail
  refine (by exact HBY.out : Calls _ _ _ _ _).mono ?_
  rintro e w9 ⟨rfl, hb9, hm9⟩
  have HB9 := Lib.hid (HB8.out.trans hb9)
  clear hb9
  cases BR with
  | ok q =>
    obtain ⟨m, ds⟩ := q
    obtain ⟨ov9, ha9, hc9⟩ := hm9
    have HTK := Lib.hid (r4_take w9 r base file L _ ov9 m (D ++ ds) ha9 [59] (by decide))
    have HC9 := Lib.hid hc9
    have HS9 := Lib.hid ha9.size
    clear ha9 hc9
    go_wp2_with fail
    refine (by exact HTK.out : Calls _ _ _ _ _).mono ?_
    rintro e w10 ⟨rfl, hk10, t1, t2⟩
    have HT10 := Lib.hid (And.intro t1 t2)
    have HB10 := Lib.hid (HB9.out.trans (hk10.below HS9.out HLOW.out))
    clear hk10 t1 t2
    go_wp2_with fail
    refine bodyPost_ret (results_none rfl _ _ _) rfl ?_
    refine ⟨rfl, HB10.out, ?_⟩
    cases hg : isK L m 4 [59] with
    | true =>
      rw [endB4_ok hg]
      exact ⟨ov9, HT10.out.1 hg, by have := HC9.out; omega⟩
    | false =>
      rw [endB4_bad hg]
      exact HT10.out.2 hg
  | error q =>
    obtain ⟨k, c⟩ := q
    have HBD9 := Lib.hid hm9
    clear hm9
    have HTB := Lib.hid (r4_take_bad w9 r file L k c HBD9.out ⟨#[59]⟩)
    go_wp2_with fail
    refine (by exact HTB.out : Calls _ _ _ _ _).mono ?_
    rintro e w10 ⟨rfl, rfl⟩
    go_wp2_with fail
    refine bodyPost_ret (results_none rfl _ _ _) rfl ?_
    exact ⟨rfl, HB9.out, HBD9.out⟩
set_option maxRecDepth 100000 in
set_option maxHeartbeats 4000000 in
theorem r4_top_none (r base : Nat) (file : Int) (L : List Tok) (lv : Value) (w : World) (ov : Value) (i : Nat) (D : List DefT) (h : R4At w r base file L lv ov i D) (h1 : isK L i 7 [105, 110, 99, 108, 117, 100, 101] = false) (h2 : isK L i 7 [100, 101, 108, 101, 116, 101, 45, 110, 111, 100, 101] = false) (k5 : (tkN L i).kind ≠ 5) (k6 : (tkN L i).kind ≠ 6) (hs : isK L i 4 [47] = false) :
    Calls Tryz.prog 34 #[.pointer (some ⟨r, 0, none⟩)] w (R4Out r base file L lv D (.error (i, 6)) w) := by
  obtain ⟨c0, c1, c2, c3, _, _, _, f1, f2, f3, _, _, _, cl⟩ := h.cells
  obtain ⟨n1, n2⟩ := h.num
  have HH := Lib.hid h
  obtain ⟨g, cap, rfl, hg, d0, d1, d2, d3, d4, d5⟩ := h.toks.at h.lt
  have gl : g < w.heap.size := World.block_lt_of_cell? w _ d0
  obtain ⟨kd, hkd⟩ : ∃ x, x = (tkN L i).kind := ⟨_, rfl⟩
  rw [← hkd] at d0 k5 k6
  obtain ⟨tl, htl⟩ : ∃ t, t = (tkN L i).line := ⟨_, rfl⟩
  obtain ⟨tc, htc⟩ : ∃ t, t = (tkN L i).col := ⟨_, rfl⟩
  rw [← htl] at d4
  rw [← htc] at d5
  have HTL := Lib.hid htl
  have HTC := Lib.hid htc
  clear htl htc
  have hN := Holds.new w #[.int .i64 0, .int .i64 0, .int .i64 0] 27
  have hbl : Below w.heap.size w (w.alloc (.cells #[.int .i64 0, .int .i64 0, .int .i64 0] 27)) := (Below.refl _ _).alloc (Nat.le_refl _) _
  have c0' := (hbl.cell cl).trans c0
  have c1' := (hbl.cell cl).trans c1
  have d3' := (hbl.cell gl).trans d3
  have d4' := (hbl.cell gl).trans d4
  have d5' := (hbl.cell gl).trans d5
  obtain ⟨m0, m1, m2, mf0, mf1, mf2, ml⟩ := three hN
  have hM := (Holds.new w #[.int .i64 file, .int .i64 tl, .int .i64 tc] 27).drew
  have hk3 : Keeps (fun _ => False) w (w.alloc (.cells #[.int .i64 file, .int .i64 tl, .int .i64 tc] 27)).drew := ((Keeps.refl _ w).alloc _).drew
  have h3 := h.keeps hk3
  obtain ⟨x0, x1, x2, _, _, _, xl⟩ := three hM
  obtain ⟨y0, y1, _, y3, _, _, _, z1, _, z3, _, _, _, yl⟩ := h3.cells
  have e0 := (hk3.cell (p := ⟨g, i * 6, none⟩) gl (fun e => e)).trans d0
  have gl3 := Nat.lt_of_lt_of_le gl hk3.size
  have H3 := Lib.hid h3
  have HK3 := Lib.hid hk3
  have HM := Lib.hid hM
  have his1 := fun wx hx => r4_is wx r base file L (.slice (some ⟨g, 0, none⟩) L.length cap) ov i D hx 7 [105, 110, 99, 108, 117, 100, 101] (by decide)
  have his2 := fun wx hx => r4_is wx r base file L (.slice (some ⟨g, 0, none⟩) L.length cap) ov i D hx 7 [100, 101, 108, 101, 116, 101, 45, 110, 111, 100, 101] (by decide)
  rw [h1] at his1
  rw [h2] at his2
  have HI1 := Lib.hid his1
  have HI2 := Lib.hid his2
  have hPr : w.heap.size ≠ r := by omega
  have HLOW := Lib.hid (show ∀ b, b < base → ¬ b = r from fun b hb e => by have := h.low; omega)
  obtain ⟨k, c, hkc⟩ : ∃ (k : Nat) (c : Int), (k, c) = (i, (6 : Int)) := ⟨_, _, rfl⟩
  rw [← hkc]
  have HKC := Lib.hid hkc
  have HSG := Lib.hid hs
  have q6 : (kd == 6) = false := by rw [beq_eq_false_iff_ne]; exact k6
  have q5 : (kd == 5) = false := by rw [beq_eq_false_iff_ne]; exact k5
  clear h h1 h2 his1 his2 hN hbl hM hk3 h3 hs hkd k5 k6 hkc
  go_enter Tryz.func34, Tryz.ntmps34
  go_wp2_with fail
  go_region
  generalize (w.alloc (.cells #[.int .i64 file, .int .i64 tl, .int .i64 tc] 27)).drew = w3 at *
  clear c0 c1 c2 c3 d0 d1 d2 d3 d4 d5 c0' c1' d3' d4' d5' m0 m1 m2 mf0 mf1 mf2 ml gl cl f1 f2 f3
  go_wp2_with fail
  refine (by exact HI1.out _ H3.out : Calls _ _ _ _ _).mono ?_
  rintro e w40 ⟨rfl, hk40⟩
  have HK40 := Lib.hid hk40
  clear hk40
  go_wp2_with fail
  refine (by exact HI2.out _ (H3.out.keeps HK40.out) : Calls _ _ _ _ _).mono ?_
  rintro e w4 ⟨rfl, hk4⟩
  have HK4 := Lib.hid (HK3.out.trans (HK40.out.trans hk4 (fun _ _ e => e)) (fun _ _ e => e))
  have HM4 := Lib.hid (HM.out.keeps (HK40.out.trans hk4 (fun _ _ e => e)) (fun e => e))
  have h4 := HH.out.keeps HK4.out
  obtain ⟨b0, b1, _, b3, _, _, _, _, _, _, _, _, _, bl⟩ := h4.cells
  have e4 := ((HK40.out.trans hk4 (fun _ _ e => e)).cell (p := ⟨g, i * 6, none⟩) gl3 (fun e => e)).trans e0
  have gl4 := Nat.lt_of_lt_of_le gl3 (HK40.out.trans hk4 (fun _ _ e => e)).size
  have H4 := Lib.hid h4
  clear hk4 h4 e0 gl3 x0 x1 x2 xl y0 y1 y3 z1 z3 yl
  go_wp2_with fail
  go_quiet (fail)
  go_wp2_with fail
  go_quiet (fail)
  go_wp2_with fail
  generalize hw6 : World.drewN w4 _ = w6
  have hk6 : Keeps (fun _ => False) w4 w6 := by rw [← hw6]; exact keeps_draws _ _
  have H6 := Lib.hid (H4.out.keeps hk6)
  have HK6 := Lib.hid ((HK4.out.trans hk6 (fun _ _ e => e)).mono (S := (· = r)) (fun _ _ e => e.elim))
  have HM6 := Lib.hid (HM4.out.keeps hk6 (fun e => e))
  clear hk6 hw6
  have HTS := Lib.hid (r4_take w6 r base file L (.slice (some ⟨g, 0, none⟩) L.length cap) ov (i) D H6.out [47] (by decide))
  refine (by exact HTS.out : Calls _ _ _ _ _).mono ?_
  rintro e w7 ⟨rfl, hk7, _, t2⟩
  have HB7 := Lib.hid (show R4Bad w7 r file L k c from by injection HKC.out with e1 e2; rw [e1, e2]; exact t2 HSG.out)
  have HM7 := Lib.hid (HM6.out.keeps hk7 hPr)
  have HK7 := Lib.hid (HK6.out.trans hk7 (fun _ _ e => e))
  obtain ⟨v0, v1, v2, _, _, _, vl⟩ := three HM7.out
  clear hk7 t2
  go_wp2_with fail
  refine (by exact r4_add_bad w7 r file L k c HB7.out _ _ _ _ _ _ _ _ _ : Calls _ _ _ _ _).mono ?_
  rintro e w8 ⟨rfl, ha8, hk8⟩
  have HBB : Hid (Calls Tryz.prog 66 #[.pointer (some ⟨r, 0, none⟩), .int .i64 0] w8 (fun e w' => e = .returned (.tuple #[]) ∧ w8 = w')) := Lib.hid (by
    have h9 := r4_body_bad w8 r file L k c ha8 0 (by decide)
    rw [show (((0 : Nat) : Int)) = 0 from rfl] at h9
    exact h9)
  have HB8 := Lib.hid ((HK7.out.trans (hk8.mono (S := (· = r)) (fun _ _ e => e.elim)) (fun _ _ e => e)).below HH.out.size HLOW.out)
  have HA8 := Lib.hid ha8
  clear ha8 hk8
  go_wp2_with fail
  refine (by exact HBB.out : Calls _ _ _ _ _).mono ?_
  rintro e w9 ⟨rfl, rfl⟩
  have HTB := Lib.hid (r4_take_bad w8 r file L k c HA8.out ⟨#[59]⟩)
  go_wp2_with fail
  refine (by exact HTB.out : Calls _ _ _ _ _).mono ?_
  rintro e w10 ⟨rfl, rfl⟩
  go_wp2_with fail
  refine bodyPost_ret (results_none rfl _ _ _) rfl ?_
  exact ⟨rfl, HB8.out, HA8.out⟩
end Go.Proofs.YtofhcgbihonckaaGreat
namespace Go.Proofs.YtofhcgbihonckaaGreat
open Go.RowKit
set_option maxRecDepth 100000 in
set_option maxHeartbeats 4000000 in
theorem r4_top_lab (r base : Nat) (file : Int) (L : List Tok) (lv : Value) (w : World) (ov : Value) (i : Nat) (D : List DefT) (h : R4At w r base file L lv ov i D) (hB : B4C r base file L lv (fuelS L)) (h5 : (tkN L i).kind = 5) (hl : labelT (tkN L i).text = true) (hs : isK L (i + 1) 4 [47] = true) (hcD : D.length ≤ 2 * i) :
    Calls Tryz.prog 34 #[.pointer (some ⟨r, 0, none⟩)] w (R4Out r base file L lv D (endB4 L (srcE L (fuelS L) (.body ⟨1, txN L i, ⟨#[47]⟩, [], (tkN L i).line, (tkN L i).col⟩ 0) (i + 1 + 1))) w) := by
  have h1 : isK L i 7 [105, 110, 99, 108, 117, 100, 101] = false := by unfold isK; rw [decide_eq_false (by rw [h5]; decide)]; rfl
  have h2 : isK L i 7 [100, 101, 108, 101, 116, 101, 45, 110, 111, 100, 101] = false := by unfold isK; rw [decide_eq_false (by rw [h5]; decide)]; rfl
  obtain ⟨c0, c1, c2, c3, _, _, _, f1, f2, f3, _, _, _, cl⟩ := h.cells
  obtain ⟨n1, n2⟩ := h.num
  have HH := Lib.hid h
  have HNX := Lib.hid (h.ok.next h.lt (by rw [h5]; decide))
  obtain ⟨g, cap, rfl, hg, d0, d1, d2, d3, d4, d5⟩ := h.toks.at h.lt
  have gl : g < w.heap.size := World.block_lt_of_cell? w _ d0
  rw [h5] at d0
  obtain ⟨tl, htl⟩ : ∃ t, t = (tkN L i).line := ⟨_, rfl⟩
  obtain ⟨tc, htc⟩ : ∃ t, t = (tkN L i).col := ⟨_, rfl⟩
  rw [← htl] at d4
  rw [← htc] at d5
  have HTL := Lib.hid htl
  have HTC := Lib.hid htc
  clear htl htc
  have hN := Holds.new w #[.int .i64 0, .int .i64 0, .int .i64 0] 27
  have hbl : Below w.heap.size w (w.alloc (.cells #[.int .i64 0, .int .i64 0, .int .i64 0] 27)) := (Below.refl _ _).alloc (Nat.le_refl _) _
  have c0' := (hbl.cell cl).trans c0
  have c1' := (hbl.cell cl).trans c1
  have d3' := (hbl.cell gl).trans d3
  have d4' := (hbl.cell gl).trans d4
  have d5' := (hbl.cell gl).trans d5
  obtain ⟨m0, m1, m2, mf0, mf1, mf2, ml⟩ := three hN
  have hM := (Holds.new w #[.int .i64 file, .int .i64 tl, .int .i64 tc] 27).drew
  have hk3 : Keeps (fun _ => False) w (w.alloc (.cells #[.int .i64 file, .int .i64 tl, .int .i64 tc] 27)).drew := ((Keeps.refl _ w).alloc _).drew
  have h3 := h.keeps hk3
  obtain ⟨x0, x1, x2, _, _, _, xl⟩ := three hM
  obtain ⟨y0, y1, _, y3, _, _, _, z1, _, z3, _, _, _, yl⟩ := h3.cells
  have e0 := (hk3.cell (p := ⟨g, i * 6, none⟩) gl (fun e => e)).trans d0
  have gl3 := Nat.lt_of_lt_of_le gl hk3.size
  have H3 := Lib.hid h3
  have HK3 := Lib.hid hk3
  have HM := Lib.hid hM
  have his1 := fun wx hx => r4_is wx r base file L (.slice (some ⟨g, 0, none⟩) L.length cap) ov i D hx 7 [105, 110, 99, 108, 117, 100, 101] (by decide)
  have his2 := fun wx hx => r4_is wx r base file L (.slice (some ⟨g, 0, none⟩) L.length cap) ov i D hx 7 [100, 101, 108, 101, 116, 101, 45, 110, 111, 100, 101] (by decide)
  rw [h1] at his1
  rw [h2] at his2
  have HI1 := Lib.hid his1
  have HI2 := Lib.hid his2
  have hPr : w.heap.size ≠ r := by omega
  have HLOW := Lib.hid (show ∀ b, b < base → ¬ b = r from fun b hb e => by have := h.low; omega)
  have HW3 := Lib.hid (fun wx hx => r4_word3 wx r base file L (.slice (some ⟨g, 0, none⟩) L.length cap) ov i D hx 5 (by decide))
  rw [show takenR L 5 (rightH 3) i = .ok (i + 1) from by unfold takenR; rw [if_pos h5]; exact if_pos hl] at HW3
  unfold R4WordOut at HW3
  obtain ⟨LX, hLX⟩ : ∃ x, x = txN L i := ⟨_, rfl⟩
  rw [← hLX] at HW3
  rw [← hLX]
  obtain ⟨BR, hBR⟩ : ∃ R, R = srcE L (fuelS L) (.body ⟨1, LX, ⟨#[47]⟩, [], (tkN L i).line, (tkN L i).col⟩ 0) (i + 1 + 1) := ⟨_, rfl⟩
  have HBD : Hid (∀ wx ovx, R4At wx r base file L (.slice (some ⟨g, 0, none⟩) L.length cap) ovx (i + 1 + 1) (D ++ [⟨1, LX, ⟨#[47]⟩, [], tl, tc⟩]) → Calls Tryz.prog 66 #[.pointer (some ⟨r, 0, none⟩), .int .i64 0] wx (R4Out r base file L (.slice (some ⟨g, 0, none⟩) L.length cap) D BR wx)) := Lib.hid (fun wx ovx hx => by
    have h9 := hB wx ovx (i + 1 + 1) D ⟨1, LX, ⟨#[47]⟩, [], tl, tc⟩ 0 hx (by omega) (by unfold fuelS; omega) (by omega)
    rw [show (((0 : Nat) : Int)) = 0 from rfl, HTL.out, HTC.out, ← hBR] at h9
    exact h9)
  rw [← hBR]
  have HCD := Lib.hid hcD
  have HSG := Lib.hid hs
  clear h h1 h2 his1 his2 hN hbl hM hk3 h3 hBR hB hcD hs hl hLX h5
  go_enter Tryz.func34, Tryz.ntmps34
  go_wp2_with fail
  go_region
  generalize (w.alloc (.cells #[.int .i64 file, .int .i64 tl, .int .i64 tc] 27)).drew = w3 at *
  clear c0 c1 c2 c3 d0 d1 d2 d3 d4 d5 c0' c1' d3' d4' d5' m0 m1 m2 mf0 mf1 mf2 ml gl cl f1 f2 f3
  go_wp2_with fail
  refine (by exact HI1.out _ H3.out : Calls _ _ _ _ _).mono ?_
  rintro e w40 ⟨rfl, hk40⟩
  have HK40 := Lib.hid hk40
  clear hk40
  go_wp2_with fail
  refine (by exact HI2.out _ (H3.out.keeps HK40.out) : Calls _ _ _ _ _).mono ?_
  rintro e w4 ⟨rfl, hk4⟩
  have HK4 := Lib.hid (HK3.out.trans (HK40.out.trans hk4 (fun _ _ e => e)) (fun _ _ e => e))
  have HM4 := Lib.hid (HM.out.keeps (HK40.out.trans hk4 (fun _ _ e => e)) (fun e => e))
  have h4 := HH.out.keeps HK4.out
  obtain ⟨b0, b1, _, b3, _, _, _, _, _, _, _, _, _, bl⟩ := h4.cells
  have e4 := ((HK40.out.trans hk4 (fun _ _ e => e)).cell (p := ⟨g, i * 6, none⟩) gl3 (fun e => e)).trans e0
  have gl4 := Nat.lt_of_lt_of_le gl3 (HK40.out.trans hk4 (fun _ _ e => e)).size
  have H4 := Lib.hid h4
  clear hk4 h4 e0 gl3 x0 x1 x2 xl y0 y1 y3 z1 z3 yl
  go_wp2_with fail
  go_quiet (fail)
  go_wp2_with fail
  go_quiet (fail)
  go_wp2_with fail
  generalize hw5 : World.drewN w4 _ = w5
  have hk5 : Keeps (fun _ => False) w4 w5 := by rw [← hw5]; exact keeps_draws _ _
  clear hw5
  refine (by exact HW3.out _ (H4.out.keeps hk5) : Calls _ _ _ _ _).mono ?_
  rintro e w6 ⟨hk6, rfl, ha6⟩
  have hk46 := (hk5.mono (S := (· = r)) (fun _ _ e => e.elim)).trans hk6 (fun _ _ e => e)
  have H6 := Lib.hid ha6
  have HK6 := Lib.hid ((HK4.out.mono (S := (· = r)) (fun _ _ e => e.elim)).trans hk46 (fun _ _ e => e))
  have HM6 := Lib.hid (HM4.out.keeps hk46 hPr)
  clear hk5 hk6 hk46 ha6
  go_wp2_with fail
  have HTS := Lib.hid (r4_take w6 r base file L (.slice (some ⟨g, 0, none⟩) L.length cap) ov (i + 1) D H6.out [47] (by decide))
  refine (by exact HTS.out : Calls _ _ _ _ _).mono ?_
  rintro e w7 ⟨rfl, hk7, t1, _⟩
  have HA7 := Lib.hid (t1 HSG.out)
  have HM7 := Lib.hid (HM6.out.keeps hk7 hPr)
  have HK7 := Lib.hid (HK6.out.trans hk7 (fun _ _ e => e))
  obtain ⟨v0, v1, v2, _, _, _, vl⟩ := three HM7.out
  have HAD := Lib.hid (r4_add_at w7 r base file L (.slice (some ⟨g, 0, none⟩) L.length cap) ov (i + 1 + 1) D ⟨1, LX, ⟨#[47]⟩, [], tl, tc⟩ (.slice none 0 0) HA7.out (PartsRow.none _ _) (by have := HCD.out; omega))
  clear hk7 t1
  go_wp2_with fail
  refine (by exact HAD.out : Calls _ _ _ _ _).mono ?_
  rintro e w8 ⟨rfl, ov8, ha8, hb8⟩
  have HBY := Lib.hid (HBD.out w8 ov8 ha8)
  have HB8 := Lib.hid ((HK7.out.below HH.out.size HLOW.out).trans hb8)
  clear ha8 hb8
  go_wp2_with fail
  refine (by exact HBY.out : Calls _ _ _ _ _).mono ?_
  rintro e w9 ⟨rfl, hb9, hm9⟩
  have HB9 := Lib.hid (HB8.out.trans hb9)
  clear hb9
  cases BR with
  | ok q =>
    obtain ⟨m, ds⟩ := q
    obtain ⟨ov9, ha9, hc9⟩ := hm9
    have HTK := Lib.hid (r4_take w9 r base file L _ ov9 m (D ++ ds) ha9 [59] (by decide))
    have HC9 := Lib.hid hc9
    have HS9 := Lib.hid ha9.size
    clear ha9 hc9
    go_wp2_with fail
    refine (by exact HTK.out : Calls _ _ _ _ _).mono ?_
    rintro e w10 ⟨rfl, hk10, t1, t2⟩
    have HT10 := Lib.hid (And.intro t1 t2)
    have HB10 := Lib.hid (HB9.out.trans (hk10.below HS9.out HLOW.out))
    clear hk10 t1 t2
    go_wp2_with fail
    refine bodyPost_ret (results_none rfl _ _ _) rfl ?_
    refine ⟨rfl, HB10.out, ?_⟩
    cases hg : isK L m 4 [59] with
    | true =>
      rw [endB4_ok hg]
      exact ⟨ov9, HT10.out.1 hg, by have := HC9.out; omega⟩
    | false =>
      rw [endB4_bad hg]
      exact HT10.out.2 hg
  | error q =>
    obtain ⟨k, c⟩ := q
    have HBD9 := Lib.hid hm9
    clear hm9
    have HTB := Lib.hid (r4_take_bad w9 r file L k c HBD9.out ⟨#[59]⟩)
    go_wp2_with fail
    refine (by exact HTB.out : Calls _ _ _ _ _).mono ?_
    rintro e w10 ⟨rfl, rfl⟩
    go_wp2_with fail
    refine bodyPost_ret (results_none rfl _ _ _) rfl ?_
    exact ⟨rfl, HB9.out, HBD9.out⟩
set_option maxRecDepth 100000 in
set_option maxHeartbeats 4000000 in
theorem r4_top_labn (r base : Nat) (file : Int) (L : List Tok) (lv : Value) (w : World) (ov : Value) (i : Nat) (D : List DefT) (h : R4At w r base file L lv ov i D) (h5 : (tkN L i).kind = 5) (hl : labelT (tkN L i).text = true) (hs : isK L (i + 1) 4 [47] = false) :
    Calls Tryz.prog 34 #[.pointer (some ⟨r, 0, none⟩)] w (R4Out r base file L lv D (.error (i + 1, 6)) w) := by
  have h1 : isK L i 7 [105, 110, 99, 108, 117, 100, 101] = false := by unfold isK; rw [decide_eq_false (by rw [h5]; decide)]; rfl
  have h2 : isK L i 7 [100, 101, 108, 101, 116, 101, 45, 110, 111, 100, 101] = false := by unfold isK; rw [decide_eq_false (by rw [h5]; decide)]; rfl
  obtain ⟨c0, c1, c2, c3, _, _, _, f1, f2, f3, _, _, _, cl⟩ := h.cells
  obtain ⟨n1, n2⟩ := h.num
  have HH := Lib.hid h
  have HNX := Lib.hid (h.ok.next h.lt (by rw [h5]; decide))
  obtain ⟨g, cap, rfl, hg, d0, d1, d2, d3, d4, d5⟩ := h.toks.at h.lt
  have gl : g < w.heap.size := World.block_lt_of_cell? w _ d0
  rw [h5] at d0
  obtain ⟨tl, htl⟩ : ∃ t, t = (tkN L i).line := ⟨_, rfl⟩
  obtain ⟨tc, htc⟩ : ∃ t, t = (tkN L i).col := ⟨_, rfl⟩
  rw [← htl] at d4
  rw [← htc] at d5
  have HTL := Lib.hid htl
  have HTC := Lib.hid htc
  clear htl htc
  have hN := Holds.new w #[.int .i64 0, .int .i64 0, .int .i64 0] 27
  have hbl : Below w.heap.size w (w.alloc (.cells #[.int .i64 0, .int .i64 0, .int .i64 0] 27)) := (Below.refl _ _).alloc (Nat.le_refl _) _
  have c0' := (hbl.cell cl).trans c0
  have c1' := (hbl.cell cl).trans c1
  have d3' := (hbl.cell gl).trans d3
  have d4' := (hbl.cell gl).trans d4
  have d5' := (hbl.cell gl).trans d5
  obtain ⟨m0, m1, m2, mf0, mf1, mf2, ml⟩ := three hN
  have hM := (Holds.new w #[.int .i64 file, .int .i64 tl, .int .i64 tc] 27).drew
  have hk3 : Keeps (fun _ => False) w (w.alloc (.cells #[.int .i64 file, .int .i64 tl, .int .i64 tc] 27)).drew := ((Keeps.refl _ w).alloc _).drew
  have h3 := h.keeps hk3
  obtain ⟨x0, x1, x2, _, _, _, xl⟩ := three hM
  obtain ⟨y0, y1, _, y3, _, _, _, z1, _, z3, _, _, _, yl⟩ := h3.cells
  have e0 := (hk3.cell (p := ⟨g, i * 6, none⟩) gl (fun e => e)).trans d0
  have gl3 := Nat.lt_of_lt_of_le gl hk3.size
  have H3 := Lib.hid h3
  have HK3 := Lib.hid hk3
  have HM := Lib.hid hM
  have his1 := fun wx hx => r4_is wx r base file L (.slice (some ⟨g, 0, none⟩) L.length cap) ov i D hx 7 [105, 110, 99, 108, 117, 100, 101] (by decide)
  have his2 := fun wx hx => r4_is wx r base file L (.slice (some ⟨g, 0, none⟩) L.length cap) ov i D hx 7 [100, 101, 108, 101, 116, 101, 45, 110, 111, 100, 101] (by decide)
  rw [h1] at his1
  rw [h2] at his2
  have HI1 := Lib.hid his1
  have HI2 := Lib.hid his2
  have hPr : w.heap.size ≠ r := by omega
  have HLOW := Lib.hid (show ∀ b, b < base → ¬ b = r from fun b hb e => by have := h.low; omega)
  obtain ⟨k, c, hkc⟩ : ∃ (k : Nat) (c : Int), (k, c) = (i + 1, (6 : Int)) := ⟨_, _, rfl⟩
  rw [← hkc]
  have HKC := Lib.hid hkc
  have HW3 := Lib.hid (fun wx hx => r4_word3 wx r base file L (.slice (some ⟨g, 0, none⟩) L.length cap) ov i D hx 5 (by decide))
  rw [show takenR L 5 (rightH 3) i = .ok (i + 1) from by unfold takenR; rw [if_pos h5]; exact if_pos hl] at HW3
  unfold R4WordOut at HW3
  obtain ⟨LX, hLX⟩ : ∃ x, x = txN L i := ⟨_, rfl⟩
  rw [← hLX] at HW3
  have HSG := Lib.hid hs
  clear h h1 h2 his1 his2 hN hbl hM hk3 h3 hs hl hLX h5 hkc
  go_enter Tryz.func34, Tryz.ntmps34
  go_wp2_with fail
  go_region
  generalize (w.alloc (.cells #[.int .i64 file, .int .i64 tl, .int .i64 tc] 27)).drew = w3 at *
  clear c0 c1 c2 c3 d0 d1 d2 d3 d4 d5 c0' c1' d3' d4' d5' m0 m1 m2 mf0 mf1 mf2 ml gl cl f1 f2 f3
  go_wp2_with fail
  refine (by exact HI1.out _ H3.out : Calls _ _ _ _ _).mono ?_
  rintro e w40 ⟨rfl, hk40⟩
  have HK40 := Lib.hid hk40
  clear hk40
  go_wp2_with fail
  refine (by exact HI2.out _ (H3.out.keeps HK40.out) : Calls _ _ _ _ _).mono ?_
  rintro e w4 ⟨rfl, hk4⟩
  have HK4 := Lib.hid (HK3.out.trans (HK40.out.trans hk4 (fun _ _ e => e)) (fun _ _ e => e))
  have HM4 := Lib.hid (HM.out.keeps (HK40.out.trans hk4 (fun _ _ e => e)) (fun e => e))
  have h4 := HH.out.keeps HK4.out
  obtain ⟨b0, b1, _, b3, _, _, _, _, _, _, _, _, _, bl⟩ := h4.cells
  have e4 := ((HK40.out.trans hk4 (fun _ _ e => e)).cell (p := ⟨g, i * 6, none⟩) gl3 (fun e => e)).trans e0
  have gl4 := Nat.lt_of_lt_of_le gl3 (HK40.out.trans hk4 (fun _ _ e => e)).size
  have H4 := Lib.hid h4
  clear hk4 h4 e0 gl3 x0 x1 x2 xl y0 y1 y3 z1 z3 yl
  go_wp2_with fail
  go_quiet (fail)
  go_wp2_with fail
  go_quiet (fail)
  go_wp2_with fail
  generalize hw5 : World.drewN w4 _ = w5
  have hk5 : Keeps (fun _ => False) w4 w5 := by rw [← hw5]; exact keeps_draws _ _
  clear hw5
  refine (by exact HW3.out _ (H4.out.keeps hk5) : Calls _ _ _ _ _).mono ?_
  rintro e w6 ⟨hk6, rfl, ha6⟩
  have hk46 := (hk5.mono (S := (· = r)) (fun _ _ e => e.elim)).trans hk6 (fun _ _ e => e)
  have H6 := Lib.hid ha6
  have HK6 := Lib.hid ((HK4.out.mono (S := (· = r)) (fun _ _ e => e.elim)).trans hk46 (fun _ _ e => e))
  have HM6 := Lib.hid (HM4.out.keeps hk46 hPr)
  clear hk5 hk6 hk46 ha6
  go_wp2_with fail
  have HTS := Lib.hid (r4_take w6 r base file L (.slice (some ⟨g, 0, none⟩) L.length cap) ov (i + 1) D H6.out [47] (by decide))
  refine (by exact HTS.out : Calls _ _ _ _ _).mono ?_
  rintro e w7 ⟨rfl, hk7, _, t2⟩
  have HB7 := Lib.hid (show R4Bad w7 r file L k c from by injection HKC.out with e1 e2; rw [e1, e2]; exact t2 HSG.out)
  have HM7 := Lib.hid (HM6.out.keeps hk7 hPr)
  have HK7 := Lib.hid (HK6.out.trans hk7 (fun _ _ e => e))
  obtain ⟨v0, v1, v2, _, _, _, vl⟩ := three HM7.out
  clear hk7 t2
  go_wp2_with fail
  refine (by exact r4_add_bad w7 r file L k c HB7.out _ _ _ _ _ _ _ _ _ : Calls _ _ _ _ _).mono ?_
  rintro e w8 ⟨rfl, ha8, hk8⟩
  have HBB : Hid (Calls Tryz.prog 66 #[.pointer (some ⟨r, 0, none⟩), .int .i64 0] w8 (fun e w' => e = .returned (.tuple #[]) ∧ w8 = w')) := Lib.hid (by
    have h9 := r4_body_bad w8 r file L k c ha8 0 (by decide)
    rw [show (((0 : Nat) : Int)) = 0 from rfl] at h9
    exact h9)
  have HB8 := Lib.hid ((HK7.out.trans (hk8.mono (S := (· = r)) (fun _ _ e => e.elim)) (fun _ _ e => e)).below HH.out.size HLOW.out)
  have HA8 := Lib.hid ha8
  clear ha8 hk8
  go_wp2_with fail
  refine (by exact HBB.out : Calls _ _ _ _ _).mono ?_
  rintro e w9 ⟨rfl, rfl⟩
  have HTB := Lib.hid (r4_take_bad w8 r file L k c HA8.out ⟨#[59]⟩)
  go_wp2_with fail
  refine (by exact HTB.out : Calls _ _ _ _ _).mono ?_
  rintro e w10 ⟨rfl, rfl⟩
  go_wp2_with fail
  refine bodyPost_ret (results_none rfl _ _ _) rfl ?_
  exact ⟨rfl, HB8.out, HA8.out⟩
set_option maxRecDepth 100000 in
set_option maxHeartbeats 4000000 in
theorem r4_top_labx (r base : Nat) (file : Int) (L : List Tok) (lv : Value) (w : World) (ov : Value) (i : Nat) (D : List DefT) (h : R4At w r base file L lv ov i D) (h5 : (tkN L i).kind = 5) (hl : labelT (tkN L i).text = false) :
    Calls Tryz.prog 34 #[.pointer (some ⟨r, 0, none⟩)] w (R4Out r base file L lv D (.error (i, 1)) w) := by
  have h1 : isK L i 7 [105, 110, 99, 108, 117, 100, 101] = false := by unfold isK; rw [decide_eq_false (by rw [h5]; decide)]; rfl
  have h2 : isK L i 7 [100, 101, 108, 101, 116, 101, 45, 110, 111, 100, 101] = false := by unfold isK; rw [decide_eq_false (by rw [h5]; decide)]; rfl
  obtain ⟨c0, c1, c2, c3, _, _, _, f1, f2, f3, _, _, _, cl⟩ := h.cells
  obtain ⟨n1, n2⟩ := h.num
  have HH := Lib.hid h
  have HNX := Lib.hid (h.ok.next h.lt (by rw [h5]; decide))
  obtain ⟨g, cap, rfl, hg, d0, d1, d2, d3, d4, d5⟩ := h.toks.at h.lt
  have gl : g < w.heap.size := World.block_lt_of_cell? w _ d0
  rw [h5] at d0
  obtain ⟨tl, htl⟩ : ∃ t, t = (tkN L i).line := ⟨_, rfl⟩
  obtain ⟨tc, htc⟩ : ∃ t, t = (tkN L i).col := ⟨_, rfl⟩
  rw [← htl] at d4
  rw [← htc] at d5
  have HTL := Lib.hid htl
  have HTC := Lib.hid htc
  clear htl htc
  have hN := Holds.new w #[.int .i64 0, .int .i64 0, .int .i64 0] 27
  have hbl : Below w.heap.size w (w.alloc (.cells #[.int .i64 0, .int .i64 0, .int .i64 0] 27)) := (Below.refl _ _).alloc (Nat.le_refl _) _
  have c0' := (hbl.cell cl).trans c0
  have c1' := (hbl.cell cl).trans c1
  have d3' := (hbl.cell gl).trans d3
  have d4' := (hbl.cell gl).trans d4
  have d5' := (hbl.cell gl).trans d5
  obtain ⟨m0, m1, m2, mf0, mf1, mf2, ml⟩ := three hN
  have hM := (Holds.new w #[.int .i64 file, .int .i64 tl, .int .i64 tc] 27).drew
  have hk3 : Keeps (fun _ => False) w (w.alloc (.cells #[.int .i64 file, .int .i64 tl, .int .i64 tc] 27)).drew := ((Keeps.refl _ w).alloc _).drew
  have h3 := h.keeps hk3
  obtain ⟨x0, x1, x2, _, _, _, xl⟩ := three hM
  obtain ⟨y0, y1, _, y3, _, _, _, z1, _, z3, _, _, _, yl⟩ := h3.cells
  have e0 := (hk3.cell (p := ⟨g, i * 6, none⟩) gl (fun e => e)).trans d0
  have gl3 := Nat.lt_of_lt_of_le gl hk3.size
  have H3 := Lib.hid h3
  have HK3 := Lib.hid hk3
  have HM := Lib.hid hM
  have his1 := fun wx hx => r4_is wx r base file L (.slice (some ⟨g, 0, none⟩) L.length cap) ov i D hx 7 [105, 110, 99, 108, 117, 100, 101] (by decide)
  have his2 := fun wx hx => r4_is wx r base file L (.slice (some ⟨g, 0, none⟩) L.length cap) ov i D hx 7 [100, 101, 108, 101, 116, 101, 45, 110, 111, 100, 101] (by decide)
  rw [h1] at his1
  rw [h2] at his2
  have HI1 := Lib.hid his1
  have HI2 := Lib.hid his2
  have hPr : w.heap.size ≠ r := by omega
  have HLOW := Lib.hid (show ∀ b, b < base → ¬ b = r from fun b hb e => by have := h.low; omega)
  have HW3 := Lib.hid (fun wx hx => r4_word3 wx r base file L (.slice (some ⟨g, 0, none⟩) L.length cap) ov i D hx 5 (by decide))
  rw [show takenR L 5 (rightH 3) i = .error (i, 1) from by unfold takenR; rw [if_pos h5]; exact if_neg (by show ¬ labelT _ = true; rw [hl]; exact Bool.false_ne_true)] at HW3
  unfold R4WordOut at HW3
  obtain ⟨k, c, hkc⟩ : ∃ (k : Nat) (c : Int), (k, c) = (i, (1 : Int)) := ⟨_, _, rfl⟩
  rw [← hkc]
  have HKC := Lib.hid hkc
  clear h h1 h2 his1 his2 hN hbl hM hk3 h3 hl h5 hkc
  go_enter Tryz.func34, Tryz.ntmps34
  go_wp2_with fail
  go_region
  generalize (w.alloc (.cells #[.int .i64 file, .int .i64 tl, .int .i64 tc] 27)).drew = w3 at *
  clear c0 c1 c2 c3 d0 d1 d2 d3 d4 d5 c0' c1' d3' d4' d5' m0 m1 m2 mf0 mf1 mf2 ml gl cl f1 f2 f3
  go_wp2_with fail
  refine (by exact HI1.out _ H3.out : Calls _ _ _ _ _).mono ?_
  rintro e w40 ⟨rfl, hk40⟩
  have HK40 := Lib.hid hk40
  clear hk40
  go_wp2_with fail
  refine (by exact HI2.out _ (H3.out.keeps HK40.out) : Calls _ _ _ _ _).mono ?_
  rintro e w4 ⟨rfl, hk4⟩
  have HK4 := Lib.hid (HK3.out.trans (HK40.out.trans hk4 (fun _ _ e => e)) (fun _ _ e => e))
  have HM4 := Lib.hid (HM.out.keeps (HK40.out.trans hk4 (fun _ _ e => e)) (fun e => e))
  have h4 := HH.out.keeps HK4.out
  obtain ⟨b0, b1, _, b3, _, _, _, _, _, _, _, _, _, bl⟩ := h4.cells
  have e4 := ((HK40.out.trans hk4 (fun _ _ e => e)).cell (p := ⟨g, i * 6, none⟩) gl3 (fun e => e)).trans e0
  have gl4 := Nat.lt_of_lt_of_le gl3 (HK40.out.trans hk4 (fun _ _ e => e)).size
  have H4 := Lib.hid h4
  clear hk4 h4 e0 gl3 x0 x1 x2 xl y0 y1 y3 z1 z3 yl
  go_wp2_with fail
  go_quiet (fail)
  go_wp2_with fail
  go_quiet (fail)
  go_wp2_with fail
  generalize hw5 : World.drewN w4 _ = w5
  have hk5 : Keeps (fun _ => False) w4 w5 := by rw [← hw5]; exact keeps_draws _ _
  clear hw5
  refine (by exact HW3.out _ (H4.out.keeps hk5) : Calls _ _ _ _ _).mono ?_
  rintro e w6 ⟨hk6, rfl, ha6⟩
  have hk46 := (hk5.mono (S := (· = r)) (fun _ _ e => e.elim)).trans hk6 (fun _ _ e => e)
  have HB6 := Lib.hid (show R4Bad w6 r file L k c from by injection HKC.out with e1 e2; rw [e1, e2]; exact ha6)
  have HK6 := Lib.hid ((HK4.out.mono (S := (· = r)) (fun _ _ e => e.elim)).trans hk46 (fun _ _ e => e))
  have HM6 := Lib.hid (HM4.out.keeps hk46 hPr)
  obtain ⟨v0, v1, v2, _, _, _, vl⟩ := three HM6.out
  have HTX := Lib.hid (r4_take_bad w6 r file L k c HB6.out ⟨#[47]⟩)
  clear hk5 hk6 hk46 ha6
  go_wp2_with fail
  refine (by exact HTX.out : Calls _ _ _ _ _).mono ?_
  rintro e w7 ⟨rfl, rfl⟩
  go_wp2_with fail
  refine (by exact r4_add_bad w6 r file L k c HB6.out _ _ _ _ _ _ _ _ _ : Calls _ _ _ _ _).mono ?_
  rintro e w8 ⟨rfl, ha8, hk8⟩
  have HBB : Hid (Calls Tryz.prog 66 #[.pointer (some ⟨r, 0, none⟩), .int .i64 0] w8 (fun e w' => e = .returned (.tuple #[]) ∧ w8 = w')) := Lib.hid (by
    have h9 := r4_body_bad w8 r file L k c ha8 0 (by decide)
    rw [show (((0 : Nat) : Int)) = 0 from rfl] at h9
    exact h9)
  have HB8 := Lib.hid ((HK6.out.trans (hk8.mono (S := (· = r)) (fun _ _ e => e.elim)) (fun _ _ e => e)).below HH.out.size HLOW.out)
  have HA8 := Lib.hid ha8
  clear ha8 hk8
  go_wp2_with fail
  refine (by exact HBB.out : Calls _ _ _ _ _).mono ?_
  rintro e w9 ⟨rfl, rfl⟩
  have HTB := Lib.hid (r4_take_bad w8 r file L k c HA8.out ⟨#[59]⟩)
  go_wp2_with fail
  refine (by exact HTB.out : Calls _ _ _ _ _).mono ?_
  rintro e w10 ⟨rfl, rfl⟩
  go_wp2_with fail
  refine bodyPost_ret (results_none rfl _ _ _) rfl ?_
  exact ⟨rfl, HB8.out, HA8.out⟩
end Go.Proofs.YtofhcgbihonckaaGreat
