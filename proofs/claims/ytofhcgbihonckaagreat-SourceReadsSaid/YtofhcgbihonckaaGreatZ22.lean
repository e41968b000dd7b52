/- bringupref04: the reader in memory; fail, is, take, add behind an error. | bringupref04: word, add. | bringupref04: add (printed by gr4c.py). | bringupref04: cell. | bringupref04: part, where it is a text or a path. | bringupref04: part, where it is none. | bringupref04: part, a list of cells. | bringupref04: part, bytes. | bringupref04: part; add behind an error. | bringupref04: body behind an error. | bringupref04: add, as the reader goes on. | bringupref04: member, where it begins with a word. | bringupref04: member, a property's deletion . | bringupref04: member, a node's deletion (printed by gr4n.py). | bringupref04: member, where it begins with a word. | bringupref04: member, where no member begins. | bringupref04: body. | bringupref04: the parts of a property, as they grow. | bringupref04: member, a node without a label (printed by gr4s.py). -/
import Derived.Test.YtofhcgbihonckaaGreatZ15
import Derived.Test.YtofhcgbihonckaaGreatZ21
import Derived.Test.YtofhcgbihonckaaGreatZ8
import Derived.Test.YtofhcgbihonckaaGreatZ11
import Derived.Test.YtofhcgbihonckaaGreatZ9
import Derived.Deep.RegionWith
import Derived.Deep.LoopGhost
import Derived.Deep.AppendLies
import Derived.Deep.RegionLaw
import Derived.Laws.AppendOwn
import Derived.Laws.OwnMore
set_option linter.unusedVariables false
set_option linter.unusedSimpArgs false
set_option linter.unusedSectionVars false
namespace Go.Proofs.YtofhcgbihonckaaGreat
open Go.RowKit
structure R4At (w : World) (r base : Nat) (file : Int) (L : List Tok) (lv ov : Value) (i : Nat) (D : List DefT) : Prop where
  holds : Holds w r #[lv, .int .i64 i, ov, .int .i64 0, .int .i64 0, .int .i64 0, .int .i64 0] 78
  toks : TokIn base w lv file L
  defs : DefsRow w base file ov D
  low : base ≤ r
  size : base ≤ w.heap.size
  lt : i < L.length
  ok : LOk L
  cnt : D.length ≤ 2 * i + 1
def R4Bad (w : World) (r : Nat) (file : Int) (L : List Tok) (k : Nat) (c : Int) : Prop :=
  c ≠ 0 ∧ ∃ lv x ov, Holds w r #[lv, x, ov, .int .i64 c, .int .i64 file, .int .i64 (tkN L k).line, .int .i64 (tkN L k).col] 78
section
variable {w w' : World} {r base : Nat} {file : Int} {L : List Tok} {lv ov : Value} {i k : Nat} {D : List DefT} {c : Int}
theorem R4At.keeps (h : R4At w r base file L lv ov i D) (k : Keeps (fun _ => False) w w') : R4At w' r base file L lv ov i D :=
  ⟨h.holds.keeps k (fun e => e), h.toks.keeps k (fun _ e => e.elim), h.defs.keeps k (Apart3.nil _), h.low, Nat.le_trans h.size k.size, h.lt, h.ok, h.cnt⟩
theorem R4At.turn (h : R4At w r base file L lv ov i D) (k : Keeps (· = r) w w') {j : Nat} (hH : Holds w' r #[lv, .int .i64 j, ov, .int .i64 0, .int .i64 0, .int .i64 0, .int .i64 0] 78) (hj : j < L.length) (hij : i ≤ j) : R4At w' r base file L lv ov j D :=
  ⟨hH, h.toks.keeps k (fun b e => by cases e; exact h.low), h.defs.keeps k (Apart3.one h.holds (by decide) (by decide) (by decide)), h.low, Nat.le_trans h.size k.size, hj, h.ok, by have := h.cnt; omega⟩
theorem R4At.step (h : R4At w r base file L lv ov i D) (hj : i + 1 < L.length) : R4At (w.setCell ⟨r, 1, none⟩ (.int .i64 ((i : Int) + 1))) r base file L lv ov (i + 1) D ∧ Keeps (· = r) w (w.setCell ⟨r, 1, none⟩ (.int .i64 ((i : Int) + 1))) := by
  have k := (Keeps.refl (· = r) w).setCell (p := ⟨r, 1, none⟩) (.inr rfl) (.int .i64 ((i : Int) + 1))
  exact ⟨h.turn k (by rw [show (((i + 1 : Nat)) : Int) = (i : Int) + 1 from by omega]; exact h.holds.set 1 _) hj (by omega), k⟩
theorem R4At.cells (h : R4At w r base file L lv ov i D) : w.cell? ⟨r, 0, none⟩ = some lv ∧ w.cell? ⟨r, 1, none⟩ = some (.int .i64 i) ∧ w.cell? ⟨r, 2, none⟩ = some ov ∧ w.cell? ⟨r, 3, none⟩ = some (.int .i64 0) ∧ w.cell? ⟨r, 4, none⟩ = some (.int .i64 0) ∧ w.cell? ⟨r, 5, none⟩ = some (.int .i64 0) ∧ w.cell? ⟨r, 6, none⟩ = some (.int .i64 0) ∧ w.frozen? ⟨r, 1, none⟩ = false ∧ w.frozen? ⟨r, 2, none⟩ = false ∧ w.frozen? ⟨r, 3, none⟩ = false ∧ w.frozen? ⟨r, 4, none⟩ = false ∧ w.frozen? ⟨r, 5, none⟩ = false ∧ w.frozen? ⟨r, 6, none⟩ = false ∧ r < w.heap.size :=
  ⟨h.holds.cell 0, h.holds.cell 1, h.holds.cell 2, h.holds.cell 3, h.holds.cell 4, h.holds.cell 5, h.holds.cell 6, h.holds.free 1, h.holds.free 2, h.holds.free 3, h.holds.free 4, h.holds.free 5, h.holds.free 6, h.holds.lt⟩
theorem R4At.num (h : R4At w r base file L lv ov i D) : (i : Int) < (L.length : Int) ∧ (i : Int) < 10000 := by
  have := h.lt; have := h.ok.len; omega
theorem R4Bad.keeps {S : Nat → Prop} (h : R4Bad w r file L k c) (K : Keeps S w w') (hr : ¬ S r) : R4Bad w' r file L k c := by
  obtain ⟨h0, lv, x, ov, h⟩ := h; exact ⟨h0, lv, x, ov, h.keeps K hr⟩
end
set_option maxRecDepth 100000 in
set_option maxHeartbeats 2000000 in
theorem r4_fail (w : World) (r base : Nat) (file : Int) (L : List Tok) (lv ov : Value) (i : Nat) (D : List DefT) (h : R4At w r base file L lv ov i D) (c : Int) (hc : c ≠ 0) :
    Calls Tryz.prog 105 #[.pointer (some ⟨r, 0, none⟩), .int .i64 c] w fun e w' => e = .returned (.tuple #[]) ∧ R4Bad w' r file L i c ∧ Keeps (· = r) w w' := by
  have hH := h.holds
  obtain ⟨c0, c1, c2, c3, c4, c5, c6, f1, f2, f3, f4, f5, f6, cl⟩ := h.cells
  obtain ⟨n1, n2⟩ := h.num
  obtain ⟨g, cap, rfl, hg, d0, d1, d2, d3, d4, d5⟩ := h.toks.at h.lt
  have hgr : g ≠ r := by have := h.low; omega
  have gl := World.block_lt_of_cell? w _ d0
  have HC := Lib.hid hc
  unfold R4Bad
  clear h hc d0 d1 d2
  generalize tkN L i = t at *
  obtain ⟨t0, t1, t2, t3, t4⟩ := t
  simp only at d3 d4 d5 ⊢
  go_enter Tryz.func105, Tryz.ntmps105
  go_wp2_with fail
  go_region
  go_wp2_with fail
  go_end0
  have hfin := ((((hH.set 3 (.int .i64 c)).set 4 (.int .i64 file)).set 5 (.int .i64 t3)).set 6 (.int .i64 t4)).drew
  have hkp := (((((Keeps.refl (· = r) w).setCell (p := ⟨r, 3, none⟩) (.inr rfl) (.int .i64 c)).setCell (p := ⟨r, 4, none⟩) (.inr rfl) (.int .i64 file)).setCell (p := ⟨r, 5, none⟩) (.inr rfl) (.int .i64 t3)).setCell (p := ⟨r, 6, none⟩) (.inr rfl) (.int .i64 t4)).drew
  exact ⟨rfl, ⟨HC.out, _, _, _, hfin⟩, hkp⟩
theorem r4_is (w : World) (r base : Nat) (file : Int) (L : List Tok) (lv ov : Value) (i : Nat) (D : List DefT) (h : R4At w r base file L lv ov i D) (kind : Int) (s : List UInt8) (hs : s ≠ []) :
    Calls Tryz.prog 63 #[.pointer (some ⟨r, 0, none⟩), .int .i64 kind, .string ⟨s.toArray⟩] w fun e w' => e = .returned (.bool (isK L i kind s)) ∧ Keeps (fun _ => False) w w' := by
  obtain ⟨c0, c1, _, _, _, _, _, _, _, _, _, _, _, cl⟩ := h.cells
  obtain ⟨n1, n2⟩ := h.num
  obtain ⟨g, cap, rfl, hg, d0, d1, _⟩ := h.toks.at h.lt
  have hie : s.isEmpty = false := by simpa using hs
  have hK := Lib.hid (show isK L i kind s = (decide ((tkN L i).kind = kind) && decide ((tkN L i).text = s)) by unfold isK; rw [hie, Bool.false_or])
  clear h hs hie
  generalize tkN L i = t at *
  obtain ⟨t0, t1, t2, t3, t4⟩ := t
  simp only at d0 d1 hK
  by_cases hk : t0 = kind
  · subst hk
    by_cases ht : t1 = s
    · subst ht
      go_enter Tryz.func63, Tryz.ntmps63
      go_wp2_with fail
      go_quiet (fail)
      go_wp2_with fail
      go_ret
      exact ⟨ret_bool (by rw [hK.out]; simp), keeps_draws _ _⟩
    · have htb : (t1 == s) = false := by rw [beq_eq_false_iff_ne]; exact ht
      have HT := Lib.hid ht
      clear ht
      go_enter Tryz.func63, Tryz.ntmps63
      go_wp2_with fail
      go_quiet (fail)
      go_wp2_with fail
      go_ret
      exact ⟨ret_bool (by rw [hK.out]; simp [HT.out]), keeps_draws _ _⟩
  · have hkb : (t0 == kind) = false := by rw [beq_eq_false_iff_ne]; exact hk
    have HK := Lib.hid hk
    clear hk
    go_enter Tryz.func63, Tryz.ntmps63
    go_wp2_with fail
    go_quiet (fail)
    go_wp2_with fail
    go_ret
    exact ⟨ret_bool (by rw [hK.out]; simp [HK.out]), keeps_draws _ _⟩
def R4TakeOut (r base : Nat) (file : Int) (L : List Tok) (lv ov : Value) (i : Nat) (D : List DefT) (s : List UInt8) (w : World) (e : Ending) (w' : World) : Prop :=
  e = .returned (.tuple #[]) ∧ Keeps (· = r) w w' ∧ (isK L i 4 s = true → R4At w' r base file L lv ov (i + 1) D) ∧ (isK L i 4 s = false → R4Bad w' r file L i 6)
set_option maxRecDepth 100000 in
set_option maxHeartbeats 2000000 in
theorem r4_take (w : World) (r base : Nat) (file : Int) (L : List Tok) (lv ov : Value) (i : Nat) (D : List DefT) (h : R4At w r base file L lv ov i D) (s : List UInt8) (hs : s ≠ []) :
    Calls Tryz.prog 67 #[.pointer (some ⟨r, 0, none⟩), .string ⟨s.toArray⟩] w (R4TakeOut r base file L lv ov i D s w) := by
  obtain ⟨c0, c1, c2, c3, _, _, _, f1, f2, f3, _, _, _, cl⟩ := h.cells
  obtain ⟨n1, n2⟩ := h.num
  have his := r4_is w r base file L lv ov i D h 4 s hs
  have hnx : isK L i 4 s = true → i + 1 < L.length := fun hk => h.ok.next h.lt (by unfold isK at hk; simp only [Bool.and_eq_true, decide_eq_true_eq] at hk; rw [hk.1]; decide)
  have HH := Lib.hid h
  clear h hs
  cases hy : isK L i 4 s with
  | true =>
    rw [hy] at his
    have HIS := Lib.hid his
    have HNX := Lib.hid (hnx hy)
    have HY := Lib.hid hy
    clear his hnx hy
    go_enter Tryz.func67, Tryz.ntmps67
    go_wp2_with fail
    refine (by exact HIS.out : Calls _ _ _ _ _).mono ?_
    rintro e w1 ⟨rfl, hk1⟩
    have h1 := HH.out.keeps hk1
    obtain ⟨_, d1, _, _, _, _, _, g1, _, _, _, _, _, dl⟩ := h1.cells
    have H1 := Lib.hid h1
    clear h1
    go_wp2_with fail
    refine bodyPost_ret (results_none rfl _ _ _) rfl ?_
    obtain ⟨a, b⟩ := H1.out.step HNX.out
    exact ⟨rfl, (hk1.mono (S := (· = r)) (fun _ _ e => e.elim)).trans b (fun _ _ e => e), fun _ => a, fun e => by rw [HY.out] at e; cases e⟩
  | false =>
    rw [hy] at his
    have HIS := Lib.hid his
    have HY := Lib.hid hy
    clear his hnx hy
    go_enter Tryz.func67, Tryz.ntmps67
    go_wp2_with fail
    refine (by exact HIS.out : Calls _ _ _ _ _).mono ?_
    rintro e w1 ⟨rfl, hk1⟩
    have hf := Lib.hid (r4_fail w1 r base file L lv ov i D (HH.out.keeps hk1) 6 (by decide))
    go_wp2_with fail
    refine (by exact hf.out : Calls _ _ _ _ _).mono ?_
    rintro e w2 ⟨rfl, hb, hk2⟩
    go_wp2_with fail
    refine bodyPost_ret (results_none rfl _ _ _) rfl ?_
    exact ⟨rfl, (hk1.mono (S := (· = r)) (fun _ _ e => e.elim)).trans hk2 (fun _ _ e => e), fun e => (by rw [HY.out] at e; cases e), fun _ => hb⟩
theorem r4_take_bad (w : World) (r : Nat) (file : Int) (L : List Tok) (k : Nat) (c : Int) (h : R4Bad w r file L k c) (s : ByteArray) :
    Calls Tryz.prog 67 #[.pointer (some ⟨r, 0, none⟩), .string s] w fun e w' => e = .returned (.tuple #[]) ∧ w = w' := by
  obtain ⟨h0, lv, x, ov, hH⟩ := h
  have c3 := hH.cell 3
  have cl := hH.lt
  have hb : (c != 0) = true := by rw [bne_iff_ne]; exact h0
  clear hH h0
  go_enter Tryz.func67, Tryz.ntmps67
  go_wp2_with fail
  refine bodyPost_ret (results_none rfl _ _ _) rfl ?_
  exact ⟨rfl, rfl⟩
end Go.Proofs.YtofhcgbihonckaaGreat
namespace Go.Proofs.YtofhcgbihonckaaGreat
open Go.RowKit
def rightH : Nat → List UInt8 → Bool
  | 1 => nameT
  | 2 => propT
  | 3 => labelT
  | _ => fun _ => true
def R4WordOut (r base : Nat) (file : Int) (L : List Tok) (lv ov : Value) (D : List DefT) (i : Nat) (R : Rs Nat) (w : World) (e : Ending) (w' : World) : Prop :=
  Keeps (· = r) w w' ∧ match R with
    | .ok j => e = .returned (.string (txN L i)) ∧ R4At w' r base file L lv ov j D
    | .error (k, c) => e = .returned (.string ⟨#[]⟩) ∧ R4Bad w' r file L k c
set_option maxRecDepth 100000 in
set_option maxHeartbeats 2000000 in
theorem r4_word1 (w : World) (r base : Nat) (file : Int) (L : List Tok) (lv ov : Value) (i : Nat) (D : List DefT) (h : R4At w r base file L lv ov i D) (kind : Int) (hk8 : kind ≠ 8) :
    Calls Tryz.prog 65 #[.pointer (some ⟨r, 0, none⟩), .int .i64 kind, .int .i64 1] w (R4WordOut r base file L lv ov D i (takenR L kind (rightH 1) i) w) := by
  obtain ⟨c0, c1, c2, c3, _, _, _, f1, f2, f3, _, _, _, cl⟩ := h.cells
  obtain ⟨n1, n2⟩ := h.num
  have HF := Lib.hid (fun wx hx => r4_fail wx r base file L lv ov i D hx)
  have HH := Lib.hid h
  obtain ⟨g, cap, rfl, hg, d0, d1, d2, d3, d4, d5⟩ := h.toks.at h.lt
  have hnx : (tkN L i).kind = kind → i + 1 < L.length := fun hk => h.ok.next h.lt (by rw [hk]; exact hk8)
  have htl := h.ok.at i
  have hTX := Lib.hid (show txN L i = ⟨(tkN L i).text.toArray⟩ from rfl)
  have HT := Lib.hid (show takenR L kind (rightH 1) i = if (tkN L i).kind = kind then (if rightH 1 (tkN L i).text = true then .ok (i + 1) else .error (i, 1)) else .error (i, 6) from rfl)
  unfold R4WordOut
  generalize takenR L kind (rightH 1) i = T at *
  generalize txN L i = X at *
  generalize tkN L i = t at *
  obtain ⟨t0, t1, t2, t3, t4⟩ := t
  simp only at d0 d1 d2 d3 d4 d5 hnx HT hTX htl
  clear h hk8
  have gl : g < w.heap.size := World.block_lt_of_cell? w _ d0
  have hN := Holds.new w #[.int .i64 0, .string ⟨#[]⟩, .int .i64 0, .int .i64 0, .int .i64 0, .int .i64 0] 65
  have hbl : Below w.heap.size w (w.alloc (.cells #[.int .i64 0, .string ⟨#[]⟩, .int .i64 0, .int .i64 0, .int .i64 0, .int .i64 0] 65)) := (Below.refl _ _).alloc (Nat.le_refl _) _
  have c0' := (hbl.cell cl).trans c0
  have c1' := (hbl.cell cl).trans c1
  have d0' := (hbl.cell gl).trans d0
  have d1' := (hbl.cell gl).trans d1
  have d2' := (hbl.cell gl).trans d2
  have d3' := (hbl.cell gl).trans d3
  have d4' := (hbl.cell gl).trans d4
  have d5' := (hbl.cell gl).trans d5
  have hlt := hN.lt
  obtain ⟨g0, g1, g2, g3, g4, g5⟩ := six_free hN
  obtain ⟨m0, m1, m2, m3, m4, m5⟩ := six_cells hN
  have HN6 := Lib.hid hN
  have HBL := Lib.hid hbl
  have hM := (Holds.new w #[.int .i64 t0, .string ⟨t1.toArray⟩, .int .i64 t2, .int .i64 file, .int .i64 t3, .int .i64 t4] 65).drew
  have hk3 : Keeps (fun _ => False) w (w.alloc (.cells #[.int .i64 t0, .string ⟨t1.toArray⟩, .int .i64 t2, .int .i64 file, .int .i64 t3, .int .i64 t4] 65)).drew := ((Keeps.refl _ w).alloc _).drew
  have h3 := HH.out.keeps hk3
  obtain ⟨x0, x1, x2, x3, x4, x5⟩ := six_cells hM
  have xl := hM.lt
  obtain ⟨_, y1, _, y3, _, _, _, z1, _, z3, _, _, _, yl⟩ := h3.cells
  have H3 := Lib.hid h3
  have HK3 := Lib.hid (hk3.mono (S := (· = r)) (fun _ _ e => e.elim))
  clear hN hbl hM hk3 h3
  by_cases hk : t0 = kind
  · subst hk
    have HN := Lib.hid (hnx rfl)
    clear hnx
    have hc := fun wx => ref_Name ⟨t1.toArray⟩ wx (by show t1.toArray.size ≤ _; rw [List.size_toArray]; unfold maxLen; omega)
    rw [show (nameT (⟨t1.toArray⟩ : ByteArray).data.toList) = nameT t1 from by rw [List.toList_toArray]] at hc
    cases hb : nameT t1 with
    | true =>
      rw [hb] at hc
      have HC := Lib.hid hc
      have HBB := Lib.hid hb
      clear hc hb
      have hT : T = .ok (i + 1) := by rw [HT.out, if_pos rfl, if_pos (show rightH 1 t1 = true from HBB.out)]
      subst hT
      go_enter Tryz.func65, Tryz.ntmps65
      go_wp2_with fail
      go_region
      generalize (w.alloc (.cells #[.int .i64 t0, .string ⟨t1.toArray⟩, .int .i64 t2, .int .i64 file, .int .i64 t3, .int .i64 t4] 65)).drew = w3 at *
      go_wp2_with fail
      refine (HC.out _).mono ?_
      rintro e w' ⟨rfl, rfl⟩
      go_wp2_with fail
      go_ret
      obtain ⟨a, b⟩ := H3.out.step HN.out
      exact ⟨HK3.out.trans b (fun _ _ e => e), by rw [hTX.out]; rfl, a⟩
    | false =>
      rw [hb] at hc
      have HC := Lib.hid hc
      have hT : T = .error (i, 1) := by rw [HT.out, if_pos rfl, if_neg (show ¬ rightH 1 t1 = true by show ¬ nameT t1 = true; rw [hb]; exact Bool.false_ne_true)]
      subst hT
      clear hc hb
      have HFF := Lib.hid (HF.out _ H3.out 1 (by decide))
      go_enter Tryz.func65, Tryz.ntmps65
      go_wp2_with fail
      go_region
      generalize (w.alloc (.cells #[.int .i64 t0, .string ⟨t1.toArray⟩, .int .i64 t2, .int .i64 file, .int .i64 t3, .int .i64 t4] 65)).drew = w3 at *
      go_wp2_with fail
      refine (HC.out _).mono ?_
      rintro e w' ⟨rfl, rfl⟩
      go_wp2_with fail
      refine (by exact HFF.out : Calls _ _ _ _ _).mono ?_
      rintro e w2 ⟨rfl, hb2, hk2⟩
      go_wp2_with fail
      go_ret
      exact ⟨HK3.out.trans hk2 (fun _ _ e => e), rfl, hb2⟩
  · have hT : T = .error (i, 6) := by rw [HT.out, if_neg hk]
    subst hT
    have hkb : (t0 != kind) = true := by rw [bne_iff_ne]; exact hk
    have HFF := Lib.hid (HF.out _ H3.out 6 (by decide))
    clear hk hnx
    go_enter Tryz.func65, Tryz.ntmps65
    go_wp2_with fail
    go_region
    generalize (w.alloc (.cells #[.int .i64 t0, .string ⟨t1.toArray⟩, .int .i64 t2, .int .i64 file, .int .i64 t3, .int .i64 t4] 65)).drew = w3 at *
    go_wp2_with fail
    refine (by exact HFF.out : Calls _ _ _ _ _).mono ?_
    rintro e w2 ⟨rfl, hb2, hk2⟩
    go_wp2_with fail
    go_ret
    exact ⟨HK3.out.trans hk2 (fun _ _ e => e), rfl, hb2⟩
set_option maxRecDepth 100000 in
set_option maxHeartbeats 2000000 in
theorem r4_word2 (w : World) (r base : Nat) (file : Int) (L : List Tok) (lv ov : Value) (i : Nat) (D : List DefT) (h : R4At w r base file L lv ov i D) (kind : Int) (hk8 : kind ≠ 8) :
    Calls Tryz.prog 65 #[.pointer (some ⟨r, 0, none⟩), .int .i64 kind, .int .i64 2] w (R4WordOut r base file L lv ov D i (takenR L kind (rightH 2) i) w) := by
  obtain ⟨c0, c1, c2, c3, _, _, _, f1, f2, f3, _, _, _, cl⟩ := h.cells
  obtain ⟨n1, n2⟩ := h.num
  have HF := Lib.hid (fun wx hx => r4_fail wx r base file L lv ov i D hx)
  have HH := Lib.hid h
  obtain ⟨g, cap, rfl, hg, d0, d1, d2, d3, d4, d5⟩ := h.toks.at h.lt
  have hnx : (tkN L i).kind = kind → i + 1 < L.length := fun hk => h.ok.next h.lt (by rw [hk]; exact hk8)
  have htl := h.ok.at i
  have hTX := Lib.hid (show txN L i = ⟨(tkN L i).text.toArray⟩ from rfl)
  have HT := Lib.hid (show takenR L kind (rightH 2) i = if (tkN L i).kind = kind then (if rightH 2 (tkN L i).text = true then .ok (i + 1) else .error (i, 1)) else .error (i, 6) from rfl)
  unfold R4WordOut
  generalize takenR L kind (rightH 2) i = T at *
  generalize txN L i = X at *
  generalize tkN L i = t at *
  obtain ⟨t0, t1, t2, t3, t4⟩ := t
  simp only at d0 d1 d2 d3 d4 d5 hnx HT hTX htl
  clear h hk8
  have gl : g < w.heap.size := World.block_lt_of_cell? w _ d0
  have hN := Holds.new w #[.int .i64 0, .string ⟨#[]⟩, .int .i64 0, .int .i64 0, .int .i64 0, .int .i64 0] 65
  have hbl : Below w.heap.size w (w.alloc (.cells #[.int .i64 0, .string ⟨#[]⟩, .int .i64 0, .int .i64 0, .int .i64 0, .int .i64 0] 65)) := (Below.refl _ _).alloc (Nat.le_refl _) _
  have c0' := (hbl.cell cl).trans c0
  have c1' := (hbl.cell cl).trans c1
  have d0' := (hbl.cell gl).trans d0
  have d1' := (hbl.cell gl).trans d1
  have d2' := (hbl.cell gl).trans d2
  have d3' := (hbl.cell gl).trans d3
  have d4' := (hbl.cell gl).trans d4
  have d5' := (hbl.cell gl).trans d5
  have hlt := hN.lt
  obtain ⟨g0, g1, g2, g3, g4, g5⟩ := six_free hN
  obtain ⟨m0, m1, m2, m3, m4, m5⟩ := six_cells hN
  have HN6 := Lib.hid hN
  have HBL := Lib.hid hbl
  have hM := (Holds.new w #[.int .i64 t0, .string ⟨t1.toArray⟩, .int .i64 t2, .int .i64 file, .int .i64 t3, .int .i64 t4] 65).drew
  have hk3 : Keeps (fun _ => False) w (w.alloc (.cells #[.int .i64 t0, .string ⟨t1.toArray⟩, .int .i64 t2, .int .i64 file, .int .i64 t3, .int .i64 t4] 65)).drew := ((Keeps.refl _ w).alloc _).drew
  have h3 := HH.out.keeps hk3
  obtain ⟨x0, x1, x2, x3, x4, x5⟩ := six_cells hM
  have xl := hM.lt
  obtain ⟨_, y1, _, y3, _, _, _, z1, _, z3, _, _, _, yl⟩ := h3.cells
  have H3 := Lib.hid h3
  have HK3 := Lib.hid (hk3.mono (S := (· = r)) (fun _ _ e => e.elim))
  clear hN hbl hM hk3 h3
  by_cases hk : t0 = kind
  · subst hk
    have HN := Lib.hid (hnx rfl)
    clear hnx
    have hc := fun wx => ref3_Property ⟨t1.toArray⟩ wx (by show t1.toArray.size ≤ _; rw [List.size_toArray]; omega)
    rw [show (propB ⟨t1.toArray⟩) = propT t1 from by show propT (⟨t1.toArray⟩ : ByteArray).data.toList = _; rw [List.toList_toArray]] at hc
    cases hb : propT t1 with
    | true =>
      rw [hb] at hc
      have HC := Lib.hid hc
      have HBB := Lib.hid hb
      clear hc hb
      have hT : T = .ok (i + 1) := by rw [HT.out, if_pos rfl, if_pos (show rightH 2 t1 = true from HBB.out)]
      subst hT
      go_enter Tryz.func65, Tryz.ntmps65
      go_wp2_with fail
      go_region
      generalize (w.alloc (.cells #[.int .i64 t0, .string ⟨t1.toArray⟩, .int .i64 t2, .int .i64 file, .int .i64 t3, .int .i64 t4] 65)).drew = w3 at *
      go_wp2_with fail
      refine (HC.out _).mono ?_
      rintro e w' ⟨rfl, rfl⟩
      go_wp2_with fail
      go_ret
      obtain ⟨a, b⟩ := H3.out.step HN.out
      exact ⟨HK3.out.trans b (fun _ _ e => e), by rw [hTX.out]; rfl, a⟩
    | false =>
      rw [hb] at hc
      have HC := Lib.hid hc
      have hT : T = .error (i, 1) := by rw [HT.out, if_pos rfl, if_neg (show ¬ rightH 2 t1 = true by show ¬ propT t1 = true; rw [hb]; exact Bool.false_ne_true)]
      subst hT
      clear hc hb
      have HFF := Lib.hid (HF.out _ H3.out 1 (by decide))
      go_enter Tryz.func65, Tryz.ntmps65
      go_wp2_with fail
      go_region
      generalize (w.alloc (.cells #[.int .i64 t0, .string ⟨t1.toArray⟩, .int .i64 t2, .int .i64 file, .int .i64 t3, .int .i64 t4] 65)).drew = w3 at *
      go_wp2_with fail
      refine (HC.out _).mono ?_
      rintro e w' ⟨rfl, rfl⟩
      go_wp2_with fail
      refine (by exact HFF.out : Calls _ _ _ _ _).mono ?_
      rintro e w2 ⟨rfl, hb2, hk2⟩
      go_wp2_with fail
      go_ret
      exact ⟨HK3.out.trans hk2 (fun _ _ e => e), rfl, hb2⟩
  · have hT : T = .error (i, 6) := by rw [HT.out, if_neg hk]
    subst hT
    have hkb : (t0 != kind) = true := by rw [bne_iff_ne]; exact hk
    have HFF := Lib.hid (HF.out _ H3.out 6 (by decide))
    clear hk hnx
    go_enter Tryz.func65, Tryz.ntmps65
    go_wp2_with fail
    go_region
    generalize (w.alloc (.cells #[.int .i64 t0, .string ⟨t1.toArray⟩, .int .i64 t2, .int .i64 file, .int .i64 t3, .int .i64 t4] 65)).drew = w3 at *
    go_wp2_with fail
    refine (by exact HFF.out : Calls _ _ _ _ _).mono ?_
    rintro e w2 ⟨rfl, hb2, hk2⟩
    go_wp2_with fail
    go_ret
    exact ⟨HK3.out.trans hk2 (fun _ _ e => e), rfl, hb2⟩
set_option maxRecDepth 100000 in
set_option maxHeartbeats 2000000 in
theorem r4_word3 (w : World) (r base : Nat) (file : Int) (L : List Tok) (lv ov : Value) (i : Nat) (D : List DefT) (h : R4At w r base file L lv ov i D) (kind : Int) (hk8 : kind ≠ 8) :
    Calls Tryz.prog 65 #[.pointer (some ⟨r, 0, none⟩), .int .i64 kind, .int .i64 3] w (R4WordOut r base file L lv ov D i (takenR L kind (rightH 3) i) w) := by
  obtain ⟨c0, c1, c2, c3, _, _, _, f1, f2, f3, _, _, _, cl⟩ := h.cells
  obtain ⟨n1, n2⟩ := h.num
  have HF := Lib.hid (fun wx hx => r4_fail wx r base file L lv ov i D hx)
  have HH := Lib.hid h
  obtain ⟨g, cap, rfl, hg, d0, d1, d2, d3, d4, d5⟩ := h.toks.at h.lt
  have hnx : (tkN L i).kind = kind → i + 1 < L.length := fun hk => h.ok.next h.lt (by rw [hk]; exact hk8)
  have htl := h.ok.at i
  have hTX := Lib.hid (show txN L i = ⟨(tkN L i).text.toArray⟩ from rfl)
  have HT := Lib.hid (show takenR L kind (rightH 3) i = if (tkN L i).kind = kind then (if rightH 3 (tkN L i).text = true then .ok (i + 1) else .error (i, 1)) else .error (i, 6) from rfl)
  unfold R4WordOut
  generalize takenR L kind (rightH 3) i = T at *
  generalize txN L i = X at *
  generalize tkN L i = t at *
  obtain ⟨t0, t1, t2, t3, t4⟩ := t
  simp only at d0 d1 d2 d3 d4 d5 hnx HT hTX htl
  clear h hk8
  have gl : g < w.heap.size := World.block_lt_of_cell? w _ d0
  have hN := Holds.new w #[.int .i64 0, .string ⟨#[]⟩, .int .i64 0, .int .i64 0, .int .i64 0, .int .i64 0] 65
  have hbl : Below w.heap.size w (w.alloc (.cells #[.int .i64 0, .string ⟨#[]⟩, .int .i64 0, .int .i64 0, .int .i64 0, .int .i64 0] 65)) := (Below.refl _ _).alloc (Nat.le_refl _) _
  have c0' := (hbl.cell cl).trans c0
  have c1' := (hbl.cell cl).trans c1
  have d0' := (hbl.cell gl).trans d0
  have d1' := (hbl.cell gl).trans d1
  have d2' := (hbl.cell gl).trans d2
  have d3' := (hbl.cell gl).trans d3
  have d4' := (hbl.cell gl).trans d4
  have d5' := (hbl.cell gl).trans d5
  have hlt := hN.lt
  obtain ⟨g0, g1, g2, g3, g4, g5⟩ := six_free hN
  obtain ⟨m0, m1, m2, m3, m4, m5⟩ := six_cells hN
  have HN6 := Lib.hid hN
  have HBL := Lib.hid hbl
  have hM := (Holds.new w #[.int .i64 t0, .string ⟨t1.toArray⟩, .int .i64 t2, .int .i64 file, .int .i64 t3, .int .i64 t4] 65).drew
  have hk3 : Keeps (fun _ => False) w (w.alloc (.cells #[.int .i64 t0, .string ⟨t1.toArray⟩, .int .i64 t2, .int .i64 file, .int .i64 t3, .int .i64 t4] 65)).drew := ((Keeps.refl _ w).alloc _).drew
  have h3 := HH.out.keeps hk3
  obtain ⟨x0, x1, x2, x3, x4, x5⟩ := six_cells hM
  have xl := hM.lt
  obtain ⟨_, y1, _, y3, _, _, _, z1, _, z3, _, _, _, yl⟩ := h3.cells
  have H3 := Lib.hid h3
  have HK3 := Lib.hid (hk3.mono (S := (· = r)) (fun _ _ e => e.elim))
  clear hN hbl hM hk3 h3
  by_cases hk : t0 = kind
  · subst hk
    have HN := Lib.hid (hnx rfl)
    clear hnx
    have hc := fun wx => ref_Label ⟨t1.toArray⟩ wx (by show t1.toArray.size ≤ _; rw [List.size_toArray]; unfold maxLen; omega)
    rw [show (labelT (⟨t1.toArray⟩ : ByteArray).data.toList) = labelT t1 from by rw [List.toList_toArray]] at hc
    cases hb : labelT t1 with
    | true =>
      rw [hb] at hc
      have HC := Lib.hid hc
      have HBB := Lib.hid hb
      clear hc hb
      have hT : T = .ok (i + 1) := by rw [HT.out, if_pos rfl, if_pos (show rightH 3 t1 = true from HBB.out)]
      subst hT
      go_enter Tryz.func65, Tryz.ntmps65
      go_wp2_with fail
      go_region
      generalize (w.alloc (.cells #[.int .i64 t0, .string ⟨t1.toArray⟩, .int .i64 t2, .int .i64 file, .int .i64 t3, .int .i64 t4] 65)).drew = w3 at *
      go_wp2_with fail
      refine (HC.out _).mono ?_
      rintro e w' ⟨rfl, rfl⟩
      go_wp2_with fail
      go_ret
      obtain ⟨a, b⟩ := H3.out.step HN.out
      exact ⟨HK3.out.trans b (fun _ _ e => e), by rw [hTX.out]; rfl, a⟩
    | false =>
      rw [hb] at hc
      have HC := Lib.hid hc
      have hT : T = .error (i, 1) := by rw [HT.out, if_pos rfl, if_neg (show ¬ rightH 3 t1 = true by show ¬ labelT t1 = true; rw [hb]; exact Bool.false_ne_true)]
      subst hT
      clear hc hb
      have HFF := Lib.hid (HF.out _ H3.out 1 (by decide))
      go_enter Tryz.func65, Tryz.ntmps65
      go_wp2_with fail
      go_region
      generalize (w.alloc (.cells #[.int .i64 t0, .string ⟨t1.toArray⟩, .int .i64 t2, .int .i64 file, .int .i64 t3, .int .i64 t4] 65)).drew = w3 at *
      go_wp2_with fail
      refine (HC.out _).mono ?_
      rintro e w' ⟨rfl, rfl⟩
      go_wp2_with fail
      refine (by exact HFF.out : Calls _ _ _ _ _).mono ?_
      rintro e w2 ⟨rfl, hb2, hk2⟩
      go_wp2_with fail
      go_ret
      exact ⟨HK3.out.trans hk2 (fun _ _ e => e), rfl, hb2⟩
  · have hT : T = .error (i, 6) := by rw [HT.out, if_neg hk]
    subst hT
    have hkb : (t0 != kind) = true := by rw [bne_iff_ne]; exact hk
    have HFF := Lib.hid (HF.out _ H3.out 6 (by decide))
    clear hk hnx
    go_enter Tryz.func65, Tryz.ntmps65
    go_wp2_with fail
    go_region
    generalize (w.alloc (.cells #[.int .i64 t0, .string ⟨t1.toArray⟩, .int .i64 t2, .int .i64 file, .int .i64 t3, .int .i64 t4] 65)).drew = w3 at *
    go_wp2_with fail
    refine (by exact HFF.out : Calls _ _ _ _ _).mono ?_
    rintro e w2 ⟨rfl, hb2, hk2⟩
    go_wp2_with fail
    go_ret
    exact ⟨HK3.out.trans hk2 (fun _ _ e => e), rfl, hb2⟩
set_option maxRecDepth 100000 in
set_option maxHeartbeats 2000000 in
theorem r4_word4 (w : World) (r base : Nat) (file : Int) (L : List Tok) (lv ov : Value) (i : Nat) (D : List DefT) (h : R4At w r base file L lv ov i D) (kind : Int) (hk8 : kind ≠ 8) :
    Calls Tryz.prog 65 #[.pointer (some ⟨r, 0, none⟩), .int .i64 kind, .int .i64 4] w (R4WordOut r base file L lv ov D i (takenR L kind (rightH 4) i) w) := by
  obtain ⟨c0, c1, c2, c3, _, _, _, f1, f2, f3, _, _, _, cl⟩ := h.cells
  obtain ⟨n1, n2⟩ := h.num
  have HF := Lib.hid (fun wx hx => r4_fail wx r base file L lv ov i D hx)
  have HH := Lib.hid h
  obtain ⟨g, cap, rfl, hg, d0, d1, d2, d3, d4, d5⟩ := h.toks.at h.lt
  have hnx : (tkN L i).kind = kind → i + 1 < L.length := fun hk => h.ok.next h.lt (by rw [hk]; exact hk8)
  have htl := h.ok.at i
  have hTX := Lib.hid (show txN L i = ⟨(tkN L i).text.toArray⟩ from rfl)
  have HT := Lib.hid (show takenR L kind (rightH 4) i = if (tkN L i).kind = kind then (if rightH 4 (tkN L i).text = true then .ok (i + 1) else .error (i, 1)) else .error (i, 6) from rfl)
  unfold R4WordOut
  generalize takenR L kind (rightH 4) i = T at *
  generalize txN L i = X at *
  generalize tkN L i = t at *
  obtain ⟨t0, t1, t2, t3, t4⟩ := t
  simp only at d0 d1 d2 d3 d4 d5 hnx HT hTX htl
  clear h hk8
  have gl : g < w.heap.size := World.block_lt_of_cell? w _ d0
  have hN := Holds.new w #[.int .i64 0, .string ⟨#[]⟩, .int .i64 0, .int .i64 0, .int .i64 0, .int .i64 0] 65
  have hbl : Below w.heap.size w (w.alloc (.cells #[.int .i64 0, .string ⟨#[]⟩, .int .i64 0, .int .i64 0, .int .i64 0, .int .i64 0] 65)) := (Below.refl _ _).alloc (Nat.le_refl _) _
  have c0' := (hbl.cell cl).trans c0
  have c1' := (hbl.cell cl).trans c1
  have d0' := (hbl.cell gl).trans d0
  have d1' := (hbl.cell gl).trans d1
  have d2' := (hbl.cell gl).trans d2
  have d3' := (hbl.cell gl).trans d3
  have d4' := (hbl.cell gl).trans d4
  have d5' := (hbl.cell gl).trans d5
  have hlt := hN.lt
  obtain ⟨g0, g1, g2, g3, g4, g5⟩ := six_free hN
  obtain ⟨m0, m1, m2, m3, m4, m5⟩ := six_cells hN
  have HN6 := Lib.hid hN
  have HBL := Lib.hid hbl
  have hM := (Holds.new w #[.int .i64 t0, .string ⟨t1.toArray⟩, .int .i64 t2, .int .i64 file, .int .i64 t3, .int .i64 t4] 65).drew
  have hk3 : Keeps (fun _ => False) w (w.alloc (.cells #[.int .i64 t0, .string ⟨t1.toArray⟩, .int .i64 t2, .int .i64 file, .int .i64 t3, .int .i64 t4] 65)).drew := ((Keeps.refl _ w).alloc _).drew
  have h3 := HH.out.keeps hk3
  obtain ⟨x0, x1, x2, x3, x4, x5⟩ := six_cells hM
  have xl := hM.lt
  obtain ⟨_, y1, _, y3, _, _, _, z1, _, z3, _, _, _, yl⟩ := h3.cells
  have H3 := Lib.hid h3
  have HK3 := Lib.hid (hk3.mono (S := (· = r)) (fun _ _ e => e.elim))
  clear hN hbl hM hk3 h3
  by_cases hk : t0 = kind
  · subst hk
    have HN := Lib.hid (hnx rfl)
    clear hnx
    have hT : T = .ok (i + 1) := by rw [HT.out, if_pos rfl, if_pos (show rightH 4 t1 = true from rfl)]
    subst hT
    go_enter Tryz.func65, Tryz.ntmps65
    go_wp2_with fail
    go_region
    generalize (w.alloc (.cells #[.int .i64 t0, .string ⟨t1.toArray⟩, .int .i64 t2, .int .i64 file, .int .i64 t3, .int .i64 t4] 65)).drew = w3 at *
    go_wp2_with fail
    go_ret
    obtain ⟨a, b⟩ := H3.out.step HN.out
    exact ⟨HK3.out.trans b (fun _ _ e => e), by rw [hTX.out]; rfl, a⟩
  · have hT : T = .error (i, 6) := by rw [HT.out, if_neg hk]
    subst hT
    have hkb : (t0 != kind) = true := by rw [bne_iff_ne]; exact hk
    have HFF := Lib.hid (HF.out _ H3.out 6 (by decide))
    clear hk hnx
    go_enter Tryz.func65, Tryz.ntmps65
    go_wp2_with fail
    go_region
    generalize (w.alloc (.cells #[.int .i64 t0, .string ⟨t1.toArray⟩, .int .i64 t2, .int .i64 file, .int .i64 t3, .int .i64 t4] 65)).drew = w3 at *
    go_wp2_with fail
    refine (by exact HFF.out : Calls _ _ _ _ _).mono ?_
    rintro e w2 ⟨rfl, hb2, hk2⟩
    go_wp2_with fail
    go_ret
    exact ⟨HK3.out.trans hk2 (fun _ _ e => e), rfl, hb2⟩
end Go.Proofs.YtofhcgbihonckaaGreat
namespace Go.Proofs.YtofhcgbihonckaaGreat
open Go.RowKit
def R4R (w : World) (r base : Nat) (file : Int) (lv x ov : Value) (D : List DefT) : Prop :=
  Holds w r #[lv, x, ov, .int .i64 0, .int .i64 0, .int .i64 0, .int .i64 0] 78 ∧ DefsRow w base file ov D ∧ base ≤ r ∧ base ≤ w.heap.size
theorem add_next {w w1 w8 : World} {r base : Nat} {file : Int} {lv x ov v8 : Value} {D : List DefT} {d : DefT} {pv : Value} {vs : List Value} {o : Obj} (h : R4R w r base file lv x ov D) (hp : PartsRow w base pv d.parts) (k1 : Keeps (fun _ => False) w w1)
    (hvl : vs.length = D.length) (hrow : w.ownsRow base 34 7 ov D.length (defCells file D vs)) (hsub : ∀ k (h : k < D.length) (h2 : k < vs.length), PartsRow w base vs[k] D[k].parts)
    (hown : w8.ownsRow base 34 7 v8 (D.length + 1) (defCells file D vs ++ [.int .i64 d.kind, .string d.label, .string d.name, pv, .int .i64 file, .int .i64 d.line, .int .i64 d.col])) (hg : (w1.alloc o).grownBy w8 ov.ownBlock) :
    r < w8.heap.size ∧ w8.frozen? ⟨r, 2, none⟩ = false ∧ w8.cell? ⟨r, 2, none⟩ = some ov ∧ R4R (w8.setCell ⟨r, 2, none⟩ v8) r base file lv x v8 (D ++ [d]) ∧ Keeps (fun b => b = r ∨ ov.ownBlock = some b) w (w8.setCell ⟨r, 2, none⟩ v8) := by
  have k2 : Keeps (fun b => ov.ownBlock = some b) w w8 := ((k1.alloc o).mono (fun _ _ e => e.elim)).grown hg (fun i e => .inr e)
  have hne := owns_ne hrow h.1 (by decide)
  have h8 : Holds w8 r #[lv, x, ov, .int .i64 0, .int .i64 0, .int .i64 0, .int .i64 0] 78 := h.1.keeps k2 hne
  have hap : ∀ {v : Value} {ps : List PartT}, PartsRow w base v ps → PartsRow w8 base v ps := by
    intro v ps hps
    obtain ⟨us, u1, u2, u3⟩ := hps
    refine ⟨us, u1, ownsRow_keeps u2 k2 (fun g hg2 e => ?_), fun j a b => ownsRow_keeps (u3 j a b) k2 (fun g hg2 e => ?_)⟩
    · obtain ⟨_, _, cur, q⟩ := own_lt hrow e
      exact owns_ne u2 q (by decide) hg2
    · obtain ⟨_, _, cur, q⟩ := own_lt hrow e
      exact owns_ne (u3 j a b) q (by decide) hg2
  have h9 := h8.set 2 v8
  have k3 := (Keeps.refl (· = r) w8).setCell (p := ⟨r, 2, none⟩) (.inr rfl) v8
  have ha := Apart3.one h8 (by decide) (by decide) (by decide)
  refine ⟨h8.lt, h8.free 2, h8.cell 2, ⟨h9, ?_, h.2.2.1, Nat.le_trans h.2.2.2 (Nat.le_trans k2.size k3.size)⟩, (k2.mono (fun _ _ e => .inr e)).setCell (.inr (.inl rfl)) v8⟩
  refine DefsRow.keeps ?_ k3 ha
  refine ⟨vs ++ [pv], by simp [hvl], ?_, ?_⟩
  · rw [defCells_snoc file D vs d pv hvl]
    simpa using hown
  · intro j hj hj2
    by_cases e : j < D.length
    · rw [List.getElem_append_left (by omega), List.getElem_append_left e]
      exact hap (hsub j e (by omega))
    · have hjl : j = D.length := by simp at hj; omega
      subst hjl
      rw [List.getElem_append_right (by omega), List.getElem_append_right (by omega)]
      simp only [hvl, Nat.sub_self, List.getElem_cons_zero]
      exact hap hp
set_option maxRecDepth 100000 in
set_option maxHeartbeats 4000000 in
theorem r4_add (w : World) (r base : Nat) (file : Int) (lv x ov : Value) (D : List DefT) (d : DefT) (pv : Value) (h : R4R w r base file lv x ov D) (hp : PartsRow w base pv d.parts) (hl : D.length ≤ 20000) :
    Calls Tryz.prog 64 #[.pointer (some ⟨r, 0, none⟩), defAgg file d pv] w fun e w' => e = .returned (.tuple #[]) ∧ ∃ ov', R4R w' r base file lv x ov' (D ++ [d]) ∧ Keeps (fun b => b = r ∨ ov.ownBlock = some b) w w' := by
  obtain ⟨pa, pc, rfl⟩ := hp.slice
  obtain ⟨oa, oc, rfl⟩ := h.2.1.slice
  obtain ⟨vs, hvl, hrow, hsub⟩ := id h.2.1
  have hbs := h.2.2.2
  have hH := h.1
  have HNX := Lib.hid (fun (w1 w8 : World) (v8 : Value) (o : Obj) k1 hown hg => add_next (w1 := w1) (w8 := w8) (v8 := v8) (o := o) h hp k1 hvl hrow hsub hown hg)
  have hrow2 := World.ownsRow.alloc hrow (.cells (defRow file d (.slice pa d.parts.length pc)) 34)
  have hN := Holds.new w (defRow file d (.slice pa d.parts.length pc)) 34
  have hH2 := hH.alloc (.cells (defRow file d (.slice pa d.parts.length pc)) 34)
  have k1 := (Keeps.refl (fun _ => False) w).alloc (.cells (defRow file d (.slice pa d.parts.length pc)) 34)
  unfold defAgg
  unfold defRow at hrow2 hN hH2 k1
  clear hsub hrow h hp hH
  generalize defCells file D vs = xs at *
  obtain ⟨dk, dl, dn, dp, dli, dc⟩ := d
  simp only at *
  obtain ⟨i0, hi, hz0, hz1, hz2⟩ := info_parts infoDef
  have c3 := hH2.cell 3
  have crl0 := hH2.lt
  simp only [List.getElem?_toArray, List.getElem?_cons_succ, List.getElem?_cons_zero] at c3
  go_enter Tryz.func64, Tryz.ntmps64
  go_wp2_with fail
  generalize w.alloc (.cells #[.int .i64 dk, .string dl, .string dn, .slice pa dp.length pc, .int .i64 file, .int .i64 dli, .int .i64 dc] 34) = wb at *
  obtain ⟨m0, m1, m2, m3, m4, m5, m6⟩ := seven_cells hN
  have c2 : wb.cell? ⟨r, 2, none⟩ = some (.slice oa D.length oc) := hH2.cell 2
  have hbl := hN.lt
  have hbz := Nat.le_trans hbs k1.size
  have HOWN := Lib.hid (World.ownsRow.alloc (show wb.drew.ownsRow base 34 7 (.slice oa D.length oc) D.length xs from hrow2) (.cells #[.int .i64 dk, .string dl, .string dn, .slice pa dp.length pc, .int .i64 file, .int .i64 dli, .int .i64 dc] 34))
  clear hrow2 hH2 hN
  go_region_law (refine step_append_lies _ (by rfl) _ _ _ (by rfl) base 34 i0 _ 7 88 Tryz.underlying25 hi hz0 hz1 hz2 rfl (by omega) _ D.length xs (by rfl) HOWN.out ⟨wb.heap.size, 0, none⟩ 1 1 [.int .i64 dk, .string dl, .string dn, .slice pa dp.length pc, .int .i64 file, .int .i64 dli, .int .i64 dc] (by rfl) (by rfl) (World.news_of_block (cs := #[.int .i64 dk, .string dl, .string dn, .slice pa dp.length pc, .int .i64 file, .int .i64 dli, .int .i64 dc]) (t := 34) (fr := (0, 0)) (heap_alloc_new wb.drew _)) (by simp [Value.oneCell']) (by omega) (by unfold maxLen; omega) (by omega) (by simp; omega) (wb.heap.size + 1) (by simp) ?_; intro gg cap2 w8 hown8 hgrow hat hlt8; obtain ⟨y0, y1, y2, y3, y4⟩ := HNX.out wb.drew w8 _ _ k1.drew hown8 hgrow)
  all_goals
    go_wp2_with fail
    go_end0
    exact ⟨rfl, _, y3, y4⟩
end Go.Proofs.YtofhcgbihonckaaGreat
namespace Go.Proofs.YtofhcgbihonckaaGreat
open Go.RowKit
theorem r4_prim (L : List Tok) (lv : Value) (B i : Nat) (file : Int) (w : World) (h : TokIn B w lv file L) (hB : B ≤ w.heap.size) (ho : LOk L) (hi : i < L.length) :
    Calls Tryz.prog 149 #[lv, .int .i64 i] w fun e w' => e = .returned (.tuple #[.int .i64 (primX L i).1, .int .i64 (primX L i).2.1, .int .i64 (primX L i).2.2]) ∧ Below w.heap.size w w' := by
  refine (r2_Primary (L.map tkX) lv i w (h.tokAt hB ho) (by rw [List.length_map]; have := ho.len; omega) (by rw [List.length_map]; exact hi)).mono ?_
  rintro e w' ⟨res, hr, rfl, hb⟩
  have : outT res = primX L i := by unfold primX; rw [hr.evF trivial]
  rw [this]
  exact ⟨rfl, hb⟩
def cellR (L : List Tok) (i : Nat) : Rs (Nat × CellT) :=
  if (tkN L i).kind = 6 then (if labelT (tkN L i).text = true then .ok (i + 1, ⟨0, txN L i⟩) else .error (i, 1))
  else if (primX L i).2.2 ≠ 0 then .error (i, (primX L i).2.2) else .ok ((primX L i).2.1.toNat, ⟨(primX L i).1, ⟨#[]⟩⟩)
def R4CellOut (r base : Nat) (file : Int) (L : List Tok) (lv ov : Value) (D : List DefT) (R : Rs (Nat × CellT)) (w : World) (e : Ending) (w' : World) : Prop :=
  Keeps (· = r) w w' ∧ match R with
    | .ok (j, c) => e = .returned (.agg #[.int .i64 c.value, .string c.label]) ∧ R4At w' r base file L lv ov j D
    | .error (k, c) => e = .returned (.agg #[.int .i64 0, .string ⟨#[]⟩]) ∧ R4Bad w' r file L k c
theorem r4_res {w w2 : World} {r base : Nat} {file : Int} {L : List Tok} {lv ov : Value} {i j : Nat} {D : List DefT} {x y : Value} (h : R4At w r base file L lv ov i D) (ha : R4At w2 r base file L lv ov j D) (hij : i ≤ j) (k2 : Keeps (· = r) w w2) (hZ : Holds w2 w.heap.size #[x, y] 72) (hB : w.heap.size ≠ r) (a b : Value) :
    ((w2.setCell ⟨w.heap.size, 0, none⟩ a).setCell ⟨w.heap.size, 1, none⟩ b).cell? ⟨w.heap.size, 0, none⟩ = some a ∧ ((w2.setCell ⟨w.heap.size, 0, none⟩ a).setCell ⟨w.heap.size, 1, none⟩ b).cell? ⟨w.heap.size, 1, none⟩ = some b ∧
    R4At ((w2.setCell ⟨w.heap.size, 0, none⟩ a).setCell ⟨w.heap.size, 1, none⟩ b) r base file L lv ov j D ∧ Keeps (· = r) w ((w2.setCell ⟨w.heap.size, 0, none⟩ a).setCell ⟨w.heap.size, 1, none⟩ b) := by
  have hz := (hZ.set 0 a).set 1 b
  have k := (k2.setCell (p := ⟨w.heap.size, 0, none⟩) (.inl (Nat.le_refl _)) a).setCell (p := ⟨w.heap.size, 1, none⟩) (.inl (Nat.le_refl _)) b
  exact ⟨hz.cell 0, hz.cell 1, h.turn k ((ha.holds.other ⟨w.heap.size, 0, none⟩ a (Ne.symm hB)).other ⟨w.heap.size, 1, none⟩ b (Ne.symm hB)) ha.lt hij, k⟩
theorem r4_res_bad {w w2 : World} {r : Nat} {file : Int} {L : List Tok} {k : Nat} {c : Int} {x y : Value} (ha : R4Bad w2 r file L k c) (k2 : Keeps (· = r) w w2) (hZ : Holds w2 w.heap.size #[x, y] 72) (hB : w.heap.size ≠ r) (a b : Value) :
    ((w2.setCell ⟨w.heap.size, 0, none⟩ a).setCell ⟨w.heap.size, 1, none⟩ b).cell? ⟨w.heap.size, 0, none⟩ = some a ∧ ((w2.setCell ⟨w.heap.size, 0, none⟩ a).setCell ⟨w.heap.size, 1, none⟩ b).cell? ⟨w.heap.size, 1, none⟩ = some b ∧
    R4Bad ((w2.setCell ⟨w.heap.size, 0, none⟩ a).setCell ⟨w.heap.size, 1, none⟩ b) r file L k c ∧ Keeps (· = r) w ((w2.setCell ⟨w.heap.size, 0, none⟩ a).setCell ⟨w.heap.size, 1, none⟩ b) := by
  have hz := (hZ.set 0 a).set 1 b
  have kk := (k2.setCell (p := ⟨w.heap.size, 0, none⟩) (.inl (Nat.le_refl _)) a).setCell (p := ⟨w.heap.size, 1, none⟩) (.inl (Nat.le_refl _)) b
  obtain ⟨h0, lv, x, ov, h⟩ := ha
  exact ⟨hz.cell 0, hz.cell 1, ⟨h0, lv, x, ov, (h.other ⟨w.heap.size, 0, none⟩ a (Ne.symm hB)).other ⟨w.heap.size, 1, none⟩ b (Ne.symm hB)⟩, kk⟩
set_option maxRecDepth 100000 in
set_option maxHeartbeats 2000000 in
theorem r4_cell (w : World) (r base : Nat) (file : Int) (L : List Tok) (lv ov : Value) (i : Nat) (D : List DefT) (h : R4At w r base file L lv ov i D) :
    Calls Tryz.prog 143 #[.pointer (some ⟨r, 0, none⟩)] w (R4CellOut r base file L lv ov D (cellR L i) w) := by
  obtain ⟨c0, c1, c2, c3, _, _, _, f1, f2, f3, _, _, _, cl⟩ := h.cells
  obtain ⟨n1, n2⟩ := h.num
  have HF := Lib.hid (fun c hc => r4_fail w r base file L lv ov i D h c hc)
  have HWD := Lib.hid (fun wx hx => r4_word3 wx r base file L lv ov i D hx 6 (by decide))
  have HPR := Lib.hid (fun wx (hx : R4At wx r base file L lv ov i D) => r4_prim L lv base i file wx hx.toks hx.size hx.ok hx.lt)
  have HPL := Lib.hid (fun e => prim_place h.ok h.lt e)
  have HH := Lib.hid h
  have HC := Lib.hid (show cellR L i = if (tkN L i).kind = 6 then (if labelT (tkN L i).text = true then .ok (i + 1, ⟨0, txN L i⟩) else .error (i, 1))
    else if (primX L i).2.2 ≠ 0 then .error (i, (primX L i).2.2) else .ok ((primX L i).2.1.toNat, ⟨(primX L i).1, ⟨#[]⟩⟩) from rfl)
  have HTK := Lib.hid (show takenR L 6 (rightH 3) i = if (tkN L i).kind = 6 then (if labelT (tkN L i).text = true then .ok (i + 1) else .error (i, 1)) else .error (i, 6) from rfl)
  obtain ⟨g, cap, rfl, hg, d0, d1, d2, d3, d4, d5⟩ := h.toks.at h.lt
  have gl : g < w.heap.size := World.block_lt_of_cell? w _ d0
  clear h d1 d2 d3 d4 d5
  have hZ0 := Holds.new w #[.int .i64 0, .string ⟨#[]⟩] 72
  have hk0 : Keeps (fun _ => False) w (w.alloc (.cells #[.int .i64 0, .string ⟨#[]⟩] 72)) := (Keeps.refl _ w).alloc _
  have HZ0 := Lib.hid hZ0
  have HK0 := Lib.hid hk0
  clear hZ0 hk0
  have hBr : w.heap.size ≠ r := by omega
  by_cases hk : (tkN L i).kind = 6
  · rw [hk] at d0
    have HK := Lib.hid hk
    clear hk
    go_enter Tryz.func143, Tryz.ntmps143
    go_wp2_with fail
    go_quiet (fail)
    go_wp2_with fail
    obtain ⟨T, hT⟩ : ∃ T, T = takenR L 6 (rightH 3) i := ⟨_, rfl⟩
    rw [← hT] at HWD HTK
    have HTT := Lib.hid hT
    clear hT
    cases hb : labelT (tkN L i).text with
    | true =>
      have e1 := HTK.out
      rw [if_pos HK.out, if_pos hb] at e1
      have e2 := HC.out
      rw [if_pos HK.out, if_pos hb] at e2
      have E2 := Lib.hid e2
      subst e1
      clear e2 hb
      refine (by exact HWD.out _ (HH.out.keeps (HK0.out.drewN _)) : Calls _ _ _ _ _).mono ?_
      rintro e w2 ⟨hk2, rfl, ha⟩
      have hZ2 := (HZ0.out.drewN _).keeps hk2 hBr
      have HA := Lib.hid ha
      have HK2 := Lib.hid (((HK0.out.drewN _).mono (S := (· = r)) (fun _ _ e => e.elim)).trans hk2 (fun _ _ e => e))
      have z0 := hZ2.cell 0
      have z1 := hZ2.cell 1
      have y0 := hZ2.free 0
      have y1 := hZ2.free 1
      have zl := hZ2.lt
      have HZ2 := Lib.hid hZ2
      clear hZ2 ha hk2
      generalize txN L i = X at *
      go_wp2_with fail
      obtain ⟨q0, q1, q2, q3⟩ := r4_res HH.out HA.out (by omega) HK2.out HZ2.out hBr (.int .i64 0) (.string X)
      exact bodyPost_ret (v := .agg #[.int .i64 0, .string X]) (by simp [results, Tryz.results143, go_sem, q0, q1]) rfl ⟨q3, by rw [E2.out]; exact ⟨rfl, q2⟩⟩
    | false =>
      have hb' : ¬ labelT (tkN L i).text = true := by rw [hb]; exact Bool.false_ne_true
      have e1 := HTK.out
      rw [if_pos HK.out, if_neg hb'] at e1
      have e2 := HC.out
      rw [if_pos HK.out, if_neg hb'] at e2
      have E2 := Lib.hid e2
      subst e1
      clear e2 hb hb'
      refine (by exact HWD.out _ (HH.out.keeps (HK0.out.drewN _)) : Calls _ _ _ _ _).mono ?_
      rintro e w2 ⟨hk2, rfl, ha⟩
      have hZ2 := (HZ0.out.drewN _).keeps hk2 hBr
      have HA := Lib.hid ha
      have HK2 := Lib.hid (((HK0.out.drewN _).mono (S := (· = r)) (fun _ _ e => e.elim)).trans hk2 (fun _ _ e => e))
      have z0 := hZ2.cell 0
      have z1 := hZ2.cell 1
      have y0 := hZ2.free 0
      have y1 := hZ2.free 1
      have zl := hZ2.lt
      have HZ2 := Lib.hid hZ2
      clear hZ2 ha hk2
      go_wp2_with fail
      obtain ⟨q0, q1, q2, q3⟩ := r4_res_bad HA.out HK2.out HZ2.out hBr (.int .i64 0) (.string ⟨#[]⟩)
      exact bodyPost_ret (v := .agg #[.int .i64 0, .string ⟨#[]⟩]) (by simp [results, Tryz.results143, go_sem, q0, q1]) rfl ⟨q3, by rw [E2.out]; exact ⟨rfl, q2⟩⟩
  · have hkb : ((tkN L i).kind == 6) = false := by rw [beq_eq_false_iff_ne]; exact hk
    have HK := Lib.hid hk
    generalize (tkN L i).kind = kd at *
    clear hk
    generalize primX L i = P at *
    obtain ⟨p1, p2, p3⟩ := P
    go_enter Tryz.func143, Tryz.ntmps143
    go_wp2_with fail
    go_quiet (fail)
    go_wp2_with fail
    generalize hw5 : (w.alloc (.cells #[.int .i64 0, .string ⟨#[]⟩] 72)).drewN _ = w5
    have hk5 : Keeps (fun _ => False) w w5 := by rw [← hw5]; exact HK0.out.drewN _
    have h5 := HH.out.keeps hk5
    have hZ5 : Holds w5 w.heap.size #[.int .i64 0, .string ⟨#[]⟩] 72 := by rw [← hw5]; exact HZ0.out.drewN _
    have H5 := Lib.hid h5
    have HZ5 := Lib.hid hZ5
    have HK5 := Lib.hid hk5
    obtain ⟨b0, b1, _, b3, _, _, _, a1, _, a3, _, _, _, bl⟩ := h5.cells
    clear hw5 hk5 h5 hZ5
    by_cases hp : p3 = 0
    · obtain ⟨j, hj, hij, hjl⟩ := HPL.out hp
      have e2 := HC.out
      rw [if_neg HK.out, if_neg (by simpa using hp)] at e2
      have E2 := Lib.hid e2
      subst hp hj
      clear e2
      go_region_with (go_at_call 149; refine (HPR.out _ (by exact H5.out.keeps ((Keeps.refl _ _).drew))).mono ?_; rintro e w3 ⟨rfl, hb3⟩)
      all_goals
        have hk3 : Keeps (fun _ => False) w5 w3 := ((Keeps.refl (fun _ => False) w5).drew).trans (Keeps.of_fresh hb3 (fun _ => False)) (fun _ _ e => e)
        have h3 := H5.out.keeps hk3
        have hZ3 := HZ5.out.keeps hk3 (fun e => e)
        obtain ⟨_, v1, _, v3, _, _, _, u1, _, u3, _, _, _, vl⟩ := h3.cells
        have HK3 := Lib.hid ((HK5.out.trans hk3 (fun _ _ e => e)).mono (S := (· = r)) (fun _ _ e => e.elim))
        have kj := (Keeps.refl (· = r) w3).setCell (p := ⟨r, 1, none⟩) (.inr rfl) (.int .i64 (j : Int))
        have HJ := Lib.hid (h3.turn kj (h3.holds.set 1 (.int .i64 (j : Int))) hjl (by omega))
        have HKJ := Lib.hid (HK3.out.trans kj (fun _ _ e => e))
        have hZJ := hZ3.other ⟨r, 1, none⟩ (.int .i64 (j : Int)) hBr
        have z0 := hZJ.cell 0
        have z1 := hZJ.cell 1
        have y0 := hZJ.free 0
        have y1 := hZJ.free 1
        have zl := hZJ.lt
        have HZJ := Lib.hid hZJ
        clear hZJ hZ3 h3 hk3 hb3 kj
        go_wp2_with fail
        obtain ⟨q0, q1, q2, q3⟩ := r4_res HH.out HJ.out (by omega) HKJ.out HZJ.out hBr (.int .i64 p1) (.string ⟨#[]⟩)
        exact bodyPost_ret (v := .agg #[.int .i64 p1, .string ⟨#[]⟩]) (by simp [results, Tryz.results143, go_sem, q0, q1]) rfl ⟨q3, by rw [E2.out]; exact ⟨rfl, q2⟩⟩
    · have e2 := HC.out
      rw [if_neg HK.out, if_pos (by simpa using hp)] at e2
      have E2 := Lib.hid e2
      have hpb : (p3 != 0) = true := by rw [bne_iff_ne]; exact hp
      have HP := Lib.hid hp
      clear e2 hp
      go_region_with (go_at_call 149; refine (HPR.out _ (by exact H5.out.keeps ((Keeps.refl _ _).drew))).mono ?_; rintro e w3 ⟨rfl, hb3⟩)
      all_goals
        have hk3 : Keeps (fun _ => False) w5 w3 := ((Keeps.refl (fun _ => False) w5).drew).trans (Keeps.of_fresh hb3 (fun _ => False)) (fun _ _ e => e)
        have h3 := H5.out.keeps hk3
        have hZ3 := HZ5.out.keeps hk3 (fun e => e)
        have HK3 := Lib.hid ((HK5.out.trans hk3 (fun _ _ e => e)).mono (S := (· = r)) (fun _ _ e => e.elim))
        have HFF := Lib.hid (r4_fail w3 r base file L _ ov i D h3 p3 HP.out)
        have HZ3 := Lib.hid hZ3
        clear hZ3 h3 hk3 hb3
        go_wp2_with fail
        refine (by exact HFF.out : Calls _ _ _ _ _).mono ?_
        rintro e w2 ⟨rfl, hbad, hk2⟩
        have hZ2 := HZ3.out.keeps hk2 hBr
        have HA := Lib.hid hbad
        have HK2 := Lib.hid (HK3.out.trans hk2 (fun _ _ e => e))
        have z0 := hZ2.cell 0
        have z1 := hZ2.cell 1
        have y0 := hZ2.free 0
        have y1 := hZ2.free 1
        have zl := hZ2.lt
        have HZ2 := Lib.hid hZ2
        clear hZ2 hbad hk2
        go_wp2_with fail
        obtain ⟨q0, q1, q2, q3⟩ := r4_res_bad HA.out HK2.out HZ2.out hBr (.int .i64 0) (.string ⟨#[]⟩)
        exact bodyPost_ret (v := .agg #[.int .i64 0, .string ⟨#[]⟩]) (by simp [results, Tryz.results143, go_sem, q0, q1]) rfl ⟨q3, by rw [E2.out]; exact ⟨rfl, q2⟩⟩
end Go.Proofs.YtofhcgbihonckaaGreat
namespace Go.Proofs.YtofhcgbihonckaaGreat
open Go.RowKit
def R4PartOut (r base : Nat) (file : Int) (L : List Tok) (lv ov : Value) (D : List DefT) (R : Rs (Nat × PartT)) (w : World) (e : Ending) (w' : World) : Prop :=
  Keeps (· = r) w w' ∧ match R with
    | .ok (j, p) => ∃ cv, e = .returned (.agg #[.int .i64 p.kind, cv, .string p.text]) ∧ CellsRow w' base cv p.cells ∧ R4At w' r base file L lv ov j D
    | .error (k, c) => ∃ (p : PartT) (cv : Value), e = .returned (.agg #[.int .i64 p.kind, cv, .string p.text]) ∧ CellsRow w' base cv p.cells ∧ R4Bad w' r file L k c
def pset3 (w : World) (B : Nat) (a b c : Value) : World := ((w.setCell ⟨B, 0, none⟩ a).setCell ⟨B, 1, none⟩ b).setCell ⟨B, 2, none⟩ c
theorem pset3_holds {w2 : World} {B : Nat} {x y z : Value} {t : TypeId} (hZ : Holds w2 B #[x, y, z] t) (a b c : Value) : (pset3 w2 B a b c).cell? ⟨B, 0, none⟩ = some a ∧ (pset3 w2 B a b c).cell? ⟨B, 1, none⟩ = some b ∧ (pset3 w2 B a b c).cell? ⟨B, 2, none⟩ = some c := by
  have hz := ((hZ.set 0 a).set 1 b).set 2 c
  exact ⟨hz.cell 0, hz.cell 1, hz.cell 2⟩
theorem pset3_keeps {w w2 : World} {S : Nat → Prop} (k2 : Keeps S w w2) {B : Nat} (hB : w.heap.size ≤ B ∨ S B) (a b c : Value) : Keeps S w (pset3 w2 B a b c) :=
  ((k2.setCell (p := ⟨B, 0, none⟩) hB a).setCell (p := ⟨B, 1, none⟩) hB b).setCell (p := ⟨B, 2, none⟩) hB c
theorem pset3_other {w2 : World} {r B : Nat} {xs : Array Value} {t : TypeId} (h : Holds w2 r xs t) (hB : B ≠ r) (a b c : Value) : Holds (pset3 w2 B a b c) r xs t :=
  ((h.other ⟨B, 0, none⟩ a (Ne.symm hB)).other ⟨B, 1, none⟩ b (Ne.symm hB)).other ⟨B, 2, none⟩ c (Ne.symm hB)
theorem r4_pres {w w2 : World} {r base : Nat} {file : Int} {L : List Tok} {lv ov : Value} {i j : Nat} {D : List DefT} (h : R4At w r base file L lv ov i D) (ha : R4At w2 r base file L lv ov j D) (hij : i ≤ j) (k2 : Keeps (· = r) w w2) (hB : w.heap.size ≠ r) (a b c : Value) :
    R4At (pset3 w2 w.heap.size a b c) r base file L lv ov j D :=
  h.turn (pset3_keeps k2 (.inl (Nat.le_refl _)) a b c) (pset3_other ha.holds hB a b c) ha.lt hij
theorem r4_pres_bad {w w2 : World} {r : Nat} {file : Int} {L : List Tok} {k : Nat} {c0 : Int} (ha : R4Bad w2 r file L k c0) (hB : w.heap.size ≠ r) (a b c : Value) : R4Bad (pset3 w2 w.heap.size a b c) r file L k c0 := by
  obtain ⟨h0, lv, x, ov, h⟩ := ha
  exact ⟨h0, lv, x, ov, pset3_other h hB a b c⟩
set_option maxRecDepth 100000 in
set_option maxHeartbeats 2000000 in
theorem r4_part_str (w : World) (r base : Nat) (file : Int) (L : List Tok) (lv ov : Value) (i : Nat) (D : List DefT) (h : R4At w r base file L lv ov i D) (hk : (tkN L i).kind = 3) :
    Calls Tryz.prog 130 #[.pointer (some ⟨r, 0, none⟩)] w (R4PartOut r base file L lv ov D (partR L i) w) := by
  obtain ⟨c0, c1, c2, c3, _, _, _, f1, f2, f3, _, _, _, cl⟩ := h.cells
  obtain ⟨n1, n2⟩ := h.num
  have hwd := fun wx hx => r4_word4 wx r base file L lv ov i D hx 3 (by decide)
  rw [show takenR L 3 (rightH 4) i = .ok (i + 1) from by unfold takenR; rw [if_pos hk]; rfl] at hwd
  have HP := Lib.hid (show partR L i = .ok (i + 1, ⟨2, [], txN L i⟩) from by unfold partR; rw [if_pos hk])
  have HWD := Lib.hid hwd
  have HH := Lib.hid h
  obtain ⟨g, cap, rfl, hg, d0, _⟩ := h.toks.at h.lt
  have gl : g < w.heap.size := World.block_lt_of_cell? w _ d0
  have hZ0 := Holds.new w #[.int .i64 0, .slice none 0 0, .string ⟨#[]⟩] 75
  have hk0 : Keeps (fun _ => False) w (w.alloc (.cells #[.int .i64 0, .slice none 0 0, .string ⟨#[]⟩] 75)) := (Keeps.refl _ w).alloc _
  have HZ0 := Lib.hid hZ0
  have HK0 := Lib.hid hk0
  have hBr : w.heap.size ≠ r := by omega
  rw [hk] at d0
  clear h hk hwd hZ0 hk0
  go_enter Tryz.func130, Tryz.ntmps130
  go_wp2_with fail
  go_quiet (fail)
  go_wp2_with fail
  refine (by exact HWD.out _ (HH.out.keeps (HK0.out.drewN _)) : Calls _ _ _ _ _).mono ?_
  rintro e w2 ⟨hk2, rfl, ha⟩
  have hZ2 := (HZ0.out.drewN _).keeps hk2 hBr
  have HA := Lib.hid ha
  have HK2 := Lib.hid (((HK0.out.drewN _).mono (S := (· = r)) (fun _ _ e => e.elim)).trans hk2 (fun _ _ e => e))
  have z0 := hZ2.cell 0
  have z1 := hZ2.cell 1
  have z2 := hZ2.cell 2
  have y0 := hZ2.free 0
  have y1 := hZ2.free 1
  have y2 := hZ2.free 2
  have zl := hZ2.lt
  have HZ2 := Lib.hid hZ2
  clear hZ2 ha hk2
  generalize txN L i = X at *
  go_wp2_with fail
  obtain ⟨q0, q1, q2⟩ := pset3_holds HZ2.out (.int .i64 2) (.slice none 0 0) (.string X)
  unfold pset3 at q0 q1 q2
  exact bodyPost_ret (v := .agg #[.int .i64 2, .slice none 0 0, .string X]) (by simp [results, Tryz.results130, go_sem, q0, q1, q2]) rfl ⟨pset3_keeps HK2.out (.inl (Nat.le_refl _)) _ _ _, by rw [HP.out]; exact ⟨_, rfl, CellsRow.none _ _, r4_pres HH.out HA.out (by omega) HK2.out hBr _ _ _⟩⟩
set_option maxRecDepth 100000 in
set_option maxHeartbeats 2000000 in
theorem r4_part_ref (w : World) (r base : Nat) (file : Int) (L : List Tok) (lv ov : Value) (i : Nat) (D : List DefT) (h : R4At w r base file L lv ov i D) (hk : (tkN L i).kind = 6) (hb : labelT (tkN L i).text = true) :
    Calls Tryz.prog 130 #[.pointer (some ⟨r, 0, none⟩)] w (R4PartOut r base file L lv ov D (partR L i) w) := by
  obtain ⟨c0, c1, c2, c3, _, _, _, f1, f2, f3, _, _, _, cl⟩ := h.cells
  obtain ⟨n1, n2⟩ := h.num
  have hwd := fun wx hx => r4_word3 wx r base file L lv ov i D hx 6 (by decide)
  rw [show takenR L 6 (rightH 3) i = .ok (i + 1) from by unfold takenR; rw [if_pos hk]; exact if_pos hb] at hwd
  have HP := Lib.hid (show partR L i = .ok (i + 1, ⟨4, [], txN L i⟩) from by unfold partR; rw [if_neg (by rw [hk]; decide), if_pos hk, if_pos hb])
  clear hb
  have HWD := Lib.hid hwd
  have HH := Lib.hid h
  obtain ⟨g, cap, rfl, hg, d0, _⟩ := h.toks.at h.lt
  have gl : g < w.heap.size := World.block_lt_of_cell? w _ d0
  have hZ0 := Holds.new w #[.int .i64 0, .slice none 0 0, .string ⟨#[]⟩] 75
  have hk0 : Keeps (fun _ => False) w (w.alloc (.cells #[.int .i64 0, .slice none 0 0, .string ⟨#[]⟩] 75)) := (Keeps.refl _ w).alloc _
  have HZ0 := Lib.hid hZ0
  have HK0 := Lib.hid hk0
  have hBr : w.heap.size ≠ r := by omega
  rw [hk] at d0
  clear h hk hwd hZ0 hk0
  go_enter Tryz.func130, Tryz.ntmps130
  go_wp2_with fail
  go_quiet (fail)
  go_wp2_with fail
  go_quiet (fail)
  go_wp2_with fail
  refine (by exact HWD.out _ (HH.out.keeps (HK0.out.drewN _)) : Calls _ _ _ _ _).mono ?_
  rintro e w2 ⟨hk2, rfl, ha⟩
  have hZ2 := (HZ0.out.drewN _).keeps hk2 hBr
  have HA := Lib.hid ha
  have HK2 := Lib.hid (((HK0.out.drewN _).mono (S := (· = r)) (fun _ _ e => e.elim)).trans hk2 (fun _ _ e => e))
  have z0 := hZ2.cell 0
  have z1 := hZ2.cell 1
  have z2 := hZ2.cell 2
  have y0 := hZ2.free 0
  have y1 := hZ2.free 1
  have y2 := hZ2.free 2
  have zl := hZ2.lt
  have HZ2 := Lib.hid hZ2
  clear hZ2 ha hk2
  generalize txN L i = X at *
  go_wp2_with fail
  obtain ⟨q0, q1, q2⟩ := pset3_holds HZ2.out (.int .i64 4) (.slice none 0 0) (.string X)
  unfold pset3 at q0 q1 q2
  exact bodyPost_ret (v := .agg #[.int .i64 4, .slice none 0 0, .string X]) (by simp [results, Tryz.results130, go_sem, q0, q1, q2]) rfl ⟨pset3_keeps HK2.out (.inl (Nat.le_refl _)) _ _ _, by rw [HP.out]; exact ⟨_, rfl, CellsRow.none _ _, r4_pres HH.out HA.out (by omega) HK2.out hBr _ _ _⟩⟩
set_option maxRecDepth 100000 in
set_option maxHeartbeats 2000000 in
theorem r4_part_refbad (w : World) (r base : Nat) (file : Int) (L : List Tok) (lv ov : Value) (i : Nat) (D : List DefT) (h : R4At w r base file L lv ov i D) (hk : (tkN L i).kind = 6) (hb : ¬ labelT (tkN L i).text = true) :
    Calls Tryz.prog 130 #[.pointer (some ⟨r, 0, none⟩)] w (R4PartOut r base file L lv ov D (partR L i) w) := by
  obtain ⟨c0, c1, c2, c3, _, _, _, f1, f2, f3, _, _, _, cl⟩ := h.cells
  obtain ⟨n1, n2⟩ := h.num
  have hwd := fun wx hx => r4_word3 wx r base file L lv ov i D hx 6 (by decide)
  rw [show takenR L 6 (rightH 3) i = .error (i, 1) from by unfold takenR; rw [if_pos hk]; exact if_neg hb] at hwd
  have HP := Lib.hid (show partR L i = .error (i, 1) from by unfold partR; rw [if_neg (by rw [hk]; decide), if_pos hk, if_neg hb])
  clear hb
  have HWD := Lib.hid hwd
  have HH := Lib.hid h
  obtain ⟨g, cap, rfl, hg, d0, _⟩ := h.toks.at h.lt
  have gl : g < w.heap.size := World.block_lt_of_cell? w _ d0
  have hZ0 := Holds.new w #[.int .i64 0, .slice none 0 0, .string ⟨#[]⟩] 75
  have hk0 : Keeps (fun _ => False) w (w.alloc (.cells #[.int .i64 0, .slice none 0 0, .string ⟨#[]⟩] 75)) := (Keeps.refl _ w).alloc _
  have HZ0 := Lib.hid hZ0
  have HK0 := Lib.hid hk0
  have hBr : w.heap.size ≠ r := by omega
  rw [hk] at d0
  clear h hk hwd hZ0 hk0
  go_enter Tryz.func130, Tryz.ntmps130
  go_wp2_with fail
  go_quiet (fail)
  go_wp2_with fail
  go_quiet (fail)
  go_wp2_with fail
  refine (by exact HWD.out _ (HH.out.keeps (HK0.out.drewN _)) : Calls _ _ _ _ _).mono ?_
  rintro e w2 ⟨hk2, rfl, ha⟩
  have hZ2 := (HZ0.out.drewN _).keeps hk2 hBr
  have HA := Lib.hid ha
  have HK2 := Lib.hid (((HK0.out.drewN _).mono (S := (· = r)) (fun _ _ e => e.elim)).trans hk2 (fun _ _ e => e))
  have z0 := hZ2.cell 0
  have z1 := hZ2.cell 1
  have z2 := hZ2.cell 2
  have y0 := hZ2.free 0
  have y1 := hZ2.free 1
  have y2 := hZ2.free 2
  have zl := hZ2.lt
  have HZ2 := Lib.hid hZ2
  clear hZ2 ha hk2
  generalize txN L i = X at *
  go_wp2_with fail
  obtain ⟨q0, q1, q2⟩ := pset3_holds HZ2.out (.int .i64 4) (.slice none 0 0) (.string ⟨#[]⟩)
  unfold pset3 at q0 q1 q2
  exact bodyPost_ret (v := .agg #[.int .i64 4, .slice none 0 0, .string ⟨#[]⟩]) (by simp [results, Tryz.results130, go_sem, q0, q1, q2]) rfl ⟨pset3_keeps HK2.out (.inl (Nat.le_refl _)) _ _ _, by rw [HP.out]; exact ⟨⟨4, [], ⟨#[]⟩⟩, _, rfl, CellsRow.none _ _, r4_pres_bad HA.out hBr _ _ _⟩⟩
end Go.Proofs.YtofhcgbihonckaaGreat
namespace Go.Proofs.YtofhcgbihonckaaGreat
open Go.RowKit
set_option maxRecDepth 100000 in
set_option maxHeartbeats 2000000 in
theorem r4_part_none (w : World) (r base : Nat) (file : Int) (L : List Tok) (lv ov : Value) (i : Nat) (D : List DefT) (h : R4At w r base file L lv ov i D) (h3 : (tkN L i).kind ≠ 3) (h6 : (tkN L i).kind ≠ 6) (hb : isK L i 4 [91] = false) (hc : isK L i 4 [60] = false) :
    Calls Tryz.prog 130 #[.pointer (some ⟨r, 0, none⟩)] w (R4PartOut r base file L lv ov D (partR L i) w) := by
  obtain ⟨c0, c1, c2, c3, _, _, _, f1, f2, f3, _, _, _, cl⟩ := h.cells
  obtain ⟨n1, n2⟩ := h.num
  have his1 := fun wx hx => r4_is wx r base file L lv ov i D hx 4 [91] (by decide)
  have his2 := fun wx hx => r4_is wx r base file L lv ov i D hx 4 [60] (by decide)
  rw [hb] at his1
  rw [hc] at his2
  have HI1 := Lib.hid his1
  have HI2 := Lib.hid his2
  have HF := Lib.hid (fun wx hx => r4_fail wx r base file L lv ov i D hx 6 (by decide))
  have HH := Lib.hid h
  have HP := Lib.hid (show partR L i = .error (i, 6) from by unfold partR; rw [if_neg h3, if_neg h6, if_neg (by rw [hc]; exact Bool.false_ne_true), if_neg (by rw [hb]; exact Bool.false_ne_true)])
  obtain ⟨g, cap, rfl, hg, d0, _⟩ := h.toks.at h.lt
  have gl : g < w.heap.size := World.block_lt_of_cell? w _ d0
  have hZ0 := Holds.new w #[.int .i64 0, .slice none 0 0, .string ⟨#[]⟩] 75
  have hk0 : Keeps (fun _ => False) w (w.alloc (.cells #[.int .i64 0, .slice none 0 0, .string ⟨#[]⟩] 75)) := (Keeps.refl _ w).alloc _
  have HZ0 := Lib.hid hZ0
  have HK0 := Lib.hid hk0
  have hBr : w.heap.size ≠ r := by omega
  have g3 : ((tkN L i).kind == 3) = false := by rw [beq_eq_false_iff_ne]; exact h3
  have g6 : ((tkN L i).kind == 6) = false := by rw [beq_eq_false_iff_ne]; exact h6
  generalize (tkN L i).kind = kd at *
  clear h h3 h6 hb hc his1 his2 hZ0 hk0
  go_enter Tryz.func130, Tryz.ntmps130
  go_wp2_with fail
  go_quiet (fail)
  go_wp2_with fail
  go_quiet (fail)
  go_wp2_with fail
  refine (by exact HI1.out _ (HH.out.keeps (HK0.out.drewN _)) : Calls _ _ _ _ _).mono ?_
  rintro e w1 ⟨rfl, hk1⟩
  have hK1 := (HK0.out.drewN _).trans hk1 (fun _ _ e => e)
  have HZ1 := Lib.hid ((HZ0.out.drewN _).keeps hk1 (fun e => e))
  have HK1 := Lib.hid hK1
  clear hK1 hk1
  go_wp2_with fail
  refine (by exact HI2.out _ (HH.out.keeps HK1.out) : Calls _ _ _ _ _).mono ?_
  rintro e w2 ⟨rfl, hk2⟩
  have HZ2 := Lib.hid (HZ1.out.keeps hk2 (fun e => e))
  have HK2 := Lib.hid (HK1.out.trans hk2 (fun _ _ e => e))
  clear hk2
  go_wp2_with fail
  refine (by exact HF.out _ (HH.out.keeps HK2.out) : Calls _ _ _ _ _).mono ?_
  rintro e w3 ⟨rfl, hbad, hk3⟩
  have hZ3 := HZ2.out.keeps hk3 hBr
  have HA := Lib.hid hbad
  have HK3 := Lib.hid ((HK2.out.mono (S := (· = r)) (fun _ _ e => e.elim)).trans hk3 (fun _ _ e => e))
  have z0 := hZ3.cell 0
  have z1 := hZ3.cell 1
  have z2 := hZ3.cell 2
  have y0 := hZ3.free 0
  have y1 := hZ3.free 1
  have y2 := hZ3.free 2
  have zl := hZ3.lt
  have HZ3 := Lib.hid hZ3
  clear hZ3 hbad hk3
  go_wp2_with fail
  obtain ⟨q0, q1, q2⟩ := pset3_holds HZ3.out (.int .i64 0) (.slice none 0 0) (.string ⟨#[]⟩)
  unfold pset3 at q0 q1 q2
  exact bodyPost_ret (v := .agg #[.int .i64 0, .slice none 0 0, .string ⟨#[]⟩]) (by simp [results, Tryz.results130, go_sem, q0, q1, q2]) rfl ⟨pset3_keeps HK3.out (.inl (Nat.le_refl _)) _ _ _, by rw [HP.out]; exact ⟨⟨0, [], ⟨#[]⟩⟩, _, rfl, CellsRow.none _ _, r4_pres_bad HA.out hBr _ _ _⟩⟩
end Go.Proofs.YtofhcgbihonckaaGreat
namespace Go.Proofs.YtofhcgbihonckaaGreat
open Go.RowKit
theorem cells_step (L : List Tok) (n i : Nat) (acc : List CellT) : cellsR L (n + 1) i acc = if isK L i 4 [62] = true then .ok (i + 1, acc) else match cellR L i with
    | .error e => .error e
    | .ok (j, c) => cellsR L n j (acc ++ [c]) := by
  rw [cellsR]
  unfold cellR
  split
  · rfl
  · split
    · split <;> rfl
    · split <;> rfl
theorem isK_sign {L : List Tok} {i : Nat} {s : List UInt8} (hs : s ≠ []) (h : isK L i 4 s = true) : (tkN L i).kind = 4 ∧ (tkN L i).text = s := by
  unfold isK at h
  have hie : s.isEmpty = false := by simpa using hs
  rw [hie, Bool.false_or, Bool.and_eq_true, decide_eq_true_eq, decide_eq_true_eq] at h
  exact h
theorem isK_off {L : List Tok} {i : Nat} {s t : List UInt8} (hs : s ≠ []) (ht : t ≠ []) (h : isK L i 4 s = true) (hne : s ≠ t) : isK L i 4 t = false := by
  obtain ⟨_, h2⟩ := isK_sign hs h
  have hie : t.isEmpty = false := by simpa using ht
  unfold isK
  rw [hie, Bool.false_or, h2, decide_eq_false hne, Bool.and_false]
theorem r4_cell2 (w : World) (r base : Nat) (file : Int) (L : List Tok) (lv ov : Value) (i : Nat) (D : List DefT) (h : R4At w r base file L lv ov i D) :
    Calls Tryz.prog 143 #[.pointer (some ⟨r, 0, none⟩)] w (fun e w' => ∃ (x1 : Int) (x2 : ByteArray), e = .returned (.agg #[.int .i64 x1, .string x2]) ∧ Keeps (· = r) w w' ∧ match cellR L i with
      | .ok (j, c) => c = ⟨x1, x2⟩ ∧ R4At w' r base file L lv ov j D
      | .error (k, c) => R4Bad w' r file L k c) := by
  refine (r4_cell w r base file L lv ov i D h).mono ?_
  intro e w' ho
  unfold R4CellOut at ho
  cases hc : cellR L i with
  | ok p =>
    obtain ⟨j, c⟩ := p
    rw [hc] at ho
    exact ⟨_, _, ho.2.1, ho.1, rfl, ho.2.2⟩
  | error p =>
    obtain ⟨k, c⟩ := p
    rw [hc] at ho
    exact ⟨_, _, ho.2.1, ho.1, ho.2.2⟩
theorem cell_on {L : List Tok} (ho : LOk L) {i j : Nat} {c : CellT} (hi : i < L.length) (h : cellR L i = .ok (j, c)) : i < j := by
  unfold cellR at h
  split at h
  · split at h
    · injection h with h; injection h with h _; omega
    · cases h
  · split at h
    · cases h
    · rename_i h2
      obtain ⟨k, e, h3, _⟩ := prim_place ho hi (by simpa using h2)
      injection h with h; injection h with h _
      rw [e] at h
      omega
theorem cells_turn {w w6 w8 : World} {r base : Nat} {file : Int} {L : List Tok} {lv ov cv v8 z0 z1 z2 b1 : Value} {D : List DefT} {i j nn B2 : Nat} {acc : List CellT} {x1 : Int} {x2 : ByteArray} {o : Obj} {RR : Rs (Nat × List CellT)} (hh : R4At w r base file L lv ov i D) (hj : j < L.length)
    (hM : match cellR L j with
      | .ok (j, c) => c = ⟨x1, x2⟩ ∧ R4At w6 r base file L lv ov j D
      | .error (k, c) => R4Bad w6 r file L k c)
    (hS : (match cellR L j with
      | .error e => .error e
      | .ok (j, c) => cellsR L nn j (acc ++ [c])) = RR)
    (hN : L.length + 1 ≤ j + (nn + 1) ∧ acc.length ≤ j ∧ i ≤ j) (hO8 : Holds w8 B2 #[.int .i64 1, b1, .string ⟨#[]⟩] 75) (hZ6 : Holds w6 w.heap.size #[z0, z1, z2] 75) (hR6 : CellsRow w6 w.heap.size cv acc) (hK6 : Keeps (· = r) w w6)
    (hown8 : w8.ownsRow w.heap.size 72 2 v8 (acc.length + 1) (cellCells acc ++ [.int .i64 x1, .string x2])) (hgrow : (w6.alloc o).grownBy w8 cv.ownBlock) (hB2 : w.heap.size + 1 ≤ B2) (hBr : w.heap.size ≠ r) (hB2r : B2 ≠ r) :
    ∃ (acc : List CellT) (cv : Value), Hid (Holds (w8.setCell ⟨B2, 1, none⟩ v8) B2 #[.int .i64 1, cv, .string ⟨#[]⟩] 75) ∧ Hid (Holds (w8.setCell ⟨B2, 1, none⟩ v8) w.heap.size #[z0, z1, z2] 75) ∧ Hid (CellsRow (w8.setCell ⟨B2, 1, none⟩ v8) w.heap.size cv acc) ∧ Hid (Keeps (· = r) w (w8.setCell ⟨B2, 1, none⟩ v8)) ∧
    ((∃ j, Hid (R4At (w8.setCell ⟨B2, 1, none⟩ v8) r base file L lv ov j D) ∧ Hid (cellsR L nn j acc = RR) ∧ Hid (L.length + 1 ≤ j + nn ∧ acc.length ≤ j ∧ i ≤ j)) ∨ (∃ k c, Hid (RR = .error (k, c)) ∧ Hid (R4Bad (w8.setCell ⟨B2, 1, none⟩ v8) r file L k c))) := by
  have hog := fun (b : Nat) (xs : Array Value) (t : TypeId) (hx : Holds w6 b xs t) (hne : t ≠ 72) => (hx.alloc o).grown hgrow (owns_ne hR6 hx hne)
  have hK9 : Keeps (· = r) w (w8.setCell ⟨B2, 1, none⟩ v8) := ((hK6.alloc o).grown hgrow (fun g hg => by have := (own_lt hR6 hg).2.1; left; omega)).setCell (p := ⟨B2, 1, none⟩) (.inl (by show w.heap.size ≤ B2; omega)) v8
  have hrow8 : CellsRow w8 w.heap.size v8 (acc ++ [⟨x1, x2⟩]) := by
    unfold CellsRow
    rw [cellCells_snoc, List.length_append]
    exact hown8
  have hrow9 := ownsRow_keeps hrow8 ((Keeps.refl (· = B2) w8).setCell (p := ⟨B2, 1, none⟩) (.inr rfl) v8) (fun g hg e => by cases e; exact owns_ne hrow8 hO8 (by decide) hg)
  have hZ9 := (hog _ _ _ hZ6 (by decide)).other ⟨B2, 1, none⟩ v8 (by show w.heap.size ≠ B2; omega)
  refine ⟨acc ++ [(⟨x1, x2⟩ : CellT)], v8, Lib.hid (hO8.set 1 v8), Lib.hid hZ9, Lib.hid hrow9, Lib.hid hK9, ?_⟩
  cases hc : cellR L j with
  | ok q =>
    obtain ⟨j2, c⟩ := q
    rw [hc] at hM hS
    obtain ⟨rfl, ha⟩ := hM
    have hlt := cell_on hh.ok hj hc
    refine .inl ⟨j2, Lib.hid (hh.turn hK9 ((hog _ _ _ ha.holds (by decide)).other ⟨B2, 1, none⟩ v8 (Ne.symm hB2r)) ha.lt (by omega)), Lib.hid hS, Lib.hid ⟨by omega, by simp; omega, by omega⟩⟩
  | error q =>
    obtain ⟨k, c⟩ := q
    rw [hc] at hM hS
    obtain ⟨h0, lv', x', ov', hx⟩ := hM
    exact .inr ⟨k, c, Lib.hid hS.symm, Lib.hid ⟨h0, lv', x', ov', (hog _ _ _ hx (by decide)).other ⟨B2, 1, none⟩ v8 (Ne.symm hB2r)⟩⟩
set_option maxRecDepth 100000 in
set_option maxHeartbeats 4000000 in
theorem r4_part_cells (w : World) (r base : Nat) (file : Int) (L : List Tok) (lv ov : Value) (i : Nat) (D : List DefT) (h : R4At w r base file L lv ov i D) (hc : isK L i 4 [60] = true) :
    Calls Tryz.prog 130 #[.pointer (some ⟨r, 0, none⟩)] w (R4PartOut r base file L lv ov D (partR L i) w) := by
  obtain ⟨c0, c1, c2, c3, _, _, _, f1, f2, f3, _, _, _, cl⟩ := h.cells
  obtain ⟨n1, n2⟩ := h.num
  have his1 := fun wx hx => r4_is wx r base file L lv ov i D hx 4 [91] (by decide)
  have his2 := fun wx hx => r4_is wx r base file L lv ov i D hx 4 [60] (by decide)
  rw [isK_off (by decide) (by decide) hc (by decide : ([60] : List UInt8) ≠ [91])] at his1
  rw [hc] at his2
  have HI1 := Lib.hid his1
  have HI2 := Lib.hid his2
  have HH := Lib.hid h
  obtain ⟨hk4, _⟩ := isK_sign (by decide) hc
  have HNX := Lib.hid (h.ok.next h.lt (by rw [hk4]; decide))
  have HP := Lib.hid (show partR L i = match cellsR L (fuelP L) (i + 1) [] with
    | .ok (j, cs) => .ok (j, ⟨1, cs, ⟨#[]⟩⟩)
    | .error e => .error e from by unfold partR; rw [if_neg (by rw [hk4]; decide), if_neg (by rw [hk4]; decide), if_pos hc]; rfl)
  obtain ⟨g, cap, rfl, hg, d0, _⟩ := h.toks.at h.lt
  have gl : g < w.heap.size := World.block_lt_of_cell? w _ d0
  have hZ0 := Holds.new w #[.int .i64 0, .slice none 0 0, .string ⟨#[]⟩] 75
  have hk0 : Keeps (fun _ => False) w (w.alloc (.cells #[.int .i64 0, .slice none 0 0, .string ⟨#[]⟩] 75)) := (Keeps.refl _ w).alloc _
  have HZ0 := Lib.hid hZ0
  have HK0 := Lib.hid hk0
  have hBr : w.heap.size ≠ r := by omega
  rw [hk4] at d0
  clear h hk4 hc his1 his2 hZ0 hk0
  go_enter Tryz.func130, Tryz.ntmps130
  go_wp2_with fail
  go_quiet (fail)
  go_wp2_with fail
  go_quiet (fail)
  go_wp2_with fail
  refine (by exact HI1.out _ (HH.out.keeps (HK0.out.drewN _)) : Calls _ _ _ _ _).mono ?_
  rintro e w1 ⟨rfl, hk1⟩
  have hK1 := (HK0.out.drewN _).trans hk1 (fun _ _ e => e)
  have HZ1 := Lib.hid ((HZ0.out.drewN _).keeps hk1 (fun e => e))
  have HK1 := Lib.hid hK1
  clear hK1 hk1
  go_wp2_with fail
  refine (by exact HI2.out _ (HH.out.keeps HK1.out) : Calls _ _ _ _ _).mono ?_
  rintro e w2 ⟨rfl, hk2⟩
  have HZ2 := Lib.hid (HZ1.out.keeps hk2 (fun e => e))
  have HK2 := Lib.hid (HK1.out.trans hk2 (fun _ _ e => e))
  have h2 := HH.out.keeps HK2.out
  have H2 := Lib.hid h2
  obtain ⟨_, v1, _, v3, _, _, _, u1, _, _, _, _, _, vl⟩ := h2.cells
  clear hk2 h2
  go_wp2_with fail
  obtain ⟨hs1, hs2⟩ := H2.out.step HNX.out
  have hO := Holds.newAt (B := w2.heap.size) (w := w2.setCell ⟨r, 1, none⟩ (.int .i64 ((i : Int) + 1))) (by simp) #[.int .i64 1, .slice none 0 0, .string ⟨#[]⟩] 75
  have ka := (Keeps.refl (fun _ => False) (w2.setCell ⟨r, 1, none⟩ (.int .i64 ((i : Int) + 1)))).alloc (.cells #[.int .i64 1, .slice none 0 0, .string ⟨#[]⟩] 75)
  have hA0 := hs1.keeps ka
  have hZ3 := (HZ2.out.keeps hs2 hBr).keeps ka (fun e => e)
  have hk3 := ((HK2.out.mono (S := (· = r)) (fun _ _ e => e.elim)).trans hs2 (fun _ _ e => e)).trans (ka.mono (S := (· = r)) (fun _ _ e => e.elim)) (fun _ _ e => e)
  have hwl := HK2.out.size
  have hzl := HZ2.out.lt
  generalize (w2.setCell ⟨r, 1, none⟩ (.int .i64 ((i : Int) + 1))).alloc (.cells #[.int .i64 1, .slice none 0 0, .string ⟨#[]⟩] 75) = w4 at *
  obtain ⟨B2, hB2⟩ : ∃ b, b = w2.heap.size := ⟨_, rfl⟩
  rw [← hB2] at hO hzl
  rw [← hB2]
  have hB2r : B2 ≠ r := by omega
  have hB21 : w.heap.size + 1 ≤ B2 := by omega
  have HO0 := Lib.hid hO
  have HA0 := Lib.hid hA0
  have HZ3 := Lib.hid hZ3
  have HK3 := Lib.hid hk3
  have hbs := HH.out.size
  obtain ⟨RR, hRR⟩ : ∃ RR, RR = cellsR L (fuelP L) (i + 1) [] := ⟨_, rfl⟩
  rw [← hRR] at HP
  have HRR := Lib.hid hRR
  clear hs1 hs2 ka hA0 hO hZ3 hk3 hB2 hRR HI1 HI2 H2 HZ2 HK2 HZ1 HK1 v1 v3 u1 vl c1 c2 c3 d0 c0
  go_loopg [] (fuelP L) (fun f wr => ∃ (acc : List CellT) (cv : Value), Hid (Holds wr B2 #[.int .i64 1, cv, .string ⟨#[]⟩] 75) ∧ Hid (Holds wr w.heap.size #[.int .i64 0, .slice none 0 0, .string ⟨#[]⟩] 75) ∧ Hid (CellsRow wr w.heap.size cv acc) ∧ Hid (Keeps (· = r) w wr) ∧
    ((∃ j, Hid (R4At wr r base file L (.slice (some ⟨g, 0, none⟩) L.length cap) ov j D) ∧ Hid (cellsR L f j acc = RR) ∧ Hid (L.length + 1 ≤ j + f ∧ acc.length ≤ j ∧ i ≤ j)) ∨ (∃ k c, Hid (RR = .error (k, c)) ∧ Hid (R4Bad wr r file L k c))))
  case atStart => exact ⟨[], _, HO0, HZ3, Lib.hid (CellsRow.none _ _), HK3, .inl ⟨i + 1, HA0, Lib.hid HRR.out.symm, Lib.hid (by unfold fuelP; simp <;> omega)⟩⟩
  case round =>
    obtain ⟨acc, cv, HO, HZ, HR, HK, hcase⟩ := hrel
    clear HO0 HZ3 HK3 HA0
    rcases hcase with ⟨j, HA, HS, HN⟩ | ⟨k, c, HE, HB⟩
    · obtain ⟨_, d1, _, d3, _, _, _, u1, _, _, _, _, _, dl⟩ := HA.out.cells
      have hjn := HN.out
      have hjL := HA.out.lt
      have hL1 := HA.out.ok.len
      have HIS := Lib.hid (fun wx hx => r4_is wx r base file L (.slice (some ⟨g, 0, none⟩) L.length cap) ov j D hx 4 [62] (by decide))
      cases hg : isK L j 4 [62] with
      | true =>
        rw [hg] at HIS
        obtain ⟨nn, hnn⟩ : ∃ nn, nn + 1 = gk := ⟨gk - 1, by omega⟩
        have hS := HS.out
        rw [← hnn, cells_step, if_pos hg] at hS
        have hfin := Lib.hid hS.symm
        have HTK := Lib.hid (fun wx hx => r4_take wx r base file L (.slice (some ⟨g, 0, none⟩) L.length cap) ov j D hx [62] (by decide))
        have HG := Lib.hid hg
        clear hS hg hnn
        go_wp2_with fail
        refine (by exact HIS.out _ HA.out : Calls _ _ _ _ _).mono ?_
        rintro e w5 ⟨rfl, hk5⟩
        have HA5 := Lib.hid (HA.out.keeps hk5)
        have HO5 := Lib.hid (HO.out.keeps hk5 (fun e => e))
        have HZ5 := Lib.hid (HZ.out.keeps hk5 (fun e => e))
        have HR5 := Lib.hid (HR.out.keeps hk5 (Apart3.nil _))
        have HK5 := Lib.hid (HK.out.trans hk5 (fun _ _ e => e.elim))
        clear hk5
        go_wp2_with fail
        refine (by exact HTK.out _ HA5.out : Calls _ _ _ _ _).mono ?_
        rintro e w6 ⟨rfl, hk6, ht, _⟩
        have HA6 := Lib.hid (ht HG.out)
        obtain ⟨va, vc, rfl⟩ := row_slice HR5.out
        have hO1 := HO5.out.keeps hk6 hB2r
        have hZ1 := HZ5.out.keeps hk6 hBr
        have HR6 := Lib.hid (HR5.out.keeps hk6 (Apart3.one HA5.out.holds (by decide) (by decide) (by decide)))
        have HK6 := Lib.hid (HK5.out.trans hk6 (fun _ _ e => e))
        have o0 := hO1.cell 0
        have o1 := hO1.cell 1
        have o2 := hO1.cell 2
        have ol := hO1.lt
        have z0 := hZ1.cell 0
        have z1 := hZ1.cell 1
        have z2 := hZ1.cell 2
        have y0 := hZ1.free 0
        have y1 := hZ1.free 1
        have y2 := hZ1.free 2
        have zl := hZ1.lt
        have HZ6 := Lib.hid hZ1
        clear hO1 hZ1 ht hk6
        go_wp2_with fail
        obtain ⟨q0, q1, q2⟩ := pset3_holds HZ6.out (.int .i64 1) (.slice va acc.length vc) (.string ⟨#[]⟩)
        have hrow := CellsRow.lower (ownsRow_keeps HR6.out (pset3_keeps (Keeps.refl (· = w.heap.size) w6) (.inr rfl) (.int .i64 1) (.slice va acc.length vc) (.string ⟨#[]⟩)) (fun g hg e => by cases e; exact owns_ne HR6.out HZ6.out (by decide) hg)) hbs
        unfold pset3 at q0 q1 q2
        exact bodyPost_ret (v := .agg #[.int .i64 1, .slice va acc.length vc, .string ⟨#[]⟩]) (by simp [results, Tryz.results130, go_sem, q0, q1, q2]) rfl ⟨pset3_keeps HK6.out (.inl (Nat.le_refl _)) _ _ _, by rw [HP.out, hfin.out]; exact ⟨_, rfl, hrow, r4_pres HH.out HA6.out (by have := HN.out; omega) HK6.out hBr _ _ _⟩⟩
      | false =>
        rw [hg] at HIS
        obtain ⟨nn, hnn⟩ : ∃ nn, nn + 1 = gk := ⟨gk - 1, by omega⟩
        have hS := HS.out
        rw [← hnn, cells_step, if_neg (by rw [hg]; exact Bool.false_ne_true)] at hS
        have HS1 := Lib.hid hS
        have HNN := Lib.hid hnn
        clear hS hg hnn
        go_wp2_with fail
        refine (by exact HIS.out _ HA.out : Calls _ _ _ _ _).mono ?_
        rintro e w5 ⟨rfl, hk5⟩
        have HA5 := Lib.hid (HA.out.keeps hk5)
        have HO5 := Lib.hid (HO.out.keeps hk5 (fun e => e))
        have HZ5 := Lib.hid (HZ.out.keeps hk5 (fun e => e))
        have HR5 := Lib.hid (HR.out.keeps hk5 (Apart3.nil _))
        have HK5 := Lib.hid (HK.out.trans hk5 (fun _ _ e => e.elim))
        clear hk5
        obtain ⟨va, vc, rfl⟩ := row_slice HR5.out
        have o1 := HO5.out.cell 1
        have ol := HO5.out.lt
        have HCL := Lib.hid (fun wx hx => r4_cell2 wx r base file L (.slice (some ⟨g, 0, none⟩) L.length cap) ov j D hx)
        have hal : acc.length ≤ 10000 := by have := HN.out; omega
        have hbz : w.heap.size ≤ w5.heap.size := HK5.out.size
        obtain ⟨i0, hi, hz0, hz1, hz2⟩ := info_parts infoCell
        go_wp2_with fail
        go_region_law (first | (go_simp; go_at_call 143; refine (by exact HCL.out _ (by exact HA5.out.keeps ((Keeps.refl _ _).drew)) : Calls _ _ _ _ _).mono ?_; rintro e w6 ⟨x1, x2, rfl, hk6, hm6⟩; have HM6 := Lib.hid hm6; clear hm6; have hkd := ((Keeps.refl (fun _ => False) w5).drew); have hk56 := ((hkd.mono (S := (· = r)) (fun _ _ e => e.elim)).trans hk6 (fun _ _ e => e)); have HO6 := Lib.hid (HO5.out.keeps hk56 hB2r); have HZ6 := Lib.hid (HZ5.out.keeps hk56 hBr); have HR6 := Lib.hid (HR5.out.keeps hk56 (Apart3.one HA5.out.holds (by decide) (by decide) (by decide))); have HK6 := Lib.hid (HK5.out.trans hk56 (fun _ _ e => e)); have hbz6 : w.heap.size ≤ w6.heap.size := HK6.out.size; have o16 := HO6.out.cell 1; have of16 := HO6.out.free 1; have ol6 := HO6.out.lt; clear hkd hk56 hk6) | (refine step_append_lies _ (by rfl) _ _ _ (by rfl) w.heap.size 72 i0 _ 2 24 Tryz.underlying73 hi hz0 hz1 hz2 rfl (by omega) _ acc.length (cellCells acc) (by rfl) (World.ownsRow.alloc HR6.out (.cells #[.int .i64 x1, .string x2] 72)) ⟨w6.heap.size, 0, none⟩ 1 1 [.int .i64 x1, .string x2] (by rfl) (by rfl) (World.news_of_block (cs := #[.int .i64 x1, .string x2]) (t := 72) (fr := (0, 0)) (heap_alloc_new w6 _)) (by simp [Value.oneCell']) (by omega) (by unfold maxLen; omega) (by omega) (by simp; omega) (w6.heap.size + 1) (by simp) ?_; intro gg cap2 w8 hown8 hgrow hat hlt8; have HO8 := Lib.hid ((HO6.out.alloc (.cells #[.int .i64 x1, .string x2] 72)).grown hgrow (owns_ne HR6.out HO6.out (by decide))); have o18 := HO8.out.cell 1; have of18 := HO8.out.free 1; have ol8 := HO8.out.lt))
        all_goals
          have hturn := cells_turn HH.out HA.out.lt HM6.out HS1.out (by have h1 := HN.out; have h2 := HNN.out; omega) HO8.out HZ6.out HR6.out HK6.out hown8 hgrow hB21 hBr hB2r
          have HTU := Lib.hid hturn
          clear hturn hown8 hgrow hat o18 of18 o16 of16
          go_wp2_with fail
          go_roundg nn
          case measure => have := HNN.out; omega
          case rel => exact HTU.out
    · obtain ⟨hc0, lv', x', ov', hH⟩ := HB.out
      have b3 := hH.cell 3
      have bl := hH.lt
      have hcb : (c == 0) = false := by rw [beq_eq_false_iff_ne]; exact hc0
      clear hH hc0
      go_wp2_with fail
      refine (by exact r4_take_bad wr r file L k c HB.out ⟨#[62]⟩ : Calls _ _ _ _ _).mono ?_
      rintro e w5 ⟨rfl, rfl⟩
      obtain ⟨va, vc, rfl⟩ := row_slice HR.out
      have hO1 := HO.out
      have hZ1 := HZ.out
      have o0 := hO1.cell 0
      have o1 := hO1.cell 1
      have o2 := hO1.cell 2
      have ol := hO1.lt
      have z0 := hZ1.cell 0
      have z1 := hZ1.cell 1
      have z2 := hZ1.cell 2
      have y0 := hZ1.free 0
      have y1 := hZ1.free 1
      have y2 := hZ1.free 2
      have zl := hZ1.lt
      clear hO1 hZ1
      go_wp2_with fail
      obtain ⟨q0, q1, q2⟩ := pset3_holds HZ.out (.int .i64 1) (.slice va acc.length vc) (.string ⟨#[]⟩)
      have hrow := CellsRow.lower (ownsRow_keeps HR.out (pset3_keeps (Keeps.refl (· = w.heap.size) wr) (.inr rfl) (.int .i64 1) (.slice va acc.length vc) (.string ⟨#[]⟩)) (fun g hg e => by cases e; exact owns_ne HR.out HZ.out (by decide) hg)) hbs
      unfold pset3 at q0 q1 q2
      exact bodyPost_ret (v := .agg #[.int .i64 1, .slice va acc.length vc, .string ⟨#[]⟩]) (by simp [results, Tryz.results130, go_sem, q0, q1, q2]) rfl ⟨pset3_keeps HK.out (.inl (Nat.le_refl _)) _ _ _, by rw [HP.out, HE.out]; exact ⟨⟨1, acc, ⟨#[]⟩⟩, _, rfl, hrow, r4_pres_bad HB.out hBr _ _ _⟩⟩
end Go.Proofs.YtofhcgbihonckaaGreat
namespace Go.Proofs.YtofhcgbihonckaaGreat
open Go.RowKit
theorem bytes_turn {w w5 w8 : World} {r base : Nat} {file : Int} {L : List Tok} {lv ov cv v8 z0 z1 z2 : Value} {D : List DefT} {i j : Nat} {acc : List UInt8} {vv : Int} {o : Obj} (hh : R4At w r base file L lv ov i D) (hij : i ≤ j) (ha : R4At w5 r base file L lv ov j D) (hj : j + 1 < L.length)
    (hZ5 : Holds w5 w.heap.size #[z0, z1, z2] 75) (hR5 : w5.ownsRow w.heap.size 5 1 cv acc.length (Lib.byteCells acc)) (hK5 : Keeps (· = r) w w5)
    (hown8 : w8.ownsRow w.heap.size 5 1 v8 (acc.length + 1) (Lib.byteCells acc ++ [.int .u8 (vv % 256)])) {q : Nat} (hgrow : ((w5.drewN q).alloc o).grownBy w8 cv.ownBlock) (hBr : w.heap.size ≠ r) :
    (w8.cell? ⟨r, 1, none⟩ = some (.int .i64 j) ∧ w8.frozen? ⟨r, 1, none⟩ = false ∧ r < w8.heap.size) ∧ Holds (w8.setCell ⟨r, 1, none⟩ (.int .i64 ((j : Int) + 1))) w.heap.size #[z0, z1, z2] 75 ∧
    (w8.setCell ⟨r, 1, none⟩ (.int .i64 ((j : Int) + 1))).ownsRow w.heap.size 5 1 v8 (acc ++ [(vv % 256).toNat.toUInt8]).length (Lib.byteCells (acc ++ [(vv % 256).toNat.toUInt8])) ∧ Keeps (· = r) w (w8.setCell ⟨r, 1, none⟩ (.int .i64 ((j : Int) + 1))) ∧
    R4At (w8.setCell ⟨r, 1, none⟩ (.int .i64 ((j : Int) + 1))) r base file L lv ov (j + 1) D := by
  have hog := fun (b : Nat) (xs : Array Value) (t : TypeId) (hx : Holds w5 b xs t) (hne : t ≠ 5) => ((hx.drewN q).alloc o).grown hgrow (owns_ne hR5 hx hne)
  have hH8 := hog _ _ _ ha.holds (by decide)
  have kf := (Keeps.refl (· = r) w8).setCell (p := ⟨r, 1, none⟩) (.inr rfl) (.int .i64 ((j : Int) + 1))
  have hK8 : Keeps (· = r) w w8 := ((hK5.drewN q).alloc o).grown hgrow (fun g hg => by have := (own_lt hR5 hg).2.1; left; omega)
  have hK9 := hK8.trans kf (fun _ _ e => e)
  have hrow8 : w8.ownsRow w.heap.size 5 1 v8 (acc ++ [(vv % 256).toNat.toUInt8]).length (Lib.byteCells (acc ++ [(vv % 256).toNat.toUInt8])) := by
    rw [byte_snoc, List.length_append]
    exact hown8
  have hrow9 := ownsRow_keeps hrow8 kf (fun g hg e => by cases e; exact owns_ne hrow8 hH8 (by decide) hg)
  have e1 : (j : Int) + 1 = ((j + 1 : Nat) : Int) := by omega
  have hH9 := hH8.set 1 (.int .i64 ((j : Int) + 1))
  exact ⟨⟨hH8.cell 1, hH8.free 1, hH8.lt⟩, (hog _ _ _ hZ5 (by decide)).keeps kf hBr, hrow9, hK9, hh.turn hK9 (by rw [← e1]; exact hH9) hj (by omega)⟩
set_option maxRecDepth 100000 in
set_option maxHeartbeats 4000000 in
theorem r4_part_bytes (w : World) (r base : Nat) (file : Int) (L : List Tok) (lv ov : Value) (i : Nat) (D : List DefT) (h : R4At w r base file L lv ov i D) (hc : isK L i 4 [91] = true) :
    Calls Tryz.prog 130 #[.pointer (some ⟨r, 0, none⟩)] w (R4PartOut r base file L lv ov D (partR L i) w) := by
  obtain ⟨c0, c1, c2, c3, _, _, _, f1, f2, f3, _, _, _, cl⟩ := h.cells
  obtain ⟨n1, n2⟩ := h.num
  have his1 := fun wx hx => r4_is wx r base file L lv ov i D hx 4 [91] (by decide)
  rw [hc] at his1
  have HI1 := Lib.hid his1
  have HH := Lib.hid h
  obtain ⟨hk4, _⟩ := isK_sign (by decide) hc
  have HNX := Lib.hid (h.ok.next h.lt (by rw [hk4]; decide))
  have HP := Lib.hid (show partR L i = match bytesR L (fuelP L) (i + 1) [] with
    | .ok (j, b) => .ok (j, ⟨3, [], ⟨b.toArray⟩⟩)
    | .error e => .error e from by unfold partR; rw [if_neg (by rw [hk4]; decide), if_neg (by rw [hk4]; decide), if_neg (by rw [isK_off (by decide) (by decide) hc (by decide : ([91] : List UInt8) ≠ [60])]; exact Bool.false_ne_true), if_pos hc]; rfl)
  obtain ⟨g, cap, rfl, hg, d0, _⟩ := h.toks.at h.lt
  have gl : g < w.heap.size := World.block_lt_of_cell? w _ d0
  have hZ0 := Holds.new w #[.int .i64 0, .slice none 0 0, .string ⟨#[]⟩] 75
  have hk0 : Keeps (fun _ => False) w (w.alloc (.cells #[.int .i64 0, .slice none 0 0, .string ⟨#[]⟩] 75)) := (Keeps.refl _ w).alloc _
  have HZ0 := Lib.hid hZ0
  have HK0 := Lib.hid hk0
  have hBr : w.heap.size ≠ r := by omega
  rw [hk4] at d0
  clear h hk4 hc his1 hZ0 hk0
  go_enter Tryz.func130, Tryz.ntmps130
  go_wp2_with fail
  go_quiet (fail)
  go_wp2_with fail
  go_quiet (fail)
  go_wp2_with fail
  refine (by exact HI1.out _ (HH.out.keeps (HK0.out.drewN _)) : Calls _ _ _ _ _).mono ?_
  rintro e w1 ⟨rfl, hk1⟩
  have hK1 := (HK0.out.drewN _).trans hk1 (fun _ _ e => e)
  have HZ1 := Lib.hid ((HZ0.out.drewN _).keeps hk1 (fun e => e))
  have HK1 := Lib.hid hK1
  clear hK1 hk1
  have h2 := HH.out.keeps HK1.out
  have H2 := Lib.hid h2
  obtain ⟨_, v1, _, v3, _, _, _, u1, _, _, _, _, _, vl⟩ := h2.cells
  clear h2
  go_wp2_with fail
  obtain ⟨hs1, hs2⟩ := H2.out.step HNX.out
  have hZ3 := HZ1.out.keeps hs2 hBr
  have hk3 := (HK1.out.mono (S := (· = r)) (fun _ _ e => e.elim)).trans hs2 (fun _ _ e => e)
  have HA0 := Lib.hid hs1
  have HZ3 := Lib.hid hZ3
  have HK3 := Lib.hid hk3
  have hbs := HH.out.size
  obtain ⟨RR, hRR⟩ : ∃ RR, RR = bytesR L (fuelP L) (i + 1) [] := ⟨_, rfl⟩
  rw [← hRR] at HP
  have HRR := Lib.hid hRR
  generalize w1.setCell ⟨r, 1, none⟩ (.int .i64 ((i : Int) + 1)) = w4 at *
  clear hs1 hs2 hZ3 hk3 hRR HI1 H2 HZ1 HK1 v1 v3 u1 vl c1 c2 c3 d0 c0
  go_loopg [3] (fuelP L) (fun f x wr => ∃ (acc : List UInt8) (j : Nat), Hid (Holds wr w.heap.size #[.int .i64 0, .slice none 0 0, .string ⟨#[]⟩] 75) ∧ Hid (wr.ownsRow w.heap.size 5 1 x acc.length (Lib.byteCells acc)) ∧ Hid (Keeps (· = r) w wr) ∧
    Hid (R4At wr r base file L (.slice (some ⟨g, 0, none⟩) L.length cap) ov j D) ∧ Hid (bytesR L f j acc = RR) ∧ Hid (L.length + 1 ≤ j + f ∧ acc.length ≤ j ∧ i ≤ j))
  case atStart => exact ⟨[], i + 1, HZ3, Lib.hid (World.ownsRow_nil _ _ _ _), HK3, HA0, Lib.hid HRR.out.symm, Lib.hid (by unfold fuelP; simp <;> omega)⟩
  case round =>
    obtain ⟨acc, j, HZ, HR, HK, HA, HS, HN⟩ := hrel
    clear HZ3 HK3 HA0
    have hjn := HN.out
    have hjL := HA.out.lt
    have hL1 := HA.out.ok.len
    obtain ⟨d1, d2, d3, d4, _, _, _, e1, e2, e3, _, _, _, dl⟩ := HA.out.cells
    obtain ⟨g2, cap2, he, _, t0, _, t2, _⟩ := HA.out.toks.at hjL
    cases he
    obtain ⟨nn, hnn⟩ : ∃ nn, nn + 1 = gk := ⟨gk - 1, by omega⟩
    have hS := HS.out
    rw [← hnn, bytesR] at hS
    have HNN := Lib.hid hnn
    have glr : g < wr.heap.size := World.block_lt_of_cell? wr _ t0
    have hjI : (j : Int) < (L.length : Int) := by omega
    have hjJ : (j : Int) < 10000 := by omega
    clear hnn
    by_cases hk : (tkN L j).kind = 2
    · have hoff : isK L j 4 [93] = false := by unfold isK; rw [hk]; rfl
      rw [hoff, if_neg Bool.false_ne_true, if_neg (by rw [hk]; decide)] at hS
      rw [hk] at t0
      have HNX2 := Lib.hid (HA.out.ok.next hjL (by rw [hk]; decide))
      generalize (tkN L j).value = vv at *
      clear hk hoff
      by_cases hv : 255 < vv
      · rw [if_pos hv] at hS
        have HE := Lib.hid hS.symm
        clear hS
        go_wp2_with fail
        go_quiet (fail)
        go_wp2_with fail
        go_quiet (fail)
        go_wp2_with fail
        refine (by exact r4_fail _ r base file L (.slice (some ⟨g, 0, none⟩) L.length cap) ov j D (HA.out.keeps (keeps_draws _ _)) 2 (by decide) : Calls _ _ _ _ _).mono ?_
        rintro e w6 ⟨rfl, hbad, hk6⟩
        have hk16 := ((keeps_draws wr _).mono (S := (· = r)) (fun _ _ e => e.elim)).trans hk6 (fun _ _ e => e)
        have hZ1 := HZ.out.keeps hk16 hBr
        have HR6 := Lib.hid (ownsRow_keeps HR.out hk16 (fun g hg e => by cases e; exact owns_ne HR.out HA.out.holds (by decide) hg))
        have HK6 := Lib.hid (HK.out.trans hk16 (fun _ _ e => e))
        have HB := Lib.hid hbad
        have hcv := bytes_convS HR6.out
        obtain ⟨va, vc, rfl⟩ := row_slice HR6.out
        have z0 := hZ1.cell 0
        have z1 := hZ1.cell 1
        have z2 := hZ1.cell 2
        have y0 := hZ1.free 0
        have y1 := hZ1.free 1
        have y2 := hZ1.free 2
        have zl := hZ1.lt
        have HZ6 := Lib.hid hZ1
        clear hZ1 hbad hk16 hk6
        go_wp2_with fail
        refine (by exact r4_take_bad w6 r file L j 2 HB.out ⟨#[93]⟩ : Calls _ _ _ _ _).mono ?_
        rintro e w7 ⟨rfl, rfl⟩
        go_wp2_with fail
        obtain ⟨q0, q1, q2⟩ := pset3_holds HZ6.out (.int .i64 3) (.slice none 0 0) (.string ⟨acc.toArray⟩)
        unfold pset3 at q0 q1 q2
        exact bodyPost_ret (v := .agg #[.int .i64 3, .slice none 0 0, .string ⟨acc.toArray⟩]) (by simp [results, Tryz.results130, go_sem, q0, q1, q2]) rfl ⟨pset3_keeps HK6.out (.inl (Nat.le_refl _)) _ _ _, by rw [HP.out, HE.out]; exact ⟨⟨3, [], ⟨acc.toArray⟩⟩, _, rfl, CellsRow.none _ _, r4_pres_bad HB.out hBr _ _ _⟩⟩
      · rw [if_neg hv] at hS
        have HS1 := Lib.hid hS
        clear hS
        have hv2 : vv ≤ 255 := by omega
        go_wp2_with fail
        go_quiet (fail)
        go_wp2_with fail
        go_quiet (fail)
        go_wp2_with fail
        generalize hw5 : wr.drewN _ = w5
        have hk5 : Keeps (fun _ => False) wr w5 := by rw [← hw5]; exact keeps_draws _ _
        have HA5 := Lib.hid (HA.out.keeps hk5)
        obtain ⟨b0, b1, _, b3, _, _, _, a1, _, a3, _, _, _, bl⟩ := HA5.out.cells
        have t25 := (hk5.cell (p := ⟨g, j * 6 + 2, none⟩) glr (fun e => e)).trans t2
        have gl5 : g < w5.heap.size := Nat.lt_of_lt_of_le glr hk5.size
        have HZ5 := Lib.hid (HZ.out.keeps hk5 (fun e => e))
        have HR5 := Lib.hid (ownsRow_keeps HR.out hk5 (fun _ _ e => e))
        have HK5 := Lib.hid (HK.out.trans hk5 (fun _ _ e => e.elim))
        have hbz5 : w.heap.size ≤ w5.heap.size := HK5.out.size
        have hal : acc.length ≤ 10000 := by have := HN.out; omega
        clear hw5 hk5
        obtain ⟨va, vc, rfl⟩ := row_slice HR5.out
        obtain ⟨i0, hi, hz0, hz1, hz2⟩ := info_parts infoByteS
        go_region_law (refine step_append_lies _ (by rfl) _ _ _ (by rfl) w.heap.size 5 i0 _ 1 1 Tryz.underlying76 hi hz0 hz1 hz2 rfl (by omega) _ acc.length (Lib.byteCells acc) (by rfl) (World.ownsRow.alloc (show w5.drew.ownsRow w.heap.size 5 1 _ acc.length (Lib.byteCells acc) from HR5.out) (.cells #[.int .u8 (vv % 256)] 5)) ⟨w5.heap.size, 0, none⟩ 1 1 [.int .u8 (vv % 256)] (by rfl) (by rfl) (World.news_of_block (cs := #[.int .u8 (vv % 256)]) (t := 5) (fr := (0, 0)) (heap_alloc_new w5.drew _)) (by simp [Value.oneCell']) (by omega) (by unfold maxLen; omega) (by omega) (by simp; omega) (w5.heap.size + 1) (by simp) ?_; intro gg cap2 w8 hown8 hgrow hat hlt8)
        all_goals
          obtain ⟨⟨p1, p2, p3⟩, T1, T2, T3, T4⟩ := bytes_turn HH.out (by have := HN.out; omega) HA5.out HNX2.out HZ5.out HR5.out HK5.out hown8 hgrow hBr
          have TT1 := Lib.hid T1
          have TT2 := Lib.hid T2
          have TT3 := Lib.hid T3
          have TT4 := Lib.hid T4
          clear T1 T2 T3 T4 hown8 hgrow hat
          go_wp2_with fail
          go_roundg nn
          case measure => have := HNN.out; omega
          case rel => exact ⟨_, j + 1, TT1, TT2, TT3, TT4, HS1, Lib.hid (by have h1 := HN.out; have h2 := HNN.out; simp; omega)⟩
    · have hkb : ((tkN L j).kind == 2) = false := by rw [beq_eq_false_iff_ne]; exact hk
      rw [if_pos hk] at hS
      have HTK := Lib.hid (fun wx hx => r4_take wx r base file L (.slice (some ⟨g, 0, none⟩) L.length cap) ov j D hx [93] (by decide))
      have HS1 := Lib.hid hS
      generalize (tkN L j).kind = kd at *
      clear hk hS
      go_wp2_with fail
      go_quiet (fail)
      go_wp2_with fail
      refine (by exact HTK.out _ (HA.out.keeps (keeps_draws _ _)) : Calls _ _ _ _ _).mono ?_
      rintro e w6 ⟨rfl, hk6, ht, hf⟩
      have hk16 := ((keeps_draws wr _).mono (S := (· = r)) (fun _ _ e => e.elim)).trans hk6 (fun _ _ e => e)
      have hZ1 := HZ.out.keeps hk16 hBr
      have HR6 := Lib.hid (ownsRow_keeps HR.out hk16 (fun g hg e => by cases e; exact owns_ne HR.out HA.out.holds (by decide) hg))
      have HK6 := Lib.hid (HK.out.trans hk16 (fun _ _ e => e))
      have HT := Lib.hid (And.intro ht hf)
      have hcv := bytes_convS HR6.out
      obtain ⟨va, vc, rfl⟩ := row_slice HR6.out
      have z0 := hZ1.cell 0
      have z1 := hZ1.cell 1
      have z2 := hZ1.cell 2
      have y0 := hZ1.free 0
      have y1 := hZ1.free 1
      have y2 := hZ1.free 2
      have zl := hZ1.lt
      have HZ6 := Lib.hid hZ1
      clear hZ1 ht hf hk16 hk6
      go_wp2_with fail
      obtain ⟨q0, q1, q2⟩ := pset3_holds HZ6.out (.int .i64 3) (.slice none 0 0) (.string ⟨acc.toArray⟩)
      unfold pset3 at q0 q1 q2
      cases hg : isK L j 4 [93] with
      | true =>
        have e1 := HS1.out
        rw [hg, if_pos rfl] at e1
        exact bodyPost_ret (v := .agg #[.int .i64 3, .slice none 0 0, .string ⟨acc.toArray⟩]) (by simp [results, Tryz.results130, go_sem, q0, q1, q2]) rfl ⟨pset3_keeps HK6.out (.inl (Nat.le_refl _)) _ _ _, by rw [HP.out, ← e1]; exact ⟨_, rfl, CellsRow.none _ _, r4_pres HH.out (HT.out.1 hg) (by have := HN.out; omega) HK6.out hBr _ _ _⟩⟩
      | false =>
        have e1 := HS1.out
        rw [hg, if_neg Bool.false_ne_true] at e1
        exact bodyPost_ret (v := .agg #[.int .i64 3, .slice none 0 0, .string ⟨acc.toArray⟩]) (by simp [results, Tryz.results130, go_sem, q0, q1, q2]) rfl ⟨pset3_keeps HK6.out (.inl (Nat.le_refl _)) _ _ _, by rw [HP.out, ← e1]; exact ⟨⟨3, [], ⟨acc.toArray⟩⟩, _, rfl, CellsRow.none _ _, r4_pres_bad (HT.out.2 hg) hBr _ _ _⟩⟩
end Go.Proofs.YtofhcgbihonckaaGreat
namespace Go.Proofs.YtofhcgbihonckaaGreat
open Go.RowKit
theorem r4_part (w : World) (r base : Nat) (file : Int) (L : List Tok) (lv ov : Value) (i : Nat) (D : List DefT) (h : R4At w r base file L lv ov i D) :
    Calls Tryz.prog 130 #[.pointer (some ⟨r, 0, none⟩)] w (R4PartOut r base file L lv ov D (partR L i) w) := by
  by_cases h3 : (tkN L i).kind = 3
  · exact r4_part_str w r base file L lv ov i D h h3
  · by_cases h6 : (tkN L i).kind = 6
    · by_cases hb : labelT (tkN L i).text = true
      · exact r4_part_ref w r base file L lv ov i D h h6 hb
      · exact r4_part_refbad w r base file L lv ov i D h h6 hb
    · cases hc : isK L i 4 [60] with
      | true => exact r4_part_cells w r base file L lv ov i D h hc
      | false =>
        cases hb : isK L i 4 [91] with
        | true => exact r4_part_bytes w r base file L lv ov i D h hb
        | false => exact r4_part_none w r base file L lv ov i D h h3 h6 hb hc
set_option maxRecDepth 100000 in
set_option maxHeartbeats 2000000 in
theorem r4_add_bad (w : World) (r : Nat) (file : Int) (L : List Tok) (k : Nat) (c : Int) (h : R4Bad w r file L k c) (a0 : Int) (a1 a2 : ByteArray) (x : Option Addr) (n m : Nat) (a4 a5 a6 : Int) :
    Calls Tryz.prog 64 #[.pointer (some ⟨r, 0, none⟩), .agg #[.int .i64 a0, .string a1, .string a2, .slice x n m, .int .i64 a4, .int .i64 a5, .int .i64 a6]] w fun e w' => e = .returned (.tuple #[]) ∧ R4Bad w' r file L k c ∧ Keeps (fun _ => False) w w' := by
  have HH := Lib.hid h
  obtain ⟨h0, lv, x, ov, hH⟩ := h
  have c3 := hH.cell 3
  have cl := hH.lt
  have hb : (c == 0) = false := by rw [beq_eq_false_iff_ne]; exact h0
  clear hH h0
  go_enter Tryz.func64, Tryz.ntmps64
  go_wp2_with fail
  go_end0
  exact ⟨rfl, HH.out.keeps ((Keeps.refl (fun _ => False) w).alloc _) (fun e => e), (Keeps.refl (fun _ => False) w).alloc _⟩
end Go.Proofs.YtofhcgbihonckaaGreat
namespace Go.Proofs.YtofhcgbihonckaaGreat
open Go.RowKit
set_option maxRecDepth 100000 in
set_option maxHeartbeats 2000000 in
theorem r4_body_bad (w : World) (r : Nat) (file : Int) (L : List Tok) (k : Nat) (c : Int) (h : R4Bad w r file L k c) (d : Nat) (hd : (d : Int) ≤ 1000000) :
    Calls Tryz.prog 66 #[.pointer (some ⟨r, 0, none⟩), .int .i64 (d : Int)] w fun e w' => e = .returned (.tuple #[]) ∧ w = w' := by
  have HT := Lib.hid (fun s => r4_take_bad w r file L k c h s)
  obtain ⟨h0, lv, x, ov, hH⟩ := h
  have c3 := hH.cell 3
  have cl := hH.lt
  have hb : (c == 0) = false := by rw [beq_eq_false_iff_ne]; exact h0
  clear hH h0
  go_enter Tryz.func66, Tryz.ntmps66
  go_wp2_with fail
  refine (by exact HT.out ⟨#[123]⟩ : Calls _ _ _ _ _).mono ?_
  rintro e w1 ⟨rfl, rfl⟩
  go_wp2_with fail
  go_loopg [] 1 (fun f wr => w = wr)
  case atStart => rfl
  case round =>
    obtain rfl := hrel
    go_wp2_with fail
    refine (by exact HT.out ⟨#[125]⟩ : Calls _ _ _ _ _).mono ?_
    rintro e w1 ⟨rfl, rfl⟩
    go_wp2_with fail
    go_end0
    exact ⟨rfl, rfl⟩
end Go.Proofs.YtofhcgbihonckaaGreat
namespace Go.Proofs.YtofhcgbihonckaaGreat
open Go.RowKit
theorem r4_add_at (w : World) (r base : Nat) (file : Int) (L : List Tok) (lv ov : Value) (i : Nat) (D : List DefT) (d : DefT) (pv : Value) (h : R4At w r base file L lv ov i D) (hp : PartsRow w base pv d.parts) (hc : D.length ≤ 2 * i) :
    Calls Tryz.prog 64 #[.pointer (some ⟨r, 0, none⟩), defAgg file d pv] w fun e w' => e = .returned (.tuple #[]) ∧ ∃ ov', R4At w' r base file L lv ov' i (D ++ [d]) ∧ Below base w w' := by
  have hl1 := h.ok.len
  have hl2 := h.lt
  refine (r4_add w r base file lv (.int .i64 i) ov D d pv ⟨h.holds, h.defs, h.low, h.size⟩ hp (by omega)).mono ?_
  rintro e w' ⟨rfl, ov', hr, hk⟩
  have hlow : ∀ b, (b = r ∨ ov.ownBlock = some b) → base ≤ b := by
    rintro b (rfl | hb)
    · exact h.low
    · obtain ⟨_, _, hrow, _⟩ := h.defs
      exact (own_lt hrow hb).2.1
  have hb : Below base w w' := hk.below h.size (fun b hb1 hb2 => by have := hlow b hb2; omega)
  refine ⟨rfl, ov', ⟨hr.1, h.toks.keeps hk hlow, hr.2.1, h.low, Nat.le_trans h.size hk.size, h.lt, h.ok, ?_⟩, hb⟩
  rw [List.length_append]
  simp
  omega
end Go.Proofs.YtofhcgbihonckaaGreat
namespace Go.Proofs.YtofhcgbihonckaaGreat
open Go.RowKit
def R4Out (r base : Nat) (file : Int) (L : List Tok) (lv : Value) (D : List DefT) (R : Rs (Nat × List DefT)) (w : World) (e : Ending) (w' : World) : Prop :=
  e = .returned (.tuple #[]) ∧ Below base w w' ∧ match R with
    | .ok (j, ds) => ∃ ov, R4At w' r base file L lv ov j (D ++ ds) ∧ D.length + ds.length ≤ 2 * j
    | .error (k, c) => R4Bad w' r file L k c
set_option maxRecDepth 100000 in
set_option maxHeartbeats 2000000 in
theorem r4_member_none (w : World) (r base : Nat) (file : Int) (L : List Tok) (lv ov : Value) (i : Nat) (D : List DefT) (h : R4At w r base file L lv ov i D) (dp : Nat) (hdp : (dp : Int) ≤ 1000000) (hk : (tkN L i).kind = 7) (h1 : isK L i 7 [100, 101, 108, 101, 116, 101, 45, 112, 114, 111, 112, 101, 114, 116, 121] = false) (h2 : isK L i 7 [100, 101, 108, 101, 116, 101, 45, 110, 111, 100, 101] = false) :
    Calls Tryz.prog 109 #[.pointer (some ⟨r, 0, none⟩), .int .i64 (dp : Int)] w (R4Out r base file L lv D (.error (i, 6)) w) := by
  obtain ⟨c0, c1, c2, c3, _, _, _, f1, f2, f3, _, _, _, cl⟩ := h.cells
  obtain ⟨n1, n2⟩ := h.num
  have his1 := fun wx hx => r4_is wx r base file L lv ov i D hx 7 [100, 101, 108, 101, 116, 101, 45, 112, 114, 111, 112, 101, 114, 116, 121] (by decide)
  have his2 := fun wx hx => r4_is wx r base file L lv ov i D hx 7 [100, 101, 108, 101, 116, 101, 45, 110, 111, 100, 101] (by decide)
  rw [h1] at his1
  rw [h2] at his2
  have HI1 := Lib.hid his1
  have HI2 := Lib.hid his2
  have HF := Lib.hid (fun wx hx => r4_fail wx r base file L lv ov i D hx 6 (by decide))
  have HH := Lib.hid h
  obtain ⟨g, cap, rfl, hg, d0, d1, d2, d3, d4, d5⟩ := h.toks.at h.lt
  have gl : g < w.heap.size := World.block_lt_of_cell? w _ d0
  rw [hk] at d0
  generalize (tkN L i).line = tl at *
  generalize (tkN L i).col = tc at *
  have hN := Holds.new w #[.int .i64 0, .int .i64 0, .int .i64 0] 27
  have hbl : Below w.heap.size w (w.alloc (.cells #[.int .i64 0, .int .i64 0, .int .i64 0] 27)) := (Below.refl _ _).alloc (Nat.le_refl _) _
  have c0' := (hbl.cell cl).trans c0
  have c1' := (hbl.cell cl).trans c1
  have d3' := (hbl.cell gl).trans d3
  have d4' := (hbl.cell gl).trans d4
  have d5' := (hbl.cell gl).trans d5
  obtain ⟨m0, m1, m2, mf0, mf1, mf2, ml⟩ := three hN
  have hM := (Holds.new w #[.int .i64 file, .int .i64 tl, .int .i64 tc] 27).drew
  have hk3 : Keeps (fun _ => False) w (w.alloc (.cells #[.int .i64 file, .int .i64 tl, .int .i64 tc] 27)).drew := ((Keeps.refl _ w).alloc _).drew
  have h3 := h.keeps hk3
  obtain ⟨x0, x1, x2, _, _, _, xl⟩ := three hM
  obtain ⟨y0, y1, _, y3, _, _, _, z1, _, z3, _, _, _, yl⟩ := h3.cells
  have e0 := (hk3.cell (p := ⟨g, i * 6, none⟩) gl (fun e => e)).trans d0
  have gl3 := Nat.lt_of_lt_of_le gl hk3.size
  have H3 := Lib.hid h3
  have HK3 := Lib.hid hk3
  have HM := Lib.hid hM
  clear h hk h1 h2 his1 his2 hN hbl hM hk3 h3
  go_enter Tryz.func109, Tryz.ntmps109
  go_wp2_with fail
  go_region
  generalize (w.alloc (.cells #[.int .i64 file, .int .i64 tl, .int .i64 tc] 27)).drew = w3 at *
  go_wp2_with fail
  go_quiet (fail)
  go_wp2_with fail
  refine (by exact HI1.out _ (H3.out.keeps (keeps_draws _ _)) : Calls _ _ _ _ _).mono ?_
  rintro e w4 ⟨rfl, hk4⟩
  have HK4 := Lib.hid ((keeps_draws w3 _).trans hk4 (fun _ _ e => e))
  clear hk4
  go_wp2_with fail
  refine (by exact HI2.out _ (H3.out.keeps HK4.out) : Calls _ _ _ _ _).mono ?_
  rintro e w5 ⟨rfl, hk5⟩
  have HK5 := Lib.hid (HK4.out.trans hk5 (fun _ _ e => e))
  clear hk5
  go_wp2_with fail
  refine (by exact HF.out _ (H3.out.keeps HK5.out) : Calls _ _ _ _ _).mono ?_
  rintro e w6 ⟨rfl, hbad, hk6⟩
  have HB := Lib.hid hbad
  have HK6 := Lib.hid (((HK3.out.trans HK5.out (fun _ _ e => e)).mono (S := (· = r)) (fun _ _ e => e.elim)).trans hk6 (fun _ _ e => e))
  clear hbad hk6
  go_wp2_with fail
  refine (by exact r4_take_bad w6 r file L i 6 HB.out ⟨#[59]⟩ : Calls _ _ _ _ _).mono ?_
  rintro e w7 ⟨rfl, rfl⟩
  go_wp2_with fail
  refine bodyPost_ret (results_none rfl _ _ _) rfl ?_
  exact ⟨rfl, HK6.out.below HH.out.size (fun b hb e => by cases e; have := HH.out.low; omega), HB.out⟩
end Go.Proofs.YtofhcgbihonckaaGreat
namespace Go.Proofs.YtofhcgbihonckaaGreat
open Go.RowKit
theorem taken4_ok {L : List Tok} {kind : Int} {f : List UInt8 → Bool} {i j : Nat} (h : takenR L kind f i = .ok j) : j = i + 1 := by
  unfold takenR at h
  split at h
  · split at h
    · injection h with h; exact h.symm
    · cases h
  · cases h
theorem del4_ok {L : List Tok} {kind what : Int} {b : List UInt8} {f : List UInt8 → Bool} {i j : Nat} (h : takenR L what f (i + 1) = .ok j) (hs : isK L j 4 [59] = true) : delR L kind what b f i = .ok (j + 1, [⟨kind, ⟨#[]⟩, ⟨(b ++ (tkN L (i + 1)).text).toArray⟩, [], (tkN L i).line, (tkN L i).col⟩]) := by
  have hsg : signR L [59] j = .ok (j + 1) := by unfold signR; rw [if_pos hs]
  unfold delR
  simp only [h, hsg]
theorem del4_bad {L : List Tok} {kind what : Int} {b : List UInt8} {f : List UInt8 → Bool} {i j : Nat} (h : takenR L what f (i + 1) = .ok j) (hs : isK L j 4 [59] = false) : delR L kind what b f i = .error (j, 6) := by
  have hsg : signR L [59] j = .error (j, 6) := by unfold signR; rw [if_neg (by rw [hs]; exact Bool.false_ne_true)]
  unfold delR
  simp only [h, hsg]
theorem del4_err {L : List Tok} {kind what : Int} {b : List UInt8} {f : List UInt8 → Bool} {i : Nat} {q : Nat × Int} (h : takenR L what f (i + 1) = .error q) : delR L kind what b f i = .error q := by
  unfold delR
  simp only [h]
set_option maxRecDepth 100000 in
set_option maxHeartbeats 2000000 in
theorem r4_member_delp (w : World) (r base : Nat) (file : Int) (L : List Tok) (lv ov : Value) (i : Nat) (D : List DefT) (h : R4At w r base file L lv ov i D) (dp : Nat) (hdp : (dp : Int) ≤ 1000000) (hk : (tkN L i).kind = 7) (h1 : isK L i 7 [100, 101, 108, 101, 116, 101, 45, 112, 114, 111, 112, 101, 114, 116, 121] = true) (hcD : D.length ≤ 2 * i) :
    Calls Tryz.prog 109 #[.pointer (some ⟨r, 0, none⟩), .int .i64 (dp : Int)] w (R4Out r base file L lv D (delR L 4 1 [] propT i) w) := by
  obtain ⟨c0, c1, c2, c3, _, _, _, f1, f2, f3, _, _, _, cl⟩ := h.cells
  obtain ⟨n1, n2⟩ := h.num
  have his1 := fun wx hx => r4_is wx r base file L lv ov i D hx 7 [100, 101, 108, 101, 116, 101, 45, 112, 114, 111, 112, 101, 114, 116, 121] (by decide)
  have HWD := Lib.hid (fun wx hx => r4_word2 wx r base file L lv ov (i + 1) D hx 1 (by decide))
  have HNX := Lib.hid (h.ok.next h.lt (by rw [hk]; decide))
  rw [h1] at his1
  have HI1 := Lib.hid his1
  have HF := Lib.hid (fun wx hx => r4_fail wx r base file L lv ov i D hx 6 (by decide))
  have HH := Lib.hid h
  obtain ⟨g, cap, rfl, hg, d0, d1, d2, d3, d4, d5⟩ := h.toks.at h.lt
  have gl : g < w.heap.size := World.block_lt_of_cell? w _ d0
  rw [hk] at d0
  obtain ⟨tl, htl⟩ : ∃ t, t = (tkN L i).line := ⟨_, rfl⟩
  obtain ⟨tc, htc⟩ : ∃ t, t = (tkN L i).col := ⟨_, rfl⟩
  rw [← htl] at d4
  rw [← htc] at d5
  have HTL := Lib.hid htl
  have HTC := Lib.hid htc
  clear htl htc
  have hN := Holds.new w #[.int .i64 0, .int .i64 0, .int .i64 0] 27
  have hbl : Below w.heap.size w (w.alloc (.cells #[.int .i64 0, .int .i64 0, .int .i64 0] 27)) := (Below.refl _ _).alloc (Nat.le_refl _) _
  have c0' := (hbl.cell cl).trans c0
  have c1' := (hbl.cell cl).trans c1
  have d3' := (hbl.cell gl).trans d3
  have d4' := (hbl.cell gl).trans d4
  have d5' := (hbl.cell gl).trans d5
  obtain ⟨m0, m1, m2, mf0, mf1, mf2, ml⟩ := three hN
  have hM := (Holds.new w #[.int .i64 file, .int .i64 tl, .int .i64 tc] 27).drew
  have hk3 : Keeps (fun _ => False) w (w.alloc (.cells #[.int .i64 file, .int .i64 tl, .int .i64 tc] 27)).drew := ((Keeps.refl _ w).alloc _).drew
  have h3 := h.keeps hk3
  obtain ⟨x0, x1, x2, _, _, _, xl⟩ := three hM
  obtain ⟨y0, y1, _, y3, _, _, _, z1, _, z3, _, _, _, yl⟩ := h3.cells
  have e0 := (hk3.cell (p := ⟨g, i * 6, none⟩) gl (fun e => e)).trans d0
  have gl3 := Nat.lt_of_lt_of_le gl hk3.size
  have H3 := Lib.hid h3
  have HK3 := Lib.hid hk3
  have HM := Lib.hid hM
  clear h hk h1 his1 hN hbl hM hk3 h3
  go_enter Tryz.func109, Tryz.ntmps109
  go_wp2_with fail
  go_region
  generalize (w.alloc (.cells #[.int .i64 file, .int .i64 tl, .int .i64 tc] 27)).drew = w3 at *
  go_wp2_with fail
  go_quiet (fail)
  go_wp2_with fail
  refine (by exact HI1.out _ (H3.out.keeps (keeps_draws _ _)) : Calls _ _ _ _ _).mono ?_
  rintro e w4 ⟨rfl, hk4⟩
  have HK4 := Lib.hid ((keeps_draws w3 _).trans hk4 (fun _ _ e => e))
  clear hk4
  have h4 := H3.out.keeps HK4.out
  have H4 := Lib.hid h4
  obtain ⟨_, b1, _, b3, _, _, _, a1, _, _, _, _, _, bl⟩ := h4.cells
  have HM4 := Lib.hid (HM.out.keeps HK4.out (fun e => e))
  have HKW := Lib.hid ((HK3.out.trans HK4.out (fun _ _ e => e)).mono (S := (· = r)) (fun _ _ e => e.elim))
  clear h4
  go_wp2_with fail
  obtain ⟨hs1, hs2⟩ := H4.out.step HNX.out
  have hM5 := HM4.out.keeps hs2 (by omega)
  obtain ⟨p0, p1, p2, _, _, _, pl⟩ := three hM5
  have H5 := Lib.hid hs1
  have HM5 := Lib.hid hM5
  have HKX := Lib.hid (HKW.out.trans hs2 (fun _ _ e => e))
  generalize w4.setCell ⟨r, 1, none⟩ (.int .i64 ((i : Int) + 1)) = w5 at *
  clear hs1 hs2 hM5 b1 b3 a1 bl
  obtain ⟨T, hT⟩ : ∃ T, T = takenR L 1 (rightH 2) (i + 1) := ⟨_, rfl⟩
  rw [← hT] at HWD
  have HTT := Lib.hid hT
  clear hT
  cases T with
  | ok j =>
    have HAD := Lib.hid (fun wx ovx (hx : R4At wx r base file L (.slice (some ⟨g, 0, none⟩) L.length cap) ovx j D) (X : ByteArray) (hj : i + 1 ≤ j) => r4_add_at wx r base file L (.slice (some ⟨g, 0, none⟩) L.length cap) ovx j D ⟨4, ⟨#[]⟩, X, [], tl, tc⟩ (.slice none 0 0) hx (PartsRow.none _ _) (by omega))
    have hj2 : j = i + 2 := taken4_ok HTT.out.symm
    have hPr : w.heap.size ≠ r := by omega
    go_region_with (first | (go_at_call 65; refine (by exact HWD.out _ (by exact H5.out.keeps ((Keeps.refl _ _).drew)) : Calls _ _ _ _ _).mono ?_; rintro e w6 ⟨hk6, rfl, ha6⟩; have HA6 := Lib.hid ha6; have hk56 := (((Keeps.refl (fun _ => False) w5).drew).mono (S := (· = r)) (fun _ _ e => e.elim)).trans hk6 (fun _ _ e => e); have hM6 := HM5.out.keeps hk56 hPr; obtain ⟨q0, q1, q2, _, _, _, ql⟩ := three hM6; have HK6 := Lib.hid (HKX.out.trans hk56 (fun _ _ e => e)); clear ha6 hk6 hk56 hM6) | (go_at_call 64; refine (by exact HAD.out _ _ HA6.out _ (by omega) : Calls _ _ _ _ _).mono ?_; rintro e w8 ⟨rfl, ov8, ha8, hb8⟩))
    all_goals
      have HTK := Lib.hid (r4_take w8 r base file L _ ov8 j _ ha8 [59] (by decide))
      have HB8 := Lib.hid hb8
      clear ha8 hb8
      go_wp2_with fail
      refine (by exact HTK.out : Calls _ _ _ _ _).mono ?_
      rintro e w9 ⟨rfl, hk9, t1, t2⟩
      have HT9 := Lib.hid (And.intro t1 t2)
      have HK9 := Lib.hid hk9
      clear hk9 t1 t2
      go_wp2_with fail
      refine bodyPost_ret (results_none rfl _ _ _) rfl ?_
      have hlow : ∀ b, b < base → ¬ b = r := fun b hb e => by have := HH.out.low; omega
      have hbel := ((HK6.out.below HH.out.size hlow).trans HB8.out).trans (HK9.out.below (Nat.le_trans HH.out.size (Nat.le_trans HK6.out.size HB8.out.size)) hlow)
      refine ⟨rfl, hbel, ?_⟩
      cases hg : isK L j 4 [59] with
      | true =>
        rw [show delR L 4 1 [] propT i = _ from del4_ok HTT.out.symm hg]
        refine ⟨ov8, ?_, by simp; omega⟩
        have h9 := HT9.out.1 hg
        rw [HTL.out, HTC.out] at h9
        exact h9
      | false =>
        rw [show delR L 4 1 [] propT i = _ from del4_bad HTT.out.symm hg]
        exact HT9.out.2 hg
  | error q =>
    obtain ⟨k, c⟩ := q
    have hPr : w.heap.size ≠ r := by omega
    go_region_with (first | (go_at_call 65; refine (by exact HWD.out _ (by exact H5.out.keeps ((Keeps.refl _ _).drew)) : Calls _ _ _ _ _).mono ?_; rintro e w6 ⟨hk6, rfl, ha6⟩; have HA6 := Lib.hid ha6; have hk56 := (((Keeps.refl (fun _ => False) w5).drew).mono (S := (· = r)) (fun _ _ e => e.elim)).trans hk6 (fun _ _ e => e); have hM6 := HM5.out.keeps hk56 hPr; obtain ⟨q0, q1, q2, _, _, _, ql⟩ := three hM6; have HK6 := Lib.hid (HKX.out.trans hk56 (fun _ _ e => e)); clear ha6 hk6 hk56 hM6) | (go_at_call 64; refine (by exact r4_add_bad _ r file L k c HA6.out _ _ _ _ _ _ _ _ _ : Calls _ _ _ _ _).mono ?_; rintro e w8 ⟨rfl, ha8, hk8⟩))
    all_goals
      have HTK := Lib.hid (r4_take_bad w8 r file L k c ha8 ⟨#[59]⟩)
      have HK8 := Lib.hid (HK6.out.trans (hk8.mono (S := (· = r)) (fun _ _ e => e.elim)) (fun _ _ e => e))
      have HA8 := Lib.hid ha8
      clear ha8 hk8
      go_wp2_with fail
      refine (by exact HTK.out : Calls _ _ _ _ _).mono ?_
      rintro e w9 ⟨rfl, rfl⟩
      go_wp2_with fail
      refine bodyPost_ret (results_none rfl _ _ _) rfl ?_
      refine ⟨rfl, HK8.out.below HH.out.size (fun b hb e => by have := HH.out.low; omega), ?_⟩
      rw [show delR L 4 1 [] propT i = _ from del4_err HTT.out.symm]
      exact HA8.out
end Go.Proofs.YtofhcgbihonckaaGreat
namespace Go.Proofs.YtofhcgbihonckaaGreat
open Go.RowKit
set_option maxRecDepth 100000 in
set_option maxHeartbeats 2000000 in
theorem r4_member_deln (w : World) (r base : Nat) (file : Int) (L : List Tok) (lv ov : Value) (i : Nat) (D : List DefT) (h : R4At w r base file L lv ov i D) (dp : Nat) (hdp : (dp : Int) ≤ 1000000) (hk : (tkN L i).kind = 7) (h1 : isK L i 7 [100, 101, 108, 101, 116, 101, 45, 112, 114, 111, 112, 101, 114, 116, 121] = false) (h2 : isK L i 7 [100, 101, 108, 101, 116, 101, 45, 110, 111, 100, 101] = true) (hcD : D.length ≤ 2 * i) :
    Calls Tryz.prog 109 #[.pointer (some ⟨r, 0, none⟩), .int .i64 (dp : Int)] w (R4Out r base file L lv D (delR L 5 1 [] nameT i) w) := by
  obtain ⟨c0, c1, c2, c3, _, _, _, f1, f2, f3, _, _, _, cl⟩ := h.cells
  obtain ⟨n1, n2⟩ := h.num
  have his1 := fun wx hx => r4_is wx r base file L lv ov i D hx 7 [100, 101, 108, 101, 116, 101, 45, 112, 114, 111, 112, 101, 114, 116, 121] (by decide)
  have HWD := Lib.hid (fun wx hx => r4_word1 wx r base file L lv ov (i + 1) D hx 1 (by decide))
  have HNX := Lib.hid (h.ok.next h.lt (by rw [hk]; decide))
  have his2 := fun wx hx => r4_is wx r base file L lv ov i D hx 7 [100, 101, 108, 101, 116, 101, 45, 110, 111, 100, 101] (by decide)
  rw [h1] at his1
  rw [h2] at his2
  have HI2 := Lib.hid his2
  have HI1 := Lib.hid his1
  have HF := Lib.hid (fun wx hx => r4_fail wx r base file L lv ov i D hx 6 (by decide))
  have HH := Lib.hid h
  obtain ⟨g, cap, rfl, hg, d0, d1, d2, d3, d4, d5⟩ := h.toks.at h.lt
  have gl : g < w.heap.size := World.block_lt_of_cell? w _ d0
  rw [hk] at d0
  obtain ⟨tl, htl⟩ : ∃ t, t = (tkN L i).line := ⟨_, rfl⟩
  obtain ⟨tc, htc⟩ : ∃ t, t = (tkN L i).col := ⟨_, rfl⟩
  rw [← htl] at d4
  rw [← htc] at d5
  have HTL := Lib.hid htl
  have HTC := Lib.hid htc
  clear htl htc
  have hN := Holds.new w #[.int .i64 0, .int .i64 0, .int .i64 0] 27
  have hbl : Below w.heap.size w (w.alloc (.cells #[.int .i64 0, .int .i64 0, .int .i64 0] 27)) := (Below.refl _ _).alloc (Nat.le_refl _) _
  have c0' := (hbl.cell cl).trans c0
  have c1' := (hbl.cell cl).trans c1
  have d3' := (hbl.cell gl).trans d3
  have d4' := (hbl.cell gl).trans d4
  have d5' := (hbl.cell gl).trans d5
  obtain ⟨m0, m1, m2, mf0, mf1, mf2, ml⟩ := three hN
  have hM := (Holds.new w #[.int .i64 file, .int .i64 tl, .int .i64 tc] 27).drew
  have hk3 : Keeps (fun _ => False) w (w.alloc (.cells #[.int .i64 file, .int .i64 tl, .int .i64 tc] 27)).drew := ((Keeps.refl _ w).alloc _).drew
  have h3 := h.keeps hk3
  obtain ⟨x0, x1, x2, _, _, _, xl⟩ := three hM
  obtain ⟨y0, y1, _, y3, _, _, _, z1, _, z3, _, _, _, yl⟩ := h3.cells
  have e0 := (hk3.cell (p := ⟨g, i * 6, none⟩) gl (fun e => e)).trans d0
  have gl3 := Nat.lt_of_lt_of_le gl hk3.size
  have H3 := Lib.hid h3
  have HK3 := Lib.hid hk3
  have HM := Lib.hid hM
  clear h hk h1 h2 his1 his2 hN hbl hM hk3 h3
  go_enter Tryz.func109, Tryz.ntmps109
  go_wp2_with fail
  go_region
  generalize (w.alloc (.cells #[.int .i64 file, .int .i64 tl, .int .i64 tc] 27)).drew = w3 at *
  go_wp2_with fail
  go_quiet (fail)
  go_wp2_with fail
  refine (by exact HI1.out _ (H3.out.keeps (keeps_draws _ _)) : Calls _ _ _ _ _).mono ?_
  rintro e w40 ⟨rfl, hk40⟩
  have HK40 := Lib.hid ((keeps_draws w3 _).trans hk40 (fun _ _ e => e))
  clear hk40
  go_wp2_with fail
  refine (by exact HI2.out _ (H3.out.keeps HK40.out) : Calls _ _ _ _ _).mono ?_
  rintro e w4 ⟨rfl, hk4⟩
  have HK4 := Lib.hid (HK40.out.trans hk4 (fun _ _ e => e))
  clear hk4
  have h4 := H3.out.keeps HK4.out
  have H4 := Lib.hid h4
  obtain ⟨_, b1, _, b3, _, _, _, a1, _, _, _, _, _, bl⟩ := h4.cells
  have HM4 := Lib.hid (HM.out.keeps HK4.out (fun e => e))
  have HKW := Lib.hid ((HK3.out.trans HK4.out (fun _ _ e => e)).mono (S := (· = r)) (fun _ _ e => e.elim))
  clear h4
  go_wp2_with fail
  obtain ⟨hs1, hs2⟩ := H4.out.step HNX.out
  have hM5 := HM4.out.keeps hs2 (by omega)
  obtain ⟨p0, p1, p2, _, _, _, pl⟩ := three hM5
  have H5 := Lib.hid hs1
  have HM5 := Lib.hid hM5
  have HKX := Lib.hid (HKW.out.trans hs2 (fun _ _ e => e))
  generalize w4.setCell ⟨r, 1, none⟩ (.int .i64 ((i : Int) + 1)) = w5 at *
  clear hs1 hs2 hM5 b1 b3 a1 bl
  obtain ⟨T, hT⟩ : ∃ T, T = takenR L 1 (rightH 1) (i + 1) := ⟨_, rfl⟩
  rw [← hT] at HWD
  have HTT := Lib.hid hT
  clear hT
  cases T with
  | ok j =>
    have HAD := Lib.hid (fun wx ovx (hx : R4At wx r base file L (.slice (some ⟨g, 0, none⟩) L.length cap) ovx j D) (X : ByteArray) (hj : i + 1 ≤ j) => r4_add_at wx r base file L (.slice (some ⟨g, 0, none⟩) L.length cap) ovx j D ⟨5, ⟨#[]⟩, X, [], tl, tc⟩ (.slice none 0 0) hx (PartsRow.none _ _) (by omega))
    have hj2 : j = i + 2 := taken4_ok HTT.out.symm
    have hPr : w.heap.size ≠ r := by omega
    go_region_with (first | (go_at_call 65; refine (by exact HWD.out _ (by exact H5.out.keeps ((Keeps.refl _ _).drew)) : Calls _ _ _ _ _).mono ?_; rintro e w6 ⟨hk6, rfl, ha6⟩; have HA6 := Lib.hid ha6; have hk56 := (((Keeps.refl (fun _ => False) w5).drew).mono (S := (· = r)) (fun _ _ e => e.elim)).trans hk6 (fun _ _ e => e); have hM6 := HM5.out.keeps hk56 hPr; obtain ⟨q0, q1, q2, _, _, _, ql⟩ := three hM6; have HK6 := Lib.hid (HKX.out.trans hk56 (fun _ _ e => e)); clear ha6 hk6 hk56 hM6) | (go_at_call 64; refine (by exact HAD.out _ _ HA6.out _ (by omega) : Calls _ _ _ _ _).mono ?_; rintro e w8 ⟨rfl, ov8, ha8, hb8⟩))
    all_goals
      have HTK := Lib.hid (r4_take w8 r base file L _ ov8 j _ ha8 [59] (by decide))
      have HB8 := Lib.hid hb8
      clear ha8 hb8
      go_wp2_with fail
      refine (by exact HTK.out : Calls _ _ _ _ _).mono ?_
      rintro e w9 ⟨rfl, hk9, t1, t2⟩
      have HT9 := Lib.hid (And.intro t1 t2)
      have HK9 := Lib.hid hk9
      clear hk9 t1 t2
      go_wp2_with fail
      refine bodyPost_ret (results_none rfl _ _ _) rfl ?_
      have hlow : ∀ b, b < base → ¬ b = r := fun b hb e => by have := HH.out.low; omega
      have hbel := ((HK6.out.below HH.out.size hlow).trans HB8.out).trans (HK9.out.below (Nat.le_trans HH.out.size (Nat.le_trans HK6.out.size HB8.out.size)) hlow)
      refine ⟨rfl, hbel, ?_⟩
      cases hg : isK L j 4 [59] with
      | true =>
        rw [show delR L 5 1 [] nameT i = _ from del4_ok HTT.out.symm hg]
        refine ⟨ov8, ?_, by simp; omega⟩
        have h9 := HT9.out.1 hg
        rw [HTL.out, HTC.out] at h9
        exact h9
      | false =>
        rw [show delR L 5 1 [] nameT i = _ from del4_bad HTT.out.symm hg]
        exact HT9.out.2 hg
  | error q =>
    obtain ⟨k, c⟩ := q
    have hPr : w.heap.size ≠ r := by omega
    go_region_with (first | (go_at_call 65; refine (by exact HWD.out _ (by exact H5.out.keeps ((Keeps.refl _ _).drew)) : Calls _ _ _ _ _).mono ?_; rintro e w6 ⟨hk6, rfl, ha6⟩; have HA6 := Lib.hid ha6; have hk56 := (((Keeps.refl (fun _ => False) w5).drew).mono (S := (· = r)) (fun _ _ e => e.elim)).trans hk6 (fun _ _ e => e); have hM6 := HM5.out.keeps hk56 hPr; obtain ⟨q0, q1, q2, _, _, _, ql⟩ := three hM6; have HK6 := Lib.hid (HKX.out.trans hk56 (fun _ _ e => e)); clear ha6 hk6 hk56 hM6) | (go_at_call 64; refine (by exact r4_add_bad _ r file L k c HA6.out _ _ _ _ _ _ _ _ _ : Calls _ _ _ _ _).mono ?_; rintro e w8 ⟨rfl, ha8, hk8⟩))
    all_goals
      have HTK := Lib.hid (r4_take_bad w8 r file L k c ha8 ⟨#[59]⟩)
      have HK8 := Lib.hid (HK6.out.trans (hk8.mono (S := (· = r)) (fun _ _ e => e.elim)) (fun _ _ e => e))
      have HA8 := Lib.hid ha8
      clear ha8 hk8
      go_wp2_with fail
      refine (by exact HTK.out : Calls _ _ _ _ _).mono ?_
      rintro e w9 ⟨rfl, rfl⟩
      go_wp2_with fail
      refine bodyPost_ret (results_none rfl _ _ _) rfl ?_
      refine ⟨rfl, HK8.out.below HH.out.size (fun b hb e => by have := HH.out.low; omega), ?_⟩
      rw [show delR L 5 1 [] nameT i = _ from del4_err HTT.out.symm]
      exact HA8.out
end Go.Proofs.YtofhcgbihonckaaGreat
namespace Go.Proofs.YtofhcgbihonckaaGreat
open Go.RowKit
theorem r4_member_word (n : Nat) (w : World) (r base : Nat) (file : Int) (L : List Tok) (lv ov : Value) (i : Nat) (D : List DefT) (h : R4At w r base file L lv ov i D) (dp : Nat) (hdp : (dp : Int) ≤ 1000000) (hk : (tkN L i).kind = 7) (hcD : D.length ≤ 2 * i) :
    Calls Tryz.prog 109 #[.pointer (some ⟨r, 0, none⟩), .int .i64 (dp : Int)] w (R4Out r base file L lv D (srcE L (n + 1) (.member dp) i) w) := by
  have e : srcE L (n + 1) (.member dp) i = if isK L i 7 [100, 101, 108, 101, 116, 101, 45, 112, 114, 111, 112, 101, 114, 116, 121] = true then delR L 4 1 [] propT i
    else if isK L i 7 [100, 101, 108, 101, 116, 101, 45, 110, 111, 100, 101] = true then delR L 5 1 [] nameT i
    else .error (i, 6) := by
    rw [srcE, if_neg (by rw [hk]; decide), if_neg (by rw [hk]; decide)]
  rw [e]
  cases h1 : isK L i 7 [100, 101, 108, 101, 116, 101, 45, 112, 114, 111, 112, 101, 114, 116, 121] with
  | true =>
    rw [if_pos rfl]
    exact r4_member_delp w r base file L lv ov i D h dp hdp hk h1 hcD
  | false =>
    rw [if_neg Bool.false_ne_true]
    cases h2 : isK L i 7 [100, 101, 108, 101, 116, 101, 45, 110, 111, 100, 101] with
    | true =>
      rw [if_pos rfl]
      exact r4_member_deln w r base file L lv ov i D h dp hdp hk h1 h2 hcD
    | false =>
      rw [if_neg Bool.false_ne_true]
      exact r4_member_none w r base file L lv ov i D h dp hdp hk h1 h2
end Go.Proofs.YtofhcgbihonckaaGreat
namespace Go.Proofs.YtofhcgbihonckaaGreat
open Go.RowKit
set_option maxRecDepth 100000 in
set_option maxHeartbeats 2000000 in
theorem r4_member_syn (w : World) (r base : Nat) (file : Int) (L : List Tok) (lv ov : Value) (i : Nat) (D : List DefT) (h : R4At w r base file L lv ov i D) (dp : Nat) (hdp : (dp : Int) ≤ 1000000) (h7 : (tkN L i).kind ≠ 7) (h5 : (tkN L i).kind ≠ 5) (h1 : (tkN L i).kind ≠ 1) :
    Calls Tryz.prog 109 #[.pointer (some ⟨r, 0, none⟩), .int .i64 (dp : Int)] w (R4Out r base file L lv D (.error (i, 6)) w) := by
  obtain ⟨c0, c1, c2, c3, _, _, _, f1, f2, f3, _, _, _, cl⟩ := h.cells
  obtain ⟨n1, n2⟩ := h.num
  have g7 : ((tkN L i).kind == 7) = false := by rw [beq_eq_false_iff_ne]; exact h7
  have g5 : ((tkN L i).kind == 5) = false := by rw [beq_eq_false_iff_ne]; exact h5
  have g1 : ((tkN L i).kind != 1) = true := by rw [bne_iff_ne]; exact h1
  have HF := Lib.hid (fun wx hx => r4_fail wx r base file L lv ov i D hx 6 (by decide))
  have HH := Lib.hid h
  obtain ⟨g, cap, rfl, hg, d0, d1, d2, d3, d4, d5⟩ := h.toks.at h.lt
  have gl : g < w.heap.size := World.block_lt_of_cell? w _ d0
  generalize (tkN L i).kind = kd at *
  generalize (tkN L i).line = tl at *
  generalize (tkN L i).col = tc at *
  have hN := Holds.new w #[.int .i64 0, .int .i64 0, .int .i64 0] 27
  have hbl : Below w.heap.size w (w.alloc (.cells #[.int .i64 0, .int .i64 0, .int .i64 0] 27)) := (Below.refl _ _).alloc (Nat.le_refl _) _
  have c0' := (hbl.cell cl).trans c0
  have c1' := (hbl.cell cl).trans c1
  have d3' := (hbl.cell gl).trans d3
  have d4' := (hbl.cell gl).trans d4
  have d5' := (hbl.cell gl).trans d5
  obtain ⟨m0, m1, m2, mf0, mf1, mf2, ml⟩ := three hN
  have hM := (Holds.new w #[.int .i64 file, .int .i64 tl, .int .i64 tc] 27).drew
  have hk3 : Keeps (fun _ => False) w (w.alloc (.cells #[.int .i64 file, .int .i64 tl, .int .i64 tc] 27)).drew := ((Keeps.refl _ w).alloc _).drew
  have h3 := h.keeps hk3
  obtain ⟨x0, x1, x2, _, _, _, xl⟩ := three hM
  obtain ⟨y0, y1, _, y3, _, _, _, z1, _, z3, _, _, _, yl⟩ := h3.cells
  have e0 := (hk3.cell (p := ⟨g, i * 6, none⟩) gl (fun e => e)).trans d0
  have gl3 := Nat.lt_of_lt_of_le gl hk3.size
  have H3 := Lib.hid h3
  have HK3 := Lib.hid hk3
  have HM := Lib.hid hM
  clear h h7 h5 h1 hN hbl hM hk3 h3
  go_enter Tryz.func109, Tryz.ntmps109
  go_wp2_with fail
  go_region
  generalize (w.alloc (.cells #[.int .i64 file, .int .i64 tl, .int .i64 tc] 27)).drew = w3 at *
  go_wp2_with fail
  go_quiet (fail)
  go_wp2_with fail
  go_quiet (fail)
  go_wp2_with fail
  go_quiet (fail)
  go_wp2_with fail
  refine (by exact HF.out _ (H3.out.keeps (keeps_draws _ _)) : Calls _ _ _ _ _).mono ?_
  rintro e w6 ⟨rfl, hbad, hk6⟩
  have HB := Lib.hid hbad
  have HK6 := Lib.hid (((HK3.out.trans (keeps_draws w3 _) (fun _ _ e => e)).mono (S := (· = r)) (fun _ _ e => e.elim)).trans hk6 (fun _ _ e => e))
  clear hbad hk6
  go_wp2_with fail
  refine bodyPost_ret (results_none rfl _ _ _) rfl ?_
  exact ⟨rfl, HK6.out.below HH.out.size (fun b hb e => by cases e; have := HH.out.low; omega), HB.out⟩
end Go.Proofs.YtofhcgbihonckaaGreat
namespace Go.Proofs.YtofhcgbihonckaaGreat
open Go.RowKit
def B4C (r base : Nat) (file : Int) (L : List Tok) (lv : Value) (n : Nat) : Prop := ∀ (w : World) (ov : Value) (i : Nat) (D : List DefT) (d : DefT) (dp : Nat), R4At w r base file L lv ov i (D ++ [d]) → D.length + 1 ≤ 2 * i → 3 * (L.length - i) ≤ n → dp ≤ 100 →
  Calls Tryz.prog 66 #[.pointer (some ⟨r, 0, none⟩), .int .i64 (dp : Int)] w (R4Out r base file L lv D (srcE L n (.body d dp) i) w)
def M4C (r base : Nat) (file : Int) (L : List Tok) (lv : Value) (n : Nat) : Prop := ∀ (w : World) (ov : Value) (i : Nat) (D : List DefT) (dp : Nat), R4At w r base file L lv ov i D → D.length ≤ 2 * i → 3 * (L.length - i) ≤ n → dp ≤ 50 →
  Calls Tryz.prog 109 #[.pointer (some ⟨r, 0, none⟩), .int .i64 (dp : Int)] w (R4Out r base file L lv D (srcE L n (.member dp) i) w)
set_option maxRecDepth 100000 in
set_option maxHeartbeats 4000000 in
theorem r4_body (r base : Nat) (file : Int) (L : List Tok) (lv : Value) (n : Nat) (hM : ∀ m, m ≤ n → M4C r base file L lv m) : B4C r base file L lv (n + 1) := by
  intro w ov i D d dp h hcD hn hdp
  have HMC := Lib.hid hM
  obtain ⟨c0, c1, c2, c3, _, _, _, f1, f2, f3, _, _, _, cl⟩ := h.cells
  obtain ⟨n1, n2⟩ := h.num
  have his := fun wx hx => r4_is wx r base file L lv ov i (D ++ [d]) hx 4 [123] (by decide)
  have HTK := Lib.hid (fun wx hx => r4_take wx r base file L lv ov i (D ++ [d]) hx [123] (by decide))
  have HF := Lib.hid (fun wx hx => r4_fail wx r base file L lv ov i (D ++ [d]) hx 3 (by decide))
  have HH := Lib.hid h
  have hdpI : (dp : Int) ≤ 100 := by omega
  have hdp0 : (0 : Int) ≤ (dp : Int) := by omega
  obtain ⟨RR, hRR⟩ : ∃ R, srcE L (n + 1) (.body d dp) i = R := ⟨_, rfl⟩
  rw [hRR]
  rw [srcE] at hRR
  have hlow : ∀ b, b < base → ¬ b = r := fun b hb e => by have := h.low; omega
  have hil := h.lt
  cases hy : isK L i 4 [123] with
  | true =>
    rw [hy, if_pos rfl] at hRR
    rw [hy] at his
    have HIS := Lib.hid his
    have hnx := h.ok.next h.lt (by rw [(isK_sign (by decide) hy).1]; decide)
    have HY := Lib.hid hy
    by_cases h8 : 8 < dp
    · rw [if_pos h8] at hRR
      have h8I : (8 : Int) < (dp : Int) := by omega
      have HRR := Lib.hid hRR
      clear h hy his hM hRR h8
      go_enter Tryz.func66, Tryz.ntmps66
      go_wp2_with fail
      refine (by exact HIS.out _ HH.out : Calls _ _ _ _ _).mono ?_
      rintro e w1 ⟨rfl, hk1⟩
      have HK1 := Lib.hid hk1
      clear hk1
      go_wp2_with fail
      refine (by exact HF.out _ (HH.out.keeps HK1.out) : Calls _ _ _ _ _).mono ?_
      rintro e w2 ⟨rfl, hbad, hk2⟩
      have HB := Lib.hid hbad
      have HK2 := Lib.hid ((HK1.out.mono (S := (· = r)) (fun _ _ e => e.elim)).trans hk2 (fun _ _ e => e))
      obtain ⟨hc0, lv', x', ov', hH⟩ := id hbad
      have b3 := hH.cell 3
      have bl := hH.lt
      have HTB := Lib.hid (fun s => r4_take_bad w2 r file L i 3 HB.out s)
      clear hbad hk2 hH hc0
      go_wp2_with fail
      refine (by exact HTB.out ⟨#[123]⟩ : Calls _ _ _ _ _).mono ?_
      rintro e w3 ⟨rfl, rfl⟩
      go_wp2_with fail
      go_loopg [] 1 (fun f wr => w2 = wr)
      case atStart => rfl
      case round =>
        obtain rfl := hrel
        go_wp2_with fail
        refine (by exact HTB.out ⟨#[125]⟩ : Calls _ _ _ _ _).mono ?_
        rintro e w4 ⟨rfl, rfl⟩
        go_wp2_with fail
        refine bodyPost_ret (results_none rfl _ _ _) rfl ?_
        exact ⟨rfl, HK2.out.below HH.out.size hlow, by rw [← HRR.out]; exact HB.out⟩
    · rw [if_neg h8] at hRR
      have h8I : ¬ (8 : Int) < (dp : Int) := by omega
      have h8D : decide ((8 : Int) < (dp : Int)) = false := by simp; omega
      have hcn : n + 1 ≤ n + 1 := Nat.le_refl _
      have HRR := Lib.hid hRR
      clear h hy his hM hRR h8
      go_enter Tryz.func66, Tryz.ntmps66
      go_wp2_with fail
      refine (by exact HIS.out _ HH.out : Calls _ _ _ _ _).mono ?_
      rintro e w1 ⟨rfl, hk1⟩
      have HK1 := Lib.hid hk1
      clear hk1
      go_wp2_with fail
      refine (by exact HTK.out _ (HH.out.keeps HK1.out) : Calls _ _ _ _ _).mono ?_
      rintro e w2 ⟨rfl, hk2, ht, _⟩
      have HA2 := Lib.hid (ht HY.out)
      have HB2 := Lib.hid (((HK1.out.mono (S := (· = r)) (fun _ _ e => e.elim)).trans hk2 (fun _ _ e => e)).below HH.out.size hlow)
      clear hk2 ht
      go_wp2_with fail
      go_loopg [] n (fun f wr => Hid (Below base w wr) ∧ ((∃ (j : Nat) (acc : List DefT) (ov' : Value), Hid (srcE L f (.mems dp acc) j = RR) ∧ Hid (3 * (L.length - j) + 1 ≤ f ∧ f ≤ n ∧ D.length + acc.length ≤ 2 * j ∧ j < L.length) ∧ Hid (R4At wr r base file L lv ov' j (D ++ acc))) ∨ (∃ k c, Hid (RR = .error (k, c)) ∧ Hid (R4Bad wr r file L k c))))
      case atStart => exact ⟨HB2, .inl ⟨i + 1, [d], ov, HRR, Lib.hid ⟨by omega, Nat.le_refl _, by simp; omega, hnx⟩, HA2⟩⟩
      case round =>
        obtain ⟨HB, ⟨j, acc, ov', HS, HN, HA⟩ | ⟨k, c, HE, HBD⟩⟩ := hrel
        · obtain ⟨f, hf⟩ : ∃ f, gk = f + 1 := ⟨gk - 1, by have := HN.out; omega⟩
          have hS := HS.out
          rw [hf, srcE] at hS
          have hA := HA.out
          obtain ⟨a0, a1, a2, a3, _, _, _, g1, g2, g3, _, _, _, al⟩ := hA.cells
          obtain ⟨m1, m2⟩ := hA.num
          have his := r4_is wr r base file L lv ov' j _ hA 4 [125] (by decide)
          have HLOW := Lib.hid hlow
          cases hk : isK L j 4 [125] with
          | true =>
            rw [hk, if_pos rfl] at hS
            rw [hk] at his
            have HIS2 := Lib.hid his
            have HK := Lib.hid hk
            have HFIN := Lib.hid hS
            obtain ⟨tl, htl⟩ : ∃ t, t = (tkN L j).line := ⟨_, rfl⟩
            obtain ⟨tc, htc⟩ : ∃ t, t = (tkN L j).col := ⟨_, rfl⟩
            have HTL := Lib.hid htl
            have HTC := Lib.hid htc
            clear hA his hk hS htl htc hlow
            go_wp2_with fail
            refine (by exact HIS2.out : Calls _ _ _ _ _).mono ?_
            rintro e w5 ⟨rfl, hk5⟩
            have hA5 := HA.out.keeps hk5
            have HA5 := Lib.hid hA5
            have HB5 := Lib.hid (HB.out.trans ((hk5.mono (S := (· = r)) (fun _ _ e => e.elim)).below HA.out.size HLOW.out))
            obtain ⟨x0, x1, x2, x3, _, _, _, y1, y2, y3, _, _, _, xl⟩ := hA5.cells
            obtain ⟨g, cap, rfl, hg, d0, d1, d2, d3, d4, d5⟩ := hA5.toks.at hA5.lt
            have gl : g < w5.heap.size := World.block_lt_of_cell? w5 _ d0
            rw [← HTL.out] at d4
            rw [← HTC.out] at d5
            have HAD := Lib.hid (fun wx hx => r4_add_at wx r base file L (.slice (some ⟨g, 0, none⟩) L.length cap) ov' j (D ++ acc) ⟨2, ⟨#[]⟩, ⟨#[]⟩, [], tl, tc⟩ (.slice none 0 0) hx (PartsRow.none _ _) (by have := HN.out; simp; omega))
            clear hA5 hk5
            go_wp2_with fail
            go_region_with ((go_at_call 64; refine (by exact HAD.out _ (HA5.out.keeps ((Keeps.refl _ _).drew)) : Calls _ _ _ _ _).mono ?_; rintro e w6 ⟨rfl, ov6, ha6, hb6⟩))
            all_goals
              have HTK6 := Lib.hid (r4_take w6 r base file L _ ov6 j _ ha6 [125] (by decide))
              have HB6 := Lib.hid hb6
              have HS6 := Lib.hid ha6.size
              clear ha6 hb6
              go_wp2_with fail
              refine (by exact HTK6.out : Calls _ _ _ _ _).mono ?_
              rintro e w7 ⟨rfl, hk7, ht7, _⟩
              have HA7 := Lib.hid (ht7 HK.out)
              have HB7 := Lib.hid ((HB5.out.trans ((((Keeps.refl (fun _ => False) w5).drew).below HA5.out.size (fun _ _ e => e)).trans HB6.out)).trans (hk7.below HS6.out HLOW.out))
              clear hk7 ht7
              go_wp2_with fail
              refine bodyPost_ret (results_none rfl _ _ _) rfl ?_
              refine ⟨rfl, HB7.out, ?_⟩
              rw [← HFIN.out]
              refine ⟨ov6, ?_, by have := HN.out; simp; omega⟩
              have h9 := HA7.out
              rw [List.append_assoc, HTL.out, HTC.out] at h9
              exact h9
          | false =>
            rw [hk, if_neg Bool.false_ne_true] at hS
            rw [hk] at his
            have HIS2 := Lib.hid his
            have HMM := Lib.hid (fun wx hx => HMC.out f (by have := HN.out; omega) wx ov' j (D ++ acc) dp hx (by have := HN.out; rw [List.length_append]; omega) (by have := HN.out; omega) (by have := hdpI; omega))
            have HS1 := Lib.hid hS
            have HON := Lib.hid (fun m ds h => ((src_pairs L f).2.2.1 dp j m ds h).1)
            obtain ⟨MR, hMR⟩ : ∃ m, m = srcE L f (.member dp) j := ⟨_, rfl⟩
            rw [← hMR] at HMM HS1 HON
            have HF1 := Lib.hid hf
            clear hA his hk hS hlow hMR hf HS
            go_wp2_with fail
            refine (by exact HIS2.out : Calls _ _ _ _ _).mono ?_
            rintro e w5 ⟨rfl, hk5⟩
            have HA5 := Lib.hid (HA.out.keeps hk5)
            have HB5 := Lib.hid (HB.out.trans ((hk5.mono (S := (· = r)) (fun _ _ e => e.elim)).below HA.out.size HLOW.out))
            clear hk5
            go_wp2_with fail
            refine (by exact HMM.out _ HA5.out : Calls _ _ _ _ _).mono ?_
            rintro e w6 ⟨rfl, hb6, hm6⟩
            have HB6 := Lib.hid (HB5.out.trans hb6)
            clear hb6
            cases MR with
            | ok q =>
              obtain ⟨m, ds⟩ := q
              obtain ⟨ov6, ha6, hc6⟩ := hm6
              have HA6 := Lib.hid ha6
              have HC6 := Lib.hid hc6
              have hlt := HON.out _ _ rfl
              have HS2 := Lib.hid HS1.out
              clear ha6 hc6
              go_wp2_with fail
              go_roundg f
              case measure => have := HF1.out; omega
              case rel => exact ⟨HB6, .inl ⟨m, acc ++ ds, ov6, HS2, Lib.hid (by have := HN.out; have := HF1.out; have h3 := HC6.out; rw [List.length_append] at h3 ⊢; have := HA6.out.lt; omega), Lib.hid (by rw [← List.append_assoc]; exact HA6.out)⟩⟩
            | error q =>
              obtain ⟨m, c⟩ := q
              have HBD := Lib.hid hm6
              have HS2 := Lib.hid HS1.out
              clear hm6
              go_wp2_with fail
              go_roundg f
              case measure => have := HF1.out; omega
              case rel => exact ⟨HB6, .inr ⟨m, c, Lib.hid HS2.out.symm, HBD⟩⟩
        · obtain ⟨hc0, lv', x', ov', hH⟩ := id HBD.out
          have b3 := hH.cell 3
          have bl := hH.lt
          have hcb : (c == 0) = false := by rw [beq_eq_false_iff_ne]; exact hc0
          have HTB := Lib.hid (fun s => r4_take_bad wr r file L k c HBD.out s)
          clear hH hc0
          go_wp2_with fail
          refine (by exact HTB.out ⟨#[125]⟩ : Calls _ _ _ _ _).mono ?_
          rintro e w4 ⟨rfl, rfl⟩
          go_wp2_with fail
          refine bodyPost_ret (results_none rfl _ _ _) rfl ?_
          exact ⟨rfl, HB.out, by rw [HE.out]; exact HBD.out⟩
  | false =>
    rw [hy, if_neg Bool.false_ne_true] at hRR
    rw [hy] at his
    have HIS := Lib.hid his
    have HY := Lib.hid hy
    have HRR := Lib.hid hRR
    clear h hy his hM hRR
    go_enter Tryz.func66, Tryz.ntmps66
    go_wp2_with fail
    refine (by exact HIS.out _ HH.out : Calls _ _ _ _ _).mono ?_
    rintro e w1 ⟨rfl, hk1⟩
    have HK1 := Lib.hid hk1
    clear hk1
    go_wp2_with fail
    refine (by exact HTK.out _ (HH.out.keeps HK1.out) : Calls _ _ _ _ _).mono ?_
    rintro e w2 ⟨rfl, hk2, _, ht⟩
    have HB := Lib.hid (ht HY.out)
    have HK2 := Lib.hid ((HK1.out.mono (S := (· = r)) (fun _ _ e => e.elim)).trans hk2 (fun _ _ e => e))
    obtain ⟨hc0, lv', x', ov', hH⟩ := id HB.out
    have b3 := hH.cell 3
    have bl := hH.lt
    have HTB := Lib.hid (fun s => r4_take_bad w2 r file L i 6 HB.out s)
    clear hk2 hH hc0 ht
    go_wp2_with fail
    go_loopg [] 1 (fun f wr => w2 = wr)
    case atStart => rfl
    case round =>
      obtain rfl := hrel
      go_wp2_with fail
      refine (by exact HTB.out ⟨#[125]⟩ : Calls _ _ _ _ _).mono ?_
      rintro e w4 ⟨rfl, rfl⟩
      go_wp2_with fail
      refine bodyPost_ret (results_none rfl _ _ _) rfl ?_
      exact ⟨rfl, HK2.out.below HH.out.size hlow, by rw [← HRR.out]; exact HB.out⟩
end Go.Proofs.YtofhcgbihonckaaGreat
namespace Go.Proofs.YtofhcgbihonckaaGreat
open Go.RowKit
def PartsAt (w : World) (lo base : Nat) (v : Value) (ps : List PartT) : Prop :=
  ∃ vs : List Value, vs.length = ps.length ∧ w.ownsRow lo 75 3 v ps.length (partCells ps vs) ∧ ∀ k (h : k < ps.length) (h2 : k < vs.length), CellsRow w base vs[k] ps[k].cells
section
variable {w w' : World} {lo base : Nat} {v : Value} {ps : List PartT}
theorem PartsAt.keeps {S : Nat → Prop} (h : PartsAt w lo base v ps) (k : Keeps S w w') (ha : Apart3 w S) : PartsAt w' lo base v ps := by
  obtain ⟨vs, h1, h2, h3⟩ := h
  exact ⟨vs, h1, ownsRow_keeps h2 k (own_apart h2 ha (.inr (.inl rfl))), fun j h h' => (h3 j h h').keeps k ha⟩
theorem PartsAt.row (h : PartsAt w lo base v ps) (hb : base ≤ lo) : PartsRow w base v ps := by
  obtain ⟨vs, h1, h2, h3⟩ := h
  exact ⟨vs, h1, row_base h2 hb, h3⟩
theorem PartsAt.none (w : World) (lo base : Nat) : PartsAt w lo base (.slice none 0 0) [] := by
  obtain ⟨vs, h1, h2, h3⟩ := PartsRow.none w lo
  exact ⟨vs, h1, h2, fun k h => by simp at h⟩
theorem PartsAt.slice (h : PartsAt w lo base v ps) : ∃ a c, v = .slice a ps.length c := by obtain ⟨_, _, h, _⟩ := h; exact row_slice h
end
theorem r4_part2 (w : World) (r base : Nat) (file : Int) (L : List Tok) (lv ov : Value) (i : Nat) (D : List DefT) (h : R4At w r base file L lv ov i D) :
    Calls Tryz.prog 130 #[.pointer (some ⟨r, 0, none⟩)] w (fun e w' => ∃ (p : PartT) (ca : Option Addr) (cc : Nat), e = .returned (.agg #[.int .i64 p.kind, .slice ca p.cells.length cc, .string p.text]) ∧ CellsRow w' base (.slice ca p.cells.length cc) p.cells ∧ Keeps (· = r) w w' ∧ match partR L i with
      | .ok (j, q) => q = p ∧ R4At w' r base file L lv ov j D
      | .error (k, c) => R4Bad w' r file L k c) := by
  refine (r4_part w r base file L lv ov i D h).mono ?_
  intro e w' ho
  unfold R4PartOut at ho
  cases hc : partR L i with
  | ok q =>
    obtain ⟨j, p⟩ := q
    rw [hc] at ho
    obtain ⟨hk, cv, e1, e2, e3⟩ := ho
    obtain ⟨ca, cc, rfl⟩ := row_slice e2
    exact ⟨p, ca, cc, e1, e2, hk, rfl, e3⟩
  | error q =>
    obtain ⟨k, c⟩ := q
    rw [hc] at ho
    obtain ⟨hk, p, cv, e1, e2, e3⟩ := ho
    obtain ⟨ca, cc, rfl⟩ := row_slice e2
    exact ⟨p, ca, cc, e1, e2, hk, e3⟩
end Go.Proofs.YtofhcgbihonckaaGreat
namespace Go.Proofs.YtofhcgbihonckaaGreat
open Go.RowKit
def seqR {α β : Type} (T : Rs α) (R : Rs β) : Rs β := match T with
  | .ok _ => R
  | .error e => .error e
def endB4 (L : List Tok) (R : Rs (Nat × List DefT)) : Rs (Nat × List DefT) := match R with
  | .error e => .error e
  | .ok (m, ds) => match signR L [59] m with
    | .error e => .error e
    | .ok q => .ok (q, ds)
theorem endB4_ok {L : List Tok} {m : Nat} {ds : List DefT} (hs : isK L m 4 [59] = true) : endB4 L (.ok (m, ds)) = .ok (m + 1, ds) := by
  have hsg : signR L [59] m = .ok (m + 1) := by unfold signR; rw [if_pos hs]
  unfold endB4
  simp only [hsg]
theorem endB4_bad {L : List Tok} {m : Nat} {ds : List DefT} (hs : isK L m 4 [59] = false) : endB4 L (.ok (m, ds)) = .error (m, 6) := by
  have hsg : signR L [59] m = .error (m, 6) := by unfold signR; rw [if_neg (by rw [hs]; exact Bool.false_ne_true)]
  unfold endB4
  simp only [hsg]
theorem member_name {L : List Tok} {n dp i : Nat} (h1 : (tkN L i).kind = 1) : srcE L (n + 1) (.member dp) i = endB4 L (srcE L n (.named dp) i) := by
  rw [srcE, if_neg (by rw [h1]; decide), if_pos h1]
  rfl
theorem named_node {L : List Tok} {n dp i : Nat} (hb : isK L (i + 1) 4 [123] = true) : srcE L (n + 1) (.named dp) i = (if nameT (tkN L i).text = true then srcE L n (.body ⟨1, ⟨#[]⟩, txN L i, [], (tkN L i).line, (tkN L i).col⟩ (dp + 1)) (i + 1) else .error (i, 1)) := by
  rw [srcE, if_pos hb]
theorem member_label {L : List Tok} {n dp i : Nat} (h5 : (tkN L i).kind = 5) : srcE L (n + 1) (.member dp) i = match takenR L 5 labelT i with
    | .error e => .error e
    | .ok j => match takenR L 1 nameT j with
      | .error e => .error e
      | .ok k => endB4 L (srcE L n (.body ⟨1, txN L i, txN L j, [], (tkN L i).line, (tkN L i).col⟩ (dp + 1)) k) := by
  rw [srcE, if_pos h5]
  rfl
set_option maxRecDepth 100000 in
set_option maxHeartbeats 4000000 in
theorem r4_member_node (r base : Nat) (file : Int) (L : List Tok) (lv : Value) (n : Nat) (hB : B4C r base file L lv n) (w : World) (ov : Value) (i : Nat) (D : List DefT) (h : R4At w r base file L lv ov i D) (dp : Nat) (hdp : dp ≤ 50) (hk : (tkN L i).kind = 1) (hb : isK L (i + 1) 4 [123] = true) (hcD : D.length ≤ 2 * i) (hn : 3 * (L.length - i) ≤ n + 2) :
    Calls Tryz.prog 109 #[.pointer (some ⟨r, 0, none⟩), .int .i64 (dp : Int)] w (R4Out r base file L lv D (srcE L (n + 2) (.member dp) i) w) := by
  rw [member_name hk, named_node hb]
  obtain ⟨c0, c1, c2, c3, _, _, _, f1, f2, f3, _, _, _, cl⟩ := h.cells
  obtain ⟨n1, n2⟩ := h.num
  have HH := Lib.hid h
  have HNX := Lib.hid (h.ok.next h.lt (by rw [hk]; decide))
  obtain ⟨g, cap, rfl, hg, d0, d1, d2, d3, d4, d5⟩ := h.toks.at h.lt
  have gl : g < w.heap.size := World.block_lt_of_cell? w _ d0
  rw [hk] at d0
  obtain ⟨tl, htl⟩ : ∃ t, t = (tkN L i).line := ⟨_, rfl⟩
  obtain ⟨tc, htc⟩ : ∃ t, t = (tkN L i).col := ⟨_, rfl⟩
  rw [← htl] at d4
  rw [← htc] at d5
  have HTL := Lib.hid htl
  have HTC := Lib.hid htc
  clear htl htc
  have hN := Holds.new w #[.int .i64 0, .int .i64 0, .int .i64 0] 27
  have hbl : Below w.heap.size w (w.alloc (.cells #[.int .i64 0, .int .i64 0, .int .i64 0] 27)) := (Below.refl _ _).alloc (Nat.le_refl _) _
  have c0' := (hbl.cell cl).trans c0
  have c1' := (hbl.cell cl).trans c1
  have d3' := (hbl.cell gl).trans d3
  have d4' := (hbl.cell gl).trans d4
  have d5' := (hbl.cell gl).trans d5
  obtain ⟨m0, m1, m2, mf0, mf1, mf2, ml⟩ := three hN
  have hM := (Holds.new w #[.int .i64 file, .int .i64 tl, .int .i64 tc] 27).drew
  have hk3 : Keeps (fun _ => False) w (w.alloc (.cells #[.int .i64 file, .int .i64 tl, .int .i64 tc] 27)).drew := ((Keeps.refl _ w).alloc _).drew
  have h3 := h.keeps hk3
  obtain ⟨x0, x1, x2, _, _, _, xl⟩ := three hM
  obtain ⟨y0, y1, _, y3, _, _, _, z1, _, z3, _, _, _, yl⟩ := h3.cells
  have e0 := (hk3.cell (p := ⟨g, i * 6, none⟩) gl (fun e => e)).trans d0
  have gl3 := Nat.lt_of_lt_of_le gl hk3.size
  have H3 := Lib.hid h3
  have HK3 := Lib.hid hk3
  have HM := Lib.hid hM
  have HWD := Lib.hid (fun wx hx => r4_word1 wx r base file L (.slice (some ⟨g, 0, none⟩) L.length cap) ov i D hx 1 (by decide))
  have HJ := Lib.hid (isK_sign (by decide) hb)
  obtain ⟨BR, hBR⟩ : ∃ R, R = srcE L n (.body ⟨1, ⟨#[]⟩, txN L i, [], (tkN L i).line, (tkN L i).col⟩ (dp + 1)) (i + 1) := ⟨_, rfl⟩
  have HBD : Hid (∀ wx ovx, R4At wx r base file L (.slice (some ⟨g, 0, none⟩) L.length cap) ovx (i + 1) (D ++ [⟨1, ⟨#[]⟩, txN L i, [], tl, tc⟩]) → Calls Tryz.prog 66 #[.pointer (some ⟨r, 0, none⟩), .int .i64 ((dp : Int) + 1)] wx (R4Out r base file L (.slice (some ⟨g, 0, none⟩) L.length cap) D BR wx)) := Lib.hid (fun wx ovx hx => by
    have h9 := hB wx ovx (i + 1) D ⟨1, ⟨#[]⟩, txN L i, [], tl, tc⟩ (dp + 1) hx (by omega) (by omega) (by omega)
    rw [show ((dp + 1 : Nat) : Int) = (dp : Int) + 1 from by omega, HTL.out, HTC.out, ← hBR] at h9
    exact h9)
  have HT := Lib.hid (show takenR L 1 (rightH 1) i = if nameT (tkN L i).text = true then .ok (i + 1) else .error (i, 1) from by unfold takenR; rw [if_pos hk]; rfl)
  rw [← hBR]
  obtain ⟨T, hT⟩ : ∃ T, T = takenR L 1 (rightH 1) i := ⟨_, rfl⟩
  rw [← hT] at HWD HT
  have hdp1 : (dp : Int) ≤ 50 := by omega
  have hRR : (if nameT (tkN L i).text = true then BR else .error (i, 1)) = seqR T BR := by
    rw [HT.out]
    split <;> rfl
  rw [hRR]
  have hj2 : ∀ j, T = .ok j → j = i + 1 := fun j e => by
    have h9 := HT.out
    rw [e] at h9
    split at h9
    · injection h9
    · cases h9
  have HJ2 := Lib.hid hj2
  have HCD := Lib.hid hcD
  have hPr : w.heap.size ≠ r := by omega
  have HLOW := Lib.hid (show ∀ b, b < base → ¬ b = r from fun b hb e => by have := h.low; omega)
  clear h hk hb hB hN hbl hM hk3 h3 hT HT hRR hBR hj2 hcD
  go_enter Tryz.func109, Tryz.ntmps109
  go_wp2_with fail
  go_region
  generalize (w.alloc (.cells #[.int .i64 file, .int .i64 tl, .int .i64 tc] 27)).drew = w3 at *
  clear c0 c1 c2 c3 d0 d1 d2 d3 d4 d5 c0' c1' d3' d4' d5' m0 m1 m2 mf0 mf1 mf2 ml gl cl f1 f2 f3
  go_wp2_with fail
  go_quiet (fail)
  go_wp2_with fail
  go_quiet (fail)
  go_wp2_with fail
  go_quiet (fail)
  go_wp2_with fail
  generalize hw5 : World.drewN (World.drewN w3 _) _ = w5
  have hk5 : Keeps (fun _ => False) w3 w5 := by rw [← hw5]; exact (keeps_draws _ _).trans (keeps_draws _ _) (fun _ _ e => e)
  have H5 := Lib.hid (H3.out.keeps hk5)
  have HM5 := Lib.hid (HM.out.keeps hk5 (fun e => e))
  have HK5 := Lib.hid (HK3.out.trans hk5 (fun _ _ e => e))
  obtain ⟨g', cap', eg, hg', q0, q1, q2, q3, q4, q5⟩ := H5.out.toks.at HNX.out
  cases eg
  rw [HJ.out.1] at q0
  rw [HJ.out.2] at q1
  have ql : g < w5.heap.size := World.block_lt_of_cell? w5 _ q0
  obtain ⟨b0, b1, _, b3, _, _, _, _, _, _, _, _, _, bl⟩ := H5.out.cells
  generalize (tkN L (i + 1)).value = tv at *
  generalize (tkN L (i + 1)).line = tl2 at *
  generalize (tkN L (i + 1)).col = tc2 at *
  have hNT := Holds.new w5 #[.int .i64 0, .string ⟨#[]⟩, .int .i64 0, .int .i64 0, .int .i64 0, .int .i64 0] 65
  have hbt : Below w5.heap.size w5 (w5.alloc (.cells #[.int .i64 0, .string ⟨#[]⟩, .int .i64 0, .int .i64 0, .int .i64 0, .int .i64 0] 65)) := (Below.refl _ _).alloc (Nat.le_refl _) _
  have b0' := (hbt.cell bl).trans b0
  have b1' := (hbt.cell bl).trans b1
  have q0' := (hbt.cell ql).trans q0
  have q1' := (hbt.cell ql).trans q1
  have q2' := (hbt.cell ql).trans q2
  have q3' := (hbt.cell ql).trans q3
  have q4' := (hbt.cell ql).trans q4
  have q5' := (hbt.cell ql).trans q5
  obtain ⟨g0, g1, g2, g3, g4, g5⟩ := six_free hNT
  obtain ⟨o0, o1, o2, o3, o4, o5⟩ := six_cells hNT
  have hlt := hNT.lt
  have hk6 : Keeps (fun _ => False) w5 (w5.alloc (.cells #[.int .i64 4, .string ⟨#[123]⟩, .int .i64 tv, .int .i64 file, .int .i64 tl2, .int .i64 tc2] 65)).drew := ((Keeps.refl _ w5).alloc _).drew
  have hMT := (Holds.new w5 #[.int .i64 4, .string ⟨#[123]⟩, .int .i64 tv, .int .i64 file, .int .i64 tl2, .int .i64 tc2] 65).drew
  obtain ⟨u0, u1, _, _, _, _⟩ := six_cells hMT
  have ul := hMT.lt
  have h6 := H5.out.keeps hk6
  have HM6 := Lib.hid (HM5.out.keeps hk6 (fun e => e))
  have HK6 := Lib.hid ((HK5.out.trans hk6 (fun _ _ e => e)).mono (S := (· = r)) (fun _ _ e => e.elim))
  obtain ⟨s0, s1, _, s3, _, _, _, r1, _, _, _, _, _, sl⟩ := h6.cells
  have H6 := Lib.hid h6
  have HMT := Lib.hid hMT
  have hw1 : IntKind.i64.wrap (((i : Nat) : Int) + 1) = ((i : Nat) : Int) + 1 := IntWalk.i64_in _ (by omega)
  have hw2 : (0 : Int) ≤ ((i : Nat) : Int) + 1 := by omega
  have hw3 : ((i : Nat) : Int) + 1 < (L.length : Int) := by have := HNX.out; omega
  have hw4 : (((i : Nat) : Int) + 1).toNat = i + 1 := by omega
  clear hNT hbt hk6 hMT h6 hk5
  go_region
  generalize (w5.alloc (.cells #[.int .i64 4, .string ⟨#[123]⟩, .int .i64 tv, .int .i64 file, .int .i64 tl2, .int .i64 tc2] 65)).drew = w6 at *
  clear hw1 hw2 hw3 hw4 b0 b1 b3 bl b0' b1' q0 q1 q2 q3 q4 q5 q0' q1' q2' q3' q4' q5' g0 g1 g2 g3 g4 g5 o0 o1 o2 o3 o4 o5 hlt ql
  go_wp2_with fail
  obtain ⟨p0, p1, p2, _, _, _, pl⟩ := three HM6.out
  cases T with
  | ok j =>
    have hj2 := HJ2.out j rfl
    have HAD := Lib.hid (fun wx ovx (hx : R4At wx r base file L (.slice (some ⟨g, 0, none⟩) L.length cap) ovx j D) (X : ByteArray) => r4_add_at wx r base file L (.slice (some ⟨g, 0, none⟩) L.length cap) ovx j D ⟨1, ⟨#[]⟩, X, [], tl, tc⟩ (.slice none 0 0) hx (PartsRow.none _ _) (by have := HCD.out; omega))
    go_region_with (first | (go_at_call 65; refine (by exact HWD.out _ (by exact H6.out.keeps ((Keeps.refl _ _).drew)) : Calls _ _ _ _ _).mono ?_; rintro e w7 ⟨hk7, rfl, ha7⟩; have HA7 := Lib.hid ha7; have hk67 := (((Keeps.refl (fun _ => False) w6).drew).mono (S := (· = r)) (fun _ _ e => e.elim)).trans hk7 (fun _ _ e => e); have hM7 := HM6.out.keeps hk67 hPr; obtain ⟨v0, v1, v2, _, _, _, vl⟩ := three hM7; have HK7 := Lib.hid (HK6.out.trans hk67 (fun _ _ e => e)); clear ha7 hk7 hk67 hM7) | (go_at_call 64; refine (by exact HAD.out _ _ HA7.out _ : Calls _ _ _ _ _).mono ?_; rintro e w8 ⟨rfl, ov8, ha8, hb8⟩))
    all_goals
      have HBY := Lib.hid (HBD.out w8 ov8 (by rw [hj2] at ha8; exact ha8))
      have HB8 := Lib.hid (((HK7.out.below HH.out.size HLOW.out)).trans hb8)
      clear ha8 hb8
      go_wp2_with fail
      refine (by exact HBY.out : Calls _ _ _ _ _).mono ?_
      rintro e w9 ⟨rfl, hb9, hm9⟩
      have HB9 := Lib.hid (HB8.out.trans hb9)
      clear hb9
      cases BR with
      | ok q =>
        obtain ⟨m, ds⟩ := q
        obtain ⟨ov9, ha9, hc9⟩ := hm9
        have HTK := Lib.hid (r4_take w9 r base file L _ ov9 m (D ++ ds) ha9 [59] (by decide))
        have HC9 := Lib.hid hc9
        have HS9 := Lib.hid ha9.size
        clear ha9 hc9
        go_wp2_with fail
        refine (by exact HTK.out : Calls _ _ _ _ _).mono ?_
        rintro e w10 ⟨rfl, hk10, t1, t2⟩
        have HT10 := Lib.hid (And.intro t1 t2)
        have HB10 := Lib.hid (HB9.out.trans (hk10.below HS9.out HLOW.out))
        clear hk10 t1 t2
        go_wp2_with fail
        refine bodyPost_ret (results_none rfl _ _ _) rfl ?_
        refine ⟨rfl, HB10.out, ?_⟩
        cases hg : isK L m 4 [59] with
        | true =>
          rw [show endB4 L (seqR (.ok j) (.ok (m, ds))) = _ from endB4_ok hg]
          exact ⟨ov9, HT10.out.1 hg, by have := HC9.out; omega⟩
        | false =>
          rw [show endB4 L (seqR (.ok j) (.ok (m, ds))) = _ from endB4_bad hg]
          exact HT10.out.2 hg
      | error q =>
        obtain ⟨k, c⟩ := q
        have HBD9 := Lib.hid hm9
        clear hm9
        have HTB := Lib.hid (r4_take_bad w9 r file L k c HBD9.out ⟨#[59]⟩)
        go_wp2_with fail
        refine (by exact HTB.out : Calls _ _ _ _ _).mono ?_
        rintro e w10 ⟨rfl, rfl⟩
        go_wp2_with fail
        refine bodyPost_ret (results_none rfl _ _ _) rfl ?_
        exact ⟨rfl, HB9.out, HBD9.out⟩
  | error q =>
    obtain ⟨k, c⟩ := q
    go_region_with (first | (go_at_call 65; refine (by exact HWD.out _ (by exact H6.out.keeps ((Keeps.refl _ _).drew)) : Calls _ _ _ _ _).mono ?_; rintro e w7 ⟨hk7, rfl, ha7⟩; have HA7 := Lib.hid ha7; have hk67 := (((Keeps.refl (fun _ => False) w6).drew).mono (S := (· = r)) (fun _ _ e => e.elim)).trans hk7 (fun _ _ e => e); have hM7 := HM6.out.keeps hk67 hPr; obtain ⟨v0, v1, v2, _, _, _, vl⟩ := three hM7; have HK7 := Lib.hid (HK6.out.trans hk67 (fun _ _ e => e)); clear ha7 hk7 hk67 hM7) | (go_at_call 64; refine (by exact r4_add_bad _ r file L k c HA7.out _ _ _ _ _ _ _ _ _ : Calls _ _ _ _ _).mono ?_; rintro e w8 ⟨rfl, ha8, hk8⟩))
    all_goals
      have HBB : Hid (Calls Tryz.prog 66 #[.pointer (some ⟨r, 0, none⟩), .int .i64 ((dp : Int) + 1)] w8 (fun e w' => e = .returned (.tuple #[]) ∧ w8 = w')) := Lib.hid (by
        have h9 := r4_body_bad w8 r file L k c ha8 (dp + 1) (by omega)
        rw [show ((dp + 1 : Nat) : Int) = (dp : Int) + 1 from by omega] at h9
        exact h9)
      have HB8 := Lib.hid ((HK7.out.trans (hk8.mono (S := (· = r)) (fun _ _ e => e.elim)) (fun _ _ e => e)).below HH.out.size HLOW.out)
      have HA8 := Lib.hid ha8
      clear ha8 hk8
      go_wp2_with fail
      refine (by exact HBB.out : Calls _ _ _ _ _).mono ?_
      rintro e w9 ⟨rfl, rfl⟩
      have HTB := Lib.hid (r4_take_bad w8 r file L k c HA8.out ⟨#[59]⟩)
      go_wp2_with fail
      refine (by exact HTB.out : Calls _ _ _ _ _).mono ?_
      rintro e w10 ⟨rfl, rfl⟩
      go_wp2_with fail
      refine bodyPost_ret (results_none rfl _ _ _) rfl ?_
      exact ⟨rfl, HB8.out, HA8.out⟩
end Go.Proofs.YtofhcgbihonckaaGreat
