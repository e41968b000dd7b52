/- The reader of source: next, is, fail, take, sign. | The reader of source: fail, take, sign. -/
import Derived.Test.YtofhcgbihonckaaGreatZ12
import Derived.Test.YtofhcgbihonckaaGreatZ2
import Derived.StillTailTactics
import Derived.Deep.RegionHeld3
import Derived.Deep.RegionWith
set_option linter.unusedVariables false
set_option linter.unusedSimpArgs false
set_option linter.unusedSectionVars false
namespace Go.Proofs.YtofhcgbihonckaaGreat
open Go.RowKit
theorem tkN_lt {L : List Tok} {i : Nat} (h : i < L.length) : tkN L i = L[i] := by unfold tkN; rw [List.getD_eq_getElem?_getD, List.getElem?_eq_getElem h]; rfl
theorem TokIn.at {B : Nat} {w : World} {v : Value} {file : Int} {L : List Tok} {i : Nat} (h : TokIn B w v file L) (hi : i < L.length) : ∃ g cap, v = .slice (some ⟨g, 0, none⟩) L.length cap ∧ g < B ∧
    w.cell? ⟨g, i * 6, none⟩ = some (.int .i64 (tkN L i).kind) ∧ w.cell? ⟨g, i * 6 + 1, none⟩ = some (.string ⟨(tkN L i).text.toArray⟩) ∧ w.cell? ⟨g, i * 6 + 2, none⟩ = some (.int .i64 (tkN L i).value) ∧
    w.cell? ⟨g, i * 6 + 3, none⟩ = some (.int .i64 file) ∧ w.cell? ⟨g, i * 6 + 4, none⟩ = some (.int .i64 (tkN L i).line) ∧ w.cell? ⟨g, i * 6 + 5, none⟩ = some (.int .i64 (tkN L i).col) := by
  obtain ⟨g, cap, e, hg, hc⟩ := h
  rw [tkN_lt hi, Nat.mul_comm i 6]
  exact ⟨g, cap, e, hg, hc i hi 0 _ rfl, hc i hi 1 _ rfl, hc i hi 2 _ rfl, hc i hi 3 _ rfl, hc i hi 4 _ rfl, hc i hi 5 _ rfl⟩
theorem LOk.at {L : List Tok} (h : LOk L) (i : Nat) : (tkN L i).text.length ≤ 16000 := by
  by_cases hi : i < L.length
  · rw [tkN_lt hi]; exact h.text _ (List.getElem_mem hi)
  · unfold tkN; rw [List.getD_eq_getElem?_getD, List.getElem?_eq_none (by omega)]; simp
section
variable {w w' : World} {r base : Nat} {file : Int} {L : List Tok} {lv ov : Value} {i : Nat} {D : List DefT}
theorem SrcAt.keeps (h : SrcAt w r base file L lv ov i D) (k : Keeps (fun _ => False) w w') : SrcAt w' r base file L lv ov i D :=
  ⟨h.holds.keeps k (fun e => e), h.toks.keeps k (fun _ e => e.elim), h.defs.keeps k (Apart3.nil _), h.low, Nat.le_trans h.size k.size, h.lt, h.ok, h.cnt⟩
theorem SrcAt.turn (h : SrcAt w r base file L lv ov i D) (k : Keeps (· = r) w w') {j : Nat} (hH : Holds w' r #[lv, .int .i64 j, ov, .pointer none] 63) (hj : j < L.length) (hij : i ≤ j) : SrcAt w' r base file L lv ov j D :=
  ⟨hH, h.toks.keeps k (fun b e => by cases e; exact h.low), h.defs.keeps k (Apart3.one h.holds (by decide) (by decide) (by decide)), h.low, Nat.le_trans h.size k.size, hj, h.ok, Nat.le_trans h.cnt hij⟩
end
def set6 (w : World) (B : Nat) (x0 x1 x2 x3 x4 x5 : Value) : World := (((((w.setCell ⟨B, 0, none⟩ x0).setCell ⟨B, 1, none⟩ x1).setCell ⟨B, 2, none⟩ x2).setCell ⟨B, 3, none⟩ x3).setCell ⟨B, 4, none⟩ x4).setCell ⟨B, 5, none⟩ x5
theorem set_six {w : World} {B : Nat} {a b c d e f : Value} {t : TypeId} (h : Holds w B #[a, b, c, d, e, f] t) (x0 x1 x2 x3 x4 x5 : Value) : Holds (set6 w B x0 x1 x2 x3 x4 x5) B #[x0, x1, x2, x3, x4, x5] t := by
  have := (((((h.set 0 x0).set 1 x1).set 2 x2).set 3 x3).set 4 x4).set 5 x5
  exact this
theorem six_cells {w : World} {B : Nat} {x0 x1 x2 x3 x4 x5 : Value} {t : TypeId} (h : Holds w B #[x0, x1, x2, x3, x4, x5] t) :
    w.cell? ⟨B, 0, none⟩ = some x0 ∧ w.cell? ⟨B, 1, none⟩ = some x1 ∧ w.cell? ⟨B, 2, none⟩ = some x2 ∧ w.cell? ⟨B, 3, none⟩ = some x3 ∧ w.cell? ⟨B, 4, none⟩ = some x4 ∧ w.cell? ⟨B, 5, none⟩ = some x5 :=
  ⟨h.cell 0, h.cell 1, h.cell 2, h.cell 3, h.cell 4, h.cell 5⟩
theorem six_free {w : World} {B : Nat} {x0 x1 x2 x3 x4 x5 : Value} {t : TypeId} (h : Holds w B #[x0, x1, x2, x3, x4, x5] t) :
    w.frozen? ⟨B, 0, none⟩ = false ∧ w.frozen? ⟨B, 1, none⟩ = false ∧ w.frozen? ⟨B, 2, none⟩ = false ∧ w.frozen? ⟨B, 3, none⟩ = false ∧ w.frozen? ⟨B, 4, none⟩ = false ∧ w.frozen? ⟨B, 5, none⟩ = false :=
  ⟨h.free 0, h.free 1, h.free 2, h.free 3, h.free 4, h.free 5⟩
theorem set6_keeps {w : World} {a : World} {B : Nat} {S : Nat → Prop} (h : Keeps S a w) (hB : a.heap.size ≤ B ∨ S B) (x0 x1 x2 x3 x4 x5 : Value) : Keeps S a (set6 w B x0 x1 x2 x3 x4 x5) :=
  ((((((h.setCell (p := ⟨B, 0, none⟩) hB x0).setCell (p := ⟨B, 1, none⟩) hB x1).setCell (p := ⟨B, 2, none⟩) hB x2).setCell (p := ⟨B, 3, none⟩) hB x3).setCell (p := ⟨B, 4, none⟩) hB x4).setCell (p := ⟨B, 5, none⟩) hB x5)
set_option maxRecDepth 100000 in
set_option maxHeartbeats 2000000 in
theorem src_next (w : World) (r base : Nat) (file : Int) (L : List Tok) (lv ov : Value) (i : Nat) (D : List DefT) (h : SrcAt w r base file L lv ov i D) :
    Calls Tryz.prog 28 #[.pointer (some ⟨r, 0, none⟩)] w fun e w' => e = .returned (tokAgg file (tkN L i)) ∧ Below w.heap.size w w' := by
  obtain ⟨g, cap, rfl, hg, d0, d1, d2, d3, d4, d5⟩ := h.toks.at h.lt
  have hL := h.ok.len
  have hi := h.lt
  have iI : (i : Int) < (L.length : Int) := by omega
  have c0 := h.holds.cell 0
  have c1 := h.holds.cell 1
  have cl := h.holds.lt
  have gl := World.block_lt_of_cell? w _ d0
  unfold tokAgg
  generalize tkN L i = t at *
  obtain ⟨t0, t1, t2, t3, t4⟩ := t
  simp only at d0 d1 d2 d3 d4 d5 gl
  clear h
  have hN := Holds.new w #[.int .i64 0, .string ⟨#[]⟩, .int .i64 0, .int .i64 0, .int .i64 0, .int .i64 0] 65
  have hb : Below w.heap.size w (w.alloc (.cells #[.int .i64 0, .string ⟨#[]⟩, .int .i64 0, .int .i64 0, .int .i64 0, .int .i64 0] 65)) := (Below.refl _ _).alloc (Nat.le_refl _) _
  have c0' := (hb.cell cl).trans c0
  have c1' := (hb.cell cl).trans c1
  have d0' := (hb.cell gl).trans d0
  have d1' := (hb.cell gl).trans d1
  have d2' := (hb.cell gl).trans d2
  have d3' := (hb.cell gl).trans d3
  have d4' := (hb.cell gl).trans d4
  have d5' := (hb.cell gl).trans d5
  clear c0 c1 d0 d1 d2 d3 d4 d5
  go_enter Tryz.func28, Tryz.ntmps28
  go_wp2_with fail
  generalize w.alloc (.cells #[.int .i64 0, .string ⟨#[]⟩, .int .i64 0, .int .i64 0, .int .i64 0, .int .i64 0] 65) = w0 at *
  have hlt := hN.lt
  obtain ⟨f0, f1, f2, f3, f4, f5⟩ := six_free hN
  obtain ⟨m0, m1, m2, m3, m4, m5⟩ := six_cells hN
  go_still_tail 10, (by kernel_rfl)
  go_wp2_with fail
  have hS := (set_six hN (.int .i64 t0) (.string ⟨t1.toArray⟩) (.int .i64 t2) (.int .i64 file) (.int .i64 t3) (.int .i64 t4)).drew
  unfold set6 at hS
  obtain ⟨q0, q1, q2, q3, q4, q5⟩ := six_cells hS
  exact bodyPost_ret (v := .agg #[.int .i64 t0, .string ⟨t1.toArray⟩, .int .i64 t2, .int .i64 file, .int .i64 t3, .int .i64 t4]) (by simp [results, Tryz.results28, go_sem, q0, q1, q2, q3, q4, q5]) rfl ⟨rfl, (((((((hb.setCell (Nat.le_refl _) _).setCell (Nat.le_refl _) _).setCell (Nat.le_refl _) _).setCell (Nat.le_refl _) _).setCell (Nat.le_refl _) _).setCell (Nat.le_refl _) _).drew)⟩
set_option maxRecDepth 100000 in
set_option maxHeartbeats 2000000 in
theorem src_is (w : World) (r base : Nat) (file : Int) (L : List Tok) (lv ov : Value) (i : Nat) (D : List DefT) (h : SrcAt w r base file L lv ov i D) (kind : Int) (s : List UInt8) :
    Calls Tryz.prog 56 #[.pointer (some ⟨r, 0, none⟩), .int .i64 kind, .string ⟨s.toArray⟩] w fun e w' => e = .returned (.bool (isK L i kind s)) ∧ Below w.heap.size w w' := by
  have hn := src_next w r base file L lv ov i D h
  have hK := Lib.hid (show isK L i kind s = (decide ((tkN L i).kind = kind) && (s.isEmpty || decide ((tkN L i).text = s))) from rfl)
  unfold tokAgg at hn
  generalize tkN L i = t at *
  obtain ⟨t0, t1, t2, t3, t4⟩ := t
  simp only at hn hK
  clear h
  go_enter Tryz.func56, Tryz.ntmps56
  go_wp2_with fail
  refine hn.mono ?_
  rintro e w1 ⟨rfl, hb⟩
  have hN := Holds.new w1 #[.int .i64 t0, .string ⟨t1.toArray⟩, .int .i64 t2, .int .i64 file, .int .i64 t3, .int .i64 t4] 65
  have hb2 : Below w.heap.size w (w1.alloc (.cells #[.int .i64 t0, .string ⟨t1.toArray⟩, .int .i64 t2, .int .i64 file, .int .i64 t3, .int .i64 t4] 65)) := hb.alloc hb.size _
  obtain ⟨m0, m1, m2, m3, m4, m5⟩ := six_cells hN
  by_cases hk : t0 = kind
  · subst hk
    by_cases hs : s = []
    · subst hs
      go_wp2_with fail
      go_ret
      exact ⟨ret_bool (by rw [hK.out]; simp), hb2⟩
    · have hne : (s == []) = false := by rw [beq_eq_false_iff_ne]; exact hs
      have hie : s.isEmpty = false := by simpa using hs
      have HS := Lib.hid hs
      clear hs
      by_cases ht : t1 = s
      · have HT := Lib.hid ht
        subst ht
        go_wp2_with fail
        go_ret
        exact ⟨ret_bool (by rw [hK.out]; simp), hb2⟩
      · have htb : (t1 == s) = false := by rw [beq_eq_false_iff_ne]; exact ht
        have HT := Lib.hid ht
        clear ht
        go_wp2_with fail
        go_ret
        exact ⟨ret_bool (by rw [hK.out, hie, decide_eq_false HT.out]; simp [HT.out]), hb2⟩
  · have hkb : (t0 == kind) = false := by rw [beq_eq_false_iff_ne]; exact hk
    go_wp2_with fail
    go_ret
    exact ⟨ret_bool (by rw [hK.out]; simp [hk]), hb2⟩
end Go.Proofs.YtofhcgbihonckaaGreat
namespace Go.Proofs.YtofhcgbihonckaaGreat
open Go.RowKit
set_option maxRecDepth 100000 in
set_option maxHeartbeats 2000000 in
theorem src_fail (w : World) (r base : Nat) (file : Int) (L : List Tok) (lv ov : Value) (i : Nat) (D : List DefT) (h : SrcAt w r base file L lv ov i D) (k : Nat) (c : Int) :
    Calls Tryz.prog 59 #[.pointer (some ⟨r, 0, none⟩), tokAgg file (tkN L k), .int .i64 c] w fun e w' => e = .returned (.bool false) ∧ SrcBad w' r file L lv ov k c ∧ Keeps (· = r) w w' := by
  have hSB := Lib.hid (show ∀ (wx : World) (x : Value) (f : Nat), Holds wx r #[lv, x, ov, .pointer (some ⟨f, 0, none⟩)] 63 → Holds wx f #[.int .i64 file, .int .i64 (tkN L k).line, .int .i64 (tkN L k).col, .int .i64 c] 68 → SrcBad wx r file L lv ov k c from fun wx x f h1 h2 => ⟨x, f, h1, h2⟩)
  unfold tokAgg
  generalize tkN L k = t at *
  obtain ⟨t0, t1, t2, t3, t4⟩ := t
  simp only at hSB ⊢
  have hH := h.holds
  have cl := hH.lt
  clear h
  have hN := Holds.new w #[.int .i64 t0, .string ⟨t1.toArray⟩, .int .i64 t2, .int .i64 file, .int .i64 t3, .int .i64 t4] 65
  have hH2 := hH.alloc (.cells #[.int .i64 t0, .string ⟨t1.toArray⟩, .int .i64 t2, .int .i64 file, .int .i64 t3, .int .i64 t4] 65)
  have hK2 := (Keeps.refl (· = r) w).alloc (.cells #[.int .i64 t0, .string ⟨t1.toArray⟩, .int .i64 t2, .int .i64 file, .int .i64 t3, .int .i64 t4] 65)
  have c3 : (w.alloc (.cells #[.int .i64 t0, .string ⟨t1.toArray⟩, .int .i64 t2, .int .i64 file, .int .i64 t3, .int .i64 t4] 65)).cell? ⟨r, 3, none⟩ = some (.pointer none) := hH2.cell 3
  have c3f := hH.free 3
  have hsz : (w.alloc (.cells #[.int .i64 t0, .string ⟨t1.toArray⟩, .int .i64 t2, .int .i64 file, .int .i64 t3, .int .i64 t4] 65)).heap.size = w.heap.size + 1 := by simp
  obtain ⟨m0, m1, m2, m3, m4, m5⟩ := six_cells hN
  go_enter Tryz.func59, Tryz.ntmps59
  go_wp2_with fail
  go_ret
  exact ⟨rfl, hSB.out _ (.int .i64 i) (w.heap.size + 1) (((hH.set 3 _).alloc _).alloc _) (Holds.newAt (by simp) _ _), (((Keeps.refl (· = r) w).setCell (p := ⟨r, 3, none⟩) (.inr rfl) _).alloc _).alloc _⟩
theorem set6_other {w : World} {b B : Nat} {cs : Array Value} {t : TypeId} (h : Holds w b cs t) (hne : b ≠ B) (x0 x1 x2 x3 x4 x5 : Value) : Holds (set6 w B x0 x1 x2 x3 x4 x5) b cs t :=
  (((((h.other ⟨B, 0, none⟩ x0 hne).other ⟨B, 1, none⟩ x1 hne).other ⟨B, 2, none⟩ x2 hne).other ⟨B, 3, none⟩ x3 hne).other ⟨B, 4, none⟩ x4 hne).other ⟨B, 5, none⟩ x5 hne
theorem SrcBad.six {w : World} {r B : Nat} {file : Int} {L : List Tok} {lv ov : Value} {k : Nat} {c : Int} {cs : Array Value} (h : SrcBad w r file L lv ov k c) (hB : Holds w B cs 65) (x0 x1 x2 x3 x4 x5 : Value) : SrcBad (set6 w B x0 x1 x2 x3 x4 x5) r file L lv ov k c :=
  h.one hB (by decide) (by decide) (set6_keeps (S := (· = B)) (Keeps.refl _ w) (.inr rfl) x0 x1 x2 x3 x4 x5)
def TakeOut (r base : Nat) (file : Int) (L : List Tok) (lv ov : Value) (i : Nat) (D : List DefT) (kind : Int) (s : List UInt8) (w : World) (e : Ending) (w' : World) : Prop :=
  e = .returned (.tuple #[tokAgg file (tkN L i), .bool (isK L i kind s)]) ∧ Keeps (· = r) w w' ∧ (isK L i kind s = true → SrcAt w' r base file L lv ov (i + 1) D) ∧ (isK L i kind s = false → SrcBad w' r file L lv ov i 6)
set_option maxRecDepth 100000 in
set_option maxHeartbeats 4000000 in
theorem src_take (w : World) (r base : Nat) (file : Int) (L : List Tok) (lv ov : Value) (i : Nat) (D : List DefT) (h : SrcAt w r base file L lv ov i D) (kind : Int) (s : List UInt8) (hk8 : kind ≠ 8) :
    Calls Tryz.prog 93 #[.pointer (some ⟨r, 0, none⟩), .int .i64 kind, .string ⟨s.toArray⟩] w (TakeOut r base file L lv ov i D kind s w) := by
  have hcl := h.holds.lt
  have hb0 : Below w.heap.size w (w.alloc (.cells #[.int .i64 0, .string ⟨#[]⟩, .int .i64 0, .int .i64 0, .int .i64 0, .int .i64 0] 65)) := (Below.refl _ _).alloc (Nat.le_refl _) _
  have hN0 := Holds.new w #[.int .i64 0, .string ⟨#[]⟩, .int .i64 0, .int .i64 0, .int .i64 0, .int .i64 0] 65
  have HH := Lib.hid h
  have hn := src_next _ r base file L lv ov i D (h.keeps (Keeps.of_fresh hb0 (fun _ => False)))
  have hnx : isK L i kind s = true → i + 1 < L.length := fun hk => h.ok.next h.lt (by unfold isK at hk; simp only [Bool.and_eq_true, decide_eq_true_eq] at hk; rw [hk.1]; exact hk8)
  have HNX := Lib.hid hnx
  have hiI : (i : Int) < 10000 := by have := h.ok.len; have := h.lt; omega
  have HIS := Lib.hid (fun wx hx => src_is wx r base file L lv ov i D hx kind s)
  have HFL := Lib.hid (fun wx hx => src_fail wx r base file L lv ov i D hx i 6)
  unfold TakeOut
  unfold tokAgg at hn HFL ⊢
  generalize tkN L i = t at *
  obtain ⟨t0, t1, t2, t3, t4⟩ := t
  simp only at hn HFL ⊢
  clear hnx h
  go_enter Tryz.func93, Tryz.ntmps93
  go_wp2_with fail
  generalize w.alloc (.cells #[.int .i64 0, .string ⟨#[]⟩, .int .i64 0, .int .i64 0, .int .i64 0, .int .i64 0] 65) = w0 at *
  refine hn.mono ?_
  rintro e w1 ⟨rfl, hb1⟩
  have hK1 : Keeps (fun _ => False) w w1 := (Keeps.of_fresh hb0 (fun _ => False)).trans (Keeps.of_fresh hb1 (fun _ => False)) (fun _ _ e => e)
  have hN1 := hN0.keeps (Keeps.of_fresh hb1 (fun _ => False)) (fun e => e)
  have hN2 := hN1.alloc (.cells #[.int .i64 t0, .string ⟨t1.toArray⟩, .int .i64 t2, .int .i64 file, .int .i64 t3, .int .i64 t4] 65)
  have hM2 := Holds.new w1 #[.int .i64 t0, .string ⟨t1.toArray⟩, .int .i64 t2, .int .i64 file, .int .i64 t3, .int .i64 t4] 65
  have hK2 := hK1.alloc (.cells #[.int .i64 t0, .string ⟨t1.toArray⟩, .int .i64 t2, .int .i64 file, .int .i64 t3, .int .i64 t4] 65)
  have h01 := hb1.size
  have h00 := hN0.lt
  clear hb0 hN0 hn hb1 hN1 hK1
  go_wp2_with fail
  generalize w1.alloc (.cells #[.int .i64 t0, .string ⟨t1.toArray⟩, .int .i64 t2, .int .i64 file, .int .i64 t3, .int .i64 t4] 65) = w2 at *
  refine (HIS.out w2 (HH.out.keeps hK2)).mono ?_
  rintro e w3 ⟨rfl, hb3⟩
  have hK3 := hK2.trans (Keeps.of_fresh hb3 (fun _ => False)) (fun _ _ e => e)
  have hN3 := hN2.keeps (Keeps.of_fresh hb3 (fun _ => False)) (fun e => e)
  have hM3 := hM2.keeps (Keeps.of_fresh hb3 (fun _ => False)) (fun e => e)
  have HS3 := Lib.hid (HH.out.keeps hK3)
  have hl1 := hN3.lt
  have hl2 := hM3.lt
  have hr1 : r ≠ w.heap.size := by omega
  have hr2 : r ≠ w1.heap.size := by omega
  have h12 : w.heap.size ≠ w1.heap.size := by omega
  obtain ⟨m0, m1, m2, m3, m4, m5⟩ := six_cells hM3
  obtain ⟨f0, f1, f2, f3, f4, f5⟩ := six_free hN3
  obtain ⟨n0, n1, n2, n3, n4, n5⟩ := six_cells hN3
  have HK3 := Lib.hid hK3
  have HN3 := Lib.hid hN3
  clear hK2 hN2 hM2 hb3 hK3 hN3
  cases hk : isK L i kind s with
  | true =>
    have hlt := HNX.out hk
    have cH := HS3.out.holds
    have c1 : w3.cell? ⟨r, 1, none⟩ = some (.int .i64 i) := cH.cell 1
    have c1f := cH.free 1
    have crl := cH.lt
    go_wp2_with fail
    have e1 : (i : Int) + 1 = ((i + 1 : Nat) : Int) := by omega
    have kw := set6_keeps ((HK3.out.mono (S := (· = r)) (fun _ _ e => e.elim)).setCell (p := ⟨r, 1, none⟩) (.inr rfl) (.int .i64 ((i : Int) + 1))) (B := w.heap.size) (.inl (Nat.le_refl _)) (.int .i64 t0) (.string ⟨t1.toArray⟩) (.int .i64 t2) (.int .i64 file) (.int .i64 t3) (.int .i64 t4)
    have hSn := set_six (HN3.out.other ⟨r, 1, none⟩ (.int .i64 ((i : Int) + 1)) (Ne.symm hr1)) (.int .i64 t0) (.string ⟨t1.toArray⟩) (.int .i64 t2) (.int .i64 file) (.int .i64 t3) (.int .i64 t4)
    have hHr := set6_other (B := w.heap.size) (cH.set 1 (.int .i64 ((i : Int) + 1))) hr1 (.int .i64 t0) (.string ⟨t1.toArray⟩) (.int .i64 t2) (.int .i64 file) (.int .i64 t3) (.int .i64 t4)
    have hfin := HH.out.turn (j := i + 1) kw (by rw [← e1]; exact hHr) hlt (by omega)
    unfold set6 at hSn hfin kw
    obtain ⟨q0, q1, q2, q3, q4, q5⟩ := six_cells hSn
    exact bodyPost_ret (v := .tuple #[.agg #[.int .i64 t0, .string ⟨t1.toArray⟩, .int .i64 t2, .int .i64 file, .int .i64 t3, .int .i64 t4], .bool true]) (by simp [results, Tryz.results93, go_sem, q0, q1, q2, q3, q4, q5]) rfl ⟨by rw [hk], kw, fun _ => hfin, fun e => (by rw [hk] at e; cases e)⟩
  | false =>
    go_wp2_with fail
    go_region_with (go_at_call 59; refine (HFL.out _ (by exact HS3.out.keeps ((Keeps.refl _ _).drew))).mono ?_; rintro e w4 ⟨rfl, hbad, hk4⟩; have hN4 := HN3.out.drew.keeps hk4 (fun e => hr1 e.symm); have hM4 := hM3.drew.keeps hk4 (fun e => hr2 e.symm); obtain ⟨y0, y1, y2, y3, y4, y5⟩ := six_cells hM4; obtain ⟨v0, v1, v2, v3, v4, v5⟩ := six_cells hN4; obtain ⟨z0, z1, z2, z3, z4, z5⟩ := six_free hN4; have hl4 := hN4.lt)
    all_goals
      go_wp2_with fail
      have kw := set6_keeps (((HK3.out.mono (S := (· = r)) (fun _ _ e => e.elim)).drew).trans hk4 (fun _ _ e => e)) (B := w.heap.size) (.inl (Nat.le_refl _)) (.int .i64 t0) (.string ⟨t1.toArray⟩) (.int .i64 t2) (.int .i64 file) (.int .i64 t3) (.int .i64 t4)
      have hSn := set_six hN4 (.int .i64 t0) (.string ⟨t1.toArray⟩) (.int .i64 t2) (.int .i64 file) (.int .i64 t3) (.int .i64 t4)
      have hfin := hbad.six hN4 (.int .i64 t0) (.string ⟨t1.toArray⟩) (.int .i64 t2) (.int .i64 file) (.int .i64 t3) (.int .i64 t4)
      unfold set6 at hSn hfin kw
      obtain ⟨q0, q1, q2, q3, q4, q5⟩ := six_cells hSn
      exact bodyPost_ret (v := .tuple #[.agg #[.int .i64 t0, .string ⟨t1.toArray⟩, .int .i64 t2, .int .i64 file, .int .i64 t3, .int .i64 t4], .bool false]) (by simp [results, Tryz.results93, go_sem, q0, q1, q2, q3, q4, q5]) rfl ⟨by rw [hk], kw, fun e => (by rw [hk] at e; cases e), fun _ => hfin⟩
def SignOut (r base : Nat) (file : Int) (L : List Tok) (lv ov : Value) (i : Nat) (D : List DefT) (s : List UInt8) (w : World) (e : Ending) (w' : World) : Prop :=
  e = .returned (.bool (isK L i 4 s)) ∧ Keeps (· = r) w w' ∧ (isK L i 4 s = true → SrcAt w' r base file L lv ov (i + 1) D) ∧ (isK L i 4 s = false → SrcBad w' r file L lv ov i 6)
theorem SrcBad.alloc {w : World} {r : Nat} {file : Int} {L : List Tok} {lv ov : Value} {k : Nat} {c : Int} (h : SrcBad w r file L lv ov k c) (o : Obj) : SrcBad (w.alloc o) r file L lv ov k c := h.new ((Keeps.refl _ w).alloc o)
theorem SrcAt.alloc {w : World} {r base : Nat} {file : Int} {L : List Tok} {lv ov : Value} {i : Nat} {D : List DefT} (h : SrcAt w r base file L lv ov i D) (o : Obj) : SrcAt (w.alloc o) r base file L lv ov i D := h.keeps ((Keeps.refl _ w).alloc o)
set_option maxRecDepth 100000 in
set_option maxHeartbeats 2000000 in
theorem src_sign (w : World) (r base : Nat) (file : Int) (L : List Tok) (lv ov : Value) (i : Nat) (D : List DefT) (h : SrcAt w r base file L lv ov i D) (s : List UInt8) :
    Calls Tryz.prog 54 #[.pointer (some ⟨r, 0, none⟩), .string ⟨s.toArray⟩] w (SignOut r base file L lv ov i D s w) := by
  have ht := src_take w r base file L lv ov i D h 4 s (by decide)
  unfold TakeOut tokAgg at ht
  unfold SignOut
  clear h
  generalize isK L i 4 s = b at *
  go_enter Tryz.func54, Tryz.ntmps54
  go_wp2_with fail
  refine ht.mono ?_
  rintro e w1 ⟨rfl, hk, h1, h2⟩
  have H1 := Lib.hid h1
  have H2 := Lib.hid h2
  clear h1 h2
  go_wp2_with fail
  go_ret
  exact ⟨rfl, hk.alloc _, fun e => (H1.out e).alloc _, fun e => (H2.out e).alloc _⟩
def TakenOut (r base : Nat) (file : Int) (L : List Tok) (lv ov : Value) (i : Nat) (D : List DefT) (kind : Int) (right : List UInt8 → Bool) (w : World) (e : Ending) (w' : World) : Prop :=
  Keeps (· = r) w w' ∧ match takenR L kind right i with
    | .ok j => e = .returned (.tuple #[tokAgg file (tkN L i), .bool true]) ∧ SrcAt w' r base file L lv ov j D
    | .error (k, c) => e = .returned (.tuple #[tokAgg file (tkN L i), .bool false]) ∧ SrcBad w' r file L lv ov k c
end Go.Proofs.YtofhcgbihonckaaGreat
