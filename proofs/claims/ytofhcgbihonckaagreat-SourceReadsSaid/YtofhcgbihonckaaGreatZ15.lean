/- The reader of source: note. | The reader of source: taken. | The reader of source: Primary at a place of the tokens. | The reader of source: bytes. | The reader of source: cells (printed by gsrcg.py). | The reader of source: part (printed by gsrch.py). | The reader of source: deletes. | The reader of source: named. | The reader of source: body. | The reader of source: member (printed by gsrcl.py). | The reader of source: all of its parts; top (printed by gsrcl.py). -/
import Derived.Test.YtofhcgbihonckaaGreatZ14
import Derived.Deep.RegionLaw
import Derived.Deep.AppendLies
import Derived.Test.YtofhcgbihonckaaGreatZ3
import Derived.Laws.IdiomStrings
import Derived.Test.YtofhcgbihonckaaGreatZ16
set_option linter.unusedVariables false
set_option linter.unusedSimpArgs false
set_option linter.unusedSectionVars false
namespace Go.Proofs.YtofhcgbihonckaaGreat
open Go.RowKit
theorem infoDef : (Tryz.prog.info? 34).map (fun i => (i.zero, i.size, i.bytes)) = some (some (.agg #[.int .i64 0, .string ⟨#[]⟩, .string ⟨#[]⟩, .slice none 0 0, .int .i64 0, .int .i64 0, .int .i64 0]), 7, 88) := by kernel_rfl
def defAgg (file : Int) (d : DefT) (pv : Value) : Value := .agg #[.int .i64 d.kind, .string d.label, .string d.name, pv, .int .i64 file, .int .i64 d.line, .int .i64 d.col]
def defRow (file : Int) (d : DefT) (pv : Value) : Array Value := #[.int .i64 d.kind, .string d.label, .string d.name, pv, .int .i64 file, .int .i64 d.line, .int .i64 d.col]
theorem seven_cells {w : World} {B : Nat} {x0 x1 x2 x3 x4 x5 x6 : Value} {t : TypeId} (h : Holds w B #[x0, x1, x2, x3, x4, x5, x6] t) :
    w.cell? ⟨B, 0, none⟩ = some x0 ∧ w.cell? ⟨B, 1, none⟩ = some x1 ∧ w.cell? ⟨B, 2, none⟩ = some x2 ∧ w.cell? ⟨B, 3, none⟩ = some x3 ∧ w.cell? ⟨B, 4, none⟩ = some x4 ∧ w.cell? ⟨B, 5, none⟩ = some x5 ∧ w.cell? ⟨B, 6, none⟩ = some x6 :=
  ⟨h.cell 0, h.cell 1, h.cell 2, h.cell 3, h.cell 4, h.cell 5, h.cell 6⟩
theorem owns_ne {w : World} {base : Nat} {e t : TypeId} {size : Nat} {v : Value} {n b : Nat} {xs : List Value} {cs : Array Value} (h : w.ownsRow base e size v n xs) (hH : Holds w b cs t) (hne : t ≠ e) : v.ownBlock ≠ some b := by
  intro e2
  obtain ⟨_, _, cur, h2⟩ := own_lt h e2
  exact src_holds_ne hH h2 hne rfl
theorem note_next {w w1 w8 : World} {r base : Nat} {file : Int} {lv x ov fp v8 : Value} {D : List DefT} {d : DefT} {pv : Value} {vs : List Value} {o : Obj} (h : SrcR w r base file lv x ov fp D) (hp : PartsRow w base pv d.parts) (k1 : Keeps (fun _ => False) w w1)
    (hvl : vs.length = D.length) (hrow : w.ownsRow base 34 7 ov D.length (defCells file D vs)) (hsub : ∀ k (h : k < D.length) (h2 : k < vs.length), PartsRow w base vs[k] D[k].parts)
    (hown : w8.ownsRow base 34 7 v8 (D.length + 1) (defCells file D vs ++ [.int .i64 d.kind, .string d.label, .string d.name, pv, .int .i64 file, .int .i64 d.line, .int .i64 d.col])) (hg : (w1.alloc o).grownBy w8 ov.ownBlock) :
    r < w8.heap.size ∧ w8.frozen? ⟨r, 2, none⟩ = false ∧ w8.cell? ⟨r, 2, none⟩ = some ov ∧ SrcR (w8.setCell ⟨r, 2, none⟩ v8) r base file lv x v8 fp (D ++ [d]) ∧ Keeps (fun b => b = r ∨ ov.ownBlock = some b) w (w8.setCell ⟨r, 2, none⟩ v8) := by
  have k2 : Keeps (fun b => ov.ownBlock = some b) w w8 := ((k1.alloc o).mono (fun _ _ e => e.elim)).grown hg (fun i e => .inr e)
  have hne := owns_ne hrow h.1 (by decide)
  have h8 : Holds w8 r #[lv, x, ov, fp] 63 := h.1.keeps k2 hne
  have hap : ∀ {v : Value} {ps : List PartT}, PartsRow w base v ps → PartsRow w8 base v ps := by
    intro v ps hps
    obtain ⟨us, u1, u2, u3⟩ := hps
    refine ⟨us, u1, ownsRow_keeps u2 k2 (fun g hg2 e => ?_), fun j a b => ownsRow_keeps (u3 j a b) k2 (fun g hg2 e => ?_)⟩
    · obtain ⟨_, _, cur, q⟩ := own_lt hrow e
      exact owns_ne u2 q (by decide) hg2
    · obtain ⟨_, _, cur, q⟩ := own_lt hrow e
      exact owns_ne (u3 j a b) q (by decide) hg2
  have h9 := h8.set 2 v8
  have k3 := (Keeps.refl (· = r) w8).setCell (p := ⟨r, 2, none⟩) (.inr rfl) v8
  have ha := Apart3.one h8 (by decide) (by decide) (by decide)
  refine ⟨h8.lt, h8.free 2, h8.cell 2, ⟨h9, ?_, h.2.2.1, Nat.le_trans h.2.2.2 (Nat.le_trans k2.size k3.size)⟩, (k2.mono (fun _ _ e => .inr e)).setCell (.inr (.inl rfl)) v8⟩
  refine DefsRow.keeps ?_ k3 ha
  refine ⟨vs ++ [pv], by simp [hvl], ?_, ?_⟩
  · rw [defCells_snoc file D vs d pv hvl]
    simpa using hown
  · intro j hj hj2
    by_cases e : j < D.length
    · rw [List.getElem_append_left (by omega), List.getElem_append_left e]
      exact hap (hsub j e (by omega))
    · have hjl : j = D.length := by simp at hj; omega
      subst hjl
      rw [List.getElem_append_right (by omega), List.getElem_append_right (by omega)]
      simp only [hvl, Nat.sub_self, List.getElem_cons_zero]
      exact hap hp
set_option maxRecDepth 100000 in
set_option maxHeartbeats 4000000 in
theorem src_note (w : World) (r base : Nat) (file : Int) (lv x ov fp : Value) (D : List DefT) (d : DefT) (pv : Value) (h : SrcR w r base file lv x ov fp D) (hp : PartsRow w base pv d.parts) (hl : D.length ≤ 20000) :
    Calls Tryz.prog 94 #[.pointer (some ⟨r, 0, none⟩), defAgg file d pv] w fun e w' => e = .returned (.tuple #[]) ∧ ∃ ov', SrcR w' r base file lv x ov' fp (D ++ [d]) ∧ Keeps (fun b => b = r ∨ ov.ownBlock = some b) w w' := by
  obtain ⟨pa, pc, rfl⟩ := hp.slice
  obtain ⟨oa, oc, rfl⟩ := h.2.1.slice
  obtain ⟨vs, hvl, hrow, hsub⟩ := id h.2.1
  have hbs := h.2.2.2
  have hH := h.1
  have HNX := Lib.hid (fun (w1 w8 : World) (v8 : Value) (o : Obj) k1 hown hg => note_next (w1 := w1) (w8 := w8) (v8 := v8) (o := o) h hp k1 hvl hrow hsub hown hg)
  have hrow2 := World.ownsRow.alloc hrow (.cells (defRow file d (.slice pa d.parts.length pc)) 34)
  have hN := Holds.new w (defRow file d (.slice pa d.parts.length pc)) 34
  have hH2 := hH.alloc (.cells (defRow file d (.slice pa d.parts.length pc)) 34)
  have k1 := (Keeps.refl (fun _ => False) w).alloc (.cells (defRow file d (.slice pa d.parts.length pc)) 34)
  unfold defAgg
  unfold defRow at hrow2 hN hH2 k1
  clear hsub hrow h hp hH
  generalize defCells file D vs = xs at *
  obtain ⟨dk, dl, dn, dp, dli, dc⟩ := d
  simp only at *
  obtain ⟨i0, hi, hz0, hz1, hz2⟩ := info_parts infoDef
  go_enter Tryz.func94, Tryz.ntmps94
  go_wp2_with fail
  generalize w.alloc (.cells #[.int .i64 dk, .string dl, .string dn, .slice pa dp.length pc, .int .i64 file, .int .i64 dli, .int .i64 dc] 34) = wb at *
  obtain ⟨m0, m1, m2, m3, m4, m5, m6⟩ := seven_cells hN
  have c2 : wb.cell? ⟨r, 2, none⟩ = some (.slice oa D.length oc) := hH2.cell 2
  have crl := hH2.lt
  have hbl := hN.lt
  have hbz := Nat.le_trans hbs k1.size
  have HOWN := Lib.hid (World.ownsRow.alloc (show wb.drew.ownsRow base 34 7 (.slice oa D.length oc) D.length xs from hrow2) (.cells #[.int .i64 dk, .string dl, .string dn, .slice pa dp.length pc, .int .i64 file, .int .i64 dli, .int .i64 dc] 34))
  clear hrow2 hH2 hN
  go_region_law (refine step_append_lies _ (by rfl) _ _ _ (by rfl) base 34 i0 _ 7 88 Tryz.underlying25 hi hz0 hz1 hz2 rfl (by omega) _ D.length xs (by rfl) HOWN.out ⟨wb.heap.size, 0, none⟩ 1 1 [.int .i64 dk, .string dl, .string dn, .slice pa dp.length pc, .int .i64 file, .int .i64 dli, .int .i64 dc] (by rfl) (by rfl) (World.news_of_block (cs := #[.int .i64 dk, .string dl, .string dn, .slice pa dp.length pc, .int .i64 file, .int .i64 dli, .int .i64 dc]) (t := 34) (fr := (0, 0)) (heap_alloc_new wb.drew _)) (by simp [Value.oneCell']) (by omega) (by unfold maxLen; omega) (by omega) (by simp; omega) (wb.heap.size + 1) (by simp) ?_; intro gg cap2 w8 hown8 hgrow hat hlt8; obtain ⟨y0, y1, y2, y3, y4⟩ := HNX.out wb.drew w8 _ _ k1.drew hown8 hgrow)
  all_goals
    go_wp2_with fail
    go_end0
    exact ⟨rfl, _, y3, y4⟩
end Go.Proofs.YtofhcgbihonckaaGreat
namespace Go.Proofs.YtofhcgbihonckaaGreat
open Go.RowKit
def TellsT (f : Nat) (right : List UInt8 → Bool) : Prop :=
  (∀ args w, (callFunc f args).run Tryz.prog w = .ok (.enter f args) w) ∧ ∀ (s : ByteArray) (w : World), s.size ≤ 16000 → Calls Tryz.prog f #[.string s] w fun e w' => e = .returned (.bool (right s.data.toList)) ∧ w = w'
theorem isK_nil {L : List Tok} {i : Nat} {kind : Int} : isK L i kind [] = decide ((tkN L i).kind = kind) := by unfold isK; simp
set_option maxRecDepth 100000 in
set_option maxHeartbeats 4000000 in
theorem src_taken (w : World) (r base : Nat) (file : Int) (L : List Tok) (lv ov : Value) (i : Nat) (D : List DefT) (h : SrcAt w r base file L lv ov i D) (kind : Int) (hk8 : kind ≠ 8) (f : Nat) (right : List UInt8 → Bool) (hf : TellsT f right) :
    Calls Tryz.prog 52 #[.pointer (some ⟨r, 0, none⟩), .int .i64 kind, .func (.func f) #[] #[]] w (TakenOut r base file L lv ov i D kind right w) := by
  have hb0 : Below w.heap.size w (w.alloc (.cells #[.int .i64 0, .string ⟨#[]⟩, .int .i64 0, .int .i64 0, .int .i64 0, .int .i64 0] 65)) := (Below.refl _ _).alloc (Nat.le_refl _) _
  have hN0 := Holds.new w #[.int .i64 0, .string ⟨#[]⟩, .int .i64 0, .int .i64 0, .int .i64 0, .int .i64 0] 65
  have ht := src_take _ r base file L lv ov i D (h.keeps (Keeps.of_fresh hb0 (fun _ => False))) kind [] hk8
  have hFL := fun wx hx => src_fail wx r base file L lv ov (i + 1) D hx i 1
  have hrl := h.holds.lt
  have hbsz := h.size
  have htl := h.ok.at i
  have hR := Lib.hid (show takenR L kind right i = if (tkN L i).kind = kind then (if right (tkN L i).text = true then .ok (i + 1) else .error (i, 1)) else .error (i, 6) from rfl)
  obtain ⟨heg, hf⟩ := hf
  unfold TakeOut at ht
  rw [isK_nil] at ht
  unfold TakenOut
  unfold tokAgg at ht hFL ⊢
  generalize takenR L kind right i = R at *
  generalize tkN L i = t at *
  obtain ⟨t0, t1, t2, t3, t4⟩ := t
  simp only at ht hFL htl hR ⊢
  have hft : ∀ wx, Calls Tryz.prog f #[.string ⟨t1.toArray⟩] wx fun e w' => e = .returned (.bool (right t1)) ∧ wx = w' := fun wx => hf ⟨t1.toArray⟩ wx (by simpa [ByteArray.size] using htl)
  have HFL := Lib.hid hFL
  clear hf hFL h htl
  go_enter Tryz.func52, Tryz.ntmps52
  go_wp2_with fail
  generalize w.alloc (.cells #[.int .i64 0, .string ⟨#[]⟩, .int .i64 0, .int .i64 0, .int .i64 0, .int .i64 0] 65) = w0 at *
  refine ht.mono ?_
  rintro e w1 ⟨rfl, hk1, hy1, hn1⟩
  have hK1 : Keeps (· = r) w w1 := ((Keeps.of_fresh hb0 (fun _ => False)).mono (fun _ _ e => e.elim)).trans hk1 (fun _ _ e => e)
  have hr0 : w.heap.size ≠ r := by omega
  have hN1 := hN0.keeps hk1 hr0
  have HN2 := Lib.hid (hN1.alloc (.cells #[.int .i64 t0, .string ⟨t1.toArray⟩, .int .i64 t2, .int .i64 file, .int .i64 t3, .int .i64 t4] 65))
  have HM2 := Lib.hid (Holds.new w1 #[.int .i64 t0, .string ⟨t1.toArray⟩, .int .i64 t2, .int .i64 file, .int .i64 t3, .int .i64 t4] 65)
  have HK2 := Lib.hid (hK1.alloc (.cells #[.int .i64 t0, .string ⟨t1.toArray⟩, .int .i64 t2, .int .i64 file, .int .i64 t3, .int .i64 t4] 65))
  have h00 := hN0.lt
  have h01 := hk1.size
  have hr1 : w1.heap.size ≠ r := by omega
  have h10 : w1.heap.size ≠ w.heap.size := by omega
  have HY := Lib.hid hy1
  have HN := Lib.hid hn1
  clear hb0 hN0 ht hk1 hN1 hK1 hy1 hn1
  obtain ⟨m0, m1, m2, m3, m4, m5⟩ := six_cells HM2.out
  obtain ⟨n0, n1, n2, n3, n4, n5⟩ := six_cells HN2.out
  obtain ⟨f0, f1, f2, f3, f4, f5⟩ := six_free HN2.out
  have l2 := HN2.out.lt
  have l3 := HM2.out.lt
  have hfin : ∀ (wx : World), Holds wx w.heap.size #[.int .i64 0, .string ⟨#[]⟩, .int .i64 0, .int .i64 0, .int .i64 0, .int .i64 0] 65 → Keeps (· = r) w wx →
      Holds (set6 wx w.heap.size (.int .i64 t0) (.string ⟨t1.toArray⟩) (.int .i64 t2) (.int .i64 file) (.int .i64 t3) (.int .i64 t4)) w.heap.size #[.int .i64 t0, .string ⟨t1.toArray⟩, .int .i64 t2, .int .i64 file, .int .i64 t3, .int .i64 t4] 65 ∧
      Keeps (· = r) w (set6 wx w.heap.size (.int .i64 t0) (.string ⟨t1.toArray⟩) (.int .i64 t2) (.int .i64 file) (.int .i64 t3) (.int .i64 t4)) ∧
      (SrcAt wx r base file L lv ov (i + 1) D → SrcAt (set6 wx w.heap.size (.int .i64 t0) (.string ⟨t1.toArray⟩) (.int .i64 t2) (.int .i64 file) (.int .i64 t3) (.int .i64 t4)) r base file L lv ov (i + 1) D) ∧
      (∀ c, SrcBad wx r file L lv ov i c → SrcBad (set6 wx w.heap.size (.int .i64 t0) (.string ⟨t1.toArray⟩) (.int .i64 t2) (.int .i64 file) (.int .i64 t3) (.int .i64 t4)) r file L lv ov i c) := by
    intro wx hH hk
    refine ⟨set_six hH _ _ _ _ _ _, set6_keeps hk (.inl (Nat.le_refl _)) _ _ _ _ _ _, fun hs => ?_, fun c hb => hb.six hH _ _ _ _ _ _⟩
    have k6 := set6_keeps (S := (· = w.heap.size)) (Keeps.refl _ wx) (B := w.heap.size) (.inr rfl) (.int .i64 t0) (.string ⟨t1.toArray⟩) (.int .i64 t2) (.int .i64 file) (.int .i64 t3) (.int .i64 t4)
    have hap := Apart3.one hH (by decide) (by decide) (by decide)
    exact ⟨hs.holds.keeps k6 (Ne.symm hr0), hs.toks.keeps k6 (fun b e => by cases e; exact hbsz), hs.defs.keeps k6 hap, hs.low, Nat.le_trans hs.size k6.size, hs.lt, hs.ok, hs.cnt⟩
  have HFIN := Lib.hid hfin
  clear hfin
  by_cases hk : t0 = kind
  · subst hk
    have HA2 := Lib.hid ((HY.out (decide_eq_true rfl)).alloc (.cells #[.int .i64 t0, .string ⟨t1.toArray⟩, .int .i64 t2, .int .i64 file, .int .i64 t3, .int .i64 t4] 65))
    have hR2 := hR.out
    rw [if_pos rfl] at hR2
    cases hg : right t1 with
    | true =>
      rw [hg, if_pos rfl] at hR2
      subst hR2
      rw [hg] at hft
      have HFT := Lib.hid hft
      clear hft hg hR
      go_wp2_with fail
      refine (HFT.out _).mono ?_
      rintro e w2 ⟨rfl, rfl⟩
      go_wp2_with fail
      obtain ⟨z1, z2, z3, _⟩ := HFIN.out _ HN2.out HK2.out
      replace z3 := z3 HA2.out
      unfold set6 at z1 z2 z3
      obtain ⟨q0, q1, q2, q3, q4, q5⟩ := six_cells z1
      exact bodyPost_ret (v := .tuple #[.agg #[.int .i64 t0, .string ⟨t1.toArray⟩, .int .i64 t2, .int .i64 file, .int .i64 t3, .int .i64 t4], .bool true]) (by simp [results, Tryz.results52, go_sem, q0, q1, q2, q3, q4, q5]) rfl ⟨z2, rfl, z3⟩
    | false =>
      rw [hg, if_neg (by simp)] at hR2
      subst hR2
      rw [hg] at hft
      have HFT := Lib.hid hft
      clear hft hg hR
      go_wp2_with fail
      refine (HFT.out _).mono ?_
      rintro e w2 ⟨rfl, rfl⟩
      go_wp2_with fail
      go_region_with (go_at_call 59; refine (HFL.out _ (by exact HA2.out.keeps ((Keeps.refl _ _).drew))).mono ?_; rintro e w4 ⟨rfl, hbad, hk4⟩; have hN4 := HN2.out.drew.keeps hk4 hr0; have hM4 := HM2.out.drew.keeps hk4 hr1; obtain ⟨y0, y1, y2, y3, y4, y5⟩ := six_cells hM4; obtain ⟨v0, v1, v2, v3, v4, v5⟩ := six_cells hN4; obtain ⟨p0, p1, p2, p3, p4, p5⟩ := six_free hN4; have hl4 := hN4.lt)
      all_goals
        go_wp2_with fail
        obtain ⟨z1, z2, _, z3⟩ := HFIN.out _ hN4 (HK2.out.drew.trans hk4 (fun _ _ e => e))
        replace z3 := z3 1 hbad
        unfold set6 at z1 z2 z3
        obtain ⟨q0, q1, q2, q3, q4, q5⟩ := six_cells z1
        exact bodyPost_ret (v := .tuple #[.agg #[.int .i64 t0, .string ⟨t1.toArray⟩, .int .i64 t2, .int .i64 file, .int .i64 t3, .int .i64 t4], .bool false]) (by simp [results, Tryz.results52, go_sem, q0, q1, q2, q3, q4, q5]) rfl ⟨z2, rfl, z3⟩
  · have hkd : decide (t0 = kind) = false := decide_eq_false hk
    have hR2 := hR.out
    rw [if_neg hk] at hR2
    subst hR2
    have HB2 := Lib.hid ((HN.out hkd).alloc (.cells #[.int .i64 t0, .string ⟨t1.toArray⟩, .int .i64 t2, .int .i64 file, .int .i64 t3, .int .i64 t4] 65))
    rw [hkd]
    clear hft hR hk
    go_wp2_with fail
    obtain ⟨z1, z2, _, z3⟩ := HFIN.out _ HN2.out HK2.out
    replace z3 := z3 6 HB2.out
    unfold set6 at z1 z2 z3
    obtain ⟨q0, q1, q2, q3, q4, q5⟩ := six_cells z1
    exact bodyPost_ret (v := .tuple #[.agg #[.int .i64 t0, .string ⟨t1.toArray⟩, .int .i64 t2, .int .i64 file, .int .i64 t3, .int .i64 t4], .bool false]) (by simp [results, Tryz.results52, go_sem, q0, q1, q2, q3, q4, q5]) rfl ⟨z2, rfl, z3⟩
end Go.Proofs.YtofhcgbihonckaaGreat
namespace Go.Proofs.YtofhcgbihonckaaGreat
open Go.RowKit
theorem TokIn.tokAt {B : Nat} {w : World} {v : Value} {file : Int} {L : List Tok} (h : TokIn B w v file L) (hB : B ≤ w.heap.size) (ho : LOk L) : TokAt (fun x => x < w.heap.size) w v (L.map tkX) := by
  obtain ⟨g, cap, rfl, hg, hc⟩ := h
  refine ⟨_, cap, by rw [List.length_map], fun t ht => ?_, fun _ => ⟨g, 0, rfl, by omega, fun j hj => ?_⟩⟩
  · obtain ⟨u, hu, rfl⟩ := List.mem_map.1 ht
    have := ho.text u hu
    show (⟨u.text.toArray⟩ : ByteArray).size ≤ maxLen
    simp [ByteArray.size, maxLen]; omega
  · rw [List.length_map] at hj
    have e0 := hc j hj 0 _ rfl
    have e1 := hc j hj 1 _ rfl
    have e2 := hc j hj 2 _ rfl
    rw [List.getElem_map, show 0 + j * 6 = 6 * j + 0 from by omega]
    exact ⟨e0, e1, e2⟩
theorem exp_Primary (L : List (Int × ByteArray × Int)) (v : Value) (i : Nat) (w : World) (hv : TokAt (fun x => x < w.heap.size) w v L) (hL : L.length ≤ 1000000000) (hi : i < L.length) :
    Calls Tryz.prog 150 #[v, .int .i64 i] w fun e w' => ∃ res, Rd L .prim 0 i res ∧ e = .returned (.tuple #[.int .i64 (outT res).1, .int .i64 (outT res).2.1, .int .i64 (outT res).2.2]) ∧ Below w.heap.size w w' := by
  have h := exp_read_prim L v i w hv hL hi
  go_enter Tryz.func150, Tryz.ntmps150
  go_wp2_with fail
  refine h.mono ?_
  rintro e w' ⟨res, hr, he, hb⟩
  generalize hR : outT res = R at he
  obtain ⟨r1, r2, r3⟩ := R
  subst he
  have HR := Lib.hid hr
  have HE := Lib.hid hR
  clear hr hR
  go_wp2_with fail
  go_ret3
  exact ⟨res, HR.out, by rw [HE.out]; rfl, hb⟩
theorem src_Primary (L : List Tok) (lv : Value) (B i : Nat) (file : Int) (w : World) (h : TokIn B w lv file L) (hB : B ≤ w.heap.size) (ho : LOk L) (hi : i < L.length) :
    Calls Tryz.prog 150 #[lv, .int .i64 i] w fun e w' => e = .returned (.tuple #[.int .i64 (primX L i).1, .int .i64 (primX L i).2.1, .int .i64 (primX L i).2.2]) ∧ Below w.heap.size w w' := by
  refine (exp_Primary (L.map tkX) lv i w (h.tokAt hB ho) (by rw [List.length_map]; have := ho.len; omega) (by rw [List.length_map]; exact hi)).mono ?_
  rintro e w' ⟨res, hr, rfl, hb⟩
  have : outT res = primX L i := by unfold primX; rw [hr.evF trivial]
  rw [this]
  exact ⟨rfl, hb⟩
theorem prim_place {L : List Tok} (ho : LOk L) {i : Nat} (hi : i < L.length) (h : (primX L i).2.2 = 0) : ∃ j : Nat, (primX L i).2.1 = j ∧ i < j ∧ j < L.length := by
  unfold primX at h ⊢
  have hr := evF_rd (L.map tkX) .prim 0 i trivial
  obtain ⟨r, e1, e2⟩ := ev_total (L.map tkX) (40 * (L.map tkX).length + 40) .prim 0 i trivial (by simp only [fuelW]; omega)
  have hE : evF (L.map tkX) .prim 0 i = r := by unfold evF; rw [e1]; rfl
  rw [hE] at h hr ⊢
  cases r with
  | none => simp [outT] at h
  | some q =>
    have hlt := (e2 q rfl).2 rfl
    obtain ⟨ts, t, e, h8⟩ := ho.last
    have hb : q.2.1 ≤ ts.length := by
      refine rd_before hr (k := ts.length) (t := tkX t) ?_ h8 ?_
      · rw [e]; simp
      · rw [e] at hi; simp at hi; omega
    obtain ⟨v, j, p, g, d⟩ := q
    simp only [outT] at h hlt hb ⊢
    refine ⟨j, ?_, hlt, by rw [e]; simp; omega⟩
    cases p <;> cases g <;> cases d <;> simp at h ⊢
end Go.Proofs.YtofhcgbihonckaaGreat
namespace Go.Proofs.YtofhcgbihonckaaGreat
open Go.RowKit
theorem infoByteS : (Tryz.prog.info? 5).map (fun i => (i.zero, i.size, i.bytes)) = some (some (.int .u8 0), 1, 1) := by kernel_rfl
theorem bytes_convS {w : World} {base : Nat} {v : Value} {acc : List UInt8} (h : w.ownsRow base 5 1 v acc.length (Lib.byteCells acc)) :
    (convert 76 9 v).run Tryz.prog w = .ok (.string ⟨acc.toArray⟩) w := by
  rcases h.2 with ⟨rfl, h0⟩ | ⟨g, cap, cur, rfl, hb, hh, hcap, hr⟩
  · have : acc = [] := List.eq_nil_of_length_eq_zero h0
    subst this
    exact run_convert_bytes_nil w _ _ Tryz.underlying76 Tryz.underlying5 0 0 _ Tryz.underlying9
  · refine run_convert_bytes_back w _ _ _ ⟨g, 0, none⟩ cap acc Tryz.underlying76 Tryz.underlying5 Tryz.underlying9 ?_
    intro j hj
    exact h.cells (g := g) rfl j _ (by simp [Lib.byteCells, hj])
def partAgg (p : PartT) (cv : Value) : Value := .agg #[.int .i64 p.kind, cv, .string p.text]
def Agg3 (v : Value) : Prop := ∃ (a : Int) (x : Option Addr) (n c : Nat) (s : ByteArray), v = .agg #[.int .i64 a, .slice x n c, .string s]
def PartOut (R : Rs (Nat × PartT)) (r base : Nat) (file : Int) (L : List Tok) (lv ov : Value) (i : Nat) (D : List DefT) (w : World) (e : Ending) (w' : World) : Prop :=
  Keeps (· = r) w w' ∧ match R with
    | .ok (j, p) => ∃ cv, e = .returned (.tuple #[partAgg p cv, .bool true]) ∧ CellsRow w' w.heap.size cv p.cells ∧ SrcAt w' r base file L lv ov j D ∧ i < j
    | .error (k, c) => ∃ v, e = .returned (.tuple #[v, .bool false]) ∧ Agg3 v ∧ SrcBad w' r file L lv ov k c
def set3 (w : World) (B : Nat) (x0 x1 x2 : Value) : World := ((w.setCell ⟨B, 0, none⟩ x0).setCell ⟨B, 1, none⟩ x1).setCell ⟨B, 2, none⟩ x2
theorem set_three {w : World} {B : Nat} {a b c : Value} {t : TypeId} (h : Holds w B #[a, b, c] t) (x0 x1 x2 : Value) : Holds (set3 w B x0 x1 x2) B #[x0, x1, x2] t := by
  have := ((h.set 0 x0).set 1 x1).set 2 x2
  exact this
theorem set3_keeps {w : World} {a : World} {B : Nat} {S : Nat → Prop} (h : Keeps S a w) (hB : a.heap.size ≤ B ∨ S B) (x0 x1 x2 : Value) : Keeps S a (set3 w B x0 x1 x2) :=
  ((h.setCell (p := ⟨B, 0, none⟩) hB x0).setCell (p := ⟨B, 1, none⟩) hB x1).setCell (p := ⟨B, 2, none⟩) hB x2
theorem set3_other {w : World} {b B : Nat} {cs : Array Value} {t : TypeId} (h : Holds w b cs t) (hne : b ≠ B) (x0 x1 x2 : Value) : Holds (set3 w B x0 x1 x2) b cs t :=
  ((h.other ⟨B, 0, none⟩ x0 hne).other ⟨B, 1, none⟩ x1 hne).other ⟨B, 2, none⟩ x2 hne
theorem three {w : World} {B : Nat} {x0 x1 x2 : Value} {t : TypeId} (h : Holds w B #[x0, x1, x2] t) :
    w.cell? ⟨B, 0, none⟩ = some x0 ∧ w.cell? ⟨B, 1, none⟩ = some x1 ∧ w.cell? ⟨B, 2, none⟩ = some x2 ∧ w.frozen? ⟨B, 0, none⟩ = false ∧ w.frozen? ⟨B, 1, none⟩ = false ∧ w.frozen? ⟨B, 2, none⟩ = false ∧ B < w.heap.size :=
  ⟨h.cell 0, h.cell 1, h.cell 2, h.free 0, h.free 1, h.free 2, h.lt⟩
section
variable {w0 w w' : World} {r base : Nat} {file : Int} {L : List Tok} {lv ov : Value} {i : Nat} {D : List DefT}
theorem SrcAt.from (h : SrcAt w0 r base file L lv ov i D) (k : Keeps (· = r) w0 w) {j : Nat} (hH : Holds w r #[lv, .int .i64 j, ov, .pointer none] 63) (hj : j < L.length) (hij : i ≤ j) : SrcAt w r base file L lv ov j D := h.turn k hH hj hij
theorem SrcAt.step (h : SrcAt w0 r base file L lv ov i D) (hj : i + 1 < L.length) : SrcAt (w0.setCell ⟨r, 1, none⟩ (.int .i64 ((i : Int) + 1))) r base file L lv ov (i + 1) D ∧ Keeps (· = r) w0 (w0.setCell ⟨r, 1, none⟩ (.int .i64 ((i : Int) + 1))) := by
  have k := (Keeps.refl (· = r) w0).setCell (p := ⟨r, 1, none⟩) (.inr rfl) (.int .i64 ((i : Int) + 1))
  have e1 : (i : Int) + 1 = ((i + 1 : Nat) : Int) := by omega
  have hH := h.holds.set 1 (.int .i64 ((i : Int) + 1))
  exact ⟨h.turn k (by rw [← e1]; exact hH) hj (by omega), k⟩
theorem SrcAt.at1 (h : SrcAt w r base file L lv ov i D) : w.cell? ⟨r, 1, none⟩ = some (.int .i64 i) ∧ w.frozen? ⟨r, 1, none⟩ = false ∧ r < w.heap.size ∧ i < 6001 := ⟨h.holds.cell 1, h.holds.free 1, h.holds.lt, by have := h.ok.len; have := h.lt; omega⟩
end
theorem isK_next {L : List Tok} {i : Nat} {kind : Int} {s : List UInt8} (ho : LOk L) (hi : i < L.length) (h : isK L i kind s = true) (hk : kind ≠ 8) : i + 1 < L.length :=
  ho.next hi (by unfold isK at h; simp only [Bool.and_eq_true, decide_eq_true_eq] at h; rw [h.1]; exact hk)
theorem SrcBad.three {w : World} {r B : Nat} {file : Int} {L : List Tok} {lv ov : Value} {k : Nat} {c : Int} {cs : Array Value} (h : SrcBad w r file L lv ov k c) (hB : Holds w B cs 75) (x0 x1 x2 : Value) : SrcBad (set3 w B x0 x1 x2) r file L lv ov k c :=
  h.one hB (by decide) (by decide) (set3_keeps (S := (· = B)) (Keeps.refl _ w) (.inr rfl) x0 x1 x2)
theorem byte_snoc (acc : List UInt8) (v : Int) : Lib.byteCells (acc ++ [(v % 256).toNat.toUInt8]) = Lib.byteCells acc ++ [.int .u8 (v % 256)] := by
  have : (((v % 256).toNat.toUInt8.toNat : Nat) : Int) = v % 256 := by
    show (((UInt8.ofNat (v % 256).toNat).toNat : Nat) : Int) = v % 256
    rw [UInt8.toNat_ofNat', Nat.mod_eq_of_lt (by omega)]; omega
  unfold Lib.byteCells
  rw [List.map_append]
  congr 1
  show [Value.int .u8 (((v % 256).toNat.toUInt8.toNat : Nat) : Int)] = _
  rw [this]
set_option maxRecDepth 100000 in
set_option maxHeartbeats 4000000 in
theorem src_bytes (w : World) (r base : Nat) (file : Int) (L : List Tok) (lv ov : Value) (i : Nat) (D : List DefT) (h : SrcAt w r base file L lv ov i D) :
    Calls Tryz.prog 148 #[.pointer (some ⟨r, 0, none⟩)] w (PartOut (match bytesR L (fuelP L) i [] with | .ok (j, b) => .ok (j, ⟨3, [], ⟨b.toArray⟩⟩) | .error e => .error e) r base file L lv ov i D w) := by
  have hb0 : Below w.heap.size w ((w.alloc (.cells #[.int .i64 0, .slice none 0 0, .string ⟨#[]⟩] 75)).alloc (.cells #[.int .i64 3, .slice none 0 0, .string ⟨#[]⟩] 75)) := ((Below.refl _ _).alloc (Nat.le_refl _) _).alloc (by simp) _
  have hZ0 := (Holds.new w #[.int .i64 0, .slice none 0 0, .string ⟨#[]⟩] 75).alloc (.cells #[.int .i64 3, .slice none 0 0, .string ⟨#[]⟩] 75)
  have hP0 := Holds.newAt (w := w.alloc (.cells #[.int .i64 0, .slice none 0 0, .string ⟨#[]⟩] 75)) (B := w.heap.size + 1) (by simp) #[.int .i64 3, .slice none 0 0, .string ⟨#[]⟩] 75
  have hA0 := h.keeps (Keeps.of_fresh hb0 (fun _ => False))
  have k0 : Keeps (· = r) w _ := Keeps.of_fresh hb0 (· = r)
  have hrl := h.holds.lt
  have hil := h.lt
  have HOK := Lib.hid h.ok
  have hfu : L.length < i + fuelP L := by unfold fuelP; omega
  generalize hN : fuelP L = N at *
  generalize hRR : bytesR L N i [] = RR at *
  have HRR := Lib.hid hRR
  have HH := Lib.hid h
  clear hN hRR h
  go_enter Tryz.func148, Tryz.ntmps148
  go_wp2_with fail
  generalize (w.alloc (.cells #[.int .i64 0, .slice none 0 0, .string ⟨#[]⟩] 75)).alloc (.cells #[.int .i64 3, .slice none 0 0, .string ⟨#[]⟩] 75) = w0 at *
  go_loopg [5] N (fun f x wr => ∃ (j : Nat) (acc : List UInt8), Hid (bytesR L f j acc = RR) ∧ L.length < j + f ∧ i ≤ j ∧ acc.length ≤ j ∧ wr.ownsRow (w.heap.size + 1 + 1) 5 1 x acc.length (Lib.byteCells acc) ∧ SrcAt wr r base file L lv ov j D ∧ Keeps (· = r) w wr ∧
    Holds wr w.heap.size #[.int .i64 0, .slice none 0 0, .string ⟨#[]⟩] 75 ∧ Holds wr (w.heap.size + 1) #[.int .i64 3, .slice none 0 0, .string ⟨#[]⟩] 75)
  case atStart => exact ⟨i, [], HRR, hfu, Nat.le_refl _, Nat.zero_le _, World.ownsRow_nil _ _ _ _, hA0, k0, hZ0, hP0⟩
  case round =>
    obtain ⟨j, acc, hR, hfj, hij, hal, hown, hA, hK, hZ, hP⟩ := hrel
    have hjl := hA.lt
    have hn2 := HOK.out.len
    obtain ⟨f, hf⟩ : ∃ f, gk = f + 1 := ⟨gk - 1, by omega⟩
    have hS := hR.out
    rw [hf, bytesR] at hS
    have hi1 := src_is wr r base file L lv ov j D hA 4 [93]
    go_wp2_with fail
    refine hi1.mono ?_
    rintro e w1 ⟨rfl, hb1⟩
    have kb1 : Keeps (fun _ => False) wr w1 := Keeps.of_fresh hb1 _
    have hA1 := hA.keeps kb1
    have hZ1 := hZ.keeps kb1 (fun e => e)
    have hP1 := hP.keeps kb1 (fun e => e)
    have hK1 := hK.trans kb1 (S := (· = r)) (fun _ _ e => e.elim)
    have hown1 := ownsRow_keeps hown kb1 (fun _ _ e => e)
    have hbw := hK1.size
    have hZl := hZ1.lt
    have hPl := hP1.lt
    clear hi1 hR hb1 hA hZ hP hK hown
    obtain ⟨c1, c1f, crl, cj⟩ := hA1.at1
    have hrz : r ≠ w.heap.size := by omega
    have hrp : r ≠ w.heap.size + 1 := by omega
    cases hk : isK L j 4 [93] with
    | true =>
      rw [hk, if_pos rfl] at hS
      subst hS
      obtain ⟨hA2, k2⟩ := hA1.step (isK_next HOK.out hjl hk (by decide))
      have hown2 := ownsRow_keeps hown1 k2 (fun g hg e => by cases e; exact owns_ne hown1 hA1.holds (by decide) hg)
      have hcv := bytes_convS hown2
      have hZ2 := hZ1.keeps k2 (Ne.symm hrz)
      have hP2 := hP1.keeps k2 (Ne.symm hrp)
      have hK2 := hK1.trans k2 (S := (· = r)) (fun _ _ e => e)
      have hH2 := hA2.holds
      have hij2 : i ≤ j + 1 := by omega
      have HA2 := Lib.hid hA2
      have hlt2 := hA2.lt
      obtain ⟨va, vc, rfl⟩ := row_slice hown2
      obtain ⟨m0, m1, m2, mf0, mf1, mf2, ml⟩ := three hP2
      obtain ⟨n0, n1, n2, nf0, nf1, nf2, nl⟩ := three hZ2
      have HZ2 := Lib.hid hZ2
      have HK2 := Lib.hid hK2
      clear hown1 hown2 hA1 hA2 hZ1 hP1 hK1 k2 kb1 hZ2 hP2 hK2
      go_wp2_with fail
      have z1 := set_three (HZ2.out.other ⟨w.heap.size + 1, 2, none⟩ (.string ⟨acc.toArray⟩) (by simp)) (.int .i64 3) (.slice none 0 0) (.string ⟨acc.toArray⟩)
      have z2 := set3_keeps (HK2.out.setCell (p := ⟨w.heap.size + 1, 2, none⟩) (.inl (by simp)) (.string ⟨acc.toArray⟩)) (B := w.heap.size) (.inl (Nat.le_refl _)) (.int .i64 3) (.slice none 0 0) (.string ⟨acc.toArray⟩)
      have z3 := HH.out.from z2 (set3_other (hH2.other ⟨w.heap.size + 1, 2, none⟩ (.string ⟨acc.toArray⟩) hrp) hrz (.int .i64 3) (.slice none 0 0) (.string ⟨acc.toArray⟩)) hlt2 hij2
      unfold set3 at z1 z2 z3
      obtain ⟨q0, q1, q2, _⟩ := three z1
      exact bodyPost_ret (v := .tuple #[.agg #[.int .i64 3, .slice none 0 0, .string ⟨acc.toArray⟩], .bool true]) (by simp [results, Tryz.results148, go_sem, q0, q1, q2]) rfl ⟨z2, _, rfl, CellsRow.none _ _, z3, by omega⟩
    | false =>
      rw [hk, if_neg (by simp)] at hS
      have ht := src_take w1 r base file L lv ov j D hA1 2 [] (by decide)
      have HFL := Lib.hid (fun wx hx => src_fail wx r base file L lv ov (j + 1) D hx j 2)
      unfold TakeOut at ht
      rw [isK_nil] at ht
      unfold tokAgg at ht HFL
      generalize tkN L j = t at *
      obtain ⟨t0, t1, t2, t3, t4⟩ := t
      simp only at ht HFL hS
      go_wp2_with fail
      refine ht.mono ?_
      rintro e w2 ⟨rfl, hk2, hy2, hn2'⟩
      have hZ2 := hZ1.keeps hk2 (Ne.symm hrz)
      have hP2 := hP1.keeps hk2 (Ne.symm hrp)
      have hK2 := hK1.trans hk2 (S := (· = r)) (fun _ _ e => e)
      have hown2 := ownsRow_keeps hown1 hk2 (fun g hg e => by cases e; exact owns_ne hown1 hA1.holds (by decide) hg)
      have hw2 := hk2.size
      have HY := Lib.hid hy2
      have HN := Lib.hid hn2'
      clear ht hk2 hy2 hn2' hown1 hZ1 hP1 hK1 hA1 c1 c1f kb1
      by_cases h2 : t0 = 2
      · subst h2
        rw [if_neg (by simp)] at hS
        have hA3 := (HY.out (decide_eq_true rfl)).alloc (.cells #[.int .i64 2, .string ⟨t1.toArray⟩, .int .i64 t2, .int .i64 file, .int .i64 t3, .int .i64 t4] 65)
        have hZ3 := hZ2.alloc (.cells #[.int .i64 2, .string ⟨t1.toArray⟩, .int .i64 t2, .int .i64 file, .int .i64 t3, .int .i64 t4] 65)
        have hP3 := hP2.alloc (.cells #[.int .i64 2, .string ⟨t1.toArray⟩, .int .i64 t2, .int .i64 file, .int .i64 t3, .int .i64 t4] 65)
        have hK3 := hK2.alloc (.cells #[.int .i64 2, .string ⟨t1.toArray⟩, .int .i64 t2, .int .i64 file, .int .i64 t3, .int .i64 t4] 65)
        have hM3 := Holds.new w2 #[.int .i64 2, .string ⟨t1.toArray⟩, .int .i64 t2, .int .i64 file, .int .i64 t3, .int .i64 t4] 65
        have hown3 := World.ownsRow.alloc hown2 (.cells #[.int .i64 2, .string ⟨t1.toArray⟩, .int .i64 t2, .int .i64 file, .int .i64 t3, .int .i64 t4] 65)
        obtain ⟨m0, m1, m2, mf0, mf1, mf2, ml⟩ := three hP3
        obtain ⟨n0, n1, n2, nf0, nf1, nf2, nl⟩ := three hZ3
        obtain ⟨y0, y1, y2, y3, y4, y5⟩ := six_cells hM3
        have yl := hM3.lt
        have hw3 := hK3.size
        have hzr : w.heap.size ≠ r := Ne.symm hrz
        have hpr : w.heap.size + 1 ≠ r := Ne.symm hrp
        have hmr : w2.heap.size ≠ r := by omega
        by_cases hv : 255 < t2
        · rw [if_pos hv] at hS
          subst hS
          have HA3 := Lib.hid hA3
          have HZ3 := Lib.hid hZ3
          have HP3 := Lib.hid hP3
          have HM3 := Lib.hid hM3
          have HK3 := Lib.hid hK3
          rw [decide_eq_true rfl]
          clear hZ2 hP2 hK2 hown2 hA3 hZ3 hP3 hK3 hM3 hown3
          go_wp2_with fail
          go_region_with (go_at_call 59; refine (HFL.out _ (by exact HA3.out.keeps ((Keeps.refl _ _).drew))).mono ?_; rintro e w4 ⟨rfl, hbad, hk4⟩; have hZ4 := HZ3.out.drew.keeps hk4 hzr; have hP4 := HP3.out.drew.keeps hk4 hpr; have hM4 := HM3.out.drew.keeps hk4 hmr; obtain ⟨a0, a1, a2, af0, af1, af2, al⟩ := three hZ4; obtain ⟨b0, b1, b2, bf0, bf1, bf2, bl⟩ := three hP4; obtain ⟨d0, d1, d2, d3, d4, d5⟩ := six_cells hM4)
          all_goals
            go_wp2_with fail
            have z1 := set_three hZ4 (.int .i64 3) (.slice none 0 0) (.string ⟨#[]⟩)
            have z2 := set3_keeps (HK3.out.drew.trans hk4 (S := (· = r)) (fun _ _ e => e)) (B := w.heap.size) (.inl (Nat.le_refl _)) (.int .i64 3) (.slice none 0 0) (.string ⟨#[]⟩)
            have z3 := hbad.three hZ4 (.int .i64 3) (.slice none 0 0) (.string ⟨#[]⟩)
            unfold set3 at z1 z2 z3
            obtain ⟨q0, q1, q2, _⟩ := three z1
            exact bodyPost_ret (v := .tuple #[.agg #[.int .i64 3, .slice none 0 0, .string ⟨#[]⟩], .bool false]) (by simp [results, Tryz.results148, go_sem, q0, q1, q2]) rfl ⟨z2, _, rfl, ⟨3, none, 0, 0, ⟨#[]⟩, rfl⟩, z3⟩
        · rw [if_neg hv] at hS
          have hvb : ¬ (255 : Int) < t2 := hv
          have HA3 := Lib.hid hA3
          have HZ3 := Lib.hid hZ3
          have HP3 := Lib.hid hP3
          have HK3 := Lib.hid hK3
          rw [decide_eq_true rfl]
          obtain ⟨va, vc, rfl⟩ := row_slice hown3
          obtain ⟨i0, hi, hz0, hz1, hz2⟩ := info_parts infoByteS
          have hbase : w.heap.size + 1 + 1 ≤ (w2.alloc (.cells #[.int .i64 2, .string ⟨t1.toArray⟩, .int .i64 t2, .int .i64 file, .int .i64 t3, .int .i64 t4] 65)).heap.size := by simp; omega
          have HOWN := Lib.hid (World.ownsRow.alloc hown3 (.cells #[.int .u8 (t2 % 256)] 5))
          have HOW3 := Lib.hid hown3
          clear hZ2 hP2 hK2 hown2 hA3 hZ3 hP3 hK3 hM3 hown3 hv
          go_wp2_with (at_builtin; refine wpList_append_own _ rfl _ _ 76 rfl (w.heap.size + 1 + 1) 5 i0 (.int .u8 0) 1 1 Tryz.underlying76 hi hz0 hz1 hz2 rfl (by decide) _ _ _ rfl (by exact HOWN.out) ⟨w2.heap.size + 1, 0, none⟩ 1 1 [.int .u8 (t2 % 256)] rfl rfl ?c1 ?c2 ?c3 ?c4 ?c5 ?_)
          case c1 => exact new_cells _ _ _ _ (by simp) _ rfl
          case c2 => intro u hu; simp at hu; subst hu; rfl
          case c3 => unfold maxLen; omega
          case c4 => omega
          case c5 => simp; omega
          intro v' w4 hown' hgrow _
          have hk4 : Keeps (· = r) w w4 := (HK3.out.alloc (.cells #[.int .u8 (t2 % 256)] 5)).grown hgrow (fun g hg => by have := (own_lt HOWN.out hg).2.1; left; omega)
          have hog := fun (b : Nat) (xs : Array Value) (t : TypeId) (hx : Holds (w2.alloc (.cells #[.int .i64 2, .string ⟨t1.toArray⟩, .int .i64 t2, .int .i64 file, .int .i64 t3, .int .i64 t4] 65)) b xs t) (hne : t ≠ 5) => (hx.alloc (.cells #[.int .u8 (t2 % 256)] 5)).grown hgrow (owns_ne HOW3.out hx hne)
          have hZ4 := hog _ _ _ HZ3.out (by decide)
          have hP4 := hog _ _ _ HP3.out (by decide)
          have hH4 := hog _ _ _ HA3.out.holds (by decide)
          have hA4 := HH.out.from hk4 hH4 HA3.out.lt (by omega)
          have hown4 : w4.ownsRow (w.heap.size + 1 + 1) 5 1 v' (acc ++ [(t2 % 256).toNat.toUInt8]).length (Lib.byteCells (acc ++ [(t2 % 256).toNat.toUInt8])) := by
            rw [byte_snoc acc t2, List.length_append]
            exact hown'
          have HA4 := Lib.hid hA4
          have HZ4 := Lib.hid hZ4
          have HP4 := Lib.hid hP4
          have HK4 := Lib.hid hk4
          have HS := Lib.hid hS
          have HO4 := Lib.hid hown4
          obtain ⟨va', vc', rfl⟩ := row_slice hown4
          clear hown' hgrow hog hZ4 hP4 hH4 hA4 hk4 hown4 hS HOWN HOW3 hbase
          go_wp2_with fail
          go_roundg (gk - 1)
          case measure => omega
          case rel =>
            refine ⟨j + 1, _, ?_, by omega, by omega, by simp; omega, HO4.out, HA4.out, HK4.out, HZ4.out, HP4.out⟩
            rw [hf, Nat.add_sub_cancel]
            exact HS
      · rw [if_pos h2] at hS
        subst hS
        rw [decide_eq_false h2]
        have HB := Lib.hid ((HN.out (decide_eq_false h2)).alloc (.cells #[.int .i64 t0, .string ⟨t1.toArray⟩, .int .i64 t2, .int .i64 file, .int .i64 t3, .int .i64 t4] 65))
        have hZ3 := hZ2.alloc (.cells #[.int .i64 t0, .string ⟨t1.toArray⟩, .int .i64 t2, .int .i64 file, .int .i64 t3, .int .i64 t4] 65)
        have hP3 := hP2.alloc (.cells #[.int .i64 t0, .string ⟨t1.toArray⟩, .int .i64 t2, .int .i64 file, .int .i64 t3, .int .i64 t4] 65)
        have HK3 := Lib.hid (hK2.alloc (.cells #[.int .i64 t0, .string ⟨t1.toArray⟩, .int .i64 t2, .int .i64 file, .int .i64 t3, .int .i64 t4] 65))
        obtain ⟨m0, m1, m2, mf0, mf1, mf2, ml⟩ := three hP3
        obtain ⟨n0, n1, n2, nf0, nf1, nf2, nl⟩ := three hZ3
        have HZ3 := Lib.hid hZ3
        clear hZ2 hP2 hK2 hown2 hZ3 hP3 h2
        go_wp2_with fail
        have z1 := set_three HZ3.out (.int .i64 3) (.slice none 0 0) (.string ⟨#[]⟩)
        have z2 := set3_keeps HK3.out (B := w.heap.size) (.inl (Nat.le_refl _)) (.int .i64 3) (.slice none 0 0) (.string ⟨#[]⟩)
        have z3 := HB.out.three HZ3.out (.int .i64 3) (.slice none 0 0) (.string ⟨#[]⟩)
        unfold set3 at z1 z2 z3
        obtain ⟨q0, q1, q2, _⟩ := three z1
        exact bodyPost_ret (v := .tuple #[.agg #[.int .i64 3, .slice none 0 0, .string ⟨#[]⟩], .bool false]) (by simp [results, Tryz.results148, go_sem, q0, q1, q2]) rfl ⟨z2, _, rfl, ⟨3, none, 0, 0, ⟨#[]⟩, rfl⟩, z3⟩
end Go.Proofs.YtofhcgbihonckaaGreat
namespace Go.Proofs.YtofhcgbihonckaaGreat
open Go.RowKit
theorem infoCell : (Tryz.prog.info? 72).map (fun i => (i.zero, i.size, i.bytes)) = some (some (.agg #[.int .i64 0, .string ⟨#[]⟩]), 2, 24) := by kernel_rfl
theorem tells_label : TellsT 53 labelT := ⟨enters_of Tryz.func53 (by kernel_rfl) rfl, fun s w hs => token_Label s w (by unfold maxLen; omega)⟩
set_option maxRecDepth 100000 in
set_option maxHeartbeats 8000000 in
theorem src_cells (w : World) (r base : Nat) (file : Int) (L : List Tok) (lv ov : Value) (i : Nat) (D : List DefT) (h : SrcAt w r base file L lv ov i D) :
    Calls Tryz.prog 147 #[.pointer (some ⟨r, 0, none⟩)] w (PartOut (match cellsR L (fuelP L) i [] with | .ok (j, b) => .ok (j, ⟨1, b, ⟨#[]⟩⟩) | .error e => .error e) r base file L lv ov i D w) := by
  have hb0 : Below w.heap.size w ((w.alloc (.cells #[.int .i64 0, .slice none 0 0, .string ⟨#[]⟩] 75)).alloc (.cells #[.int .i64 1, .slice none 0 0, .string ⟨#[]⟩] 75)) := ((Below.refl _ _).alloc (Nat.le_refl _) _).alloc (by simp) _
  have hZ0 := (Holds.new w #[.int .i64 0, .slice none 0 0, .string ⟨#[]⟩] 75).alloc (.cells #[.int .i64 1, .slice none 0 0, .string ⟨#[]⟩] 75)
  have hP0 := Holds.newAt (w := w.alloc (.cells #[.int .i64 0, .slice none 0 0, .string ⟨#[]⟩] 75)) (B := w.heap.size + 1) (by simp) #[.int .i64 1, .slice none 0 0, .string ⟨#[]⟩] 75
  have hA0 := h.keeps (Keeps.of_fresh hb0 (fun _ => False))
  have k0 : Keeps (· = r) w _ := Keeps.of_fresh hb0 (· = r)
  obtain ⟨gL, cL, rfl, _⟩ := id h.toks
  have hrl := h.holds.lt
  have hil := h.lt
  have hbsz := h.size
  have HOK := Lib.hid h.ok
  have hfu : L.length < i + fuelP L := by unfold fuelP; omega
  generalize hN : fuelP L = N at *
  generalize hRR : cellsR L N i [] = RR at *
  have HRR := Lib.hid hRR
  have HH := Lib.hid h
  clear hN hRR h
  go_enter Tryz.func147, Tryz.ntmps147
  go_wp2_with fail
  generalize (w.alloc (.cells #[.int .i64 0, .slice none 0 0, .string ⟨#[]⟩] 75)).alloc (.cells #[.int .i64 1, .slice none 0 0, .string ⟨#[]⟩] 75) = w0 at *
  go_loopg [] N (fun f wr => ∃ (j : Nat) (acc : List CellT) (cv : Value), Hid (cellsR L f j acc = RR) ∧ L.length < j + f ∧ i ≤ j ∧ acc.length ≤ j ∧ CellsRow wr (w.heap.size + 1 + 1) cv acc ∧ SrcAt wr r base file L (.slice (some ⟨gL, 0, none⟩) L.length cL) ov j D ∧ Keeps (· = r) w wr ∧
    Holds wr w.heap.size #[.int .i64 0, .slice none 0 0, .string ⟨#[]⟩] 75 ∧ Holds wr (w.heap.size + 1) #[.int .i64 1, cv, .string ⟨#[]⟩] 75)
  case atStart => exact ⟨i, [], .slice none 0 0, HRR, hfu, Nat.le_refl _, Nat.zero_le _, CellsRow.none _ _, hA0, k0, hZ0, hP0⟩
  case round =>
    obtain ⟨j, acc, cv, hR, hfj, hij, hal, hown, hA, hK, hZ, hP⟩ := hrel
    obtain ⟨va, vc, rfl⟩ := row_slice hown
    have hjl := hA.lt
    have hn2 := HOK.out.len
    obtain ⟨f, hf⟩ : ∃ f, gk = f + 1 := ⟨gk - 1, by omega⟩
    have hS := hR.out
    rw [hf, cellsR] at hS
    have hi1 := src_is wr r base file L (.slice (some ⟨gL, 0, none⟩) L.length cL) ov j D hA 4 [62]
    go_wp2_with fail
    refine hi1.mono ?_
    rintro e w1 ⟨rfl, hb1⟩
    have kb1 : Keeps (fun _ => False) wr w1 := Keeps.of_fresh hb1 _
    have hA1 := hA.keeps kb1
    have hZ1 := hZ.keeps kb1 (fun e => e)
    have hP1 := hP.keeps kb1 (fun e => e)
    have hK1 := hK.trans kb1 (S := (· = r)) (fun _ _ e => e.elim)
    have hown1 := ownsRow_keeps hown kb1 (fun _ _ e => e)
    have hbw := hK1.size
    have hZl := hZ1.lt
    have hPl := hP1.lt
    clear hi1 hR hb1 hA hZ hP hK hown
    obtain ⟨c1, c1f, crl, cj⟩ := hA1.at1
    have hrz : r ≠ w.heap.size := by omega
    have hrp : r ≠ w.heap.size + 1 := by omega
    cases hk : isK L j 4 [62] with
    | true =>
      rw [hk, if_pos rfl] at hS
      subst hS
      obtain ⟨hA2, k2⟩ := hA1.step (isK_next HOK.out hjl hk (by decide))
      have hown2 := ownsRow_keeps hown1 k2 (fun g hg e => by cases e; exact owns_ne hown1 hA1.holds (by decide) hg)
      have hZ2 := hZ1.keeps k2 (Ne.symm hrz)
      have hP2 := hP1.keeps k2 (Ne.symm hrp)
      have hK2 := hK1.trans k2 (S := (· = r)) (fun _ _ e => e)
      have hH2 := hA2.holds
      have hlt2 := hA2.lt
      obtain ⟨m0, m1, m2, mf0, mf1, mf2, ml⟩ := three hP2
      obtain ⟨n0, n1, n2, nf0, nf1, nf2, nl⟩ := three hZ2
      have HZ2 := Lib.hid hZ2
      have HK2 := Lib.hid hK2
      have HO2 := Lib.hid (row_base hown2 (show w.heap.size ≤ w.heap.size + 1 + 1 by omega))
      have HOW := Lib.hid hown2
      clear hown1 hown2 hA1 hA2 hZ1 hP1 hK1 k2 kb1 hZ2 hP2 hK2
      go_wp2_with fail
      have z1 := set_three HZ2.out (.int .i64 1) (.slice va acc.length vc) (.string ⟨#[]⟩)
      have z2 := set3_keeps HK2.out (B := w.heap.size) (.inl (Nat.le_refl _)) (.int .i64 1) (.slice va acc.length vc) (.string ⟨#[]⟩)
      have z3 := HH.out.from z2 (set3_other hH2 hrz (.int .i64 1) (.slice va acc.length vc) (.string ⟨#[]⟩)) hlt2 (by omega)
      have z4 := ownsRow_keeps HO2.out (set3_keeps (S := (· = w.heap.size)) (Keeps.refl _ _) (.inr rfl) (.int .i64 1) (.slice va acc.length vc) (.string ⟨#[]⟩)) (fun g hg e => by have := (own_lt HOW.out hg).2.1; omega)
      unfold set3 at z4
      unfold set3 at z1 z2 z3
      obtain ⟨q0, q1, q2, _⟩ := three z1
      exact bodyPost_ret (v := .tuple #[.agg #[.int .i64 1, .slice va acc.length vc, .string ⟨#[]⟩], .bool true]) (by simp [results, Tryz.results147, go_sem, q0, q1, q2]) rfl ⟨z2, _, rfl, z4, z3, by omega⟩
    | false =>
      rw [hk, if_neg (by simp)] at hS
      have hnx := src_next w1 r base file L (.slice (some ⟨gL, 0, none⟩) L.length cL) ov j D hA1
      have HTK := Lib.hid (fun wx hx => src_taken wx r base file L (.slice (some ⟨gL, 0, none⟩) L.length cL) ov j D hx 6 (by decide) 53 labelT tells_label)
      have htr : takenR L 6 labelT j = if (tkN L j).kind = 6 then (if labelT (tkN L j).text = true then .ok (j + 1) else .error (j, 1)) else .error (j, 6) := rfl
      have HFL := Lib.hid (fun wx hx c => src_fail wx r base file L (.slice (some ⟨gL, 0, none⟩) L.length cL) ov j D hx j c)
      have HPR := Lib.hid (fun (wx : World) (hx : SrcAt wx r base file L (.slice (some ⟨gL, 0, none⟩) L.length cL) ov j D) => src_Primary L (.slice (some ⟨gL, 0, none⟩) L.length cL) base j file wx hx.toks hx.size HOK.out hjl)
      have HPP := Lib.hid (prim_place HOK.out hjl)
      have hnx6 := HOK.out.next hjl
      unfold txN at hS
      unfold TakenOut at HTK
      unfold tokAgg at hnx HTK HFL
      rw [htr] at HTK
      clear htr
      generalize tkN L j = t at *
      obtain ⟨t0, t1, t2, t3, t4⟩ := t
      simp only at hnx HTK HFL hS hnx6
      go_wp2_with fail
      refine hnx.mono ?_
      rintro e w2 ⟨rfl, hb2⟩
      have k2 : Keeps (fun _ => False) w1 (w2.alloc (.cells #[.int .i64 t0, .string ⟨t1.toArray⟩, .int .i64 t2, .int .i64 file, .int .i64 t3, .int .i64 t4] 65)) := (Keeps.of_fresh hb2 (fun _ => False)).alloc (.cells #[.int .i64 t0, .string ⟨t1.toArray⟩, .int .i64 t2, .int .i64 file, .int .i64 t3, .int .i64 t4] 65)
      have HA := Lib.hid (hA1.keeps k2)
      have HZ := Lib.hid (hZ1.keeps k2 (fun e => e))
      have HP := Lib.hid (hP1.keeps k2 (fun e => e))
      have HK := Lib.hid (hK1.trans k2 (S := (· = r)) (fun _ _ e => e.elim))
      have HR := Lib.hid (ownsRow_keeps hown1 k2 (fun _ _ e => e))
      have HM := Lib.hid (Holds.new w2 #[.int .i64 t0, .string ⟨t1.toArray⟩, .int .i64 t2, .int .i64 file, .int .i64 t3, .int .i64 t4] 65)
      have HB := Lib.hid (show w.heap.size + 1 + 1 ≤ (w2.alloc (.cells #[.int .i64 t0, .string ⟨t1.toArray⟩, .int .i64 t2, .int .i64 file, .int .i64 t3, .int .i64 t4] 65)).heap.size by have := k2.size; omega)
      obtain ⟨B, hB⟩ : ∃ z, z = w2.heap.size := ⟨_, rfl⟩
      have hBr : B ≠ r := by have := hb2.size; omega
      have hBz : w.heap.size + 1 + 1 ≤ B := by have := hb2.size; omega
      have hzr : w.heap.size ≠ r := Ne.symm hrz
      have hpr : w.heap.size + 1 ≠ r := Ne.symm hrp
      rw [← hB] at HM
      clear hnx hb2 k2 hA1 hZ1 hP1 hK1 hown1 kb1 c1 c1f
      by_cases h6 : t0 = 6
      · subst h6
        obtain ⟨y0, y1, y2, y3, y4, y5⟩ := six_cells HM.out
        rw [hB] at y0 y1 y2 y3 y4 y5
        cases hg : labelT t1 with
        | true =>
          rw [hg, if_pos rfl, if_pos rfl] at hS
          go_wp2_with fail
          refine (HTK.out _ HA.out).mono ?_
          rintro e w3 ⟨hk3, hm⟩
          simp only [reduceIte, hg] at hm
          obtain ⟨rfl, hA3⟩ := hm
          have hZ3 := HZ.out.keeps hk3 hzr
          have hP3 := HP.out.keeps hk3 hpr
          have hM3 := HM.out.keeps hk3 hBr
          have hK3 := HK.out.trans hk3 (S := (· = r)) (fun _ _ e => e)
          have hR3 := ownsRow_keeps HR.out hk3 (fun g hg e => by cases e; exact owns_ne HR.out HA.out.holds (by decide) hg)
          have HZ := Lib.hid (hZ3.alloc (.cells #[.int .i64 6, .string ⟨t1.toArray⟩, .int .i64 t2, .int .i64 file, .int .i64 t3, .int .i64 t4] 65))
          have HP := Lib.hid (hP3.alloc (.cells #[.int .i64 6, .string ⟨t1.toArray⟩, .int .i64 t2, .int .i64 file, .int .i64 t3, .int .i64 t4] 65))
          have HM := Lib.hid (hM3.alloc (.cells #[.int .i64 6, .string ⟨t1.toArray⟩, .int .i64 t2, .int .i64 file, .int .i64 t3, .int .i64 t4] 65))
          have HK := Lib.hid (hK3.alloc (.cells #[.int .i64 6, .string ⟨t1.toArray⟩, .int .i64 t2, .int .i64 file, .int .i64 t3, .int .i64 t4] 65))
          have HA := Lib.hid (hA3.alloc (.cells #[.int .i64 6, .string ⟨t1.toArray⟩, .int .i64 t2, .int .i64 file, .int .i64 t3, .int .i64 t4] 65))
          have HR := Lib.hid (World.ownsRow.alloc hR3 (.cells #[.int .i64 6, .string ⟨t1.toArray⟩, .int .i64 t2, .int .i64 file, .int .i64 t3, .int .i64 t4] 65))
          have HB := Lib.hid (show w.heap.size + 1 + 1 ≤ w3.heap.size + 1 by have := hk3.size; have := HB.out; omega)
          clear hZ3 hP3 hM3 hK3 hR3 hA3 hk3 HTK HFL HPR HPP y0 y1 y2 y3 y4 y5 hg hnx6
          obtain ⟨y0, y1, y2, y3, y4, y5⟩ := six_cells HM.out
          rw [hB] at y0 y1 y2 y3 y4 y5
          have HOWN := Lib.hid (World.ownsRow.alloc HR.out (.cells #[.int .i64 0, .string ⟨t1.toArray⟩] 72))
          obtain ⟨i0, hi, hz0, hz1, hz2⟩ := info_parts infoCell
          have hbase : w.heap.size + 1 + 1 ≤ w3.heap.size + 1 := HB.out
          have crl := HA.out.holds.lt
          obtain ⟨m0, m1, m2, mf0, mf1, mf2, ml⟩ := three HP.out
          go_wp2_with (at_builtin; refine wpList_append_own _ rfl _ _ 73 rfl (w.heap.size + 1 + 1) 72 i0 _ 2 24 Tryz.underlying73 hi hz0 hz1 hz2 rfl (by decide) _ _ _ rfl (by exact HOWN.out) ⟨w3.heap.size + 1, 0, none⟩ 1 1 [.int .i64 0, .string ⟨t1.toArray⟩] rfl rfl (new_cells _ _ _ _ (by simp) _ rfl) (by intro u hu; simp only [List.mem_cons, List.not_mem_nil, or_false] at hu; rcases hu with rfl | rfl <;> rfl) (by unfold maxLen; omega) (by omega) (by simp; omega) ?_)
          intro v' w9 hown' hgrow _
          obtain ⟨va', vc', rfl⟩ := row_slice hown'
          have hk9 : Keeps (· = r) w w9 := (HK.out.alloc (.cells #[.int .i64 0, .string ⟨t1.toArray⟩] 72)).grown hgrow (fun g hg => by have := (own_lt HOWN.out hg).2.1; left; omega)
          have hog := fun (b : Nat) (xs : Array Value) (t : TypeId) (hx : Holds (w3.alloc (.cells #[.int .i64 6, .string ⟨t1.toArray⟩, .int .i64 t2, .int .i64 file, .int .i64 t3, .int .i64 t4] 65)) b xs t) (hne : t ≠ 72) => (hx.alloc (.cells #[.int .i64 0, .string ⟨t1.toArray⟩] 72)).grown hgrow (owns_ne HR.out hx hne)
          have hZ9 := hog _ _ _ HZ.out (by decide)
          have hP9 := hog _ _ _ HP.out (by decide)
          have hH9 := hog _ _ _ HA.out.holds (by decide)
          obtain ⟨mm0, mm1, mm2, mg0, mg1, mg2, mgl⟩ := three hP9
          have hrow9 : CellsRow w9 (w.heap.size + 1 + 1) (.slice va' (acc.length + 1) vc') (acc ++ [⟨0, ⟨t1.toArray⟩⟩]) := by
            unfold CellsRow
            rw [cellCells_snoc, List.length_append]
            exact hown'
          have hP10 := hP9.set 1 (.slice va' (acc.length + 1) vc')
          have k10 := (Keeps.refl (· = w.heap.size + 1) w9).setCell (p := ⟨w.heap.size + 1, 1, none⟩) (.inr rfl) (.slice va' (acc.length + 1) vc')
          have hrow10 := ownsRow_keeps hrow9 k10 (fun g hg e => by have := (own_lt hrow9 hg).2.1; omega)
          have hZ10 := hZ9.keeps k10 (by omega)
          have hH10 := hH9.keeps k10 hrp
          have hk10 := hk9.setCell (p := ⟨w.heap.size + 1, 1, none⟩) (.inl (by simp)) (.slice va' (acc.length + 1) vc')
          have HROW := Lib.hid hrow10
          have HP10 := Lib.hid hP10
          have HZ10 := Lib.hid hZ10
          have HH10 := Lib.hid hH10
          have HK10 := Lib.hid hk10
          have HS := Lib.hid hS
          have hr10 := hH10.cell 1
          have hrf10 := hH10.free 1
          have hrl10 := hH10.lt
          clear hown' hgrow hog hZ9 hP9 hH9 hk9 hrow9 hP10 k10 hrow10 hZ10 hH10 hk10 hS HOWN m0 m1 m2 mf0 mf1 mf2 ml hbase
          go_wp2_with fail
          go_roundg (gk - 1)
          case measure => omega
          case rel =>
            refine ⟨j + 1, _, _, ?_, by omega, by omega, by simp; omega, HROW.out, HH.out.from HK10.out HH10.out HA.out.lt (by omega), HK10.out, HZ10.out, HP10.out⟩
            rw [hf, Nat.add_sub_cancel]
            exact HS
        | false =>
          rw [hg, if_pos rfl, if_neg (by simp)] at hS
          subst hS
          go_wp2_with fail
          refine (HTK.out _ HA.out).mono ?_
          rintro e w3 ⟨hk3, hm⟩
          simp only [reduceIte, hg, Bool.false_eq_true] at hm
          obtain ⟨rfl, hbad⟩ := hm
          have hZ3 := (HZ.out.keeps hk3 hzr).alloc (.cells #[.int .i64 6, .string ⟨t1.toArray⟩, .int .i64 t2, .int .i64 file, .int .i64 t3, .int .i64 t4] 65)
          have hP3 := (HP.out.keeps hk3 hpr).alloc (.cells #[.int .i64 6, .string ⟨t1.toArray⟩, .int .i64 t2, .int .i64 file, .int .i64 t3, .int .i64 t4] 65)
          have hK3 := (HK.out.trans hk3 (S := (· = r)) (fun _ _ e => e)).alloc (.cells #[.int .i64 6, .string ⟨t1.toArray⟩, .int .i64 t2, .int .i64 file, .int .i64 t3, .int .i64 t4] 65)
          have hbad3 := hbad.alloc (.cells #[.int .i64 6, .string ⟨t1.toArray⟩, .int .i64 t2, .int .i64 file, .int .i64 t3, .int .i64 t4] 65)
          have HZ := Lib.hid hZ3
          have HK := Lib.hid hK3
          have HBD := Lib.hid hbad3
          obtain ⟨m0, m1, m2, mf0, mf1, mf2, ml⟩ := three hP3
          obtain ⟨n0, n1, n2, nf0, nf1, nf2, nl⟩ := three hZ3
          clear hZ3 hP3 hK3 hbad3 hbad hk3 HTK HFL HPR HPP y0 y1 y2 y3 y4 y5 hg hnx6
          go_wp2_with fail
          have z1 := set_three HZ.out (.int .i64 1) (.slice va acc.length vc) (.string ⟨#[]⟩)
          have z2 := set3_keeps HK.out (B := w.heap.size) (.inl (Nat.le_refl _)) (.int .i64 1) (.slice va acc.length vc) (.string ⟨#[]⟩)
          have z3 := HBD.out.three HZ.out (.int .i64 1) (.slice va acc.length vc) (.string ⟨#[]⟩)
          unfold set3 at z1 z2 z3
          obtain ⟨q0, q1, q2, _⟩ := three z1
          exact bodyPost_ret (v := .tuple #[.agg #[.int .i64 1, .slice va acc.length vc, .string ⟨#[]⟩], .bool false]) (by simp [results, Tryz.results147, go_sem, q0, q1, q2]) rfl ⟨z2, _, rfl, ⟨1, va, acc.length, vc, ⟨#[]⟩, rfl⟩, z3⟩
      · rw [if_neg h6] at hS
        obtain ⟨y0, y1, y2, y3, y4, y5⟩ := six_cells HM.out
        rw [hB] at y0 y1 y2 y3 y4 y5
        generalize primX L j = PX at *
        obtain ⟨p1, p2, p3⟩ := PX
        simp only at hS HPR HPP
        have c0 := HA.out.holds.cell 0
        have c1 := HA.out.holds.cell 1
        have crl := HA.out.holds.lt
        clear HTK hnx6
        go_wp2_with fail
        go_region_with (go_at_call 150; refine (HPR.out _ (by exact HA.out.keeps ((Keeps.refl _ _).drew))).mono ?_; rintro e w3 ⟨rfl, hb3⟩)
        all_goals
          have kb3 : Keeps (fun _ => False) (w2.alloc (.cells #[.int .i64 t0, .string ⟨t1.toArray⟩, .int .i64 t2, .int .i64 file, .int .i64 t3, .int .i64 t4] 65)) w3 := ((Keeps.refl (fun _ => False) (w2.alloc (.cells #[.int .i64 t0, .string ⟨t1.toArray⟩, .int .i64 t2, .int .i64 file, .int .i64 t3, .int .i64 t4] 65))).drew).trans (Keeps.of_fresh hb3 (fun _ => False)) (fun _ _ e => e)
          have hAn := HA.out.keeps kb3
          have HB := Lib.hid (show w.heap.size + 1 + 1 ≤ w3.heap.size from Nat.le_trans HB.out kb3.size)
          have HZ := Lib.hid (HZ.out.keeps kb3 (fun e => e))
          have HP := Lib.hid (HP.out.keeps kb3 (fun e => e))
          have HM := Lib.hid (HM.out.keeps kb3 (fun e => e))
          have HK := Lib.hid (HK.out.trans kb3 (S := (· = r)) (fun _ _ e => e.elim))
          have HR := Lib.hid (ownsRow_keeps HR.out kb3 (fun _ _ e => e))
          have HA := Lib.hid hAn
          clear hb3 kb3 hAn c0 c1 y0 y1 y2 y3 y4 y5 crl
          have crl := HA.out.holds.lt
          by_cases h0 : p3 = 0
          · subst h0
            rw [if_neg (by simp)] at hS
            obtain ⟨k, rfl, hjk, hkL⟩ := HPP.out rfl
            simp only [Int.toNat_natCast] at hS
            have HOWN := Lib.hid (World.ownsRow.alloc HR.out (.cells #[.int .i64 p1, .string ⟨#[]⟩] 72))
            obtain ⟨i0, hi, hz0, hz1, hz2⟩ := info_parts infoCell
            have hbase : w.heap.size + 1 + 1 ≤ w3.heap.size := HB.out
            have crl := HA.out.holds.lt
            obtain ⟨m0, m1, m2, mf0, mf1, mf2, ml⟩ := three HP.out
            go_wp2_with (at_builtin; refine wpList_append_own _ rfl _ _ 73 rfl (w.heap.size + 1 + 1) 72 i0 _ 2 24 Tryz.underlying73 hi hz0 hz1 hz2 rfl (by decide) _ _ _ rfl (by exact HOWN.out) ⟨w3.heap.size, 0, none⟩ 1 1 [.int .i64 p1, .string ⟨#[]⟩] rfl rfl (new_cells _ _ _ _ (by simp) _ rfl) (by intro u hu; simp only [List.mem_cons, List.not_mem_nil, or_false] at hu; rcases hu with rfl | rfl <;> rfl) (by unfold maxLen; omega) (by omega) (by simp; omega) ?_)
            intro v' w9 hown' hgrow _
            obtain ⟨va', vc', rfl⟩ := row_slice hown'
            have hk9 : Keeps (· = r) w w9 := (HK.out.alloc (.cells #[.int .i64 p1, .string ⟨#[]⟩] 72)).grown hgrow (fun g hg => by have := (own_lt HOWN.out hg).2.1; left; omega)
            have hog := fun (b : Nat) (xs : Array Value) (t : TypeId) (hx : Holds w3 b xs t) (hne : t ≠ 72) => (hx.alloc (.cells #[.int .i64 p1, .string ⟨#[]⟩] 72)).grown hgrow (owns_ne HR.out hx hne)
            have hZ9 := hog _ _ _ HZ.out (by decide)
            have hP9 := hog _ _ _ HP.out (by decide)
            have hH9 := hog _ _ _ HA.out.holds (by decide)
            obtain ⟨mm0, mm1, mm2, mg0, mg1, mg2, mgl⟩ := three hP9
            have hrow9 : CellsRow w9 (w.heap.size + 1 + 1) (.slice va' (acc.length + 1) vc') (acc ++ [⟨p1, ⟨#[]⟩⟩]) := by
              unfold CellsRow
              rw [cellCells_snoc, List.length_append]
              exact hown'
            have hP10 := hP9.set 1 (.slice va' (acc.length + 1) vc')
            have k10 := (Keeps.refl (· = w.heap.size + 1) w9).setCell (p := ⟨w.heap.size + 1, 1, none⟩) (.inr rfl) (.slice va' (acc.length + 1) vc')
            have hrow10 := ownsRow_keeps hrow9 k10 (fun g hg e => by have := (own_lt hrow9 hg).2.1; omega)
            have hZ10 := hZ9.keeps k10 (by omega)
            have hH10 := hH9.keeps k10 hrp
            have hk10 := hk9.setCell (p := ⟨w.heap.size + 1, 1, none⟩) (.inl (by simp)) (.slice va' (acc.length + 1) vc')
            have HROW := Lib.hid hrow10
            have HP10 := Lib.hid hP10
            have HZ10 := Lib.hid hZ10
            have HH10 := Lib.hid hH10
            have HK10 := Lib.hid hk10
            have HS := Lib.hid hS
            have hr10 := hH10.cell 1
            have hrf10 := hH10.free 1
            have hrl10 := hH10.lt
            clear hown' hgrow hog hZ9 hP9 hH9 hk9 hrow9 hP10 k10 hrow10 hZ10 hH10 hk10 hS HOWN m0 m1 m2 mf0 mf1 mf2 ml hbase
            go_wp2_with fail
            have kf := (Keeps.refl (· = r) (w9.setCell ⟨w.heap.size + 1, 1, none⟩ (.slice va' (acc.length + 1) vc'))).setCell (p := ⟨r, 1, none⟩) (.inr rfl) (.int .i64 (k : Int))
            have hrow11 := ownsRow_keeps HROW.out kf (fun g hg e => by cases e; exact owns_ne HROW.out HH10.out (by decide) hg)
            have hH11 := HH10.out.set 1 (.int .i64 (k : Int))
            have hK11 := HK10.out.trans kf (S := (· = r)) (fun _ _ e => e)
            have hZ11 := HZ10.out.keeps kf hzr
            have hP11 := HP10.out.keeps kf hpr
            have hA11 := HH.out.from hK11 hH11 hkL (by omega)
            go_roundg (gk - 1)
            case measure => omega
            case rel =>
              refine ⟨k, _, _, ?_, by omega, by omega, by simp; omega, hrow11, hA11, hK11, hZ11, hP11⟩
              rw [hf, Nat.add_sub_cancel]
              exact HS
          · rw [if_pos h0] at hS
            subst hS
            have h0b : (p3 != 0) = true := by simpa using h0
            have h0n : ¬ p3 = 0 := h0
            clear h0
            obtain ⟨y0, y1, y2, y3, y4, y5⟩ := six_cells HM.out
            rw [hB] at y0 y1 y2 y3 y4 y5
            obtain ⟨m0, m1, m2, mf0, mf1, mf2, ml⟩ := three HP.out
            have HFL3 := Lib.hid (fun wx hx => HFL.out wx hx p3)
            go_wp2_with fail
            go_region_with (go_at_call 59; refine (HFL3.out _ (by exact HA.out.keeps ((Keeps.refl _ _).drew))).mono ?_; rintro e w4 ⟨rfl, hbad, hk4⟩; have hZ4 := HZ.out.drew.keeps hk4 hzr; have hP4 := HP.out.drew.keeps hk4 hpr; have hM4 := HM.out.drew.keeps hk4 hBr; obtain ⟨a0, a1, a2, af0, af1, af2, al⟩ := three hZ4; obtain ⟨b0, b1, b2, bf0, bf1, bf2, bl⟩ := three hP4; obtain ⟨d0, d1, d2, d3, d4, d5⟩ := six_cells hM4; rw [hB] at d0 d1 d2 d3 d4 d5)
            all_goals
              go_wp2_with fail
              have z1 := set_three hZ4 (.int .i64 1) (.slice va acc.length vc) (.string ⟨#[]⟩)
              have z2 := set3_keeps (HK.out.drew.trans hk4 (S := (· = r)) (fun _ _ e => e)) (B := w.heap.size) (.inl (Nat.le_refl _)) (.int .i64 1) (.slice va acc.length vc) (.string ⟨#[]⟩)
              have z3 := hbad.three hZ4 (.int .i64 1) (.slice va acc.length vc) (.string ⟨#[]⟩)
              unfold set3 at z1 z2 z3
              obtain ⟨q0, q1, q2, _⟩ := three z1
              exact bodyPost_ret (v := .tuple #[.agg #[.int .i64 1, .slice va acc.length vc, .string ⟨#[]⟩], .bool false]) (by simp [results, Tryz.results147, go_sem, q0, q1, q2]) rfl ⟨z2, _, rfl, ⟨1, va, acc.length, vc, ⟨#[]⟩, rfl⟩, z3⟩
end Go.Proofs.YtofhcgbihonckaaGreat
namespace Go.Proofs.YtofhcgbihonckaaGreat
open Go.RowKit
set_option maxRecDepth 100000 in
set_option maxHeartbeats 8000000 in
theorem src_part (w : World) (r base : Nat) (file : Int) (L : List Tok) (lv ov : Value) (i : Nat) (D : List DefT) (h : SrcAt w r base file L lv ov i D) :
    Calls Tryz.prog 141 #[.pointer (some ⟨r, 0, none⟩)] w (PartOut (partR L i) r base file L lv ov i D w) := by
  have hb0 : Below w.heap.size w (w.alloc (.cells #[.int .i64 0, .slice none 0 0, .string ⟨#[]⟩] 75)) := (Below.refl _ _).alloc (Nat.le_refl _) _
  have hZ0 := Holds.new w #[.int .i64 0, .slice none 0 0, .string ⟨#[]⟩] 75
  obtain ⟨gL, cL, rfl, _⟩ := id h.toks
  have hnx := src_next _ r base file L (.slice (some ⟨gL, 0, none⟩) L.length cL) ov i D (h.keeps (Keeps.of_fresh hb0 (fun _ => False)))
  have hrl := h.holds.lt
  have hil := h.lt
  have hbsz := h.size
  have HOK := Lib.hid h.ok
  have hnx8 := HOK.out.next hil
  have HH := Lib.hid h
  have HTK := Lib.hid (fun wx hx => src_taken wx r base file L (.slice (some ⟨gL, 0, none⟩) L.length cL) ov i D hx 6 (by decide) 53 labelT tells_label)
  have htr : takenR L 6 labelT i = if (tkN L i).kind = 6 then (if labelT (tkN L i).text = true then .ok (i + 1) else .error (i, 1)) else .error (i, 6) := rfl
  have HFL := Lib.hid (fun wx hx => src_fail wx r base file L (.slice (some ⟨gL, 0, none⟩) L.length cL) ov i D hx i 6)
  have hRR : ∃ R, partR L i = R := ⟨_, rfl⟩
  obtain ⟨RR, hRR⟩ := hRR
  rw [hRR]
  unfold partR txN at hRR
  unfold TakenOut at HTK
  unfold tokAgg at hnx HTK HFL
  rw [htr] at HTK
  clear htr h
  generalize tkN L i = t at *
  obtain ⟨t0, t1, t2, t3, t4⟩ := t
  simp only at hnx HTK HFL hRR hnx8
  go_enter Tryz.func141, Tryz.ntmps141
  go_wp2_with fail
  refine hnx.mono ?_
  rintro e w1 ⟨rfl, hb1⟩
  have k1 : Keeps (fun _ => False) w w1 := (Keeps.of_fresh hb0 (fun _ => False)).trans (Keeps.of_fresh hb1 (fun _ => False)) (fun _ _ e => e)
  have hA1 := HH.out.keeps k1
  have hZ1 := hZ0.keeps (Keeps.of_fresh hb1 (fun _ => False)) (fun e => e)
  have hrz : r ≠ w.heap.size := by omega
  have hA2 := hA1.alloc (.cells #[.int .i64 t0, .string ⟨t1.toArray⟩, .int .i64 t2, .int .i64 file, .int .i64 t3, .int .i64 t4] 65)
  have hZ2 := hZ1.alloc (.cells #[.int .i64 t0, .string ⟨t1.toArray⟩, .int .i64 t2, .int .i64 file, .int .i64 t3, .int .i64 t4] 65)
  have hK2 := (k1.mono (S := (· = r)) (fun _ _ e => e.elim)).alloc (.cells #[.int .i64 t0, .string ⟨t1.toArray⟩, .int .i64 t2, .int .i64 file, .int .i64 t3, .int .i64 t4] 65)
  have hM2 := Holds.new w1 #[.int .i64 t0, .string ⟨t1.toArray⟩, .int .i64 t2, .int .i64 file, .int .i64 t3, .int .i64 t4] 65
  have hzl := hZ1.lt
  have hmr : w1.heap.size ≠ r := by have := hA1.holds.lt; omega
  obtain ⟨y0, y1, y2, y3, y4, y5⟩ := six_cells hM2
  clear hnx hb0 hZ0 hb1 k1 hA1 hZ1
  by_cases h3 : t0 = 3
  · subst h3
    rw [if_pos rfl] at hRR
    subst hRR
    have hlt := hnx8 (by decide)
    obtain ⟨hA3, k3⟩ := hA2.step hlt
    have hM3 := hM2.keeps k3 hmr
    have hZ3 := hZ2.keeps k3 (Ne.symm hrz)
    have hK3 := hK2.trans k3 (S := (· = r)) (fun _ _ e => e)
    obtain ⟨c1, c1f, crl, _⟩ := hA2.at1
    obtain ⟨x0, x1, x2, x3, x4, x5⟩ := six_cells hM3
    obtain ⟨n0, n1, n2, nf0, nf1, nf2, nl⟩ := three hZ3
    have HZ3 := Lib.hid hZ3
    have HK3 := Lib.hid hK3
    have hH3 := hA3.holds
    clear hA2 hZ2 hK2 hM2 hM3 hZ3 hK3 k3 hA3
    go_wp2_with fail
    have z1 := set_three HZ3.out (.int .i64 2) (.slice none 0 0) (.string ⟨t1.toArray⟩)
    have z2 := set3_keeps HK3.out (B := w.heap.size) (.inl (Nat.le_refl _)) (.int .i64 2) (.slice none 0 0) (.string ⟨t1.toArray⟩)
    have z3 := HH.out.from z2 (set3_other hH3 hrz (.int .i64 2) (.slice none 0 0) (.string ⟨t1.toArray⟩)) hlt (by omega)
    unfold set3 at z1 z2 z3
    obtain ⟨q0, q1, q2, _⟩ := three z1
    exact bodyPost_ret (v := .tuple #[.agg #[.int .i64 2, .slice none 0 0, .string ⟨t1.toArray⟩], .bool true]) (by simp [results, Tryz.results141, go_sem, q0, q1, q2]) rfl ⟨z2, _, rfl, CellsRow.none _ _, z3, by omega⟩
  · rw [if_neg h3] at hRR
    by_cases h6 : t0 = 6
    · subst h6
      rw [if_pos rfl] at hRR
      cases hg : labelT t1 with
      | true =>
        rw [hg, if_pos rfl] at hRR
        subst hRR
        go_wp2_with fail
        refine (HTK.out _ hA2).mono ?_
        rintro e w3 ⟨hk3, hm⟩
        simp only [reduceIte, hg] at hm
        obtain ⟨rfl, hA3⟩ := hm
        have hM3 := (hM2.keeps hk3 hmr).alloc (.cells #[.int .i64 6, .string ⟨t1.toArray⟩, .int .i64 t2, .int .i64 file, .int .i64 t3, .int .i64 t4] 65)
        have hZ3 := (hZ2.keeps hk3 (Ne.symm hrz)).alloc (.cells #[.int .i64 6, .string ⟨t1.toArray⟩, .int .i64 t2, .int .i64 file, .int .i64 t3, .int .i64 t4] 65)
        have hK3 := (hK2.trans hk3 (S := (· = r)) (fun _ _ e => e)).alloc (.cells #[.int .i64 6, .string ⟨t1.toArray⟩, .int .i64 t2, .int .i64 file, .int .i64 t3, .int .i64 t4] 65)
        have hA4 := hA3.alloc (.cells #[.int .i64 6, .string ⟨t1.toArray⟩, .int .i64 t2, .int .i64 file, .int .i64 t3, .int .i64 t4] 65)
        have HA4 := Lib.hid hA4
        obtain ⟨x0, x1, x2, x3, x4, x5⟩ := six_cells hM3
        obtain ⟨n0, n1, n2, nf0, nf1, nf2, nl⟩ := three hZ3
        have HZ3 := Lib.hid hZ3
        have HK3 := Lib.hid hK3
        clear hA2 hZ2 hK2 hM2 hM3 hZ3 hK3 hk3 hA3 hA4 y0 y1 y2 y3 y4 y5
        go_wp2_with fail
        have z1 := set_three HZ3.out (.int .i64 4) (.slice none 0 0) (.string ⟨t1.toArray⟩)
        have z2 := set3_keeps HK3.out (B := w.heap.size) (.inl (Nat.le_refl _)) (.int .i64 4) (.slice none 0 0) (.string ⟨t1.toArray⟩)
        have z3 := HH.out.from z2 (set3_other HA4.out.holds hrz (.int .i64 4) (.slice none 0 0) (.string ⟨t1.toArray⟩)) HA4.out.lt (by omega)
        unfold set3 at z1 z2 z3
        obtain ⟨q0, q1, q2, _⟩ := three z1
        exact bodyPost_ret (v := .tuple #[.agg #[.int .i64 4, .slice none 0 0, .string ⟨t1.toArray⟩], .bool true]) (by simp [results, Tryz.results141, go_sem, q0, q1, q2]) rfl ⟨z2, _, rfl, CellsRow.none _ _, z3, by omega⟩
      | false =>
        rw [hg, if_neg (by simp)] at hRR
        subst hRR
        go_wp2_with fail
        refine (HTK.out _ hA2).mono ?_
        rintro e w3 ⟨hk3, hm⟩
        simp only [reduceIte, hg, Bool.false_eq_true] at hm
        obtain ⟨rfl, hA3⟩ := hm
        have hM3 := (hM2.keeps hk3 hmr).alloc (.cells #[.int .i64 6, .string ⟨t1.toArray⟩, .int .i64 t2, .int .i64 file, .int .i64 t3, .int .i64 t4] 65)
        have hZ3 := (hZ2.keeps hk3 (Ne.symm hrz)).alloc (.cells #[.int .i64 6, .string ⟨t1.toArray⟩, .int .i64 t2, .int .i64 file, .int .i64 t3, .int .i64 t4] 65)
        have hK3 := (hK2.trans hk3 (S := (· = r)) (fun _ _ e => e)).alloc (.cells #[.int .i64 6, .string ⟨t1.toArray⟩, .int .i64 t2, .int .i64 file, .int .i64 t3, .int .i64 t4] 65)
        have hA4 := hA3.alloc (.cells #[.int .i64 6, .string ⟨t1.toArray⟩, .int .i64 t2, .int .i64 file, .int .i64 t3, .int .i64 t4] 65)
        have HA4 := Lib.hid hA4
        obtain ⟨x0, x1, x2, x3, x4, x5⟩ := six_cells hM3
        obtain ⟨n0, n1, n2, nf0, nf1, nf2, nl⟩ := three hZ3
        have HZ3 := Lib.hid hZ3
        have HK3 := Lib.hid hK3
        clear hA2 hZ2 hK2 hM2 hM3 hZ3 hK3 hk3 hA3 hA4 y0 y1 y2 y3 y4 y5
        go_wp2_with fail
        have z1 := set_three HZ3.out (.int .i64 4) (.slice none 0 0) (.string ⟨t1.toArray⟩)
        have z2 := set3_keeps HK3.out (B := w.heap.size) (.inl (Nat.le_refl _)) (.int .i64 4) (.slice none 0 0) (.string ⟨t1.toArray⟩)
        have z3 := HA4.out.three HZ3.out (.int .i64 4) (.slice none 0 0) (.string ⟨t1.toArray⟩)
        unfold set3 at z1 z2 z3
        obtain ⟨q0, q1, q2, _⟩ := three z1
        exact bodyPost_ret (v := .tuple #[.agg #[.int .i64 4, .slice none 0 0, .string ⟨t1.toArray⟩], .bool false]) (by simp [results, Tryz.results141, go_sem, q0, q1, q2]) rfl ⟨z2, _, rfl, ⟨4, none, 0, 0, ⟨t1.toArray⟩, rfl⟩, z3⟩
    · rw [if_neg h6] at hRR
      have hi1 := src_is _ r base file L (.slice (some ⟨gL, 0, none⟩) L.length cL) ov i D hA2 4 [60]
      go_wp2_with fail
      refine (by exact hi1 : Calls _ _ _ _ _).mono ?_
      rintro e w2 ⟨rfl, hb2⟩
      have kb2 : Keeps (fun _ => False) _ w2 := Keeps.of_fresh hb2 _
      have hA3 := hA2.keeps kb2
      have hZ3 := hZ2.keeps kb2 (fun e => e)
      have hK3 := hK2.trans kb2 (S := (· = r)) (fun _ _ e => e.elim)
      have hM3 := hM2.keeps kb2 (fun e => e)
      clear hi1 hb2 kb2 hA2 hZ2 hK2 hM2 y0 y1 y2 y3 y4 y5
      cases hk : isK L i 4 [60] with
      | true =>
        rw [hk, if_pos rfl] at hRR
        obtain ⟨hA4, k4⟩ := hA3.step (isK_next HOK.out hil hk (by decide))
        have hsub := src_cells _ r base file L (.slice (some ⟨gL, 0, none⟩) L.length cL) ov (i + 1) D hA4
        unfold PartOut at hsub
        have hK4 := hK3.trans k4 (S := (· = r)) (fun _ _ e => e)
        have hZ4 := hZ3.keeps k4 (Ne.symm hrz)
        obtain ⟨c1, c1f, crl, _⟩ := hA3.at1
        have hw4 := hK4.size
        have HZ4 := Lib.hid hZ4
        have HK4 := Lib.hid hK4
        clear hK3 hZ3 hA3 hA4 k4 hZ4 hK4
        generalize cellsR L (fuelP L) (i + 1) [] = R at *
        cases R with
        | ok q =>
          obtain ⟨j, q⟩ := q
          simp only at hRR hsub
          subst hRR
          go_wp2_with fail
          refine (by exact hsub : Calls _ _ _ _ _).mono ?_
          rintro e w5 ⟨hk5, cv, rfl, hrow, hA5, hj5⟩
          unfold partAgg
          have hZ5 := HZ4.out.keeps hk5 (Ne.symm hrz)
          have hK5 := HK4.out.trans hk5 (S := (· = r)) (fun _ _ e => e)
          have hrow5 : CellsRow w5 w.heap.size cv (q) := hrow.lower hw4
          have hH5 := hA5.holds
          have hl5 := hA5.lt
          obtain ⟨va, vc, rfl⟩ := hrow5.slice
          obtain ⟨n0, n1, n2, nf0, nf1, nf2, nl⟩ := three hZ5
          have HR5 := Lib.hid hrow5
          have HZ5 := Lib.hid hZ5
          have HK5 := Lib.hid hK5
          clear hsub hrow hrow5 hA5 hk5 hZ5 hK5
          go_wp2_with fail
          have z1 := set_three HZ5.out (.int .i64 1) (.slice va q.length vc) (.string ⟨#[]⟩)
          have z2 := set3_keeps HK5.out (B := w.heap.size) (.inl (Nat.le_refl _)) (.int .i64 1) (.slice va q.length vc) (.string ⟨#[]⟩)
          have z3 := HH.out.from z2 (set3_other hH5 hrz (.int .i64 1) (.slice va q.length vc) (.string ⟨#[]⟩)) hl5 (by omega)
          have z4 := ownsRow_keeps HR5.out (set3_keeps (S := (· = w.heap.size)) (Keeps.refl _ _) (.inr rfl) (.int .i64 1) (.slice va q.length vc) (.string ⟨#[]⟩)) (fun g hg e => by cases e; exact owns_ne HR5.out HZ5.out (by decide) hg)
          unfold set3 at z4
          unfold set3 at z1 z2 z3
          obtain ⟨q0, q1, q2, _⟩ := three z1
          exact bodyPost_ret (v := .tuple #[.agg #[.int .i64 1, .slice va q.length vc, .string ⟨#[]⟩], .bool true]) (by simp [results, Tryz.results141, go_sem, q0, q1, q2]) rfl ⟨z2, _, rfl, z4, z3, by omega⟩
        | error q =>
          obtain ⟨k, c⟩ := q
          simp only at hRR hsub
          subst hRR
          go_wp2_with fail
          refine (by exact hsub : Calls _ _ _ _ _).mono ?_
          rintro e w5 ⟨hk5, v, rfl, ⟨ea, ex, en, ec, es, rfl⟩, hbad⟩
          have hZ5 := HZ4.out.keeps hk5 (Ne.symm hrz)
          have hK5 := HK4.out.trans hk5 (S := (· = r)) (fun _ _ e => e)
          obtain ⟨n0, n1, n2, nf0, nf1, nf2, nl⟩ := three hZ5
          have HZ5 := Lib.hid hZ5
          have HK5 := Lib.hid hK5
          have HBD := Lib.hid hbad
          clear hsub hk5 hZ5 hK5 hbad
          go_wp2_with fail
          have z1 := set_three HZ5.out (.int .i64 ea) (.slice ex en ec) (.string es)
          have z2 := set3_keeps HK5.out (B := w.heap.size) (.inl (Nat.le_refl _)) (.int .i64 ea) (.slice ex en ec) (.string es)
          have z3 := HBD.out.three HZ5.out (.int .i64 ea) (.slice ex en ec) (.string es)
          unfold set3 at z1 z2 z3
          obtain ⟨q0, q1, q2, _⟩ := three z1
          exact bodyPost_ret (v := .tuple #[.agg #[.int .i64 ea, .slice ex en ec, .string es], .bool false]) (by simp [results, Tryz.results141, go_sem, q0, q1, q2]) rfl ⟨z2, _, rfl, ⟨ea, ex, en, ec, es, rfl⟩, z3⟩
      | false =>
        rw [hk, if_neg (by simp)] at hRR
        have hi2 := src_is _ r base file L (.slice (some ⟨gL, 0, none⟩) L.length cL) ov i D hA3 4 [91]
        go_wp2_with fail
        refine (by exact hi2 : Calls _ _ _ _ _).mono ?_
        rintro e w3 ⟨rfl, hb3⟩
        have kb3 : Keeps (fun _ => False) _ w3 := Keeps.of_fresh hb3 _
        have hA3 := hA3.keeps kb3
        have hZ3 := hZ3.keeps kb3 (fun e => e)
        have hK3 := hK3.trans kb3 (S := (· = r)) (fun _ _ e => e.elim)
        have hM3 := hM3.keeps kb3 (fun e => e)
        clear hi2 hb3 kb3 hk
        cases hk : isK L i 4 [91] with
        | true =>
          rw [hk, if_pos rfl] at hRR
          obtain ⟨hA4, k4⟩ := hA3.step (isK_next HOK.out hil hk (by decide))
          have hsub := src_bytes _ r base file L (.slice (some ⟨gL, 0, none⟩) L.length cL) ov (i + 1) D hA4
          unfold PartOut at hsub
          have hK4 := hK3.trans k4 (S := (· = r)) (fun _ _ e => e)
          have hZ4 := hZ3.keeps k4 (Ne.symm hrz)
          obtain ⟨c1, c1f, crl, _⟩ := hA3.at1
          have hw4 := hK4.size
          have HZ4 := Lib.hid hZ4
          have HK4 := Lib.hid hK4
          clear hK3 hZ3 hA3 hA4 k4 hZ4 hK4
          generalize bytesR L (fuelP L) (i + 1) [] = R at *
          cases R with
          | ok q =>
            obtain ⟨j, q⟩ := q
            simp only at hRR hsub
            subst hRR
            go_wp2_with fail
            refine (by exact hsub : Calls _ _ _ _ _).mono ?_
            rintro e w5 ⟨hk5, cv, rfl, hrow, hA5, hj5⟩
            unfold partAgg
            have hZ5 := HZ4.out.keeps hk5 (Ne.symm hrz)
            have hK5 := HK4.out.trans hk5 (S := (· = r)) (fun _ _ e => e)
            have hrow5 : CellsRow w5 w.heap.size cv ([]) := hrow.lower hw4
            have hH5 := hA5.holds
            have hl5 := hA5.lt
            obtain ⟨va, vc, rfl⟩ := hrow5.slice
            obtain ⟨n0, n1, n2, nf0, nf1, nf2, nl⟩ := three hZ5
            have HR5 := Lib.hid hrow5
            have HZ5 := Lib.hid hZ5
            have HK5 := Lib.hid hK5
            clear hsub hrow hrow5 hA5 hk5 hZ5 hK5
            go_wp2_with fail
            have z1 := set_three HZ5.out (.int .i64 3) (.slice va 0 vc) (.string ⟨q.toArray⟩)
            have z2 := set3_keeps HK5.out (B := w.heap.size) (.inl (Nat.le_refl _)) (.int .i64 3) (.slice va 0 vc) (.string ⟨q.toArray⟩)
            have z3 := HH.out.from z2 (set3_other hH5 hrz (.int .i64 3) (.slice va 0 vc) (.string ⟨q.toArray⟩)) hl5 (by omega)
            have z4 := ownsRow_keeps HR5.out (set3_keeps (S := (· = w.heap.size)) (Keeps.refl _ _) (.inr rfl) (.int .i64 3) (.slice va 0 vc) (.string ⟨q.toArray⟩)) (fun g hg e => by cases e; exact owns_ne HR5.out HZ5.out (by decide) hg)
            unfold set3 at z4
            unfold set3 at z1 z2 z3
            obtain ⟨q0, q1, q2, _⟩ := three z1
            exact bodyPost_ret (v := .tuple #[.agg #[.int .i64 3, .slice va 0 vc, .string ⟨q.toArray⟩], .bool true]) (by simp [results, Tryz.results141, go_sem, q0, q1, q2]) rfl ⟨z2, _, rfl, z4, z3, by omega⟩
          | error q =>
            obtain ⟨k, c⟩ := q
            simp only at hRR hsub
            subst hRR
            go_wp2_with fail
            refine (by exact hsub : Calls _ _ _ _ _).mono ?_
            rintro e w5 ⟨hk5, v, rfl, ⟨ea, ex, en, ec, es, rfl⟩, hbad⟩
            have hZ5 := HZ4.out.keeps hk5 (Ne.symm hrz)
            have hK5 := HK4.out.trans hk5 (S := (· = r)) (fun _ _ e => e)
            obtain ⟨n0, n1, n2, nf0, nf1, nf2, nl⟩ := three hZ5
            have HZ5 := Lib.hid hZ5
            have HK5 := Lib.hid hK5
            have HBD := Lib.hid hbad
            clear hsub hk5 hZ5 hK5 hbad
            go_wp2_with fail
            have z1 := set_three HZ5.out (.int .i64 ea) (.slice ex en ec) (.string es)
            have z2 := set3_keeps HK5.out (B := w.heap.size) (.inl (Nat.le_refl _)) (.int .i64 ea) (.slice ex en ec) (.string es)
            have z3 := HBD.out.three HZ5.out (.int .i64 ea) (.slice ex en ec) (.string es)
            unfold set3 at z1 z2 z3
            obtain ⟨q0, q1, q2, _⟩ := three z1
            exact bodyPost_ret (v := .tuple #[.agg #[.int .i64 ea, .slice ex en ec, .string es], .bool false]) (by simp [results, Tryz.results141, go_sem, q0, q1, q2]) rfl ⟨z2, _, rfl, ⟨ea, ex, en, ec, es, rfl⟩, z3⟩
        | false =>
          rw [hk, if_neg (by simp)] at hRR
          subst hRR
          obtain ⟨x0, x1, x2, x3, x4, x5⟩ := six_cells hM3
          have hf := HFL.out _ hA3
          have HM3 := Lib.hid hM3
          have HZ3 := Lib.hid hZ3
          have HK3 := Lib.hid hK3
          clear hM3 hZ3 hK3 hA3
          go_wp2_with fail
          refine (by exact hf : Calls _ _ _ _ _).mono ?_
          rintro e w4 ⟨rfl, hbad, hk4⟩
          have hZ4 := HZ3.out.keeps hk4 (Ne.symm hrz)
          have hK4 := HK3.out.trans hk4 (S := (· = r)) (fun _ _ e => e)
          obtain ⟨n0, n1, n2, nf0, nf1, nf2, nl⟩ := three hZ4
          have HZ4 := Lib.hid hZ4
          have HK4 := Lib.hid hK4
          have HBD := Lib.hid hbad
          clear hf hk4 hZ4 hK4 hbad
          go_wp2_with fail
          have z1 := set_three HZ4.out (.int .i64 0) (.slice none 0 0) (.string ⟨#[]⟩)
          have z2 := set3_keeps HK4.out (B := w.heap.size) (.inl (Nat.le_refl _)) (.int .i64 0) (.slice none 0 0) (.string ⟨#[]⟩)
          have z3 := HBD.out.three HZ4.out (.int .i64 0) (.slice none 0 0) (.string ⟨#[]⟩)
          unfold set3 at z1 z2 z3
          obtain ⟨q0, q1, q2, _⟩ := three z1
          exact bodyPost_ret (v := .tuple #[.agg #[.int .i64 0, .slice none 0 0, .string ⟨#[]⟩], .bool false]) (by simp [results, Tryz.results141, go_sem, q0, q1, q2]) rfl ⟨z2, _, rfl, ⟨0, none, 0, 0, ⟨#[]⟩, rfl⟩, z3⟩
end Go.Proofs.YtofhcgbihonckaaGreat
namespace Go.Proofs.YtofhcgbihonckaaGreat
open Go.RowKit
def SrcOut (R : Rs (Nat × List DefT)) (r base : Nat) (file : Int) (L : List Tok) (lv : Value) (i : Nat) (D : List DefT) (w : World) (e : Ending) (w' : World) : Prop :=
  Below base w w' ∧ match R with
    | .ok (j, ds) => e = .returned (.bool true) ∧ ∃ ov', SrcAt w' r base file L lv ov' j (D ++ ds) ∧ i < j
    | .error (k, c) => e = .returned (.bool false) ∧ ∃ ov', SrcBad w' r file L lv ov' k c
section
variable {w w' : World} {r base : Nat} {file : Int} {L : List Tok} {lv ov : Value} {i : Nat} {D : List DefT}
theorem SrcAt.below (h : SrcAt w r base file L lv ov i D) (k : Keeps (· = r) w w') : Below base w w' := k.below h.size (fun j hj e => by have := h.low; omega)
theorem SrcR.noteBelow {x fp : Value} (h : SrcR w r base file lv x ov fp D) (k : Keeps (fun b => b = r ∨ ov.ownBlock = some b) w w') : Below base w w' := by
  refine k.below h.2.2.2 (fun j hj e => ?_)
  rcases e with rfl | e
  · have := h.2.2.1; omega
  · obtain ⟨vs, _, hrow, _⟩ := h.2.1
    have := (own_lt hrow e).2.1
    omega
theorem SrcAt.bad (h : SrcAt w r base file L lv ov i D) (k : Keeps (· = r) w w') {q : Nat} {c : Int} (hb : SrcBad w' r file L lv ov q c) :
    ∃ x f, SrcR w' r base file lv x ov (.pointer (some ⟨f, 0, none⟩)) D ∧ Holds w' f #[.int .i64 file, .int .i64 (tkN L q).line, .int .i64 (tkN L q).col, .int .i64 c] 68 := by
  obtain ⟨x, f, h1, h2⟩ := hb
  exact ⟨x, f, ⟨h1, h.defs.keeps k (Apart3.one h.holds (by decide) (by decide) (by decide)), h.low, Nat.le_trans h.size k.size⟩, h2⟩
theorem SrcAt.noted {ov' : Value} {d : DefT} (h : SrcAt w r base file L lv ov i D) (hr : SrcR w' r base file lv (.int .i64 i) ov' (.pointer none) (D ++ [d])) (k : Keeps (fun b => b = r ∨ ov.ownBlock = some b) w w') (hc : D.length + 1 ≤ i) : SrcAt w' r base file L lv ov' i (D ++ [d]) :=
  ⟨hr.1, h.toks.keeps k (fun b e => by
    rcases e with rfl | e
    · exact h.low
    · obtain ⟨vs, _, hrow, _⟩ := h.defs
      exact (own_lt hrow e).2.1), hr.2.1, hr.2.2.1, hr.2.2.2, h.lt, h.ok, by simp; omega⟩
theorem bad_noted {x : Value} {f : Nat} {ov' : Value} {d : DefT} {q : Nat} {c : Int} (h : SrcR w r base file lv x ov (.pointer (some ⟨f, 0, none⟩)) D) (hf : Holds w f #[.int .i64 file, .int .i64 (tkN L q).line, .int .i64 (tkN L q).col, .int .i64 c] 68)
    (hr : SrcR w' r base file lv x ov' (.pointer (some ⟨f, 0, none⟩)) (D ++ [d])) (k : Keeps (fun b => b = r ∨ ov.ownBlock = some b) w w') : SrcBad w' r file L lv ov' q c := by
  refine ⟨x, f, hr.1, hf.keeps k (fun e => ?_)⟩
  rcases e with rfl | e
  · exact src_holds_ne h.1 hf (by decide) rfl
  · obtain ⟨vs, _, hrow, _⟩ := h.2.1
    exact owns_ne hrow hf (by decide) e
end
theorem takenR_ok {L : List Tok} {kind : Int} {right : List UInt8 → Bool} {i j : Nat} (h : takenR L kind right i = .ok j) : j = i + 1 := by
  unfold takenR at h
  split at h
  · split at h
    · cases h; rfl
    · cases h
  · cases h
set_option maxRecDepth 100000 in
set_option maxHeartbeats 8000000 in
theorem src_deletes (w : World) (r base : Nat) (file : Int) (L : List Tok) (lv ov : Value) (i : Nat) (D : List DefT) (h : SrcAt w r base file L lv ov i D) (kind what : Int) (before : List UInt8) (f : Nat) (right : List UInt8 → Bool) (hf : TellsT f right) (hw8 : what ≠ 8) (hk8 : (tkN L i).kind ≠ 8) (hbl : before.length ≤ 10) :
    Calls Tryz.prog 57 #[.pointer (some ⟨r, 0, none⟩), .int .i64 kind, .int .i64 what, .string ⟨before.toArray⟩, .func (.func f) #[] #[]] w (SrcOut (delR L kind what before right i) r base file L lv i D w) := by
  have hnx := src_next _ r base file L lv ov i D h
  have hlt := h.ok.next h.lt hk8
  have hHH := h
  have hRR : ∃ R, delR L kind what before right i = R := ⟨_, rfl⟩
  obtain ⟨RR, hRR⟩ := hRR
  rw [hRR]
  unfold delR at hRR
  have hx2 := h.ok.at (i + 1)
  have had := adds_of before (tkN L (i + 1)).text (by omega)
  unfold Adds at had
  unfold tokAgg at hnx
  have hTj := Lib.hid (fun j => takenR_ok (L := L) (kind := what) (right := right) (i := i + 1) (j := j))
  generalize htk : tkN L i = t at *
  obtain ⟨t0, t1, t2, t3, t4⟩ := t
  simp only at hnx hRR
  have HTK := Lib.hid htk
  have HH := Lib.hid hHH
  have hrl := h.holds.lt
  have hcnt := h.cnt
  have hil : L.length ≤ 6001 := h.ok.len
  clear hk8 hHH htk h
  go_enter Tryz.func57, Tryz.ntmps57
  go_wp2_with fail
  refine hnx.mono ?_
  rintro e w1 ⟨rfl, hb1⟩
  have k1 : Keeps (fun _ => False) w (w1.alloc (.cells #[.int .i64 t0, .string ⟨t1.toArray⟩, .int .i64 t2, .int .i64 file, .int .i64 t3, .int .i64 t4] 65)) := (Keeps.of_fresh hb1 (fun _ => False)).alloc _
  have hA1 := HH.out.keeps k1
  have hM1 := Holds.new w1 #[.int .i64 t0, .string ⟨t1.toArray⟩, .int .i64 t2, .int .i64 file, .int .i64 t3, .int .i64 t4] 65
  have hmr : w1.heap.size ≠ r := by have := hb1.size; omega
  obtain ⟨hA2, k2⟩ := hA1.step hlt
  have hM2 := hM1.keeps k2 hmr
  have hK2 := (k1.mono (S := (· = r)) (fun _ _ e => e.elim)).trans k2 (S := (· = r)) (fun _ _ e => e)
  obtain ⟨c1, c1f, crl, _⟩ := hA1.at1
  have htn := src_taken _ r base file L lv ov (i + 1) D hA2 what hw8 f right hf
  unfold TakenOut tokAgg at htn
  have HA2 := Lib.hid hA2
  have HM2 := Lib.hid hM2
  have HK2 := Lib.hid hK2
  clear hnx hb1 k1 hA1 hM1 k2 hA2 hM2 hK2
  generalize takenR L what right (i + 1) = TR at *
  generalize tkN L (i + 1) = s at *
  obtain ⟨s0, s1, s2, s3, s4⟩ := s
  simp only at htn hRR hx2 had
  generalize hnm : before ++ s1 = nm at *
  go_wp2_with fail
  refine (by exact htn : Calls _ _ _ _ _).mono ?_
  rintro e w3 ⟨hk3, hm⟩
  have hK3 := (HK2.out.trans hk3 (S := (· = r)) (fun _ _ e => e)).alloc (.cells #[.int .i64 s0, .string ⟨s1.toArray⟩, .int .i64 s2, .int .i64 file, .int .i64 s3, .int .i64 s4] 65)
  have hM3 := (HM2.out.keeps hk3 hmr).alloc (.cells #[.int .i64 s0, .string ⟨s1.toArray⟩, .int .i64 s2, .int .i64 file, .int .i64 s3, .int .i64 s4] 65)
  have hS3 := Holds.new w3 #[.int .i64 s0, .string ⟨s1.toArray⟩, .int .i64 s2, .int .i64 file, .int .i64 s3, .int .i64 s4] 65
  obtain ⟨m0, m1, m2, m3, m4, m5⟩ := six_cells hM3
  obtain ⟨n0, n1, n2, n3, n4, n5⟩ := six_cells hS3
  clear htn
  cases TR with
  | ok j =>
    simp only at hm hRR
    obtain ⟨rfl, hA3⟩ := hm
    have hA4 := hA3.alloc (.cells #[.int .i64 s0, .string ⟨s1.toArray⟩, .int .i64 s2, .int .i64 file, .int .i64 s3, .int .i64 s4] 65)
    have hnt := src_note _ r base file lv (.int .i64 j) ov (.pointer none) D ⟨kind, ⟨#[]⟩, ⟨nm.toArray⟩, [], t3, t4⟩ (.slice none 0 0) hA4.raw (PartsRow.none _ _) (by have := hA4.cnt; have := hA4.lt; have := hA4.ok.len; omega)
    unfold defAgg at hnt
    have hj := hTj.out j rfl
    subst hj
    go_wp2_with fail
    refine (by exact hnt : Calls _ _ _ _ _).mono ?_
    rintro e w4 ⟨rfl, ov', hraw4, hk4⟩
    have hA5 := hA4.noted hraw4 hk4 (by omega)
    have hbn := (HH.out.below hK3).trans (hA4.raw.noteBelow hk4)
    have hsg := src_sign w4 r base file L lv ov' (i + 1 + 1) _ hA5 [59]
    unfold SignOut at hsg
    unfold signR at hRR
    have HB := Lib.hid hbn
    have HA5 := Lib.hid hA5
    clear hnt hraw4 hk4 hbn hA5 hA4 hA3 hk3 hK3 hM3 hS3 HK2 HM2 HA2
    cases hk : isK L (i + 1 + 1) 4 [59] with
    | true =>
      rw [hk, if_pos rfl] at hRR
      simp only at hRR
      subst hRR
      rw [hk] at hsg
      go_wp2_with fail
      refine (by exact hsg : Calls _ _ _ _ _).mono ?_
      rintro e w5 ⟨rfl, hk5, hy, _⟩
      have hA6 := hy (by trivial)
      have hb6 := HB.out.trans (HA5.out.below hk5)
      clear hsg hy
      go_wp2_with fail
      go_ret
      exact ⟨hb6, rfl, ov', hA6, by omega⟩
    | false =>
      rw [hk, if_neg (by simp)] at hRR
      simp only at hRR
      subst hRR
      rw [hk] at hsg
      go_wp2_with fail
      refine (by exact hsg : Calls _ _ _ _ _).mono ?_
      rintro e w5 ⟨rfl, hk5, _, hn⟩
      have hA6 := hn (by trivial)
      have hb6 := HB.out.trans (HA5.out.below hk5)
      clear hsg hn
      go_wp2_with fail
      go_ret
      exact ⟨hb6, rfl, ov', hA6⟩
  | error q =>
    obtain ⟨k, c⟩ := q
    simp only at hm hRR
    obtain ⟨rfl, hbad⟩ := hm
    obtain ⟨x, ff, hraw, hff⟩ := HH.out.bad hK3 (hbad.alloc (.cells #[.int .i64 s0, .string ⟨s1.toArray⟩, .int .i64 s2, .int .i64 file, .int .i64 s3, .int .i64 s4] 65))
    have hnt := src_note _ r base file lv x ov (.pointer (some ⟨ff, 0, none⟩)) D ⟨kind, ⟨#[]⟩, ⟨nm.toArray⟩, [], t3, t4⟩ (.slice none 0 0) hraw (PartsRow.none _ _) (by omega)
    unfold defAgg at hnt
    subst hRR
    go_wp2_with fail
    refine (by exact hnt : Calls _ _ _ _ _).mono ?_
    rintro e w4 ⟨rfl, ov', hraw4, hk4⟩
    have hbb := HH.out.below hK3
    have hbn := hraw.noteBelow hk4
    have hfin := bad_noted (L := L) hraw hff hraw4 hk4
    go_wp2_with fail
    go_ret
    exact ⟨hbb.trans hbn, rfl, ov', hfin⟩
end Go.Proofs.YtofhcgbihonckaaGreat
namespace Go.Proofs.YtofhcgbihonckaaGreat
open Go.RowKit
theorem infoPart : (Tryz.prog.info? 75).map (fun i => (i.zero, i.size, i.bytes)) = some (some (.agg #[.int .i64 0, .slice none 0 0, .string ⟨#[]⟩]), 3, 48) := by kernel_rfl
def BodyC (r base : Nat) (file : Int) (L : List Tok) (lv : Value) (n : Nat) : Prop := ∀ (w : World) (ov : Value) (i : Nat) (D : List DefT) (d : DefT) (dp : Nat), SrcAt w r base file L lv ov i D → d.parts = [] → 3 * (L.length - i) ≤ n → dp ≤ 100 →
  Calls Tryz.prog 55 #[.pointer (some ⟨r, 0, none⟩), defAgg file d (.slice none 0 0), .int .i64 dp] w (SrcOut (srcE L n (.body d dp) i) r base file L lv i D w)
def MemberC (r base : Nat) (file : Int) (L : List Tok) (lv : Value) (n : Nat) : Prop := ∀ (w : World) (ov : Value) (i : Nat) (D : List DefT) (dp : Nat), SrcAt w r base file L lv ov i D → 3 * (L.length - i) ≤ n → dp ≤ 50 →
  Calls Tryz.prog 95 #[.pointer (some ⟨r, 0, none⟩), .int .i64 dp] w (SrcOut (srcE L n (.member dp) i) r base file L lv i D w)
def NamedC (r base : Nat) (file : Int) (L : List Tok) (lv : Value) (n : Nat) : Prop := ∀ (w : World) (ov : Value) (i : Nat) (D : List DefT) (dp : Nat), SrcAt w r base file L lv ov i D → (tkN L i).kind = 1 → 3 * (L.length - i) ≤ n + 1 → dp ≤ 99 →
  Calls Tryz.prog 124 #[.pointer (some ⟨r, 0, none⟩), tokAgg file (tkN L i), .int .i64 dp] w (SrcOut (srcE L n (.named dp) i) r base file L lv i D w)
theorem tellsT_name : TellsT 123 nameT := ⟨enters_of Tryz.func123 (by kernel_rfl) rfl, fun s w hs => token_Name s w (by unfold maxLen; omega)⟩
theorem tellsT_prop : TellsT 125 propT := ⟨enters_of Tryz.func125 (by kernel_rfl) rfl, fun s w hs => tree_Property s w (by omega)⟩
set_option maxRecDepth 100000 in
set_option maxHeartbeats 8000000 in
theorem src_named (r base : Nat) (file : Int) (L : List Tok) (lv : Value) (n : Nat) (hB : BodyC r base file L lv n) : NamedC r base file L lv (n + 1) := by
  intro w ov i D dp h hk1 hn hdp
  have HBC := Lib.hid hB
  have hlt := h.ok.next h.lt (by rw [hk1]; decide)
  have HOK := Lib.hid h.ok
  have hbsz := h.size
  have hrl := h.holds.lt
  have hcnt := h.cnt
  have hlen := h.ok.len
  have HH := Lib.hid h
  have htx := h.ok.at i
  have hRR : ∃ R, srcE L (n + 1) (.named dp) i = R := ⟨_, rfl⟩
  obtain ⟨RR, hRR⟩ := hRR
  rw [hRR]
  rw [srcE] at hRR
  unfold txN at hRR
  have HTK := Lib.hid (show tkN L i = tkN L i from rfl)
  have HFL := Lib.hid (fun wx hx => src_fail wx r base file L lv ov (i + 1) D hx i 1)
  unfold tokAgg at HFL ⊢
  clear hk1 h hB
  generalize tkN L i = t at *
  obtain ⟨t0, t1, t2, t3, t4⟩ := t
  simp only at hRR HFL htx ⊢
  have hNM : ∀ wx, Calls Tryz.prog 123 #[.string ⟨t1.toArray⟩] wx fun e w' => e = .returned (.bool (nameT t1)) ∧ wx = w' := fun wx => tellsT_name.2 ⟨t1.toArray⟩ wx (by simpa [ByteArray.size] using htx)
  have hPR : ∀ wx, Calls Tryz.prog 125 #[.string ⟨t1.toArray⟩] wx fun e w' => e = .returned (.bool (propT t1)) ∧ wx = w' := fun wx => tellsT_prop.2 ⟨t1.toArray⟩ wx (by simpa [ByteArray.size] using htx)
  obtain ⟨hA1, k1⟩ := HH.out.step hlt
  have hA2 := hA1.alloc (.cells #[.int .i64 t0, .string ⟨t1.toArray⟩, .int .i64 t2, .int .i64 file, .int .i64 t3, .int .i64 t4] 65)
  have hM2 := Holds.newAt (w := w.setCell ⟨r, 1, none⟩ (.int .i64 ((i : Int) + 1))) (B := w.heap.size) (by simp) #[.int .i64 t0, .string ⟨t1.toArray⟩, .int .i64 t2, .int .i64 file, .int .i64 t3, .int .i64 t4] 65
  have hK2 := k1.alloc (.cells #[.int .i64 t0, .string ⟨t1.toArray⟩, .int .i64 t2, .int .i64 file, .int .i64 t3, .int .i64 t4] 65)
  obtain ⟨c1, c1f, crl, _⟩ := (HH.out.alloc (.cells #[.int .i64 t0, .string ⟨t1.toArray⟩, .int .i64 t2, .int .i64 file, .int .i64 t3, .int .i64 t4] 65)).at1
  have hi1 := src_is _ r base file L lv ov (i + 1) D hA2 4 [123]
  have HA2 := Lib.hid hA2
  have HM2 := Lib.hid hM2
  have HK2 := Lib.hid hK2
  clear hA1 k1 hA2 hM2 hK2
  go_enter Tryz.func124, Tryz.ntmps124
  go_wp2_with fail
  refine (by exact hi1 : Calls _ _ _ _ _).mono ?_
  rintro e w2 ⟨rfl, hb2⟩
  have kb2 : Keeps (fun _ => False) _ w2 := Keeps.of_fresh hb2 _
  have hA3 := HA2.out.keeps kb2
  have hM3 := HM2.out.keeps kb2 (fun e => e)
  have hK3 := HK2.out.trans kb2 (S := (· = r)) (fun _ _ e => e.elim)
  obtain ⟨m0, m1, m2, m3, m4, m5⟩ := six_cells hM3
  clear hi1 hb2 kb2 c1 c1f crl
  cases hk : isK L (i + 1) 4 [123] with
  | true =>
    rw [hk, if_pos rfl] at hRR
    cases hg : nameT t1 with
    | true =>
      rw [hg, if_pos rfl] at hRR
      rw [hg] at hNM
      obtain ⟨dq, hdq⟩ : ∃ z, z = dp + 1 := ⟨_, rfl⟩
      rw [← hdq] at hRR
      have hbd := HBC.out w2 ov (i + 1) D ⟨1, ⟨#[]⟩, ⟨t1.toArray⟩, [], t3, t4⟩ dq hA3 rfl (by omega) (by omega)
      unfold defAgg SrcOut at hbd
      rw [hRR] at hbd
      have hdpI : (dp : Int) + 1 = (dq : Int) := by omega
      have hdq2 : dq ≤ 100 := by omega
      clear hdq
      have hbw := HH.out.below hK3
      have HNM := Lib.hid hNM
      clear hPR hNM hK3 hM3
      go_wp2_with fail
      refine (HNM.out _).mono ?_
      rintro e w3 ⟨rfl, rfl⟩
      go_wp2_with fail
      refine (by exact hbd : Calls _ _ _ _ _).mono ?_
      rintro e w3 ⟨hb3, hm⟩
      have hb4 := hbw.trans hb3
      unfold SrcOut
      clear hbd hRR
      cases RR with
      | ok q =>
        obtain ⟨j, ds⟩ := q
        simp only at hm
        obtain ⟨rfl, ov', hA4, hj⟩ := hm
        go_wp2_with fail
        go_ret
        exact ⟨hb4, rfl, ov', hA4, by omega⟩
      | error q =>
        obtain ⟨k, c⟩ := q
        simp only at hm
        obtain ⟨rfl, ov', hbad⟩ := hm
        go_wp2_with fail
        go_ret
        exact ⟨hb4, rfl, ov', hbad⟩
    | false =>
      rw [hg, if_neg (by simp)] at hRR
      subst hRR
      rw [hg] at hNM
      have hff := HFL.out _ hA3
      have hbw := HH.out.below hK3
      have HNM := Lib.hid hNM
      clear hPR hNM hK3 hM3
      go_wp2_with fail
      refine (HNM.out _).mono ?_
      rintro e w3 ⟨rfl, rfl⟩
      go_wp2_with fail
      refine (by exact hff : Calls _ _ _ _ _).mono ?_
      rintro e w3 ⟨rfl, hbad, hk3⟩
      have hb3 := hbw.trans (hA3.below hk3)
      go_wp2_with fail
      go_ret
      exact ⟨hb3, rfl, ov, hbad⟩
  | false =>
    rw [hk, if_neg (by simp)] at hRR
    cases hg : propT t1 with
    | false =>
      rw [hg, if_neg (by simp)] at hRR
      subst hRR
      rw [hg] at hPR
      have hff := HFL.out _ hA3
      have hbw := HH.out.below hK3
      have HPR := Lib.hid hPR
      clear hPR hNM hK3 hM3
      go_wp2_with fail
      refine (HPR.out _).mono ?_
      rintro e w3 ⟨rfl, rfl⟩
      go_wp2_with fail
      refine (by exact hff : Calls _ _ _ _ _).mono ?_
      rintro e w3 ⟨rfl, hbad, hk3⟩
      have hb3 := hbw.trans (hA3.below hk3)
      go_wp2_with fail
      go_ret
      exact ⟨hb3, rfl, ov, hbad⟩
    | true =>
      rw [hg, if_pos rfl] at hRR
      rw [hg] at hPR
      have HPR := Lib.hid hPR
      clear hPR hNM
      go_wp2_with fail
      refine (HPR.out _).mono ?_
      rintro e w3 ⟨rfl, rfl⟩
      have hA4 := hA3.alloc (.cells #[.int .i64 3, .string ⟨#[]⟩, .string ⟨t1.toArray⟩, .slice none 0 0, .int .i64 file, .int .i64 t3, .int .i64 t4] 34)
      have hD4 := Holds.new w2 #[.int .i64 3, .string ⟨#[]⟩, .string ⟨t1.toArray⟩, .slice none 0 0, .int .i64 file, .int .i64 t3, .int .i64 t4] 34
      have hK4 := hK3.alloc (.cells #[.int .i64 3, .string ⟨#[]⟩, .string ⟨t1.toArray⟩, .slice none 0 0, .int .i64 file, .int .i64 t3, .int .i64 t4] 34)
      have hw2 := hK3.size
      have hm2 := hM3.lt
      have hfu : L.length < (i + 1) + fuelP L := by unfold fuelP; omega
      generalize hN : fuelP L = N at *
      generalize hPP : partsR L N [61] (i + 1) [] = PP at *
      have HPP := Lib.hid hPP
      have hps0 := PartsRow.none (w2.alloc (.cells #[.int .i64 3, .string ⟨#[]⟩, .string ⟨t1.toArray⟩, .slice none 0 0, .int .i64 file, .int .i64 t3, .int .i64 t4] 34)) (w.heap.size + 1)
      obtain ⟨Z, hZ⟩ : ∃ z, z = w2.heap.size := ⟨_, rfl⟩
      have hZr : Z ≠ r := by omega
      have hZw : w.heap.size + 1 ≤ Z := by omega
      rw [← hZ] at hD4
      clear hN hPP hM3 hA3 hK3 HM2 HA2 HK2 hg hk
      go_wp2_with fail
      rw [← hZ]
      have HZZ := Lib.hid hZ
      clear m0 m1 m2 m3 m4 m5 hZ
      generalize w2.alloc (.cells #[.int .i64 3, .string ⟨#[]⟩, .string ⟨t1.toArray⟩, .slice none 0 0, .int .i64 file, .int .i64 t3, .int .i64 t4] 34) = w4 at *
      go_loopg [9] N (fun f x wr => ∃ (j : Nat) (ps : List PartT) (sep : List UInt8) (pv : Value), x = .string ⟨sep.toArray⟩ ∧ Hid (partsR L f sep j ps = PP) ∧ L.length < j + f ∧ i + 1 ≤ j ∧ ps.length ≤ j ∧ PartsRow wr (w.heap.size + 1) pv ps ∧ SrcAt wr r base file L lv ov j D ∧ Keeps (· = r) w wr ∧ Holds wr Z #[.int .i64 3, .string ⟨#[]⟩, .string ⟨t1.toArray⟩, pv, .int .i64 file, .int .i64 t3, .int .i64 t4] 34)
      case atStart => exact ⟨i + 1, [], [61], .slice none 0 0, rfl, HPP, hfu, Nat.le_refl _, Nat.zero_le _, hps0, hA4, hK4, hD4⟩
      case round =>
        obtain ⟨j, ps, sep, pv, rfl, hR, hfj, hij, hpl, hps, hA, hK, hD⟩ := hrel
        obtain ⟨va, vc, rfl⟩ := hps.slice
        have hjl := hA.lt
        obtain ⟨f, hf⟩ : ∃ f, gk = f + 1 := ⟨gk - 1, by omega⟩
        have hS := hR.out
        rw [hf, partsR] at hS
        have hi1 := src_is wr r base file L lv ov j D hA 4 sep
        go_wp2_with fail
        refine hi1.mono ?_
        rintro e w5 ⟨rfl, hb5⟩
        have kb5 : Keeps (fun _ => False) wr w5 := Keeps.of_fresh hb5 _
        have hA5 := hA.keeps kb5
        have hD5 := hD.keeps kb5 (fun e => e)
        have hK5 := hK.trans kb5 (S := (· = r)) (fun _ _ e => e.elim)
        have hps5 := hps.keeps kb5 (Apart3.nil _)
        clear hi1 hR hb5 hA hD hK hps kb5
        cases hk : isK L j 4 sep with
        | true =>
          rw [hk, if_pos rfl] at hS
          have hjn := isK_next HOK.out hjl hk (by decide)
          obtain ⟨hA6, k6⟩ := hA5.step hjn
          have hD6 := hD5.keeps k6 hZr
          have hK6 := hK5.trans k6 (S := (· = r)) (fun _ _ e => e)
          have hps6 := hps5.keeps k6 (Apart3.one hA5.holds (by decide) (by decide) (by decide))
          obtain ⟨c1, c1f, crl, _⟩ := hA5.at1
          have hpt := src_part _ r base file L lv ov (j + 1) D hA6
          unfold PartOut at hpt
          have HA6 := Lib.hid hA6
          have HD6 := Lib.hid hD6
          have HK6 := Lib.hid hK6
          have HP6 := Lib.hid hps6
          clear hA5 hD5 hK5 hps5 hA6 k6 hD6 hK6 hps6
          generalize partR L (j + 1) = PR at *
          cases PR with
          | ok q =>
            obtain ⟨k, p⟩ := q
            simp only at hS hpt
            go_wp2_with fail
            refine (by exact hpt : Calls _ _ _ _ _).mono ?_
            rintro e w7 ⟨hk7, cv, rfl, hrow7, hA7, hj7⟩
            unfold partAgg
            obtain ⟨ca, cc, rfl⟩ := hrow7.slice
            have hw7 := HK6.out.size
            have hzl := HD6.out.lt
            have kx7 : Keeps (· = r) (w5.setCell ⟨r, 1, none⟩ (.int .i64 ((j : Int) + 1))) (w7.alloc (.cells #[.int .i64 p.kind, .slice ca p.cells.length cc, .string p.text] 75)) := hk7.alloc _
            have hap := Apart3.one HA6.out.holds (by decide) (by decide) (by decide)
            have hA8 := hA7.alloc (.cells #[.int .i64 p.kind, .slice ca p.cells.length cc, .string p.text] 75)
            have hD8 := HD6.out.keeps kx7 hZr
            have hK8 := HK6.out.trans kx7 (S := (· = r)) (fun _ _ e => e)
            have hP8 := HP6.out.keeps kx7 hap
            have hC8 : CellsRow (w7.alloc (.cells #[.int .i64 p.kind, .slice ca p.cells.length cc, .string p.text] 75)) (w.heap.size + 1) (.slice ca p.cells.length cc) p.cells := (hrow7.lower (by omega)).keeps ((Keeps.refl (fun _ => False) w7).alloc _) (Apart3.nil _)
            have hB8 := Holds.new w7 #[.int .i64 p.kind, .slice ca p.cells.length cc, .string p.text] 75
            obtain ⟨vs, hvl, hrow8, hsub⟩ := hP8
            have hs8 := hK8.size
            obtain ⟨p0, p1, p2, _⟩ := three hB8
            obtain ⟨y0, y1, y2, y3, y4, y5, y6⟩ := seven_cells hD8
            have yf := hD8.free 3
            have yl := hD8.lt
            obtain ⟨i0, hi, hz0, hz1, hz2⟩ := info_parts infoPart
            have HOWN := Lib.hid (World.ownsRow.alloc hrow8 (.cells #[.int .i64 p.kind, .slice ca p.cells.length cc, .string p.text] 75))
            have HD8 := Lib.hid hD8
            have HA8 := Lib.hid hA8
            have HK8 := Lib.hid hK8
            have HC8 := Lib.hid hC8
            have HR8 := Lib.hid hrow8
            have HSUB := Lib.hid hsub
            have HS := Lib.hid hS
            have hbase : w.heap.size + 1 ≤ w7.heap.size + 1 := by have := hD8.lt; simp at this; omega
            clear hpt hk7 hrow7 hA7 kx7 hap hA8 hD8 hK8 hC8 hB8 hrow8 hsub hS HA6 HD6 HK6 HP6 c1 c1f crl hs8
            go_wp2_with (at_builtin; refine wpList_append_own _ rfl _ _ 32 rfl (w.heap.size + 1) 75 i0 _ 3 48 Tryz.underlying32 hi hz0 hz1 hz2 rfl (by decide) _ _ _ rfl (by exact HOWN.out) ⟨w7.heap.size + 1, 0, none⟩ 1 1 [.int .i64 p.kind, .slice ca p.cells.length cc, .string p.text] rfl rfl (new_cells _ _ _ _ (by simp) _ rfl) (by intro u hu; simp only [List.mem_cons, List.not_mem_nil, or_false] at hu; rcases hu with rfl | rfl | rfl <;> rfl) (by unfold maxLen; omega) (by omega) (by simp; omega) ?_)
            intro v' w9 hown' hgrow _
            obtain ⟨va', vc', rfl⟩ := row_slice hown'
            have kg : Keeps (fun b => (Value.slice va ps.length vc).ownBlock = some b) (w7.alloc (.cells #[.int .i64 p.kind, .slice ca p.cells.length cc, .string p.text] 75)) w9 := ((Keeps.refl _ _).alloc _).grown hgrow (fun g hg => .inr hg)
            have hne := fun (b : Nat) (xs : Array Value) (t : TypeId) (hx : Holds (w7.alloc (.cells #[.int .i64 p.kind, .slice ca p.cells.length cc, .string p.text] 75)) b xs t) (hn : t ≠ 75) => owns_ne HR8.out hx hn
            have hD9 := HD8.out.keeps kg (hne _ _ _ HD8.out (by decide))
            have hH9 := HA8.out.holds.keeps kg (hne _ _ _ HA8.out.holds (by decide))
            have hK9 : Keeps (· = r) w w9 := (HK8.out.alloc (.cells #[.int .i64 p.kind, .slice ca p.cells.length cc, .string p.text] 75)).grown hgrow (fun g hg => by have := (own_lt HOWN.out hg).2.1; left; omega)
            have hcs := fun (v : Value) (cs : List CellT) (hc : CellsRow (w7.alloc (.cells #[.int .i64 p.kind, .slice ca p.cells.length cc, .string p.text] 75)) (w.heap.size + 1) v cs) => ownsRow_keeps hc kg (fun g hg e => by
              obtain ⟨_, _, cur, q⟩ := own_lt HR8.out e
              exact owns_ne hc q (by decide) hg)
            have hps9 : PartsRow w9 (w.heap.size + 1) (.slice va' (ps.length + 1) vc') (ps ++ [p]) := by
              refine ⟨vs ++ [.slice ca p.cells.length cc], by simp [hvl], ?_, fun m hm hm2 => ?_⟩
              · rw [partCells_snoc ps vs p _ hvl, List.length_append]
                exact hown'
              · by_cases e : m < ps.length
                · rw [List.getElem_append_left (by omega), List.getElem_append_left e]
                  exact hcs _ _ (HSUB.out m e (by omega))
                · have hml : m = ps.length := by simp at hm; omega
                  subst hml
                  rw [List.getElem_append_right (by omega), List.getElem_append_right (by omega)]
                  simp only [hvl, Nat.sub_self, List.getElem_cons_zero]
                  exact hcs _ _ HC8.out
            have k10 := (Keeps.refl (· = Z) w9).setCell (p := ⟨Z, 3, none⟩) (.inr rfl) (.slice va' (ps.length + 1) vc')
            have hps10 : PartsRow (w9.setCell ⟨Z, 3, none⟩ (.slice va' (ps.length + 1) vc')) (w.heap.size + 1) (.slice va' (ps.length + 1) vc') (ps ++ [p]) := by
              obtain ⟨us, u1, u2, u3⟩ := hps9
              exact ⟨us, u1, ownsRow_keeps u2 k10 (fun g hg e => by cases e; exact owns_ne u2 hD9 (by decide) hg), fun m a b => ownsRow_keeps (u3 m a b) k10 (fun g hg e => by cases e; exact owns_ne (u3 m a b) hD9 (by decide) hg)⟩
            have hH10 := hH9.keeps k10 (Ne.symm hZr)
            have hK10 := hK9.setCell (p := ⟨Z, 3, none⟩) (.inl (show w.heap.size ≤ Z by omega)) (.slice va' (ps.length + 1) vc')
            have hA10 := HH.out.from hK10 hH10 HA8.out.lt (by omega)
            have hD10 := hD9.set 3 (.slice va' (ps.length + 1) vc')
            obtain ⟨_, _, _, x3, _⟩ := seven_cells hD9
            have x3f := hD9.free 3
            have x3l := hD9.lt
            have HP10 := Lib.hid hps10
            have HA10 := Lib.hid hA10
            have HK10 := Lib.hid hK10
            have HD10 := Lib.hid hD10
            clear hown' hgrow kg hne hD9 hH9 hK9 hcs hps9 k10 hps10 hH10 hK10 hA10 hD10 y0 y1 y2 y3 y4 y5 y6 yf yl p0 p1 p2 hbase HOWN
            go_wp2_with fail
            go_roundg (gk - 1)
            case measure => omega
            case rel =>
              refine ⟨k, _, [44], _, rfl, ?_, by omega, by omega, by simp; omega, HP10.out, HA10.out, HK10.out, HD10.out⟩
              rw [hf, Nat.add_sub_cancel]
              exact HS
          | error q =>
            obtain ⟨k, c⟩ := q
            simp only at hS hpt
            subst hS
            simp only at hRR
            subst hRR
            go_wp2_with fail
            refine (by exact hpt : Calls _ _ _ _ _).mono ?_
            rintro e w7 ⟨hk7, v, rfl, ⟨ea, ex, en, ec, es, rfl⟩, hbad⟩
            have hb7 := HH.out.below (HK6.out.trans hk7 (S := (· = r)) (fun _ _ e => e))
            have hbx := hb7.alloc (Nat.le_trans HH.out.size (HK6.out.trans hk7 (S := (· = r)) (fun _ _ e => e)).size) (.cells #[.int .i64 ea, .slice ex en ec, .string es] 75)
            have hbad2 := hbad.alloc (.cells #[.int .i64 ea, .slice ex en ec, .string es] 75)
            clear hpt
            go_wp2_with fail
            go_ret
            exact ⟨hbx, rfl, ov, hbad2⟩
        | false =>
          rw [hk, if_neg (by simp)] at hS
          subst hS
          simp only at hRR
          subst hRR
          have hnt := src_note w5 r base file lv (.int .i64 j) ov (.pointer none) D ⟨3, ⟨#[]⟩, ⟨t1.toArray⟩, ps, t3, t4⟩ (.slice va ps.length vc) hA5.raw (hps5.lower (by omega)) (by have := hA5.cnt; omega)
          unfold defAgg at hnt
          obtain ⟨y0, y1, y2, y3, y4, y5, y6⟩ := seven_cells hD5
          have hbk := HH.out.below hK5
          have HA5 := Lib.hid hA5
          clear hps5 hA5 hK5 hD5
          go_wp2_with fail
          refine (by exact hnt : Calls _ _ _ _ _).mono ?_
          rintro e w6 ⟨rfl, ov', hraw6, hk6⟩
          have hA6 := HA5.out.noted hraw6 hk6 (by omega)
          have hb6 := hbk.trans (HA5.out.raw.noteBelow hk6)
          go_wp2_with fail
          go_ret
          exact ⟨hb6, rfl, ov', hA6, by omega⟩
end Go.Proofs.YtofhcgbihonckaaGreat
namespace Go.Proofs.YtofhcgbihonckaaGreat
open Go.RowKit
section
variable {w w' : World} {r base : Nat} {file : Int} {L : List Tok} {lv ov ov' : Value} {i : Nat} {D : List DefT} {d : DefT}
theorem SrcAt.noteStep (h : SrcAt w r base file L lv ov i D) (hr : SrcR w' r base file lv (.int .i64 i) ov' (.pointer none) (D ++ [d])) (k : Keeps (fun b => b = r ∨ ov.ownBlock = some b) w w') (hl : i + 1 < L.length) :
    SrcAt (w'.setCell ⟨r, 1, none⟩ (.int .i64 ((i : Int) + 1))) r base file L lv ov' (i + 1) (D ++ [d]) ∧ Below base w (w'.setCell ⟨r, 1, none⟩ (.int .i64 ((i : Int) + 1))) ∧ w'.cell? ⟨r, 1, none⟩ = some (.int .i64 i) ∧ w'.frozen? ⟨r, 1, none⟩ = false ∧ r < w'.heap.size := by
  have k2 := (Keeps.refl (· = r) w').setCell (p := ⟨r, 1, none⟩) (.inr rfl) (.int .i64 ((i : Int) + 1))
  have e1 : (i : Int) + 1 = ((i + 1 : Nat) : Int) := by omega
  have hH := hr.1.set 1 (.int .i64 ((i : Int) + 1))
  have hap := Apart3.one hr.1 (by decide) (by decide) (by decide)
  have hT : TokIn base w' lv file L := h.toks.keeps k (fun b e => by
    rcases e with rfl | e
    · exact h.low
    · obtain ⟨vs, _, hrow, _⟩ := h.defs
      exact (own_lt hrow e).2.1)
  refine ⟨⟨by rw [← e1]; exact hH, hT.keeps k2 (fun b e => by cases e; exact h.low), hr.2.1.keeps k2 hap, hr.2.2.1, Nat.le_trans hr.2.2.2 k2.size, hl, h.ok, by have := h.cnt; simp; omega⟩, (h.raw.noteBelow k).trans (k2.below hr.2.2.2 (fun j hj e => by have := h.low; omega)), hr.1.cell 1, hr.1.free 1, hr.1.lt⟩
end
theorem tok_field (a b : Int) (s : ByteArray) (file l q : Int) (wx : World) : (Instr.field 65 (.agg #[.int .i64 a, .string s, .int .i64 b, .int .i64 file, .int .i64 l, .int .i64 q]) 3).run Tryz.prog wx = .ok (.agg #[.int .i64 file, .int .i64 l, .int .i64 q]) wx := by kernel_rfl
set_option maxRecDepth 100000 in
set_option maxHeartbeats 8000000 in
theorem src_body (r base : Nat) (file : Int) (L : List Tok) (lv : Value) (n : Nat) (hM : ∀ m, m < n → MemberC r base file L lv m) : BodyC r base file L lv (n + 1) := by
  intro w ov i D d dp h hdp0 hn hdp
  have HMC := Lib.hid hM
  have HOK := Lib.hid h.ok
  have hil := h.lt
  have hbsz := h.size
  have hrl := h.holds.lt
  have hlen := h.ok.len
  have HH := Lib.hid h
  have hRR : ∃ R, srcE L (n + 1) (.body d dp) i = R := ⟨_, rfl⟩
  obtain ⟨RR, hRR⟩ := hRR
  rw [hRR]
  rw [srcE] at hRR
  unfold defAgg
  have hb0 : Below w.heap.size w (w.alloc (.cells (defRow file d (.slice none 0 0)) 34)) := (Below.refl _ _).alloc (Nat.le_refl _) _
  have hD0 := Holds.new w (defRow file d (.slice none 0 0)) 34
  have hA1 := h.alloc (.cells (defRow file d (.slice none 0 0)) 34)
  unfold defRow at hb0 hD0 hA1
  have hi1 := src_is _ r base file L lv ov i D hA1 4 [123]
  have HNX := Lib.hid (fun wx ovx jx Dx hx => src_next wx r base file L lv ovx jx Dx hx)
  have HFL := Lib.hid (fun wx hx => src_fail wx r base file L lv ov i D hx i 3)
  have HSG := Lib.hid (fun wx hx => src_sign wx r base file L lv ov i D hx [123])
  clear hM h
  go_enter Tryz.func55, Tryz.ntmps55
  go_wp2_with fail
  refine (by exact hi1 : Calls _ _ _ _ _).mono ?_
  rintro e w2 ⟨rfl, hb2⟩
  have kb2 : Keeps (fun _ => False) _ w2 := Keeps.of_fresh hb2 _
  have k02 : Keeps (fun _ => False) w w2 := (Keeps.of_fresh hb0 (fun _ => False)).trans kb2 (fun _ _ e => e)
  have hA2 := hA1.keeps kb2
  have hD2 := hD0.keeps kb2 (fun e => e)
  have hzr : w.heap.size ≠ r := by omega
  clear hi1 hb2 kb2 hA1 hD0 hb0
  cases hk : isK L i 4 [123] with
  | true =>
    rw [hk, if_pos rfl] at hRR
    by_cases h8 : 8 < dp
    · rw [if_pos h8] at hRR
      subst hRR
      have h8I : (8 : Int) < (dp : Int) := by omega
      have hnx := HNX.out w2 ov i D hA2
      have hbw := HH.out.below (k02.mono (S := (· = r)) (fun _ _ e => e.elim))
      clear h8
      go_wp2_with fail
      refine (by exact hnx : Calls _ _ _ _ _).mono ?_
      rintro e w3 ⟨rfl, hb3⟩
      have kb3 : Keeps (fun _ => False) w2 w3 := Keeps.of_fresh hb3 _
      have hff := HFL.out w3 (hA2.keeps kb3)
      have hA3 := hA2.keeps kb3
      have hb4 := hbw.trans (hA2.below (kb3.mono (S := (· = r)) (fun _ _ e => e.elim)))
      unfold tokAgg at hff
      unfold tokAgg
      clear hnx hb3 kb3
      go_wp2_with fail
      refine (by exact hff : Calls _ _ _ _ _).mono ?_
      rintro e w4 ⟨rfl, hbad, hk4⟩
      have hb5 := hb4.trans (hA3.below hk4)
      go_wp2_with fail
      go_ret
      exact ⟨hb5, rfl, ov, hbad⟩
    · rw [if_neg h8] at hRR
      have h8I : ¬ (8 : Int) < (dp : Int) := by omega
      have h8D : decide ((8 : Int) < (dp : Int)) = false := by simp; omega
      have hsg := HSG.out w2 hA2
      unfold SignOut at hsg
      rw [hk] at hsg
      clear h8
      go_wp2_with fail
      refine (by exact hsg : Calls _ _ _ _ _).mono ?_
      rintro e w3 ⟨rfl, hk3, hy, _⟩
      have hA3 := hy (by trivial)
      have hD3 := hD2.keeps hk3 hzr
      have hb3 := HH.out.below ((k02.mono (S := (· = r)) (fun _ _ e => e.elim)).trans hk3 (S := (· = r)) (fun _ _ e => e))
      have hnt := src_note w3 r base file lv (.int .i64 ((i + 1 : Nat) : Int)) ov (.pointer none) D d (.slice none 0 0) hA3.raw (by rw [hdp0]; exact PartsRow.none _ _) (by have := hA3.cnt; omega)
      unfold defAgg at hnt
      obtain ⟨y0, y1, y2, y3, y4, y5, y6⟩ := seven_cells hD3
      have HA3 := Lib.hid hA3
      have hc0 := HH.out.cnt
      clear hsg hy hk3 hA2 hD2 hA3 hD3 k02
      go_wp2_with fail
      refine (by exact hnt : Calls _ _ _ _ _).mono ?_
      rintro e w4 ⟨rfl, ov4, hraw4, hk4⟩
      have hA4 := HA3.out.noted hraw4 hk4 (by omega)
      have hb4 := hb3.trans (HA3.out.raw.noteBelow hk4)
      have HRR := Lib.hid hRR
      clear hnt hraw4 hk4 y0 y1 y2 y3 y4 y5 y6 hb3 hRR
      go_wp2_with fail
      go_loopg [] n (fun f wr => ∃ (j : Nat) (acc : List DefT) (ov' : Value), Hid (srcE L f (.mems dp acc) j = RR) ∧ 3 * (L.length - j) + 1 ≤ f ∧ f ≤ n ∧ i < j ∧ SrcAt wr r base file L lv ov' j (D ++ acc) ∧ Below base w wr)
      case atStart => exact ⟨i + 1, [d], ov4, HRR, by omega, Nat.le_refl _, by omega, hA4, hb4⟩
      case round =>
        obtain ⟨j, acc, ov', hR, hfj, hfn, hij, hA, hb⟩ := hrel
        have hjl := hA.lt
        obtain ⟨f, hf⟩ : ∃ f, gk = f + 1 := ⟨gk - 1, by omega⟩
        have hS := hR.out
        rw [hf, srcE] at hS
        have hi1 := src_is wr r base file L lv ov' j _ hA 4 [125]
        go_wp2_with fail
        refine hi1.mono ?_
        rintro e w5 ⟨rfl, hb5⟩
        have kb5 : Keeps (fun _ => False) wr w5 := Keeps.of_fresh hb5 _
        have hA5 := hA.keeps kb5
        have hb6 := hb.trans (hA.below (kb5.mono (S := (· = r)) (fun _ _ e => e.elim)))
        clear hi1 hR hb5 hA hb kb5
        cases hk : isK L j 4 [125] with
        | true =>
          rw [hk, if_pos rfl] at hS
          subst hS
          have hjn := isK_next HOK.out hjl hk (by decide)
          have hnx := HNX.out w5 ov' j _ hA5
          unfold tokAgg at hnx
          generalize tkN L j = t at *
          obtain ⟨t0, t1, t2, t3, t4⟩ := t
          simp only at hnx
          have hfd := tok_field t0 t2 ⟨t1.toArray⟩ file t3 t4
          go_wp2_with fail
          refine (by exact hnx : Calls _ _ _ _ _).mono ?_
          rintro e w6 ⟨rfl, hbx⟩
          have kb6 : Keeps (fun _ => False) w5 w6 := Keeps.of_fresh hbx _
          have hA6 := hA5.keeps kb6
          have hb7 := hb6.trans (hA5.below (kb6.mono (S := (· = r)) (fun _ _ e => e.elim)))
          have hnt := src_note w6 r base file lv (.int .i64 j) ov' (.pointer none) (D ++ acc) ⟨2, ⟨#[]⟩, ⟨#[]⟩, [], t3, t4⟩ (.slice none 0 0) hA6.raw (PartsRow.none _ _) (by have := hA6.cnt; omega)
          unfold defAgg at hnt
          have HA6 := Lib.hid hA6
          clear hnx hbx kb6 hA5 hb6 hA6
          go_wp2_with fail
          refine (by exact hnt : Calls _ _ _ _ _).mono ?_
          rintro e w7 ⟨rfl, ov7, hraw7, hk7⟩
          obtain ⟨hA8, hb8, c1, c1f, crl⟩ := HA6.out.noteStep hraw7 hk7 hjn
          have hj6 : j < 6001 := by omega
          have hb9 := hb7.trans hb8
          rw [List.append_assoc] at hA8
          have HA8 := Lib.hid hA8
          have HB9 := Lib.hid hb9
          clear hnt hraw7 hk7 hA8 hb8 hb9 hb7
          go_wp2_with fail
          go_ret
          exact ⟨HB9.out, rfl, ov7, HA8.out, by omega⟩
        | false =>
          rw [hk, if_neg (by simp)] at hS
          have hmb := HMC.out f (by omega) w5 ov' j (D ++ acc) dp hA5 (by omega) (by omega)
          unfold SrcOut at hmb
          generalize srcE L f (.member dp) j = MR at *
          go_wp2_with fail
          refine (by exact hmb : Calls _ _ _ _ _).mono ?_
          rintro e w6 ⟨hbx, hm⟩
          have hb7 := hb6.trans hbx
          clear hmb hbx hb6 hA5
          cases MR with
          | ok q =>
            obtain ⟨k, ds⟩ := q
            simp only at hm hS
            obtain ⟨rfl, ov6, hA6, hjk⟩ := hm
            rw [List.append_assoc] at hA6
            have HS := Lib.hid hS
            clear hS
            go_wp2_with fail
            go_roundg (gk - 1)
            case measure => omega
            case rel =>
              refine ⟨k, acc ++ ds, ov6, ?_, by omega, by omega, by omega, hA6, hb7⟩
              rw [hf, Nat.add_sub_cancel]
              exact HS
          | error q =>
            obtain ⟨k, c⟩ := q
            simp only at hm hS
            obtain ⟨rfl, ov6, hbad⟩ := hm
            subst hS
            go_wp2_with fail
            go_ret
            exact ⟨hb7, rfl, ov6, hbad⟩
  | false =>
    rw [hk, if_neg (by simp)] at hRR
    subst hRR
    have hsg := HSG.out w2 hA2
    unfold SignOut at hsg
    rw [hk] at hsg
    go_wp2_with fail
    refine (by exact hsg : Calls _ _ _ _ _).mono ?_
    rintro e w3 ⟨rfl, hk3, _, hn3⟩
    have hA3 := hn3 (by trivial)
    have hb3 := HH.out.below ((k02.mono (S := (· = r)) (fun _ _ e => e.elim)).trans hk3 (S := (· = r)) (fun _ _ e => e))
    clear hsg hn3 hk3
    go_wp2_with fail
    go_ret
    exact ⟨hb3, rfl, ov, hA3⟩
end Go.Proofs.YtofhcgbihonckaaGreat
namespace Go.Proofs.YtofhcgbihonckaaGreat
open Go.RowKit
set_option maxRecDepth 100000 in
set_option maxHeartbeats 8000000 in
theorem src_member (r base : Nat) (file : Int) (L : List Tok) (lv : Value) (n : Nat) (hB : BodyC r base file L lv n) (hNm : NamedC r base file L lv n) : MemberC r base file L lv (n + 1) := by
  intro w ov i D dp h hn hdp
  have HBC := Lib.hid hB
  have HNC := Lib.hid hNm
  have HOK := Lib.hid h.ok
  have hil := h.lt
  have hrl := h.holds.lt
  have hlen := h.ok.len
  have hcnt := h.cnt
  have HH := Lib.hid h
  have hRR : ∃ R, srcE L (n + 1) (.member dp) i = R := ⟨_, rfl⟩
  obtain ⟨RR, hRR⟩ := hRR
  rw [hRR]
  rw [srcE] at hRR
  have hnx := src_next w r base file L lv ov i D h
  have HT5 := Lib.hid (fun wx hx => src_taken wx r base file L lv ov i D hx 5 (by decide) 53 labelT tells_label)
  have htr : takenR L 5 labelT i = if (tkN L i).kind = 5 then (if labelT (tkN L i).text = true then .ok (i + 1) else .error (i, 1)) else .error (i, 6) := rfl
  have HD1 := Lib.hid (fun wx hx hk8 => src_deletes wx r base file L lv ov i D hx 4 1 [] 125 propT tellsT_prop (by decide) hk8 (by decide))
  have HD2 := Lib.hid (fun wx hx hk8 => src_deletes wx r base file L lv ov i D hx 5 1 [] 123 nameT tellsT_name (by decide) hk8 (by decide))
  have HFL := Lib.hid (fun wx hx => src_fail wx r base file L lv ov i D hx i 6)
  have HKW := Lib.hid (fun s (hs : isK L i 7 s = true) => show (tkN L i).kind ≠ 8 from by
    unfold isK at hs
    simp only [Bool.and_eq_true, decide_eq_true_eq] at hs
    rw [hs.1]; decide)
  have HNM := Lib.hid (fun (wx : World) (hx : SrcAt wx r base file L lv ov i D) (h1 : (tkN L i).kind = 1) => HNC.out wx ov i D dp hx h1 (by omega) (by omega))
  rw [htr] at hRR
  unfold TakenOut at HT5
  rw [htr] at HT5
  unfold txN at hRR
  unfold tokAgg at hnx HT5 HFL HNM
  clear htr hB hNm h
  obtain ⟨t, htk⟩ : ∃ t, t = tkN L i := ⟨_, rfl⟩
  rw [← htk] at hnx HT5 HFL HNM HKW HD1 HD2 hRR
  have HTK := Lib.hid htk
  clear htk
  obtain ⟨t0, t1, t2, t3, t4⟩ := t
  simp only at hnx HT5 HFL HNM HKW HD1 HD2 hRR
  go_enter Tryz.func95, Tryz.ntmps95
  go_wp2_with fail
  refine (by exact hnx : Calls _ _ _ _ _).mono ?_
  rintro e w1 ⟨rfl, hb1⟩
  have kb1 : Keeps (fun _ => False) w (w1.alloc (.cells #[.int .i64 t0, .string ⟨t1.toArray⟩, .int .i64 t2, .int .i64 file, .int .i64 t3, .int .i64 t4] 65)) := (Keeps.of_fresh hb1 (fun _ => False)).alloc _
  have hA1 := HH.out.keeps kb1
  have hM1 := Holds.new w1 #[.int .i64 t0, .string ⟨t1.toArray⟩, .int .i64 t2, .int .i64 file, .int .i64 t3, .int .i64 t4] 65
  have hw1 := HH.out.below (kb1.mono (S := (· = r)) (fun _ _ e => e.elim))
  have hmr : w1.heap.size ≠ r := by have := hb1.size; omega
  obtain ⟨m0, m1, m2, m3, m4, m5⟩ := six_cells hM1
  clear hnx hb1 kb1
  by_cases h5 : t0 = 5
  · subst h5
    rw [if_pos rfl] at hRR
    cases hg : labelT t1 with
    | false =>
      simp only [hg, Bool.false_eq_true, reduceIte] at hRR
      subst hRR
      have htk := HT5.out _ hA1
      simp only [hg, Bool.false_eq_true, reduceIte] at htk
      have HA1 := Lib.hid hA1
      clear hA1 hM1
      go_wp2_with fail
      refine (by exact htk : Calls _ _ _ _ _).mono ?_
      rintro e w3 ⟨hk3, rfl, hbad⟩
      have hw3 := (hw1.trans (HA1.out.below hk3)).alloc (Nat.le_trans HA1.out.size hk3.size) (.cells #[.int .i64 5, .string ⟨t1.toArray⟩, .int .i64 t2, .int .i64 file, .int .i64 t3, .int .i64 t4] 65)
      have hbad2 := hbad.alloc (.cells #[.int .i64 5, .string ⟨t1.toArray⟩, .int .i64 t2, .int .i64 file, .int .i64 t3, .int .i64 t4] 65)
      clear htk hbad hk3
      go_wp2_with fail
      go_ret
      exact ⟨hw3, rfl, ov, hbad2⟩
    | true =>
      simp only [hg, reduceIte] at hRR
      have htk := HT5.out _ hA1
      simp only [hg, reduceIte] at htk
      have HA1 := Lib.hid hA1
      have HM1 := Lib.hid hM1
      clear hA1 hM1
      go_wp2_with fail
      refine (by exact htk : Calls _ _ _ _ _).mono ?_
      rintro e w3 ⟨hk3, rfl, hA3⟩
      have hw3 := (hw1.trans (HA1.out.below hk3)).alloc (Nat.le_trans HA1.out.size hk3.size) (.cells #[.int .i64 5, .string ⟨t1.toArray⟩, .int .i64 t2, .int .i64 file, .int .i64 t3, .int .i64 t4] 65)
      have hA4 := hA3.alloc (.cells #[.int .i64 5, .string ⟨t1.toArray⟩, .int .i64 t2, .int .i64 file, .int .i64 t3, .int .i64 t4] 65)
      have hM4 := (HM1.out.keeps hk3 hmr).alloc (.cells #[.int .i64 5, .string ⟨t1.toArray⟩, .int .i64 t2, .int .i64 file, .int .i64 t3, .int .i64 t4] 65)
      have hlt3 : w1.heap.size < w3.heap.size := by have := (HM1.out.keeps hk3 hmr).lt; exact this
      have htn := src_taken _ r base file L lv ov (i + 1) D hA4 1 (by decide) 123 nameT tellsT_name
      have hTj := Lib.hid (fun j => takenR_ok (L := L) (kind := 1) (right := nameT) (i := i + 1) (j := j))
      unfold TakenOut tokAgg at htn
      have HA4 := Lib.hid hA4
      have HM4 := Lib.hid hM4
      clear htk hA3 hA4 hM4 hk3 hw1 m0 m1 m2 m3 m4 m5
      generalize takenR L 1 nameT (i + 1) = TR at *
      generalize tkN L (i + 1) = s at *
      obtain ⟨s0, s1, s2, s3, s4⟩ := s
      simp only at htn hRR
      go_wp2_with fail
      refine (by exact htn : Calls _ _ _ _ _).mono ?_
      rintro e w5 ⟨hk5, hm⟩
      have hw5 := (hw3.trans (HA4.out.below hk5)).alloc (Nat.le_trans HA4.out.size hk5.size) (.cells #[.int .i64 s0, .string ⟨s1.toArray⟩, .int .i64 s2, .int .i64 file, .int .i64 s3, .int .i64 s4] 65)
      have hM6 := (HM4.out.keeps hk5 hmr).alloc (.cells #[.int .i64 s0, .string ⟨s1.toArray⟩, .int .i64 s2, .int .i64 file, .int .i64 s3, .int .i64 s4] 65)
      have hS6 := Holds.new w5 #[.int .i64 s0, .string ⟨s1.toArray⟩, .int .i64 s2, .int .i64 file, .int .i64 s3, .int .i64 s4] 65
      obtain ⟨m0, m1, m2, m3, m4, m5⟩ := six_cells hM6
      obtain ⟨n0, n1, n2, n3, n4, n5⟩ := six_cells hS6
      clear htn hM6 hS6 hw3 hk5
      cases TR with
      | error q =>
        obtain ⟨k, c⟩ := q
        simp only at hm hRR
        obtain ⟨rfl, hbad⟩ := hm
        subst hRR
        have hbad2 := hbad.alloc (.cells #[.int .i64 s0, .string ⟨s1.toArray⟩, .int .i64 s2, .int .i64 file, .int .i64 s3, .int .i64 s4] 65)
        clear hbad
        go_wp2_with fail
        go_ret
        exact ⟨hw5, rfl, ov, hbad2⟩
      | ok j =>
        simp only at hm hRR
        obtain ⟨rfl, hA5⟩ := hm
        have hj := hTj.out j rfl
        subst hj
        have hA6 := hA5.alloc (.cells #[.int .i64 s0, .string ⟨s1.toArray⟩, .int .i64 s2, .int .i64 file, .int .i64 s3, .int .i64 s4] 65)
        obtain ⟨dq, hdq⟩ : ∃ z, z = dp + 1 := ⟨_, rfl⟩
        have hdpI : (dp : Int) + 1 = (dq : Int) := by omega
        have hdq2 : dq ≤ 100 := by omega
        rw [← hdq] at hRR
        clear hdq
        have hbd := HBC.out _ ov (i + 1 + 1) D ⟨1, ⟨t1.toArray⟩, ⟨s1.toArray⟩, [], t3, t4⟩ dq hA6 rfl (by omega) hdq2
        unfold defAgg SrcOut at hbd
        generalize srcE L n (.body ⟨1, ⟨t1.toArray⟩, ⟨s1.toArray⟩, [], t3, t4⟩ dq) (i + 1 + 1) = BR at *
        clear hA5 hA6
        go_wp2_with fail
        refine (by exact hbd : Calls _ _ _ _ _).mono ?_
        rintro e wd ⟨hbd2, hm⟩
        have hbe := hw5.trans hbd2
        clear hbd hw5 hbd2
        cases BR with
        | ok q =>
          obtain ⟨m, ds⟩ := q
          simp only at hm hRR
          obtain ⟨rfl, ovd, hAd, hjd⟩ := hm
          have hsg := src_sign wd r base file L lv ovd m _ hAd [59]
          unfold SignOut at hsg
          try unfold signR at hRR
          have HAq := Lib.hid hAd
          have HBq := Lib.hid hbe
          clear hAd hbe
          cases hq : isK L m 4 [59] with
          | true =>
            rw [hq, if_pos rfl] at hRR
            simp only at hRR
            subst hRR
            rw [hq] at hsg
            go_wp2_with fail
            refine (by exact hsg : Calls _ _ _ _ _).mono ?_
            rintro e wq ⟨rfl, hkq, hy, _⟩
            have hAq := hy (by trivial)
            have hbq := HBq.out.trans (HAq.out.below hkq)
            clear hsg hy hkq
            go_wp2_with fail
            go_ret
            exact ⟨hbq, rfl, ovd, hAq, by omega⟩
          | false =>
            rw [hq, if_neg (by simp)] at hRR
            simp only at hRR
            subst hRR
            rw [hq] at hsg
            go_wp2_with fail
            refine (by exact hsg : Calls _ _ _ _ _).mono ?_
            rintro e wq ⟨rfl, hkq, _, hy⟩
            have hAq := hy (by trivial)
            have hbq := HBq.out.trans (HAq.out.below hkq)
            clear hsg hy hkq
            go_wp2_with fail
            go_ret
            exact ⟨hbq, rfl, ovd, hAq⟩
        | error q =>
          obtain ⟨k, c⟩ := q
          simp only at hm hRR
          obtain ⟨rfl, ovd, hbad⟩ := hm
          subst hRR
          go_wp2_with fail
          go_ret
          exact ⟨hbe, rfl, ovd, hbad⟩
  · rw [if_neg h5] at hRR
    by_cases h1 : t0 = 1
    · subst h1
      rw [if_pos rfl] at hRR
      have hbd := HNM.out _ hA1 rfl
      unfold SrcOut at hbd
      generalize srcE L n (.named dp) i = BR at *
      have HM1 := Lib.hid hM1
      clear hM1 hA1
      go_wp2_with fail
      refine (by exact hbd : Calls _ _ _ _ _).mono ?_
      rintro e wd ⟨hbd2, hm⟩
      have hbe := hw1.trans hbd2
      clear hbd hw1 hbd2
      cases BR with
      | ok q =>
        obtain ⟨m, ds⟩ := q
        simp only at hm hRR
        obtain ⟨rfl, ovd, hAd, hjd⟩ := hm
        have hsg := src_sign wd r base file L lv ovd m _ hAd [59]
        unfold SignOut at hsg
        try unfold signR at hRR
        have HAq := Lib.hid hAd
        have HBq := Lib.hid hbe
        clear hAd hbe
        cases hq : isK L m 4 [59] with
        | true =>
          rw [hq, if_pos rfl] at hRR
          simp only at hRR
          subst hRR
          rw [hq] at hsg
          go_wp2_with fail
          refine (by exact hsg : Calls _ _ _ _ _).mono ?_
          rintro e wq ⟨rfl, hkq, hy, _⟩
          have hAq := hy (by trivial)
          have hbq := HBq.out.trans (HAq.out.below hkq)
          clear hsg hy hkq
          go_wp2_with fail
          go_ret
          exact ⟨hbq, rfl, ovd, hAq, by omega⟩
        | false =>
          rw [hq, if_neg (by simp)] at hRR
          simp only at hRR
          subst hRR
          rw [hq] at hsg
          go_wp2_with fail
          refine (by exact hsg : Calls _ _ _ _ _).mono ?_
          rintro e wq ⟨rfl, hkq, _, hy⟩
          have hAq := hy (by trivial)
          have hbq := HBq.out.trans (HAq.out.below hkq)
          clear hsg hy hkq
          go_wp2_with fail
          go_ret
          exact ⟨hbq, rfl, ovd, hAq⟩
      | error q =>
        obtain ⟨k, c⟩ := q
        simp only at hm hRR
        obtain ⟨rfl, ovd, hbad⟩ := hm
        subst hRR
        go_wp2_with fail
        go_ret
        exact ⟨hbe, rfl, ovd, hbad⟩
    · rw [if_neg h1] at hRR
      have hi1 := src_is _ r base file L lv ov i D hA1 7 [100, 101, 108, 101, 116, 101, 45, 112, 114, 111, 112, 101, 114, 116, 121]
      go_wp2_with fail
      refine (by exact hi1 : Calls _ _ _ _ _).mono ?_
      rintro e w2 ⟨rfl, hb2⟩
      have kb2 : Keeps (fun _ => False) _ w2 := Keeps.of_fresh hb2 _
      have hA2 := hA1.keeps kb2
      have hM2 := hM1.keeps kb2 (fun e => e)
      have hw2 := hw1.trans (hA1.below (kb2.mono (S := (· = r)) (fun _ _ e => e.elim)))
      clear hi1 hb2 kb2 hA1 hM1 hw1
      cases hk : isK L i 7 [100, 101, 108, 101, 116, 101, 45, 112, 114, 111, 112, 101, 114, 116, 121] with
      | true =>
        rw [hk, if_pos rfl] at hRR
        have hbd := HD1.out _ hA2 (HKW.out _ hk)
        rw [hRR] at hbd
        unfold SrcOut at hbd ⊢
        clear hRR hk
        go_wp2_with fail
        refine (by exact hbd : Calls _ _ _ _ _).mono ?_
        rintro e w3 ⟨hb3, hm⟩
        have hw3 := hw2.trans hb3
        clear hbd
        cases RR with
        | ok q =>
          obtain ⟨j, ds⟩ := q
          simp only at hm
          obtain ⟨rfl, ovd, hAd, hjd⟩ := hm
          go_wp2_with fail
          go_ret
          exact ⟨hw3, rfl, ovd, hAd, hjd⟩
        | error q =>
          obtain ⟨k, c⟩ := q
          simp only at hm
          obtain ⟨rfl, ovd, hbad⟩ := hm
          go_wp2_with fail
          go_ret
          exact ⟨hw3, rfl, ovd, hbad⟩
      | false =>
        rw [hk, if_neg (by simp)] at hRR
        have hi1 := src_is _ r base file L lv ov i D hA2 7 [100, 101, 108, 101, 116, 101, 45, 110, 111, 100, 101]
        go_wp2_with fail
        refine (by exact hi1 : Calls _ _ _ _ _).mono ?_
        rintro e w4 ⟨rfl, hb4⟩
        have kb4 : Keeps (fun _ => False) _ w4 := Keeps.of_fresh hb4 _
        have hA4 := hA2.keeps kb4
        have hM4 := hM2.keeps kb4 (fun e => e)
        have hw4 := hw2.trans (hA2.below (kb4.mono (S := (· = r)) (fun _ _ e => e.elim)))
        clear hi1 hb4 kb4 hA2 hM2 hw2 hk
        cases hk : isK L i 7 [100, 101, 108, 101, 116, 101, 45, 110, 111, 100, 101] with
        | true =>
          rw [hk, if_pos rfl] at hRR
          have hbd := HD2.out _ hA4 (HKW.out _ hk)
          rw [hRR] at hbd
          unfold SrcOut at hbd ⊢
          clear hRR hk
          go_wp2_with fail
          refine (by exact hbd : Calls _ _ _ _ _).mono ?_
          rintro e w5 ⟨hb5, hm⟩
          have hw5 := hw4.trans hb5
          clear hbd
          cases RR with
          | ok q =>
            obtain ⟨j, ds⟩ := q
            simp only at hm
            obtain ⟨rfl, ovd, hAd, hjd⟩ := hm
            go_wp2_with fail
            go_ret
            exact ⟨hw5, rfl, ovd, hAd, hjd⟩
          | error q =>
            obtain ⟨k, c⟩ := q
            simp only at hm
            obtain ⟨rfl, ovd, hbad⟩ := hm
            go_wp2_with fail
            go_ret
            exact ⟨hw5, rfl, ovd, hbad⟩
        | false =>
          rw [hk, if_neg (by simp)] at hRR
          subst hRR
          have hff := HFL.out _ hA4
          obtain ⟨x0, x1, x2, x3, x4, x5⟩ := six_cells hM4
          have HA4 := Lib.hid hA4
          clear hA4 hM4
          go_wp2_with fail
          refine (by exact hff : Calls _ _ _ _ _).mono ?_
          rintro e w5 ⟨rfl, hbad, hk5⟩
          have hw5 := hw4.trans (HA4.out.below hk5)
          go_wp2_with fail
          go_ret
          exact ⟨hw5, rfl, ov, hbad⟩
end Go.Proofs.YtofhcgbihonckaaGreat
namespace Go.Proofs.YtofhcgbihonckaaGreat
open Go.RowKit
theorem src_all (r base : Nat) (file : Int) (L : List Tok) (lv : Value) : ∀ n m, m ≤ n → BodyC r base file L lv m ∧ MemberC r base file L lv m ∧ NamedC r base file L lv m := by
  intro n
  induction n with
  | zero =>
    intro m hm
    obtain rfl : m = 0 := by omega
    refine ⟨fun w ov i D d dp h _ hn _ => ?_, fun w ov i D dp h hn _ => ?_, fun w ov i D dp h _ hn _ => ?_⟩
    all_goals
      have := h.lt
      omega
  | succ n ih =>
    intro m hm
    by_cases e : m = n + 1
    · subst e
      exact ⟨src_body r base file L lv n (fun m hm => (ih m (by omega)).2.1), src_member r base file L lv n (ih n (Nat.le_refl _)).1 (ih n (Nat.le_refl _)).2.2, src_named r base file L lv n (ih n (Nat.le_refl _)).1⟩
    · exact ih m (by omega)
theorem src_body_all {r base : Nat} {file : Int} {L : List Tok} {lv : Value} {w : World} {ov : Value} {i : Nat} {D : List DefT} (h : SrcAt w r base file L lv ov i D) (d : DefT) (hd : d.parts = []) :
    Calls Tryz.prog 55 #[.pointer (some ⟨r, 0, none⟩), defAgg file d (.slice none 0 0), .int .i64 0] w (SrcOut (srcE L (fuelS L) (.body d 0) i) r base file L lv i D w) :=
  (src_all r base file L lv (fuelS L) _ (Nat.le_refl _)).1 w ov i D d 0 h hd (by unfold fuelS; omega) (by omega)
set_option maxRecDepth 100000 in
theorem src_top1 (s : ByteArray) (w : World) : Calls Tryz.prog 58 #[.string s] w fun e w' => e = .returned (.bool true) ∧ w = w' := by
  go_enter Tryz.func58, Tryz.ntmps58
  go_wp2_with fail
  go_ret
  exact ⟨rfl, rfl⟩
theorem tellsT_any : TellsT 58 (fun _ => true) := ⟨enters_of Tryz.func58 (by kernel_rfl) rfl, fun s w _ => src_top1 s w⟩
set_option maxRecDepth 100000 in
set_option maxHeartbeats 8000000 in
theorem src_top (w : World) (r base : Nat) (file : Int) (L : List Tok) (lv ov : Value) (i : Nat) (D : List DefT) (h : SrcAt w r base file L lv ov i D) :
    Calls Tryz.prog 29 #[.pointer (some ⟨r, 0, none⟩)] w (SrcOut (topR L i) r base file L lv i D w) := by
  have HOK := Lib.hid h.ok
  have hil := h.lt
  have hrl := h.holds.lt
  have hlen := h.ok.len
  have hcnt := h.cnt
  have HH := Lib.hid h
  have hRR : ∃ R, topR L i = R := ⟨_, rfl⟩
  obtain ⟨RR, hRR⟩ := hRR
  rw [hRR]
  unfold topR at hRR
  have hnx := src_next w r base file L lv ov i D h
  have htx := h.ok.at i
  have HT5 := Lib.hid (fun wx hx => src_taken wx r base file L lv ov i D hx 5 (by decide) 53 labelT tells_label)
  have htr : takenR L 5 labelT i = if (tkN L i).kind = 5 then (if labelT (tkN L i).text = true then .ok (i + 1) else .error (i, 1)) else .error (i, 6) := rfl
  have HT6 := Lib.hid (fun wx hx => src_taken wx r base file L lv ov i D hx 6 (by decide) 53 labelT tells_label)
  have htr6 : takenR L 6 labelT i = if (tkN L i).kind = 6 then (if labelT (tkN L i).text = true then .ok (i + 1) else .error (i, 1)) else .error (i, 6) := rfl
  have HD1 := Lib.hid (fun wx hx hk8 => src_deletes wx r base file L lv ov i D hx 6 3 [] 58 (fun _ => true) tellsT_any (by decide) hk8 (by decide))
  have HD2 := Lib.hid (fun wx hx hk8 => src_deletes wx r base file L lv ov i D hx 5 6 [38] 53 labelT tells_label (by decide) hk8 (by decide))
  have HFL := Lib.hid (fun wx hx => src_fail wx r base file L lv ov i D hx i 6)
  have HKW := Lib.hid (fun s (hs : isK L i 7 s = true) => show (tkN L i).kind ≠ 8 from by
    unfold isK at hs
    simp only [Bool.and_eq_true, decide_eq_true_eq] at hs
    rw [hs.1]; decide)
  have hd38 := adds_of [38] (tkN L i).text (by simp; omega)
  unfold Adds at hd38
  rw [htr, htr6] at hRR
  unfold TakenOut at HT5 HT6
  rw [htr] at HT5
  rw [htr6] at HT6
  unfold txN endR at hRR
  unfold tokAgg at hnx HT5 HT6 HFL
  clear htr htr6 h
  obtain ⟨t, htk⟩ : ∃ t, t = tkN L i := ⟨_, rfl⟩
  rw [← htk] at hnx HT5 HT6 HFL HKW HD1 HD2 hRR hd38 htx
  have HTK := Lib.hid htk
  clear htk
  obtain ⟨t0, t1, t2, t3, t4⟩ := t
  simp only at hnx HT5 HT6 HFL HKW HD1 HD2 hRR hd38 htx
  go_enter Tryz.func29, Tryz.ntmps29
  go_wp2_with fail
  refine (by exact hnx : Calls _ _ _ _ _).mono ?_
  rintro e w1 ⟨rfl, hb1⟩
  have kb1 : Keeps (fun _ => False) w (w1.alloc (.cells #[.int .i64 t0, .string ⟨t1.toArray⟩, .int .i64 t2, .int .i64 file, .int .i64 t3, .int .i64 t4] 65)) := (Keeps.of_fresh hb1 (fun _ => False)).alloc _
  have hA1 := HH.out.keeps kb1
  have hM1 := Holds.new w1 #[.int .i64 t0, .string ⟨t1.toArray⟩, .int .i64 t2, .int .i64 file, .int .i64 t3, .int .i64 t4] 65
  have hw1 := HH.out.below (kb1.mono (S := (· = r)) (fun _ _ e => e.elim))
  have hmr : w1.heap.size ≠ r := by have := hb1.size; omega
  obtain ⟨m0, m1, m2, m3, m4, m5⟩ := six_cells hM1
  clear hnx hb1 kb1
  by_cases h5 : t0 = 5
  · subst h5
    rw [if_pos rfl] at hRR
    cases hg : labelT t1 with
    | false =>
      simp only [hg, Bool.false_eq_true, reduceIte] at hRR
      subst hRR
      have htk := HT5.out _ hA1
      simp only [hg, Bool.false_eq_true, reduceIte] at htk
      have HA1 := Lib.hid hA1
      clear hA1 hM1
      go_wp2_with fail
      refine (by exact htk : Calls _ _ _ _ _).mono ?_
      rintro e w3 ⟨hk3, rfl, hbad⟩
      have hw3 := (hw1.trans (HA1.out.below hk3)).alloc (Nat.le_trans HA1.out.size hk3.size) (.cells #[.int .i64 5, .string ⟨t1.toArray⟩, .int .i64 t2, .int .i64 file, .int .i64 t3, .int .i64 t4] 65)
      have hbad2 := hbad.alloc (.cells #[.int .i64 5, .string ⟨t1.toArray⟩, .int .i64 t2, .int .i64 file, .int .i64 t3, .int .i64 t4] 65)
      clear htk hbad hk3
      go_wp2_with fail
      go_ret
      exact ⟨hw3, rfl, ov, hbad2⟩
    | true =>
      simp only [hg, reduceIte] at hRR
      have htk := HT5.out _ hA1
      simp only [hg, reduceIte] at htk
      have HA1 := Lib.hid hA1
      have HM1 := Lib.hid hM1
      clear hA1 hM1
      go_wp2_with fail
      refine (by exact htk : Calls _ _ _ _ _).mono ?_
      rintro e w3 ⟨hk3, rfl, hA3⟩
      have hw3 := (hw1.trans (HA1.out.below hk3)).alloc (Nat.le_trans HA1.out.size hk3.size) (.cells #[.int .i64 5, .string ⟨t1.toArray⟩, .int .i64 t2, .int .i64 file, .int .i64 t3, .int .i64 t4] 65)
      have hA4 := hA3.alloc (.cells #[.int .i64 5, .string ⟨t1.toArray⟩, .int .i64 t2, .int .i64 file, .int .i64 t3, .int .i64 t4] 65)
      have hM4 := (HM1.out.keeps hk3 hmr).alloc (.cells #[.int .i64 5, .string ⟨t1.toArray⟩, .int .i64 t2, .int .i64 file, .int .i64 t3, .int .i64 t4] 65)
      have hlt3 : w1.heap.size < w3.heap.size := by have := (HM1.out.keeps hk3 hmr).lt; exact this
      have hsl := src_sign _ r base file L lv ov (i + 1) D hA4 [47]
      unfold SignOut at hsl
      unfold signR at hRR
      have HA4 := Lib.hid hA4
      have HM4 := Lib.hid hM4
      clear htk hA3 hA4 hM4 hk3 hw1 m0 m1 m2 m3 m4 m5
      cases hs : isK L (i + 1) 4 [47] with
      | false =>
        simp only [hs, Bool.false_eq_true, reduceIte] at hRR
        subst hRR
        rw [hs] at hsl
        go_wp2_with fail
        refine (by exact hsl : Calls _ _ _ _ _).mono ?_
        rintro e w5 ⟨rfl, hk5, _, hy⟩
        have hbad := hy (by trivial)
        have hw5 := hw3.trans (HA4.out.below hk5)
        clear hsl hy hk5
        go_wp2_with fail
        go_ret
        exact ⟨hw5, rfl, ov, hbad⟩
      | true =>
        simp only [hs, reduceIte] at hRR
        rw [hs] at hsl
        go_wp2_with fail
        refine (by exact hsl : Calls _ _ _ _ _).mono ?_
        rintro e w5 ⟨rfl, hk5, hy, _⟩
        have hA5 := hy (by trivial)
        have hw5 := hw3.trans (HA4.out.below hk5)
        have hM5 := HM4.out.keeps hk5 hmr
        have hl5 : w1.heap.size < w5.heap.size := hM5.lt
        obtain ⟨m0, m1, m2, m3, m4, m5⟩ := six_cells hM5
        have hbd := src_body_all hA5 ⟨1, ⟨t1.toArray⟩, ⟨#[47]⟩, [], t3, t4⟩ rfl
        unfold defAgg SrcOut at hbd
        generalize srcE L (fuelS L) (.body ⟨1, ⟨t1.toArray⟩, ⟨#[47]⟩, [], t3, t4⟩ 0) (i + 1 + 1) = BR at *
        clear hsl hy hk5 hM5 hA5
        go_wp2_with fail
        refine (by exact hbd : Calls _ _ _ _ _).mono ?_
        rintro e wd ⟨hbd2, hm⟩
        have hbe := hw5.trans hbd2
        clear hbd hw5 hbd2
        cases BR with
        | ok q =>
          obtain ⟨m, ds⟩ := q
          simp only at hm hRR
          obtain ⟨rfl, ovd, hAd, hjd⟩ := hm
          have hsg := src_sign wd r base file L lv ovd m _ hAd [59]
          unfold SignOut at hsg
          try unfold signR at hRR
          have HAq := Lib.hid hAd
          have HBq := Lib.hid hbe
          clear hAd hbe
          cases hq : isK L m 4 [59] with
          | true =>
            rw [hq, if_pos rfl] at hRR
            simp only at hRR
            subst hRR
            rw [hq] at hsg
            go_wp2_with fail
            refine (by exact hsg : Calls _ _ _ _ _).mono ?_
            rintro e wq ⟨rfl, hkq, hy, _⟩
            have hAq := hy (by trivial)
            have hbq := HBq.out.trans (HAq.out.below hkq)
            clear hsg hy hkq
            go_wp2_with fail
            go_ret
            exact ⟨hbq, rfl, ovd, hAq, by omega⟩
          | false =>
            rw [hq, if_neg (by simp)] at hRR
            simp only at hRR
            subst hRR
            rw [hq] at hsg
            go_wp2_with fail
            refine (by exact hsg : Calls _ _ _ _ _).mono ?_
            rintro e wq ⟨rfl, hkq, _, hy⟩
            have hAq := hy (by trivial)
            have hbq := HBq.out.trans (HAq.out.below hkq)
            clear hsg hy hkq
            go_wp2_with fail
            go_ret
            exact ⟨hbq, rfl, ovd, hAq⟩
        | error q =>
          obtain ⟨k, c⟩ := q
          simp only at hm hRR
          obtain ⟨rfl, ovd, hbad⟩ := hm
          subst hRR
          go_wp2_with fail
          go_ret
          exact ⟨hbe, rfl, ovd, hbad⟩
  · rw [if_neg h5] at hRR
    have hi1 := src_is _ r base file L lv ov i D hA1 4 [47]
    go_wp2_with fail
    refine (by exact hi1 : Calls _ _ _ _ _).mono ?_
    rintro e w2 ⟨rfl, hb2⟩
    have kb2 : Keeps (fun _ => False) _ w2 := Keeps.of_fresh hb2 _
    have hA2 := hA1.keeps kb2
    have hM2 := hM1.keeps kb2 (fun e => e)
    have hw2 := hw1.trans (hA1.below (kb2.mono (S := (· = r)) (fun _ _ e => e.elim)))
    clear hi1 hb2 kb2 hA1 hM1 hw1 m0 m1 m2 m3 m4 m5
    obtain ⟨m0, m1, m2, m3, m4, m5⟩ := six_cells hM2
    have hlt2 := hM2.lt
    cases hk : isK L i 4 [47] with
    | true =>
      rw [hk, if_pos rfl] at hRR
      obtain ⟨hA3, k3⟩ := hA2.step (isK_next HOK.out hil hk (by decide))
      have hM3 := hM2.keeps k3 hmr
      obtain ⟨c1, c1f, crl, _⟩ := hA2.at1
      have hw3 := hw2.trans (hA2.below k3)
      obtain ⟨x0, x1, x2, x3, x4, x5⟩ := six_cells hM3
      have hbd := src_body_all hA3 ⟨1, ⟨#[]⟩, ⟨#[47]⟩, [], t3, t4⟩ rfl
      unfold defAgg SrcOut at hbd
      generalize srcE L (fuelS L) (.body ⟨1, ⟨#[]⟩, ⟨#[47]⟩, [], t3, t4⟩ 0) (i + 1) = BR at *
      clear hA3 k3 hM3 hA2 hM2 hw2
      go_wp2_with fail
      refine (by exact hbd : Calls _ _ _ _ _).mono ?_
      rintro e wd ⟨hbd2, hm⟩
      have hbe := hw3.trans hbd2
      clear hbd hw3 hbd2
      cases BR with
      | ok q =>
        obtain ⟨m, ds⟩ := q
        simp only at hm hRR
        obtain ⟨rfl, ovd, hAd, hjd⟩ := hm
        have hsg := src_sign wd r base file L lv ovd m _ hAd [59]
        unfold SignOut at hsg
        try unfold signR at hRR
        have HAq := Lib.hid hAd
        have HBq := Lib.hid hbe
        clear hAd hbe
        cases hq : isK L m 4 [59] with
        | true =>
          rw [hq, if_pos rfl] at hRR
          simp only at hRR
          subst hRR
          rw [hq] at hsg
          go_wp2_with fail
          refine (by exact hsg : Calls _ _ _ _ _).mono ?_
          rintro e wq ⟨rfl, hkq, hy, _⟩
          have hAq := hy (by trivial)
          have hbq := HBq.out.trans (HAq.out.below hkq)
          clear hsg hy hkq
          go_wp2_with fail
          go_ret
          exact ⟨hbq, rfl, ovd, hAq, by omega⟩
        | false =>
          rw [hq, if_neg (by simp)] at hRR
          simp only at hRR
          subst hRR
          rw [hq] at hsg
          go_wp2_with fail
          refine (by exact hsg : Calls _ _ _ _ _).mono ?_
          rintro e wq ⟨rfl, hkq, _, hy⟩
          have hAq := hy (by trivial)
          have hbq := HBq.out.trans (HAq.out.below hkq)
          clear hsg hy hkq
          go_wp2_with fail
          go_ret
          exact ⟨hbq, rfl, ovd, hAq⟩
      | error q =>
        obtain ⟨k, c⟩ := q
        simp only at hm hRR
        obtain ⟨rfl, ovd, hbad⟩ := hm
        subst hRR
        go_wp2_with fail
        go_ret
        exact ⟨hbe, rfl, ovd, hbad⟩
    | false =>
      rw [hk, if_neg (by simp)] at hRR
      clear hk
      by_cases h6 : t0 = 6
      · subst h6
        rw [if_pos rfl] at hRR
        cases hg : labelT t1 with
        | false =>
          simp only [hg, Bool.false_eq_true, reduceIte] at hRR
          subst hRR
          have htk := HT6.out _ hA2
          simp only [hg, Bool.false_eq_true, reduceIte] at htk
          have HA2 := Lib.hid hA2
          clear hA2 hM2
          go_wp2_with fail
          refine (by exact htk : Calls _ _ _ _ _).mono ?_
          rintro e w3 ⟨hk3, rfl, hbad⟩
          have hw3 := (hw2.trans (HA2.out.below hk3)).alloc (Nat.le_trans HA2.out.size hk3.size) (.cells #[.int .i64 6, .string ⟨t1.toArray⟩, .int .i64 t2, .int .i64 file, .int .i64 t3, .int .i64 t4] 65)
          have hbad2 := hbad.alloc (.cells #[.int .i64 6, .string ⟨t1.toArray⟩, .int .i64 t2, .int .i64 file, .int .i64 t3, .int .i64 t4] 65)
          clear htk hbad hk3
          go_wp2_with fail
          go_ret
          exact ⟨hw3, rfl, ov, hbad2⟩
        | true =>
          simp only [hg, reduceIte] at hRR
          have htk := HT6.out _ hA2
          simp only [hg, reduceIte] at htk
          have HA2 := Lib.hid hA2
          have HM2 := Lib.hid hM2
          clear hA2 hM2
          go_wp2_with fail
          refine (by exact htk : Calls _ _ _ _ _).mono ?_
          rintro e w3 ⟨hk3, rfl, hA3⟩
          have hw3 := (hw2.trans (HA2.out.below hk3)).alloc (Nat.le_trans HA2.out.size hk3.size) (.cells #[.int .i64 6, .string ⟨t1.toArray⟩, .int .i64 t2, .int .i64 file, .int .i64 t3, .int .i64 t4] 65)
          have hA4 := hA3.alloc (.cells #[.int .i64 6, .string ⟨t1.toArray⟩, .int .i64 t2, .int .i64 file, .int .i64 t3, .int .i64 t4] 65)
          have hM4 := (HM2.out.keeps hk3 hmr).alloc (.cells #[.int .i64 6, .string ⟨t1.toArray⟩, .int .i64 t2, .int .i64 file, .int .i64 t3, .int .i64 t4] 65)
          obtain ⟨x0, x1, x2, x3, x4, x5⟩ := six_cells hM4
          have hl4 := hM4.lt
          have hbd := src_body_all hA4 ⟨1, ⟨#[]⟩, ⟨(38 :: t1).toArray⟩, [], t3, t4⟩ rfl
          unfold defAgg SrcOut at hbd
          generalize srcE L (fuelS L) (.body ⟨1, ⟨#[]⟩, ⟨(38 :: t1).toArray⟩, [], t3, t4⟩ 0) (i + 1) = BR at *
          rw [show ([38] ++ t1 : List UInt8) = 38 :: t1 from rfl] at hd38
          generalize (38 :: t1 : List UInt8) = nm at *
          clear htk hA3 hA4 hM4 hk3 hw2 m0 m1 m2 m3 m4 m5
          go_wp2_with fail
          refine (by exact hbd : Calls _ _ _ _ _).mono ?_
          rintro e wd ⟨hbd2, hm⟩
          have hbe := hw3.trans hbd2
          clear hbd hw3 hbd2
          cases BR with
          | ok q =>
            obtain ⟨m, ds⟩ := q
            simp only at hm hRR
            obtain ⟨rfl, ovd, hAd, hjd⟩ := hm
            have hsg := src_sign wd r base file L lv ovd m _ hAd [59]
            unfold SignOut at hsg
            try unfold signR at hRR
            have HAq := Lib.hid hAd
            have HBq := Lib.hid hbe
            clear hAd hbe
            cases hq : isK L m 4 [59] with
            | true =>
              rw [hq, if_pos rfl] at hRR
              simp only at hRR
              subst hRR
              rw [hq] at hsg
              go_wp2_with fail
              refine (by exact hsg : Calls _ _ _ _ _).mono ?_
              rintro e wq ⟨rfl, hkq, hy, _⟩
              have hAq := hy (by trivial)
              have hbq := HBq.out.trans (HAq.out.below hkq)
              clear hsg hy hkq
              go_wp2_with fail
              go_ret
              exact ⟨hbq, rfl, ovd, hAq, by omega⟩
            | false =>
              rw [hq, if_neg (by simp)] at hRR
              simp only at hRR
              subst hRR
              rw [hq] at hsg
              go_wp2_with fail
              refine (by exact hsg : Calls _ _ _ _ _).mono ?_
              rintro e wq ⟨rfl, hkq, _, hy⟩
              have hAq := hy (by trivial)
              have hbq := HBq.out.trans (HAq.out.below hkq)
              clear hsg hy hkq
              go_wp2_with fail
              go_ret
              exact ⟨hbq, rfl, ovd, hAq⟩
          | error q =>
            obtain ⟨k, c⟩ := q
            simp only at hm hRR
            obtain ⟨rfl, ovd, hbad⟩ := hm
            subst hRR
            go_wp2_with fail
            go_ret
            exact ⟨hbe, rfl, ovd, hbad⟩
      · rw [if_neg h6] at hRR
        have hi3 := src_is _ r base file L lv ov i D hA2 7 [105, 110, 99, 108, 117, 100, 101]
        go_wp2_with fail
        refine (by exact hi3 : Calls _ _ _ _ _).mono ?_
        rintro e w3 ⟨rfl, hb3⟩
        have kb3 : Keeps (fun _ => False) _ w3 := Keeps.of_fresh hb3 _
        have hA3 := hA2.keeps kb3
        have hM3 := hM2.keeps kb3 (fun e => e)
        have hw3 := hw2.trans (hA2.below (kb3.mono (S := (· = r)) (fun _ _ e => e.elim)))
        clear hi3 hb3 kb3 hA2 hM2 hw2
        cases hk : isK L i 7 [105, 110, 99, 108, 117, 100, 101] with
        | true =>
          rw [hk, if_pos rfl] at hRR
          have hbd := HD1.out _ hA3 (HKW.out _ hk)
          rw [hRR] at hbd
          unfold SrcOut at hbd ⊢
          clear hRR hk
          go_wp2_with fail
          refine (by exact hbd : Calls _ _ _ _ _).mono ?_
          rintro e w9 ⟨hb9, hm⟩
          have hw9 := hw3.trans hb9
          clear hbd
          cases RR with
          | ok q =>
            obtain ⟨j, ds⟩ := q
            simp only at hm
            obtain ⟨rfl, ovd, hAd, hjd⟩ := hm
            go_wp2_with fail
            go_ret
            exact ⟨hw9, rfl, ovd, hAd, hjd⟩
          | error q =>
            obtain ⟨k, c⟩ := q
            simp only at hm
            obtain ⟨rfl, ovd, hbad⟩ := hm
            go_wp2_with fail
            go_ret
            exact ⟨hw9, rfl, ovd, hbad⟩
        | false =>
          rw [hk, if_neg (by simp)] at hRR
          clear hk
          have hi4 := src_is _ r base file L lv ov i D hA3 7 [100, 101, 108, 101, 116, 101, 45, 110, 111, 100, 101]
          go_wp2_with fail
          refine (by exact hi4 : Calls _ _ _ _ _).mono ?_
          rintro e w4 ⟨rfl, hb4⟩
          have kb4 : Keeps (fun _ => False) _ w4 := Keeps.of_fresh hb4 _
          have hA4 := hA3.keeps kb4
          have hM4 := hM3.keeps kb4 (fun e => e)
          have hw4 := hw3.trans (hA3.below (kb4.mono (S := (· = r)) (fun _ _ e => e.elim)))
          clear hi4 hb4 kb4 hA3 hM3 hw3
          cases hk : isK L i 7 [100, 101, 108, 101, 116, 101, 45, 110, 111, 100, 101] with
          | true =>
            rw [hk, if_pos rfl] at hRR
            have hbd := HD2.out _ hA4 (HKW.out _ hk)
            rw [hRR] at hbd
            unfold SrcOut at hbd ⊢
            clear hRR hk
            go_wp2_with fail
            refine (by exact hbd : Calls _ _ _ _ _).mono ?_
            rintro e w9 ⟨hb9, hm⟩
            have hw9 := hw4.trans hb9
            clear hbd
            cases RR with
            | ok q =>
              obtain ⟨j, ds⟩ := q
              simp only at hm
              obtain ⟨rfl, ovd, hAd, hjd⟩ := hm
              go_wp2_with fail
              go_ret
              exact ⟨hw9, rfl, ovd, hAd, hjd⟩
            | error q =>
              obtain ⟨k, c⟩ := q
              simp only at hm
              obtain ⟨rfl, ovd, hbad⟩ := hm
              go_wp2_with fail
              go_ret
              exact ⟨hw9, rfl, ovd, hbad⟩
          | false =>
            rw [hk, if_neg (by simp)] at hRR
            clear hk
            subst hRR
            have hff := HFL.out _ hA4
            obtain ⟨x0, x1, x2, x3, x4, x5⟩ := six_cells hM4
            have HA4 := Lib.hid hA4
            clear hA4 hM4
            go_wp2_with fail
            refine (by exact hff : Calls _ _ _ _ _).mono ?_
            rintro e w5 ⟨rfl, hbad, hk5⟩
            have hw5 := hw4.trans (HA4.out.below hk5)
            go_wp2_with fail
            go_ret
            exact ⟨hw5, rfl, ov, hbad⟩
end Go.Proofs.YtofhcgbihonckaaGreat
