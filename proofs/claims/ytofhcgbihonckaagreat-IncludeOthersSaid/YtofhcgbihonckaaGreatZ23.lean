/- Contracts of include: load. | Contracts of include: the loading of all files that a main file needs. | Contracts of include: Load. | Rows of files of one's own. | Region 5 of bringuplaw05.IncludeOthers (printed by gino.py). | include, in plain Lean: which names texts include. | bringupgrow: Files. | IncludeOthers, plain: a file that nobody includes does not matter. | The example of the chapter of includes. | The law IncludeOthers: the walk. -/
import Derived.Test.YtofhcgbihonckaaGreatZ22
import Derived.Deep.LoopGhost
import Derived.StillTailTactics
import Derived.Deep.DeepCutAuto
import Derived.Deep.CutBlock
import Derived.Deep.CutRange
import Derived.Test.YtofhcgbihonckaaGreatZ20
import Derived.Test.YtofhcgbihonckaaGreatZ21
import Derived.Test.YtofhcgbihonckaaGreatZ18
import Derived.Test.YtofhcgbihonckaaGreatZ1
import Derived.Test.YtofhcgbihonckaaGreatZ5
import Derived.Test.YtofhcgbihonckaaGreatZ26
import Derived.Test.YtofhcgbihonckaaGreatZ19

set_option linter.unusedVariables false
set_option linter.unusedSimpArgs false
set_option linter.unusedSectionVars false

namespace Go.Proofs.YtofhcgbihonckaaGreat
open Go.RowKit Go.ChangeMaps

/-- Behind the noting of a name. -/
def LdN (lb mb base : Nat) (fv ov rv : Value) (names : List ByteArray) (w0 w : World) : Prop :=
  ∃ rv', Holds w lb (ldC fv mb ov rv') 95 ∧ w.ownsRow base 9 1 rv' names.length (strRow names) ∧ Keeps (fun i => i = lb ∨ rv.ownBlock = some i) w0 w ∧ (∀ g, rv'.ownBlock = some g → rv.ownBlock = some g ∨ w0.heap.size ≤ g)
/-- Where load stands ahead of its definition i. -/
def LdL (A : Nat → Prop) (lb mb base pb qb : Nat) (fv ov rv dv : Value) (F : List FileT) (opn2 : List Nat) (fuel before : Nat) (file : Int) (D : List DefT) (R : Lr) (w : World) (i : Nat) (outv : Value) (wr : World) : Prop :=
  ∃ ord giv out, LdW A lb mb base pb qb fv ov rv dv F opn2 file D before w outv ord giv out wr ∧ ldLoop (ldT F fuel opn2) F opn2 before ((tagT file D).drop i) ord giv out = R
theorem tagT_len (file : Int) (D : List DefT) : (tagT file D).length = D.length := by simp [tagT]
set_option maxRecDepth 100000 in
set_option maxHeartbeats 8000000 in
theorem inc_load_step (fuel : Nat) (hrec : LoadC fuel) : LoadC (fuel + 1) := by
  intro A lb mb base fv ov rv F opn ord giv file before w h hA hfl hF hT hgo hfn hgn hfu hbef hb1 lay
  have HREC := Lib.hid hrec
  have HA := Lib.hid hA
  have HGO := Lib.hid hgo
  have HGO2 := Lib.hid (show ∀ s, GivOk F (opn ++ [file]) (ord ++ [s]) giv from fun s => hgo.open1 hfl hfn hgn s)
  have hsh := hgo.short
  have hsh2 := (HGO2.out ⟨#[]⟩).short
  have horl := hgo.ord
  have hov0 := Lib.hid (show ∀ i, LdS lb mb ov rv i → base ≤ i from by
    rintro i (rfl | rfl | e | e)
    · exact h.lbb
    · exact h.mbb
    · exact (own_lt h.opn e).2.1
    · exact (own_lt h.ord e).2.1)
  have hol8 : ord.length ≤ 8 := by omega
  clear hrec hA hgo horl
  simp only [List.length_append, List.length_cons, List.length_nil] at hsh2
  obtain ⟨fa, fc, rfl, hf1, hf2, hfat⟩ := id h.files
  obtain ⟨fg, fo, rfl, hfg, hfc⟩ := hfat (by omega)
  obtain ⟨ra, rc, rfl⟩ := row_slice h.ord
  obtain ⟨n0, t0⟩ := hfc file hfl
  have hb0 := (Below.refl w.heap.size w).alloc (Nat.le_refl _) (.cells #[.int .i64 0, .int .i64 0, .int .i64 0] 27)
  have kb0 : Keeps (fun _ => False) w _ := Keeps.of_fresh hb0 _
  have hH0 := h.holds.keeps kb0 (fun e => e)
  have hP0 := Holds.new w #[.int .i64 0, .int .i64 0, .int .i64 0] 27
  have c0 : (w.alloc (.cells #[.int .i64 0, .int .i64 0, .int .i64 0] 27)).cell? ⟨lb, 0, none⟩ = some (.slice (some ⟨fg, fo, none⟩) F.length fc) := hH0.cell 0
  have c3 : (w.alloc (.cells #[.int .i64 0, .int .i64 0, .int .i64 0] 27)).cell? ⟨lb, 3, none⟩ = some (.slice ra ord.length rc) := hH0.cell 3
  have f3 := hH0.free 3
  have n1 := (hb0.cell (p := ⟨fg, fo + file * 2, none⟩) hfg).trans n0
  have t1 := (hb0.cell (p := ⟨fg, fo + file * 2 + 1, none⟩) hfg).trans t0
  have hro := ownsRow_keeps h.ord kb0 (fun _ _ e => e)
  have hll := h.holds.lt
  have hfr : (file : Int) < (F.length : Int) := by omega
  have H := Lib.hid h
  have HT := Lib.hid hT
  have HLAY := Lib.hid lay
  have HB0 := Lib.hid hb0
  have HH0 := Lib.hid hH0
  have HP0 := Lib.hid hP0
  have HRO := Lib.hid hro
  have hsb := h.size
  have hft := hT F[file] (List.getElem_mem hfl)
  have hgd : F.getD file ⟨⟨#[]⟩, ⟨#[]⟩⟩ = F[file] := by rw [List.getD_eq_getElem?_getD, List.getElem?_eq_getElem hfl]; rfl
  have hld : ldT F (fuel + 1) opn ord giv file before = (if (srcT F[file].text.data.toList file).2.2 ≠ 0 then .error ((srcT F[file].text.data.toList file).2.1, (srcT F[file].text.data.toList file).2.2) else
      match ldLoop (ldT F fuel (opn ++ [file])) F (opn ++ [file]) before (tagT file (srcT F[file].text.data.toList file).1) (ord ++ [F[file].name]) giv [] with
      | .error e => .error e
      | .ok (o, g, out) => .ok (o, g ++ [((file : Int), out)], out)) := by
    simp only [ldT]
    rw [hgd]
    rfl
  clear h hT lay hb0 kb0 hH0 hP0 hro hfat hfc n0 t0 hgd
  generalize F[file] = ff at *
  obtain ⟨nm, tx⟩ := ff
  simp only at n1 t1 hft hld
  have HLD := Lib.hid hld
  clear hld
  obtain ⟨i0, hin, hz0, hz1, hz2⟩ := info_parts infoStr9
  go_enter Tryz.func72, Tryz.ntmps72
  go_wp2_with fail
  obtain ⟨pb, hpb⟩ : ∃ pb, pb = w.heap.size := ⟨_, rfl⟩
  rw [← hpb] at HP0 HB0 ⊢
  have HPB := Lib.hid hpb
  have hbp : base ≤ pb := by omega
  have hlp : lb < pb := by omega
  have hfp : fg < pb := by omega
  have hs0 : (w.alloc (.cells #[.int .i64 0, .int .i64 0, .int .i64 0] 27)).heap.size = pb + 1 := by simp [hpb]
  clear hpb
  generalize w.alloc (.cells #[.int .i64 0, .int .i64 0, .int .i64 0] 27) = w0 at *
  have hlb0 : lb < w0.heap.size := by omega
  have hfg0 : fg < w0.heap.size := by omega
  have hbw0 : base ≤ w0.heap.size := by omega
  have HS0 := Lib.hid hs0
  clear hs0
  have hrl := fun g hg => (HRO.out.lt g hg).2
  have HRL := Lib.hid hrl
  clear hrl
  have hne : ∀ g, Value.ownBlock (.slice ra ord.length rc) = some g → g ≠ lb := fun g hg e => by subst e; exact owns_ne_holds HRO.out HH0.out (by decide) hg
  have HNE := Lib.hid hne
  clear hne
  go_cut [] from 20 to 36 (fun wx => LdN lb mb base (.slice (some ⟨fg, fo, none⟩) F.length fc) ov (.slice ra ord.length rc) (ord ++ [nm]) w0 wx)
  case first =>
    go_region_law (refine step_append_lies _ (by rfl) _ _ _ (by rfl) base 9 i0 _ 1 16 Tryz.underlying39 hin hz0 hz1 hz2 rfl (by omega) _ ord.length (strRow ord) (by rfl) ((HRO.out.alloc _).drew) ⟨w0.heap.size, 0, none⟩ 1 1 [.string nm] (by rfl) (by rfl) (World.news_of_block (cs := #[.string nm]) (t := 9) (fr := (0, 0)) (heap_alloc_new w0 _)) (by simp [Value.oneCell']) (by omega) (by unfold maxLen; omega) (by omega) (by simp; omega) (w0.heap.size + 1) (by simp) ?_; intro gg cap2 w1 hown1 hgrow1 hat1 hlt1; have hH1 := ((HH0.out.alloc _).drew).keeps (Keeps.of_grown hgrow1 (fun _ e => e)) (fun e => HNE.out _ e rfl); have q1 := hH1.free 3; have q2 : w1.cell? ⟨lb, 3, none⟩ = some (.slice ra ord.length rc) := hH1.cell 3; have q3 := hH1.lt)
    all_goals
      have hst := hH1.set 3 (.slice (some ⟨gg, 0, none⟩) (ord.length + 1) cap2)
      have hrow1 := row_set hown1 hH1 (by decide) 3 (.slice (some ⟨gg, 0, none⟩) (ord.length + 1) cap2)
      have hk1 : Keeps (fun i => i = lb ∨ Value.ownBlock (.slice ra ord.length rc) = some i) w0 (w1.setCell ⟨lb, 3, none⟩ (.slice (some ⟨gg, 0, none⟩) (ord.length + 1) cap2)) :=
        (((((Keeps.refl (fun _ => False) w0).alloc (.cells #[.string nm] 9)).drew).mono (S := fun i => i = lb ∨ Value.ownBlock (.slice ra ord.length rc) = some i) (fun _ _ e => e.elim)).trans (Keeps.of_grown hgrow1 (fun _ e => .inr e)) (fun _ _ e => e)).setCell (p := ⟨lb, 3, none⟩) (.inr (.inl rfl)) _
      have HF := Lib.hid (show LdN lb mb base (.slice (some ⟨fg, fo, none⟩) F.length fc) ov (.slice ra ord.length rc) (ord ++ [nm]) w0 (w1.setCell ⟨lb, 3, none⟩ (.slice (some ⟨gg, 0, none⟩) (ord.length + 1) cap2)) from
        ⟨.slice (some ⟨gg, 0, none⟩) (ord.length + 1) cap2, hst, by rw [List.length_append, show strRow (ord ++ [nm]) = strRow ord ++ [.string nm] from by simp [strRow]]; exact hrow1, hk1, fun g hg => by
          have e1 : gg = g := Option.some.inj hg
          rcases hat1 with e | e
          · exact .inl (by rw [e, e1])
          · exact .inr (by omega)⟩)
      clear hst hrow1 hk1 hown1 hgrow1 hat1 hH1 q1 q2
      go_wp2_with fail
      go_meet
      case rel => exact HF.out
  case rest =>
    obtain ⟨rv1, hH1, hr1, hk1, ho1⟩ := hcut
    have hfb : fg < base := H.out.low fg rfl
    have hnS : ¬ (fg = lb ∨ Value.ownBlock (.slice ra ord.length rc) = some fg) := by
      rintro (e | e)
      · have := H.out.lbb; omega
      · have := (H.out.ord.lt fg e).1; omega
    have d0 : wc.cell? ⟨lb, 0, none⟩ = some (.slice (some ⟨fg, fo, none⟩) F.length fc) := hH1.cell 0
    have dl := hH1.lt
    have dt := (hk1.cell (p := ⟨fg, fo + file * 2 + 1, none⟩) hfg0 hnS).trans t1
    have dfg : fg < wc.heap.size := Nat.lt_of_lt_of_le hfg0 hk1.size
    have hkw : Keeps (fun i => base ≤ i) w wc := ((Keeps.of_fresh (show Below w.heap.size w w0 from by rw [← HPB.out]; exact HB0.out) _)).trans (hk1.mono (fun i _ e => by
      rcases e with e | e
      · have := H.out.lbb; omega
      · exact (H.out.ord.lt i e).1)) (fun _ _ e => e)
    have hlay : Lay0 wc := HLAY.out.keeps hkw (fun e => by have e2 : base ≤ 0 := e; have : 0 = 0 := rfl; omega)
    have hrd := source_Read tx file wc hft.1 hlay
    unfold SrcPost at hrd
    have HRD := Lib.hid hrd
    have hdl0 := src_short tx.data.toList (file : Int)
    have HH1 := Lib.hid hH1
    have HR1 := Lib.hid hr1
    have HK1 := Lib.hid hk1
    have HO1 := Lib.hid ho1
    have HKW := Lib.hid hkw
    have hsz1 := hk1.size
    clear hrd hH1 hr1 hk1 ho1 hkw hlay hnS
    generalize srcT tx.data.toList file = ST at HRD HLD hdl0
    obtain ⟨D, ⟨p1, p2, p3⟩, er⟩ := ST
    go_wp2_with fail
    refine (by exact HRD.out : Calls _ _ _ _ _).mono ?_
    rintro e w2 ⟨dv, rfl, hD2, hb2⟩
    unfold posAgg
    have hP2 := HP0.out
    by_cases he : er = 0
    · subst he
      have hR : ldT F (fuel + 1) opn ord giv file before = (match ldLoop (ldT F fuel (opn ++ [file])) F (opn ++ [file]) before (tagT file D) (ord ++ [nm]) giv [] with
          | .error e => .error e
          | .ok (o, g, out) => .ok (o, g ++ [((file : Int), out)], out)) := by rw [HLD.out, if_neg (by simp)]
      have HR := Lib.hid hR
      clear hR
      obtain ⟨oa, oc, rfl⟩ := row_slice H.out.opn
      have HB2S := Lib.hid hb2.size
      have HQ3 := Lib.hid (Holds.new w2 #[.int .i64 p1, .int .i64 p2, .int .i64 p3] 27)
      have hdl : D.length ≤ 6001 := hdl0
      have hb3 := hb2.alloc hb2.size (.cells #[.int .i64 p1, .int .i64 p2, .int .i64 p3] 27)
      have k23 : Keeps (fun _ => False) wc (w2.alloc (.cells #[.int .i64 p1, .int .i64 p2, .int .i64 p3] 27)) := Keeps.of_fresh hb3 _
      have hH3 := HH1.out.keeps k23 (fun e => e)
      have e2 : (w2.alloc (.cells #[.int .i64 p1, .int .i64 p2, .int .i64 p3] 27)).cell? ⟨lb, 2, none⟩ = some (.slice oa opn.length oc) := hH3.cell 2
      have el := hH3.lt
      have hov1 := ownsRow_keeps (ownsRow_keeps H.out.opn (Keeps.of_fresh (show Below w.heap.size w w0 from by rw [← HPB.out]; exact HB0.out) (fun _ => False)) (fun _ _ e => e)) HK1.out (by
        intro g hg e
        rcases e with e | e
        · subst e; exact owns_ne_holds H.out.opn H.out.holds (by decide) hg
        · rcases rows_apart H.out.opn H.out.ord (by decide) with e4 | e4
          · rw [e4] at hg; cases hg
          · exact e4 (hg.trans e.symm))
      have hov3 := ownsRow_keeps hov1 k23 (fun _ _ e => e)
      obtain ⟨j0, hjn, hy0, hy1, hy2⟩ := info_parts infoInt9
      have HOV := Lib.hid hov3
      have HH3 := Lib.hid hH3
      have HD2 := Lib.hid (hD2.keeps (Keeps.of_fresh ((Below.refl w2.heap.size w2).alloc (Nat.le_refl _) (.cells #[.int .i64 p1, .int .i64 p2, .int .i64 p3] 27)) (fun _ => False)) (Apart3.nil _))
      have HB3 := Lib.hid hb3
      have hbw3 : base ≤ (w2.alloc (.cells #[.int .i64 p1, .int .i64 p2, .int .i64 p3] 27)).heap.size := by have := hb3.size; omega
      clear hov1 hov3 hH3 hb2 hb3 k23 hD2 hP2
      go_upto_region 5 with fail
      generalize w2.alloc (.cells #[.int .i64 p1, .int .i64 p2, .int .i64 p3] 27) = w3 at *
      go_wp2_with (at_builtin; refine wpList_append_src _ rfl _ _ 22 22 rfl base 3 j0 (.int .i64 0) 1 8 Tryz.underlying22 hjn hy0 hy1 hy2 rfl _ opn.length (natRow opn) rfl (by exact World.ownsRow.alloc HOV.out _) _ rfl 1 [.int .i64 (file : Int)] ?c1 ?c2 ?c3 ?c4 ?_)
      case c1 => exact Src.ofSlice _ Tryz.underlying22 _ 1 1 _ rfl (new_cells _ _ _ _ rfl _ rfl) (fun u hu => by simp at hu; rcases hu with rfl; rfl)
      case c2 => unfold maxLen; omega
      case c3 => omega
      case c4 => simp; omega
      intro v4 w4 hown4 hgrow4 hat4
      obtain ⟨va4, vc4, rfl⟩ := row_slice hown4
      have k4 : Keeps (fun i => Value.ownBlock (.slice oa opn.length oc) = some i) w3 w4 := ((Keeps.refl _ w3).alloc _).trans (Keeps.of_grown hgrow4 (fun i e => e)) (fun _ _ e => e)
      have hno : Value.ownBlock (.slice oa opn.length oc) ≠ some lb := owns_ne_holds HOV.out HH3.out (by decide)
      have hH4 := HH3.out.keeps k4 hno
      have s2 : w4.cell? ⟨lb, 2, none⟩ = some (.slice oa opn.length oc) := hH4.cell 2
      have s2f := hH4.free 2
      have s2l := hH4.lt
      have hH5 := hH4.set 2 (.slice va4 (opn.length + 1) vc4)
      have hrow5 := row_set hown4 hH4 (by decide) 2 (.slice va4 (opn.length + 1) vc4)
      have HH5 := Lib.hid hH5
      have HROW5 := Lib.hid hrow5
      have HK4 := Lib.hid (k4.mono (S := fun i => i = lb ∨ Value.ownBlock (.slice oa opn.length oc) = some i) (fun _ _ e => .inr e) |>.setCell (p := ⟨lb, 2, none⟩) (.inr (.inl rfl)) (.slice va4 (opn.length + 1) vc4))
      have HAT4 := Lib.hid hat4
      clear hown4 hgrow4 hat4 k4 hH4 hH5 hrow5 hno
      go_upto_region 6 with fail
      generalize w4.setCell ⟨lb, 2, none⟩ (.slice va4 (opn.length + 1) vc4) = w5 at *
      obtain ⟨da, dc, hdv⟩ := HD2.out.slice
      obtain ⟨R, hRl⟩ : ∃ R, R = ldLoop (ldT F fuel (opn ++ [file])) F (opn ++ [file]) before (tagT file D) (ord ++ [nm]) giv [] := ⟨_, rfl⟩
      have HRL2 := Lib.hid hRl
      have kw5 : Keeps (fun i => i = lb ∨ Value.ownBlock (.slice oa opn.length oc) = some i ∨ Value.ownBlock (.slice ra ord.length rc) = some i) w w5 := by
        refine ((((Keeps.of_fresh (show Below w.heap.size w w0 from by rw [← HPB.out]; exact HB0.out) _).trans HK1.out ?_).trans (Keeps.of_fresh HB3.out (fun _ => False)) (fun _ _ e => e.elim)).trans HK4.out ?_)
        · rintro i _ (e | e)
          · exact .inl e
          · exact .inr (.inr e)
        · rintro i _ (e | e)
          · exact .inl e
          · exact .inr (.inl e)
      have k35 := (Keeps.of_fresh HB3.out (fun i => i = lb ∨ Value.ownBlock (.slice oa opn.length oc) = some i)).trans HK4.out (fun _ _ e => e)
      have hs5 := kw5.size
      have hwc := HK1.out.size
      have h0s := HS0.out
      have hws := HPB.out
      have hqs := HB2S.out
      have hlbw := H.out.holds.lt
      obtain ⟨ow, -⟩ : (∀ g, Value.ownBlock (.slice oa opn.length oc) = some g → g < w.heap.size) ∧ True := ⟨fun g hg => (own_lt H.out.opn hg).1, trivial⟩
      have rw1 : ∀ g, Value.ownBlock (.slice ra ord.length rc) = some g → g < w.heap.size := fun g hg => (own_lt H.out.ord hg).1
      have hstart : LdL A lb mb base pb w2.heap.size (.slice (some ⟨fg, fo, none⟩) F.length fc) (.slice oa opn.length oc) (.slice ra ord.length rc) dv F (opn ++ [file]) fuel before file D R w 0 (.slice none 0 0) w5 := by
        have hl2 : (opn ++ [file]).length = opn.length + 1 := by simp
        have hr5 := ownsRow_keeps HR1.out k35 (by
          rintro g hg (e | e)
          · subst e
            exact owns_ne_holds HR1.out HH1.out (by decide) hg
          · rcases HO1.out g hg with e2 | e2
            · rcases rows_apart H.out.opn H.out.ord (by decide) with e4 | e4
              · rw [e4] at e; cases e
              · exact e4 (e.trans e2.symm)
            · have := ow g e; omega)
        have hLb := H.out.begin (opn2 := opn ++ [file]) (ord2 := ord ++ [nm]) kw5 HH5.out (by rw [hl2]; simpa [natRow] using HROW5.out) hr5
        have hP5 := ((HP0.out.keeps HK1.out (by
          rintro (e | e)
          · omega
          · have := rw1 _ e; omega)).keeps k35 (by
          rintro (e | e)
          · omega
          · have := ow _ e; omega))
        have hQ5 := HQ3.out.keeps HK4.out (by
          rintro (e | e)
          · omega
          · have := ow _ e; omega)
        have hD5 : DefsRow w5 wc.heap.size file dv D := HD2.out.keeps HK4.out (fun b hb e => by
          rcases e with rfl | e
          · exact ⟨_, _, HH3.out, by decide, by decide, by decide⟩
          · obtain ⟨_, _, cur, hc⟩ := own_lt HOV.out e
            exact ⟨_, _, hc, by decide, by decide, by decide⟩)
        refine ⟨ord ++ [nm], giv, [], ⟨⟨_, _, hLb, ?_, ?_⟩, FdsRow.nil _ _, ?_, ?_, hD5.fds.lower (by omega), hP5, ⟨p1, p2, p3, hQ5⟩, HGO2.out nm, kw5.mono ?_, ⟨by omega, by omega, by omega⟩, ?_⟩, ?_⟩
        · intro g hg
          rcases HAT4.out with e | e
          · exact .inl (e ▸ hg)
          · rw [e] at hg; cases hg; exact .inr (by have h9 := HB3.out.size; simp; omega)
        · intro g hg
          rcases HO1.out g hg with e | e
          · exact .inl e
          · exact .inr (by omega)
        · intro g hg; cases hg
        · simpa using hbef
        · intro i _ e
          rcases e with e | e | e
          · exact .inl e
          · exact .inr (.inr (.inl e))
          · exact .inr (.inr (.inr e))
        · intro g _ e; cases e
        · rw [List.drop_zero]; exact HRL2.out.symm
      subst hdv
      have HST := Lib.hid hstart
      clear hRl hstart kw5 k35 ow rw1 hws h0s
      clear c0 c3 f3 n1 t1 d0 dt
      go_wp2_with fail
      go_loopg [12, 67] (D.length) (fun f x12 x67 wr => ∃ i : Nat, x67 = .int .i64 i ∧ i ≤ D.length ∧ D.length ≤ i + f ∧ LdL A lb mb base pb w2.heap.size (.slice (some ⟨fg, fo, none⟩) F.length fc) (.slice oa opn.length oc) (.slice ra ord.length rc) (.slice da D.length dc) F (opn ++ [file]) fuel before file D R w i x12 wr)
      case atStart => exact ⟨0, rfl, by omega, by omega, HST.out⟩
      case round =>
        obtain ⟨i, rfl, hi1, hi2, ord2, giv2, out, hW, hLo⟩ := hrel
        obtain ⟨va, vc, rfl⟩ := hW.row.slice
        have hwb := hW.keeps.size
        by_cases hlt : i < D.length
        · obtain ⟨g, cap, pv, e1, hg, hgb, d0, d1, d2, d3, d4, d5, d6, hpv⟩ := hW.defs.at i (by rw [tagT_len]; exact hlt)
          have ht : (tagT (file : Int) D)[i]'(by rw [tagT_len]; exact hlt) = ((file : Int), D[i]) := by simp [tagT]
          rw [ht] at d0 d1 d2 d4 d5 d6 hpv
          rw [tagT_len] at e1
          rw [tag_drop (file : Int) D i hlt] at hLo
          generalize D[i] = d at *
          simp only at d0 d1 d2 d4 d5 d6 hpv
          cases e1
          obtain ⟨dk, dl, dn, dps, dln, dcl⟩ := d
          simp only at d0 d1 d2 d4 d5 d6 hpv
          obtain ⟨pa, pc, rfl⟩ := hpv.slice
          have hir : (i : Int) < (D.length : Int) := by omega
          have hbl := ((Below.refl wr.heap.size wr).alloc (Nat.le_refl _) (.cells #[.int .i64 dk, .string dl, .string dn, .slice pa dps.length pc, .int .i64 (file : Int), .int .i64 dln, .int .i64 dcl] 34)).alloc (by simp) (.cells #[.int .i64 dk, .string dl, .string dn, .slice pa dps.length pc, .int .i64 (file : Int), .int .i64 dln, .int .i64 dcl] 34)
          have hWn := Lib.hid (hW.new1 hbl)
          have hE := Lib.hid ((Holds.new wr #[.int .i64 dk, .string dl, .string dn, .slice pa dps.length pc, .int .i64 (file : Int), .int .i64 dln, .int .i64 dcl] 34).alloc (.cells #[.int .i64 dk, .string dl, .string dn, .slice pa dps.length pc, .int .i64 (file : Int), .int .i64 dln, .int .i64 dcl] 34))
          have hM := Lib.hid (show FdsRow ((wr.alloc (.cells #[.int .i64 dk, .string dl, .string dn, .slice pa dps.length pc, .int .i64 (file : Int), .int .i64 dln, .int .i64 dcl] 34)).alloc (.cells #[.int .i64 dk, .string dl, .string dn, .slice pa dps.length pc, .int .i64 (file : Int), .int .i64 dln, .int .i64 dcl] 34)) base (.slice (some ⟨wr.heap.size + 1, 0, none⟩) 1 1) [((file : Int), ⟨dk, dl, dn, dps, dln, dcl⟩)] from
            ⟨[.slice pa dps.length pc], rfl, row_made (by simp) (by omega) rfl (by omega), fun k hk _ => by
              obtain rfl : k = 0 := by simp at hk; omega
              exact hpv.keep2 (Keeps.of_fresh hbl (fun _ => False)) (fun _ _ e => e.elim)⟩)
          have hMn := Lib.hid (show ∀ g, Value.ownBlock (.slice (some ⟨wr.heap.size + 1, 0, none⟩) 1 1) = some g → Value.ownBlock (.slice va out.length vc) ≠ some g from fun g hg e => by
            obtain ⟨_, _, hr, _⟩ := hW.row
            have h1 := (own_lt hr e).1
            have h2 : wr.heap.size + 1 = g := Option.some.inj hg
            omega)
          have HLO := Lib.hid hLo
          clear hpv hLo hbl hW ht
          go_upto_if 75 with fail
          generalize (wr.alloc (.cells #[.int .i64 dk, .string dl, .string dn, .slice pa dps.length pc, .int .i64 (file : Int), .int .i64 dln, .int .i64 dcl] 34)).alloc (.cells #[.int .i64 dk, .string dl, .string dn, .slice pa dps.length pc, .int .i64 (file : Int), .int .i64 dln, .int .i64 dcl] 34) = w7 at *
          refine wp_code (c' := ldIf 75) (by kernel_rfl) ?_
          refine ld_if75 A fuel lb mb base pb w2.heap.size wr.heap.size before file (.slice (some ⟨fg, fo, none⟩) F.length fc) (.slice oa opn.length oc) (.slice ra ord.length rc) _ _ _ (.slice pa dps.length pc) F (opn ++ [file]) ord2 giv2 D out ⟨dk, dl, dn, dps, dln, dcl⟩ ((tagT (file : Int) D).drop (i + 1)) w w7 HREC hF HT (by simp; omega) hb1 hsb HLAY HA hov0 hWn hE hM hMn ?_ ?_
          · refine Lib.hid ?_
            intro x11 x15 x16 x17 x18 x75 x76 x77 x78 x79 x80 x81 x84 x85 x86 x87 x88 x89 x92 x93 x94 x95 x96 x97 x98 x99 x100 x101 x102 x103 x104 x105 x106 x107 x108 x109 x110 x111 x112 x113 x114 x115 x118 wx ord3 giv3 m hW3 hmr hmn hml heq3
            obtain ⟨ma, mc, rfl⟩ := hmr.slice
            have hlen3 := hW3.len
            have hroom : (6000 : Int) - (before : Int) - (out.length : Int) = (roomT before out : Int) := by unfold roomT; omega
            have hrb : roomT before out ≤ 6000 := by unfold roomT; omega
            have hml2 : (m.length : Int) ≤ 6000 := by omega
            by_cases hro : roomT before out < m.length
            · obtain ⟨g2, cap2, pv2, e3, hg2, _, _, _, _, _, q4, q5, q6, _⟩ := hmr.at (roomT before out) hro
              have hgd : m.getD (roomT before out) zeroD = m[roomT before out] := by rw [List.getD_eq_getElem?_getD, List.getElem?_eq_getElem hro]; rfl
              have heq4 := Lib.hid ((HLO.out.symm.trans heq3).trans (if_pos hro))
              rw [hgd] at heq4
              have hrr : ((roomT before out : Nat) : Int) < (m.length : Int) := by omega
              have hpz := hW3.pos
              have hk3 := hW3.keeps
              have hlow := hW3.low.1
              clear hW3 hmr hgd heq3
              generalize m[roomT before out] = x at *
              obtain ⟨xf, xd⟩ := x
              simp only at q4 q5 q6
              cases e3
              generalize roomT before out = rm at *
              obtain ⟨b0, b1, b2, z0, z1, z2, zl⟩ := three hpz
              have hfin := (((hpz.set 0 (.int .i64 xf)).set 1 (.int .i64 xd.line)).set 2 (.int .i64 xd.col)).drew
              obtain ⟨r0, r1, r2, -⟩ := three (show Holds _ pb #[.int .i64 xf, .int .i64 xd.line, .int .i64 xd.col] 27 from hfin)
              have hkf := Lib.hid (((hk3.setCell (p := ⟨pb, 0, none⟩) (.inl hlow) (.int .i64 xf)).setCell (p := ⟨pb, 1, none⟩) (.inl hlow) (.int .i64 xd.line)).setCell (p := ⟨pb, 2, none⟩) (.inl hlow) (.int .i64 xd.col)).drew
              clear hfin hpz hk3
              go_wp2_with fail
              go_region
              all_goals
                go_wp2_with fail
                exact bodyPost_ret (v := .tuple #[.slice none 0 0, .agg #[.int .i64 xf, .int .i64 xd.line, .int .i64 xd.col], .int .i64 3]) (by simp [results, Tryz.results72, go_sem, r0, r1, r2]) rfl ⟨hkf.out, by rw [HR.out, ← HRL2.out, heq4.out]; rfl⟩
            · obtain ⟨vs, us, hown, hsrc, happ⟩ := hW3.app hsb hmr (by omega)
              have HOWN := Lib.hid hown
              have HSRC := Lib.hid hsrc
              have HAPP := Lib.hid happ
              obtain ⟨y0, hyn, hy0, hy1, hy2⟩ := info_parts infoDef9
              have hro2 : ((roomT before out : Nat) : Int) < (m.length : Int) → False := by omega
              have hb9 : base ≤ wx.heap.size := by have := hW3.keeps.size; omega
              clear hown hsrc happ hW3 hmr
              generalize roomT before out = rm at *
              go_upto_region 26 with fail
              go_wp2_with (at_builtin; refine wpList_append_src _ rfl _ _ 25 25 rfl base 34 y0 _ 7 88 Tryz.underlying25 hyn hy0 hy1 hy2 rfl _ out.length (fdCells out vs) rfl (by exact HOWN.out) _ rfl m.length (fdCells m us) (by exact HSRC.out) ?c5 ?c6 ?c7 ?_)
              case c5 => unfold maxLen; omega
              case c6 => omega
              case c7 => omega
              intro v9 w9 hown9 hgrow9 hat9
              have HW9 := Lib.hid (HAPP.out v9 w9 hown9 hgrow9 hat9)
              clear hown9 hgrow9 hat9
              go_wp2_with fail
              go_roundg (gk - 1)
              case measure => omega
              case rel => exact ⟨i + 1, by go_num, by omega, by omega, ord3, giv3, out ++ m, HW9.out, by have h9 := heq3.symm.trans HLO.out; rw [if_neg hro] at h9; exact h9⟩
          · refine Lib.hid ?_
            intro c wx p er h6 h7 h8 hH hK heq3
            obtain ⟨r0, r1, r2, -⟩ := three hH
            obtain ⟨p1', p2', p3'⟩ := p
            have heq4 := HLO.out.symm.trans heq3
            exact bodyPost_ret (v := .tuple #[.slice none 0 0, .agg #[.int .i64 p1', .int .i64 p2', .int .i64 p3'], .int .i64 er]) (by simp [results, Tryz.results72, go_sem, h6, h7, h8, r0, r1, r2]) rfl ⟨hK, by rw [HR.out, ← HRL2.out, heq4]; rfl⟩
        · obtain rfl : i = D.length := by omega
          have hLo2 : (.ok (ord2, giv2, out) : Lr) = R := by rw [← hLo, tag_end]; rfl
          have HLO := Lib.hid hLo2
          obtain ⟨gg, oc2, rv2, hH9, hoc1, hoc2, hoc3, hfin⟩ := hW.fin HA.out hF hsb
          have HFIN := Lib.hid hfin
          have l2 : wr.cell? ⟨lb, 2, none⟩ = some (.slice (some ⟨gg, 0, none⟩) (opn.length + 1) oc2) := hH9.cell 2
          have lf2 := hH9.free 2
          have ll := hH9.lt
          have hH10 := Lib.hid ((hH9.set 2 (.slice (some ⟨gg, 0, none⟩) opn.length oc2)).drew)
          have hk10 := Lib.hid (((Keeps.refl (· = lb) wr).setCell (p := ⟨lb, 2, none⟩) (.inr rfl) (.slice (some ⟨gg, 0, none⟩) opn.length oc2)).drew)
          have HLOWP := Lib.hid hW.low.1
          have HNEW := Lib.hid hW.new
          clear hW hLo hLo2 hH9 hfin
          go_wp2_with fail
          go_region
          all_goals
            generalize (wr.setCell ⟨lb, 2, none⟩ (.slice (some ⟨gg, 0, none⟩) opn.length oc2)).drew = w6 at *
            obtain ⟨o, hrun, hLd, hrow, hpz, hkk, hT3, hT4⟩ := HFIN.out w6 hk10.out hH10.out
            have m1 : w6.cell? ⟨lb, 1, none⟩ = some (.map (some mb)) := hH10.out.cell 1
            have ml := hH10.out.lt
            have HLD3 := Lib.hid hLd
            have HROW3 := Lib.hid hrow
            have HPZ3 := Lib.hid hpz
            have HKK3 := Lib.hid hkk
            have HT3 := Lib.hid hT3
            have HT4 := Lib.hid hT4
            clear hLd hrow hpz hkk hT3 hT4
            go_upto_region 30 with fail
            generalize setBlock w6 mb o = w8 at *
            have hlowp := HLOWP.out
            obtain ⟨b0, b1, b2, z0, z1, z2, zl⟩ := three HPZ3.out
            have hfin := (((HPZ3.out.set 0 (.int .i64 0)).set 1 (.int .i64 0)).set 2 (.int .i64 0))
            obtain ⟨r0, r1, r2, -⟩ := three (show Holds _ pb #[.int .i64 0, .int .i64 0, .int .i64 0] 27 from hfin)
            have kq : Keeps (· = pb) w8 (((w8.setCell ⟨pb, 0, none⟩ (.int .i64 0)).setCell ⟨pb, 1, none⟩ (.int .i64 0)).setCell ⟨pb, 2, none⟩ (.int .i64 0)) := (((Keeps.refl (· = pb) w8).setCell (p := ⟨pb, 0, none⟩) (.inr rfl) _).setCell (p := ⟨pb, 1, none⟩) (.inr rfl) _).setCell (p := ⟨pb, 2, none⟩) (.inr rfl) _
            have hS : ∀ b, b = pb → base ≤ b ∧ ∃ cs, Holds w8 b cs 27 := by
              rintro b rfl
              exact ⟨hbp, _, HPZ3.out⟩
            have HFINAL := Lib.hid (show LdPost A lb mb base (.slice (some ⟨fg, fo, none⟩) F.length fc) (.slice oa opn.length oc) (.slice ra ord.length rc) F opn (ldT F (fuel + 1) opn ord giv file before) w (.returned (.tuple #[.slice va out.length vc, .agg #[.int .i64 0, .int .i64 0, .int .i64 0], .int .i64 0])) (((w8.setCell ⟨pb, 0, none⟩ (.int .i64 0)).setCell ⟨pb, 1, none⟩ (.int .i64 0)).setCell ⟨pb, 2, none⟩ (.int .i64 0)) from by
              refine ⟨HKK3.out.trans kq (fun i hi e => by subst e; exact absurd hi (by omega)), ?_⟩
              rw [HR.out, ← HRL2.out, ← HLO.out]
              exact ⟨_, _, _, rfl, HROW3.out.side kq (fun b e => (hS b e).2), HLD3.out.side kq hS, HNEW.out, HT3.out, HT4.out⟩)
            clear kq hS hfin
            go_wp2_with fail
            exact bodyPost_ret (v := .tuple #[.slice va out.length vc, .agg #[.int .i64 0, .int .i64 0, .int .i64 0], .int .i64 0]) (by simp [results, Tryz.results72, go_sem, r0, r1, r2]) rfl HFINAL.out
    · have he' : (er == 0) = false := by simpa using he
      have hR : ldT F (fuel + 1) opn ord giv file before = .error ((p1, p2, p3), er) := by rw [HLD.out, if_pos (by simpa using he)]
      have HR := Lib.hid hR
      clear hR he
      have hPc := HP0.out.keeps HK1.out (by
        rintro (e | e)
        · omega
        · exact owns_ne_holds HRO.out HP0.out (by decide) e)
      have hP3 := (hPc.keeps (Keeps.of_fresh hb2 (fun _ => False)) (fun e => e)).alloc (.cells #[.int .i64 p1, .int .i64 p2, .int .i64 p3] 27)
      have hQ3 := Holds.new w2 #[.int .i64 p1, .int .i64 p2, .int .i64 p3] 27
      obtain ⟨a0, a1, a2, -, -, -, ql⟩ := three hQ3
      obtain ⟨b0, b1, b2, g0, g1, g2, gl⟩ := three hP3
      have hfin := (((hP3.set 0 (.int .i64 p1)).set 1 (.int .i64 p2)).set 2 (.int .i64 p3)).drew
      obtain ⟨q0, q1, q2, -⟩ := three (show Holds _ pb #[.int .i64 p1, .int .i64 p2, .int .i64 p3] 27 from hfin)
      have kS0 : Keeps (LdS lb mb ov (.slice ra ord.length rc)) w wc := (Keeps.of_fresh (show Below w.heap.size w w0 from by rw [← HPB.out]; exact HB0.out) _).trans HK1.out (fun _ _ e => by
        rcases e with e | e
        · exact .inl e
        · exact .inr (.inr (.inr e)))
      have hpw : w.heap.size ≤ pb := by have := HPB.out; omega
      have hkf := (((((kS0.trans (Keeps.of_fresh hb2 (fun _ => False)) (fun _ _ e => e.elim)).alloc (.cells #[.int .i64 p1, .int .i64 p2, .int .i64 p3] 27)).setCell (p := ⟨pb, 0, none⟩) (.inl hpw) (.int .i64 p1)).setCell (p := ⟨pb, 1, none⟩) (.inl hpw) (.int .i64 p2)).setCell (p := ⟨pb, 2, none⟩) (.inl hpw) (.int .i64 p3)).drew
      have HKF := Lib.hid hkf
      clear hfin hkf hPc hP3 hQ3 hP2 hD2 hb2
      go_wp2_with fail
      go_region
      all_goals
        go_wp2_with fail
        exact bodyPost_ret (v := .tuple #[.slice none 0 0, .agg #[.int .i64 p1, .int .i64 p2, .int .i64 p3], .int .i64 er]) (by simp [results, Tryz.results72, go_sem, q0, q1, q2]) rfl ⟨HKF.out, by rw [HR.out]; rfl⟩
theorem inc_load : ∀ fuel, LoadC fuel
  | 0 => fun A lb mb base fv ov rv F opn ord giv file before w _ _ _ _ _ hg _ _ hfu => by have := hg.short; omega
  | fuel + 1 => inc_load_step fuel (inc_load fuel)
end Go.Proofs.YtofhcgbihonckaaGreat

namespace Go.Proofs.YtofhcgbihonckaaGreat
open Go.RowKit Go.ChangeMaps

theorem findI_any (F : List FileT) (s : ByteArray) : decide (0 ≤ findI F s) = F.any (fun g => decide (g.name = s)) := by
  unfold findI
  rw [Bool.eq_iff_iff, decide_eq_true_eq, List.any_eq_true]
  cases h : findF F s with
  | none =>
    unfold findF at h
    rw [List.findIdx?_eq_none_iff] at h
    constructor
    · intro e; exact absurd e (by simp)
    · rintro ⟨g, hg, e⟩; rw [h g hg] at e; cases e
  | some k =>
    constructor
    · intro _
      unfold findF at h
      obtain ⟨hk, h1, _⟩ := List.findIdx?_eq_some_iff_getElem.1 h
      exact ⟨F[k], List.getElem_mem hk, h1⟩
    · intro _; simp
/-- What the loading of a main file leaves. -/
def Ld0Post (fv : Value) (R : Lr) (w : World) (e : Ending) (w' : World) : Prop :=
  Below w.heap.size w w' ∧ match R with
  | .error (p, er) => ∃ x, e = .returned (.tuple #[.pointer x, .slice none 0 0, posAgg p, .int .i64 er])
  | .ok (ord, _, out) => ∃ lb mb v ov rv, e = .returned (.tuple #[.pointer (some ⟨lb, 0, none⟩), v, posAgg (0, 0, 0), .int .i64 0]) ∧ FdsRow w' w.heap.size v out ∧ Holds w' lb (ldC fv mb ov rv) 95 ∧ w'.ownsRow w.heap.size 9 1 rv ord.length (strRow ord)
set_option maxRecDepth 100000 in
set_option maxHeartbeats 8000000 in
theorem inc_load0 (fv : Value) (F : List FileT) (main : ByteArray) (w : World) (hF : FilesAt w fv F) (hlow : ∀ g, fv.ownBlock = some g → g < w.heap.size) (hl : F.length ≤ 1000) (hT : ∀ f ∈ F, f.text.size ≤ maxLen ∧ f.name.size ≤ maxLen) (lay : Lay0 w) (hw0 : 0 < w.heap.size) :
    Calls Tryz.prog 40 #[fv, .string main] w (Ld0Post fv (loadT F main) w) := by
  obtain ⟨a, cap, rfl, h1, h2, h3⟩ := id hF
  have hb0 := (Below.refl w.heap.size w).alloc (Nat.le_refl _) (.cells #[.int .i64 0, .int .i64 0, .int .i64 0] 27)
  have hP0 := Lib.hid (Holds.new w #[.int .i64 0, .int .i64 0, .int .i64 0] 27)
  have HF0 := Lib.hid (hF.new hb0)
  have HB0 := Lib.hid hb0
  have HLOW := Lib.hid hlow
  have HT := Lib.hid hT
  have HLAY := Lib.hid lay
  have hsz0 : (w.alloc (.cells #[.int .i64 0, .int .i64 0, .int .i64 0] 27)).heap.size = w.heap.size + 1 := by simp
  obtain ⟨R, hR⟩ : ∃ R, R = loadT F main := ⟨_, rfl⟩
  have HR := Lib.hid hR
  rw [← hR]
  have hF0 := Lib.hid hF
  clear hF hlow hT lay h3 hb0 hR
  have hmm := fun wx => run_makeMap (P := Tryz.prog) 93 wx
  go_enter Tryz.func40, Tryz.ntmps40
  go_upto_region 1 with fail
  generalize w.alloc (.cells #[.int .i64 0, .int .i64 0, .int .i64 0] 27) = w1 at *
  by_cases h8 : 8 < F.length
  · have h8' : (8 : Int) < (F.length : Int) := by omega
    obtain ⟨b0, b1, b2, z0, z1, z2, zl⟩ := three hP0.out
    have hfin := ((hP0.out.set 0 (.int .i64 0)).set 1 (.int .i64 0)).set 2 (.int .i64 0)
    obtain ⟨r0, r1, r2, -⟩ := three (show Holds _ w.heap.size #[.int .i64 0, .int .i64 0, .int .i64 0] 27 from hfin)
    have hb9 := Lib.hid (((HB0.out.setCell (p := ⟨w.heap.size, 0, none⟩) (Nat.le_refl _) (.int .i64 0)).setCell (p := ⟨w.heap.size, 1, none⟩) (Nat.le_refl _) (.int .i64 0)).setCell (p := ⟨w.heap.size, 2, none⟩) (Nat.le_refl _) (.int .i64 0))
    have HE : Hid (R = .error ((0, 0, 0), 3)) := Lib.hid (by rw [HR.out]; unfold loadT; rw [if_pos h8])
    clear hfin
    go_wp2_with fail
    exact bodyPost_ret (v := .tuple #[.pointer none, .slice none 0 0, .agg #[.int .i64 0, .int .i64 0, .int .i64 0], .int .i64 3]) (by simp [results, Tryz.results40, go_sem, r0, r1, r2]) rfl ⟨hb9.out, by rw [HE.out]; exact ⟨none, rfl⟩⟩
  · have hle : F.length ≤ 8 := by omega
    have HFW := hF0
    clear h8
    go_wp2_with fail
    go_loopg [21] (F.length) (fun f x wr => ∃ i : Nat, x = .int .i64 i ∧ i ≤ F.length ∧ F.length ≤ i + f ∧ Hid (dupF (F.take i) (F.drop i) = dupF [] F) ∧ Below w.heap.size w wr ∧ Holds wr w.heap.size #[.int .i64 0, .int .i64 0, .int .i64 0] 27)
    case atStart => exact ⟨0, rfl, by omega, by omega, Lib.hid (by rw [List.take_zero, List.drop_zero]), HB0.out, hP0.out⟩
    case round =>
      obtain ⟨i, rfl, hi1, hi2, hd, hB, hP⟩ := hrel
      have HB := Lib.hid hB
      have HP := Lib.hid hP
      clear hB hP
      have hFr := HFW.out.new HB.out
      by_cases hlt : i < F.length
      · obtain ⟨a', cap', e, _, _, h3⟩ := id hFr
        cases e
        obtain ⟨fg, fo, rfl, hfg, hfc⟩ := h3 (by omega)
        obtain ⟨n0, n1⟩ := hfc i hlt
        have hdr : F.drop i = F[i] :: F.drop (i + 1) := List.drop_eq_getElem_cons hlt
        have htk : F.take (i + 1) = F.take i ++ [F[i]] := List.take_succ_eq_append_getElem hlt
        generalize F[i] = f0 at *
        obtain ⟨n, t⟩ := f0
        simp only at n0 n1
        have hir : (i : Int) < (F.length : Int) := by omega
        have hb1 := (Below.refl wr.heap.size wr).alloc (Nat.le_refl _) (.cells #[.string n, .string t] 46)
        have hsb := Holds.new wr #[.string n, .string t] 46
        have hcf := files_ContainsFunc wr.heap.size n (.slice (some ⟨fg, fo, none⟩) i cap) (F.take i) _ ((hFr.new hb1).pre i hi1) (hsb.cell 0) hsb.lt (by rw [List.length_take]; omega)
        rw [findI_any] at hcf
        have HB1 := Lib.hid (HB.out.trans (hb1.mono HB.out.size))
        have HP1 := Lib.hid (HP.out.alloc (.cells #[.string n, .string t] 46))
        have HDR := Lib.hid hdr
        have HTK := Lib.hid htk
        have hwsz := HB.out.size
        clear hfc h3 hFr hb1 hsb hdr htk
        cases hdd : (F.take i).any (fun g => decide (g.name = n)) with
        | true =>
          rw [hdd] at hcf
          have HCF := Lib.hid hcf
          have HE : Hid (R = .error ((0, 0, 0), 5)) := Lib.hid (by
            rw [HR.out]; unfold loadT
            rw [if_neg (by omega), if_pos]
            rw [← hd.out, HDR.out]
            simp only [dupF, hdd, Bool.true_or])
          clear hcf hdd
          go_wp2_with fail
          refine (by exact HCF.out : Calls _ _ _ _ _).mono ?_
          rintro e w2 ⟨rfl, hb2⟩
          have HP2 := Lib.hid (HP1.out.keeps (Keeps.of_fresh hb2 (fun _ => False)) (fun e => e))
          have HB2 := Lib.hid (HB1.out.trans (hb2.mono HB1.out.size))
          clear hb2
          go_upto_region 7 with fail
          obtain ⟨b0, b1, b2, z0, z1, z2, zl⟩ := three HP2.out
          have hfin := ((HP2.out.set 0 (.int .i64 0)).set 1 (.int .i64 0)).set 2 (.int .i64 0)
          obtain ⟨r0, r1, r2, -⟩ := three (show Holds _ w.heap.size #[.int .i64 0, .int .i64 0, .int .i64 0] 27 from hfin)
          have hb9 := Lib.hid (((HB2.out.setCell (p := ⟨w.heap.size, 0, none⟩) (Nat.le_refl _) (.int .i64 0)).setCell (p := ⟨w.heap.size, 1, none⟩) (Nat.le_refl _) (.int .i64 0)).setCell (p := ⟨w.heap.size, 2, none⟩) (Nat.le_refl _) (.int .i64 0))
          clear hfin
          go_wp2_with fail
          exact bodyPost_ret (v := .tuple #[.pointer none, .slice none 0 0, .agg #[.int .i64 0, .int .i64 0, .int .i64 0], .int .i64 5]) (by simp [results, Tryz.results40, go_sem, r0, r1, r2]) rfl ⟨hb9.out, by rw [HE.out]; exact ⟨none, rfl⟩⟩
        | false =>
          rw [hdd] at hcf
          have HCF := Lib.hid hcf
          have HD2 : Hid (dupF (F.take (i + 1)) (F.drop (i + 1)) = dupF [] F) := Lib.hid (by
            rw [← hd.out, HDR.out, HTK.out]
            simp only [dupF, hdd, Bool.false_or])
          clear hcf hdd
          go_wp2_with fail
          refine (by exact HCF.out : Calls _ _ _ _ _).mono ?_
          rintro e w2 ⟨rfl, hb2⟩
          have HP2 := Lib.hid (HP1.out.keeps (Keeps.of_fresh hb2 (fun _ => False)) (fun e => e))
          have HB2 := Lib.hid (HB1.out.trans (hb2.mono HB1.out.size))
          clear hb2
          go_wp2_with fail
          go_roundg (gk - 1)
          case measure => omega
          case rel => exact ⟨i + 1, by go_num, by omega, by omega, HD2, HB2.out, HP2.out⟩
      · obtain rfl : i = F.length := by omega
        have hdup : dupF [] F = false := by rw [← hd.out, List.drop_length]; rfl
        clear hd
        have hb1 := ((Below.refl wr.heap.size wr).alloc (Nat.le_refl _) (.map #[] 0)).alloc (by simp) (.cells #[.slice a F.length cap, .map (some wr.heap.size), .slice none 0 0, .slice none 0 0] 95)
        have HFN := Lib.hid (hFr.new hb1)
        have HB1 := Lib.hid (HB.out.trans (hb1.mono HB.out.size))
        have HP1 := Lib.hid (HP.out.keeps (Keeps.of_fresh hb1 (fun _ => False)) (fun e => e))
        have HL1 := Lib.hid (Holds.newAt (w := wr.alloc (.map #[] 0)) (B := wr.heap.size + 1) (by simp) #[.slice a F.length cap, .map (some wr.heap.size), .slice none 0 0, .slice none 0 0] 95)
        have HJ1 := Lib.hid ((RowsJ.new wr).keeps ((Keeps.refl (fun _ => False) _).alloc (.cells #[.slice a F.length cap, .map (some wr.heap.size), .slice none 0 0, .slice none 0 0] 95)) (fun e => e))
        have hwsz := HB.out.size
        have hs2 : ((wr.alloc (.map #[] 0)).alloc (.cells #[.slice a F.length cap, .map (some wr.heap.size), .slice none 0 0, .slice none 0 0] 95)).heap.size = wr.heap.size + 2 := by simp
        have HS2 := Lib.hid hs2
        clear hb1 hFr hs2
        go_upto_region 10 with fail
        generalize (wr.alloc (.map #[] 0)).alloc (.cells #[.slice a F.length cap, .map (some wr.heap.size), .slice none 0 0, .slice none 0 0] 95) = w2 at *
        have hlb : w.heap.size < wr.heap.size + 1 := by omega
        have hLd : LdAt (fun _ => False) w2 (wr.heap.size + 1) wr.heap.size w.heap.size (.slice a F.length cap) (.slice none 0 0) (.slice none 0 0) F [] [] [] :=
          ⟨HL1.out, HFN.out, HLOW.out, World.ownsRow_nil _ _ _ _, World.ownsRow_nil _ _ _ _, ⟨[], HJ1.out, rfl, fun i h => by cases h⟩, by omega, hwsz, by have := HS2.out; omega⟩
        have hfd := inc_find (wr.heap.size + 1) wr.heap.size (.slice a F.length cap) (.slice none 0 0) (.slice none 0 0) F main w2 hLd.holds hLd.files hl
        have HLD := Lib.hid hLd
        clear hLd
        cases hf : findF F main with
        | none =>
          rw [show findI F main = -1 from by unfold findI; rw [hf]] at hfd
          have HFD := Lib.hid hfd
          have HE : Hid (R = .error ((0, 0, 0), 4)) := Lib.hid (by
            rw [HR.out]; unfold loadT
            rw [if_neg (by omega), if_neg (by rw [hdup]; simp), hf])
          clear hfd hf
          go_wp2_with fail
          refine (by exact HFD.out : Calls _ _ _ _ _).mono ?_
          rintro e w3 ⟨rfl, hb2⟩
          have HP2 := Lib.hid (HP1.out.keeps (Keeps.of_fresh hb2 (fun _ => False)) (fun e => e))
          have HB2 := Lib.hid (HB1.out.trans (hb2.mono HB1.out.size))
          clear hb2
          go_upto_region 12 with fail
          obtain ⟨b0, b1, b2, z0, z1, z2, zl⟩ := three HP2.out
          have hfin := ((HP2.out.set 0 (.int .i64 0)).set 1 (.int .i64 0)).set 2 (.int .i64 0)
          obtain ⟨r0, r1, r2, -⟩ := three (show Holds _ w.heap.size #[.int .i64 0, .int .i64 0, .int .i64 0] 27 from hfin)
          have hb9 := Lib.hid (((HB2.out.setCell (p := ⟨w.heap.size, 0, none⟩) (Nat.le_refl _) (.int .i64 0)).setCell (p := ⟨w.heap.size, 1, none⟩) (Nat.le_refl _) (.int .i64 0)).setCell (p := ⟨w.heap.size, 2, none⟩) (Nat.le_refl _) (.int .i64 0))
          clear hfin
          go_wp2_with fail
          exact bodyPost_ret (v := .tuple #[.pointer none, .slice none 0 0, .agg #[.int .i64 0, .int .i64 0, .int .i64 0], .int .i64 4]) (by simp [results, Tryz.results40, go_sem, r0, r1, r2]) rfl ⟨hb9.out, by rw [HE.out]; exact ⟨none, rfl⟩⟩
        | some k =>
          rw [show findI F main = (k : Int) from by unfold findI; rw [hf]] at hfd
          have HFD := Lib.hid hfd
          have HE : Hid (R = ldT F (F.length + 1) [] [] [] k 0) := Lib.hid (by
            rw [HR.out]; unfold loadT
            rw [if_neg (by omega), if_neg (by rw [hdup]; simp), hf])
          have hkl := findF_lt hf
          clear hfd hf
          go_wp2_with fail
          refine (by exact HFD.out : Calls _ _ _ _ _).mono ?_
          rintro e w3 ⟨rfl, hb2⟩
          have HP2 := Lib.hid (HP1.out.keeps (Keeps.of_fresh hb2 (fun _ => False)) (fun e => e))
          have HB2 := Lib.hid (HB1.out.trans (hb2.mono HB1.out.size))
          have HLD2 := Lib.hid (HLD.out.new hb2)
          have hld := inc_load (F.length + 1) (fun _ => False) _ _ _ _ _ _ F [] [] [] k 0 w3 HLD2.out (fun g e => e.elim) hkl hle HT.out (givOk_nil F) (by simp) rfl (by simp) (by omega) hw0 (HLAY.out.keeps (Keeps.of_fresh HB2.out (fun _ => False)) (fun e => e))
          rw [← HE.out] at hld
          have HLOAD := Lib.hid hld
          clear hb2 hld
          go_wp2_with fail
          refine (by exact HLOAD.out : Calls _ _ _ _ _).mono ?_
          rintro e w4 ⟨hk4, hres⟩
          have hP4 := HLD2.out.pos hk4 HP2.out
          have hB4 : Below w.heap.size w w4 := HB2.out.trans (hk4.below HB2.out.size (fun i hi e => by
            rcases e with e | e | e | e
            · omega
            · omega
            · cases e
            · cases e))
          cases hRR : R with
          | error x =>
            obtain ⟨⟨p1, p2, p3⟩, er⟩ := x
            rw [hRR] at hres
            simp only at hres
            subst hres
            unfold posAgg
            have hPz := hP4
            have hP3 := hPz.alloc (.cells #[.int .i64 p1, .int .i64 p2, .int .i64 p3] 27)
            have hQ3 := Holds.new w4 #[.int .i64 p1, .int .i64 p2, .int .i64 p3] 27
            obtain ⟨a0, a1, a2, -, -, -, ql⟩ := three hQ3
            obtain ⟨b0, b1, b2, g0, g1, g2, gl⟩ := three hP3
            have hfin := (((hP3.set 0 (.int .i64 p1)).set 1 (.int .i64 p2)).set 2 (.int .i64 p3)).drew
            obtain ⟨q0, q1, q2, -⟩ := three (show Holds _ w.heap.size #[.int .i64 p1, .int .i64 p2, .int .i64 p3] 27 from hfin)
            have hb9 := Lib.hid ((((hB4.alloc hB4.size (.cells #[.int .i64 p1, .int .i64 p2, .int .i64 p3] 27)).setCell (p := ⟨w.heap.size, 0, none⟩) (Nat.le_refl _) (.int .i64 p1)).setCell (p := ⟨w.heap.size, 1, none⟩) (Nat.le_refl _) (.int .i64 p2)).setCell (p := ⟨w.heap.size, 2, none⟩) (Nat.le_refl _) (.int .i64 p3)).drew
            have HRR := Lib.hid hRR
            clear hfin hPz hP4 hP3 hQ3 hk4 hB4 hRR
            go_wp2_with fail
            go_region
            all_goals
              go_wp2_with fail
              exact bodyPost_ret (v := .tuple #[.pointer (some ⟨wr.heap.size + 1, 0, none⟩), .slice none 0 0, .agg #[.int .i64 p1, .int .i64 p2, .int .i64 p3], .int .i64 er]) (by simp [results, Tryz.results40, go_sem, q0, q1, q2]) rfl ⟨hb9.out, by first | exact ⟨_, rfl⟩ | (rw [HRR.out]; exact ⟨_, rfl⟩)⟩
          | ok x =>
            obtain ⟨ord9, giv9, out9⟩ := x
            rw [hRR] at hres
            obtain ⟨v, ov9, rv9, rfl, hrow, hL9, _, _, _⟩ := hres
            obtain ⟨v1, v2, rfl⟩ := hrow.slice
            unfold posAgg
            have hP3 := hP4.alloc (.cells #[.int .i64 0, .int .i64 0, .int .i64 0] 27)
            have hQ3 := Holds.new w4 #[.int .i64 0, .int .i64 0, .int .i64 0] 27
            obtain ⟨a0, a1, a2, -, -, -, ql⟩ := three hQ3
            obtain ⟨b0, b1, b2, g0, g1, g2, gl⟩ := three hP3
            have hfin := (((hP3.set 0 (.int .i64 0)).set 1 (.int .i64 0)).set 2 (.int .i64 0)).drew
            obtain ⟨q0, q1, q2, -⟩ := three (show Holds _ w.heap.size #[.int .i64 0, .int .i64 0, .int .i64 0] 27 from hfin)
            have hb9 := Lib.hid ((((hB4.alloc hB4.size (.cells #[.int .i64 0, .int .i64 0, .int .i64 0] 27)).setCell (p := ⟨w.heap.size, 0, none⟩) (Nat.le_refl _) (.int .i64 0)).setCell (p := ⟨w.heap.size, 1, none⟩) (Nat.le_refl _) (.int .i64 0)).setCell (p := ⟨w.heap.size, 2, none⟩) (Nat.le_refl _) (.int .i64 0)).drew
            have kq := (((((Keeps.refl (· = w.heap.size) w4).alloc (.cells #[.int .i64 0, .int .i64 0, .int .i64 0] 27)).setCell (p := ⟨w.heap.size, 0, none⟩) (.inr rfl) (.int .i64 0)).setCell (p := ⟨w.heap.size, 1, none⟩) (.inr rfl) (.int .i64 0)).setCell (p := ⟨w.heap.size, 2, none⟩) (.inr rfl) (.int .i64 0)).drew
            have hS : ∀ b, b = w.heap.size → w.heap.size ≤ b ∧ ∃ cs, Holds w4 b cs 27 := by
              rintro b rfl
              exact ⟨Nat.le_refl _, _, hP4⟩
            have HROW := Lib.hid (hrow.side kq (fun b e => (hS b e).2))
            have HL10 := Lib.hid (hL9.side kq hS)
            have HRR := Lib.hid hRR
            clear hfin hP4 hP3 hQ3 hk4 hB4 hRR hrow hL9 kq hS
            go_wp2_with fail
            go_region
            all_goals
              go_wp2_with fail
              exact bodyPost_ret (v := .tuple #[.pointer (some ⟨wr.heap.size + 1, 0, none⟩), .slice v1 out9.length v2, .agg #[.int .i64 0, .int .i64 0, .int .i64 0], .int .i64 0]) (by simp [results, Tryz.results40, go_sem, q0, q1, q2]) rfl ⟨hb9.out, by rw [HRR.out]; exact ⟨_, _, _, _, _, rfl, HROW.out, HL10.out.holds, HL10.out.ord⟩⟩
end Go.Proofs.YtofhcgbihonckaaGreat

namespace Go.Proofs.YtofhcgbihonckaaGreat
open Go.RowKit

/-- What Load of include answers. -/
def LoadPost (F : List FileT) (main : ByteArray) (w : World) (e : Ending) (w' : World) : Prop :=
  ∃ v, e = .returned (.tuple #[v, posAgg (LoadT F main).2.1, .int .i64 (LoadT F main).2.2]) ∧ FdsRow w' w.heap.size v (LoadT F main).1 ∧ Below w.heap.size w w'
theorem FdsRow.new2 {w w' : World} {base : Nat} {v : Value} {l : List FdT} (h : FdsRow w base v l) (k : Below w.heap.size w w') : FdsRow w' base v l := h.new k
set_option maxRecDepth 100000 in
set_option maxHeartbeats 8000000 in
theorem inc_Load (fv : Value) (F : List FileT) (main : ByteArray) (w : World) (hF : FilesAt w fv F) (hlow : ∀ g, fv.ownBlock = some g → g < w.heap.size) (hl : F.length ≤ 1000) (hT : ∀ f ∈ F, f.text.size ≤ maxLen ∧ f.name.size ≤ maxLen) (lay : Lay0 w) (hw0 : 0 < w.heap.size) :
    Calls Tryz.prog 19 #[fv, .string main] w (LoadPost F main w) := by
  have hb0 := (Below.refl w.heap.size w).alloc (Nat.le_refl _) (.cells #[.int .i64 0, .int .i64 0, .int .i64 0] 27)
  have HP0 := Lib.hid (Holds.new w #[.int .i64 0, .int .i64 0, .int .i64 0] 27)
  have hsz : (w.alloc (.cells #[.int .i64 0, .int .i64 0, .int .i64 0] 27)).heap.size = w.heap.size + 1 := by simp
  have hld := inc_load0 fv F main _ (hF.new hb0) (fun g hg => by have := hlow g hg; omega) hl hT (lay.keeps (Keeps.of_fresh hb0 (fun _ => False)) (fun e => e)) (by omega)
  have HLD := Lib.hid (show Calls Tryz.prog 40 #[fv, .string main] (w.alloc (.cells #[.int .i64 0, .int .i64 0, .int .i64 0] 27)) (fun e w' => ∃ x v, e = .returned (.tuple #[.pointer x, v, posAgg (LoadT F main).2.1, .int .i64 (LoadT F main).2.2]) ∧ FdsRow w' (w.heap.size + 1) v (LoadT F main).1 ∧ (LoadT F main).1.length ≤ 6000 ∧ (∀ x ∈ (LoadT F main).1, OkD x.2) ∧ Below (w.heap.size + 1) (w.alloc (.cells #[.int .i64 0, .int .i64 0, .int .i64 0] 27)) w') from hld.mono (by
    rintro e w' ⟨hb, hres⟩
    rw [hsz] at hb
    unfold LoadT
    cases hR : loadT F main with
    | error x =>
      rw [hR] at hres
      obtain ⟨x, rfl⟩ := hres
      exact ⟨_, _, rfl, FdsRow.nil _ _, by simp, by simp, hb⟩
    | ok x =>
      rw [hR] at hres
      obtain ⟨lb, mb, v, ov, rv, rfl, hrow, _, _⟩ := hres
      rw [hsz] at hrow
      obtain ⟨q1, q2⟩ := load_len hR
      exact ⟨_, _, rfl, hrow, q1, q2, hb⟩))
  have HB0 := Lib.hid hb0
  unfold LoadPost
  generalize LoadT F main = R at *
  obtain ⟨D, ⟨p1, p2, p3⟩, er⟩ := R
  unfold posAgg at HLD ⊢
  clear hF hlow hT lay hld hb0
  go_enter Tryz.func19, Tryz.ntmps19
  go_upto_region 1 with fail
  generalize w.alloc (.cells #[.int .i64 0, .int .i64 0, .int .i64 0] 27) = w0 at *
  go_wp2_with fail
  refine (by exact HLD.out : Calls _ _ _ _ _).mono ?_
  rintro e w1 ⟨x, v, rfl, hrow, hl6, hok, hb1⟩
  have k1 : Keeps (fun _ => False) w0 w1 := Keeps.of_fresh (hsz ▸ hb1) _
  have hP1 := HP0.out.keeps k1 (fun e => e)
  have hP2 := hP1.alloc (.cells #[.int .i64 p1, .int .i64 p2, .int .i64 p3] 27)
  have hQ2 := Holds.new w1 #[.int .i64 p1, .int .i64 p2, .int .i64 p3] 27
  have hrow2 := hrow.new ((Below.refl w1.heap.size w1).alloc (Nat.le_refl _) (.cells #[.int .i64 p1, .int .i64 p2, .int .i64 p3] 27))
  have hb2 : Below w.heap.size w (w1.alloc (.cells #[.int .i64 p1, .int .i64 p2, .int .i64 p3] 27)) := (HB0.out.trans (hb1.mono (by omega))).alloc (by have := hb1.size; omega) _
  obtain ⟨v1, v2, rfl⟩ := hrow.slice
  have HP2 := Lib.hid hP2
  have HQ2 := Lib.hid hQ2
  have HROW2 := Lib.hid hrow2
  have HB2 := Lib.hid hb2
  have HOK := Lib.hid hok
  have hws1 := hb1.size
  have hsz2 : (w1.alloc (.cells #[.int .i64 p1, .int .i64 p2, .int .i64 p3] 27)).heap.size = w1.heap.size + 1 := by simp
  clear hrow hb1 k1 hP1 hP2 hQ2 hrow2 hb2 hok
  go_upto_region 2 with fail
  generalize w1.alloc (.cells #[.int .i64 p1, .int .i64 p2, .int .i64 p3] 27) = w2 at *
  have HCP := Lib.hid (fun (wx : World) (hx : FdsRow wx (w.heap.size + 1) (.slice v1 D.length v2) D) => inc_copied (w.heap.size + 1) (.slice v1 D.length v2) D wx hx hl6 HOK.out)
  obtain ⟨b0, b1, b2, g0, g1, g2, gl⟩ := three HP2.out
  obtain ⟨q0, q1, q2, i0, i1, i2, il⟩ := three HQ2.out
  go_region_with (go_at_call 41; refine (HCP.out _ (by exact HROW2.out.new (Below.refl w2.heap.size w2).drew)).mono ?_; rintro e w7 ⟨rv, rfl, hown, hb8⟩; obtain ⟨rva, rvc, hrv⟩ := hown.slice; subst hrv; have hb9 : Below w2.heap.size w2 w7 := (Below.refl w2.heap.size w2).drew.trans hb8; have kP := HP2.out.keeps (Keeps.of_fresh hb9 (fun _ => False)) (fun e => e); have kQ := HQ2.out.keeps (Keeps.of_fresh hb9 (fun _ => False)) (fun e => e); obtain ⟨c0, c1, c2, h0, h1, h2, cl⟩ := three kP; obtain ⟨d0, d1, d2, j0, j1, j2, dl⟩ := three kQ)
  all_goals
    have hfin := ((kP.set 0 (.int .i64 p1)).set 1 (.int .i64 p2)).set 2 (.int .i64 p3)
    obtain ⟨r0, r1, r2, -⟩ := three (show Holds _ w.heap.size #[.int .i64 p1, .int .i64 p2, .int .i64 p3] 27 from hfin)
    have kq : Keeps (· = w.heap.size) w7 (((w7.setCell ⟨w.heap.size, 0, none⟩ (.int .i64 p1)).setCell ⟨w.heap.size, 1, none⟩ (.int .i64 p2)).setCell ⟨w.heap.size, 2, none⟩ (.int .i64 p3)) := (((Keeps.refl (· = w.heap.size) w7).setCell (p := ⟨w.heap.size, 0, none⟩) (.inr rfl) _).setCell (p := ⟨w.heap.size, 1, none⟩) (.inr rfl) _).setCell (p := ⟨w.heap.size, 2, none⟩) (.inr rfl) _
    have HR9 := Lib.hid ((hown.lower (b2 := w.heap.size) (by show w.heap.size ≤ w2.heap.size; omega)).side kq (fun b e => by subst e; exact ⟨_, kP⟩))
    have HB9 := Lib.hid ((((HB2.out.trans (hb9.mono (by omega))).setCell (p := ⟨w.heap.size, 0, none⟩) (Nat.le_refl _) (.int .i64 p1)).setCell (p := ⟨w.heap.size, 1, none⟩) (Nat.le_refl _) (.int .i64 p2)).setCell (p := ⟨w.heap.size, 2, none⟩) (Nat.le_refl _) (.int .i64 p3))
    clear hfin kq hown hb8 hb9 kP kQ
    go_wp2_with fail
    exact bodyPost_ret (v := .tuple #[.slice rva D.length rvc, .agg #[.int .i64 p1, .int .i64 p2, .int .i64 p3], .int .i64 er]) (by simp [results, Tryz.results19, go_sem, r0, r1, r2]) rfl ⟨_, rfl, HR9.out, HB9.out⟩
end Go.Proofs.YtofhcgbihonckaaGreat

namespace Go.Proofs.YtofhcgbihonckaaGreat
open Go.RowKit

def fileCells (F : List FileT) : List Value := F.flatMap fun f => [.string f.name, .string f.text]
theorem infoFile9 : (Tryz.prog.info? 46).map (fun i => (i.zero, i.size, i.bytes)) = some (some (.agg #[.string ⟨#[]⟩, .string ⟨#[]⟩]), 2, 32) := by kernel_rfl
theorem fileCells_at : ∀ (F : List FileT) (i : Nat) (h : i < F.length), (fileCells F)[i * 2]? = some (.string F[i].name) ∧ (fileCells F)[i * 2 + 1]? = some (.string F[i].text)
  | f :: F, 0, _ => ⟨rfl, rfl⟩
  | f :: F, i + 1, h => by
    have := fileCells_at F i (by simpa using h)
    rw [show (i + 1) * 2 = i * 2 + 2 from by omega]
    exact this
/-- A row of files, one's own, is files to read. -/
theorem files_row {w : World} {base : Nat} {v : Value} {F : List FileT} (h : w.ownsRow base 46 2 v F.length (fileCells F)) : FilesAt w v F := by
  rcases id h.2 with ⟨rfl, h0⟩ | ⟨g, cap, cur, rfl, hb, hh, hcap, hm, hs, ht⟩
  · exact ⟨none, 0, by rw [h0], by omega, by omega, fun h1 => by omega⟩
  · refine ⟨_, cap, rfl, hcap, by unfold maxLen at hm; omega, fun h0 => ⟨g, 0, rfl, (h.lt g rfl).2, fun i hi => ?_⟩⟩
    obtain ⟨a, b⟩ := fileCells_at F i hi
    rw [Nat.zero_add]
    exact ⟨by rw [h.cellAt _ (by omega)]; exact a, by rw [h.cellAt _ (by omega)]; exact b⟩
theorem fileCells_snoc (F : List FileT) (f : FileT) : fileCells (F ++ [f]) = fileCells F ++ [.string f.name, .string f.text] := by simp [fileCells]
theorem fileCells_len (F : List FileT) : (fileCells F).length = F.length * 2 := by
  induction F with
  | nil => rfl
  | cons f F ih => simp only [fileCells, List.flatMap_cons, List.length_append, List.length_cons, List.length_nil] at ih ⊢; omega
theorem fileCells_one (F : List FileT) : ∀ u ∈ fileCells F, u.oneCell' = true := by
  intro u hu
  unfold fileCells at hu
  obtain ⟨c, _, hc⟩ := List.mem_flatMap.1 hu
  simp only [List.mem_cons, List.not_mem_nil, or_false] at hc
  rcases hc with rfl | rfl <;> rfl
end Go.Proofs.YtofhcgbihonckaaGreat

namespace Go.Proofs.YtofhcgbihonckaaGreat
open Go.RowKit

noncomputable def inoOps : Array Oper := (regOps (Tryz.f5.body.getD .skip) 5).getD #[]
theorem inoR : inRow2 .any inoOps = true := by kernel_rfl
theorem inoRa : apartB inoOps = true := by kernel_rfl
theorem inoRn : inoOps.size = 15 := by kernel_rfl
theorem row_srcF {w : World} {base n : Nat} {v : Value} {F : List FileT} (h : w.ownsRow base 46 2 v n (fileCells F)) : Src Tryz.prog 2 42 v n (fileCells F) w := row_src Tryz.underlying42 h (fileCells_one F)
theorem cells_of {w : World} {b : Nat} {cs : Array Value} {t : TypeId} (h : Holds w b cs t) : ∀ (j : Nat) (u : Value), cs.toList[j]? = some u → w.cell? ((⟨b, 0, none⟩ : Addr).add j) = some u := by
  intro j u hj
  have hadd : (⟨b, 0, none⟩ : Addr).add j = ⟨b, j, none⟩ := by unfold Addr.add; split <;> simp_all
  rw [hadd, h.cell j]
  simpa using hj
def InoF (vF : Value) (nm tx : ByteArray) (p1 p2 p3 er : Int) (b0 : Nat) (r2 : Value) (b4 : Nat) (r5 v : Value) (g : Nat) (j : Nat) : Value → World → Prop := match j with
  | 0 => fun u _ => u = .slice (some ⟨b0, 0, none⟩) 0 0
  | 1 => fun u _ => u = vF
  | 2 => fun u _ => u = r2
  | 3 => fun u _ => u = .agg #[.string nm, .string tx]
  | 4 => fun u _ => u = .slice (some ⟨b4, 0, none⟩) 1 1
  | 5 => fun u _ => u = r5
  | 6 => fun u _ => u = .tuple #[v, .agg #[.int .i64 p1, .int .i64 p2, .int .i64 p3], .int .i64 er]
  | 7 => fun u _ => u = .tuple #[v, .agg #[.int .i64 p1, .int .i64 p2, .int .i64 p3], .int .i64 er]
  | 8 => fun u _ => u = v
  | 9 => fun u _ => u = .agg #[.int .i64 p1, .int .i64 p2, .int .i64 p3]
  | 10 => fun u _ => u = .int .i64 er
  | 11 => fun u _ => u = .pointer (some ⟨g, 0, none⟩)
  | 12 => fun u _ => u = v
  | 14 => fun u _ => u = .int .i64 er
  | _ => fun _ _ => True
/-- What has been made so far. -/
structure InoE (B : Nat) (F : List FileT) (nm tx : ByteArray) (D : List FdT) (p1 p2 p3 : Int) (b0 : Nat) (r2 : Value) (b4 : Nat) (r5 v : Value) (g : Nat) (l : Array Bool) (w : World) : Prop where
  e0 : l.getD 0 false = true → l.getD 2 false = false → w.ownsRow B 46 2 (.slice (some ⟨b0, 0, none⟩) 0 0) 0 []
  e04 : l.getD 0 false = true → l.getD 4 false = true → l.getD 2 false = false → b0 ≠ b4
  e2 : l.getD 2 false = true → l.getD 5 false = false → w.ownsRow B 46 2 r2 F.length (fileCells F)
  e4 : l.getD 4 false = true → l.getD 5 false = false → Holds w b4 #[.string nm, .string tx] 46
  e5 : l.getD 5 false = true → l.getD 6 false = false → w.ownsRow B 46 2 r5 (F.length + 1) (fileCells (F ++ [⟨nm, tx⟩]))
  e6 : l.getD 6 false = true → FdsRow w B v D
  e11 : l.getD 11 false = true → l.getD 13 false = false → Holds w g #[.int .i64 0, .int .i64 0, .int .i64 0] 27 ∧ B ≤ g
  e13 : l.getD 13 false = true → Holds w g #[.int .i64 p1, .int .i64 p2, .int .i64 p3] 27 ∧ B ≤ g
section
variable {vF : Value} {nm tx : ByteArray} {p1 p2 p3 er : Int} {B : Nat} {F : List FileT} {D : List FdT} {b0 : Nat} {r2 : Value} {b4 : Nat} {r5 v : Value} {g : Nat} {w w' : World} {l : Array Bool} {j : Nat}
theorem InoF.world {u : Value} (h : InoF vF nm tx p1 p2 p3 er b0 r2 b4 r5 v g j u w) : InoF vF nm tx p1 p2 p3 er b0 r2 b4 r5 v g j u w' := by
  unfold InoF at *
  split at h
  all_goals exact h
theorem InoF.gh_b0 {x : Nat} {u : Value} (h : InoF vF nm tx p1 p2 p3 er b0 r2 b4 r5 v g j u w) (n0 : j ≠ 0) : InoF vF nm tx p1 p2 p3 er (x) r2 b4 r5 v g j u w := by
  unfold InoF at *
  split at h
  all_goals first
    | exact h
    | exact absurd rfl n0
theorem InoF.gh_r2 {x : Value} {u : Value} (h : InoF vF nm tx p1 p2 p3 er b0 r2 b4 r5 v g j u w) (n0 : j ≠ 2) : InoF vF nm tx p1 p2 p3 er b0 (x) b4 r5 v g j u w := by
  unfold InoF at *
  split at h
  all_goals first
    | exact h
    | exact absurd rfl n0
theorem InoF.gh_b4 {x : Nat} {u : Value} (h : InoF vF nm tx p1 p2 p3 er b0 r2 b4 r5 v g j u w) (n0 : j ≠ 4) : InoF vF nm tx p1 p2 p3 er b0 r2 (x) r5 v g j u w := by
  unfold InoF at *
  split at h
  all_goals first
    | exact h
    | exact absurd rfl n0
theorem InoF.gh_r5 {x : Value} {u : Value} (h : InoF vF nm tx p1 p2 p3 er b0 r2 b4 r5 v g j u w) (n0 : j ≠ 5) : InoF vF nm tx p1 p2 p3 er b0 r2 b4 (x) v g j u w := by
  unfold InoF at *
  split at h
  all_goals first
    | exact h
    | exact absurd rfl n0
theorem InoF.gh_v {x : Value} {u : Value} (h : InoF vF nm tx p1 p2 p3 er b0 r2 b4 r5 v g j u w) (n0 : j ≠ 6) (n1 : j ≠ 7) (n2 : j ≠ 8) (n3 : j ≠ 12) : InoF vF nm tx p1 p2 p3 er b0 r2 b4 r5 (x) g j u w := by
  unfold InoF at *
  split at h
  all_goals first
    | exact h
    | exact absurd rfl n0
    | exact absurd rfl n1
    | exact absurd rfl n2
    | exact absurd rfl n3
theorem InoF.gh_g {x : Nat} {u : Value} (h : InoF vF nm tx p1 p2 p3 er b0 r2 b4 r5 v g j u w) (n0 : j ≠ 11) : InoF vF nm tx p1 p2 p3 er b0 r2 b4 r5 v (x) j u w := by
  unfold InoF at *
  split at h
  all_goals first
    | exact h
    | exact absurd rfl n0
theorem InoE.put (h : InoE B F nm tx D p1 p2 p3 b0 r2 b4 r5 v g l w) (n0 : j ≠ 0) (n2 : j ≠ 2) (n4 : j ≠ 4) (n5 : j ≠ 5) (n6 : j ≠ 6) (n11 : j ≠ 11) (n13 : j ≠ 13) : InoE B F nm tx D p1 p2 p3 b0 r2 b4 r5 v g (l.setIfInBounds j true) w := by
  constructor
  · rw [set_other n0, set_other n2]; exact h.e0
  · rw [set_other n0, set_other n4, set_other n2]; exact h.e04
  · rw [set_other n2, set_other n5]; exact h.e2
  · rw [set_other n4, set_other n5]; exact h.e4
  · rw [set_other n5, set_other n6]; exact h.e5
  · rw [set_other n6]; exact h.e6
  · rw [set_other n11, set_other n13]; exact h.e11
  · rw [set_other n13]; exact h.e13
theorem InoE.new (h : InoE B F nm tx D p1 p2 p3 b0 r2 b4 r5 v g l w) (k : Below w.heap.size w w') : InoE B F nm tx D p1 p2 p3 b0 r2 b4 r5 v g l w' := by
  have kf : Keeps (fun _ => False) w w' := Keeps.of_fresh k _
  exact ⟨fun a b => ownsRow_keeps (h.e0 a b) kf (fun _ _ e => e), h.e04, fun a b => ownsRow_keeps (h.e2 a b) kf (fun _ _ e => e), fun a b => (h.e4 a b).keeps kf (fun e => e), fun a b => ownsRow_keeps (h.e5 a b) kf (fun _ _ e => e), fun a => (h.e6 a).new k, fun a b => ⟨(h.e11 a b).1.keeps kf (fun e => e), (h.e11 a b).2⟩, fun a => ⟨(h.e13 a).1.keeps kf (fun e => e), (h.e13 a).2⟩⟩
theorem InoE.at0 (h : InoE B F nm tx D p1 p2 p3 b0 r2 b4 r5 v g l w) (k : Below w.heap.size w (w.alloc (.cells #[] 46))) (hl : l.size = 15) (hB : B ≤ w.heap.size) (u5 : l.getD 5 false = false) : InoE B F nm tx D p1 p2 p3 (w.heap.size) r2 b4 r5 v g (l.setIfInBounds 0 true) (w.alloc (.cells #[] 46)) := by
  have h2 := h.new k
  constructor
  · intro _ _; exact row_zero rfl hB
  · intro _ a c e
    rw [set_other (by decide)] at a c
    have := (h.e4 a u5).lt
    omega
  · rw [set_other (show 0 ≠ 2 by decide), set_other (show 0 ≠ 5 by decide)]; exact h2.e2
  · rw [set_other (show 0 ≠ 4 by decide), set_other (show 0 ≠ 5 by decide)]; exact h2.e4
  · rw [set_other (show 0 ≠ 5 by decide), set_other (show 0 ≠ 6 by decide)]; exact h2.e5
  · rw [set_other (show 0 ≠ 6 by decide)]; exact h2.e6
  · rw [set_other (show 0 ≠ 11 by decide), set_other (show 0 ≠ 13 by decide)]; exact h2.e11
  · rw [set_other (show 0 ≠ 13 by decide)]; exact h2.e13
theorem InoE.at2 {x : Value} (h : InoE B F nm tx D p1 p2 p3 b0 r2 b4 r5 v g l w) (k : Keeps (fun i => i = b0) w w') (hx : w'.ownsRow B 46 2 x F.length (fileCells F)) (hr : w.ownsRow B 46 2 (.slice (some ⟨b0, 0, none⟩) 0 0) 0 []) (y0 : l.getD 0 false = true) (u5 : l.getD 5 false = false) (u6 : l.getD 6 false = false) (u13 : l.getD 13 false = false) (hl : l.size = 15) (hl2 : l.getD 2 false = false) : InoE B F nm tx D p1 p2 p3 b0 (x) b4 r5 v g (l.setIfInBounds 2 true) w' := by
  constructor
  · intro _ a; rw [set_here (by omega)] at a; cases a
  · intro _ _ a; rw [set_here (by omega)] at a; cases a
  · intro _ _; exact hx
  · rw [set_other (show 2 ≠ 4 by decide), set_other (show 2 ≠ 5 by decide)]; exact fun a b => (h.e4 a b).keeps k (fun e => h.e04 y0 a hl2 e.symm)
  · rw [set_other (show 2 ≠ 5 by decide), set_other (show 2 ≠ 6 by decide)]; intro a; rw [u5] at a; cases a
  · rw [set_other (show 2 ≠ 6 by decide)]; intro a; rw [u6] at a; cases a
  · rw [set_other (show 2 ≠ 11 by decide), set_other (show 2 ≠ 13 by decide)]; exact fun a b => ⟨(h.e11 a b).1.keeps k (fun e => by have e2 : g = b0 := e; have h9 := (h.e11 a b).1; rw [e2] at h9; exact owns_ne_holds hr h9 (by decide) rfl), (h.e11 a b).2⟩
  · rw [set_other (show 2 ≠ 13 by decide)]; intro a; rw [u13] at a; cases a
theorem InoE.at4 (h : InoE B F nm tx D p1 p2 p3 b0 r2 b4 r5 v g l w) (k : Below w.heap.size w (w.alloc (.cells #[.string nm, .string tx] 46))) (hl : l.size = 15) : InoE B F nm tx D p1 p2 p3 b0 r2 (w.heap.size) r5 v g (l.setIfInBounds 4 true) (w.alloc (.cells #[.string nm, .string tx] 46)) := by
  have h2 := h.new k
  constructor
  · rw [set_other (show 4 ≠ 0 by decide), set_other (show 4 ≠ 2 by decide)]; exact h2.e0
  · rw [set_other (show 4 ≠ 0 by decide), set_other (show 4 ≠ 2 by decide)]; intro a _ c e
    have := ((h.e0 a c).lt b0 rfl).2
    omega
  · rw [set_other (show 4 ≠ 2 by decide), set_other (show 4 ≠ 5 by decide)]; exact h2.e2
  · intro _ _; exact Holds.new w _ _
  · rw [set_other (show 4 ≠ 5 by decide), set_other (show 4 ≠ 6 by decide)]; exact h2.e5
  · rw [set_other (show 4 ≠ 6 by decide)]; exact h2.e6
  · rw [set_other (show 4 ≠ 11 by decide), set_other (show 4 ≠ 13 by decide)]; exact h2.e11
  · rw [set_other (show 4 ≠ 13 by decide)]; exact h2.e13
theorem InoE.at5 {x : Value} (h : InoE B F nm tx D p1 p2 p3 b0 r2 b4 r5 v g l w) (k : Keeps (fun i => r2.ownBlock = some i) w w') (hx : w'.ownsRow B 46 2 x (F.length + 1) (fileCells (F ++ [⟨nm, tx⟩]))) (hr : w.ownsRow B 46 2 r2 F.length (fileCells F)) (y2 : l.getD 2 false = true) (u6 : l.getD 6 false = false) (u13 : l.getD 13 false = false) (hl : l.size = 15) : InoE B F nm tx D p1 p2 p3 b0 r2 b4 (x) v g (l.setIfInBounds 5 true) w' := by
  constructor
  · rw [set_other (show 5 ≠ 0 by decide), set_other (show 5 ≠ 2 by decide)]; intro _ a; rw [y2] at a; cases a
  · rw [set_other (show 5 ≠ 0 by decide), set_other (show 5 ≠ 4 by decide), set_other (show 5 ≠ 2 by decide)]; intro _ _ a; rw [y2] at a; cases a
  · intro _ a; rw [set_here (by omega)] at a; cases a
  · intro _ a; rw [set_here (by omega)] at a; cases a
  · intro _ _; exact hx
  · rw [set_other (show 5 ≠ 6 by decide)]; intro a; rw [u6] at a; cases a
  · rw [set_other (show 5 ≠ 11 by decide), set_other (show 5 ≠ 13 by decide)]; exact fun a b => ⟨(h.e11 a b).1.keeps k (fun e => owns_ne_holds hr (h.e11 a b).1 (by decide) e), (h.e11 a b).2⟩
  · rw [set_other (show 5 ≠ 13 by decide)]; intro a; rw [u13] at a; cases a
theorem InoE.at6 {x : Value} (h : InoE B F nm tx D p1 p2 p3 b0 r2 b4 r5 v g l w) (k : Below w.heap.size w w') (hx : FdsRow w' B x D) (y5 : l.getD 5 false = true) (y2 : l.getD 2 false = true) (u13 : l.getD 13 false = false) (hl : l.size = 15) : InoE B F nm tx D p1 p2 p3 b0 r2 b4 r5 (x) g (l.setIfInBounds 6 true) w' := by
  have h2 := h.new k
  constructor
  · rw [set_other (show 6 ≠ 0 by decide), set_other (show 6 ≠ 2 by decide)]; exact h2.e0
  · rw [set_other (show 6 ≠ 0 by decide), set_other (show 6 ≠ 4 by decide), set_other (show 6 ≠ 2 by decide)]; exact h2.e04
  · rw [set_other (show 6 ≠ 2 by decide), set_other (show 6 ≠ 5 by decide)]; exact h2.e2
  · rw [set_other (show 6 ≠ 4 by decide), set_other (show 6 ≠ 5 by decide)]; exact h2.e4
  · intro _ a; rw [set_here (by omega)] at a; cases a
  · intro _; exact hx
  · rw [set_other (show 6 ≠ 11 by decide), set_other (show 6 ≠ 13 by decide)]; exact h2.e11
  · rw [set_other (show 6 ≠ 13 by decide)]; exact h2.e13
theorem InoE.at11 (h : InoE B F nm tx D p1 p2 p3 b0 r2 b4 r5 v g l w) (k : Below w.heap.size w (w.alloc (.cells #[.int .i64 0, .int .i64 0, .int .i64 0] 27))) (u13 : l.getD 13 false = false) (hl : l.size = 15) (hB : B ≤ w.heap.size) : InoE B F nm tx D p1 p2 p3 b0 r2 b4 r5 v (w.heap.size) (l.setIfInBounds 11 true) (w.alloc (.cells #[.int .i64 0, .int .i64 0, .int .i64 0] 27)) := by
  have h2 := h.new k
  constructor
  · rw [set_other (show 11 ≠ 0 by decide), set_other (show 11 ≠ 2 by decide)]; exact h2.e0
  · rw [set_other (show 11 ≠ 0 by decide), set_other (show 11 ≠ 4 by decide), set_other (show 11 ≠ 2 by decide)]; exact h2.e04
  · rw [set_other (show 11 ≠ 2 by decide), set_other (show 11 ≠ 5 by decide)]; exact h2.e2
  · rw [set_other (show 11 ≠ 4 by decide), set_other (show 11 ≠ 5 by decide)]; exact h2.e4
  · rw [set_other (show 11 ≠ 5 by decide), set_other (show 11 ≠ 6 by decide)]; exact h2.e5
  · rw [set_other (show 11 ≠ 6 by decide)]; exact h2.e6
  · intro _ _; exact ⟨Holds.new w _ _, hB⟩
  · rw [set_other (show 11 ≠ 13 by decide)]; intro a; rw [u13] at a; cases a
theorem InoE.at13 (h : InoE B F nm tx D p1 p2 p3 b0 r2 b4 r5 v g l w) (k : Keeps (· = g) w w') (hx : Holds w' g #[.int .i64 p1, .int .i64 p2, .int .i64 p3] 27) (hh : Holds w g #[.int .i64 0, .int .i64 0, .int .i64 0] 27) (hB : B ≤ g) (y6 : l.getD 6 false = true) (y5 : l.getD 5 false = true) (y2 : l.getD 2 false = true) (hl : l.size = 15) : InoE B F nm tx D p1 p2 p3 b0 r2 b4 r5 v g (l.setIfInBounds 13 true) w' := by
  constructor
  · rw [set_other (show 13 ≠ 0 by decide), set_other (show 13 ≠ 2 by decide)]; intro _ a; rw [y2] at a; cases a
  · rw [set_other (show 13 ≠ 0 by decide), set_other (show 13 ≠ 4 by decide), set_other (show 13 ≠ 2 by decide)]; intro _ _ a; rw [y2] at a; cases a
  · rw [set_other (show 13 ≠ 2 by decide), set_other (show 13 ≠ 5 by decide)]; intro _ a; rw [y5] at a; cases a
  · rw [set_other (show 13 ≠ 4 by decide), set_other (show 13 ≠ 5 by decide)]; intro _ a; rw [y5] at a; cases a
  · rw [set_other (show 13 ≠ 5 by decide), set_other (show 13 ≠ 6 by decide)]; intro _ a; rw [y6] at a; cases a
  · rw [set_other (show 13 ≠ 6 by decide)]; intro a; exact (h.e6 a).side k (fun b e => by cases e; exact ⟨_, hh⟩)
  · intro _ a; rw [set_here (by omega)] at a; cases a
  · intro _; exact ⟨hx, hB⟩
end
theorem ino_rep {n j : Nat} : (Array.replicate n false).getD j false = false := by
  rw [Array.getD_eq_getD_getElem?]
  by_cases h : j < n
  · rw [Array.getElem?_replicate, if_pos h]; rfl
  · rw [Array.getElem?_replicate, if_neg h]; rfl
set_option maxHeartbeats 8000000 in
set_option maxRecDepth 100000 in
theorem ino_region5 {Q : Exit → Act → World → Prop} (vF : Value) (nm tx : ByteArray) (p1 p2 p3 er : Int) (F : List FileT) (D : List FdT) (ob : Nat) (W w : World) (A : Act) (hsz : A.tmps.size = 109) (hF : F.length ≤ 1000)
    (hrow : W.ownsRow 0 46 2 vF F.length (fileCells F)) (hO : Holds W ob #[.string nm, .string tx] 46)
    (hload : ∀ wx : World, Below W.heap.size W wx → ∀ r : Value, wx.ownsRow W.heap.size 46 2 r (F.length + 1) (fileCells (F ++ [⟨nm, tx⟩])) → Calls Tryz.prog 19 #[r, .string ⟨#[109, 97, 105, 110]⟩] wx fun e w' => ∃ v, e = .returned (.tuple #[v, .agg #[.int .i64 p1, .int .i64 p2, .int .i64 p3], .int .i64 er]) ∧ FdsRow w' wx.heap.size v D ∧ Below wx.heap.size wx w')
    (a4 : A.tmps.getD 4 undef = vF) (a5 : A.tmps.getD 5 undef = .pointer (some ⟨ob, 0, none⟩)) (hS0 : Below W.heap.size W w)
    (hQ : ∀ c w' v g, SameBut inoOps A c → Below W.heap.size W w' → c.tmps.getD 9 undef = v → c.tmps.getD 10 undef = .pointer (some ⟨g, 0, none⟩) → c.tmps.getD 11 undef = .int .i64 er → FdsRow w' W.heap.size v D → Holds w' g #[.int .i64 p1, .int .i64 p2, .int .i64 p3] 27 → W.heap.size ≤ g → Q .normal c w') :
    wpAny Tryz.prog .any inoOps Q inoOps.size (Array.replicate inoOps.size false) A w := by
  refine wpAny_inv2 (fun l c wx => ∃ b0 r2 b4 r5 v g, RInv inoOps A (InoF vF nm tx p1 p2 p3 er b0 r2 b4 r5 v g) (fun wx => Below W.heap.size W wx) l c wx ∧ InoE W.heap.size F nm tx D p1 p2 p3 b0 r2 b4 r5 v g l wx) inoR ?hend ?hstep _ _ _ _ (by simp) (by simp)
    ⟨0, .slice none 0 0, 0, .slice none 0 0, .slice none 0 0, 0, RInv.start hS0, ⟨fun h => by rw [ino_rep] at h; (cases h), fun h => by rw [ino_rep] at h; (cases h), fun h => by rw [ino_rep] at h; (cases h), fun h => by rw [ino_rep] at h; (cases h), fun h => by rw [ino_rep] at h; (cases h), fun h => by rw [ino_rep] at h; (cases h), fun h => by rw [ino_rep] at h; (cases h), fun h => by rw [ino_rep] at h; (cases h)⟩⟩
  case hend =>
    rintro l c wx ⟨b0, r2, b4, r5, v, g, hI, hE⟩ hl
    have hh : ∀ k, k < 15 → l.getD k false = true := fun k hk => hl k (by rw [inoRn]; exact hk)
    exact hQ c wx v g hI.1 hI.2.1 (hI.fact 12 9 rfl (hh 12 (by decide))) (hI.fact 11 10 rfl (hh 11 (by decide))) (hI.fact 14 11 rfl (hh 14 (by decide))) (hE.e6 (hh 6 (by decide))) (hE.e13 (hh 13 (by decide))).1 (hE.e13 (hh 13 (by decide))).2
  intro l c wx hIx i' op ho hl hall K' hK'
  obtain ⟨b0, r2, b4, r5, v, g, hI, hE⟩ := hIx
  have hls : l.size = 15 := by rw [hI.2.2.1.1, inoRn]
  have hi' : i' < 15 := by rw [← inoRn]; exact (Array.getElem?_eq_some_iff.1 ho).1
  have ho2 := ho
  simp only [inoOps, regOps, Tryz.f5, Option.getD_some, reduceIte, Nat.reduceEqDiff] at ho
  have hS := hI.2.1
  have s4 := (hI.slot 4 (by kernel_rfl)).trans a4
  have s5 := (hI.slot 5 (by kernel_rfl)).trans a5
  simp only [Array.getD_eq_getD_getElem?] at s4 s5
  have hic : i' = 0 ∨ i' = 1 ∨ i' = 2 ∨ i' = 3 ∨ i' = 4 ∨ i' = 5 ∨ i' = 6 ∨ i' = 7 ∨ i' = 8 ∨ i' = 9 ∨ i' = 10 ∨ i' = 11 ∨ i' = 12 ∨ i' = 13 ∨ i' = 14 := by omega
  clear hi'
  rcases hic with rfl | rfl | rfl | rfl | rfl | rfl | rfl | rfl | rfl | rfl | rfl | rfl | rfl | rfl | rfl
  all_goals cases ho
  · go_simp
    have hb2 : Below wx.heap.size wx (wx.alloc (.cells #[] 46)) := (Below.refl _ _).alloc (Nat.le_refl _) _
    have hS2 := hS.trans (hb2.mono hS.size)
    have hJ := hI.other (F' := InoF vF nm tx p1 p2 p3 er (wx.heap.size) r2 b4 r5 v g) (fun j hj u hF => InoF.gh_b0 hF (yes_no hj hl))
    exact hK' _ _ ⟨wx.heap.size, r2, b4, r5, v, g, hJ.step inoRa 0 30 rfl (by rw [hsz]; decide) _ _ ho2 hall hS2 (fun _ _ h => InoF.world h) rfl, InoE.at0 hE hb2 hls hS.size (hI.2.2.1.2.no_far 15 hl (by kernel_rfl : farB inoOps 15 5 0 = true))⟩
  · go_simp
    exact hK' _ _ ⟨b0, r2, b4, r5, v, g, hI.step inoRa 1 31 rfl (by rw [hsz]; decide) _ _ ho2 hall hS (fun _ _ h => InoF.world h) rfl, hE.put (by decide) (by decide) (by decide) (by decide) (by decide) (by decide) (by decide)⟩
  · have e0 : c.tmps.getD 30 undef = .slice (some ⟨b0, 0, none⟩) 0 0 := hI.fact 0 30 rfl (listed hall 0 (by kernel_rfl))
    simp only [Array.getD_eq_getD_getElem?] at e0
    have e1 : c.tmps.getD 31 undef = vF := hI.fact 1 31 rfl (listed hall 1 (by kernel_rfl))
    simp only [Array.getD_eq_getD_getElem?] at e1
    obtain ⟨i0, hin, hz0, hz1, hz2⟩ := info_parts infoFile9
    have hr := hE.e0 (listed hall 0 (by kernel_rfl)) hl
    have hsrc := (row_srcF (ownsRow_keeps hrow (Keeps.of_fresh hS (fun _ => False)) (fun _ _ e => e)))
    refine step_append_src _ rfl _ _ 42 42 rfl W.heap.size 46 i0 _ 2 32 Tryz.underlying42 hin hz0 hz1 hz2 rfl (.slice (some ⟨b0, 0, none⟩) 0 0) 0 [] (by simpa [Act.eval] using e0) hr vF (by simpa [Act.eval] using e1) F.length (fileCells F) hsrc (by unfold maxLen; omega) (by omega) hS.size ?_
    intro v' w2 hown hgrow hat
    rw [Nat.zero_add, List.nil_append] at hown
    have hk2 : Keeps (fun i => i = b0) wx w2 := Keeps.of_grown hgrow (fun i e => (Option.some.inj (show some b0 = some i from e)).symm)
    have hS2 := hS.trans (hk2.below hS.size (fun i hi e => by have e2 : i = b0 := e; have := (hr.lt b0 rfl).1; omega))
    have hJ := hI.other (F' := InoF vF nm tx p1 p2 p3 er b0 (v') b4 r5 v g) (fun j hj u hF => InoF.gh_r2 hF (yes_no hj hl))
    have u5 := (hI.2.2.1.2.no_far 15 hl (by kernel_rfl : farB inoOps 15 5 2 = true))
    have u6 := (hI.2.2.1.2.no_far 15 hl (by kernel_rfl : farB inoOps 15 6 2 = true))
    have u13 := (hI.2.2.1.2.no_far 15 hl (by kernel_rfl : farB inoOps 15 13 2 = true))
    exact hK' _ _ ⟨b0, v', b4, r5, v, g, hJ.step inoRa 2 32 rfl (by rw [hsz]; decide) _ _ ho2 hall hS2 (fun _ _ h => InoF.world h) rfl, hE.at2 hk2 hown hr (listed hall 0 (by kernel_rfl)) u5 u6 u13 hls hl⟩
  · have hob := (hO.keeps (Keeps.of_fresh hS (fun _ => False)) (fun e => e))
    have o0 := hob.cell 0
    have o1 := hob.cell 1
    have ol := hob.lt
    go_simp
    exact hK' _ _ ⟨b0, r2, b4, r5, v, g, hI.step inoRa 3 33 rfl (by rw [hsz]; decide) _ _ ho2 hall hS (fun _ _ h => InoF.world h) rfl, hE.put (by decide) (by decide) (by decide) (by decide) (by decide) (by decide) (by decide)⟩
  · have e3 : c.tmps.getD 33 undef = .agg #[.string nm, .string tx] := hI.fact 3 33 rfl (listed hall 3 (by kernel_rfl))
    simp only [Array.getD_eq_getD_getElem?] at e3
    go_simp
    have hb2 : Below wx.heap.size wx (wx.alloc (.cells #[.string nm, .string tx] 46)) := (Below.refl _ _).alloc (Nat.le_refl _) _
    have hS2 := hS.trans (hb2.mono hS.size)
    have hJ := hI.other (F' := InoF vF nm tx p1 p2 p3 er b0 r2 (wx.heap.size) r5 v g) (fun j hj u hF => InoF.gh_b4 hF (yes_no hj hl))
    have u5 := (hI.2.2.1.2.no_far 15 hl (by kernel_rfl : farB inoOps 15 5 4 = true))
    exact hK' _ _ ⟨b0, r2, wx.heap.size, r5, v, g, hJ.step inoRa 4 34 rfl (by rw [hsz]; decide) _ _ ho2 hall hS2 (fun _ _ h => InoF.world h) rfl, InoE.at4 hE hb2 hls⟩
  · have e2 : c.tmps.getD 32 undef = r2 := hI.fact 2 32 rfl (listed hall 2 (by kernel_rfl))
    simp only [Array.getD_eq_getD_getElem?] at e2
    have e4 : c.tmps.getD 34 undef = .slice (some ⟨b4, 0, none⟩) 1 1 := hI.fact 4 34 rfl (listed hall 4 (by kernel_rfl))
    simp only [Array.getD_eq_getD_getElem?] at e4
    obtain ⟨i0, hin, hz0, hz1, hz2⟩ := info_parts infoFile9
    have hr := hE.e2 (listed hall 2 (by kernel_rfl)) hl
    have hh := hE.e4 (listed hall 4 (by kernel_rfl)) hl
    have hsrc : Src Tryz.prog 2 42 (.slice (some ⟨b4, 0, none⟩) 1 1) 1 [.string nm, .string tx] wx := Src.ofSlice _ Tryz.underlying42 _ 1 1 _ rfl (cells_of hh) (fun u hu => by simp at hu; rcases hu with rfl | rfl <;> rfl)
    refine step_append_src _ rfl _ _ 42 42 rfl W.heap.size 46 i0 _ 2 32 Tryz.underlying42 hin hz0 hz1 hz2 rfl r2 F.length (fileCells F) (by simpa [Act.eval] using e2) hr (.slice (some ⟨b4, 0, none⟩) 1 1) (by simpa [Act.eval] using e4) 1 [.string nm, .string tx] hsrc (by unfold maxLen; omega) (by omega) hS.size ?_
    intro v' w2 hown hgrow hat
    have hk2 : Keeps (fun i => r2.ownBlock = some i) wx w2 := Keeps.of_grown hgrow (fun i e => e)
    have hS2 := hS.trans (hk2.below hS.size (fun i hi e => by have := (hr.lt i e).1; omega))
    have hJ := hI.other (F' := InoF vF nm tx p1 p2 p3 er b0 r2 b4 (v') v g) (fun j hj u hF => InoF.gh_r5 hF (yes_no hj hl))
    have u6 := (hI.2.2.1.2.no_far 15 hl (by kernel_rfl : farB inoOps 15 6 5 = true))
    have u13 := (hI.2.2.1.2.no_far 15 hl (by kernel_rfl : farB inoOps 15 13 5 = true))
    exact hK' _ _ ⟨b0, r2, b4, v', v, g, hJ.step inoRa 5 35 rfl (by rw [hsz]; decide) _ _ ho2 hall hS2 (fun _ _ h => InoF.world h) rfl, hE.at5 hk2 (by rw [fileCells_snoc]; exact hown) hr (listed hall 2 (by kernel_rfl)) u6 u13 hls⟩
  · have e5 : c.tmps.getD 35 undef = r5 := hI.fact 5 35 rfl (listed hall 5 (by kernel_rfl))
    simp only [Array.getD_eq_getD_getElem?] at e5
    have hr := hE.e5 (listed hall 5 (by kernel_rfl)) hl
    have hld := hload wx hS r5 hr
    go_simp
    refine hld.mono ?_
    rintro e w2 ⟨v', rfl, hrow2, hb2⟩
    have hS2 := hS.trans (hb2.mono hS.size)
    have u7 := (hI.2.2.1.2.no_far 15 hl (by kernel_rfl : farB inoOps 15 7 6 = true))
    have u8 := (hI.2.2.1.2.no_far 15 hl (by kernel_rfl : farB inoOps 15 8 6 = true))
    have u12 := (hI.2.2.1.2.no_far 15 hl (by kernel_rfl : farB inoOps 15 12 6 = true))
    have hJ := hI.other (F' := InoF vF nm tx p1 p2 p3 er b0 r2 b4 r5 (v') g) (fun j hj u hF => InoF.gh_v hF (yes_no hj hl) (yes_no hj u7) (yes_no hj u8) (yes_no hj u12))
    have y2 : l.getD 2 false = true := (hI.2.2.1.2.yes_far 15 ho2 hall (by decide) (by kernel_rfl))
    have y5 := listed hall 5 (by kernel_rfl)
    have u13 := (hI.2.2.1.2.no_far 15 hl (by kernel_rfl : farB inoOps 15 13 6 = true))
    exact hK' _ _ ⟨b0, r2, b4, r5, v', g, hJ.step inoRa 6 36 rfl (by rw [hsz]; decide) _ _ ho2 hall hS2 (fun _ _ h => InoF.world h) rfl, hE.at6 hb2 (hrow2.lower hS.size) y5 y2 u13 hls⟩
  · have e6 : c.tmps.getD 36 undef = .tuple #[v, .agg #[.int .i64 p1, .int .i64 p2, .int .i64 p3], .int .i64 er] := hI.fact 6 36 rfl (listed hall 6 (by kernel_rfl))
    simp only [Array.getD_eq_getD_getElem?] at e6
    go_simp
    exact hK' _ _ ⟨b0, r2, b4, r5, v, g, hI.step inoRa 7 29 rfl (by rw [hsz]; decide) _ _ ho2 hall hS (fun _ _ h => InoF.world h) rfl, hE.put (by decide) (by decide) (by decide) (by decide) (by decide) (by decide) (by decide)⟩
  · have e7 : c.tmps.getD 29 undef = .tuple #[v, .agg #[.int .i64 p1, .int .i64 p2, .int .i64 p3], .int .i64 er] := hI.fact 7 29 rfl (listed hall 7 (by kernel_rfl))
    simp only [Array.getD_eq_getD_getElem?] at e7
    go_simp
    exact hK' _ _ ⟨b0, r2, b4, r5, v, g, hI.step inoRa 8 37 rfl (by rw [hsz]; decide) _ _ ho2 hall hS (fun _ _ h => InoF.world h) rfl, hE.put (by decide) (by decide) (by decide) (by decide) (by decide) (by decide) (by decide)⟩
  · have e7 : c.tmps.getD 29 undef = .tuple #[v, .agg #[.int .i64 p1, .int .i64 p2, .int .i64 p3], .int .i64 er] := hI.fact 7 29 rfl (listed hall 7 (by kernel_rfl))
    simp only [Array.getD_eq_getD_getElem?] at e7
    go_simp
    exact hK' _ _ ⟨b0, r2, b4, r5, v, g, hI.step inoRa 9 38 rfl (by rw [hsz]; decide) _ _ ho2 hall hS (fun _ _ h => InoF.world h) rfl, hE.put (by decide) (by decide) (by decide) (by decide) (by decide) (by decide) (by decide)⟩
  · have e7 : c.tmps.getD 29 undef = .tuple #[v, .agg #[.int .i64 p1, .int .i64 p2, .int .i64 p3], .int .i64 er] := hI.fact 7 29 rfl (listed hall 7 (by kernel_rfl))
    simp only [Array.getD_eq_getD_getElem?] at e7
    go_simp
    exact hK' _ _ ⟨b0, r2, b4, r5, v, g, hI.step inoRa 10 39 rfl (by rw [hsz]; decide) _ _ ho2 hall hS (fun _ _ h => InoF.world h) rfl, hE.put (by decide) (by decide) (by decide) (by decide) (by decide) (by decide) (by decide)⟩
  · go_simp
    have hb2 : Below wx.heap.size wx (wx.alloc (.cells #[.int .i64 0, .int .i64 0, .int .i64 0] 27)) := (Below.refl _ _).alloc (Nat.le_refl _) _
    have hS2 := hS.trans (hb2.mono hS.size)
    have hJ := hI.other (F' := InoF vF nm tx p1 p2 p3 er b0 r2 b4 r5 v (wx.heap.size)) (fun j hj u hF => InoF.gh_g hF (yes_no hj hl))
    have u13 := (hI.2.2.1.2.no_far 15 hl (by kernel_rfl : farB inoOps 15 13 11 = true))
    exact hK' _ _ ⟨b0, r2, b4, r5, v, wx.heap.size, hJ.step inoRa 11 10 rfl (by rw [hsz]; decide) _ _ ho2 hall hS2 (fun _ _ h => InoF.world h) rfl, InoE.at11 hE hb2 u13 hls hS.size⟩
  · have e8 : c.tmps.getD 37 undef = v := hI.fact 8 37 rfl (listed hall 8 (by kernel_rfl))
    simp only [Array.getD_eq_getD_getElem?] at e8
    go_simp
    exact hK' _ _ ⟨b0, r2, b4, r5, v, g, hI.step inoRa 12 9 rfl (by rw [hsz]; decide) _ _ ho2 hall hS (fun _ _ h => InoF.world h) rfl, hE.put (by decide) (by decide) (by decide) (by decide) (by decide) (by decide) (by decide)⟩
  · have e9 : c.tmps.getD 38 undef = .agg #[.int .i64 p1, .int .i64 p2, .int .i64 p3] := hI.fact 9 38 rfl (listed hall 9 (by kernel_rfl))
    simp only [Array.getD_eq_getD_getElem?] at e9
    have e11 : c.tmps.getD 10 undef = .pointer (some ⟨g, 0, none⟩) := hI.fact 11 10 rfl (listed hall 11 (by kernel_rfl))
    simp only [Array.getD_eq_getD_getElem?] at e11
    obtain ⟨hh, hg⟩ := hE.e11 (listed hall 11 (by kernel_rfl)) hl
    obtain ⟨x0, x1, x2, f0, f1, f2, xl⟩ := three hh
    have y6 : l.getD 6 false = true := (hI.2.2.1.2.yes_far 15 ho2 hall (by decide) (by kernel_rfl))
    have y5 : l.getD 5 false = true := (hI.2.2.1.2.yes_far 15 ho2 hall (by decide) (by kernel_rfl))
    have y2 : l.getD 2 false = true := (hI.2.2.1.2.yes_far 15 ho2 hall (by decide) (by kernel_rfl))
    go_simp
    have hk2 : Keeps (· = g) wx (((wx.setCell ⟨g, 0, none⟩ (.int .i64 p1)).setCell ⟨g, 1, none⟩ (.int .i64 p2)).setCell ⟨g, 2, none⟩ (.int .i64 p3)) := (((Keeps.refl (· = g) wx).setCell (p := ⟨g, 0, none⟩) (.inr rfl) _).setCell (p := ⟨g, 1, none⟩) (.inr rfl) _).setCell (p := ⟨g, 2, none⟩) (.inr rfl) _
    have hS2 := hS.trans (hk2.below hS.size (fun i hi e => by have e2 : i = g := e; omega))
    exact hK' _ _ ⟨b0, r2, b4, r5, v, g, hI.stepN 13 rfl _ ho2 hall hS2 (fun _ _ h => InoF.world h) trivial, hE.at13 hk2 (((hh.set 0 _).set 1 _).set 2 _) hh hg y6 y5 y2 hls⟩
  · have e10 : c.tmps.getD 39 undef = .int .i64 er := hI.fact 10 39 rfl (listed hall 10 (by kernel_rfl))
    simp only [Array.getD_eq_getD_getElem?] at e10
    go_simp
    exact hK' _ _ ⟨b0, r2, b4, r5, v, g, hI.step inoRa 14 11 rfl (by rw [hsz]; decide) _ _ ho2 hall hS (fun _ _ h => InoF.world h) rfl, hE.put (by decide) (by decide) (by decide) (by decide) (by decide) (by decide) (by decide)⟩
end Go.Proofs.YtofhcgbihonckaaGreat

namespace Go.Proofs.YtofhcgbihonckaaGreat
open Go.RowKit

theorem qtA_acc : ∀ (f : Nat) (l acc : List UInt8) (i : Nat), (qtA f l acc i).2.2 = 0 → ∃ more, (qtA f l acc i).1 = acc ++ more
  | 0, l, acc, i, h => by cases h
  | f + 1, [], acc, i, h => by cases h
  | f + 1, c :: r, acc, i, h => by
    simp only [qtA] at h ⊢
    by_cases h1 : c.toNat = 34
    · rw [if_pos h1]; exact ⟨[], by simp⟩
    · rw [if_neg h1] at h ⊢
      by_cases h2 : c.toNat = 10
      · rw [if_pos h2] at h; cases h
      · rw [if_neg h2] at h ⊢
        by_cases h3 : c.toNat = 92
        · rw [if_pos h3] at h ⊢
          by_cases h4 : (esc r).2.2 ≠ 0
          · rw [if_pos h4] at h; exact absurd h h4
          · rw [if_neg h4] at h ⊢
            obtain ⟨m, e⟩ := qtA_acc f _ _ _ h
            exact ⟨_, by rw [e, List.append_assoc]⟩
        · rw [if_neg h3] at h ⊢
          obtain ⟨m, e⟩ := qtA_acc f _ _ _ h
          exact ⟨_, by rw [e, List.append_assoc]⟩
/-- What stands behind such a quote does not begin with o. -/
theorem qt_noO {r : List UInt8} (h : okQ r = true) (he : (qtA r.length.succ r [] 1).2.2 = 0) : (qtA r.length.succ r [] 1).1.head? ≠ some 111 := by
  cases r with
  | nil => cases he
  | cons c q =>
    simp only [okQ, Bool.and_eq_true, decide_eq_true_eq] at h
    simp only [qtA] at he ⊢
    by_cases h1 : c.toNat = 34
    · rw [if_pos h1]; simp
    · rw [if_neg h1] at he ⊢
      by_cases h2 : c.toNat = 10
      · rw [if_pos h2] at he; cases he
      · rw [if_neg h2] at he ⊢
        by_cases h3 : c.toNat = 92
        · exfalso
          rw [if_pos h3] at he
          obtain rfl : c = 92 := UInt8.toNat_inj.1 h3
          have h5 : (esc q).2.2 ≠ 0 := by
            have h6 := h.2
            cases q with
            | nil => simp [esc]
            | cons e q =>
              simp only [ne_eq, not_true_eq_false, decide_false, Bool.false_or, Bool.or_eq_true, Bool.and_eq_true, decide_eq_true_eq] at h6
              rcases h6 with rfl | ⟨rfl, h7⟩
              · show (0, 0, (6 : Int)).2.2 ≠ 0
                decide
              · cases q with
                | nil => decide
                | cons x q =>
                  have e1 : x = 52 ∧ q = [] := by
                    cases q with
                    | nil =>
                      by_cases hx : x = 52
                      · exact ⟨hx, rfl⟩
                      · exfalso
                        split at h7
                        · rename_i h; cases h
                        · rename_i h; cases h; exact hx rfl
                        · cases h7
                    | cons y q =>
                      exfalso
                      split at h7
                      · rename_i h; cases h
                      · rename_i h; cases h
                      · cases h7
                  obtain ⟨rfl, rfl⟩ := e1
                  decide
          rw [if_pos h5] at he
          exact h5 he
        · rw [if_neg h3] at he ⊢
          obtain ⟨m, e⟩ := qtA_acc _ _ _ _ he
          rw [e]
          simp only [List.nil_append, List.cons_append, List.head?_cons, ne_eq, Option.some.injEq]
          exact h.1
theorem next_str {l : List UInt8} (hk : (nextT l).1.kind = 3) : ∃ r, l = 34 :: r ∧ nextT l = (⟨3, (qtA r.length.succ r [] 1).1, 0, 0, 0⟩, (qtA r.length.succ r [] 1).2.1, (qtA r.length.succ r [] 1).2.2) := by
  cases l with
  | nil => exact absurd hk (by decide)
  | cons c r =>
    have hsg : ∀ (n : Nat) (x : List UInt8), (if n > 0 then ((⟨4, x, 0, 0, 0⟩ : Tok), n, (0 : Int)) else (⟨0, [], 0, 0, 0⟩, 0, 20)).1.kind ≠ 3 := by
      intro n x
      split <;> simp
    have hc : nextT (c :: r) = (let sg : Tok × Nat × Int := if signN (c :: r) > 0 then (⟨4, (c :: r).take (signN (c :: r)), 0, 0, 0⟩, signN (c :: r), 0) else (⟨0, [], 0, 0, 0⟩, 0, 20)
      if letterB (c.toNat : Int) = true ∨ (c.toNat : Int) = 95 ∨ (c.toNat : Int) = 35 then
        let n := runB nameB (c :: r)
        if n = (c :: r).length ∨ ((c :: r).getD n 0).toNat ≠ 58 then (⟨1, (c :: r).take n, 0, 0, 0⟩, n, 0)
        else if allB wordB ((c :: r).take n) = true then (⟨5, (c :: r).take n, 0, 0, 0⟩, n + 1, 0) else (⟨0, [], 0, 0, 0⟩, 0, 6)
      else if digitB (c.toNat : Int) = true then
        let n := runB wordB (c :: r)
        (⟨2, [], (numT ((c :: r).take n)).1, 0, 0⟩, n, (numT ((c :: r).take n)).2)
      else if (c.toNat : Int) = 34 then (⟨3, (qtA r.length.succ r [] 1).1, 0, 0, 0⟩, (qtA r.length.succ r [] 1).2.1, (qtA r.length.succ r [] 1).2.2)
      else if (c.toNat : Int) = 38 ∧ 1 < (c :: r).length ∧ (letterB ((c :: r).getD 1 0).toNat = true ∨ ((c :: r).getD 1 0).toNat = 95) then
        let n := runB wordB ((c :: r).drop 1) + 1
        (⟨6, ((c :: r).take n).drop 1, 0, 0, 0⟩, n, 0)
      else if (c.toNat : Int) = 47 then
        let n := runB smallB ((c :: r).drop 1)
        if n > 0 ∧ n + 1 < (c :: r).length ∧ ((c :: r).getD (n + 1) 0).toNat = 47 then (⟨7, ((c :: r).take (n + 1)).drop 1, 0, 0, 0⟩, n + 2, 0) else sg
      else sg) := rfl
    rw [hc] at hk ⊢
    clear hc
    simp only at hk ⊢
    by_cases h1 : letterB (c.toNat : Int) = true ∨ (c.toNat : Int) = 95 ∨ (c.toNat : Int) = 35
    · exfalso
      rw [if_pos h1] at hk
      split at hk
      · cases hk
      · split at hk <;> cases hk
    · rw [if_neg h1] at hk ⊢
      by_cases h2 : digitB (c.toNat : Int) = true
      · exfalso; rw [if_pos h2] at hk; cases hk
      · rw [if_neg h2] at hk ⊢
        by_cases h3 : (c.toNat : Int) = 34
        · rw [if_pos h3]
          have e : c = 34 := UInt8.toNat_inj.1 (by show c.toNat = 34; omega)
          exact ⟨r, by rw [e], rfl⟩
        · exfalso
          rw [if_neg h3] at hk
          split at hk
          · cases hk
          · split at hk
            · split at hk
              · cases hk
              · exact hsg _ _ hk
            · exact hsg _ _ hk
/-- Nor does a string of such a text. -/
theorem next_noO {l : List UInt8} (h : noO l = true) (hk : (nextT l).1.kind = 3) (he : (nextT l).2.2 = 0) : (nextT l).1.text.head? ≠ some 111 := by
  obtain ⟨r, rfl, e⟩ := next_str hk
  rw [e] at he ⊢
  simp only [noO, ne_eq, not_true_eq_false, decide_false, Bool.false_or, Bool.and_eq_true] at h
  exact qt_noO h.1 he
theorem rdA_noO (file : Int) : ∀ (n : Nat) (l : List UInt8) (p : Int × Int) (acc : List Tok), noO l = true → (∀ t ∈ acc, t.kind = 3 → t.text.head? ≠ some 111) → ∀ t ∈ (rdA file n l p acc).1, t.kind = 3 → t.text.head? ≠ some 111
  | 0, l, p, acc, _, _ => fun t ht => by cases ht
  | n + 1, l, p, acc, h, ha => by
    simp only [rdA]
    split
    · intro t ht; cases ht
    · split
      · intro t ht; cases ht
      · split
        · intro t ht
          rcases List.mem_append.1 ht with ht | ht
          · exact ha t ht
          · simp only [List.mem_singleton] at ht; subst ht; intro e; cases e
        · split
          · intro t ht; cases ht
          · rename_i h4
            have h5 := noO_drop (blk l.length l).1 l h
            refine rdA_noO file n _ _ _ (noO_drop _ _ h5) (fun t ht => ?_)
            rcases List.mem_append.1 ht with ht | ht
            · exact ha t ht
            · simp only [List.mem_singleton] at ht
              subst ht
              intro hk
              exact next_noO h5 hk (Decidable.not_not.1 h4)
theorem readT_noO {l : List UInt8} (file : Int) (h : noO l = true) : ∀ t ∈ (readT l file).1, t.kind = 3 → t.text.head? ≠ some 111 := by
  unfold readT
  split
  · intro t ht; cases ht
  · exact rdA_noO file _ _ _ _ h (fun t ht => by cases ht)
section
variable (L : List Tok)
/-- Within bodies nothing is included. -/
theorem srcE_kind : ∀ (n : Nat) (md : Md) (i j : Nat) (ds : List DefT), srcE L n md i = .ok (j, ds) → (match md with
    | .body d _ => d.kind ≠ 6
    | .mems _ acc => ∀ d ∈ acc, d.kind ≠ 6
    | _ => True) → ∀ d ∈ ds, d.kind ≠ 6
  | 0, md, i, j, ds, h, _ => by cases md <;> cases h
  | n + 1, .body d dp, i, j, ds, h, hd => by
    rw [srcE] at h
    split at h
    · split at h
      · cases h
      · exact srcE_kind n (.mems dp [d]) _ _ _ h (fun x hx => by simp only [List.mem_singleton] at hx; subst hx; exact hd)
    · cases h
  | n + 1, .mems dp acc, i, j, ds, h, hd => by
    rw [srcE] at h
    split at h
    · cases h
      intro x hx
      rcases List.mem_append.1 hx with hx | hx
      · exact hd x hx
      · simp only [List.mem_singleton] at hx; subst hx; simp
    · cases h1 : srcE L n (.member dp) i with
      | error e => rw [h1] at h; cases h
      | ok q =>
        rw [h1] at h
        obtain ⟨m, xs⟩ := q
        have h2 := srcE_kind n (.member dp) _ _ _ h1 trivial
        refine srcE_kind n (.mems dp (acc ++ xs)) _ _ _ h (fun x hx => ?_)
        rcases List.mem_append.1 hx with hx | hx
        · exact hd x hx
        · exact h2 x hx
  | n + 1, .member dp, i, j, ds, h, _ => by
    rw [srcE] at h
    split at h
    · cases h1 : takenR L 5 labelT i with
      | error e => rw [h1] at h; cases h
      | ok a =>
        rw [h1] at h
        simp only at h
        cases h2 : takenR L 1 nameT a with
        | error e => rw [h2] at h; cases h
        | ok b =>
          rw [h2] at h
          simp only at h
          cases h3 : srcE L n (.body ⟨1, txN L i, txN L a, [], (tkN L i).line, (tkN L i).col⟩ (dp + 1)) b with
          | error e => rw [h3] at h; cases h
          | ok q =>
            rw [h3] at h
            obtain ⟨m, xs⟩ := q
            simp only at h
            have h6 := srcE_kind n _ _ _ _ h3 (by simp)
            cases h4 : signR L [59] m with
            | error e => rw [h4] at h; cases h
            | ok q => rw [h4] at h; cases h; exact h6
    · split at h
      · cases h1 : srcE L n (.named dp) i with
        | error e => rw [h1] at h; cases h
        | ok q =>
          rw [h1] at h
          obtain ⟨m, xs⟩ := q
          simp only at h
          have h6 := srcE_kind n _ _ _ _ h1 trivial
          cases h4 : signR L [59] m with
          | error e => rw [h4] at h; cases h
          | ok q => rw [h4] at h; cases h; exact h6
      · split at h
        · rename_i hkk
          obtain ⟨_, _, d, rfl, a3⟩ := del_ok h (isK_ne8 hkk (by decide))
          intro x hx
          simp only [List.mem_singleton] at hx; subst hx; rw [a3]; decide
        · split at h
          · rename_i hkk
            obtain ⟨_, _, d, rfl, a3⟩ := del_ok h (isK_ne8 hkk (by decide))
            intro x hx
            simp only [List.mem_singleton] at hx; subst hx; rw [a3]; decide
          · cases h
  | n + 1, .named dp, i, j, ds, h, _ => by
    rw [srcE] at h
    split at h
    · split at h
      · exact srcE_kind n _ _ _ _ h (by simp)
      · cases h
    · split at h
      · cases h1 : partsR L (fuelP L) [61] (i + 1) [] with
        | error e => rw [h1] at h; cases h
        | ok q =>
          rw [h1] at h
          obtain ⟨m, ps⟩ := q
          cases h
          intro x hx
          simp only [List.mem_singleton] at hx; subst hx; simp
      · cases h
theorem endR_kind {d : DefT} {i j : Nat} {ds : List DefT} (h : endR L d i = .ok (j, ds)) (hd : d.kind ≠ 6) : ∀ x ∈ ds, x.kind ≠ 6 := by
  unfold endR at h
  cases h1 : srcE L (fuelS L) (.body d 0) i with
  | error e => rw [h1] at h; cases h
  | ok q =>
    rw [h1] at h
    obtain ⟨m, xs⟩ := q
    simp only at h
    have h6 := srcE_kind L _ _ _ _ _ h1 hd
    cases h4 : signR L [59] m with
    | error e => rw [h4] at h; cases h
    | ok q => rw [h4] at h; cases h; exact h6
/-- What is included is named by a string. -/
def IncD (d : DefT) : Prop := d.kind = 6 → ∃ k, (tkN L k).kind = 3 ∧ d.name = txN L k
theorem IncD.of {d : DefT} (h : d.kind ≠ 6) : IncD L d := fun e => absurd e h
theorem top_inc {i j : Nat} {ds : List DefT} (h : topR L i = .ok (j, ds)) : ∀ d ∈ ds, IncD L d := by
  unfold topR at h
  split at h
  · cases h1 : takenR L 5 labelT i with
    | error e => rw [h1] at h; cases h
    | ok a =>
      rw [h1] at h
      simp only at h
      cases h2 : signR L [47] a with
      | error e => rw [h2] at h; cases h
      | ok b => rw [h2] at h; exact fun d hd => .of L (endR_kind L h (by simp) d hd)
  · split at h
    · exact fun d hd => .of L (endR_kind L h (by simp) d hd)
    · split at h
      · cases h1 : takenR L 6 labelT i with
        | error e => rw [h1] at h; cases h
        | ok a => rw [h1] at h; exact fun d hd => .of L (endR_kind L h (by simp) d hd)
      · split at h
        · unfold delR at h
          cases h1 : takenR L 3 (fun _ => true) (i + 1) with
          | error e => rw [h1] at h; cases h
          | ok m =>
            rw [h1] at h
            simp only at h
            cases h2 : signR L [59] m with
            | error e => rw [h2] at h; cases h
            | ok q =>
              rw [h2] at h
              cases h
              intro d hd
              simp only [List.mem_singleton] at hd
              subst hd
              intro _
              refine ⟨i + 1, ?_, rfl⟩
              unfold takenR at h1
              split at h1
              · assumption
              · cases h1
        · split at h
          · rename_i hkk
            obtain ⟨_, _, d, rfl, a3⟩ := del_ok h (isK_ne8 hkk (by decide))
            intro x hx
            simp only [List.mem_singleton] at hx; subst hx; exact .of L (by rw [a3]; decide)
          · cases h
theorem tops_inc : ∀ (n i : Nat) (acc D : List DefT), topsR L n i acc = .ok D → (∀ d ∈ acc, IncD L d) → ∀ d ∈ D, IncD L d
  | 0, i, acc, D, h, _ => by cases h
  | n + 1, i, acc, D, h, ha => by
    rw [topsR] at h
    split at h
    · cases h; exact ha
    · cases h1 : topR L i with
      | error e => rw [h1] at h; cases h
      | ok q =>
        rw [h1] at h
        obtain ⟨j, ds⟩ := q
        refine tops_inc n _ _ _ h (fun d hd => ?_)
        rcases List.mem_append.1 hd with hd | hd
        · exact ha d hd
        · exact top_inc L h1 d hd
end
/-- Such a text includes no file whose name begins with o. -/
theorem src_noO {l : List UInt8} (file : Int) (h : noO l = true) : ∀ d ∈ (srcT l file).1, d.kind = 6 → d.name.data.toList.head? ≠ some 111 := by
  intro d hd h6
  have hin : IncD (readT l file).1 d := by
    unfold srcT at hd
    split at hd
    · cases hd
    · split at hd
      · rename_i hD; exact tops_inc _ _ _ _ _ hD (fun d hd => by cases hd) d hd
      · cases hd
  obtain ⟨k, h3, e⟩ := hin h6
  rw [e]
  have hm : tkN (readT l file).1 k ∈ (readT l file).1 := by
    unfold tkN at h3 ⊢
    rw [List.getD_eq_getElem?_getD] at h3 ⊢
    cases hx : (readT l file).1[k]? with
    | none => rw [hx] at h3; cases h3
    | some x => exact List.mem_of_getElem? hx
  have := readT_noO file h _ hm h3
  simpa [txN] using this
end Go.Proofs.YtofhcgbihonckaaGreat

namespace Go.Proofs.YtofhcgbihonckaaGreat
open Go.RowKit

def lNam : List ByteArray := [⟨#[109, 97, 105, 110]⟩, ⟨#[97]⟩, ⟨#[98]⟩, ⟨#[99]⟩, ⟨#[100]⟩]
theorem lNam_inc : ∀ s ∈ lNam, (noC ([47, 105, 110, 99, 108, 117, 100, 101, 47, 32, 34] ++ s.data.toList ++ [34, 59, 10]) && decide (cntS ([47, 105, 110, 99, 108, 117, 100, 101, 47, 32, 34] ++ s.data.toList ++ [34, 59, 10]) ≤ 1) && !endQ ([47, 105, 110, 99, 108, 117, 100, 101, 47, 32, 34] ++ s.data.toList ++ [34, 59, 10])) = true := by decide
theorem lNam_sz : ∀ s ∈ lNam, s.size ≤ 4 := by decide
theorem odd_sizeF : ∀ s ∈ lOdd, s.size ≤ 20 := by decide
theorem odd_noO : ∀ s ∈ lOdd, noO s.data.toList = true := by decide
/-- An include of a known name. -/
theorem inc_adds (s : ByteArray) (hs : s ∈ lNam) (t : ByteArray) (ht : t.size ≤ 1000000) : ∃ l1 l2 t2 : ByteArray, Adds ⟨#[47, 105, 110, 99, 108, 117, 100, 101, 47, 32, 34]⟩ s l1 ∧ Adds l1 ⟨#[34, 59, 10]⟩ l2 ∧ Adds t l2 t2 ∧ t2.size ≤ t.size + 18 ∧ (∀ c, Cs t c false → Cs t2 (c + 1) false) := by
  have hz := lNam_sz s hs
  have e1 : (⟨#[47, 105, 110, 99, 108, 117, 100, 101, 47, 32, 34]⟩ : ByteArray).size = 11 := rfl
  have e3 : (⟨#[34, 59, 10]⟩ : ByteArray).size = 3 := rfl
  obtain ⟨l1, h1, z1, q1⟩ := adds_ex ⟨#[47, 105, 110, 99, 108, 117, 100, 101, 47, 32, 34]⟩ s (by omega)
  obtain ⟨l2, h2, z2, q2⟩ := adds_ex l1 ⟨#[34, 59, 10]⟩ (by omega)
  obtain ⟨t2, h3, z3, q3⟩ := adds_ex t l2 (by omega)
  refine ⟨l1, l2, t2, h1, h2, h3, by omega, fun c hc => ?_⟩
  have hl : Cs l2 1 false := Cs.lit 1 false (by rw [q2, q1]; simpa using lNam_inc s hs)
  exact Cs.app q3 hc hl
structure FilT (i : Nat) (f : FileT) : Prop where
  name : lNam[i]? = some f.name
  size : f.text.size ≤ 100000
  no : noO f.text.data.toList = true
def FilesT5 (F : List FileT) : Prop := ∀ i (h : i < F.length), FilT i F[i]
def FilPost (B b : Nat) (w : World) (e : Ending) (w' : World) : Prop :=
  ∃ v F, e = .returned v ∧ w'.ownsRow w.heap.size 46 2 v F.length (fileCells F) ∧ FilesT5 F ∧ 1 ≤ F.length ∧ F.length ≤ 5 ∧ Tape B w' b ∧ Keeps (· = b) w w'
def GfO (B b NB n : Nat) (w : World) (f : Nat) (x y : Value) (wr : World) : Prop :=
  ∃ (i : Nat) (F : List FileT), y = .int .i64 i ∧ i ≤ n ∧ n ≤ i + f ∧ F.length = i ∧ wr.ownsRow w.heap.size 46 2 x i (fileCells F) ∧ FilesT5 F ∧ Holds wr NB (lNam.map Value.string).toArray 9 ∧ Tape B wr b ∧ Keeps (· = b) w wr
def GfI (B b NB : Nat) (w wo : World) (f : Nat) (x y : Value) (wr : World) : Prop :=
  ∃ (t : ByteArray) (r c : Nat), x = .string t ∧ y = .int .i64 r ∧ r ≤ f ∧ r ≤ 3 ∧ t.size + 20000 * r ≤ 60000 ∧ Cs t c false ∧ Tape B wr b ∧ Keeps (· = b) wo wr
set_option maxHeartbeats 8000000 in
set_option maxRecDepth 100000 in
theorem grow_Files (B b : Nat) (w : World) (h : Tape B w b) :
    Calls Tryz.prog 17 #[.pointer (some ⟨b, 0, none⟩)] w (FilPost B b w) := by
  have hlt := h.lt
  have hT0B := h.1
  have hT0 := h.keeps ((Keeps.refl (fun _ => False) w).alloc (.cells (lNam.map Value.string).toArray 9)) (fun _ e => e.elim)
  have hH0 := Holds.new w (lNam.map Value.string).toArray 9
  have hK0 : Keeps (· = b) w (w.alloc (.cells (lNam.map Value.string).toArray 9)) := (Keeps.refl (· = b) w).alloc _
  have HH0 := Lib.hid hH0
  have HK0 := Lib.hid hK0
  clear hH0 hK0
  go_enter Tryz.func17, Tryz.ntmps17
  go_wp2_with fail
  refine (mk_Range B b 1 5 _ (by exact hT0) (by omega) (by omega) (by omega)).mono ?_
  rintro e w1 ⟨n, rfl, n0, n1, hT, hK⟩
  obtain ⟨n, rfl⟩ := Int.eq_ofNat_of_zero_le (show 0 ≤ n by omega)
  have HH1 := Lib.hid (HH0.out.keeps hK (by have := HH0.out.lt; omega))
  have HK1 := Lib.hid (HK0.out.trans hK (fun _ _ e => e))
  have hn5 : n ≤ 5 := by omega
  obtain ⟨y0, hyn, hy0, hy1, hy2⟩ := info_parts infoFile9
  clear hT0 hK
  go_wp2_with fail
  go_loopg [4, 6] n (fun f x y wr => GfO B b w.heap.size n w f x y wr)
  case atStart => exact ⟨0, [], rfl, by omega, by omega, rfl, World.ownsRow_nil _ _ _ _, (fun i h => by cases h), HH1.out, hT, HK1.out⟩
  case round =>
    clear hT
    obtain ⟨i, F, rfl, hi1, hi2, hFl, hrow, hF5, hHN, hT, hK⟩ := hrel
    obtain ⟨go, rfl⟩ : ∃ x : Nat, x = gk := ⟨_, rfl⟩
    obtain ⟨wo, rfl⟩ : ∃ x : World, x = wr := ⟨_, rfl⟩
    obtain ⟨ra, rc, rfl⟩ := row_slice hrow
    have HROW := Lib.hid hrow
    have HF5 := Lib.hid hF5
    have HHN := Lib.hid hHN
    have HK := Lib.hid hK
    have HFL := Lib.hid hFl
    clear hrow hF5 hHN hK hFl
    by_cases hlt2 : i < n
    · have hir : (i : Int) < (n : Int) := by omega
      go_wp2_with fail
      refine (mk_N B b 4 _ hT (by omega) (by omega)).mono ?_
      rintro e w2 ⟨r, rfl, r0, r1, hT2, hK2⟩
      obtain ⟨r, rfl⟩ := Int.eq_ofNat_of_zero_le r0
      clear hT
      go_wp2_with fail
      go_loopg [7, 8] r (fun f x y wr => GfI B b w.heap.size w wo f x y wr)
      case atStart => exact ⟨ByteArray.empty, r, 0, rfl, rfl, by omega, by omega, by rw [show ByteArray.empty.size = 0 from rfl]; omega, Cs.empty, hT2, hK2⟩
      case round =>
        clear hT2 hK2
        obtain ⟨t, q, c, rfl, rfl, hqf, hq3, hts, hcs, hT, hK⟩ := hrel
        by_cases hq0 : 0 < q
        · go_wp2_with fail
          refine (mk_N B b 4 _ hT (by omega) (by omega)).mono ?_
          rintro e w3 ⟨z, rfl, z0, z1, hT3, hK3⟩
          have hzc : z = 0 ∨ z = 1 ∨ 2 ≤ z := by omega
          rcases hzc with rfl | rfl | hz2
          · go_wp2_with fail
            refine (mk_N B b n _ hT3 (by omega) (by omega)).mono ?_
            rintro e w4 ⟨r1, rfl, r10, r11, hT4, hK4⟩
            obtain ⟨r1, rfl⟩ := Int.eq_ofNat_of_zero_le r10
            have hK5 : Keeps (· = b) wo w4 := (hK.trans hK3 (fun _ _ e => e)).trans hK4 (fun _ _ e => e)
            go_wp2_with fail
            refine (mk_N B b 12 _ hT4 (by omega) (by omega)).mono ?_
            rintro e w5 ⟨y, rfl, y00, y01, hT5, hK6⟩
            have hK7 : Keeps (· = b) wo w5 := hK5.trans hK6 (fun _ _ e => e)
            by_cases hy11 : y = 11
            · subst hy11
              go_wp2_with fail
              refine (mk_N B b n _ hT5 (by omega) (by omega)).mono ?_
              rintro e w6 ⟨jn, rfl, j0, j1, hT6, hK8⟩
              obtain ⟨jn, rfl⟩ := Int.eq_ofNat_of_zero_le j0
              have hK9 : Keeps (· = b) wo w6 := hK7.trans hK8 (fun _ _ e => e)
              by_cases hj : jn < n
              · have hjr : (jn : Int) < (n : Int) := by omega
                obtain ⟨s, hs1, hs2⟩ := pick_one lNam jn (by have : lNam.length = 5 := rfl; omega)
                have hH := HHN.out.keeps hK9 (by omega)
                have hc : w6.cell? ⟨w.heap.size, jn, none⟩ = some (.string s) := (hH.cell jn).trans (by simp [hs1])
                have hcl := hH.lt
                obtain ⟨l1, l2, t2, a1, a2, a3, hz, hcc⟩ := inc_adds s hs2 t (by omega)
                unfold Adds at a1 a2 a3
                clear hH hs1
                go_wp2_with fail
                go_roundg (gk - 1)
                case measure => omega
                case rel => exact ⟨t2, q - 1, c + 1, rfl, by go_num, by omega, by omega, by omega, hcc c hcs, hT6, hK9⟩
              · omega
            · have hy11' : (y == 11) = false := by rw [beq_eq_false_iff_ne]; exact hy11
              obtain ⟨jn, hjn⟩ : ∃ jn : Nat, (i : Int) + 1 + (r1 : Int) = (jn : Int) := ⟨i + 1 + r1, by omega⟩
              by_cases hj : jn < n
              · have hjr : (jn : Int) < (n : Int) := by omega
                obtain ⟨s, hs1, hs2⟩ := pick_one lNam jn (by have : lNam.length = 5 := rfl; omega)
                have hH := HHN.out.keeps hK7 (by omega)
                have hc : w5.cell? ⟨w.heap.size, jn, none⟩ = some (.string s) := (hH.cell jn).trans (by simp [hs1])
                have hcl := hH.lt
                obtain ⟨l1, l2, t2, a1, a2, a3, hz, hcc⟩ := inc_adds s hs2 t (by omega)
                unfold Adds at a1 a2 a3
                clear hH hs1
                go_wp2_with fail
                go_roundg (gk - 1)
                case measure => omega
                case rel => exact ⟨t2, q - 1, c + 1, rfl, by go_num, by omega, by omega, by omega, hcc c hcs, hT5, hK7⟩
              · have hjr : ¬ (jn : Int) < (n : Int) := by omega
                go_wp2_with fail
                go_roundg (gk - 1)
                case measure => omega
                case rel => exact ⟨t, q - 1, c, rfl, by go_num, by omega, by omega, by omega, hcs, hT5, hK7⟩
          · go_wp2_with fail
            refine (mk_N B b n _ hT3 (by omega) (by omega)).mono ?_
            rintro e w4 ⟨r1, rfl, r10, r11, hT4, hK4⟩
            obtain ⟨r1, rfl⟩ := Int.eq_ofNat_of_zero_le r10
            have hK5 : Keeps (· = b) wo w4 := (hK.trans hK3 (fun _ _ e => e)).trans hK4 (fun _ _ e => e)
            go_wp2_with fail
            refine (mk_N B b 12 _ hT4 (by omega) (by omega)).mono ?_
            rintro e w5 ⟨y, rfl, y00, y01, hT5, hK6⟩
            have hK7 : Keeps (· = b) wo w5 := hK5.trans hK6 (fun _ _ e => e)
            by_cases hy11 : y = 11
            · subst hy11
              go_wp2_with fail
              refine (mk_N B b n _ hT5 (by omega) (by omega)).mono ?_
              rintro e w6 ⟨jn, rfl, j0, j1, hT6, hK8⟩
              obtain ⟨jn, rfl⟩ := Int.eq_ofNat_of_zero_le j0
              have hK9 : Keeps (· = b) wo w6 := hK7.trans hK8 (fun _ _ e => e)
              by_cases hj : jn < n
              · have hjr : (jn : Int) < (n : Int) := by omega
                obtain ⟨s, hs1, hs2⟩ := pick_one lNam jn (by have : lNam.length = 5 := rfl; omega)
                have hH := HHN.out.keeps hK9 (by omega)
                have hc : w6.cell? ⟨w.heap.size, jn, none⟩ = some (.string s) := (hH.cell jn).trans (by simp [hs1])
                have hcl := hH.lt
                obtain ⟨l1, l2, t2, a1, a2, a3, hz, hcc⟩ := inc_adds s hs2 t (by omega)
                unfold Adds at a1 a2 a3
                clear hH hs1
                go_wp2_with fail
                go_roundg (gk - 1)
                case measure => omega
                case rel => exact ⟨t2, q - 1, c + 1, rfl, by go_num, by omega, by omega, by omega, hcc c hcs, hT6, hK9⟩
              · omega
            · have hy11' : (y == 11) = false := by rw [beq_eq_false_iff_ne]; exact hy11
              obtain ⟨jn, hjn⟩ : ∃ jn : Nat, (i : Int) + 1 + (r1 : Int) = (jn : Int) := ⟨i + 1 + r1, by omega⟩
              by_cases hj : jn < n
              · have hjr : (jn : Int) < (n : Int) := by omega
                obtain ⟨s, hs1, hs2⟩ := pick_one lNam jn (by have : lNam.length = 5 := rfl; omega)
                have hH := HHN.out.keeps hK7 (by omega)
                have hc : w5.cell? ⟨w.heap.size, jn, none⟩ = some (.string s) := (hH.cell jn).trans (by simp [hs1])
                have hcl := hH.lt
                obtain ⟨l1, l2, t2, a1, a2, a3, hz, hcc⟩ := inc_adds s hs2 t (by omega)
                unfold Adds at a1 a2 a3
                clear hH hs1
                go_wp2_with fail
                go_roundg (gk - 1)
                case measure => omega
                case rel => exact ⟨t2, q - 1, c + 1, rfl, by go_num, by omega, by omega, by omega, hcc c hcs, hT5, hK7⟩
              · have hjr : ¬ (jn : Int) < (n : Int) := by omega
                go_wp2_with fail
                go_roundg (gk - 1)
                case measure => omega
                case rel => exact ⟨t, q - 1, c, rfl, by go_num, by omega, by omega, by omega, hcs, hT5, hK7⟩
          · have zz0 : (z == 0) = false := by rw [beq_eq_false_iff_ne]; omega
            have zz1 : (z == 1) = false := by rw [beq_eq_false_iff_ne]; omega
            go_wp2_with fail
            refine (grow_MembersC B b 1 (by omega) _ hT3).mono ?_
            rintro e w4 ⟨mm, rfl, hmm, csmm, hT4, hK4⟩
            have hml : mlen 1 = 16000 := rfl
            have e1 : (⟨#[47, 32, 123, 32]⟩ : ByteArray).size = 4 := rfl
            have hK5 : Keeps (· = b) wo w4 := (hK.trans hK3 (fun _ _ e => e)).trans hK4 (fun _ _ e => e)
            obtain ⟨l1, a1, q1, hq1⟩ := addsC_txt ⟨#[47, 32, 123, 32]⟩ mm (by decide) (by omega)
            obtain ⟨l2, a2, q2, hq2⟩ := addsC_lit l1 ⟨#[125, 59, 10]⟩ 3 rfl (by omega) (by omega)
            obtain ⟨t2, a3, q3, hq3⟩ := addsC_txt t l2 (by omega) (by omega)
            have cs1 := Cs.app hq1 (Cs.lit (l := ⟨#[47, 32, 123, 32]⟩) 1 false (by decide)) csmm
            have cs2 := Cs.cat hq2 cs1 (Cs.lit (l := ⟨#[125, 59, 10]⟩) 2 false (by decide)) (.inr (by decide))
            have cs3 := Cs.app hq3 hcs cs2
            clear hq1 hq2 hq3
            go_wp2_with fail
            go_roundg (gk - 1)
            case measure => omega
            case rel => exact ⟨t2, q - 1, _, rfl, by go_num, by omega, by omega, by omega, cs3, hT4, hK5⟩
        · obtain rfl : q = 0 := by omega
          go_wp2_with fail
          refine (mk_N B b 30 _ hT (by omega) (by omega)).mono ?_
          rintro e w3 ⟨z, rfl, z0, z1, hT3, hK3⟩
          have hK4 : Keeps (· = b) wo w3 := hK.trans hK3 (fun _ _ e => e)
          by_cases hz : z = 29
          · subst hz
            go_wp2_with fail
            refine (mk_Odd B b _ hT3).mono ?_
            rintro e w4 ⟨o, rfl, ho, hT4, hK5⟩
            have hK6 : Keeps (· = b) wo w4 := hK4.trans hK5 (fun _ _ e => e)
            have hos := odd_sizeF o ho
            obtain ⟨t2, a1, q1, hq1⟩ := addsC_txt t o (by omega) (by omega)
            have hno : noO t2.data.toList = true := by rw [hq1]; exact noC_O _ _ hcs.no (hcs.fin rfl) (odd_noO o ho)
            clear hq1
            obtain ⟨s, hs1, hs2⟩ := pick_one lNam i (by have : lNam.length = 5 := rfl; omega)
            have hH := HHN.out.keeps hK6 (by omega)
            have hc : w4.cell? ⟨w.heap.size, i, none⟩ = some (.string s) := (hH.cell i).trans (by simp [hs1])
            have hcl := hH.lt
            have hr9 := ownsRow_keeps HROW.out hK6 (fun g hg e => by have := (HROW.out.lt g hg).1; omega)
            have HR9 := Lib.hid hr9
            have HF9 := Lib.hid (show FilesT5 (F ++ [⟨s, t2⟩]) from fun j hj => by
              by_cases hji : j < F.length
              · rw [List.getElem_append_left hji]; exact HF5.out j hji
              · have e9 : j = F.length := by simp at hj; omega
                subst e9
                rw [List.getElem_append_right (Nat.le_refl _)]
                simp only [Nat.sub_self, List.getElem_cons_zero]
                exact ⟨by rw [HFL.out]; exact hs1, by show t2.size ≤ 100000; omega, hno⟩)
            have hwb : w.heap.size ≤ w4.heap.size := Nat.le_trans HK.out.size hK6.size
            have hHk := hH
            clear hH hr9 hs1
            go_wp2_with (at_builtin; refine wpList_append_src _ rfl _ _ 42 42 rfl w.heap.size 46 y0 _ 2 32 Tryz.underlying42 hyn hy0 hy1 hy2 rfl _ i (fileCells F) rfl (by exact HR9.out.alloc _) _ rfl 1 [.string s, .string t2] (by exact Src.ofSlice _ Tryz.underlying42 _ 1 1 _ rfl (new_cells _ _ _ _ (by simp) _ rfl) (fun u hu => by simp at hu; rcases hu with rfl | rfl <;> rfl)) (by unfold maxLen; omega) (by omega) (by simp; omega) ?_)
            intro v9 w9 hown9 hgrow9 _
            have hkk : Keeps (· = b) w w9 := ((HK.out.trans hK6 (fun _ _ e => e)).alloc (.cells #[.string s, .string t2] 46)).grown hgrow9 (fun g hg => .inl (HROW.out.lt g hg).1)
            have HT9 := Lib.hid ((hT4.keeps ((Keeps.refl (fun _ => False) w4).alloc (.cells #[.string s, .string t2] 46)) (fun _ e => e.elim)).keeps (Keeps.of_grown hgrow9 (S := fun g => Value.ownBlock (.slice ra i rc) = some g) (fun _ e => e)) (fun g hg => by have := (HROW.out.lt g hg).1; have := hT0B; omega))
            have HR10 := Lib.hid (show w9.ownsRow w.heap.size 46 2 v9 (i + 1) (fileCells (F ++ [⟨s, t2⟩])) from by rw [fileCells_snoc]; exact hown9)
            have HK9 := Lib.hid hkk
            have HNN := Lib.hid ((hHk.alloc (.cells #[.string s, .string t2] 46)).grown hgrow9 (fun e => by have := owns_ne_holds HROW.out HHN.out (by decide); exact this e))
            clear hown9 hgrow9 hkk hHk
            go_wp2_with fail
            go_roundg (go - 1)
            case measure => omega
            case rel => exact ⟨i + 1, F ++ [⟨s, t2⟩], by go_num, by omega, by omega, by rw [List.length_append, HFL.out]; rfl, HR10.out, HF9.out, HNN.out, HT9.out, HK9.out⟩
          · have hz' : (z == 29) = false := by rw [beq_eq_false_iff_ne]; exact hz
            have hno : noO t.data.toList = true := by have := noC_O _ [] hcs.no (hcs.fin rfl) rfl; rwa [List.append_nil] at this
            obtain ⟨s, hs1, hs2⟩ := pick_one lNam i (by have : lNam.length = 5 := rfl; omega)
            have hH := HHN.out.keeps hK4 (by omega)
            have hc : w3.cell? ⟨w.heap.size, i, none⟩ = some (.string s) := (hH.cell i).trans (by simp [hs1])
            have hcl := hH.lt
            have hr9 := ownsRow_keeps HROW.out hK4 (fun g hg e => by have := (HROW.out.lt g hg).1; omega)
            have HR9 := Lib.hid hr9
            have HF9 := Lib.hid (show FilesT5 (F ++ [⟨s, t⟩]) from fun j hj => by
              by_cases hji : j < F.length
              · rw [List.getElem_append_left hji]; exact HF5.out j hji
              · have e9 : j = F.length := by simp at hj; omega
                subst e9
                rw [List.getElem_append_right (Nat.le_refl _)]
                simp only [Nat.sub_self, List.getElem_cons_zero]
                exact ⟨by rw [HFL.out]; exact hs1, by show t.size ≤ 100000; omega, hno⟩)
            have hwb : w.heap.size ≤ w3.heap.size := Nat.le_trans HK.out.size hK4.size
            have hHk := hH
            clear hH hr9 hs1
            go_wp2_with (at_builtin; refine wpList_append_src _ rfl _ _ 42 42 rfl w.heap.size 46 y0 _ 2 32 Tryz.underlying42 hyn hy0 hy1 hy2 rfl _ i (fileCells F) rfl (by exact HR9.out.alloc _) _ rfl 1 [.string s, .string t] (by exact Src.ofSlice _ Tryz.underlying42 _ 1 1 _ rfl (new_cells _ _ _ _ (by simp) _ rfl) (fun u hu => by simp at hu; rcases hu with rfl | rfl <;> rfl)) (by unfold maxLen; omega) (by omega) (by simp; omega) ?_)
            intro v9 w9 hown9 hgrow9 _
            have hkk : Keeps (· = b) w w9 := ((HK.out.trans hK4 (fun _ _ e => e)).alloc (.cells #[.string s, .string t] 46)).grown hgrow9 (fun g hg => .inl (HROW.out.lt g hg).1)
            have HT9 := Lib.hid ((hT3.keeps ((Keeps.refl (fun _ => False) w3).alloc (.cells #[.string s, .string t] 46)) (fun _ e => e.elim)).keeps (Keeps.of_grown hgrow9 (S := fun g => Value.ownBlock (.slice ra i rc) = some g) (fun _ e => e)) (fun g hg => by have := (HROW.out.lt g hg).1; have := hT0B; omega))
            have HR10 := Lib.hid (show w9.ownsRow w.heap.size 46 2 v9 (i + 1) (fileCells (F ++ [⟨s, t⟩])) from by rw [fileCells_snoc]; exact hown9)
            have HK9 := Lib.hid hkk
            have HNN := Lib.hid ((hHk.alloc (.cells #[.string s, .string t] 46)).grown hgrow9 (fun e => by have := owns_ne_holds HROW.out HHN.out (by decide); exact this e))
            clear hown9 hgrow9 hkk hHk
            go_wp2_with fail
            go_roundg (go - 1)
            case measure => omega
            case rel => exact ⟨i + 1, F ++ [⟨s, t⟩], by go_num, by omega, by omega, by rw [List.length_append, HFL.out]; rfl, HR10.out, HF9.out, HNN.out, HT9.out, HK9.out⟩
    · obtain rfl : i = n := by omega
      go_wp2_with fail
      go_ret
      exact ⟨_, F, rfl, by rw [HFL.out]; exact HROW.out, HF5.out, by rw [HFL.out]; omega, by rw [HFL.out]; omega, hT, HK.out⟩
end Go.Proofs.YtofhcgbihonckaaGreat

namespace Go.Proofs.YtofhcgbihonckaaGreat
open Go.RowKit

theorem load_bounds (F : List FileT) (m : ByteArray) : (LoadT F m).1.length ≤ 6000 ∧ ∀ x ∈ (LoadT F m).1, OkD x.2 := by
  unfold LoadT
  cases h : loadT F m with
  | error x => exact ⟨by simp, by simp⟩
  | ok x => obtain ⟨o, g, out⟩ := x; exact load_len h
theorem load_files (F : List FileT) (m : ByteArray) (hF : F.length ≤ 100) : ∀ x ∈ (LoadT F m).1, Fno x.1 := by
  unfold LoadT
  cases h : loadT F m with
  | error x => simp
  | ok x =>
    obtain ⟨o, g, out⟩ := x
    exact load_all (fun x => Fno x.1) (fun k hk d _ => ⟨by show (0 : Int) ≤ (k : Int); omega, by show (k : Int) ≤ 100; omega⟩) h
section
variable {F : List FileT} (h : FilesT5 F) (h1 : 1 ≤ F.length) (h5 : F.length ≤ 5) (t : ByteArray)
include h h5
theorem five_names : F.map FileT.name = lNam.take F.length := by
  have hl : lNam.length = 5 := rfl
  apply List.ext_getElem (by rw [List.length_map, List.length_take]; omega)
  intro i a b
  rw [List.getElem_map, List.getElem_take]
  have := (h i (by simpa using a)).name
  rw [List.getElem?_eq_getElem (by simp at a; omega)] at this
  exact (Option.some.inj this).symm
theorem five_nodup : (F.map FileT.name).Nodup ∧ ∀ f ∈ F, f.name ≠ ⟨#[111, 116, 104, 101, 114]⟩ := by
  have e := five_names h h5
  have hk : ∀ k, k ≤ 5 → (lNam.take k).Nodup ∧ ∀ s ∈ lNam.take k, s ≠ (⟨#[111, 116, 104, 101, 114]⟩ : ByteArray) := by
    intro k hk
    have hc : k = 0 ∨ k = 1 ∨ k = 2 ∨ k = 3 ∨ k = 4 ∨ k = 5 := by omega
    rcases hc with rfl | rfl | rfl | rfl | rfl | rfl <;> decide
  obtain ⟨a, b⟩ := hk F.length h5
  rw [e]
  exact ⟨a, fun f hf => b f.name (by rw [← e]; exact List.mem_map.2 ⟨f, hf, rfl⟩)⟩
theorem five_sizes : ∀ f ∈ F, f.text.size ≤ maxLen ∧ f.name.size ≤ maxLen := by
  intro f hf
  obtain ⟨i, hi, rfl⟩ := List.getElem_of_mem hf
  have := h i hi
  have hm : F[i].name ∈ lNam := List.mem_of_getElem? this.name
  have := lNam_sz _ hm
  have := (h i hi).size
  unfold maxLen
  omega
theorem five_dup1 : dupF [] (F ++ [⟨⟨#[111, 116, 104, 101, 114]⟩, t⟩]) = false := by
  obtain ⟨a, b⟩ := five_nodup h h5
  refine dupF_no _ [] ?_
  rw [List.nil_append, List.map_append, List.nodup_append]
  refine ⟨a, by simp, fun x hx y hy => ?_⟩
  obtain ⟨f, hf, rfl⟩ := List.mem_map.1 hx
  simp only [List.map_cons, List.map_nil, List.mem_singleton] at hy
  subst hy
  exact b f hf
theorem five_dup2 : dupF [] (⟨⟨#[111, 116, 104, 101, 114]⟩, t⟩ :: F) = false := by
  obtain ⟨a, b⟩ := five_nodup h h5
  refine dupF_no _ [] ?_
  rw [List.nil_append, List.map_cons, List.nodup_cons]
  refine ⟨fun hm => ?_, a⟩
  obtain ⟨f, hf, e⟩ := List.mem_map.1 hm
  exact b f hf e
theorem five_dup0 : dupF [] F = false := dupF_no _ [] (by rw [List.nil_append]; exact (five_nodup h h5).1)
omit h5 in
theorem five_inc (k : Nat) (hk : k < F.length) : ∀ d ∈ (srcT (F.getD k ⟨⟨#[]⟩, ⟨#[]⟩⟩).text.data.toList k).1, d.kind = 6 → d.name ≠ ⟨#[111, 116, 104, 101, 114]⟩ := by
  intro d hd h6 e
  rw [List.getD_eq_getElem?_getD, List.getElem?_eq_getElem hk] at hd
  exact src_noO k (h k hk).no d hd h6 (by rw [e]; rfl)
include h1
omit h5 in
theorem five_main : findF F ⟨#[109, 97, 105, 110]⟩ = some 0 := by
  have h0 := (h 0 (by omega)).name
  have e : F[0].name = ⟨#[109, 97, 105, 110]⟩ := (Option.some.inj h0).symm
  cases F with
  | nil => simp at h1
  | cons f F =>
    have e' : f.name = ⟨#[109, 97, 105, 110]⟩ := e
    simp [findF, List.findIdx?_cons, e']
end
theorem findF_end (F : List FileT) (o : FileT) (s : ByteArray) (h : s ≠ o.name) : findF (F ++ [o]) s = (findF F s).map (· + 0) := by
  unfold findF
  rw [List.findIdx?_append]
  have e : decide (o.name = s) = false := decide_eq_false (fun e => h e.symm)
  cases List.findIdx? (fun f : FileT => decide (f.name = s)) F with
  | none => simp [List.findIdx?_cons, e]
  | some k => rfl
theorem findF_front (F : List FileT) (o : FileT) (s : ByteArray) (h : s ≠ o.name) : findF (o :: F) s = (findF F s).map (· + 1) := by
  unfold findF
  have e : decide (o.name = s) = false := decide_eq_false (fun e => h e.symm)
  rw [List.findIdx?_cons]
  simp [e]
theorem shF_zero (l : List FdT) : l.map (shF 0) = l := by
  have : shF 0 = id := by funext x; simp [shF]
  rw [this, List.map_id]
/-- The three loadings. -/
theorem others_plain {F : List FileT} (h : FilesT5 F) (h1 : 1 ≤ F.length) (h5 : F.length ≤ 5) (t : ByteArray) :
    LoadT (F ++ [⟨⟨#[111, 116, 104, 101, 114]⟩, t⟩]) ⟨#[109, 97, 105, 110]⟩ = LoadT F ⟨#[109, 97, 105, 110]⟩ ∧
    ((LoadT (⟨⟨#[111, 116, 104, 101, 114]⟩, t⟩ :: F) ⟨#[109, 97, 105, 110]⟩).2.2 = (LoadT F ⟨#[109, 97, 105, 110]⟩).2.2 ∧ (LoadT (⟨⟨#[111, 116, 104, 101, 114]⟩, t⟩ :: F) ⟨#[109, 97, 105, 110]⟩).1 = (LoadT F ⟨#[109, 97, 105, 110]⟩).1.map (shF 1) ∧
      ((LoadT (⟨⟨#[111, 116, 104, 101, 114]⟩, t⟩ :: F) ⟨#[109, 97, 105, 110]⟩).2.1 = ((LoadT F ⟨#[109, 97, 105, 110]⟩).2.1.1 + 1, (LoadT F ⟨#[109, 97, 105, 110]⟩).2.1.2.1, (LoadT F ⟨#[109, 97, 105, 110]⟩).2.1.2.2) ∧ Fno (LoadT F ⟨#[109, 97, 105, 110]⟩).2.1.1 ∨
        (LoadT F ⟨#[109, 97, 105, 110]⟩).2.1 = (0, 0, 0) ∧ (LoadT (⟨⟨#[111, 116, 104, 101, 114]⟩, t⟩ :: F) ⟨#[109, 97, 105, 110]⟩).2.1 = (0, 0, 0))) := by
  have hm := five_main h h1
  have hne : (⟨#[109, 97, 105, 110]⟩ : ByteArray) ≠ ⟨#[111, 116, 104, 101, 114]⟩ := by decide
  constructor
  · obtain ⟨a1, a2, a3⟩ := load_sh 0 (F := F) (F' := F ++ [⟨⟨#[111, 116, 104, 101, 114]⟩, t⟩]) (m := ⟨#[109, 97, 105, 110]⟩) (k := 0) (by omega) (by simp; omega) (by simp) (five_dup0 h h5) (five_dup1 h h5 t) hm
      (by rw [findF_end _ _ _ hne, hm]; rfl) (fun k hk => by rw [Nat.add_zero, List.getD_eq_getElem?_getD, List.getElem?_append_left hk, ← List.getD_eq_getElem?_getD]) (fun k hk d hd h6 => findF_end _ _ _ (five_inc h k hk d hd h6))
    rw [shF_zero] at a2
    refine Prod.ext a2 (Prod.ext ?_ a1)
    rcases a3 with ⟨a3, _⟩ | ⟨a3, a4⟩
    · rw [a3]; simp
    · rw [a3, a4]
  · exact load_sh 1 (F := F) (F' := ⟨⟨#[111, 116, 104, 101, 114]⟩, t⟩ :: F) (m := ⟨#[109, 97, 105, 110]⟩) (k := 0) (by omega) (by simp; omega) (by simp) (five_dup0 h h5) (five_dup2 h h5 t) hm
      (by rw [findF_front _ _ _ hne, hm]; rfl) (fun k hk => rfl) (fun k hk d hd h6 => findF_front _ _ _ (five_inc h k hk d hd h6))
end Go.Proofs.YtofhcgbihonckaaGreat

namespace Go.Proofs.YtofhcgbihonckaaGreat
open Go.RowKit

def exF : List FileT := [⟨⟨#[109, 97, 105, 110]⟩, ⟨#[47, 105, 110, 99, 108, 117, 100, 101, 47, 32, 34, 97, 34, 59, 32, 47, 32, 123, 32, 112, 59, 32, 125, 59]⟩⟩, ⟨⟨#[97]⟩, ⟨#[47, 32, 123, 32, 113, 59, 32, 125, 59]⟩⟩]
theorem exF_load : (LoadT exF ⟨#[109, 97, 105, 110]⟩).2 = ((0, 0, 0), 0) ∧ (LoadT exF ⟨#[109, 97, 105, 110]⟩).1.length = 6 ∧ ((LoadT exF ⟨#[109, 97, 105, 110]⟩).1[1]?).map (fun x => (x.1, x.2.name)) = some (1, ⟨#[113]⟩) ∧ ((LoadT exF ⟨#[109, 97, 105, 110]⟩).1[4]?).map (fun x => (x.1, x.2.name)) = some (0, ⟨#[112]⟩) :=
  ⟨by kernel_rfl, by kernel_rfl, by kernel_rfl, by kernel_rfl⟩
theorem lay_pos {w : World} (h : Lay0 w) : 0 < w.heap.size := by
  obtain ⟨m, h⟩ := h
  have := World.block_lt_of_cell? w _ h
  exact this
/-- What awake reads. -/
theorem ex5_read {w : World} {base : Nat} {v : Value} {D : List FdT} (h : FdsRow w base v D) (hl : D.length = 6) (h1 : (D[1]?).map (fun x => (x.1, x.2.name)) = some (1, ⟨#[113]⟩)) (h4 : (D[4]?).map (fun x => (x.1, x.2.name)) = some (0, ⟨#[112]⟩)) :
    ∃ g c, v = .slice (some ⟨g, 0, none⟩) 6 c ∧ w.cell? ⟨g, 9, none⟩ = some (.string ⟨#[113]⟩) ∧ w.cell? ⟨g, 11, none⟩ = some (.int .i64 1) ∧ w.cell? ⟨g, 30, none⟩ = some (.string ⟨#[112]⟩) ∧ w.cell? ⟨g, 32, none⟩ = some (.int .i64 0) ∧ g < w.heap.size := by
  obtain ⟨g, c, pv, rfl, g1, _, _, _, b2, _, b4, _⟩ := h.at 1 (by omega)
  obtain ⟨g', c', pv', e, _, _, _, _, d2, _, d4, _⟩ := h.at 4 (by omega)
  cases e
  rw [List.getElem?_eq_getElem (by omega)] at h1 h4
  simp only [Option.map_some, Option.some.injEq, Prod.mk.injEq] at h1 h4
  rw [hl]
  exact ⟨g, c, rfl, by rw [← h1.2]; exact b2, by rw [← h1.1]; exact b4, by rw [← h4.2]; exact d2, by rw [← h4.1]; exact d4, g1⟩
set_option maxRecDepth 100000 in
set_option maxHeartbeats 4000000 in
theorem law05_awake (w : World) (h0 : Lay0 w) : Calls Tryz.prog 20 #[] w fun e w' => e = .returned (.bool true) ∧ Below w.heap.size w w' := by
  have hb0 := (Below.refl w.heap.size w).alloc (Nat.le_refl _) (.cells #[.string ⟨#[109, 97, 105, 110]⟩, .string ⟨#[47, 105, 110, 99, 108, 117, 100, 101, 47, 32, 34, 97, 34, 59, 32, 47, 32, 123, 32, 112, 59, 32, 125, 59]⟩, .string ⟨#[97]⟩, .string ⟨#[47, 32, 123, 32, 113, 59, 32, 125, 59]⟩] 46)
  have hH := Holds.new w #[.string ⟨#[109, 97, 105, 110]⟩, .string ⟨#[47, 105, 110, 99, 108, 117, 100, 101, 47, 32, 34, 97, 34, 59, 32, 47, 32, 123, 32, 112, 59, 32, 125, 59]⟩, .string ⟨#[97]⟩, .string ⟨#[47, 32, 123, 32, 113, 59, 32, 125, 59]⟩] 46
  generalize hw1 : w.alloc (.cells #[.string ⟨#[109, 97, 105, 110]⟩, .string ⟨#[47, 105, 110, 99, 108, 117, 100, 101, 47, 32, 34, 97, 34, 59, 32, 47, 32, 123, 32, 112, 59, 32, 125, 59]⟩, .string ⟨#[97]⟩, .string ⟨#[47, 32, 123, 32, 113, 59, 32, 125, 59]⟩] 46) = w1 at *
  have hF : FilesAt w1 (.slice (some ⟨w.heap.size, 0, none⟩) 2 2) exF := ⟨_, 2, rfl, by decide, by decide, fun _ => ⟨w.heap.size, 0, rfl, hH.lt, fun i hi => by
    have h2 : i = 0 ∨ i = 1 := by have : exF.length = 2 := rfl; omega
    rcases h2 with rfl | rfl
    · exact ⟨hH.cell 0, hH.cell 1⟩
    · exact ⟨hH.cell 2, hH.cell 3⟩⟩⟩
  have hpos := lay_pos h0
  have hrd := inc_Load _ exF ⟨#[109, 97, 105, 110]⟩ w1 hF (fun g e => by have e2 : w.heap.size = g := Option.some.inj e; have := hH.lt; omega) (by decide) (by decide) (h0.keeps (Keeps.of_fresh hb0 (fun _ => False)) (fun e => e)) (by have := hH.lt; omega)
  obtain ⟨x1, x2, x3, x4⟩ := exF_load
  unfold LoadPost at hrd
  generalize LoadT exF ⟨#[109, 97, 105, 110]⟩ = R at *
  obtain ⟨D, ⟨p1, p2, p3⟩, er⟩ := R
  simp only [Prod.mk.injEq] at x1 x2 x3 x4
  obtain ⟨⟨rfl, rfl, rfl⟩, rfl⟩ := x1
  unfold posAgg at hrd
  have HRD := Lib.hid hrd
  have HB0 := Lib.hid hb0
  have HW1 := Lib.hid hw1
  clear h0 hF hrd hH hb0 hw1
  go_enter Tryz.func20, Tryz.ntmps20
  go_wp2_with fail
  rw [HW1.out]
  refine (by exact HRD.out : Calls _ _ _ _ _).mono ?_
  rintro e w2 ⟨v, rfl, hD, hb⟩
  obtain ⟨g, c, rfl, e1, e2, e3, e4, g1⟩ := ex5_read hD x2 x3 x4
  have HBF := Lib.hid ((HB0.out.trans (hb.mono HB0.out.size)).alloc (by have := hb.size; have := HB0.out.size; omega) (.cells #[.int .i64 0, .int .i64 0, .int .i64 0] 27))
  clear hD x2 x3 x4 hb
  go_wp2_with fail
  go_ret
  exact ⟨rfl, HBF.out⟩
end Go.Proofs.YtofhcgbihonckaaGreat

namespace Go.Proofs.YtofhcgbihonckaaGreat
open Go.RowKit

theorem fdCells_file : ∀ (l : List FdT) (vs : List Value) (i : Nat) (y : Int), vs.length = l.length → ∀ h : i < l.length, (fdCells l vs).set (i * 7 + 4) (.int .i64 y) = fdCells (l.set i (y, l[i].2)) vs
  | x :: xs, u :: us, 0, y, _, _ => by simp [fdCells]
  | x :: xs, u :: us, i + 1, y, h, hi => by
    rw [show (i + 1) * 7 + 4 = (i * 7 + 4) + 7 from by omega]
    simp only [fdCells, List.set_cons_succ, List.cons.injEq, true_and, List.getElem_cons_succ]
    exact fdCells_file xs us i y (by simpa using h) (by simpa using hi)
/-- Files in a row, loaded. -/
theorem load_row {F : List FileT} {wx : World} {base : Nat} {r : Value} (hr : wx.ownsRow base 46 2 r F.length (fileCells F)) (hl : F.length ≤ 1000) (hT : ∀ f ∈ F, f.text.size ≤ maxLen ∧ f.name.size ≤ maxLen) (lay : Lay0 wx) (m : ByteArray) :
    Calls Tryz.prog 19 #[r, .string m] wx (LoadPost F m wx) :=
  inc_Load r F m wx (files_row hr) (fun _ hg => (hr.lt _ hg).2) hl hT lay (lay_pos lay)
/-- Definitions whose files go down by one. -/
def downL (D : List FdT) (i : Nat) : List FdT := D.take i ++ (D.drop i).map (shF 1)
theorem downL_len (D : List FdT) (i : Nat) : (downL D i).length = D.length := by simp [downL]; omega
theorem downL_at (D : List FdT) (i : Nat) (h : i < D.length) : (downL D i)[i]'(by rw [downL_len]; exact h) = shF 1 D[i] := by
  unfold downL
  rw [List.getElem_append_right (by rw [List.length_take]; omega)]
  simp [Nat.min_eq_left (Nat.le_of_lt h)]
theorem downL_next (D : List FdT) (i : Nat) (h : i < D.length) : (downL D i).set i (D[i].1, D[i].2) = downL D (i + 1) := by
  unfold downL
  rw [List.drop_eq_getElem_cons h, List.map_cons, List.set_append_right _ _ (by rw [List.length_take]; omega), List.length_take, Nat.min_eq_left (Nat.le_of_lt h), Nat.sub_self, List.set_cons_zero, List.take_succ_eq_append_getElem h, List.append_assoc]
  rfl
theorem downL_end (D : List FdT) : downL D D.length = D := by simp [downL]
set_option maxRecDepth 100000 in
set_option maxHeartbeats 2000000 in
theorem incOthers_walk (a : Option Addr) (len cap : Nat) (w : World) (hi : IntsIn w a len) (hlc : len ≤ cap) (hcap : cap ≤ maxLen) (hnil : a = none → len = 0 ∧ cap = 0) (h0 : Lay0 w) :
    Calls Tryz.prog 5 #[.slice a len cap] w fun e w' => e = .returned (.bool true) ∧ Below w.heap.size w w' := by
  have LL := Lib.hid (fun (wx : World) (hb : Below w.heap.size w wx) => h0.keeps (Keeps.of_fresh hb (fun _ => False)) (fun e => e))
  clear h0
  go_enter Tryz.func5, Tryz.ntmps5
  go_wp2_with fail
  refine (mk_New a len cap _ hi hlc hcap hnil).mono ?_
  rintro e w1 ⟨tb, rfl, hT1, hb1⟩
  have htb := hT1.1
  go_wp2_with fail
  refine (grow_Files w.heap.size tb w1 hT1).mono ?_
  rintro e w2 ⟨vF, F, rfl, hrow2, hF5, hl1, hl5, hT2, hK2⟩
  have hb2 : Below w.heap.size w w2 := hb1.trans (hK2.below hb1.size (by intro i hi e; omega))
  obtain ⟨fa, fc, rfl⟩ := row_slice hrow2
  have hws1 := hb1.size
  go_wp2_with fail
  refine (mk_Odd w.heap.size tb w2 hT2).mono ?_
  rintro e w3 ⟨o, rfl, ho, hT3, hK3⟩
  have hb3 : Below w.heap.size w w3 := hb2.trans (hK3.below hb2.size (by intro i hi e; omega))
  have hrow3 := ownsRow_keeps hrow2 hK3 (by
    intro g hg e
    subst e
    obtain ⟨_, _, cur, hc⟩ := own_lt hrow2 hg
    obtain ⟨_, _, _, _, _, hH, _⟩ := hT2
    have := hc.symm.trans hH
    injection this with this; injection this with _ this; exact absurd this (by decide))
  obtain ⟨hP1, hP2, hP3, hP4⟩ := others_plain hF5 hl1 hl5 o
  have hbd := load_bounds F ⟨#[109, 97, 105, 110]⟩
  have hsz := five_sizes hF5 hl5
  have hfno := load_files F ⟨#[109, 97, 105, 110]⟩ (by omega)
  have hos : o.size ≤ maxLen := by have := odd_sizeF o ho; unfold maxLen; omega
  have hb4 := hb3.alloc hb3.size (.cells #[.string ⟨#[111, 116, 104, 101, 114]⟩, .string o] 46)
  have hO4 := Holds.new w3 #[.string ⟨#[111, 116, 104, 101, 114]⟩, .string o] 46
  have hrow4 := World.ownsRow.alloc hrow3 (.cells #[.string ⟨#[111, 116, 104, 101, 114]⟩, .string o] 46)
  have HROW4 := Lib.hid (row_base hrow4 (Nat.zero_le _))
  have HO4 := Lib.hid hO4
  have HB4 := Lib.hid hb4
  have HSZ := Lib.hid hsz
  have HBD := Lib.hid hbd
  have HFNO := Lib.hid hfno
  have hw3 := hb3.size
  clear hT1 hT2 hT3 hb1 hb2 hb3 hK2 hK3 hrow2 hrow3 hrow4 hO4 hb4 hsz hbd hfno
  go_upto_region 4 with fail
  generalize w3.alloc (.cells #[.string ⟨#[111, 116, 104, 101, 114]⟩, .string o] 46) = w4 at *
  have HL1 := Lib.hid (load_row HROW4.out (by omega) HSZ.out (LL.out _ HB4.out) ⟨#[109, 97, 105, 110]⟩)
  have HL2 := Lib.hid (fun (wx : World) (hb : Below w.heap.size w wx) (r : Value) (base : Nat) (hr : wx.ownsRow base 46 2 r (F.length + 1) (fileCells (F ++ [⟨⟨#[111, 116, 104, 101, 114]⟩, o⟩]))) => load_row (F := F ++ [⟨⟨#[111, 116, 104, 101, 114]⟩, o⟩]) (by rw [List.length_append]; exact hr) (by simp; omega) (fun f hf => by
    rcases List.mem_append.1 hf with hf | hf
    · exact HSZ.out f hf
    · simp only [List.mem_singleton] at hf; subst hf; exact ⟨hos, by show (⟨#[111, 116, 104, 101, 114]⟩ : ByteArray).size ≤ maxLen; decide⟩) (LL.out _ hb) ⟨#[109, 97, 105, 110]⟩)
  have HL3 := Lib.hid (fun (wx : World) (hb : Below w.heap.size w wx) (r : Value) (base : Nat) (hr : wx.ownsRow base 46 2 r (1 + F.length) (fileCells (⟨⟨#[111, 116, 104, 101, 114]⟩, o⟩ :: F))) => load_row (F := ⟨⟨#[111, 116, 104, 101, 114]⟩, o⟩ :: F) (by rw [List.length_cons, Nat.add_comm]; exact hr) (by simp; omega) (fun f hf => by
    rcases List.mem_cons.1 hf with hf | hf
    · subst hf; exact ⟨hos, by show (⟨#[111, 116, 104, 101, 114]⟩ : ByteArray).size ≤ maxLen; decide⟩
    · exact HSZ.out f hf) (LL.out _ hb) ⟨#[109, 97, 105, 110]⟩)
  unfold LoadPost at HL1 HL2 HL3
  rw [hP1] at HL2
  rw [hP2, hP3] at HL3
  generalize LoadT F ⟨#[109, 97, 105, 110]⟩ = R at *
  generalize (LoadT (⟨⟨#[111, 116, 104, 101, 114]⟩, o⟩ :: F) ⟨#[109, 97, 105, 110]⟩).2.1 = pos3 at *
  obtain ⟨D, ⟨p1, p2, p3⟩, er⟩ := R
  obtain ⟨r1, r2, r3⟩ := pos3
  simp only at HL1 HL2 HL3 hP4 HBD HFNO
  unfold posAgg at HL1 HL2 HL3
  have HP4 := Lib.hid hP4
  clear hP1 hP2 hP3 hP4
  obtain ⟨hD1, hD2⟩ := HBD.out
  have HD2 := Lib.hid hD2
  clear hD2
  go_wp2_with fail
  refine (by exact HL1.out : Calls _ _ _ _ _).mono ?_
  rintro e w5 ⟨v1, rfl, hv1, hb5⟩
  obtain ⟨va, vc, rfl⟩ := hv1.slice
  have hb6 := hb5.alloc hb5.size (.cells #[.int .i64 p1, .int .i64 p2, .int .i64 p3] 27)
  have hP6 := Holds.new w5 #[.int .i64 p1, .int .i64 p2, .int .i64 p3] 27
  have HV1 := Lib.hid (hv1.new ((Below.refl w5.heap.size w5).alloc (Nat.le_refl _) (.cells #[.int .i64 p1, .int .i64 p2, .int .i64 p3] 27)))
  have HP6 := Lib.hid hP6
  have HB6 := Lib.hid (HB4.out.trans (hb6.mono HB4.out.size))
  have HROW6 := Lib.hid (ownsRow_keeps HROW4.out (Keeps.of_fresh hb6 (fun _ => False)) (fun _ _ e => e))
  have HO6 := Lib.hid (HO4.out.keeps (Keeps.of_fresh hb6 (fun _ => False)) (fun e => e))
  have h45 := hb5.size
  have hs6 : (w5.alloc (.cells #[.int .i64 p1, .int .i64 p2, .int .i64 p3] 27)).heap.size = w5.heap.size + 1 := by simp
  have HS6 := Lib.hid hs6
  clear hv1 hb5 hb6 hP6 hs6
  go_upto_region 5 with fail
  generalize w5.alloc (.cells #[.int .i64 p1, .int .i64 p2, .int .i64 p3] 27) = w6 at *
  refine wp_region_any (by kernel_rfl) ?_
  refine wpAny_ops (ops' := inoOps) (by kernel_rfl) ?_
  refine ino_region5 (.slice fa F.length fc) ⟨#[111, 116, 104, 101, 114]⟩ o p1 p2 p3 er F D w3.heap.size w6 _ _ rfl (by omega) HROW6.out HO6.out (fun wx hb r hr => HL2.out wx (HB6.out.trans (hb.mono HB6.out.size)) r _ hr) rfl rfl (by exact (Below.refl w6.heap.size w6).drew) ?_
  intro c w7 v2 g2 hsb hb7 c9 c10 c11 hv2 hP7 hg2
  obtain ⟨y30, y31, y32, y33, y34, y35, y36, y29, y37, y38, y39, y10, y9, y11, hc⟩ := hsb.ex [30, 31, 32, 33, 34, 35, 36, 29, 37, 38, 39, 10, 9, 11] (by kernel_rfl)
  subst hc
  simp only [List.setIfInBounds_toArray, List.set_cons_zero, List.set_cons_succ] at c9 c10 c11 ⊢
  have e9 : y9 = v2 := c9
  have e10 : y10 = .pointer (some ⟨g2, 0, none⟩) := c10
  have e11 : y11 = .int .i64 er := c11
  subst e9 e10 e11
  obtain ⟨va2, vc2, rfl⟩ := hv2.slice
  have HV2 := Lib.hid hv2
  have HP7 := Lib.hid hP7
  have HB7 := Lib.hid (HB6.out.trans (hb7.mono HB6.out.size))
  have HB67 := Lib.hid hb7
  have HV17 := Lib.hid (HV1.out.new hb7)
  have HP17 := Lib.hid (HP6.out.keeps (Keeps.of_fresh hb7 (fun _ => False)) (fun e => e))
  have HO7 := Lib.hid (HO6.out.keeps (Keeps.of_fresh hb7 (fun _ => False)) (fun e => e))
  have HROW7 := Lib.hid (ownsRow_keeps HROW6.out (Keeps.of_fresh hb7 (fun _ => False)) (fun _ _ e => e))
  have hs67 := hb7.size
  clear hv2 hP7 hb7 c9 c10 c11 hsb HROW6 HO6 HV1 HP6 HROW4 HO4 HL1 HL2
  have o0 : w7.cell? ⟨w3.heap.size, 0, none⟩ = some (.string ⟨#[111, 116, 104, 101, 114]⟩) := HO7.out.cell 0
  have o1 : w7.cell? ⟨w3.heap.size, 1, none⟩ = some (.string o) := HO7.out.cell 1
  have ol := HO7.out.lt
  obtain ⟨y0, hyn, hy0, hy1, hy2⟩ := info_parts infoFile9
  have hbx := (Below.refl w7.heap.size w7).alloc (Nat.le_refl _) (.cells #[.string ⟨#[111, 116, 104, 101, 114]⟩, .string o] 46)
  have HRM := Lib.hid (row_made (w := w7) (B := w7.heap.size) (base := w7.heap.size) (e := 46) (size := 2) (n := 1) (cs := #[.string ⟨#[111, 116, 104, 101, 114]⟩, .string o]) rfl (Nat.le_refl _) rfl (by omega))
  have HSR := Lib.hid (row_srcF (ownsRow_keeps HROW7.out (Keeps.of_fresh hbx (fun _ => False)) (fun _ _ e => e)))
  have HBX := Lib.hid hbx
  clear hbx
  go_wp2_with (at_builtin; refine wpList_append_src _ rfl _ _ 42 42 rfl w7.heap.size 46 y0 _ 2 32 Tryz.underlying42 hyn hy0 hy1 hy2 rfl (.slice (some ⟨w7.heap.size, 0, none⟩) 1 1) 1 _ rfl (by exact HRM.out) (.slice fa F.length fc) rfl F.length (fileCells F) (by exact HSR.out) (by unfold maxLen; omega) (by omega) (by simp) ?_)
  intro v8 w8 hown8 hgrow8 _
  have hb8 := HBX.out.grown hgrow8 (by simp) (fun q hq => by have : w7.heap.size = q := Option.some.inj hq; omega)
  have HB8 := Lib.hid (HB7.out.trans (hb8.mono HB7.out.size))
  have HL8 := Lib.hid (HL3.out w8 HB8.out v8 w7.heap.size (by simpa [fileCells] using hown8))
  have HV18 := Lib.hid (HV17.out.new hb8)
  have HV28 := Lib.hid (HV2.out.new hb8)
  have HP18 := Lib.hid (HP17.out.keeps (Keeps.of_fresh hb8 (fun _ => False)) (fun e => e))
  have HP28 := Lib.hid (HP7.out.keeps (Keeps.of_fresh hb8 (fun _ => False)) (fun e => e))
  have hs78 := hb8.size
  have HN1 := Lib.hid (show ∀ g, Value.ownBlock (.slice va D.length vc) = some g → g < w8.heap.size from fun g hg => by obtain ⟨_, _, hr, _⟩ := HV18.out; exact (own_lt hr hg).1)
  clear hown8 hgrow8 hb8 HRM HSR HBX HV17 HV2 HP17 HP7 HO7 HROW7 o0 o1 ol HL3
  go_wp2_with fail
  refine (by exact HL8.out : Calls _ _ _ _ _).mono ?_
  rintro e w9 ⟨v3, rfl, hv3, hb9⟩
  obtain ⟨va3, vc3, rfl⟩ := hv3.slice
  have hb10 := hb9.alloc hb9.size (.cells #[.int .i64 r1, .int .i64 r2, .int .i64 r3] 27)
  have hbn := (Below.refl w9.heap.size w9).alloc (Nat.le_refl _) (.cells #[.int .i64 r1, .int .i64 r2, .int .i64 r3] 27)
  have HP3 := Lib.hid (Holds.new w9 #[.int .i64 r1, .int .i64 r2, .int .i64 r3] 27)
  have HV3 := Lib.hid (hv3.new hbn)
  have HV19 := Lib.hid (HV18.out.new hb10)
  have HV29 := Lib.hid (HV28.out.new hb10)
  have HP19 := Lib.hid (HP18.out.keeps (Keeps.of_fresh hb10 (fun _ => False)) (fun e => e))
  have HP29 := Lib.hid (HP28.out.keeps (Keeps.of_fresh hb10 (fun _ => False)) (fun e => e))
  have HB10 := Lib.hid (HB8.out.trans (hb10.mono HB8.out.size))
  have h89 := hb9.size
  have hs10 : (w9.alloc (.cells #[.int .i64 r1, .int .i64 r2, .int .i64 r3] 27)).heap.size = w9.heap.size + 1 := by simp
  have HS10 := Lib.hid hs10
  have hdl : (D.map (shF 1)).length = D.length := by simp
  rw [hdl] at *
  clear hv3 hb9 hb10 hbn HV18 HV28 HP18 HP28 HL8 hs10
  go_upto_region 7 with fail
  generalize w9.alloc (.cells #[.int .i64 r1, .int .i64 r2, .int .i64 r3] 27) = w10 at *
  have HSAME := Lib.hid (r4_Same _ _ D D w10 HV19.out.in HV29.out.in (by omega) (fun x hx => ⟨by have := (HD2.out x hx).1; omega, fun p hp => by have := (HD2.out x hx).2 p hp; omega⟩))
  obtain ⟨a0, a1, a2, -, -, -, al⟩ := three HP19.out
  obtain ⟨c0, c1, c2, -, -, -, cl⟩ := three HP29.out
  go_wp2_with fail
  refine (by exact HSAME.out : Calls _ _ _ _ _).mono ?_
  rintro e w11 ⟨bb, rfl, hbb, hb11⟩
  obtain rfl : bb = true := hbb.2 (by first | trivial | rfl)
  have HV111 := Lib.hid (HV19.out.new hb11)
  have HV311 := Lib.hid (HV3.out.new hb11)
  have HP111 := Lib.hid (HP19.out.keeps (Keeps.of_fresh hb11 (fun _ => False)) (fun e => e))
  have HP311 := Lib.hid (HP3.out.keeps (Keeps.of_fresh hb11 (fun _ => False)) (fun e => e))
  have HB11 := Lib.hid (HB10.out.trans (hb11.mono HB10.out.size))
  have h1011 := hb11.size
  clear hbb hb11 a0 a1 a2 al c0 c1 c2 cl HV19 HV29 HV3 HP19 HP29 HP3
  go_upto_region 9 with fail
  rcases HP4.out with ⟨hr, hp0⟩ | ⟨hp, hr⟩
  case' inl =>
    simp only [Prod.mk.injEq] at hr
    obtain ⟨rfl, rfl, rfl⟩ := hr
    obtain ⟨q1, rfl⟩ : ∃ x : Int, x = p1 := ⟨_, rfl⟩
    obtain ⟨hp00, hp01⟩ := hp0
    obtain ⟨b0, b1, b2, f0, f1, f2, bl⟩ := three HP311.out
    have hz : (q1 + 1 == 0) = false := by rw [beq_eq_false_iff_ne]; omega
    have hP3n := HP311.out.set 0 (.int .i64 q1)
    have kq : Keeps (· = w9.heap.size) w11 (w11.setCell ⟨w9.heap.size, 0, none⟩ (.int .i64 q1)) := (Keeps.refl (· = w9.heap.size) w11).setCell (p := ⟨w9.heap.size, 0, none⟩) (.inr rfl) _
    have HP312 := Lib.hid (show Holds (w11.setCell ⟨w9.heap.size, 0, none⟩ (.int .i64 q1)) w9.heap.size #[.int .i64 q1, .int .i64 r2, .int .i64 r3] 27 from hP3n)
    have HP112 := Lib.hid (HP111.out.keeps kq (fun e => by have e2 : w5.heap.size = w9.heap.size := e; have := HS6.out; omega))
    have HV112 := Lib.hid (HV111.out.side kq (fun b e => by cases e; exact ⟨_, HP311.out⟩))
    have HV312 := Lib.hid (HV311.out.side kq (fun b e => by cases e; exact ⟨_, HP311.out⟩))
    have HB12 := Lib.hid (HB11.out.setCell (p := ⟨w9.heap.size, 0, none⟩) (by have := HB8.out.size; show w.heap.size ≤ w9.heap.size; omega) (.int .i64 q1))
    have h12 : w11.heap.size ≤ (w11.setCell ⟨w9.heap.size, 0, none⟩ (.int .i64 q1)).heap.size := kq.size
    clear hP3n kq
    go_upto_region 11 with fail
    generalize w11.setCell ⟨w9.heap.size, 0, none⟩ (.int .i64 q1) = w12 at *
    clear hz b0 b1 b2 f0 f1 f2 bl hp00 hp01
  case' inr =>
    simp only [Prod.mk.injEq] at hr hp
    obtain ⟨e1, e2, e3⟩ := hp
    obtain rfl : r1 = p1 := by omega
    obtain rfl : r2 = p2 := by omega
    obtain rfl : r3 = p3 := by omega
    obtain ⟨q1, rfl⟩ : ∃ x : Int, x = r1 := ⟨_, rfl⟩
    obtain ⟨b0, b1, b2, f0, f1, f2, bl⟩ := three HP311.out
    have hz1 : (q1 == 0) = true := by rw [beq_iff_eq]; exact e1
    have hz2 : (r2 == 0) = true := by rw [beq_iff_eq]; exact e2
    have hz3 : (r3 == 0) = true := by rw [beq_iff_eq]; exact e3
    have HP312 := HP311
    have HP112 := HP111
    have HV112 := HV111
    have HV312 := HV311
    have HB12 := HB11
    have h12 : w11.heap.size ≤ w11.heap.size := Nat.le_refl _
    clear e1 e2 e3 hr
    go_upto_region 11 with fail
    obtain ⟨w12, rfl⟩ : ∃ x : World, x = w11 := ⟨_, rfl⟩
    clear hz1 hz2 hz3 b0 b1 b2 f0 f1 f2 bl
  all_goals
    have hdl : (D.map (shF 1)).length = D.length := by simp
    have hwb := HB12.out.size
    obtain ⟨us0, hu0, hur0, hup0⟩ := HV312.out
    have HV3D := Lib.hid (show FdsRow w12 w8.heap.size (.slice va3 D.length vc3) (downL D 0) from by
      have := HV312.out
      simpa [downL] using this)
    have hS3 : ∀ (g : Nat) (wz : World) (l : List FdT), FdsRow wz w8.heap.size (.slice va3 D.length vc3) l → Value.ownBlock (.slice va3 D.length vc3) = some g → ∀ (cs : Array Value) (t : TypeId), Holds wz g cs t → t = 34 := by
      intro g wz l hv hg cs t hc
      obtain ⟨_, _, hr, _⟩ := hv
      obtain ⟨_, _, cur, hb⟩ := own_lt hr hg
      have := hb.symm.trans hc
      injection this with this; injection this with _ this; exact this.symm
    have HS3 := Lib.hid hS3
    clear hS3 hu0 hur0 hup0
    go_wp2_with fail
    go_loopg [84] D.length (fun f x wr => ∃ i : Nat, x = .int .i64 i ∧ i ≤ D.length ∧ D.length ≤ i + f ∧ FdsRow wr w8.heap.size (.slice va3 D.length vc3) (downL D i) ∧ Keeps (fun g => Value.ownBlock (.slice va3 D.length vc3) = some g) w12 wr)
    case atStart => exact ⟨0, rfl, by omega, by omega, HV3D.out, Keeps.refl _ _⟩
    case round =>
      obtain ⟨i, rfl, hi1, hi2, hv, hk⟩ := hrel
      by_cases hlt : i < D.length
      · obtain ⟨us, hul, hur, hup⟩ := id hv
        have hlen := downL_len D i
        obtain ⟨g3, cap3, e3, hg3, hgb3, hc3⟩ := row_read hur (by omega)
        rw [hlen] at e3
        cases e3
        have hat := fdCells_at (downL D i) us i (by omega) (by omega) hul
        rw [downL_at D i hlt] at hat
        have d4 : wr.cell? ⟨g3, i * 7 + 4, none⟩ = some (.int .i64 (D[i].1 + 1)) := (hc3 _ (by omega)).trans hat.2.2.2.2.1
        have df := fds_frozen (by rw [hlen] at hur; exact hur) (i * 7 + 4)
        have hir : (i : Int) < (D.length : Int) := by omega
        obtain ⟨hn0, hn1⟩ := HFNO.out D[i] (List.getElem_mem hlt)
        have HNX := Lib.hid (show FdsRow (wr.setCell ⟨g3, i * 7 + 4, none⟩ (.int .i64 D[i].1)) w8.heap.size (.slice (some ⟨g3, 0, none⟩) D.length vc3) (downL D (i + 1)) from by
          have hkk : Keeps (fun g => g = g3) wr (wr.setCell ⟨g3, i * 7 + 4, none⟩ (.int .i64 D[i].1)) := (Keeps.refl (fun g => g = g3) wr).setCell (p := ⟨g3, i * 7 + 4, none⟩) (.inr rfl) _
          rw [← downL_next D i hlt]
          refine ⟨us, by rw [List.length_set]; exact hul, ?_, fun k hk1 hk2 => ?_⟩
          · rw [List.length_set, hlen]
            rw [hlen] at hur
            have h9 := row_put hur (i * 7 + 4) (by omega) (.int .i64 D[i].1)
            rw [fdCells_file (downL D i) us i D[i].1 hul (by omega), downL_at D i hlt] at h9
            exact h9
          · rw [List.length_set] at hk1
            have hpk := (hup k hk1 hk2).keep2 hkk (fun b _ e cur => ⟨fun hc => absurd (HS3.out _ _ _ hv (by rw [e]; rfl) _ _ hc) (by decide), fun hc => absurd (HS3.out _ _ _ hv (by rw [e]; rfl) _ _ hc) (by decide)⟩)
            by_cases hki : k = i
            · subst hki
              rw [List.getElem_set_self]
              rw [downL_at D k hlt] at hpk
              exact hpk
            · rw [List.getElem_set_ne (fun e => hki e.symm)]
              exact hpk)
        have HKX := Lib.hid (hk.setCell (p := ⟨g3, i * 7 + 4, none⟩) (.inr rfl) (.int .i64 D[i].1))
        clear hv hk hur hup hat hc3
        generalize D[i] = dd at *
        go_wp2_with fail
        go_roundg (gk - 1)
        case measure => omega
        case rel => exact ⟨i + 1, by go_num, by omega, by omega, HNX.out, HKX.out⟩
      · obtain rfl : i = D.length := by omega
        rw [downL_end] at hv
        have HVF := Lib.hid hv
        have HPA := Lib.hid (HP112.out.keeps hk (fun e => absurd (HS3.out _ _ _ HV3D.out e _ _ HP112.out) (by decide)))
        have HPB := Lib.hid (HP312.out.keeps hk (fun e => absurd (HS3.out _ _ _ HV3D.out e _ _ HP312.out) (by decide)))
        have HVA := Lib.hid (HV112.out.keeps hk (fun g hg e => by
          have h1 := HN1.out g hg
          obtain ⟨_, _, hr, _⟩ := HV3D.out
          have h2 := (own_lt hr e).2.1
          omega) (fun b _ e cur => ⟨fun hc => absurd (HS3.out _ _ _ HV3D.out e _ _ hc) (by decide), fun hc => absurd (HS3.out _ _ _ HV3D.out e _ _ hc) (by decide)⟩))
        have HBZ := Lib.hid (HB12.out.trans (hk.below hwb (fun g hg e => by
          obtain ⟨_, _, hr, _⟩ := HV3D.out
          have h2 := (own_lt hr e).2.1
          have := HB8.out.size
          omega)))
        have HSAM2 := Lib.hid (r4_Same _ _ D D wr HVA.out.in HVF.out.in (by omega) (fun x hx => ⟨by have := (HD2.out x hx).1; omega, fun p hp => by have := (HD2.out x hx).2 p hp; omega⟩))
        obtain ⟨a0, a1, a2, -, -, -, al⟩ := three HPA.out
        obtain ⟨c0, c1, c2, -, -, -, cl⟩ := three HPB.out
        clear hv hk HP112 HP312 HV112 HV312
        go_wp2_with fail
        refine (by exact HSAM2.out : Calls _ _ _ _ _).mono ?_
        rintro e w14 ⟨bb, rfl, hbb, hb14⟩
        obtain rfl : bb = true := hbb.2 (by first | trivial | rfl)
        have HB14 := Lib.hid (HBZ.out.trans (hb14.mono HBZ.out.size))
        have HAW := Lib.hid (law05_awake w14 (LL.out _ HB14.out))
        clear hb14 hbb
        go_wp2_with fail
        refine (by exact HAW.out : Calls _ _ _ _ _).mono ?_
        rintro e w15 ⟨rfl, hb15⟩
        have HB15 := Lib.hid (HB14.out.trans (hb15.mono HB14.out.size))
        clear hb15
        go_wp2_with fail
        go_ret
        exact ⟨rfl, HB15.out⟩
end Go.Proofs.YtofhcgbihonckaaGreat
