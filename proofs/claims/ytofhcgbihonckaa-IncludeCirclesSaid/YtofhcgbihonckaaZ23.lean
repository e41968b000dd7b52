/- Contracts of include: load. | Contracts of include: the loading of all files that a main file needs. | Contracts of include: Load. | The law IncludeCircles: the walk. -/
import Derived.Test.YtofhcgbihonckaaZ22
import Derived.Deep.LoopGhost
import Derived.StillTailTactics
import Derived.Deep.DeepCutAuto
import Derived.Deep.CutBlock
import Derived.Deep.CutRange
import Derived.Test.YtofhcgbihonckaaZ9
import Derived.Test.YtofhcgbihonckaaZ16
import Derived.Laws.IdiomStrings

set_option linter.unusedVariables false
set_option linter.unusedSimpArgs false
set_option linter.unusedSectionVars false

namespace Go.Proofs.Ytofhcgbihonckaa
open Go.RowKit Go.ChangeMaps

/-- Behind the noting of a name. -/
def LdN (lb mb base : Nat) (fv ov rv : Value) (names : List ByteArray) (w0 w : World) : Prop :=
  ∃ rv', Holds w lb (ldC fv mb ov rv') 96 ∧ w.ownsRow base 9 1 rv' names.length (strRow names) ∧ Keeps (fun i => i = lb ∨ rv.ownBlock = some i) w0 w ∧ (∀ g, rv'.ownBlock = some g → rv.ownBlock = some g ∨ w0.heap.size ≤ g)
/-- Where load stands ahead of its definition i. -/
def LdL (A : Nat → Prop) (lb mb base pb qb : Nat) (fv ov rv dv : Value) (F : List FileT) (opn2 : List Nat) (fuel before : Nat) (file : Int) (D : List DefT) (R : Lr) (w : World) (i : Nat) (outv : Value) (wr : World) : Prop :=
  ∃ ord giv out, LdW A lb mb base pb qb fv ov rv dv F opn2 file D before w outv ord giv out wr ∧ ldLoop (ldT F fuel opn2) F opn2 before ((tagT file D).drop i) ord giv out = R
theorem tagT_len (file : Int) (D : List DefT) : (tagT file D).length = D.length := by simp [tagT]
set_option maxRecDepth 100000 in
set_option maxHeartbeats 8000000 in
theorem inc_load_step (fuel : Nat) (hrec : LoadC fuel) : LoadC (fuel + 1) := by
  intro A lb mb base fv ov rv F opn ord giv file before w h hA hfl hF hT hgo hfn hgn hfu hbef hb1 lay
  have HREC := Lib.hid hrec
  have HA := Lib.hid hA
  have HGO := Lib.hid hgo
  have HGO2 := Lib.hid (show ∀ s, GivOk F (opn ++ [file]) (ord ++ [s]) giv from fun s => hgo.open1 hfl hfn hgn s)
  have hsh := hgo.short
  have hsh2 := (HGO2.out ⟨#[]⟩).short
  have horl := hgo.ord
  have hov0 := Lib.hid (show ∀ i, LdS lb mb ov rv i → base ≤ i from by
    rintro i (rfl | rfl | e | e)
    · exact h.lbb
    · exact h.mbb
    · exact (own_lt h.opn e).2.1
    · exact (own_lt h.ord e).2.1)
  have hol8 : ord.length ≤ 8 := by omega
  clear hrec hA hgo horl
  simp only [List.length_append, List.length_cons, List.length_nil] at hsh2
  obtain ⟨fa, fc, rfl, hf1, hf2, hfat⟩ := id h.files
  obtain ⟨fg, fo, rfl, hfg, hfc⟩ := hfat (by omega)
  obtain ⟨ra, rc, rfl⟩ := row_slice h.ord
  obtain ⟨n0, t0⟩ := hfc file hfl
  have hb0 := (Below.refl w.heap.size w).alloc (Nat.le_refl _) (.cells #[.int .i64 0, .int .i64 0, .int .i64 0] 24)
  have kb0 : Keeps (fun _ => False) w _ := Keeps.of_fresh hb0 _
  have hH0 := h.holds.keeps kb0 (fun e => e)
  have hP0 := Holds.new w #[.int .i64 0, .int .i64 0, .int .i64 0] 24
  have c0 : (w.alloc (.cells #[.int .i64 0, .int .i64 0, .int .i64 0] 24)).cell? ⟨lb, 0, none⟩ = some (.slice (some ⟨fg, fo, none⟩) F.length fc) := hH0.cell 0
  have c3 : (w.alloc (.cells #[.int .i64 0, .int .i64 0, .int .i64 0] 24)).cell? ⟨lb, 3, none⟩ = some (.slice ra ord.length rc) := hH0.cell 3
  have f3 := hH0.free 3
  have n1 := (hb0.cell (p := ⟨fg, fo + file * 2, none⟩) hfg).trans n0
  have t1 := (hb0.cell (p := ⟨fg, fo + file * 2 + 1, none⟩) hfg).trans t0
  have hro := ownsRow_keeps h.ord kb0 (fun _ _ e => e)
  have hll := h.holds.lt
  have hfr : (file : Int) < (F.length : Int) := by omega
  have H := Lib.hid h
  have HT := Lib.hid hT
  have HLAY := Lib.hid lay
  have HB0 := Lib.hid hb0
  have HH0 := Lib.hid hH0
  have HP0 := Lib.hid hP0
  have HRO := Lib.hid hro
  have hsb := h.size
  have hft := hT F[file] (List.getElem_mem hfl)
  have hgd : F.getD file ⟨⟨#[]⟩, ⟨#[]⟩⟩ = F[file] := by rw [List.getD_eq_getElem?_getD, List.getElem?_eq_getElem hfl]; rfl
  have hld : ldT F (fuel + 1) opn ord giv file before = (if (srcT F[file].text.data.toList file).2.2 ≠ 0 then .error ((srcT F[file].text.data.toList file).2.1, (srcT F[file].text.data.toList file).2.2) else
      match ldLoop (ldT F fuel (opn ++ [file])) F (opn ++ [file]) before (tagT file (srcT F[file].text.data.toList file).1) (ord ++ [F[file].name]) giv [] with
      | .error e => .error e
      | .ok (o, g, out) => .ok (o, g ++ [((file : Int), out)], out)) := by
    simp only [ldT]
    rw [hgd]
    rfl
  clear h hT lay hb0 kb0 hH0 hP0 hro hfat hfc n0 t0 hgd
  generalize F[file] = ff at *
  obtain ⟨nm, tx⟩ := ff
  simp only at n1 t1 hft hld
  have HLD := Lib.hid hld
  clear hld
  obtain ⟨i0, hin, hz0, hz1, hz2⟩ := info_parts infoStr9
  go_enter Try.func41, Try.ntmps41
  go_wp2_with fail
  obtain ⟨pb, hpb⟩ : ∃ pb, pb = w.heap.size := ⟨_, rfl⟩
  rw [← hpb] at HP0 HB0 ⊢
  have HPB := Lib.hid hpb
  have hbp : base ≤ pb := by omega
  have hlp : lb < pb := by omega
  have hfp : fg < pb := by omega
  have hs0 : (w.alloc (.cells #[.int .i64 0, .int .i64 0, .int .i64 0] 24)).heap.size = pb + 1 := by simp [hpb]
  clear hpb
  generalize w.alloc (.cells #[.int .i64 0, .int .i64 0, .int .i64 0] 24) = w0 at *
  have hlb0 : lb < w0.heap.size := by omega
  have hfg0 : fg < w0.heap.size := by omega
  have hbw0 : base ≤ w0.heap.size := by omega
  have HS0 := Lib.hid hs0
  clear hs0
  have hrl := fun g hg => (HRO.out.lt g hg).2
  have HRL := Lib.hid hrl
  clear hrl
  have hne : ∀ g, Value.ownBlock (.slice ra ord.length rc) = some g → g ≠ lb := fun g hg e => by subst e; exact owns_ne_holds HRO.out HH0.out (by decide) hg
  have HNE := Lib.hid hne
  clear hne
  go_cut [] from 20 to 36 (fun wx => LdN lb mb base (.slice (some ⟨fg, fo, none⟩) F.length fc) ov (.slice ra ord.length rc) (ord ++ [nm]) w0 wx)
  case first =>
    go_region_law (refine step_append_lies _ (by rfl) _ _ _ (by rfl) base 9 i0 _ 1 16 Try.underlying94 hin hz0 hz1 hz2 rfl (by omega) _ ord.length (strRow ord) (by rfl) ((HRO.out.alloc _).drew) ⟨w0.heap.size, 0, none⟩ 1 1 [.string nm] (by rfl) (by rfl) (World.news_of_block (cs := #[.string nm]) (t := 9) (fr := (0, 0)) (heap_alloc_new w0 _)) (by simp [Value.oneCell']) (by omega) (by unfold maxLen; omega) (by omega) (by simp; omega) (w0.heap.size + 1) (by simp) ?_; intro gg cap2 w1 hown1 hgrow1 hat1 hlt1; have hH1 := ((HH0.out.alloc _).drew).keeps (Keeps.of_grown hgrow1 (fun _ e => e)) (fun e => HNE.out _ e rfl); have q1 := hH1.free 3; have q2 : w1.cell? ⟨lb, 3, none⟩ = some (.slice ra ord.length rc) := hH1.cell 3; have q3 := hH1.lt)
    all_goals
      have hst := hH1.set 3 (.slice (some ⟨gg, 0, none⟩) (ord.length + 1) cap2)
      have hrow1 := row_set hown1 hH1 (by decide) 3 (.slice (some ⟨gg, 0, none⟩) (ord.length + 1) cap2)
      have hk1 : Keeps (fun i => i = lb ∨ Value.ownBlock (.slice ra ord.length rc) = some i) w0 (w1.setCell ⟨lb, 3, none⟩ (.slice (some ⟨gg, 0, none⟩) (ord.length + 1) cap2)) :=
        (((((Keeps.refl (fun _ => False) w0).alloc (.cells #[.string nm] 9)).drew).mono (S := fun i => i = lb ∨ Value.ownBlock (.slice ra ord.length rc) = some i) (fun _ _ e => e.elim)).trans (Keeps.of_grown hgrow1 (fun _ e => .inr e)) (fun _ _ e => e)).setCell (p := ⟨lb, 3, none⟩) (.inr (.inl rfl)) _
      have HF := Lib.hid (show LdN lb mb base (.slice (some ⟨fg, fo, none⟩) F.length fc) ov (.slice ra ord.length rc) (ord ++ [nm]) w0 (w1.setCell ⟨lb, 3, none⟩ (.slice (some ⟨gg, 0, none⟩) (ord.length + 1) cap2)) from
        ⟨.slice (some ⟨gg, 0, none⟩) (ord.length + 1) cap2, hst, by rw [List.length_append, show strRow (ord ++ [nm]) = strRow ord ++ [.string nm] from by simp [strRow]]; exact hrow1, hk1, fun g hg => by
          have e1 : gg = g := Option.some.inj hg
          rcases hat1 with e | e
          · exact .inl (by rw [e, e1])
          · exact .inr (by omega)⟩)
      clear hst hrow1 hk1 hown1 hgrow1 hat1 hH1 q1 q2
      go_wp2_with fail
      go_meet
      case rel => exact HF.out
  case rest =>
    obtain ⟨rv1, hH1, hr1, hk1, ho1⟩ := hcut
    have hfb : fg < base := H.out.low fg rfl
    have hnS : ¬ (fg = lb ∨ Value.ownBlock (.slice ra ord.length rc) = some fg) := by
      rintro (e | e)
      · have := H.out.lbb; omega
      · have := (H.out.ord.lt fg e).1; omega
    have d0 : wc.cell? ⟨lb, 0, none⟩ = some (.slice (some ⟨fg, fo, none⟩) F.length fc) := hH1.cell 0
    have dl := hH1.lt
    have dt := (hk1.cell (p := ⟨fg, fo + file * 2 + 1, none⟩) hfg0 hnS).trans t1
    have dfg : fg < wc.heap.size := Nat.lt_of_lt_of_le hfg0 hk1.size
    have hkw : Keeps (fun i => base ≤ i) w wc := ((Keeps.of_fresh (show Below w.heap.size w w0 from by rw [← HPB.out]; exact HB0.out) _)).trans (hk1.mono (fun i _ e => by
      rcases e with e | e
      · have := H.out.lbb; omega
      · exact (H.out.ord.lt i e).1)) (fun _ _ e => e)
    have hlay : Lay0 wc := HLAY.out.keeps hkw (fun e => by have e2 : base ≤ 0 := e; have : 0 = 0 := rfl; omega)
    have hrd := source_Read tx file wc hft.1 hlay
    unfold SrcPost at hrd
    have HRD := Lib.hid hrd
    have hdl0 := src_short tx.data.toList (file : Int)
    have HH1 := Lib.hid hH1
    have HR1 := Lib.hid hr1
    have HK1 := Lib.hid hk1
    have HO1 := Lib.hid ho1
    have HKW := Lib.hid hkw
    have hsz1 := hk1.size
    clear hrd hH1 hr1 hk1 ho1 hkw hlay hnS
    generalize srcT tx.data.toList file = ST at HRD HLD hdl0
    obtain ⟨D, ⟨p1, p2, p3⟩, er⟩ := ST
    go_wp2_with fail
    refine (by exact HRD.out : Calls _ _ _ _ _).mono ?_
    rintro e w2 ⟨dv, rfl, hD2, hb2⟩
    unfold posAgg
    have hP2 := HP0.out
    by_cases he : er = 0
    · subst he
      have hR : ldT F (fuel + 1) opn ord giv file before = (match ldLoop (ldT F fuel (opn ++ [file])) F (opn ++ [file]) before (tagT file D) (ord ++ [nm]) giv [] with
          | .error e => .error e
          | .ok (o, g, out) => .ok (o, g ++ [((file : Int), out)], out)) := by rw [HLD.out, if_neg (by simp)]
      have HR := Lib.hid hR
      clear hR
      obtain ⟨oa, oc, rfl⟩ := row_slice H.out.opn
      have HB2S := Lib.hid hb2.size
      have HQ3 := Lib.hid (Holds.new w2 #[.int .i64 p1, .int .i64 p2, .int .i64 p3] 24)
      have hdl : D.length ≤ 6001 := hdl0
      have hb3 := hb2.alloc hb2.size (.cells #[.int .i64 p1, .int .i64 p2, .int .i64 p3] 24)
      have k23 : Keeps (fun _ => False) wc (w2.alloc (.cells #[.int .i64 p1, .int .i64 p2, .int .i64 p3] 24)) := Keeps.of_fresh hb3 _
      have hH3 := HH1.out.keeps k23 (fun e => e)
      have e2 : (w2.alloc (.cells #[.int .i64 p1, .int .i64 p2, .int .i64 p3] 24)).cell? ⟨lb, 2, none⟩ = some (.slice oa opn.length oc) := hH3.cell 2
      have el := hH3.lt
      have hov1 := ownsRow_keeps (ownsRow_keeps H.out.opn (Keeps.of_fresh (show Below w.heap.size w w0 from by rw [← HPB.out]; exact HB0.out) (fun _ => False)) (fun _ _ e => e)) HK1.out (by
        intro g hg e
        rcases e with e | e
        · subst e; exact owns_ne_holds H.out.opn H.out.holds (by decide) hg
        · rcases rows_apart H.out.opn H.out.ord (by decide) with e4 | e4
          · rw [e4] at hg; cases hg
          · exact e4 (hg.trans e.symm))
      have hov3 := ownsRow_keeps hov1 k23 (fun _ _ e => e)
      obtain ⟨j0, hjn, hy0, hy1, hy2⟩ := info_parts infoInt9
      have HOV := Lib.hid hov3
      have HH3 := Lib.hid hH3
      have HD2 := Lib.hid (hD2.keeps (Keeps.of_fresh ((Below.refl w2.heap.size w2).alloc (Nat.le_refl _) (.cells #[.int .i64 p1, .int .i64 p2, .int .i64 p3] 24)) (fun _ => False)) (Apart3.nil _))
      have HB3 := Lib.hid hb3
      have hbw3 : base ≤ (w2.alloc (.cells #[.int .i64 p1, .int .i64 p2, .int .i64 p3] 24)).heap.size := by have := hb3.size; omega
      clear hov1 hov3 hH3 hb2 hb3 k23 hD2 hP2
      go_upto_region 5 with fail
      generalize w2.alloc (.cells #[.int .i64 p1, .int .i64 p2, .int .i64 p3] 24) = w3 at *
      go_wp2_with (at_builtin; refine wpList_append_src _ rfl _ _ 30 30 rfl base 3 j0 (.int .i64 0) 1 8 Try.underlying30 hjn hy0 hy1 hy2 rfl _ opn.length (natRow opn) rfl (by exact World.ownsRow.alloc HOV.out _) _ rfl 1 [.int .i64 (file : Int)] ?c1 ?c2 ?c3 ?c4 ?_)
      case c1 => exact Src.ofSlice _ Try.underlying30 _ 1 1 _ rfl (new_cells _ _ _ _ rfl _ rfl) (fun u hu => by simp at hu; rcases hu with rfl; rfl)
      case c2 => unfold maxLen; omega
      case c3 => omega
      case c4 => simp; omega
      intro v4 w4 hown4 hgrow4 hat4
      obtain ⟨va4, vc4, rfl⟩ := row_slice hown4
      have k4 : Keeps (fun i => Value.ownBlock (.slice oa opn.length oc) = some i) w3 w4 := ((Keeps.refl _ w3).alloc _).trans (Keeps.of_grown hgrow4 (fun i e => e)) (fun _ _ e => e)
      have hno : Value.ownBlock (.slice oa opn.length oc) ≠ some lb := owns_ne_holds HOV.out HH3.out (by decide)
      have hH4 := HH3.out.keeps k4 hno
      have s2 : w4.cell? ⟨lb, 2, none⟩ = some (.slice oa opn.length oc) := hH4.cell 2
      have s2f := hH4.free 2
      have s2l := hH4.lt
      have hH5 := hH4.set 2 (.slice va4 (opn.length + 1) vc4)
      have hrow5 := row_set hown4 hH4 (by decide) 2 (.slice va4 (opn.length + 1) vc4)
      have HH5 := Lib.hid hH5
      have HROW5 := Lib.hid hrow5
      have HK4 := Lib.hid (k4.mono (S := fun i => i = lb ∨ Value.ownBlock (.slice oa opn.length oc) = some i) (fun _ _ e => .inr e) |>.setCell (p := ⟨lb, 2, none⟩) (.inr (.inl rfl)) (.slice va4 (opn.length + 1) vc4))
      have HAT4 := Lib.hid hat4
      clear hown4 hgrow4 hat4 k4 hH4 hH5 hrow5 hno
      go_upto_region 6 with fail
      generalize w4.setCell ⟨lb, 2, none⟩ (.slice va4 (opn.length + 1) vc4) = w5 at *
      obtain ⟨da, dc, hdv⟩ := HD2.out.slice
      obtain ⟨R, hRl⟩ : ∃ R, R = ldLoop (ldT F fuel (opn ++ [file])) F (opn ++ [file]) before (tagT file D) (ord ++ [nm]) giv [] := ⟨_, rfl⟩
      have HRL2 := Lib.hid hRl
      have kw5 : Keeps (fun i => i = lb ∨ Value.ownBlock (.slice oa opn.length oc) = some i ∨ Value.ownBlock (.slice ra ord.length rc) = some i) w w5 := by
        refine ((((Keeps.of_fresh (show Below w.heap.size w w0 from by rw [← HPB.out]; exact HB0.out) _).trans HK1.out ?_).trans (Keeps.of_fresh HB3.out (fun _ => False)) (fun _ _ e => e.elim)).trans HK4.out ?_)
        · rintro i _ (e | e)
          · exact .inl e
          · exact .inr (.inr e)
        · rintro i _ (e | e)
          · exact .inl e
          · exact .inr (.inl e)
      have k35 := (Keeps.of_fresh HB3.out (fun i => i = lb ∨ Value.ownBlock (.slice oa opn.length oc) = some i)).trans HK4.out (fun _ _ e => e)
      have hs5 := kw5.size
      have hwc := HK1.out.size
      have h0s := HS0.out
      have hws := HPB.out
      have hqs := HB2S.out
      have hlbw := H.out.holds.lt
      obtain ⟨ow, -⟩ : (∀ g, Value.ownBlock (.slice oa opn.length oc) = some g → g < w.heap.size) ∧ True := ⟨fun g hg => (own_lt H.out.opn hg).1, trivial⟩
      have rw1 : ∀ g, Value.ownBlock (.slice ra ord.length rc) = some g → g < w.heap.size := fun g hg => (own_lt H.out.ord hg).1
      have hstart : LdL A lb mb base pb w2.heap.size (.slice (some ⟨fg, fo, none⟩) F.length fc) (.slice oa opn.length oc) (.slice ra ord.length rc) dv F (opn ++ [file]) fuel before file D R w 0 (.slice none 0 0) w5 := by
        have hl2 : (opn ++ [file]).length = opn.length + 1 := by simp
        have hr5 := ownsRow_keeps HR1.out k35 (by
          rintro g hg (e | e)
          · subst e
            exact owns_ne_holds HR1.out HH1.out (by decide) hg
          · rcases HO1.out g hg with e2 | e2
            · rcases rows_apart H.out.opn H.out.ord (by decide) with e4 | e4
              · rw [e4] at e; cases e
              · exact e4 (e.trans e2.symm)
            · have := ow g e; omega)
        have hLb := H.out.begin (opn2 := opn ++ [file]) (ord2 := ord ++ [nm]) kw5 HH5.out (by rw [hl2]; simpa [natRow] using HROW5.out) hr5
        have hP5 := ((HP0.out.keeps HK1.out (by
          rintro (e | e)
          · omega
          · have := rw1 _ e; omega)).keeps k35 (by
          rintro (e | e)
          · omega
          · have := ow _ e; omega))
        have hQ5 := HQ3.out.keeps HK4.out (by
          rintro (e | e)
          · omega
          · have := ow _ e; omega)
        have hD5 : DefsRow w5 wc.heap.size file dv D := HD2.out.keeps HK4.out (fun b hb e => by
          rcases e with rfl | e
          · exact ⟨_, _, HH3.out, by decide, by decide, by decide⟩
          · obtain ⟨_, _, cur, hc⟩ := own_lt HOV.out e
            exact ⟨_, _, hc, by decide, by decide, by decide⟩)
        refine ⟨ord ++ [nm], giv, [], ⟨⟨_, _, hLb, ?_, ?_⟩, FdsRow.nil _ _, ?_, ?_, hD5.fds.lower (by omega), hP5, ⟨p1, p2, p3, hQ5⟩, HGO2.out nm, kw5.mono ?_, ⟨by omega, by omega, by omega⟩, ?_⟩, ?_⟩
        · intro g hg
          rcases HAT4.out with e | e
          · exact .inl (e ▸ hg)
          · rw [e] at hg; cases hg; exact .inr (by have h9 := HB3.out.size; simp; omega)
        · intro g hg
          rcases HO1.out g hg with e | e
          · exact .inl e
          · exact .inr (by omega)
        · intro g hg; cases hg
        · simpa using hbef
        · intro i _ e
          rcases e with e | e | e
          · exact .inl e
          · exact .inr (.inr (.inl e))
          · exact .inr (.inr (.inr e))
        · intro g _ e; cases e
        · rw [List.drop_zero]; exact HRL2.out.symm
      subst hdv
      have HST := Lib.hid hstart
      clear hRl hstart kw5 k35 ow rw1 hws h0s
      clear c0 c3 f3 n1 t1 d0 dt
      go_wp2_with fail
      go_loopg [12, 67] (D.length) (fun f x12 x67 wr => ∃ i : Nat, x67 = .int .i64 i ∧ i ≤ D.length ∧ D.length ≤ i + f ∧ LdL A lb mb base pb w2.heap.size (.slice (some ⟨fg, fo, none⟩) F.length fc) (.slice oa opn.length oc) (.slice ra ord.length rc) (.slice da D.length dc) F (opn ++ [file]) fuel before file D R w i x12 wr)
      case atStart => exact ⟨0, rfl, by omega, by omega, HST.out⟩
      case round =>
        obtain ⟨i, rfl, hi1, hi2, ord2, giv2, out, hW, hLo⟩ := hrel
        obtain ⟨va, vc, rfl⟩ := hW.row.slice
        have hwb := hW.keeps.size
        by_cases hlt : i < D.length
        · obtain ⟨g, cap, pv, e1, hg, hgb, d0, d1, d2, d3, d4, d5, d6, hpv⟩ := hW.defs.at i (by rw [tagT_len]; exact hlt)
          have ht : (tagT (file : Int) D)[i]'(by rw [tagT_len]; exact hlt) = ((file : Int), D[i]) := by simp [tagT]
          rw [ht] at d0 d1 d2 d4 d5 d6 hpv
          rw [tagT_len] at e1
          rw [tag_drop (file : Int) D i hlt] at hLo
          generalize D[i] = d at *
          simp only at d0 d1 d2 d4 d5 d6 hpv
          cases e1
          obtain ⟨dk, dl, dn, dps, dln, dcl⟩ := d
          simp only at d0 d1 d2 d4 d5 d6 hpv
          obtain ⟨pa, pc, rfl⟩ := hpv.slice
          have hir : (i : Int) < (D.length : Int) := by omega
          have hbl := ((Below.refl wr.heap.size wr).alloc (Nat.le_refl _) (.cells #[.int .i64 dk, .string dl, .string dn, .slice pa dps.length pc, .int .i64 (file : Int), .int .i64 dln, .int .i64 dcl] 38)).alloc (by simp) (.cells #[.int .i64 dk, .string dl, .string dn, .slice pa dps.length pc, .int .i64 (file : Int), .int .i64 dln, .int .i64 dcl] 38)
          have hWn := Lib.hid (hW.new1 hbl)
          have hE := Lib.hid ((Holds.new wr #[.int .i64 dk, .string dl, .string dn, .slice pa dps.length pc, .int .i64 (file : Int), .int .i64 dln, .int .i64 dcl] 38).alloc (.cells #[.int .i64 dk, .string dl, .string dn, .slice pa dps.length pc, .int .i64 (file : Int), .int .i64 dln, .int .i64 dcl] 38))
          have hM := Lib.hid (show FdsRow ((wr.alloc (.cells #[.int .i64 dk, .string dl, .string dn, .slice pa dps.length pc, .int .i64 (file : Int), .int .i64 dln, .int .i64 dcl] 38)).alloc (.cells #[.int .i64 dk, .string dl, .string dn, .slice pa dps.length pc, .int .i64 (file : Int), .int .i64 dln, .int .i64 dcl] 38)) base (.slice (some ⟨wr.heap.size + 1, 0, none⟩) 1 1) [((file : Int), ⟨dk, dl, dn, dps, dln, dcl⟩)] from
            ⟨[.slice pa dps.length pc], rfl, row_made (by simp) (by omega) rfl (by omega), fun k hk _ => by
              obtain rfl : k = 0 := by simp at hk; omega
              exact hpv.keep2 (Keeps.of_fresh hbl (fun _ => False)) (fun _ _ e => e.elim)⟩)
          have hMn := Lib.hid (show ∀ g, Value.ownBlock (.slice (some ⟨wr.heap.size + 1, 0, none⟩) 1 1) = some g → Value.ownBlock (.slice va out.length vc) ≠ some g from fun g hg e => by
            obtain ⟨_, _, hr, _⟩ := hW.row
            have h1 := (own_lt hr e).1
            have h2 : wr.heap.size + 1 = g := Option.some.inj hg
            omega)
          have HLO := Lib.hid hLo
          clear hpv hLo hbl hW ht
          go_upto_if 75 with fail
          generalize (wr.alloc (.cells #[.int .i64 dk, .string dl, .string dn, .slice pa dps.length pc, .int .i64 (file : Int), .int .i64 dln, .int .i64 dcl] 38)).alloc (.cells #[.int .i64 dk, .string dl, .string dn, .slice pa dps.length pc, .int .i64 (file : Int), .int .i64 dln, .int .i64 dcl] 38) = w7 at *
          refine wp_code (c' := ldIf 75) (by kernel_rfl) ?_
          refine ld_if75 A fuel lb mb base pb w2.heap.size wr.heap.size before file (.slice (some ⟨fg, fo, none⟩) F.length fc) (.slice oa opn.length oc) (.slice ra ord.length rc) _ _ _ (.slice pa dps.length pc) F (opn ++ [file]) ord2 giv2 D out ⟨dk, dl, dn, dps, dln, dcl⟩ ((tagT (file : Int) D).drop (i + 1)) w w7 HREC hF HT (by simp; omega) hb1 hsb HLAY HA hov0 hWn hE hM hMn ?_ ?_
          · refine Lib.hid ?_
            intro x11 x15 x16 x17 x18 x75 x76 x77 x78 x79 x80 x81 x84 x85 x86 x87 x88 x89 x92 x93 x94 x95 x96 x97 x98 x99 x100 x101 x102 x103 x104 x105 x106 x107 x108 x109 x110 x111 x112 x113 x114 x115 x118 wx ord3 giv3 m hW3 hmr hmn hml heq3
            obtain ⟨ma, mc, rfl⟩ := hmr.slice
            have hlen3 := hW3.len
            have hroom : (6000 : Int) - (before : Int) - (out.length : Int) = (roomT before out : Int) := by unfold roomT; omega
            have hrb : roomT before out ≤ 6000 := by unfold roomT; omega
            have hml2 : (m.length : Int) ≤ 6000 := by omega
            by_cases hro : roomT before out < m.length
            · obtain ⟨g2, cap2, pv2, e3, hg2, _, _, _, _, _, q4, q5, q6, _⟩ := hmr.at (roomT before out) hro
              have hgd : m.getD (roomT before out) zeroD = m[roomT before out] := by rw [List.getD_eq_getElem?_getD, List.getElem?_eq_getElem hro]; rfl
              have heq4 := Lib.hid ((HLO.out.symm.trans heq3).trans (if_pos hro))
              rw [hgd] at heq4
              have hrr : ((roomT before out : Nat) : Int) < (m.length : Int) := by omega
              have hpz := hW3.pos
              have hk3 := hW3.keeps
              have hlow := hW3.low.1
              clear hW3 hmr hgd heq3
              generalize m[roomT before out] = x at *
              obtain ⟨xf, xd⟩ := x
              simp only at q4 q5 q6
              cases e3
              generalize roomT before out = rm at *
              obtain ⟨b0, b1, b2, z0, z1, z2, zl⟩ := three hpz
              have hfin := (((hpz.set 0 (.int .i64 xf)).set 1 (.int .i64 xd.line)).set 2 (.int .i64 xd.col)).drew
              obtain ⟨r0, r1, r2, -⟩ := three (show Holds _ pb #[.int .i64 xf, .int .i64 xd.line, .int .i64 xd.col] 24 from hfin)
              have hkf := Lib.hid (((hk3.setCell (p := ⟨pb, 0, none⟩) (.inl hlow) (.int .i64 xf)).setCell (p := ⟨pb, 1, none⟩) (.inl hlow) (.int .i64 xd.line)).setCell (p := ⟨pb, 2, none⟩) (.inl hlow) (.int .i64 xd.col)).drew
              clear hfin hpz hk3
              go_wp2_with fail
              go_region
              all_goals
                go_wp2_with fail
                exact bodyPost_ret (v := .tuple #[.slice none 0 0, .agg #[.int .i64 xf, .int .i64 xd.line, .int .i64 xd.col], .int .i64 3]) (by simp [results, Try.results41, go_sem, r0, r1, r2]) rfl ⟨hkf.out, by rw [HR.out, ← HRL2.out, heq4.out]; rfl⟩
            · obtain ⟨vs, us, hown, hsrc, happ⟩ := hW3.app hsb hmr (by omega)
              have HOWN := Lib.hid hown
              have HSRC := Lib.hid hsrc
              have HAPP := Lib.hid happ
              obtain ⟨y0, hyn, hy0, hy1, hy2⟩ := info_parts infoDef9
              have hro2 : ((roomT before out : Nat) : Int) < (m.length : Int) → False := by omega
              have hb9 : base ≤ wx.heap.size := by have := hW3.keeps.size; omega
              clear hown hsrc happ hW3 hmr
              generalize roomT before out = rm at *
              go_upto_region 26 with fail
              go_wp2_with (at_builtin; refine wpList_append_src _ rfl _ _ 22 22 rfl base 38 y0 _ 7 88 Try.underlying22 hyn hy0 hy1 hy2 rfl _ out.length (fdCells out vs) rfl (by exact HOWN.out) _ rfl m.length (fdCells m us) (by exact HSRC.out) ?c5 ?c6 ?c7 ?_)
              case c5 => unfold maxLen; omega
              case c6 => omega
              case c7 => omega
              intro v9 w9 hown9 hgrow9 hat9
              have HW9 := Lib.hid (HAPP.out v9 w9 hown9 hgrow9 hat9)
              clear hown9 hgrow9 hat9
              go_wp2_with fail
              go_roundg (gk - 1)
              case measure => omega
              case rel => exact ⟨i + 1, by go_num, by omega, by omega, ord3, giv3, out ++ m, HW9.out, by have h9 := heq3.symm.trans HLO.out; rw [if_neg hro] at h9; exact h9⟩
          · refine Lib.hid ?_
            intro c wx p er h6 h7 h8 hH hK heq3
            obtain ⟨r0, r1, r2, -⟩ := three hH
            obtain ⟨p1', p2', p3'⟩ := p
            have heq4 := HLO.out.symm.trans heq3
            exact bodyPost_ret (v := .tuple #[.slice none 0 0, .agg #[.int .i64 p1', .int .i64 p2', .int .i64 p3'], .int .i64 er]) (by simp [results, Try.results41, go_sem, h6, h7, h8, r0, r1, r2]) rfl ⟨hK, by rw [HR.out, ← HRL2.out, heq4]; rfl⟩
        · obtain rfl : i = D.length := by omega
          have hLo2 : (.ok (ord2, giv2, out) : Lr) = R := by rw [← hLo, tag_end]; rfl
          have HLO := Lib.hid hLo2
          obtain ⟨gg, oc2, rv2, hH9, hoc1, hoc2, hoc3, hfin⟩ := hW.fin HA.out hF hsb
          have HFIN := Lib.hid hfin
          have l2 : wr.cell? ⟨lb, 2, none⟩ = some (.slice (some ⟨gg, 0, none⟩) (opn.length + 1) oc2) := hH9.cell 2
          have lf2 := hH9.free 2
          have ll := hH9.lt
          have hH10 := Lib.hid ((hH9.set 2 (.slice (some ⟨gg, 0, none⟩) opn.length oc2)).drew)
          have hk10 := Lib.hid (((Keeps.refl (· = lb) wr).setCell (p := ⟨lb, 2, none⟩) (.inr rfl) (.slice (some ⟨gg, 0, none⟩) opn.length oc2)).drew)
          have HLOWP := Lib.hid hW.low.1
          have HNEW := Lib.hid hW.new
          clear hW hLo hLo2 hH9 hfin
          go_wp2_with fail
          go_region
          all_goals
            generalize (wr.setCell ⟨lb, 2, none⟩ (.slice (some ⟨gg, 0, none⟩) opn.length oc2)).drew = w6 at *
            obtain ⟨o, hrun, hLd, hrow, hpz, hkk, hT3, hT4⟩ := HFIN.out w6 hk10.out hH10.out
            have m1 : w6.cell? ⟨lb, 1, none⟩ = some (.map (some mb)) := hH10.out.cell 1
            have ml := hH10.out.lt
            have HLD3 := Lib.hid hLd
            have HROW3 := Lib.hid hrow
            have HPZ3 := Lib.hid hpz
            have HKK3 := Lib.hid hkk
            have HT3 := Lib.hid hT3
            have HT4 := Lib.hid hT4
            clear hLd hrow hpz hkk hT3 hT4
            go_upto_region 30 with fail
            generalize setBlock w6 mb o = w8 at *
            have hlowp := HLOWP.out
            obtain ⟨b0, b1, b2, z0, z1, z2, zl⟩ := three HPZ3.out
            have hfin := (((HPZ3.out.set 0 (.int .i64 0)).set 1 (.int .i64 0)).set 2 (.int .i64 0))
            obtain ⟨r0, r1, r2, -⟩ := three (show Holds _ pb #[.int .i64 0, .int .i64 0, .int .i64 0] 24 from hfin)
            have kq : Keeps (· = pb) w8 (((w8.setCell ⟨pb, 0, none⟩ (.int .i64 0)).setCell ⟨pb, 1, none⟩ (.int .i64 0)).setCell ⟨pb, 2, none⟩ (.int .i64 0)) := (((Keeps.refl (· = pb) w8).setCell (p := ⟨pb, 0, none⟩) (.inr rfl) _).setCell (p := ⟨pb, 1, none⟩) (.inr rfl) _).setCell (p := ⟨pb, 2, none⟩) (.inr rfl) _
            have hS : ∀ b, b = pb → base ≤ b ∧ ∃ cs, Holds w8 b cs 24 := by
              rintro b rfl
              exact ⟨hbp, _, HPZ3.out⟩
            have HFINAL := Lib.hid (show LdPost A lb mb base (.slice (some ⟨fg, fo, none⟩) F.length fc) (.slice oa opn.length oc) (.slice ra ord.length rc) F opn (ldT F (fuel + 1) opn ord giv file before) w (.returned (.tuple #[.slice va out.length vc, .agg #[.int .i64 0, .int .i64 0, .int .i64 0], .int .i64 0])) (((w8.setCell ⟨pb, 0, none⟩ (.int .i64 0)).setCell ⟨pb, 1, none⟩ (.int .i64 0)).setCell ⟨pb, 2, none⟩ (.int .i64 0)) from by
              refine ⟨HKK3.out.trans kq (fun i hi e => by subst e; exact absurd hi (by omega)), ?_⟩
              rw [HR.out, ← HRL2.out, ← HLO.out]
              exact ⟨_, _, _, rfl, HROW3.out.side kq (fun b e => (hS b e).2), HLD3.out.side kq hS, HNEW.out, HT3.out, HT4.out⟩)
            clear kq hS hfin
            go_wp2_with fail
            exact bodyPost_ret (v := .tuple #[.slice va out.length vc, .agg #[.int .i64 0, .int .i64 0, .int .i64 0], .int .i64 0]) (by simp [results, Try.results41, go_sem, r0, r1, r2]) rfl HFINAL.out
    · have he' : (er == 0) = false := by simpa using he
      have hR : ldT F (fuel + 1) opn ord giv file before = .error ((p1, p2, p3), er) := by rw [HLD.out, if_pos (by simpa using he)]
      have HR := Lib.hid hR
      clear hR he
      have hPc := HP0.out.keeps HK1.out (by
        rintro (e | e)
        · omega
        · exact owns_ne_holds HRO.out HP0.out (by decide) e)
      have hP3 := (hPc.keeps (Keeps.of_fresh hb2 (fun _ => False)) (fun e => e)).alloc (.cells #[.int .i64 p1, .int .i64 p2, .int .i64 p3] 24)
      have hQ3 := Holds.new w2 #[.int .i64 p1, .int .i64 p2, .int .i64 p3] 24
      obtain ⟨a0, a1, a2, -, -, -, ql⟩ := three hQ3
      obtain ⟨b0, b1, b2, g0, g1, g2, gl⟩ := three hP3
      have hfin := (((hP3.set 0 (.int .i64 p1)).set 1 (.int .i64 p2)).set 2 (.int .i64 p3)).drew
      obtain ⟨q0, q1, q2, -⟩ := three (show Holds _ pb #[.int .i64 p1, .int .i64 p2, .int .i64 p3] 24 from hfin)
      have kS0 : Keeps (LdS lb mb ov (.slice ra ord.length rc)) w wc := (Keeps.of_fresh (show Below w.heap.size w w0 from by rw [← HPB.out]; exact HB0.out) _).trans HK1.out (fun _ _ e => by
        rcases e with e | e
        · exact .inl e
        · exact .inr (.inr (.inr e)))
      have hpw : w.heap.size ≤ pb := by have := HPB.out; omega
      have hkf := (((((kS0.trans (Keeps.of_fresh hb2 (fun _ => False)) (fun _ _ e => e.elim)).alloc (.cells #[.int .i64 p1, .int .i64 p2, .int .i64 p3] 24)).setCell (p := ⟨pb, 0, none⟩) (.inl hpw) (.int .i64 p1)).setCell (p := ⟨pb, 1, none⟩) (.inl hpw) (.int .i64 p2)).setCell (p := ⟨pb, 2, none⟩) (.inl hpw) (.int .i64 p3)).drew
      have HKF := Lib.hid hkf
      clear hfin hkf hPc hP3 hQ3 hP2 hD2 hb2
      go_wp2_with fail
      go_region
      all_goals
        go_wp2_with fail
        exact bodyPost_ret (v := .tuple #[.slice none 0 0, .agg #[.int .i64 p1, .int .i64 p2, .int .i64 p3], .int .i64 er]) (by simp [results, Try.results41, go_sem, q0, q1, q2]) rfl ⟨HKF.out, by rw [HR.out]; rfl⟩
theorem inc_load : ∀ fuel, LoadC fuel
  | 0 => fun A lb mb base fv ov rv F opn ord giv file before w _ _ _ _ _ hg _ _ hfu => by have := hg.short; omega
  | fuel + 1 => inc_load_step fuel (inc_load fuel)
end Go.Proofs.Ytofhcgbihonckaa

namespace Go.Proofs.Ytofhcgbihonckaa
open Go.RowKit Go.ChangeMaps

theorem findI_any (F : List FileT) (s : ByteArray) : decide (0 ≤ findI F s) = F.any (fun g => decide (g.name = s)) := by
  unfold findI
  rw [Bool.eq_iff_iff, decide_eq_true_eq, List.any_eq_true]
  cases h : findF F s with
  | none =>
    unfold findF at h
    rw [List.findIdx?_eq_none_iff] at h
    constructor
    · intro e; exact absurd e (by simp)
    · rintro ⟨g, hg, e⟩; rw [h g hg] at e; cases e
  | some k =>
    constructor
    · intro _
      unfold findF at h
      obtain ⟨hk, h1, _⟩ := List.findIdx?_eq_some_iff_getElem.1 h
      exact ⟨F[k], List.getElem_mem hk, h1⟩
    · intro _; simp
/-- What the loading of a main file leaves. -/
def Ld0Post (fv : Value) (R : Lr) (w : World) (e : Ending) (w' : World) : Prop :=
  Below w.heap.size w w' ∧ match R with
  | .error (p, er) => ∃ x, e = .returned (.tuple #[.pointer x, .slice none 0 0, posAgg p, .int .i64 er])
  | .ok (ord, _, out) => ∃ lb mb v ov rv, e = .returned (.tuple #[.pointer (some ⟨lb, 0, none⟩), v, posAgg (0, 0, 0), .int .i64 0]) ∧ FdsRow w' w.heap.size v out ∧ Holds w' lb (ldC fv mb ov rv) 96 ∧ w'.ownsRow w.heap.size 9 1 rv ord.length (strRow ord)
set_option maxRecDepth 100000 in
set_option maxHeartbeats 8000000 in
theorem inc_load0 (fv : Value) (F : List FileT) (main : ByteArray) (w : World) (hF : FilesAt w fv F) (hlow : ∀ g, fv.ownBlock = some g → g < w.heap.size) (hl : F.length ≤ 1000) (hT : ∀ f ∈ F, f.text.size ≤ maxLen ∧ f.name.size ≤ maxLen) (lay : Lay0 w) (hw0 : 0 < w.heap.size) :
    Calls Try.prog 20 #[fv, .string main] w (Ld0Post fv (loadT F main) w) := by
  obtain ⟨a, cap, rfl, h1, h2, h3⟩ := id hF
  have hb0 := (Below.refl w.heap.size w).alloc (Nat.le_refl _) (.cells #[.int .i64 0, .int .i64 0, .int .i64 0] 24)
  have hP0 := Lib.hid (Holds.new w #[.int .i64 0, .int .i64 0, .int .i64 0] 24)
  have HF0 := Lib.hid (hF.new hb0)
  have HB0 := Lib.hid hb0
  have HLOW := Lib.hid hlow
  have HT := Lib.hid hT
  have HLAY := Lib.hid lay
  have hsz0 : (w.alloc (.cells #[.int .i64 0, .int .i64 0, .int .i64 0] 24)).heap.size = w.heap.size + 1 := by simp
  obtain ⟨R, hR⟩ : ∃ R, R = loadT F main := ⟨_, rfl⟩
  have HR := Lib.hid hR
  rw [← hR]
  have hF0 := Lib.hid hF
  clear hF hlow hT lay h3 hb0 hR
  have hmm := fun wx => run_makeMap (P := Try.prog) 93 wx
  go_enter Try.func20, Try.ntmps20
  go_upto_region 1 with fail
  generalize w.alloc (.cells #[.int .i64 0, .int .i64 0, .int .i64 0] 24) = w1 at *
  by_cases h8 : 8 < F.length
  · have h8' : (8 : Int) < (F.length : Int) := by omega
    obtain ⟨b0, b1, b2, z0, z1, z2, zl⟩ := three hP0.out
    have hfin := ((hP0.out.set 0 (.int .i64 0)).set 1 (.int .i64 0)).set 2 (.int .i64 0)
    obtain ⟨r0, r1, r2, -⟩ := three (show Holds _ w.heap.size #[.int .i64 0, .int .i64 0, .int .i64 0] 24 from hfin)
    have hb9 := Lib.hid (((HB0.out.setCell (p := ⟨w.heap.size, 0, none⟩) (Nat.le_refl _) (.int .i64 0)).setCell (p := ⟨w.heap.size, 1, none⟩) (Nat.le_refl _) (.int .i64 0)).setCell (p := ⟨w.heap.size, 2, none⟩) (Nat.le_refl _) (.int .i64 0))
    have HE : Hid (R = .error ((0, 0, 0), 3)) := Lib.hid (by rw [HR.out]; unfold loadT; rw [if_pos h8])
    clear hfin
    go_wp2_with fail
    exact bodyPost_ret (v := .tuple #[.pointer none, .slice none 0 0, .agg #[.int .i64 0, .int .i64 0, .int .i64 0], .int .i64 3]) (by simp [results, Try.results20, go_sem, r0, r1, r2]) rfl ⟨hb9.out, by rw [HE.out]; exact ⟨none, rfl⟩⟩
  · have hle : F.length ≤ 8 := by omega
    have HFW := hF0
    clear h8
    go_wp2_with fail
    go_loopg [21] (F.length) (fun f x wr => ∃ i : Nat, x = .int .i64 i ∧ i ≤ F.length ∧ F.length ≤ i + f ∧ Hid (dupF (F.take i) (F.drop i) = dupF [] F) ∧ Below w.heap.size w wr ∧ Holds wr w.heap.size #[.int .i64 0, .int .i64 0, .int .i64 0] 24)
    case atStart => exact ⟨0, rfl, by omega, by omega, Lib.hid (by rw [List.take_zero, List.drop_zero]), HB0.out, hP0.out⟩
    case round =>
      obtain ⟨i, rfl, hi1, hi2, hd, hB, hP⟩ := hrel
      have HB := Lib.hid hB
      have HP := Lib.hid hP
      clear hB hP
      have hFr := HFW.out.new HB.out
      by_cases hlt : i < F.length
      · obtain ⟨a', cap', e, _, _, h3⟩ := id hFr
        cases e
        obtain ⟨fg, fo, rfl, hfg, hfc⟩ := h3 (by omega)
        obtain ⟨n0, n1⟩ := hfc i hlt
        have hdr : F.drop i = F[i] :: F.drop (i + 1) := List.drop_eq_getElem_cons hlt
        have htk : F.take (i + 1) = F.take i ++ [F[i]] := List.take_succ_eq_append_getElem hlt
        generalize F[i] = f0 at *
        obtain ⟨n, t⟩ := f0
        simp only at n0 n1
        have hir : (i : Int) < (F.length : Int) := by omega
        have hb1 := (Below.refl wr.heap.size wr).alloc (Nat.le_refl _) (.cells #[.string n, .string t] 48)
        have hsb := Holds.new wr #[.string n, .string t] 48
        have hcf := files_ContainsFunc wr.heap.size n (.slice (some ⟨fg, fo, none⟩) i cap) (F.take i) _ ((hFr.new hb1).pre i hi1) (hsb.cell 0) hsb.lt (by rw [List.length_take]; omega)
        rw [findI_any] at hcf
        have HB1 := Lib.hid (HB.out.trans (hb1.mono HB.out.size))
        have HP1 := Lib.hid (HP.out.alloc (.cells #[.string n, .string t] 48))
        have HDR := Lib.hid hdr
        have HTK := Lib.hid htk
        have hwsz := HB.out.size
        clear hfc h3 hFr hb1 hsb hdr htk
        cases hdd : (F.take i).any (fun g => decide (g.name = n)) with
        | true =>
          rw [hdd] at hcf
          have HCF := Lib.hid hcf
          have HE : Hid (R = .error ((0, 0, 0), 5)) := Lib.hid (by
            rw [HR.out]; unfold loadT
            rw [if_neg (by omega), if_pos]
            rw [← hd.out, HDR.out]
            simp only [dupF, hdd, Bool.true_or])
          clear hcf hdd
          go_wp2_with fail
          refine (by exact HCF.out : Calls _ _ _ _ _).mono ?_
          rintro e w2 ⟨rfl, hb2⟩
          have HP2 := Lib.hid (HP1.out.keeps (Keeps.of_fresh hb2 (fun _ => False)) (fun e => e))
          have HB2 := Lib.hid (HB1.out.trans (hb2.mono HB1.out.size))
          clear hb2
          go_upto_region 7 with fail
          obtain ⟨b0, b1, b2, z0, z1, z2, zl⟩ := three HP2.out
          have hfin := ((HP2.out.set 0 (.int .i64 0)).set 1 (.int .i64 0)).set 2 (.int .i64 0)
          obtain ⟨r0, r1, r2, -⟩ := three (show Holds _ w.heap.size #[.int .i64 0, .int .i64 0, .int .i64 0] 24 from hfin)
          have hb9 := Lib.hid (((HB2.out.setCell (p := ⟨w.heap.size, 0, none⟩) (Nat.le_refl _) (.int .i64 0)).setCell (p := ⟨w.heap.size, 1, none⟩) (Nat.le_refl _) (.int .i64 0)).setCell (p := ⟨w.heap.size, 2, none⟩) (Nat.le_refl _) (.int .i64 0))
          clear hfin
          go_wp2_with fail
          exact bodyPost_ret (v := .tuple #[.pointer none, .slice none 0 0, .agg #[.int .i64 0, .int .i64 0, .int .i64 0], .int .i64 5]) (by simp [results, Try.results20, go_sem, r0, r1, r2]) rfl ⟨hb9.out, by rw [HE.out]; exact ⟨none, rfl⟩⟩
        | false =>
          rw [hdd] at hcf
          have HCF := Lib.hid hcf
          have HD2 : Hid (dupF (F.take (i + 1)) (F.drop (i + 1)) = dupF [] F) := Lib.hid (by
            rw [← hd.out, HDR.out, HTK.out]
            simp only [dupF, hdd, Bool.false_or])
          clear hcf hdd
          go_wp2_with fail
          refine (by exact HCF.out : Calls _ _ _ _ _).mono ?_
          rintro e w2 ⟨rfl, hb2⟩
          have HP2 := Lib.hid (HP1.out.keeps (Keeps.of_fresh hb2 (fun _ => False)) (fun e => e))
          have HB2 := Lib.hid (HB1.out.trans (hb2.mono HB1.out.size))
          clear hb2
          go_wp2_with fail
          go_roundg (gk - 1)
          case measure => omega
          case rel => exact ⟨i + 1, by go_num, by omega, by omega, HD2, HB2.out, HP2.out⟩
      · obtain rfl : i = F.length := by omega
        have hdup : dupF [] F = false := by rw [← hd.out, List.drop_length]; rfl
        clear hd
        have hb1 := ((Below.refl wr.heap.size wr).alloc (Nat.le_refl _) (.map #[] 0)).alloc (by simp) (.cells #[.slice a F.length cap, .map (some wr.heap.size), .slice none 0 0, .slice none 0 0] 96)
        have HFN := Lib.hid (hFr.new hb1)
        have HB1 := Lib.hid (HB.out.trans (hb1.mono HB.out.size))
        have HP1 := Lib.hid (HP.out.keeps (Keeps.of_fresh hb1 (fun _ => False)) (fun e => e))
        have HL1 := Lib.hid (Holds.newAt (w := wr.alloc (.map #[] 0)) (B := wr.heap.size + 1) (by simp) #[.slice a F.length cap, .map (some wr.heap.size), .slice none 0 0, .slice none 0 0] 96)
        have HJ1 := Lib.hid ((RowsJ.new wr).keeps ((Keeps.refl (fun _ => False) _).alloc (.cells #[.slice a F.length cap, .map (some wr.heap.size), .slice none 0 0, .slice none 0 0] 96)) (fun e => e))
        have hwsz := HB.out.size
        have hs2 : ((wr.alloc (.map #[] 0)).alloc (.cells #[.slice a F.length cap, .map (some wr.heap.size), .slice none 0 0, .slice none 0 0] 96)).heap.size = wr.heap.size + 2 := by simp
        have HS2 := Lib.hid hs2
        clear hb1 hFr hs2
        go_upto_region 10 with fail
        generalize (wr.alloc (.map #[] 0)).alloc (.cells #[.slice a F.length cap, .map (some wr.heap.size), .slice none 0 0, .slice none 0 0] 96) = w2 at *
        have hlb : w.heap.size < wr.heap.size + 1 := by omega
        have hLd : LdAt (fun _ => False) w2 (wr.heap.size + 1) wr.heap.size w.heap.size (.slice a F.length cap) (.slice none 0 0) (.slice none 0 0) F [] [] [] :=
          ⟨HL1.out, HFN.out, HLOW.out, World.ownsRow_nil _ _ _ _, World.ownsRow_nil _ _ _ _, ⟨[], HJ1.out, rfl, fun i h => by cases h⟩, by omega, hwsz, by have := HS2.out; omega⟩
        have hfd := inc_find (wr.heap.size + 1) wr.heap.size (.slice a F.length cap) (.slice none 0 0) (.slice none 0 0) F main w2 hLd.holds hLd.files hl
        have HLD := Lib.hid hLd
        clear hLd
        cases hf : findF F main with
        | none =>
          rw [show findI F main = -1 from by unfold findI; rw [hf]] at hfd
          have HFD := Lib.hid hfd
          have HE : Hid (R = .error ((0, 0, 0), 4)) := Lib.hid (by
            rw [HR.out]; unfold loadT
            rw [if_neg (by omega), if_neg (by rw [hdup]; simp), hf])
          clear hfd hf
          go_wp2_with fail
          refine (by exact HFD.out : Calls _ _ _ _ _).mono ?_
          rintro e w3 ⟨rfl, hb2⟩
          have HP2 := Lib.hid (HP1.out.keeps (Keeps.of_fresh hb2 (fun _ => False)) (fun e => e))
          have HB2 := Lib.hid (HB1.out.trans (hb2.mono HB1.out.size))
          clear hb2
          go_upto_region 12 with fail
          obtain ⟨b0, b1, b2, z0, z1, z2, zl⟩ := three HP2.out
          have hfin := ((HP2.out.set 0 (.int .i64 0)).set 1 (.int .i64 0)).set 2 (.int .i64 0)
          obtain ⟨r0, r1, r2, -⟩ := three (show Holds _ w.heap.size #[.int .i64 0, .int .i64 0, .int .i64 0] 24 from hfin)
          have hb9 := Lib.hid (((HB2.out.setCell (p := ⟨w.heap.size, 0, none⟩) (Nat.le_refl _) (.int .i64 0)).setCell (p := ⟨w.heap.size, 1, none⟩) (Nat.le_refl _) (.int .i64 0)).setCell (p := ⟨w.heap.size, 2, none⟩) (Nat.le_refl _) (.int .i64 0))
          clear hfin
          go_wp2_with fail
          exact bodyPost_ret (v := .tuple #[.pointer none, .slice none 0 0, .agg #[.int .i64 0, .int .i64 0, .int .i64 0], .int .i64 4]) (by simp [results, Try.results20, go_sem, r0, r1, r2]) rfl ⟨hb9.out, by rw [HE.out]; exact ⟨none, rfl⟩⟩
        | some k =>
          rw [show findI F main = (k : Int) from by unfold findI; rw [hf]] at hfd
          have HFD := Lib.hid hfd
          have HE : Hid (R = ldT F (F.length + 1) [] [] [] k 0) := Lib.hid (by
            rw [HR.out]; unfold loadT
            rw [if_neg (by omega), if_neg (by rw [hdup]; simp), hf])
          have hkl := findF_lt hf
          clear hfd hf
          go_wp2_with fail
          refine (by exact HFD.out : Calls _ _ _ _ _).mono ?_
          rintro e w3 ⟨rfl, hb2⟩
          have HP2 := Lib.hid (HP1.out.keeps (Keeps.of_fresh hb2 (fun _ => False)) (fun e => e))
          have HB2 := Lib.hid (HB1.out.trans (hb2.mono HB1.out.size))
          have HLD2 := Lib.hid (HLD.out.new hb2)
          have hld := inc_load (F.length + 1) (fun _ => False) _ _ _ _ _ _ F [] [] [] k 0 w3 HLD2.out (fun g e => e.elim) hkl hle HT.out (givOk_nil F) (by simp) rfl (by simp) (by omega) hw0 (HLAY.out.keeps (Keeps.of_fresh HB2.out (fun _ => False)) (fun e => e))
          rw [← HE.out] at hld
          have HLOAD := Lib.hid hld
          clear hb2 hld
          go_wp2_with fail
          refine (by exact HLOAD.out : Calls _ _ _ _ _).mono ?_
          rintro e w4 ⟨hk4, hres⟩
          have hP4 := HLD2.out.pos hk4 HP2.out
          have hB4 : Below w.heap.size w w4 := HB2.out.trans (hk4.below HB2.out.size (fun i hi e => by
            rcases e with e | e | e | e
            · omega
            · omega
            · cases e
            · cases e))
          cases hRR : R with
          | error x =>
            obtain ⟨⟨p1, p2, p3⟩, er⟩ := x
            rw [hRR] at hres
            simp only at hres
            subst hres
            unfold posAgg
            have hPz := hP4
            have hP3 := hPz.alloc (.cells #[.int .i64 p1, .int .i64 p2, .int .i64 p3] 24)
            have hQ3 := Holds.new w4 #[.int .i64 p1, .int .i64 p2, .int .i64 p3] 24
            obtain ⟨a0, a1, a2, -, -, -, ql⟩ := three hQ3
            obtain ⟨b0, b1, b2, g0, g1, g2, gl⟩ := three hP3
            have hfin := (((hP3.set 0 (.int .i64 p1)).set 1 (.int .i64 p2)).set 2 (.int .i64 p3)).drew
            obtain ⟨q0, q1, q2, -⟩ := three (show Holds _ w.heap.size #[.int .i64 p1, .int .i64 p2, .int .i64 p3] 24 from hfin)
            have hb9 := Lib.hid ((((hB4.alloc hB4.size (.cells #[.int .i64 p1, .int .i64 p2, .int .i64 p3] 24)).setCell (p := ⟨w.heap.size, 0, none⟩) (Nat.le_refl _) (.int .i64 p1)).setCell (p := ⟨w.heap.size, 1, none⟩) (Nat.le_refl _) (.int .i64 p2)).setCell (p := ⟨w.heap.size, 2, none⟩) (Nat.le_refl _) (.int .i64 p3)).drew
            have HRR := Lib.hid hRR
            clear hfin hPz hP4 hP3 hQ3 hk4 hB4 hRR
            go_wp2_with fail
            go_region
            all_goals
              go_wp2_with fail
              exact bodyPost_ret (v := .tuple #[.pointer (some ⟨wr.heap.size + 1, 0, none⟩), .slice none 0 0, .agg #[.int .i64 p1, .int .i64 p2, .int .i64 p3], .int .i64 er]) (by simp [results, Try.results20, go_sem, q0, q1, q2]) rfl ⟨hb9.out, by first | exact ⟨_, rfl⟩ | (rw [HRR.out]; exact ⟨_, rfl⟩)⟩
          | ok x =>
            obtain ⟨ord9, giv9, out9⟩ := x
            rw [hRR] at hres
            obtain ⟨v, ov9, rv9, rfl, hrow, hL9, _, _, _⟩ := hres
            obtain ⟨v1, v2, rfl⟩ := hrow.slice
            unfold posAgg
            have hP3 := hP4.alloc (.cells #[.int .i64 0, .int .i64 0, .int .i64 0] 24)
            have hQ3 := Holds.new w4 #[.int .i64 0, .int .i64 0, .int .i64 0] 24
            obtain ⟨a0, a1, a2, -, -, -, ql⟩ := three hQ3
            obtain ⟨b0, b1, b2, g0, g1, g2, gl⟩ := three hP3
            have hfin := (((hP3.set 0 (.int .i64 0)).set 1 (.int .i64 0)).set 2 (.int .i64 0)).drew
            obtain ⟨q0, q1, q2, -⟩ := three (show Holds _ w.heap.size #[.int .i64 0, .int .i64 0, .int .i64 0] 24 from hfin)
            have hb9 := Lib.hid ((((hB4.alloc hB4.size (.cells #[.int .i64 0, .int .i64 0, .int .i64 0] 24)).setCell (p := ⟨w.heap.size, 0, none⟩) (Nat.le_refl _) (.int .i64 0)).setCell (p := ⟨w.heap.size, 1, none⟩) (Nat.le_refl _) (.int .i64 0)).setCell (p := ⟨w.heap.size, 2, none⟩) (Nat.le_refl _) (.int .i64 0)).drew
            have kq := (((((Keeps.refl (· = w.heap.size) w4).alloc (.cells #[.int .i64 0, .int .i64 0, .int .i64 0] 24)).setCell (p := ⟨w.heap.size, 0, none⟩) (.inr rfl) (.int .i64 0)).setCell (p := ⟨w.heap.size, 1, none⟩) (.inr rfl) (.int .i64 0)).setCell (p := ⟨w.heap.size, 2, none⟩) (.inr rfl) (.int .i64 0)).drew
            have hS : ∀ b, b = w.heap.size → w.heap.size ≤ b ∧ ∃ cs, Holds w4 b cs 24 := by
              rintro b rfl
              exact ⟨Nat.le_refl _, _, hP4⟩
            have HROW := Lib.hid (hrow.side kq (fun b e => (hS b e).2))
            have HL10 := Lib.hid (hL9.side kq hS)
            have HRR := Lib.hid hRR
            clear hfin hP4 hP3 hQ3 hk4 hB4 hRR hrow hL9 kq hS
            go_wp2_with fail
            go_region
            all_goals
              go_wp2_with fail
              exact bodyPost_ret (v := .tuple #[.pointer (some ⟨wr.heap.size + 1, 0, none⟩), .slice v1 out9.length v2, .agg #[.int .i64 0, .int .i64 0, .int .i64 0], .int .i64 0]) (by simp [results, Try.results20, go_sem, q0, q1, q2]) rfl ⟨hb9.out, by rw [HRR.out]; exact ⟨_, _, _, _, _, rfl, HROW.out, HL10.out.holds, HL10.out.ord⟩⟩
end Go.Proofs.Ytofhcgbihonckaa

namespace Go.Proofs.Ytofhcgbihonckaa
open Go.RowKit

/-- What Load of include answers. -/
def LoadPost (F : List FileT) (main : ByteArray) (w : World) (e : Ending) (w' : World) : Prop :=
  ∃ v, e = .returned (.tuple #[v, posAgg (LoadT F main).2.1, .int .i64 (LoadT F main).2.2]) ∧ FdsRow w' w.heap.size v (LoadT F main).1 ∧ Below w.heap.size w w'
theorem FdsRow.new2 {w w' : World} {base : Nat} {v : Value} {l : List FdT} (h : FdsRow w base v l) (k : Below w.heap.size w w') : FdsRow w' base v l := h.new k
set_option maxRecDepth 100000 in
set_option maxHeartbeats 8000000 in
theorem inc_Load (fv : Value) (F : List FileT) (main : ByteArray) (w : World) (hF : FilesAt w fv F) (hlow : ∀ g, fv.ownBlock = some g → g < w.heap.size) (hl : F.length ≤ 1000) (hT : ∀ f ∈ F, f.text.size ≤ maxLen ∧ f.name.size ≤ maxLen) (lay : Lay0 w) (hw0 : 0 < w.heap.size) :
    Calls Try.prog 10 #[fv, .string main] w (LoadPost F main w) := by
  have hb0 := (Below.refl w.heap.size w).alloc (Nat.le_refl _) (.cells #[.int .i64 0, .int .i64 0, .int .i64 0] 24)
  have HP0 := Lib.hid (Holds.new w #[.int .i64 0, .int .i64 0, .int .i64 0] 24)
  have hsz : (w.alloc (.cells #[.int .i64 0, .int .i64 0, .int .i64 0] 24)).heap.size = w.heap.size + 1 := by simp
  have hld := inc_load0 fv F main _ (hF.new hb0) (fun g hg => by have := hlow g hg; omega) hl hT (lay.keeps (Keeps.of_fresh hb0 (fun _ => False)) (fun e => e)) (by omega)
  have HLD := Lib.hid (show Calls Try.prog 20 #[fv, .string main] (w.alloc (.cells #[.int .i64 0, .int .i64 0, .int .i64 0] 24)) (fun e w' => ∃ x v, e = .returned (.tuple #[.pointer x, v, posAgg (LoadT F main).2.1, .int .i64 (LoadT F main).2.2]) ∧ FdsRow w' (w.heap.size + 1) v (LoadT F main).1 ∧ (LoadT F main).1.length ≤ 6000 ∧ (∀ x ∈ (LoadT F main).1, OkD x.2) ∧ Below (w.heap.size + 1) (w.alloc (.cells #[.int .i64 0, .int .i64 0, .int .i64 0] 24)) w') from hld.mono (by
    rintro e w' ⟨hb, hres⟩
    rw [hsz] at hb
    unfold LoadT
    cases hR : loadT F main with
    | error x =>
      rw [hR] at hres
      obtain ⟨x, rfl⟩ := hres
      exact ⟨_, _, rfl, FdsRow.nil _ _, by simp, by simp, hb⟩
    | ok x =>
      rw [hR] at hres
      obtain ⟨lb, mb, v, ov, rv, rfl, hrow, _, _⟩ := hres
      rw [hsz] at hrow
      obtain ⟨q1, q2⟩ := load_len hR
      exact ⟨_, _, rfl, hrow, q1, q2, hb⟩))
  have HB0 := Lib.hid hb0
  unfold LoadPost
  generalize LoadT F main = R at *
  obtain ⟨D, ⟨p1, p2, p3⟩, er⟩ := R
  unfold posAgg at HLD ⊢
  clear hF hlow hT lay hld hb0
  go_enter Try.func10, Try.ntmps10
  go_upto_region 1 with fail
  generalize w.alloc (.cells #[.int .i64 0, .int .i64 0, .int .i64 0] 24) = w0 at *
  go_wp2_with fail
  refine (by exact HLD.out : Calls _ _ _ _ _).mono ?_
  rintro e w1 ⟨x, v, rfl, hrow, hl6, hok, hb1⟩
  have k1 : Keeps (fun _ => False) w0 w1 := Keeps.of_fresh (hsz ▸ hb1) _
  have hP1 := HP0.out.keeps k1 (fun e => e)
  have hP2 := hP1.alloc (.cells #[.int .i64 p1, .int .i64 p2, .int .i64 p3] 24)
  have hQ2 := Holds.new w1 #[.int .i64 p1, .int .i64 p2, .int .i64 p3] 24
  have hrow2 := hrow.new ((Below.refl w1.heap.size w1).alloc (Nat.le_refl _) (.cells #[.int .i64 p1, .int .i64 p2, .int .i64 p3] 24))
  have hb2 : Below w.heap.size w (w1.alloc (.cells #[.int .i64 p1, .int .i64 p2, .int .i64 p3] 24)) := (HB0.out.trans (hb1.mono (by omega))).alloc (by have := hb1.size; omega) _
  obtain ⟨v1, v2, rfl⟩ := hrow.slice
  have HP2 := Lib.hid hP2
  have HQ2 := Lib.hid hQ2
  have HROW2 := Lib.hid hrow2
  have HB2 := Lib.hid hb2
  have HOK := Lib.hid hok
  have hws1 := hb1.size
  have hsz2 : (w1.alloc (.cells #[.int .i64 p1, .int .i64 p2, .int .i64 p3] 24)).heap.size = w1.heap.size + 1 := by simp
  clear hrow hb1 k1 hP1 hP2 hQ2 hrow2 hb2 hok
  go_upto_region 2 with fail
  generalize w1.alloc (.cells #[.int .i64 p1, .int .i64 p2, .int .i64 p3] 24) = w2 at *
  have HCP := Lib.hid (fun (wx : World) (hx : FdsRow wx (w.heap.size + 1) (.slice v1 D.length v2) D) => inc_copied (w.heap.size + 1) (.slice v1 D.length v2) D wx hx hl6 HOK.out)
  obtain ⟨b0, b1, b2, g0, g1, g2, gl⟩ := three HP2.out
  obtain ⟨q0, q1, q2, i0, i1, i2, il⟩ := three HQ2.out
  go_region_with (go_at_call 21; refine (HCP.out _ (by exact HROW2.out.new (Below.refl w2.heap.size w2).drew)).mono ?_; rintro e w7 ⟨rv, rfl, hown, hb8⟩; obtain ⟨rva, rvc, hrv⟩ := hown.slice; subst hrv; have hb9 : Below w2.heap.size w2 w7 := (Below.refl w2.heap.size w2).drew.trans hb8; have kP := HP2.out.keeps (Keeps.of_fresh hb9 (fun _ => False)) (fun e => e); have kQ := HQ2.out.keeps (Keeps.of_fresh hb9 (fun _ => False)) (fun e => e); obtain ⟨c0, c1, c2, h0, h1, h2, cl⟩ := three kP; obtain ⟨d0, d1, d2, j0, j1, j2, dl⟩ := three kQ)
  all_goals
    have hfin := ((kP.set 0 (.int .i64 p1)).set 1 (.int .i64 p2)).set 2 (.int .i64 p3)
    obtain ⟨r0, r1, r2, -⟩ := three (show Holds _ w.heap.size #[.int .i64 p1, .int .i64 p2, .int .i64 p3] 24 from hfin)
    have kq : Keeps (· = w.heap.size) w7 (((w7.setCell ⟨w.heap.size, 0, none⟩ (.int .i64 p1)).setCell ⟨w.heap.size, 1, none⟩ (.int .i64 p2)).setCell ⟨w.heap.size, 2, none⟩ (.int .i64 p3)) := (((Keeps.refl (· = w.heap.size) w7).setCell (p := ⟨w.heap.size, 0, none⟩) (.inr rfl) _).setCell (p := ⟨w.heap.size, 1, none⟩) (.inr rfl) _).setCell (p := ⟨w.heap.size, 2, none⟩) (.inr rfl) _
    have HR9 := Lib.hid ((hown.lower (b2 := w.heap.size) (by show w.heap.size ≤ w2.heap.size; omega)).side kq (fun b e => by subst e; exact ⟨_, kP⟩))
    have HB9 := Lib.hid ((((HB2.out.trans (hb9.mono (by omega))).setCell (p := ⟨w.heap.size, 0, none⟩) (Nat.le_refl _) (.int .i64 p1)).setCell (p := ⟨w.heap.size, 1, none⟩) (Nat.le_refl _) (.int .i64 p2)).setCell (p := ⟨w.heap.size, 2, none⟩) (Nat.le_refl _) (.int .i64 p3))
    clear hfin kq hown hb8 hb9 kP kQ
    go_wp2_with fail
    exact bodyPost_ret (v := .tuple #[.slice rva D.length rvc, .agg #[.int .i64 p1, .int .i64 p2, .int .i64 p3], .int .i64 er]) (by simp [results, Try.results10, go_sem, r0, r1, r2]) rfl ⟨_, rfl, HR9.out, HB9.out⟩
end Go.Proofs.Ytofhcgbihonckaa

namespace Go.Proofs.Ytofhcgbihonckaa
open Go.RowKit

def exF : List FileT := [⟨⟨#[109, 97, 105, 110]⟩, ⟨#[47, 105, 110, 99, 108, 117, 100, 101, 47, 32, 34, 97, 34, 59, 32, 47, 32, 123, 32, 112, 59, 32, 125, 59]⟩⟩, ⟨⟨#[97]⟩, ⟨#[47, 32, 123, 32, 113, 59, 32, 125, 59]⟩⟩]
theorem exF_load : (LoadT exF ⟨#[109, 97, 105, 110]⟩).2 = ((0, 0, 0), 0) ∧ (LoadT exF ⟨#[109, 97, 105, 110]⟩).1.length = 6 ∧ ((LoadT exF ⟨#[109, 97, 105, 110]⟩).1[1]?).map (fun x => (x.1, x.2.name)) = some (1, ⟨#[113]⟩) ∧ ((LoadT exF ⟨#[109, 97, 105, 110]⟩).1[4]?).map (fun x => (x.1, x.2.name)) = some (0, ⟨#[112]⟩) :=
  ⟨by kernel_rfl, by kernel_rfl, by kernel_rfl, by kernel_rfl⟩
theorem lay_pos {w : World} (h : Lay0 w) : 0 < w.heap.size := by
  obtain ⟨m, h⟩ := h
  have := World.block_lt_of_cell? w _ h
  exact this
/-- What awake reads. -/
theorem ex5_read {w : World} {base : Nat} {v : Value} {D : List FdT} (h : FdsRow w base v D) (hl : D.length = 6) (h1 : (D[1]?).map (fun x => (x.1, x.2.name)) = some (1, ⟨#[113]⟩)) (h4 : (D[4]?).map (fun x => (x.1, x.2.name)) = some (0, ⟨#[112]⟩)) :
    ∃ g c, v = .slice (some ⟨g, 0, none⟩) 6 c ∧ w.cell? ⟨g, 9, none⟩ = some (.string ⟨#[113]⟩) ∧ w.cell? ⟨g, 11, none⟩ = some (.int .i64 1) ∧ w.cell? ⟨g, 30, none⟩ = some (.string ⟨#[112]⟩) ∧ w.cell? ⟨g, 32, none⟩ = some (.int .i64 0) ∧ g < w.heap.size := by
  obtain ⟨g, c, pv, rfl, g1, _, _, _, b2, _, b4, _⟩ := h.at 1 (by omega)
  obtain ⟨g', c', pv', e, _, _, _, _, d2, _, d4, _⟩ := h.at 4 (by omega)
  cases e
  rw [List.getElem?_eq_getElem (by omega)] at h1 h4
  simp only [Option.map_some, Option.some.injEq, Prod.mk.injEq] at h1 h4
  rw [hl]
  exact ⟨g, c, rfl, by rw [← h1.2]; exact b2, by rw [← h1.1]; exact b4, by rw [← h4.2]; exact d2, by rw [← h4.1]; exact d4, g1⟩
set_option maxRecDepth 100000 in
set_option maxHeartbeats 4000000 in
theorem law05_awake (w : World) (h0 : Lay0 w) : Calls Try.prog 11 #[] w fun e w' => e = .returned (.bool true) ∧ Below w.heap.size w w' := by
  have hb0 := (Below.refl w.heap.size w).alloc (Nat.le_refl _) (.cells #[.string ⟨#[109, 97, 105, 110]⟩, .string ⟨#[47, 105, 110, 99, 108, 117, 100, 101, 47, 32, 34, 97, 34, 59, 32, 47, 32, 123, 32, 112, 59, 32, 125, 59]⟩, .string ⟨#[97]⟩, .string ⟨#[47, 32, 123, 32, 113, 59, 32, 125, 59]⟩] 48)
  have hH := Holds.new w #[.string ⟨#[109, 97, 105, 110]⟩, .string ⟨#[47, 105, 110, 99, 108, 117, 100, 101, 47, 32, 34, 97, 34, 59, 32, 47, 32, 123, 32, 112, 59, 32, 125, 59]⟩, .string ⟨#[97]⟩, .string ⟨#[47, 32, 123, 32, 113, 59, 32, 125, 59]⟩] 48
  generalize hw1 : w.alloc (.cells #[.string ⟨#[109, 97, 105, 110]⟩, .string ⟨#[47, 105, 110, 99, 108, 117, 100, 101, 47, 32, 34, 97, 34, 59, 32, 47, 32, 123, 32, 112, 59, 32, 125, 59]⟩, .string ⟨#[97]⟩, .string ⟨#[47, 32, 123, 32, 113, 59, 32, 125, 59]⟩] 48) = w1 at *
  have hF : FilesAt w1 (.slice (some ⟨w.heap.size, 0, none⟩) 2 2) exF := ⟨_, 2, rfl, by decide, by decide, fun _ => ⟨w.heap.size, 0, rfl, hH.lt, fun i hi => by
    have h2 : i = 0 ∨ i = 1 := by have : exF.length = 2 := rfl; omega
    rcases h2 with rfl | rfl
    · exact ⟨hH.cell 0, hH.cell 1⟩
    · exact ⟨hH.cell 2, hH.cell 3⟩⟩⟩
  have hpos := lay_pos h0
  have hrd := inc_Load _ exF ⟨#[109, 97, 105, 110]⟩ w1 hF (fun g e => by have e2 : w.heap.size = g := Option.some.inj e; have := hH.lt; omega) (by decide) (by decide) (h0.keeps (Keeps.of_fresh hb0 (fun _ => False)) (fun e => e)) (by have := hH.lt; omega)
  obtain ⟨x1, x2, x3, x4⟩ := exF_load
  unfold LoadPost at hrd
  generalize LoadT exF ⟨#[109, 97, 105, 110]⟩ = R at *
  obtain ⟨D, ⟨p1, p2, p3⟩, er⟩ := R
  simp only [Prod.mk.injEq] at x1 x2 x3 x4
  obtain ⟨⟨rfl, rfl, rfl⟩, rfl⟩ := x1
  unfold posAgg at hrd
  have HRD := Lib.hid hrd
  have HB0 := Lib.hid hb0
  have HW1 := Lib.hid hw1
  clear h0 hF hrd hH hb0 hw1
  go_enter Try.func11, Try.ntmps11
  go_wp2_with fail
  rw [HW1.out]
  refine (by exact HRD.out : Calls _ _ _ _ _).mono ?_
  rintro e w2 ⟨v, rfl, hD, hb⟩
  obtain ⟨g, c, rfl, e1, e2, e3, e4, g1⟩ := ex5_read hD x2 x3 x4
  have HBF := Lib.hid ((HB0.out.trans (hb.mono HB0.out.size)).alloc (by have := hb.size; have := HB0.out.size; omega) (.cells #[.int .i64 0, .int .i64 0, .int .i64 0] 24))
  clear hD x2 x3 x4 hb
  go_wp2_with fail
  go_ret
  exact ⟨rfl, HBF.out⟩
theorem wrap8I (v : Int) (h0 : 0 ≤ v) (h1 : v < 256) : IntKind.u8.wrap v = v := by
  simp [IntKind.wrap, IntKind.signed, IntKind.bits]; omega
theorem conv_oneI (w : World) (v : Int) (h0 : 0 ≤ v) (h1 : v < 256) : (convert 46 9 (.slice (some ⟨w.heap.size, 0, none⟩) 1 1)).run Try.prog (w.alloc (.cells #[.int .u8 v] 5)) = .ok (.string ⟨#[v.toNat.toUInt8]⟩) (w.alloc (.cells #[.int .u8 v] 5)) := by
  refine run_convert_bytes_back _ _ _ _ ⟨w.heap.size, 0, none⟩ 1 [v.toNat.toUInt8] Try.underlying46 Try.underlying5 Try.underlying9 ?_
  intro j hj
  have hj0 : j = 0 := by simpa using hj
  subst hj0
  refine new_cells w _ _ _ rfl [.int .u8 v] rfl 0 _ ?_
  have e : v.toNat.toUInt8.toNat = v.toNat := by simp [Nat.toUInt8]; omega
  simp [e]
  omega
def fileCells (F : List FileT) : List Value := F.flatMap fun f => [.string f.name, .string f.text]
theorem infoFile9 : (Try.prog.info? 48).map (fun i => (i.zero, i.size, i.bytes)) = some (some (.agg #[.string ⟨#[]⟩, .string ⟨#[]⟩]), 2, 32) := by kernel_rfl
theorem fileCells_at : ∀ (F : List FileT) (i : Nat) (h : i < F.length), (fileCells F)[i * 2]? = some (.string F[i].name) ∧ (fileCells F)[i * 2 + 1]? = some (.string F[i].text)
  | f :: F, 0, _ => ⟨rfl, rfl⟩
  | f :: F, i + 1, h => by
    have := fileCells_at F i (by simpa using h)
    rw [show (i + 1) * 2 = i * 2 + 2 from by omega]
    exact this
/-- A row of files, one's own, is files to read. -/
theorem files_row {w : World} {base : Nat} {v : Value} {F : List FileT} (h : w.ownsRow base 48 2 v F.length (fileCells F)) : FilesAt w v F := by
  rcases id h.2 with ⟨rfl, h0⟩ | ⟨g, cap, cur, rfl, hb, hh, hcap, hm, hs, ht⟩
  · exact ⟨none, 0, by rw [h0], by omega, by omega, fun h1 => by omega⟩
  · refine ⟨_, cap, rfl, hcap, by unfold maxLen at hm; omega, fun h0 => ⟨g, 0, rfl, (h.lt g rfl).2, fun i hi => ?_⟩⟩
    obtain ⟨a, b⟩ := fileCells_at F i hi
    rw [Nat.zero_add]
    exact ⟨by rw [h.cellAt _ (by omega)]; exact a, by rw [h.cellAt _ (by omega)]; exact b⟩
theorem cir_take (k z i : Nat) (hi : i < k) : (cirF k z).take (i + 1) = (cirF k z).take i ++ [⟨⟨#[UInt8.ofNat (97 + i)]⟩, cirT (UInt8.ofNat (97 + (if i + 1 = k then z else i + 1)))⟩] := by
  have hl : (cirF k z).length = k := by simp [cirF]
  rw [List.take_succ_eq_append_getElem (by omega)]
  simp [cirF]
set_option maxRecDepth 100000 in
set_option maxHeartbeats 8000000 in
theorem incCircles_walk (n b : Int) (w : World) (hn0 : 0 ≤ n) (hn1 : n ≤ 255) (hb0 : 0 ≤ b) (hb1 : b ≤ 255) (h0 : Lay0 w) :
    Calls Try.prog 5 #[.int .u8 n, .int .u8 b] w fun e w' => e = .returned (.bool true) ∧ Below w.heap.size w w' := by
  have LL := Lib.hid (fun (wx : World) (hb : Below w.heap.size w wx) => h0.keeps (Keeps.of_fresh hb (fun _ => False)) (fun e => e))
  have hpos := lay_pos h0
  obtain ⟨k0, hk⟩ : ∃ k0 : Nat, n % 5 = k0 := ⟨(n % 5).toNat, by omega⟩
  have hk5 : k0 < 5 := by omega
  clear h0
  go_enter Try.func5, Try.ntmps5
  obtain ⟨k, hkk⟩ : ∃ k : Nat, k = k0 + 1 := ⟨_, rfl⟩
  have hk1 : (1 : Int) + (k0 : Int) = (k : Int) := by omega
  have hkp : 0 < k := by omega
  have hk6 : k ≤ 5 := by omega
  obtain ⟨z, hz⟩ : ∃ z : Nat, b % (k : Int) = z := ⟨(b % (k : Int)).toNat, by have := Int.emod_nonneg b (show (k : Int) ≠ 0 by omega); omega⟩
  have hzk : z < k := by have := Int.emod_lt_of_pos b (show (0 : Int) < k by omega); omega
  have hz2 : b.tmod (k : Int) = z := by rw [Int.tmod_eq_emod_of_nonneg hb0]; exact hz
  have hk0 : ((k : Int) == 0) = false := by rw [beq_eq_false_iff_ne]; omega
  have hkn : (k : Int) ≠ 0 := by omega
  clear hkk
  go_upto_region 3 with fail
  clear hk1 hk hz2 hk0 hkn
  have hb00 := Lib.hid (Below.refl w.heap.size w)
  obtain ⟨i0, hin, hi0, hi1, hi2⟩ := info_parts infoFile9
  go_wp2_with fail
  go_loopg [7, 8] k (fun f x y wr => ∃ i : Nat, y = .int .i64 i ∧ i ≤ k ∧ k ≤ i + f ∧ wr.ownsRow w.heap.size 48 2 x i (fileCells ((cirF k z).take i)) ∧ Below w.heap.size w wr)
  case atStart => exact ⟨0, rfl, by omega, by omega, by simpa [fileCells] using World.ownsRow_nil w w.heap.size 48 2, hb00.out⟩
  case round =>
    obtain ⟨i, rfl, hi3, hi4, hrow, hB⟩ := hrel
    obtain ⟨ra, rc, rfl⟩ := row_slice hrow
    have HROW := Lib.hid hrow
    have HB := Lib.hid hB
    clear hrow hB
    by_cases hlt : i < k
    · obtain ⟨nx, hnx⟩ : ∃ nx : Nat, nx = if i + 1 = k then z else i + 1 := ⟨_, rfl⟩
      have hnx5 : nx < 5 := by rw [hnx]; split <;> omega
      have HNX := Lib.hid hnx
      obtain ⟨y1, hy1⟩ : ∃ y : UInt8, y = ((97 + i : Int)).toNat.toUInt8 := ⟨_, rfl⟩
      obtain ⟨y2, hy2⟩ : ∃ y : UInt8, y = ((97 + nx : Int)).toNat.toUInt8 := ⟨_, rfl⟩
      have c1 := conv_oneI wr (97 + i : Int) (by omega) (by omega)
      rw [← hy1] at c1
      have c2 : (convert 46 9 (.slice (some ⟨wr.heap.size + 1, 0, none⟩) 1 1)).run Try.prog ((wr.alloc (.cells #[.int .u8 (97 + i : Int)] 5)).alloc (.cells #[.int .u8 (97 + nx : Int)] 5)) = .ok (.string ⟨#[y2]⟩) ((wr.alloc (.cells #[.int .u8 (97 + i : Int)] 5)).alloc (.cells #[.int .u8 (97 + nx : Int)] 5)) := by
        have h9 := conv_oneI (wr.alloc (.cells #[.int .u8 (97 + i : Int)] 5)) (97 + nx : Int) (by omega) (by omega)
        rw [show (wr.alloc (.cells #[.int .u8 (97 + i : Int)] 5)).heap.size = wr.heap.size + 1 from by simp, ← hy2] at h9
        exact h9
      have w1 := wrap8I (97 + i : Int) (by omega) (by omega)
      have w2 := wrap8I (97 + nx : Int) (by omega) (by omega)
      have hstr1 : ∀ v : Nat, v < 5 → (⟨#[((97 + v : Int)).toNat.toUInt8]⟩ : ByteArray) = ⟨#[UInt8.ofNat (97 + v)]⟩ := fun v hv => by
        rw [show ((97 + v : Int)).toNat = 97 + v from by omega]
      obtain ⟨s1, hs1⟩ : ∃ s1 : ByteArray, s1 = ⟨([47, 32, 123, 32, 112, 59, 32, 125, 59, 10, 47, 105, 110, 99, 108, 117, 100, 101, 47, 32, 34] ++ [y2] : List UInt8).toArray⟩ := ⟨_, rfl⟩
      have a1 := adds_of [47, 32, 123, 32, 112, 59, 32, 125, 59, 10, 47, 105, 110, 99, 108, 117, 100, 101, 47, 32, 34] [y2] (by simp)
      have a2 := adds_of ([47, 32, 123, 32, 112, 59, 32, 125, 59, 10, 47, 105, 110, 99, 108, 117, 100, 101, 47, 32, 34] ++ [y2]) [34, 59] (by simp)
      have htx : (⟨(([47, 32, 123, 32, 112, 59, 32, 125, 59, 10, 47, 105, 110, 99, 108, 117, 100, 101, 47, 32, 34] ++ [y2]) ++ [34, 59] : List UInt8).toArray⟩ : ByteArray) = cirT (UInt8.ofNat (97 + nx)) := by
        rw [hy2, show ((97 + nx : Int)).toNat = 97 + nx from by omega]; rfl
      rw [htx, ← hs1] at a2
      rw [← hs1] at a1
      unfold Adds at a1 a2
      clear hs1
      have HTK := Lib.hid (cir_take k z i hlt)
      rw [← hnx] at HTK
      have HN1 := Lib.hid (hstr1 i (by omega))
      clear hstr1 htx hnx
      have hlast : ∀ (wx : World) (v9 : Value), wx.ownsRow w.heap.size 48 2 v9 (i + 1) (fileCells ((cirF k z).take i) ++ [.string ⟨#[y1]⟩, .string (cirT (UInt8.ofNat (97 + nx)))]) → wx.ownsRow w.heap.size 48 2 v9 (i + 1) (fileCells ((cirF k z).take (i + 1))) := fun wx v9 h => by
        rw [HTK.out]; rw [hy1, HN1.out] at h; simpa [fileCells] using h
      have HLAST := Lib.hid hlast
      clear hlast HTK HN1 hy1 hy2
      generalize hct : cirT (UInt8.ofNat (97 + nx)) = ct at *
      clear hct
      have hci : (i : Int) < (k : Int) := by omega
      have hwz := HB.out.size
      rcases (show (((i : Int) + 1 == (k : Int)) = true ∧ nx = z) ∨ (((i : Int) + 1 == (k : Int)) = false ∧ (i : Int) + 1 = (nx : Int)) from by
        by_cases he : i + 1 = k
        · exact .inl ⟨by rw [beq_iff_eq]; omega, by rw [HNX.out, if_pos he]⟩
        · exact .inr ⟨by rw [beq_eq_false_iff_ne]; omega, by rw [HNX.out, if_neg he]; omega⟩) with ⟨heI, hnz⟩ | ⟨heI, hnz⟩
      case' inl => subst hnz
      all_goals
        go_wp2_with (at_builtin; refine wpList_append_src _ rfl _ _ 45 45 rfl w.heap.size 48 i0 _ 2 32 Try.underlying45 hin hi0 hi1 hi2 rfl _ i (fileCells ((cirF k _).take i)) rfl (by exact ((HROW.out.alloc _).alloc _).alloc _) _ rfl 1 [.string ⟨#[y1]⟩, .string ct] (by exact Src.ofSlice _ Try.underlying45 _ 1 1 _ rfl (new_cells _ _ _ _ (by simp) _ rfl) (fun u hu => by simp at hu; rcases hu with rfl | rfl <;> rfl)) (by unfold maxLen; omega) (by omega) (by simp; omega) ?_)
        intro v9 w9 hown9 hgrow9 hat9
        have HR9 := Lib.hid (HLAST.out w9 v9 hown9)
        have HB9 := Lib.hid ((((HB.out.alloc hwz (.cells #[.int .u8 (97 + i : Int)] 5)).alloc (by simp; omega) (.cells #[.int .u8 (97 + nx : Int)] 5)).alloc (by simp; omega) (.cells #[.string ⟨#[y1]⟩, .string ct] 48)).grown hgrow9 (by simp; omega) (fun g hg => (HROW.out.lt g hg).1))
        clear hown9 hgrow9 hat9 c1 c2 a1 a2 w1 w2
        go_wp2_with fail
        go_roundg (gk - 1)
        case measure => omega
        case rel => exact ⟨i + 1, by first | go_num | (congr 1; omega) | (rw [hnz]; rfl), by omega, by omega, HR9.out, HB9.out⟩
    · obtain rfl : i = k := by omega
      have hcl : (cirF i z).length = i := by simp [cirF]
      have hr2 : wr.ownsRow w.heap.size 48 2 (.slice ra i rc) (cirF i z).length (fileCells (cirF i z)) := by
        have h := HROW.out
        rw [List.take_of_length_le (by omega)] at h
        rw [hcl]; exact h
      have hF := files_row hr2
      have hwz := HB.out.size
      have hrd := inc_Load _ (cirF i z) ⟨#[97]⟩ wr hF (fun g hg => (own_lt HROW.out hg).1) (by omega) (fun f hf => by
        obtain ⟨j, _, rfl⟩ := List.mem_map.1 hf
        exact ⟨by unfold cirT maxLen; simp [ByteArray.size], by unfold maxLen; simp [ByteArray.size]⟩) (LL.out wr HB.out) (by omega)
      unfold LoadPost at hrd
      rw [cir_all i z hkp hk6 hzk] at hrd
      unfold posAgg at hrd
      have HRD := Lib.hid hrd
      obtain ⟨m, hm⟩ : ∃ m : Int, m = ((i - 1 : Nat) : Int) := ⟨_, rfl⟩
      rw [← hm] at HRD
      have hm2 : (i : Int) - 1 = m := by omega
      clear hr2 hF hrd hcl hm
      go_wp2_with fail
      refine (by exact HRD.out : Calls _ _ _ _ _).mono ?_
      rintro e w2 ⟨v, rfl, hD, hb⟩
      obtain ⟨va, vc, rfl⟩ := hD.slice
      have hb2 : Below w.heap.size w w2 := HB.out.trans (hb.mono hwz)
      have hb3 := hb2.alloc hb2.size (.cells #[.int .i64 m, .int .i64 2, .int .i64 1] 24)
      have HAW := Lib.hid (law05_awake _ (LL.out _ hb3))
      have HB3 := Lib.hid hb3
      clear hD hb hb2 hb3
      go_wp2_with fail
      refine (by exact HAW.out : Calls _ _ _ _ _).mono ?_
      rintro e w4 ⟨rfl, hb4⟩
      have HB4 := Lib.hid (HB3.out.trans (hb4.mono HB3.out.size))
      clear hb4
      go_wp2_with fail
      go_ret
      exact ⟨rfl, HB4.out⟩
end Go.Proofs.Ytofhcgbihonckaa
