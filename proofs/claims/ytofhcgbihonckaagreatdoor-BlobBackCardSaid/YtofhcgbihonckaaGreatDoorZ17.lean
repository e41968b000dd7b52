/- Contracts of bringupref03: Set. | Trees that a call has made, whose rows of properties lie apart from each other. -/
import Derived.Test.YtofhcgbihonckaaGreatDoorZ16
import Derived.Deep.RegionWith

set_option linter.unusedVariables false
set_option linter.unusedSimpArgs false
set_option linter.unusedSectionVars false

namespace Go.Proofs.YtofhcgbihonckaaGreatDoor
open Go.RowKit

theorem nodeCells_set : ∀ (T : List NodeT) (pvs : List Value) (k : Nat) (hk : k < T.length) (ps : List PropT) (rv : Value), pvs.length = T.length →
    nodeCells (T.set k ⟨T[k].parent, T[k].name, ps⟩) (pvs.set k rv) = (nodeCells T pvs).set (k * 3 + 2) rv
  | n :: T, p :: pvs, 0, _, _, _, _ => rfl
  | n :: T, p :: pvs, k + 1, hk, ps, rv, h => by
    have := nodeCells_set T pvs k (by simpa using hk) ps rv (by simpa using h)
    rw [show (k + 1) * 3 + 2 = k * 3 + 2 + 1 + 1 + 1 from by omega]
    simp only [List.set_cons_succ, nodeCells, List.getElem_cons_succ]
    rw [this]
theorem TreeRow.setProps {w : World} {base g n cap : Nat} {T : List NodeT} {rv : Value} {ps : List PropT} (h : TreeRow w base (.slice (some ⟨g, 0, none⟩) n cap) T) (k : Nat) (hk : k < T.length) (hp : PropRow w base rv ps) :
    TreeRow (w.setCell ⟨g, k * 3 + 2, none⟩ rv) base (.slice (some ⟨g, 0, none⟩) n cap) (T.set k ⟨T[k].parent, T[k].name, ps⟩) := by
  obtain ⟨pvs, h1, h2, h3, h4⟩ := h
  have hn : n = T.length := by
    rcases h2.2 with ⟨e, _⟩ | ⟨_, _, _, e, _⟩
    · cases e
    · cases e; rfl
  subst hn
  obtain ⟨s1, s2⟩ := h2.stored (k * 3 + 2) rv
  refine ⟨pvs.set k rv, by simpa using h1, ?_, ?_, ?_⟩
  · rw [nodeCells_set T pvs k hk ps rv h1, List.length_set]; exact s1
  · intro j hj hj2
    by_cases e : j = k
    · subst e
      simp only [List.getElem_set_self]
      exact hp.apart h2 s2 (by decide)
    · rw [List.getElem_set_ne (fun x => e x.symm), List.getElem_set_ne (fun x => e x.symm)]
      exact (h3 j (by simpa using hj) (by simpa using hj2)).apart h2 s2 (by decide)
  · intro m hm
    rcases List.mem_or_eq_of_mem_set hm with hm | rfl
    · exact h4 m hm
    · exact h4 T[k] (List.getElem_mem hk)
theorem PropsIn.drew {R : Nat → Prop} {w : World} {v : Value} {ps : List PropT} (h : PropsIn R w v ps) : PropsIn R w.drew v ps := h
theorem cell_keep {w w' : World} {g o : Nat} {x : Option Value} (h : w.cell? ⟨g, o, none⟩ = x) (hg : g < w.heap.size) (k : Below w.heap.size w w') : w'.cell? ⟨g, o, none⟩ = x := (k.cell (p := ⟨g, o, none⟩) hg).trans h
def SetMid (T' : List NodeT) (w : World) (C : Nat) (sv : Value) (y : Value) (wx : World) : Prop :=
  y = .pointer (some ⟨C, 0, none⟩) ∧ Holds wx C #[sv] 25 ∧ Holds wx (w.heap.size + 1) #[.slice none 0 0] 25 ∧ TreeRow wx w.heap.size sv T' ∧ Below w.heap.size w wx

set_option maxRecDepth 100000 in
set_option maxHeartbeats 4000000 in
theorem ref3_Set (R : Nat → Prop) (v : Value) (T : List NodeT) (s name value : ByteArray) (w : World) (hT : NodesIn R w v T) (hns : name.size ≤ 9223372036854775807) (hvs : value.size ≤ 9223372036854775807) :
    Calls Tryz.prog 25 #[.agg #[v], .string s, .string name, .string value] w (EditPost (setT T s name value) w) := by
  obtain ⟨a, cap, rfl, hc1, hc2⟩ := hT.shape
  have HT := Lib.hid hT; clear hT
  have hbg := fun wx hx => ref3_begin R (.slice a T.length cap) T s wx hx
  have hb0 : Below w.heap.size w ((w.alloc (.cells #[.slice a T.length cap] 25)).alloc (.cells #[.slice none 0 0] 25)) := ((Below.refl _ _).alloc (Nat.le_refl _) _).alloc (by simp) _
  have hX0 := (Holds.new w #[.slice a T.length cap] 25).alloc (.cells #[.slice none 0 0] 25)
  have hZ0 := Holds.newAt (w := w.alloc (.cells #[.slice a T.length cap] 25)) (B := w.heap.size + 1) (by simp) #[.slice none 0 0] 25
  rcases begin_cases T s with ⟨hne, h10⟩ | ⟨hck, k, hk, hbe, hps⟩
  · have hF := Lib.hid (show setT T s name value = ([], (rBeginT T s).2) from by unfold setT; rw [if_pos hne])
    have hne' : ((rBeginT T s).2 != 0) = true := by simpa using hne
    rw [h10] at hbg
    have HBG := Lib.hid hbg
    clear hbg hne h10
    generalize (rBeginT T s).2 = c at *
    go_enter Tryz.func25, Tryz.ntmps25
    go_wp2_with fail
    refine (HBG.out _ (by exact HT.out.new hb0)).mono ?_
    rintro e w1 ⟨rfl, hb1⟩
    have hZ1 := hZ0.keeps (Keeps.of_fresh hb1 (fun _ => False)) (fun e => e)
    have hb2 := hb0.trans (hb1.mono (by simp; omega))
    have z0 := hZ1.cell 0
    have zf := hZ1.free 0
    have zl := hZ1.lt
    go_wp2_with fail
    have q0 : (w1.setCell ⟨w.heap.size + 1, 0, none⟩ (.slice none 0 0)).cell? ⟨w.heap.size + 1, 0, none⟩ = some (.slice none 0 0) := (hZ1.set 0 _).cell 0
    exact bodyPost_ret (v := .tuple #[.agg #[.slice none 0 0], .int .i64 c]) (by simp [results, Tryz.results25, go_sem, q0]) rfl ⟨_, by rw [hF.out], by rw [hF.out]; exact TreeRow.nil _ _, hb2.setCell (p := ⟨w.heap.size + 1, 0, none⟩) (by simp) _⟩
  · rw [hbe] at hbg
    have HBG := Lib.hid hbg
    have hE := Lib.hid (show setT T s name value = if propB name = false then ([], 1) else if limitsT (setAt T k ⟨name, value⟩) = false then ([], 3) else (setAt T k ⟨name, value⟩, 0) from by
      unfold setT; rw [hbe, if_neg (by simp)]; rfl)
    have hsa := Lib.hid (show setAt T k ⟨name, value⟩ = T.set k ⟨T[k].parent, T[k].name, putT T[k].props ⟨name, value⟩⟩ from by unfold setAt; rw [List.getElem?_eq_getElem hk]; rfl)
    have hl2 := (limits_len (check_limits hck)).2
    have HPS := Lib.hid (check_props hck)
    have hnt := fun wx => ref3_Property name wx hns
    clear hbg hbe hck
    cases hnb : propB name with
    | false =>
      have hF := Lib.hid (show setT T s name value = ([], 1) from by rw [hE.out, if_pos hnb])
      rw [hnb] at hnt
      have HNT := Lib.hid hnt
      clear hnt hnb hE
      go_enter Tryz.func25, Tryz.ntmps25
      go_wp2_with fail
      refine (HBG.out _ (by exact HT.out.new hb0)).mono ?_
      rintro e w1 ⟨rfl, hb1⟩
      have hZ1 := hZ0.keeps (Keeps.of_fresh hb1 (fun _ => False)) (fun e => e)
      have hb2 := hb0.trans (hb1.mono (by simp; omega))
      go_wp2_with fail
      refine (HNT.out _).mono ?_
      rintro e w2 ⟨rfl, rfl⟩
      have z0 := hZ1.cell 0
      have zf := hZ1.free 0
      have zl := hZ1.lt
      go_wp2_with fail
      have q0 : (w1.setCell ⟨w.heap.size + 1, 0, none⟩ (.slice none 0 0)).cell? ⟨w.heap.size + 1, 0, none⟩ = some (.slice none 0 0) := (hZ1.set 0 _).cell 0
      exact bodyPost_ret (v := .tuple #[.agg #[.slice none 0 0], .int .i64 1]) (by simp [results, Tryz.results25, go_sem, q0]) rfl ⟨_, by rw [hF.out], by rw [hF.out]; exact TreeRow.nil _ _, hb2.setCell (p := ⟨w.heap.size + 1, 0, none⟩) (by simp) _⟩
    | true =>
      rw [hnb] at hnt
      have HNT := Lib.hid hnt
      have hE2 := Lib.hid (show setT T s name value = if limitsT (setAt T k ⟨name, value⟩) = false then ([], 3) else (setAt T k ⟨name, value⟩, 0) from by rw [hE.out, hnb, if_neg (by simp)])
      have hcp := Lib.hid (fun wx hx => ref3_copied R (.slice a T.length cap) T wx hx hl2 HPS.out)
      have hpl := HPS.out T[k] (List.getElem_mem hk)
      clear hnt hnb hE
      go_enter Tryz.func25, Tryz.ntmps25
      go_wp2_with fail
      refine (HBG.out _ (by exact HT.out.new hb0)).mono ?_
      rintro e w1 ⟨rfl, hb1⟩
      have hZ1 := hZ0.keeps (Keeps.of_fresh hb1 (fun _ => False)) (fun e => e)
      have hX1 := hX0.keeps (Keeps.of_fresh hb1 (fun _ => False)) (fun e => e)
      have hb2 := hb0.trans (hb1.mono (by simp; omega))
      have bx := hX1.cell 0
      have bl := hX1.lt
      have hs2 := hb2.size
      clear hb0 hX0 hZ0 hb1
      go_wp2_with fail
      refine (HNT.out _).mono ?_
      rintro e w2 ⟨rfl, rfl⟩
      go_wp2_with fail
      refine (hcp.out _ (by exact HT.out.new hb2)).mono ?_
      rintro e w4 ⟨cv, rfl, hR4, hb5⟩
      have hZ4 := hZ1.keeps (Keeps.of_fresh hb5 (fun _ => False)) (fun e => e)
      have hX4 := hX1.keeps (Keeps.of_fresh hb5 (fun _ => False)) (fun e => e)
      have hb6 := hb2.trans (hb5.mono hs2)
      have hs6 := hb6.size
      have hR5 := hR4.base hs2
      clear hb5 hb2 hX1 hZ1 bx bl hR4
      obtain ⟨cg, cc, hcv, hcgl⟩ : ∃ cg cc, cv = .slice (some ⟨cg, 0, none⟩) T.length cc ∧ cg < w4.heap.size := by
        obtain ⟨_, _, g2, _⟩ := hR5
        obtain ⟨x, y, e, _, hl⟩ := g2.form (by omega)
        exact ⟨x, y, e, hl⟩
      subst hcv
      have hC5 := Holds.new w4 #[.slice (some ⟨cg, 0, none⟩) T.length cc] 25
      have hR6 := hR5.new ((Below.refl _ _).alloc (Nat.le_refl _) (.cells #[.slice (some ⟨cg, 0, none⟩) T.length cc] 25))
      have hZ5 := hZ4.alloc (.cells #[.slice (some ⟨cg, 0, none⟩) T.length cc] 25)
      have hX5 := hX4.alloc (.cells #[.slice (some ⟨cg, 0, none⟩) T.length cc] 25)
      have hb7 := hb6.alloc hs6 (.cells #[.slice (some ⟨cg, 0, none⟩) T.length cc] 25)
      have hC5n : w4.heap.size + 1 = (w4.alloc (.cells #[.slice (some ⟨cg, 0, none⟩) T.length cc] 25)).heap.size := by simp
      go_upto_region 7 with fail
      clear hR5 hb6 hZ4 hX4
      obtain ⟨g, o, pa, pc, rfl, hg, c0, c1, c2, hp, p1, p2, b0, b1, b2⟩ := (HT.out.new hb7).at k hk
      have HPI := Lib.hid hp
      have hat := (hR6.at k hk)
      obtain ⟨pv, pa', pc', hpv, d0, d1, d2, hpr, hok⟩ := hat
      clear hp c0 c1 d0 d1 hpr hok
      subst hpv
      obtain ⟨_, _, hrow, _⟩ := id hR6
      have hfz := hrow.frozenAt (k * 3 + 2)
      have hcl2 := (hrow.lt cg rfl).2
      have hcgw := (hrow.lt cg rfl).1
      have hzc : w.heap.size + 1 ≠ cg := fun e => owns_ne_holds hrow hZ5 (by decide) (by rw [e]; rfl)
      clear hrow
      generalize w4.alloc (.cells #[.slice (some ⟨cg, 0, none⟩) T.length cc] 25) = w5 at *
      have x0 := hX5.cell 0
      have xl := hX5.lt
      have y0 := hC5.cell 0
      have yl := hC5.lt
      have hs7 := hb7.size
      have HR6 := Lib.hid hR6
      clear hR6
      have hput := Lib.hid (fun (wx : World) (hx : PropsIn (fun g => g < w5.heap.size) wx (.slice pa (T[k]'hk).props.length pc) (T[k]'hk).props) => ref3_Put (fun g => g < w5.heap.size) (.slice pa T[k].props.length pc) T[k].props ⟨name, value⟩ wx hx hpl ⟨hns, hvs⟩)
      go_cut [12] (fun y wx => SetMid (setAt T k ⟨name, value⟩) w w4.heap.size (.slice (some ⟨cg, 0, none⟩) T.length cc) y wx)
      case first =>
        go_region_with (go_at_call 49; refine (hput.out _ (by exact HPI.out.bound.drew)).mono ?_; rintro e w7 ⟨rv, rfl, hrp, hb8⟩; obtain ⟨rva, rvc, hrv⟩ := row_slice hrp.1; subst hrv; have hb9 : Below w5.heap.size w5 w7 := (Below.refl w5.heap.size w5).drew.trans hb8; have kx := cell_keep x0 xl hb9; have ky := cell_keep y0 yl hb9; have kd := cell_keep d2 hcl2 hb9; have kz := (hb9.frozen (p := ⟨cg, k * 3 + 2, none⟩) hcl2).trans hfz; have kl := Nat.lt_of_lt_of_le hcl2 hb9.size; have kyl := Nat.lt_of_lt_of_le yl hb9.size)
        all_goals
          go_wp2_with fail
          go_meet
          have hR7 := HR6.out.new hb9
          have hP7 := hrp.base (show w.heap.size ≤ w5.heap.size from hs7)
          have hC7 := hC5.keeps (Keeps.of_fresh hb9 (fun _ => False)) (fun e => e)
          have hZ7 := hZ5.keeps (Keeps.of_fresh hb9 (fun _ => False)) (fun e => e)
          exact ⟨rfl, hC7.other _ _ (by show w4.heap.size ≠ cg; omega), hZ7.other _ _ hzc, by rw [hsa.out]; exact hR7.setProps k hk hP7, (hb7.trans (hb9.mono hs7)).setCell (p := ⟨cg, k * 3 + 2, none⟩) hcgw _⟩
      case rest =>
        obtain ⟨rfl, hC8, hZ8, hR8, hb8⟩ := hcut
        clear hC5 hZ5 hX5 hb7 x0 xl y0 yl hfz hcl2 d2 hs7 hzc
        have hlm := fun wx hx => ref3_limits (fun g => w.heap.size ≤ g) (.slice (some ⟨cg, 0, none⟩) T.length cc) (setAt T k ⟨name, value⟩) wx hx
        have hs8 := hb8.size
        have y0 := hC8.cell 0
        have yl := hC8.lt
        cases hL : limitsT (setAt T k ⟨name, value⟩) with
        | false =>
          have hF := Lib.hid (show setT T s name value = ([], 3) from by rw [hE2.out, if_pos hL])
          rw [hL] at hlm
          have HLM := Lib.hid hlm
          clear hlm hL
          go_wp2_with fail
          refine (HLM.out _ (by exact hR8.in)).mono ?_
          rintro e w9 ⟨rfl, hb9⟩
          have hZ9 := hZ8.keeps (Keeps.of_fresh hb9 (fun _ => False)) (fun e => e)
          have hb10 := hb8.trans (hb9.mono hs8)
          have z0 := hZ9.cell 0
          have zf := hZ9.free 0
          have zl := hZ9.lt
          go_wp2_with fail
          have q0 : (w9.setCell ⟨w.heap.size + 1, 0, none⟩ (.slice none 0 0)).cell? ⟨w.heap.size + 1, 0, none⟩ = some (.slice none 0 0) := (hZ9.set 0 _).cell 0
          exact bodyPost_ret (v := .tuple #[.agg #[.slice none 0 0], .int .i64 3]) (by simp [results, Tryz.results25, go_sem, q0]) rfl ⟨_, by rw [hF.out], by rw [hF.out]; exact TreeRow.nil _ _, hb10.setCell (p := ⟨w.heap.size + 1, 0, none⟩) (by simp) _⟩
        | true =>
          have hF := Lib.hid (show setT T s name value = (setAt T k ⟨name, value⟩, 0) from by rw [hE2.out, hL, if_neg (by simp)])
          rw [hL] at hlm
          have HLM := Lib.hid hlm
          clear hlm hL
          go_wp2_with fail
          refine (HLM.out _ (by exact hR8.in)).mono ?_
          rintro e w9 ⟨rfl, hb9⟩
          have hZ9 := hZ8.keeps (Keeps.of_fresh hb9 (fun _ => False)) (fun e => e)
          have hC9 := hC8.keeps (Keeps.of_fresh hb9 (fun _ => False)) (fun e => e)
          have hR9 := hR8.new hb9
          have hb10 := hb8.trans (hb9.mono hs8)
          clear y0 yl
          have y0 := hC9.cell 0
          have yl := hC9.lt
          have z0 := hZ9.cell 0
          have zf := hZ9.free 0
          have zl := hZ9.lt
          have hR10 := hR9.set hZ9 (by decide) (by decide) 0 (.slice (some ⟨cg, 0, none⟩) T.length cc)
          go_wp2_with fail
          have q0 : (w9.setCell ⟨w.heap.size + 1, 0, none⟩ (.slice (some ⟨cg, 0, none⟩) T.length cc)).cell? ⟨w.heap.size + 1, 0, none⟩ = some (.slice (some ⟨cg, 0, none⟩) T.length cc) := (hZ9.set 0 _).cell 0
          exact bodyPost_ret (v := .tuple #[.agg #[.slice (some ⟨cg, 0, none⟩) T.length cc], .int .i64 0]) (by simp [results, Tryz.results25, go_sem, q0]) rfl ⟨_, by rw [hF.out], by rw [hF.out]; exact hR10, hb10.setCell (p := ⟨w.heap.size + 1, 0, none⟩) (by simp) _⟩
end Go.Proofs.YtofhcgbihonckaaGreatDoor

namespace Go.Proofs.YtofhcgbihonckaaGreatDoor
open Go.RowKit

/-- The rows lie apart, and below H. -/
def Sep (H : Nat) (pvs : List Value) : Prop :=
  (∀ i j (hi : i < pvs.length) (hj : j < pvs.length), i ≠ j → ∀ g, pvs[i].ownBlock = some g → pvs[j].ownBlock ≠ some g) ∧ ∀ pv ∈ pvs, ∀ g, pv.ownBlock = some g → g < H
def TreeSep (H : Nat) (w : World) (base : Nat) (v : Value) (T : List NodeT) : Prop :=
  ∃ pvs : List Value, pvs.length = T.length ∧ w.ownsRow base 52 3 v T.length (nodeCells T pvs) ∧ (∀ k (_ : k < T.length) (_ : k < pvs.length), PropRow w base pvs[k] T[k].props) ∧ (∀ n ∈ T, NodeOk n) ∧ Sep H pvs
def TreeS (w : World) (base : Nat) (v : Value) (T : List NodeT) : Prop := ∃ H, TreeSep H w base v T
theorem TreeSep.row {H : Nat} {w : World} {base : Nat} {v : Value} {T : List NodeT} (h : TreeSep H w base v T) : TreeRow w base v T := by
  obtain ⟨pvs, h1, h2, h3, h4, _⟩ := h; exact ⟨pvs, h1, h2, h3, h4⟩
theorem TreeS.row {w : World} {base : Nat} {v : Value} {T : List NodeT} (h : TreeS w base v T) : TreeRow w base v T := by obtain ⟨_, h⟩ := h; exact h.row
theorem TreeSep.low {H : Nat} {w : World} {base : Nat} {v : Value} {T : List NodeT} (h : TreeSep H w base v T) : TreeSep w.heap.size w base v T := by
  obtain ⟨pvs, h1, h2, h3, h4, h5, _⟩ := h
  refine ⟨pvs, h1, h2, h3, h4, h5, fun pv hpv g hg => ?_⟩
  obtain ⟨k, hk, rfl⟩ := List.getElem_of_mem hpv
  exact ((h3 k (by omega) hk).1.lt g hg).2
theorem TreeS.low {w : World} {base : Nat} {v : Value} {T : List NodeT} (h : TreeS w base v T) : TreeSep w.heap.size w base v T := by obtain ⟨_, h⟩ := h; exact h.low
theorem TreeSep.new {H : Nat} {w w' : World} {base : Nat} {v : Value} {T : List NodeT} (h : TreeSep H w base v T) (k : Below w.heap.size w w') : TreeSep H w' base v T := by
  obtain ⟨pvs, h1, h2, h3, h4, h5⟩ := h
  exact ⟨pvs, h1, row_new h2 k, fun j hj hj2 => (h3 j hj hj2).new k, h4, h5⟩
theorem TreeS.new {w w' : World} {base : Nat} {v : Value} {T : List NodeT} (h : TreeS w base v T) (k : Below w.heap.size w w') : TreeS w' base v T := by obtain ⟨_, h⟩ := h; exact ⟨_, h.new k⟩
theorem TreeSep.set {H : Nat} {w : World} {base b : Nat} {t : TypeId} {v : Value} {T : List NodeT} {cs : Array Value} (h : TreeSep H w base v T) (hH : Holds w b cs t) (hne : t ≠ 52) (hne2 : t ≠ 54) (o : Nat) (x : Value) : TreeSep H (w.setCell ⟨b, o, none⟩ x) base v T := by
  obtain ⟨pvs, h1, h2, h3, h4, h5⟩ := h
  exact ⟨pvs, h1, row_set h2 hH hne o x, fun j hj hj2 => (h3 j hj hj2).set hH hne2 o x, h4, h5⟩
theorem TreeS.set {w : World} {base b : Nat} {t : TypeId} {v : Value} {T : List NodeT} {cs : Array Value} (h : TreeS w base v T) (hH : Holds w b cs t) (hne : t ≠ 52) (hne2 : t ≠ 54) (o : Nat) (x : Value) : TreeS (w.setCell ⟨b, o, none⟩ x) base v T := by
  obtain ⟨_, h⟩ := h; exact ⟨_, h.set hH hne hne2 o x⟩
theorem TreeS.keeps {S : Nat → Prop} {w w' : World} {base : Nat} {v : Value} {T : List NodeT} (h : TreeS w base v T) (k : Keeps S w w') (hs : ∀ g, S g → w.heap.size ≤ g ∨ ∃ cs t, Holds w g cs t ∧ t ≠ 52 ∧ t ≠ 54) : TreeS w' base v T := by
  obtain ⟨H, pvs, h1, h2, h3, h4, h5⟩ := h
  have key : ∀ {e : TypeId} {size : Nat} {v : Value} {n : Nat} {xs : List Value}, w.ownsRow base e size v n xs → e = 52 ∨ e = 54 → w'.ownsRow base e size v n xs := by
    intro e size v n xs ho he
    refine ownsRow_keeps ho k (fun g hg hsg => ?_)
    rcases hs g hsg with h | ⟨cs, t, hH, n1, n2⟩
    · have := (ho.lt g hg).2; omega
    · refine owns_ne_holds ho hH ?_ hg
      rcases he with rfl | rfl
      · exact n1
      · exact n2
  exact ⟨H, pvs, h1, key h2 (.inl rfl), fun j hj hj2 => ⟨key (h3 j hj hj2).1 (.inr rfl), (h3 j hj hj2).2⟩, h4, h5⟩
theorem TreeS.nil (w : World) (base : Nat) : TreeS w base (.slice none 0 0) [] := ⟨0, [], rfl, World.ownsRow_nil _ _ _ _, fun k h => absurd h (Nat.not_lt_zero k), (fun _ h => by cases h), ⟨fun i j hi => absurd hi (Nat.not_lt_zero i), fun _ h => by cases h⟩⟩
/-- One node more, whose row of properties lies at H or behind. -/
theorem TreeSep.more {H : Nat} {w w' : World} {base : Nat} {v v' pv : Value} {T : List NodeT} {pvs : List Value} {n : NodeT} (h1 : pvs.length = T.length) (h2 : w.ownsRow base 52 3 v T.length (nodeCells T pvs))
    (h3 : ∀ k (_ : k < T.length) (_ : k < pvs.length), PropRow w base pvs[k] T[k].props) (h4 : ∀ n ∈ T, NodeOk n) (h5 : Sep H pvs) (hbH : base ≤ H) (hp : PropRow w H pv n.props) (hn : NodeOk n)
    (hown : w'.ownsRow base 52 3 v' (T.length + 1) (nodeCells T pvs ++ [.int .i64 n.parent, .string n.name, pv])) (hg : w.grownBy w' v.ownBlock) : TreeS w' base v' (T ++ [n]) := by
  have hpt : ∀ g, pv.ownBlock = some g → H ≤ g := fun g hg => (hp.1.lt g hg).1
  have hpr : ∀ k (_ : k < (T ++ [n]).length) (_ : k < (pvs ++ [pv]).length), PropRow w' base (pvs ++ [pv])[k] (T ++ [n])[k].props := by
    intro k hk hk2
    by_cases e : k < T.length
    · have : PropRow w' base pvs[k] T[k].props := (h3 k e (by omega)).apart h2 hg (by decide)
      simpa [List.getElem_append_left, e, h1] using this
    · have e2 : k = T.length := by simp at hk; omega
      subst e2
      have : PropRow w' base pv n.props := (hp.base hbH).apart h2 hg (by decide)
      simpa [List.getElem_append_right, h1] using this
  refine ⟨w'.heap.size, pvs ++ [pv], by simp [h1], ?_, hpr, ?_, ?_, ?_⟩
  · rw [nodeCells_snoc T pvs n pv h1, List.length_append]; exact hown
  · intro m hm
    rcases List.mem_append.1 hm with hm | hm
    · exact h4 m hm
    · simp at hm; subst hm; exact hn
  · intro i j hi hj hne g hgi hgj
    have hil : i < pvs.length + 1 := by simpa using hi
    have hjl : j < pvs.length + 1 := by simpa using hj
    by_cases ei : i < pvs.length
    · rw [List.getElem_append_left ei] at hgi
      by_cases ej : j < pvs.length
      · rw [List.getElem_append_left ej] at hgj
        exact h5.1 i j ei ej hne g hgi hgj
      · obtain rfl : j = pvs.length := by omega
        simp at hgj
        have := h5.2 _ (List.getElem_mem ei) g hgi
        have := hpt g hgj
        omega
    · obtain rfl : i = pvs.length := by omega
      have ej : j < pvs.length := by omega
      rw [List.getElem_append_left ej] at hgj
      simp at hgi
      have := h5.2 _ (List.getElem_mem ej) g hgj
      have := hpt g hgi
      omega
  · intro q hq g hgq
    obtain ⟨k, hk, rfl⟩ := List.getElem_of_mem hq
    exact ((hpr k (by simp at hk ⊢; omega) hk).1.lt g hgq).2
theorem owned_holds {w : World} {base : Nat} {e : TypeId} {size : Nat} {v : Value} {n : Nat} {xs : List Value} (h : w.ownsRow base e size v n xs) {g : Nat} (hg : v.ownBlock = some g) : base ≤ g ∧ ∃ cur, Holds w g cur e := by
  rcases h.2 with ⟨rfl, _⟩ | ⟨g', cap, cur, rfl, hb, hh, _⟩
  · cases hg
  · have : g' = g := Option.some.inj hg
    subst this
    exact ⟨hb, cur, hh⟩
/-- A node's row of properties replaced: what else changes lies in the old row or is new. -/
theorem TreeS.put {w : World} {base g n cap : Nat} {T : List NodeT} (h : TreeS w base (.slice (some ⟨g, 0, none⟩) n cap) T) (k : Nat) (hk : k < T.length) :
    ∃ pv, w.cell? ⟨g, k * 3 + 2, none⟩ = some pv ∧ PropRow w base pv T[k].props ∧ pv.ownBlock ≠ some g ∧ g < w.heap.size ∧ (∀ (w' : World), Keeps (fun b => pv.ownBlock = some b) w w' → w'.cell? ⟨g, k * 3 + 2, none⟩ = some pv ∧ w'.frozen? ⟨g, k * 3 + 2, none⟩ = false) ∧
      ∀ (w' : World) (rv : Value) (ps : List PropT), PropRow w' base rv ps → Keeps (fun b => pv.ownBlock = some b) w w' →
        TreeRow (w'.setCell ⟨g, k * 3 + 2, none⟩ rv) base (.slice (some ⟨g, 0, none⟩) n cap) (T.set k ⟨T[k].parent, T[k].name, ps⟩) := by
  obtain ⟨H, pvs, h1, h2, h3, h4, h5, h6⟩ := h
  have hn : n = T.length := by
    rcases h2.2 with ⟨e, _⟩ | ⟨_, _, _, e, _⟩
    · cases e
    · cases e; rfl
  subst hn
  obtain ⟨a0, a1, a2⟩ := nodeCells_at T pvs k hk (by omega) h1
  have hp := h3 k hk (by omega)
  have hgl : g < w.heap.size := (h2.lt g rfl).2
  have hne : ∀ j (hj : j < pvs.length), pvs[j].ownBlock ≠ some g := fun j hj e => by
    obtain ⟨_, cur, hH⟩ := owned_holds (h3 j (by omega) hj).1 e
    exact owns_ne_holds h2 hH (by decide) rfl
  refine ⟨pvs[k], (h2.cellAt _ (by omega)).trans a2, hp, hne k (by omega), hgl, ?_, ?_⟩
  · intro w' kk
    obtain ⟨cur, hH⟩ : ∃ cur, Holds w g cur 52 := by obtain ⟨_, cur, hH⟩ := owned_holds h2 rfl; exact ⟨cur, hH⟩
    exact ⟨(kk.cell (p := ⟨g, k * 3 + 2, none⟩) hgl (hne k (by omega))).trans ((h2.cellAt _ (by omega)).trans a2), (hH.keeps kk (hne k (by omega))).free _⟩
  · intro w' rv ps hr kk
    have h2' := ownsRow_keeps h2 kk (fun b hb e => hne k (by omega) (e.trans hb.symm))
    have h3' : ∀ j (_ : j < T.length) (_ : j < pvs.length), j ≠ k → PropRow w' base pvs[j] T[j].props := fun j hj hj2 hjk =>
      ⟨ownsRow_keeps (h3 j hj hj2).1 kk (fun b hb e => h5 j k hj2 (by omega) hjk b hb e), (h3 j hj hj2).2⟩
    obtain ⟨s1, s2⟩ := h2'.stored (k * 3 + 2) rv
    refine ⟨pvs.set k rv, by simpa using h1, ?_, ?_, ?_⟩
    · rw [nodeCells_set T pvs k hk ps rv h1, List.length_set]; exact s1
    · intro j hj hj2
      by_cases e : j = k
      · subst e
        simp only [List.getElem_set_self]
        exact hr.apart h2' s2 (by decide)
      · rw [List.getElem_set_ne (fun x => e x.symm), List.getElem_set_ne (fun x => e x.symm)]
        exact (h3' j (by simpa using hj) (by simpa using hj2) e).apart h2' s2 (by decide)
    · intro m hm
      rcases List.mem_or_eq_of_mem_set hm with hm | rfl
      · exact h4 m hm
      · exact h4 T[k] (List.getElem_mem hk)
end Go.Proofs.YtofhcgbihonckaaGreatDoor
