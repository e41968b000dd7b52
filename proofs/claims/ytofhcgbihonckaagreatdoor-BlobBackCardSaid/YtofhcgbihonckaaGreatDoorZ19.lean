/- Contracts of package blob: the reader's step . | blob: what a step keeps, the first place at which two lists differ: plain lemmas for Decode. | Contracts of package blob: head. | Contracts of package blob: Decode. | Contracts of bringuplaw08: awake. | The law BlobDamage: its walk. -/
import Derived.Test.YtofhcgbihonckaaGreatDoorZ18
import Derived.Test.YtofhcgbihonckaaGreatDoorZ3
import Derived.Deep.DeepCutAuto
import Derived.Deep.CutBlock
import Derived.Test.YtofhcgbihonckaaGreatDoorZ21
import Derived.Deep.CutRange

set_option linter.unusedVariables false
set_option linter.unusedSimpArgs false
set_option linter.unusedSectionVars false

namespace Go.Proofs.YtofhcgbihonckaaGreatDoor
open Go.RowKit Go.ChangeMaps

theorem row_cap {w : World} {base : Nat} {e : TypeId} {size : Nat} {a : Option Addr} {m cap : Nat} {n : Nat} {xs : List Value} (h : w.ownsRow base e size (.slice a m cap) n xs) : n ≤ cap := by
  rcases h.2 with ⟨e1, e2⟩ | ⟨_, _, _, e1, _, _, e2, _⟩
  · omega
  · cases e1; exact e2

set_option maxRecDepth 100000 in
set_option maxHeartbeats 8000000 in
theorem blob_step (rb base : Nat) (ba : Option Addr) (bc : Nat) (sa : Option Addr) (sc : Nat) (b s : List UInt8) (st : RdS) (nv ov cv : Value) (w : World) (h : RdAt w rb base (.slice ba b.length bc) (.slice sa s.length sc) st nv ov cv)
    (hi : RdIn w rb base (.slice ba b.length bc) (.slice sa s.length sc) b s) (hk : StOk b st) :
    Calls Tryz.prog 39 #[.pointer (some ⟨rb, 0, none⟩)] w (StepPost rb base (.slice ba b.length bc) (.slice sa s.length sc) (stepR b s st) w) := by
  obtain ⟨na, nc, rfl⟩ := h.2.1.shape
  obtain ⟨oa, oc, rfl⟩ := row_slice h.2.2.1
  obtain ⟨ca, cc, rfl⟩ := row_slice h.2.2.2
  have hgne : ∀ x, Value.ownBlock (.slice ba b.length bc) = some x → x ≠ rb := fun x hg => by have := hi.bel x hg; have := hi.rb; omega
  have x2 : w.cell? ⟨rb, 2, none⟩ = some (.int .i64 st.at_) := h.1.cell 2
  have hl := h.1.lt
  have h1c := blob_number rb ba bc (.slice sa s.length sc) st.at_ (.slice na st.nodes.length nc) (.slice oa st.opn.length oc) (.slice ca st.child.length cc) b w h.1 hi.bat hgne (by have := hi.bl; omega) (by have := hk.at_; have := hi.bl; omega)
  unfold NumPost at h1c
  have H1C := Lib.hid h1c
  have HH := Lib.hid h
  have HI := Lib.hid hi
  have HK := Lib.hid hk
  have ha := hk.at_
  have hbl := hi.bl
  clear h hi h1c
  obtain ⟨i0, hi0⟩ : ∃ i0, i0 = st.at_ := ⟨_, rfl⟩
  rw [← hi0] at x2 ha H1C
  have HI0 := Lib.hid hi0
  clear hi0 hk
  by_cases c1 : i0 + 4 ≤ b.length
  · have hr1 := Lib.hid (show nbR b i0 = .ok (numB b i0) from by unfold nbR; rw [if_pos c1])
    have hn1 := numB_le b i0
    obtain ⟨n1, hN1⟩ : ∃ n1, n1 = numB b i0 := ⟨_, rfl⟩
    rw [← hN1] at hr1 H1C hn1
    have HN1 := Lib.hid hN1
    have C1 := Lib.hid c1
    clear hN1
    go_enter Tryz.func39, Tryz.ntmps39
    go_wp2_with fail
    refine (by exact H1C.out : Calls _ _ _ _ _).mono ?_
    rintro e w1 ⟨h1, -⟩
    obtain ⟨rfl, hH1, hK1⟩ := h1 C1.out
    have hR1 := HH.out.turn hK1 (i0 + 4) hH1
    have y2 : w1.cell? ⟨rb, 2, none⟩ = some (.int .i64 ((i0 + 4 : Nat) : Int)) := hH1.cell 2
    rw [Int.natCast_add] at y2
    have y0 := hH1.cell 0
    have y3 : w1.cell? ⟨rb, 3, none⟩ = some (.slice na st.nodes.length nc) := hH1.cell 3
    have y4 : w1.cell? ⟨rb, 4, none⟩ = some (.slice oa st.opn.length oc) := hH1.cell 4
    have y5 : w1.cell? ⟨rb, 5, none⟩ = some (.slice ca st.child.length cc) := hH1.cell 5
    have hl1 := hH1.lt
    have HR1 := Lib.hid hR1
    have HH1 := Lib.hid hH1
    have HI1 := Lib.hid (HI.out.one hK1)
    have HK1 := Lib.hid (HI.out.turn2 hK1)
    clear hR1 hH1 hK1 h1
    have hp1 : stepR b s st = (if n1 = 1 ∧ (st.opn ≠ [] ∨ st.nodes.length = 0) then (match nodeR b { st with at_ := i0 + 4 } with | .error e => .error e | .ok x => .ok (false, x))
      else if n1 = 3 ∧ st.opn ≠ [] ∧ st.child.headD true = false then (match propR b s { st with at_ := i0 + 4 } with | .error e => .error e | .ok x => .ok (false, x))
      else if n1 = 2 ∧ st.opn ≠ [] then .ok (false, { st with at_ := i0 + 4, opn := st.opn.tail, child := st.child.tail })
      else if n1 = 9 ∧ st.opn = [] ∧ 0 < st.nodes.length then (if i0 + 4 = b.length then .ok (true, { st with at_ := i0 + 4 }) else .error (i0 + 4, 6))
      else .error (i0, 6)) := by
      unfold stepR; rw [← HI0.out, hr1.out]; simp only []; cases nodeR b { st with at_ := i0 + 4 } <;> cases propR b s { st with at_ := i0 + 4 } <;> rfl
    by_cases k1 : n1 = 1 ∧ (st.opn ≠ [] ∨ st.nodes.length = 0)
    · have hp := Lib.hid (hp1.trans (if_pos k1))
      have d1 : ((n1 : Int) == 1) = true := by rw [beq_iff_eq]; omega
      by_cases k2 : st.opn = []
      · have d2 : decide ((0 : Int) < (st.opn.length : Int)) = false := by simp [k2]
        have d3 : ((st.nodes.length : Int) == 0) = true := by rw [beq_iff_eq]; have := k1.2.resolve_left (fun e => e k2); omega
        have K2 := Lib.hid k2
        have d2' : decide (0 < st.opn.length) = false := by simp [k2]
        clear k1 k2 hp1
        have hcall := blob_node rb base ba bc (.slice sa s.length sc) b s { st with at_ := i0 + 4 } (.slice na st.nodes.length nc) (.slice oa st.opn.length oc) (.slice ca st.child.length cc) w1 HR1.out HI1.out (by show 4 ≤ i0 + 4; omega) (by show i0 + 4 ≤ b.length; exact C1.out) HK.out.nodes (by have := HK.out.opn; show st.opn.length ≤ 100; omega) HK.out.child (fun o ho => by have := HK.out.low o ho; have := HK.out.nodes; omega)
        have HCALL := Lib.hid hcall
        clear hcall
        go_wp2_with fail
        refine (by exact HCALL.out : Calls _ _ _ _ _).mono ?_
        rintro e w2 ⟨hK2, h2⟩
        generalize nodeR b { st with at_ := i0 + 4 } = R at hp h2
        cases R with
        | error pe =>
          obtain ⟨p, er⟩ := pe
          obtain ⟨rfl, hq⟩ := h2
          go_wp2_with fail
          go_ret2
          rw [hp.out]
          exact ⟨HK1.out.trans hK2 (fun _ _ e => e), false, rfl, hq⟩
        | ok x =>
          obtain ⟨rfl, hq⟩ := h2
          go_wp2_with fail
          go_ret2
          rw [hp.out]
          exact ⟨HK1.out.trans hK2 (fun _ _ e => e), rfl, hq⟩
      · have hop : 0 < st.opn.length := List.length_pos_iff.2 k2
        have d2 : decide ((0 : Int) < (st.opn.length : Int)) = true := by simp; omega
        have d2' : decide (0 < st.opn.length) = true := by simp; omega
        clear k1 k2 hp1
        have hcall := blob_node rb base ba bc (.slice sa s.length sc) b s { st with at_ := i0 + 4 } (.slice na st.nodes.length nc) (.slice oa st.opn.length oc) (.slice ca st.child.length cc) w1 HR1.out HI1.out (by show 4 ≤ i0 + 4; omega) (by show i0 + 4 ≤ b.length; exact C1.out) HK.out.nodes (by have := HK.out.opn; show st.opn.length ≤ 100; omega) HK.out.child (fun o ho => by have := HK.out.low o ho; have := HK.out.nodes; omega)
        have HCALL := Lib.hid hcall
        clear hcall
        go_wp2_with fail
        refine (by exact HCALL.out : Calls _ _ _ _ _).mono ?_
        rintro e w2 ⟨hK2, h2⟩
        generalize nodeR b { st with at_ := i0 + 4 } = R at hp h2
        cases R with
        | error pe =>
          obtain ⟨p, er⟩ := pe
          obtain ⟨rfl, hq⟩ := h2
          go_wp2_with fail
          go_ret2
          rw [hp.out]
          exact ⟨HK1.out.trans hK2 (fun _ _ e => e), false, rfl, hq⟩
        | ok x =>
          obtain ⟨rfl, hq⟩ := h2
          go_wp2_with fail
          go_ret2
          rw [hp.out]
          exact ⟨HK1.out.trans hK2 (fun _ _ e => e), rfl, hq⟩
    · have hp2 := hp1.trans (if_neg k1)
      by_cases k2 : n1 = 3 ∧ st.opn ≠ [] ∧ st.child.headD true = false
      · have hp := Lib.hid (hp2.trans (if_pos k2))
        obtain ⟨k2, k3, k4⟩ := k2
        have d1 : ((n1 : Int) == 1) = false := by rw [beq_eq_false_iff_ne]; omega
        have d3 : ((n1 : Int) == 3) = true := by rw [beq_iff_eq]; omega
        obtain ⟨o, ro, hop⟩ : ∃ o ro, st.opn = o :: ro := by
          cases he : st.opn with
          | nil => exact absurd he k3
          | cons o ro => exact ⟨o, ro, rfl⟩
        obtain ⟨rc, hoc⟩ : ∃ rc, st.child = false :: rc := by
          cases he : st.child with
          | nil => rw [he] at k4; cases k4
          | cons c0 rc => rw [he] at k4; exact ⟨rc, by rw [show c0 = false from k4]⟩
        have hlo : st.opn.length = ro.length + 1 := by rw [hop]; rfl
        have hlc : st.child.length = ro.length + 1 := by rw [HK.out.child, hlo]
        have hrc : rc.length = ro.length := by rw [hoc] at hlc; simpa using hlc
        have hC : w1.ownsRow base 4 1 (.slice ca st.child.length cc) st.child.length ((rc.reverse.map fun (c : Bool) => Value.bool c) ++ [.bool false]) := by
          have := (show w1.ownsRow base 4 1 (.slice ca st.child.length cc) st.child.length (st.child.reverse.map fun (c : Bool) => Value.bool c) from HR1.out.2.2.2)
          rw [show (st.child.reverse.map fun (c : Bool) => Value.bool c) = (rc.reverse.map fun (c : Bool) => Value.bool c) ++ [.bool false] from by rw [hoc]; simp] at this
          exact this
        obtain ⟨gc, cc', e2, hgc1, hgc2⟩ := hC.form (by omega)
        cases e2
        have cz : w1.cell? ⟨gc, ro.length, none⟩ = some (.bool false) := by
          rw [hC.cellAt ro.length (by omega), List.getElem?_append_right (by simp [hrc])]
          simp [hrc]
        have hkb : ro.length + 1 ≤ 9 := by rw [← hlo]; exact HK.out.opn
        have d2 : decide ((0 : Int) < (st.opn.length : Int)) = true := by simp; omega
        have d2' : decide (0 < st.opn.length) = true := by simp; omega
        have j1 : IntKind.i64.wrap ((st.child.length : Int) - 1) = (ro.length : Int) := by rw [IntWalk.i64_in _ (by omega)]; omega
        have i2 : (ro.length : Int) < (st.child.length : Int) := by omega
        have HOP := Lib.hid hop
        have HOC := Lib.hid hoc
        have HLO := Lib.hid hlo
        have HLC := Lib.hid hlc
        clear k1 k2 k3 k4 hp1 hp2 hop hoc hlo hlc hrc hC
        go_wp2_with fail
        go_quiet (fail)
        go_wp2_with fail
        generalize hw2 : w1.drewN _ = w2
        have hD : Keeps (fun _ => False) w1 w2 := by rw [← hw2]; exact (Keeps.refl _ w1).drewN _
        have ho := HK.out.low o (by rw [HOP.out]; exact List.mem_cons_self)
        have hcall := blob_property rb base ba bc sa sc b s { st with at_ := i0 + 4 } (.slice na st.nodes.length nc) (.slice oa st.opn.length oc) _ w2 (HR1.out.new (hD.below (Nat.le_refl _) (fun _ _ e => e))) (HI1.out.turn (hD.mono (fun _ _ e => e.elim))) (by show i0 + 4 ≤ b.length; exact C1.out) o ro HOP.out ho HK.out.nodes (by have := HK.out.opn; show st.opn.length ≤ 100; omega) (by have := HK.out.props _ (List.getElem_mem ho); rw [← HI0.out] at this; show (st.nodes[o]).props.length ≤ 100000; omega)
        have HCALL := Lib.hid hcall
        have HK2 := Lib.hid (HK1.out.trans (hD.mono (S := fun g => base ≤ g) (fun _ _ e => e.elim)) (fun _ _ e => e))
        clear hcall hD hw2
        refine (by exact HCALL.out : Calls _ _ _ _ _).mono ?_
        rintro e w3 ⟨hK2, h2⟩
        generalize propR b s { st with at_ := i0 + 4 } = R at hp h2
        cases R with
        | error pe =>
          obtain ⟨p, er⟩ := pe
          obtain ⟨rfl, hq⟩ := h2
          go_wp2_with fail
          go_ret2
          rw [hp.out]
          exact ⟨HK2.out.trans hK2 (fun _ _ e => e), false, rfl, hq⟩
        | ok x =>
          obtain ⟨rfl, hq⟩ := h2
          go_wp2_with fail
          go_ret2
          rw [hp.out]
          exact ⟨HK2.out.trans hK2 (fun _ _ e => e), rfl, hq⟩
      · have hp3 := hp2.trans (if_neg k2)
        by_cases k3 : n1 = 2 ∧ st.opn ≠ []
        · have hp := Lib.hid (hp3.trans (if_pos k3))
          obtain ⟨k3, k4⟩ := k3
          have d1 : ((n1 : Int) == 1) = false := by rw [beq_eq_false_iff_ne]; omega
          have d3 : ((n1 : Int) == 3) = false := by rw [beq_eq_false_iff_ne]; omega
          have d4 : ((n1 : Int) == 2) = true := by rw [beq_iff_eq]; omega
          have hop : 0 < st.opn.length := List.length_pos_iff.2 k4
          have d2 : decide ((0 : Int) < (st.opn.length : Int)) = true := by simp; omega
          have d2' : decide (0 < st.opn.length) = true := by simp; omega
          obtain ⟨o, ro, hope⟩ : ∃ o ro, st.opn = o :: ro := by
            cases he : st.opn with
            | nil => exact absurd he k4
            | cons o ro => exact ⟨o, ro, rfl⟩
          have hlo : st.opn.length = ro.length + 1 := by rw [hope]; rfl
          have hlc : st.child.length = ro.length + 1 := by rw [HK.out.child, hlo]
          obtain ⟨c0, rc, hoc⟩ : ∃ c0 rc, st.child = c0 :: rc := by
            cases he : st.child with
            | nil => rw [he] at hlc; cases hlc
            | cons c0 rc => exact ⟨c0, rc, rfl⟩
          have hrc : rc.length = ro.length := by rw [hoc] at hlc; simpa using hlc
          have hcp1 := row_cap (show w1.ownsRow base 3 1 (.slice oa st.opn.length oc) st.opn.length _ from HR1.out.2.2.1)
          have hcp2 := row_cap (show w1.ownsRow base 4 1 (.slice ca st.child.length cc) st.child.length _ from HR1.out.2.2.2)
          obtain ⟨go, oc', e1, hgo1, hgo2⟩ := (show w1.ownsRow base 3 1 (.slice oa st.opn.length oc) st.opn.length _ from HR1.out.2.2.1).form (by omega)
          cases e1
          obtain ⟨gc, cc', e2, hgc1, hgc2⟩ := (show w1.ownsRow base 4 1 (.slice ca st.child.length cc) st.child.length _ from HR1.out.2.2.2).form (by omega)
          cases e2
          have hkb : ro.length + 1 ≤ 9 := by rw [← hlo]; exact HK.out.opn
          have HOP := Lib.hid hope
          have HOC := Lib.hid hoc
          have HLO := Lib.hid hlo
          have HLC := Lib.hid hlc
          have HRC := Lib.hid hrc
          clear k1 k2 k3 k4 hp1 hp2 hp3 hope hoc hlo hlc hrc
          go_wp2_with fail
          go_quiet (fail)
          go_wp2_with fail
          generalize hw2 : w1.drewN _ = w2
          have hD : Keeps (fun _ => False) w1 w2 := by rw [← hw2]; exact (Keeps.refl _ w1).drewN _
          have hR2 : RdAt w1 rb base (.slice ba b.length bc) (.slice sa s.length sc) ⟨i0 + 4, st.nodes, o :: ro, c0 :: rc⟩ (.slice na st.nodes.length nc) (.slice (some ⟨go, 0, none⟩) (ro.length + 1) oc) (.slice (some ⟨gc, 0, none⟩) (ro.length + 1) cc) := by
            have := HR1.out
            rw [HLO.out, HLC.out, HOP.out, HOC.out] at this
            exact this
          have hH2 := hR2.1.keeps hD (fun e => e)
          have HR2 := Lib.hid hR2
          clear hR2
          refine wp_region_any (by kernel_rfl) ?_
          refine wpAny_ops (ops' := sqOps) (by kernel_rfl) ?_
          refine sq_region11 rb (i0 + 4) ro.length go oc gc cc (.slice ba b.length bc) (.slice sa s.length sc) (.slice na st.nodes.length nc) w2 _ _ rfl (by omega) (by have := HLO.out; omega) (by have := HLC.out; omega) rfl (hH2.keeps ((Keeps.refl (fun _ => False) w2).drew) (fun e => e)) ((Keeps.refl (fun _ => False) w2).drew) ?_
          rintro c w4 gh hsb ⟨w5, rfl, hk5, hH5⟩
          obtain ⟨hRO, hKO⟩ := RdAt.popped HR2.out rfl HRC.out (hD.trans hk5 (fun _ _ e => e)) hH5 HI1.out.rb
          obtain ⟨y70, y71, y72, y73, y74, y75, y76, y77, y78, y79, y80, y81, y82, y83, y84, y85, y86, y87, y88, y89, y90, y91, y92, y93, y94, y95, y96, y97, rfl⟩ := hsb.ex [70, 71, 72, 73, 74, 75, 76, 77, 78, 79, 80, 81, 82, 83, 84, 85, 86, 87, 88, 89, 90, 91, 92, 93, 94, 95, 96, 97] (by kernel_rfl)
          simp only [List.setIfInBounds_toArray, List.set_cons_zero, List.set_cons_succ]
          generalize (w5.setCell ⟨rb, 4, none⟩ _).setCell ⟨rb, 5, none⟩ _ = w6 at *
          have hst : ({ st with at_ := i0 + 4, opn := st.opn.tail, child := st.child.tail } : RdS) = ⟨i0 + 4, st.nodes, ro, rc⟩ := by rw [HOP.out, HOC.out]; rfl
          have HRO := Lib.hid hRO
          have HKO := Lib.hid (HK1.out.trans hKO (fun _ _ e => e))
          have HST := Lib.hid hst
          clear hRO hKO hk5 hH5 hH2 hD hw2 hsb hst
          go_wp2_with fail
          go_ret2
          rw [hp.out, HST.out]
          exact ⟨HKO.out, rfl, _, _, _, HRO.out⟩
        · have hp4 := hp3.trans (if_neg k3)
          by_cases k4 : n1 = 9 ∧ st.opn = [] ∧ 0 < st.nodes.length
          · have hp5 := hp4.trans (if_pos k4)
            obtain ⟨k4, k5, k6⟩ := k4
            have d1 : ((n1 : Int) == 1) = false := by rw [beq_eq_false_iff_ne]; omega
            have d3 : ((n1 : Int) == 3) = false := by rw [beq_eq_false_iff_ne]; omega
            have d4 : ((n1 : Int) == 2) = false := by rw [beq_eq_false_iff_ne]; omega
            have d5 : ((n1 : Int) == 9) = true := by rw [beq_iff_eq]; omega
            have d2 : decide ((0 : Int) < (st.opn.length : Int)) = false := by simp [k5]
            have d2' : decide (0 < st.opn.length) = false := by simp [k5]
            have d6 : decide ((0 : Int) < (st.nodes.length : Int)) = true := by simp; omega
            have d6' : decide (0 < st.nodes.length) = true := by simp; omega
            have hz0 : w1.cell? ⟨rb, 0, none⟩ = some (.slice ba b.length bc) := HR1.out.1.cell 0
            have hac : IntKind.i64.wrap ((i0 : Int) + 4) = (i0 : Int) + 4 := IntWalk.i64_in _ (by omega)
            by_cases k7 : i0 + 4 = b.length
            · have hp := Lib.hid (hp5.trans (if_pos k7))
              have d7 : (((i0 : Int) + 4) == (b.length : Int)) = true := by rw [beq_iff_eq]; omega
              clear k1 k2 k3 k4 k5 k6 hp1 hp2 hp3 hp4 hp5 k7
              go_wp2_with fail
              go_quiet (fail)
              go_wp2_with fail
              generalize hw2 : w1.drewN _ = w2
              have hD : Keeps (fun _ => False) w1 w2 := by rw [← hw2]; exact (Keeps.refl _ w1).drewN _
              have z2 : w2.cell? ⟨rb, 2, none⟩ = some (.int .i64 ((i0 : Int) + 4)) := by rw [← hw2]; simpa using y2
              have z0 : w2.cell? ⟨rb, 0, none⟩ = some (.slice ba b.length bc) := by rw [← hw2]; simpa using hz0
              have hR2 := HR1.out.new (hD.below (Nat.le_refl _) (fun _ _ e => e))
              have hl2 := hR2.1.lt
              have HR2 := Lib.hid hR2
              have HK2 := Lib.hid (HK1.out.trans (hD.mono (S := fun g => base ≤ g) (fun _ _ e => e.elim)) (fun _ _ e => e))
              clear hR2 hD hw2 y0 y2 y3 y4 y5 hl1 hz0
              go_quiet (fail)
              go_wp2_with fail
              go_ret2
              rw [hp.out]
              exact ⟨HK2.out.trans ((Keeps.refl _ w2).drewN _) (fun _ _ e => e), rfl, _, _, _, HR2.out.new (((Keeps.refl (fun _ => False) w2).drewN _).below (Nat.le_refl _) (fun _ _ e => e))⟩
            · have hp := Lib.hid (hp5.trans (if_neg k7))
              have d7 : (((i0 : Int) + 4) == (b.length : Int)) = false := by rw [beq_eq_false_iff_ne]; omega
              clear k1 k2 k3 k4 k5 k6 hp1 hp2 hp3 hp4 hp5 k7
              go_wp2_with fail
              go_quiet (fail)
              go_wp2_with fail
              generalize hw2 : w1.drewN _ = w2
              have hD : Keeps (fun _ => False) w1 w2 := by rw [← hw2]; exact (Keeps.refl _ w1).drewN _
              have z2 : w2.cell? ⟨rb, 2, none⟩ = some (.int .i64 ((i0 : Int) + 4)) := by rw [← hw2]; simpa using y2
              have z0 : w2.cell? ⟨rb, 0, none⟩ = some (.slice ba b.length bc) := by rw [← hw2]; simpa using hz0
              have hR2 := HR1.out.new (hD.below (Nat.le_refl _) (fun _ _ e => e))
              have hl2 := hR2.1.lt
              have HR2 := Lib.hid hR2
              have HK2 := Lib.hid (HK1.out.trans (hD.mono (S := fun g => base ≤ g) (fun _ _ e => e.elim)) (fun _ _ e => e))
              have HFL := Lib.hid (fun (wx : World) (hx : Holds wx rb (rdC (.slice ba b.length bc) (.slice sa s.length sc) (i0 + 4) (.slice na st.nodes.length nc) (.slice oa st.opn.length oc) (.slice ca st.child.length cc) 0 0) 75) => blob_fail rb (.slice ba b.length bc) (.slice sa s.length sc) (i0 + 4) (.slice na st.nodes.length nc) (.slice oa st.opn.length oc) (.slice ca st.child.length cc) 0 ((i0 : Int) + 4) 6 wx hx)
              clear hR2 hD hw2 y0 y2 y3 y4 y5 hl1 hz0
              go_region_held3 (fun wx => wx.cell? ⟨rb, 0, none⟩ = some (.slice ba b.length bc) ∧ wx.cell? ⟨rb, 2, none⟩ = some (.int .i64 ((i0 : Int) + 4)))
                (first
                | exact ⟨z0, z2⟩
                | exact ⟨hH3.cell 0, hH3.cell 2⟩
                | go_keep)
                ((go_at_call 75; refine (HFL.out _ (by exact HR2.out.1.drew)).mono ?_; rintro e w3 ⟨rfl, hH3, hK3⟩))
              all_goals
                have hK4 : Keeps (· = rb) w2 w3 := ((Keeps.refl (· = rb) w2).drew).trans hK3 (fun _ _ e => e)
                go_wp2_with fail
                go_ret2
                rw [hp.out]
                exact ⟨HK2.out.trans (HI.out.turn2 hK4) (fun _ _ e => e), true, rfl, _, _, _, _, hH3⟩
          · have hp := Lib.hid (hp4.trans (if_neg k4))
            by_cases e1 : n1 = 1
            · have ko : st.opn = [] := Classical.byContradiction fun h => k1 ⟨e1, .inl h⟩
              have d0 : ((st.nodes.length : Int) == 0) = false := by rw [beq_eq_false_iff_ne]; intro h; exact k1 ⟨e1, .inr (by omega)⟩
              have d1 : ((n1 : Int) == 1) = true := by rw [beq_iff_eq]; omega
              have d3 : ((n1 : Int) == 3) = false := by rw [beq_eq_false_iff_ne]; omega
              have d4 : ((n1 : Int) == 2) = false := by rw [beq_eq_false_iff_ne]; omega
              have d5 : ((n1 : Int) == 9) = false := by rw [beq_eq_false_iff_ne]; omega
              have d2 : decide ((0 : Int) < (st.opn.length : Int)) = false := by simp [ko]
              have d2' : decide (0 < st.opn.length) = false := by simp [ko]
              clear k1 k2 k3 k4 hp1 hp2 hp3 hp4 ko e1
              go_wp2_with fail
              go_quiet (fail)
              go_wp2_with fail
              refine (blob_fail rb (.slice ba b.length bc) (.slice sa s.length sc) (i0 + 4) _ _ _ 0 _ 6 _ (by exact HR1.out.1.keeps ((Keeps.refl (fun _ => False) w1).drewN _) (fun e => e))).mono ?_
              rintro e w3 ⟨rfl, hH3, hK3⟩
              go_wp2_with fail
              go_ret2
              rw [hp.out]
              exact ⟨(HK1.out.trans ((Keeps.refl (fun g => base ≤ g) w1).drewN _) (fun _ _ e => e)).trans (HI.out.turn2 hK3) (fun _ _ e => e), false, rfl, _, _, _, _, hH3⟩
            · by_cases e2 : n1 = 3
              · by_cases ko : st.opn = []
                · skip
                  have d1 : ((n1 : Int) == 1) = false := by rw [beq_eq_false_iff_ne]; omega
                  have d3 : ((n1 : Int) == 3) = true := by rw [beq_iff_eq]; omega
                  have d4 : ((n1 : Int) == 2) = false := by rw [beq_eq_false_iff_ne]; omega
                  have d5 : ((n1 : Int) == 9) = false := by rw [beq_eq_false_iff_ne]; omega
                  have d2 : decide ((0 : Int) < (st.opn.length : Int)) = false := by simp [ko]
                  have d2' : decide (0 < st.opn.length) = false := by simp [ko]
                  clear k1 k2 k3 k4 hp1 hp2 hp3 hp4 ko e1 e2
                  go_wp2_with fail
                  go_quiet (fail)
                  go_wp2_with fail
                  refine (blob_fail rb (.slice ba b.length bc) (.slice sa s.length sc) (i0 + 4) _ _ _ 0 _ 6 _ (by exact HR1.out.1.keeps ((Keeps.refl (fun _ => False) w1).drewN _) (fun e => e))).mono ?_
                  rintro e w3 ⟨rfl, hH3, hK3⟩
                  go_wp2_with fail
                  go_ret2
                  rw [hp.out]
                  exact ⟨(HK1.out.trans ((Keeps.refl (fun g => base ≤ g) w1).drewN _) (fun _ _ e => e)).trans (HI.out.turn2 hK3) (fun _ _ e => e), false, rfl, _, _, _, _, hH3⟩
                · have hc1 : st.child.headD true = true := by
                    cases hh : st.child.headD true with
                    | true => rfl
                    | false => exact absurd ⟨e2, ko, hh⟩ k2
                  obtain ⟨rc, hoc⟩ : ∃ rc, st.child = true :: rc := by
                    cases he : st.child with
                    | nil => have h1 := HK.out.child; rw [he] at h1; exact absurd (List.length_eq_zero_iff.1 h1.symm) ko
                    | cons c0 rc => rw [he] at hc1; exact ⟨rc, by rw [show c0 = true from hc1]⟩
                  obtain ⟨kk, hkk⟩ : ∃ kk, st.child.length = kk + 1 := ⟨rc.length, by rw [hoc]; rfl⟩
                  have hrc : rc.length = kk := by rw [hoc] at hkk; simpa using hkk
                  have hC : w1.ownsRow base 4 1 (.slice ca st.child.length cc) st.child.length ((rc.reverse.map fun (c : Bool) => Value.bool c) ++ [.bool true]) := by
                    have := (show w1.ownsRow base 4 1 (.slice ca st.child.length cc) st.child.length (st.child.reverse.map fun (c : Bool) => Value.bool c) from HR1.out.2.2.2)
                    rw [show (st.child.reverse.map fun (c : Bool) => Value.bool c) = (rc.reverse.map fun (c : Bool) => Value.bool c) ++ [.bool true] from by rw [hoc]; simp] at this
                    exact this
                  obtain ⟨gc, cc', e3, hgc1, hgc2⟩ := hC.form (by omega)
                  cases e3
                  have cz : w1.cell? ⟨gc, kk, none⟩ = some (.bool true) := by
                    rw [hC.cellAt kk (by omega), List.getElem?_append_right (by simp [hrc])]
                    simp [hrc]
                  have hkb : kk + 1 ≤ 9 := by rw [← hkk, HK.out.child]; exact HK.out.opn
                  have j1 : IntKind.i64.wrap ((st.child.length : Int) - 1) = (kk : Int) := by rw [IntWalk.i64_in _ (by omega)]; omega
                  have i2 : (kk : Int) < (st.child.length : Int) := by omega
                  have d1 : ((n1 : Int) == 1) = false := by rw [beq_eq_false_iff_ne]; omega
                  have d3 : ((n1 : Int) == 3) = true := by rw [beq_iff_eq]; omega
                  have d4 : ((n1 : Int) == 2) = false := by rw [beq_eq_false_iff_ne]; omega
                  have d5 : ((n1 : Int) == 9) = false := by rw [beq_eq_false_iff_ne]; omega
                  have hop : 0 < st.opn.length := List.length_pos_iff.2 ko
                  have d2 : decide ((0 : Int) < (st.opn.length : Int)) = true := by simp; omega
                  have d2' : decide (0 < st.opn.length) = true := by simp; omega
                  clear k1 k2 k3 k4 hp1 hp2 hp3 hp4 ko e1 e2 hc1 hoc hkk hrc hC hop
                  go_wp2_with fail
                  go_quiet (fail)
                  go_wp2_with fail
                  refine (blob_fail rb (.slice ba b.length bc) (.slice sa s.length sc) (i0 + 4) _ _ _ 0 _ 6 _ (by exact HR1.out.1.keeps ((Keeps.refl (fun _ => False) w1).drewN _) (fun e => e))).mono ?_
                  rintro e w3 ⟨rfl, hH3, hK3⟩
                  go_wp2_with fail
                  go_ret2
                  rw [hp.out]
                  exact ⟨(HK1.out.trans ((Keeps.refl (fun g => base ≤ g) w1).drewN _) (fun _ _ e => e)).trans (HI.out.turn2 hK3) (fun _ _ e => e), false, rfl, _, _, _, _, hH3⟩
              · by_cases e3 : n1 = 2
                · have ko : st.opn = [] := Classical.byContradiction fun h => k3 ⟨e3, h⟩
                  have d1 : ((n1 : Int) == 1) = false := by rw [beq_eq_false_iff_ne]; omega
                  have d3 : ((n1 : Int) == 3) = false := by rw [beq_eq_false_iff_ne]; omega
                  have d4 : ((n1 : Int) == 2) = true := by rw [beq_iff_eq]; omega
                  have d5 : ((n1 : Int) == 9) = false := by rw [beq_eq_false_iff_ne]; omega
                  have d2 : decide ((0 : Int) < (st.opn.length : Int)) = false := by simp [ko]
                  have d2' : decide (0 < st.opn.length) = false := by simp [ko]
                  clear k1 k2 k3 k4 hp1 hp2 hp3 hp4 ko e1 e2 e3
                  go_wp2_with fail
                  go_quiet (fail)
                  go_wp2_with fail
                  refine (blob_fail rb (.slice ba b.length bc) (.slice sa s.length sc) (i0 + 4) _ _ _ 0 _ 6 _ (by exact HR1.out.1.keeps ((Keeps.refl (fun _ => False) w1).drewN _) (fun e => e))).mono ?_
                  rintro e w3 ⟨rfl, hH3, hK3⟩
                  go_wp2_with fail
                  go_ret2
                  rw [hp.out]
                  exact ⟨(HK1.out.trans ((Keeps.refl (fun g => base ≤ g) w1).drewN _) (fun _ _ e => e)).trans (HI.out.turn2 hK3) (fun _ _ e => e), false, rfl, _, _, _, _, hH3⟩
                · by_cases e4 : n1 = 9
                  · by_cases ko : st.opn = []
                    · have hnn : ¬ 0 < st.nodes.length := fun h => k4 ⟨e4, ko, h⟩
                      have d6 : decide ((0 : Int) < (st.nodes.length : Int)) = false := by rw [decide_eq_false_iff_not]; omega
                      have d6' : decide (0 < st.nodes.length) = false := by rw [decide_eq_false_iff_not]; omega
                      have d1 : ((n1 : Int) == 1) = false := by rw [beq_eq_false_iff_ne]; omega
                      have d3 : ((n1 : Int) == 3) = false := by rw [beq_eq_false_iff_ne]; omega
                      have d4 : ((n1 : Int) == 2) = false := by rw [beq_eq_false_iff_ne]; omega
                      have d5 : ((n1 : Int) == 9) = true := by rw [beq_iff_eq]; omega
                      have d2 : decide ((0 : Int) < (st.opn.length : Int)) = false := by simp [ko]
                      have d2' : decide (0 < st.opn.length) = false := by simp [ko]
                      clear k1 k2 k3 k4 hp1 hp2 hp3 hp4 ko e1 e2 e3 e4 hnn
                      go_wp2_with fail
                      go_quiet (fail)
                      go_wp2_with fail
                      refine (blob_fail rb (.slice ba b.length bc) (.slice sa s.length sc) (i0 + 4) _ _ _ 0 _ 6 _ (by exact HR1.out.1.keeps ((Keeps.refl (fun _ => False) w1).drewN _) (fun e => e))).mono ?_
                      rintro e w3 ⟨rfl, hH3, hK3⟩
                      go_wp2_with fail
                      go_ret2
                      rw [hp.out]
                      exact ⟨(HK1.out.trans ((Keeps.refl (fun g => base ≤ g) w1).drewN _) (fun _ _ e => e)).trans (HI.out.turn2 hK3) (fun _ _ e => e), false, rfl, _, _, _, _, hH3⟩
                    · skip
                      have d1 : ((n1 : Int) == 1) = false := by rw [beq_eq_false_iff_ne]; omega
                      have d3 : ((n1 : Int) == 3) = false := by rw [beq_eq_false_iff_ne]; omega
                      have d4 : ((n1 : Int) == 2) = false := by rw [beq_eq_false_iff_ne]; omega
                      have d5 : ((n1 : Int) == 9) = true := by rw [beq_iff_eq]; omega
                      have hop : 0 < st.opn.length := List.length_pos_iff.2 ko
                      have d2 : decide ((0 : Int) < (st.opn.length : Int)) = true := by simp; omega
                      have d2' : decide (0 < st.opn.length) = true := by simp; omega
                      clear k1 k2 k3 k4 hp1 hp2 hp3 hp4 ko e1 e2 e3 e4 hop
                      go_wp2_with fail
                      go_quiet (fail)
                      go_wp2_with fail
                      refine (blob_fail rb (.slice ba b.length bc) (.slice sa s.length sc) (i0 + 4) _ _ _ 0 _ 6 _ (by exact HR1.out.1.keeps ((Keeps.refl (fun _ => False) w1).drewN _) (fun e => e))).mono ?_
                      rintro e w3 ⟨rfl, hH3, hK3⟩
                      go_wp2_with fail
                      go_ret2
                      rw [hp.out]
                      exact ⟨(HK1.out.trans ((Keeps.refl (fun g => base ≤ g) w1).drewN _) (fun _ _ e => e)).trans (HI.out.turn2 hK3) (fun _ _ e => e), false, rfl, _, _, _, _, hH3⟩
                  · skip
                    have d1 : ((n1 : Int) == 1) = false := by rw [beq_eq_false_iff_ne]; omega
                    have d3 : ((n1 : Int) == 3) = false := by rw [beq_eq_false_iff_ne]; omega
                    have d4 : ((n1 : Int) == 2) = false := by rw [beq_eq_false_iff_ne]; omega
                    have d5 : ((n1 : Int) == 9) = false := by rw [beq_eq_false_iff_ne]; omega
                    clear k1 k2 k3 k4 hp1 hp2 hp3 hp4 e1 e2 e3 e4
                    go_wp2_with fail
                    go_quiet (fail)
                    go_wp2_with fail
                    refine (blob_fail rb (.slice ba b.length bc) (.slice sa s.length sc) (i0 + 4) _ _ _ 0 _ 6 _ (by exact HR1.out.1.keeps ((Keeps.refl (fun _ => False) w1).drewN _) (fun e => e))).mono ?_
                    rintro e w3 ⟨rfl, hH3, hK3⟩
                    go_wp2_with fail
                    go_ret2
                    rw [hp.out]
                    exact ⟨(HK1.out.trans ((Keeps.refl (fun g => base ≤ g) w1).drewN _) (fun _ _ e => e)).trans (HI.out.turn2 hK3) (fun _ _ e => e), false, rfl, _, _, _, _, hH3⟩
  · have hp := Lib.hid (show stepR b s st = .error (b.length, 21) from by unfold stepR nbR; rw [← HI0.out, if_neg c1])
    have C1 := Lib.hid c1
    clear c1
    go_enter Tryz.func39, Tryz.ntmps39
    go_wp2_with fail
    refine (by exact H1C.out : Calls _ _ _ _ _).mono ?_
    rintro e w1 ⟨-, h1⟩
    obtain ⟨rfl, hH1, hK1⟩ := h1 C1.out
    go_wp2_with fail
    go_ret2
    rw [hp.out]
    exact ⟨HI.out.turn2 hK1, false, rfl, _, _, _, _, hH1⟩
end Go.Proofs.YtofhcgbihonckaaGreatDoor

namespace Go.Proofs.YtofhcgbihonckaaGreatDoor
open Go.RowKit Go.ChangeMaps

theorem nodeR_adv {b : List UInt8} {st st' : RdS} (h : nodeR b st = .ok st') : st.at_ ≤ st'.at_ := by
  unfold nodeR at h
  split at h
  · cases h
  · cases ht : textR b st.at_ with
    | error e => rw [ht] at h; cases h
    | ok tj =>
      obtain ⟨t, j⟩ := tj
      rw [ht] at h
      cases h
      have := (textR_ok ht).2
      show st.at_ ≤ j
      omega
theorem propR_adv {b s : List UInt8} {st st' : RdS} (h : propR b s st = .ok st') : st.at_ ≤ st'.at_ := by
  unfold propR at h
  cases h1 : nbR b st.at_ with
  | error e => rw [h1] at h; cases h
  | ok n1 =>
    rw [h1] at h
    simp only [] at h
    split at h
    · cases h
    · cases h2 : nbR b (st.at_ + 4) with
      | error e => rw [h2] at h; cases h
      | ok n2 =>
        rw [h2] at h
        simp only [] at h
        cases h3 : stringR s n2 with
        | none => rw [h3] at h; cases h
        | some nm =>
          rw [h3] at h
          simp only [] at h
          split at h
          · cases h
          · split at h
            · cases h
            · cases h
              show st.at_ ≤ st.at_ + 8 + _
              omega
theorem stepR_keeps {b s : List UInt8} {st st' : RdS} {d : Bool} (h : stepR b s st = .ok (d, st')) (k : StOk b st) : StOk b st' ∧ st.at_ + 4 ≤ st'.at_ := by
  unfold stepR at h
  cases hn : nbR b st.at_ with
  | error e => rw [hn] at h; cases h
  | ok n =>
    obtain ⟨h1, h2⟩ := nbR_ok hn
    rw [hn] at h
    simp only [] at h
    have k' : StOk b { st with at_ := st.at_ + 4 } := ⟨h1, k.nodes, k.opn, k.child, k.low, fun n hn => by have := k.props n hn; show _ ≤ st.at_ + 4; omega⟩
    split at h
    · cases hd : nodeR b { st with at_ := st.at_ + 4 } with
      | error e => rw [hd] at h; cases h
      | ok x => rw [hd] at h; cases h; exact ⟨nodeR_keeps hd k', nodeR_adv hd⟩
    · split at h
      · cases hd : propR b s { st with at_ := st.at_ + 4 } with
        | error e => rw [hd] at h; cases h
        | ok x => rw [hd] at h; cases h; exact ⟨propR_keeps hd k', propR_adv hd⟩
      · split at h
        · cases h
          refine ⟨⟨h1, k.nodes, ?_, ?_, fun o ho => k.low o (List.mem_of_mem_tail ho), k'.props⟩, Nat.le_refl _⟩
          · have := k.opn; show st.opn.tail.length ≤ 9; rw [List.length_tail]; omega
          · show st.child.tail.length = st.opn.tail.length; rw [List.length_tail, List.length_tail, k.child]
        · split at h
          · split at h
            · cases h; exact ⟨k', Nat.le_refl _⟩
            · cases h
          · cases h
theorem stok_start (b : List UInt8) (h : 28 ≤ b.length) : StOk b ⟨28, [], [], []⟩ := ⟨h, by simp, by simp, rfl, fun o ho => by simp at ho, fun n hn => by simp at hn⟩
theorem diffR_step (b c : List UInt8) (i : Nat) (h1 : i < b.length) (h2 : i < c.length) : diffR i (b.drop i) (c.drop i) = if b[i] = c[i] then diffR (i + 1) (b.drop (i + 1)) (c.drop (i + 1)) else some i := by
  rw [List.drop_eq_getElem_cons h1, List.drop_eq_getElem_cons h2]; rfl
theorem diffR_end (b c : List UInt8) (i : Nat) (h : i = min b.length c.length) : diffR i (b.drop i) (c.drop i) = if b.length = c.length then none else some i := by
  rcases Nat.lt_trichotomy b.length c.length with h1 | h1 | h1
  · rw [if_neg (by omega), List.drop_eq_nil_of_le (by omega : b.length ≤ i), List.drop_eq_getElem_cons (by omega : i < c.length)]; rfl
  · rw [if_pos h1, List.drop_eq_nil_of_le (by omega : b.length ≤ i), List.drop_eq_nil_of_le (by omega : c.length ≤ i)]; rfl
  · rw [if_neg (by omega), List.drop_eq_nil_of_le (by omega : c.length ≤ i), List.drop_eq_getElem_cons (by omega : i < b.length)]; rfl
theorem headR_ok {b : List UInt8} {n : Nat} (h : headR b = .ok n) : 28 + n ≤ b.length ∧ b.length ≤ 40000 := by
  unfold headR at h
  split at h
  · cases h
  · split at h
    · cases h
    · split at h
      · cases h
      · split at h
        · cases h
        · rename_i h4
          split at h
          · cases h
          · split at h
            · cases h
            · split at h
              · cases h
              · split at h
                · cases h
                · cases h; omega
/-- What Decode answers behind a good reading. -/
theorem decT_run {b : List UInt8} {n : Nat} {st : RdS} (h : headR b = .ok n) (hr : runR (b.take (28 + n)) (b.drop (28 + n)) b.length ⟨28, [], [], []⟩ = .ok st) :
    decT b = if checkT st.nodes ≠ 0 then ([], 28, checkT st.nodes) else match diffR 0 b (encodeT st.nodes) with
      | some i => ([], i, 12)
      | none => (st.nodes, 0, 0) := by
  unfold decT; rw [h]; simp only [hr]; rfl
theorem decT_bad {b : List UInt8} {n p : Nat} {e : Int} (h : headR b = .ok n) (hr : runR (b.take (28 + n)) (b.drop (28 + n)) b.length ⟨28, [], [], []⟩ = .error (p, e)) : decT b = ([], p, e) := by
  unfold decT; rw [h]; simp only [hr]
end Go.Proofs.YtofhcgbihonckaaGreatDoor

namespace Go.Proofs.YtofhcgbihonckaaGreatDoor
open Go.RowKit Go.ChangeMaps

theorem slice_to (W : World) (g o len cap h : Nat) (hh : h ≤ cap) (h0 : 0 < cap) :
    (Instr.slice 26 (.slice (some ⟨g, o, none⟩) len cap) none (some (.int .i64 (h : Int))) none).run Tryz.prog W = .ok (.slice (some ⟨g, o, none⟩) h cap) W := by
  have ht' : Tryz.prog.underlying 26 = some (.slice (Tryz.prog.elem 26)) := by kernel_rfl
  rw [run_slice_h W _ _ _ _ ht' .i64 _ (by omega) (by omega), show Tryz.prog.elem 26 = 5 by kernel_rfl, infoByteB]
  have hne : ¬ cap = 0 := by omega
  simp [Result.andThen, sliced, Addr.add, hne]
theorem bytes_win {w : World} {g o c : Nat} {l : List UInt8} (h : BytesAt w (.slice (some ⟨g, o, none⟩) l.length c) l) (i k : Nat) (hk : i + k ≤ l.length) : BytesAt w (.slice (some ⟨g, o + i, none⟩) k (c - i)) ((l.drop i).take k) := by
  obtain ⟨a, cap, he, h1, h2, h3⟩ := h
  cases he
  have hl : ((l.drop i).take k).length = k := by simp; omega
  refine ⟨some ⟨g, o + i, none⟩, c - i, by rw [hl], by rw [hl]; omega, by omega, fun h0 => ?_⟩
  rw [hl] at h0
  obtain ⟨g', o', e, hc⟩ := h3 (by omega)
  cases e
  refine ⟨g, o + i, rfl, fun j hj => ?_⟩
  rw [hl] at hj
  rw [Nat.add_assoc, hc (i + j) (by omega)]
  simp
theorem bytes_end {w : World} {g o o' c : Nat} {l : List UInt8} (h : BytesAt w (.slice (some ⟨g, o, none⟩) l.length c) l) (i : Nat) (hi : i ≤ l.length) (ho : i < l.length → o' = o + i) : BytesAt w (.slice (some ⟨g, o', none⟩) (l.length - i) (c - i)) (l.drop i) := by
  by_cases e : i < l.length
  · have := bytes_win h i (l.length - i) (by omega)
    rw [List.take_of_length_le (by simp)] at this
    rw [ho e]; exact this
  · obtain ⟨a, cap, he, h1, h2, h3⟩ := h
    cases he
    have hd : l.drop i = [] := List.drop_eq_nil_of_le (by omega)
    rw [hd]
    exact ⟨some ⟨g, o', none⟩, c - i, by simp; omega, by simp, by omega, fun h => by simp at h⟩
theorem bytes_win' {w : World} {g o o' c : Nat} {l : List UInt8} (h : BytesAt w (.slice (some ⟨g, o, none⟩) l.length c) l) (i k : Nat) (hk : i + k ≤ l.length) (ho : 0 < k → o' = o + i) : BytesAt w (.slice (some ⟨g, o', none⟩) k (c - i)) ((l.drop i).take k) := by
  by_cases e : 0 < k
  · rw [ho e]; exact bytes_win h i k hk
  · obtain ⟨a, cap, he, h1, h2, h3⟩ := h
    cases he
    obtain rfl : k = 0 := by omega
    rw [List.take_zero]
    exact ⟨some ⟨g, o', none⟩, c - i, rfl, by simp, by omega, fun h => by simp at h⟩
theorem slice_win' (g o len cap l h : Nat) (hlh : l ≤ h) (hh : h ≤ cap) : ∃ o', (0 < h - l → o' = o + l) ∧ ∀ W : World,
    (Instr.slice 26 (.slice (some ⟨g, o, none⟩) len cap) (some (.int .i64 (l : Int))) (some (.int .i64 (h : Int))) none).run Tryz.prog W = .ok (.slice (some ⟨g, o', none⟩) (h - l) (cap - l)) W := by
  by_cases hl : l < cap
  · exact ⟨o + l, fun _ => rfl, fun W => slice_win W g o len cap l h hlh hh hl⟩
  · refine ⟨o, fun h => by omega, fun W => ?_⟩
    have ht' : Tryz.prog.underlying 26 = some (.slice (Tryz.prog.elem 26)) := by kernel_rfl
    rw [run_slice_lh W _ _ _ _ ht' .i64 .i64 _ _ (by omega) (by omega) (by omega), show Tryz.prog.elem 26 = 5 by kernel_rfl, infoByteB]
    have he : cap = l := by omega
    simp [Result.andThen, sliced, he]
theorem cmp_ne {a b : Nat} (h : a ≠ b) : ((a : Int) == (b : Int)) = false ∧ ((a : Int) != (b : Int)) = true ∧ (a == b) = false ∧ (a != b) = true := by
  have e1 : ((a : Int) == (b : Int)) = false := by rw [beq_eq_false_iff_ne]; omega
  have e2 : (a == b) = false := by rw [beq_eq_false_iff_ne]; omega
  exact ⟨e1, by simp only [bne, e1, Bool.not_false], e2, by simp only [bne, e2, Bool.not_false]⟩
theorem cmp_eq {a b : Nat} (h : a = b) : ((a : Int) == (b : Int)) = true ∧ ((a : Int) != (b : Int)) = false ∧ (a == b) = true ∧ (a != b) = false := by
  subst h; simp
def Dr (w w' : World) : Prop := ∃ q, w' = w.drewN q
theorem Dr.refl (w : World) : Dr w w := ⟨0, rfl⟩
theorem Dr.trans {w w1 w2 : World} (h : Dr w w1) (k : ∃ q, w2 = w1.drewN q) : Dr w w2 := by obtain ⟨a, rfl⟩ := h; obtain ⟨b, rfl⟩ := k; exact ⟨a + b, by simp⟩
theorem Dr.more {w w1 : World} (h : Dr w w1) (q : Nat) : Dr w (w1.drewN q) := h.trans ⟨q, rfl⟩
theorem Dr.keeps {w w1 : World} (h : Dr w w1) : Keeps (fun _ => False) w w1 := by obtain ⟨a, rfl⟩ := h; exact (Keeps.refl _ w).drewN a
def headV : Re Nat → Value
  | .ok n => .tuple #[.int .i64 n, .int .i64 0, .int .i64 0]
  | .error (p, er) => .tuple #[.int .i64 0, .int .i64 p, .int .i64 er]
set_option maxRecDepth 100000 in
set_option maxHeartbeats 8000000 in
theorem blob_head (v : Value) (b : List UInt8) (w : World) (hb : BytesAt w v b) (hL : b.length ≤ 1000000000) :
    Calls Tryz.prog 38 #[v] w fun e w' => e = .returned (headV (headR b)) ∧ ∃ q, w' = w.drewN q := by
  obtain ⟨ba, bc, rfl, hc1, hc2, hat⟩ := id hb
  by_cases c1 : b.length < 28
  · have d1 : decide ((b.length : Int) < 28) = true := by simp; omega
    have d1' : decide (b.length < 28) = true := by simp; omega
    have hp := Lib.hid (show headR b = .error (b.length, 21) from by unfold headR; rw [if_pos c1])
    clear c1 hb hat
    go_enter Tryz.func38, Tryz.ntmps38
    go_wp2_with fail
    go_ret3
    exact ⟨by rw [hp.out]; rfl, 0, rfl⟩
  · obtain ⟨g, o, rfl, hcb⟩ := hat (by omega)
    clear hat hcb
    have d1 : decide ((b.length : Int) < 28) = false := by simp; omega
    have d1' : decide (b.length < 28) = false := by simp; omega
    have HG := Lib.hid (fun (i : Nat) (hi : i + 4 ≤ b.length) (wx : World) (hk : Dr w wx) => blob_get _ b i wx (hb.keeps hk.keeps (fun _ _ e => e)) hi hL)
    have HB := Lib.hid hb
    have n4 := numB_le b 4
    have n8 := numB_le b 8
    have n12 := numB_le b 12
    have hp0 : headR b = (if numB b 0 ≠ 3490578157 then .error (0, 23)
      else if numB b 24 ≠ sumB (b.take 24) then .error (24, 24)
      else if numB b 4 ≠ 28 + numB b 8 + numB b 12 ∨ 40000 < numB b 4 ∨ numB b 8 % 4 ≠ 0 then .error (4, 2)
      else if b.length < numB b 4 then .error (b.length, 21)
      else if numB b 4 < b.length then .error (numB b 4, 2)
      else if numB b 16 ≠ sumB ((b.drop 28).take (numB b 8)) then .error (16, 24)
      else if numB b 20 ≠ sumB (b.drop (28 + numB b 8)) then .error (20, 24)
      else .ok (numB b 8)) := by unfold headR; rw [if_neg c1]
    have g4 := Lib.hid (HG.out 4 (by omega))
    have g8 := Lib.hid (HG.out 8 (by omega))
    have g12 := Lib.hid (HG.out 12 (by omega))
    have g0 := Lib.hid (HG.out 0 (by omega))
    have g24 := Lib.hid (HG.out 24 (by omega))
    have g16 := Lib.hid (HG.out 16 (by omega))
    have g20 := Lib.hid (HG.out 20 (by omega))
    have s24 := Lib.hid (fun (wx : World) (hk : Dr w wx) => blob_Sum (.slice (some ⟨g, o, none⟩) 24 bc) (b.take 24) wx (by have := bytes_win (hb.keeps hk.keeps (fun _ _ e => e)) 0 24 (by omega); simpa using this) (by simp; omega))
    have s28 := Lib.hid (fun (o' : Nat) (h : 28 + numB b 8 ≤ b.length) (ho : 0 < numB b 8 → o' = o + 28) (wx : World) (hk : Dr w wx) => blob_Sum _ ((b.drop 28).take (numB b 8)) wx (bytes_win' (hb.keeps hk.keeps (fun _ _ e => e)) 28 (numB b 8) (by omega) ho) (by simp; omega))
    have sE := Lib.hid (fun (o' : Nat) (h : 28 + numB b 8 ≤ b.length) (ho : 28 + numB b 8 < b.length → o' = o + (28 + numB b 8)) (wx : World) (hk : Dr w wx) => blob_Sum _ (b.drop (28 + numB b 8)) wx (bytes_end (hb.keeps hk.keeps (fun _ _ e => e)) (28 + numB b 8) h ho) (by simp; omega))
    have k24 := fun W : World => slice_to W g o b.length bc 24 (by omega) (by omega)
    have cst : ((24 : Nat) : Int) = 24 := rfl
    simp only [cst] at k24
    clear cst hb
    generalize numB b 4 = t4 at *
    generalize numB b 8 = t8 at *
    generalize numB b 12 = t12 at *
    generalize numB b 0 = t0 at *
    generalize numB b 24 = t24 at *
    generalize numB b 16 = t16 at *
    generalize numB b 20 = t20 at *
    generalize sumB (b.take 24) = u24 at *
    generalize sumB ((b.drop 28).take t8) = u28 at *
    generalize sumB (b.drop (28 + t8)) = uE at *
    have j1 : IntKind.i64.wrap (28 + (t8 : Int)) = 28 + (t8 : Int) := IntWalk.i64_in _ (by omega)
    have j2 : IntKind.i64.wrap (28 + (t8 : Int) + (t12 : Int)) = 28 + (t8 : Int) + (t12 : Int) := IntWalk.i64_in _ (by omega)
    go_enter Tryz.func38, Tryz.ntmps38
    go_wp2_with fail
    refine (by exact g4.out _ (Dr.refl w) : Calls _ _ _ _ _).mono ?_
    rintro e w1 ⟨rfl, hq⟩
    have D1 := Lib.hid (Dr.trans (Dr.refl w) hq)
    clear hq
    go_wp2_with fail
    refine (by exact g8.out _ D1.out : Calls _ _ _ _ _).mono ?_
    rintro e w2 ⟨rfl, hq⟩
    have D2 := Lib.hid (Dr.trans D1.out hq)
    clear hq
    go_wp2_with fail
    refine (by exact g12.out _ D2.out : Calls _ _ _ _ _).mono ?_
    rintro e w3 ⟨rfl, hq⟩
    have D3 := Lib.hid (Dr.trans D2.out hq)
    clear hq
    go_wp2_with fail
    refine (by exact g0.out _ D3.out : Calls _ _ _ _ _).mono ?_
    rintro e w4 ⟨rfl, hq⟩
    have D4 := Lib.hid (Dr.trans D3.out hq)
    clear hq
    by_cases c0 : t0 ≠ 3490578157
    · have hp := Lib.hid (show headR b = .error (0, 23) from by rw [hp0, if_pos c0])
      have e1 : ((t0 : Int) == 3490578157) = false := by rw [beq_eq_false_iff_ne]; omega
      have e2 : ((t0 : Int) != 3490578157) = true := by simp only [bne, e1, Bool.not_false]
      clear hp0 c0
      go_wp2_with fail
      go_ret3
      exact ⟨by rw [hp.out]; rfl, D4.out⟩
    rw [if_neg c0] at hp0
    have e1 : ((t0 : Int) == 3490578157) = true := by rw [beq_iff_eq]; omega
    have e2 : ((t0 : Int) != 3490578157) = false := by simp only [bne, e1, Bool.not_true]
    have HP0 := Lib.hid hp0
    clear c0 hp0
    go_wp2_with fail
    by_cases k1 : t24 ≠ u24
    · have hp := Lib.hid (show headR b = .error (24, 24) from by rw [HP0.out, if_pos k1])
      obtain ⟨q1, q2, q3, q4⟩ := cmp_ne k1
      clear k1 HP0
      go_quiet ((first | (go_at_call 71; exact Calls.quiet_of (g24.out _ (by exact D4.out.more _))) | (go_at_call 22; exact Calls.quiet_of ((s24.out _ (by exact D4.out.more _)).mono (fun _ _ ⟨p, q⟩ => ⟨p, 0, q.symm⟩)))))
      go_wp2_with fail
      go_ret3
      exact ⟨by rw [hp.out]; rfl, D4.out.more _⟩
    have HP1 := Lib.hid (HP0.out.trans (if_neg k1))
    obtain ⟨q1, q2, q3, q4⟩ := cmp_eq (Classical.not_not.1 k1)
    clear k1 HP0
    go_quiet ((first | (go_at_call 71; exact Calls.quiet_of (g24.out _ (by exact D4.out.more _))) | (go_at_call 22; exact Calls.quiet_of ((s24.out _ (by exact D4.out.more _)).mono (fun _ _ ⟨p, q⟩ => ⟨p, 0, q.symm⟩)))))
    by_cases k2 : t4 ≠ 28 + t8 + t12 ∨ 40000 < t4 ∨ t8 % 4 ≠ 0
    · have hp := Lib.hid (show headR b = .error (4, 2) from by rw [HP1.out, if_pos k2])
      clear HP1
      by_cases k3 : t4 ≠ 28 + t8 + t12
      · obtain ⟨a1, a2, a3, a4⟩ := cmp_ne k3
        simp only [Int.natCast_add, show ((28 : Nat) : Int) = 28 from rfl] at a1 a2
        clear k2 k3
        go_wp2_with fail
        go_ret3
        exact ⟨by rw [hp.out]; rfl, D4.out.more _⟩
      · obtain ⟨a1, a2, a3, a4⟩ := cmp_eq (Classical.not_not.1 k3)
        simp only [Int.natCast_add, show ((28 : Nat) : Int) = 28 from rfl] at a1 a2
        by_cases k4 : 40000 < t4
        · have b1 : decide ((40000 : Int) < (t4 : Int)) = true := by simp; omega
          have b2 : decide (40000 < t4) = true := by simpa using k4
          clear k2 k3 k4
          go_wp2_with fail
          go_ret3
          exact ⟨by rw [hp.out]; rfl, D4.out.more _⟩
        · have b1 : decide ((40000 : Int) < (t4 : Int)) = false := by simp; omega
          have b2 : decide (40000 < t4) = false := by simpa using k4
          have k5 : t8 % 4 ≠ 0 := by omega
          have c1 : ((t8 : Int) % 4 == 0) = false := by rw [beq_eq_false_iff_ne]; omega
          have c2 : ((t8 : Int) % 4 != 0) = true := by simp only [bne, c1, Bool.not_false]
          clear k2 k3 k4 k5
          go_wp2_with fail
          go_ret3
          exact ⟨by rw [hp.out]; rfl, D4.out.more _⟩
    have HP2 := Lib.hid (HP1.out.trans (if_neg k2))
    have k3 : t4 = 28 + t8 + t12 := by omega
    have HK3 := Lib.hid k3
    obtain ⟨a1, a2, a3, a4⟩ := cmp_eq k3
    simp only [Int.natCast_add, show ((28 : Nat) : Int) = 28 from rfl] at a1 a2
    have b1 : decide ((40000 : Int) < (t4 : Int)) = false := by simp; omega
    have b2 : decide (40000 < t4) = false := by simp; omega
    have c1 : ((t8 : Int) % 4 == 0) = true := by rw [beq_iff_eq]; omega
    have c2 : ((t8 : Int) % 4 != 0) = false := by simp only [bne, c1, Bool.not_true]
    clear k2 k3 HP1
    by_cases m1 : b.length < t4
    · have hp := Lib.hid (show headR b = .error (b.length, 21) from by rw [HP2.out, if_pos m1])
      have e1 : decide ((b.length : Int) < (t4 : Int)) = true := by simp; omega
      have e2 : decide (b.length < t4) = true := by simpa using m1
      clear m1 HP2
      go_wp2_with fail
      go_ret3
      exact ⟨by rw [hp.out]; rfl, D4.out.more _⟩
    have HP3 := Lib.hid (HP2.out.trans (if_neg m1))
    have e1 : decide ((b.length : Int) < (t4 : Int)) = false := by simp; omega
    have e2 : decide (b.length < t4) = false := by simpa using m1
    clear HP2
    by_cases m2 : t4 < b.length
    · have hp := Lib.hid (show headR b = .error (t4, 2) from by rw [HP3.out, if_pos m2])
      have f1 : decide ((t4 : Int) < (b.length : Int)) = true := by simp; omega
      have f2 : decide (t4 < b.length) = true := by simpa using m2
      clear m1 m2 HP3
      go_wp2_with fail
      go_ret3
      exact ⟨by rw [hp.out]; rfl, D4.out.more _⟩
    have HP4 := Lib.hid (HP3.out.trans (if_neg m2))
    have f1 : decide ((t4 : Int) < (b.length : Int)) = false := by simp; omega
    have f2 : decide (t4 < b.length) = false := by simpa using m2
    have hle : 28 + t8 ≤ b.length := by have := HK3.out; omega
    clear m1 m2 HP3
    obtain ⟨o2, ho2, k28⟩ := slice_win' g o b.length bc 28 (28 + t8) (by omega) (by omega)
    obtain ⟨o3, ho3, kE⟩ := slice_from' g o b.length bc (28 + t8) hle hc1
    rw [Nat.add_sub_cancel_left] at ho2
    simp only [Int.natCast_add, Nat.add_sub_cancel_left, show ((28 : Nat) : Int) = 28 from rfl] at k28 kE
    have S28 := Lib.hid (s28.out o2 hle ho2)
    have SE := Lib.hid (sE.out o3 hle ho3)
    clear ho2 ho3 s28 sE
    go_wp2_with fail
    generalize hw5 : w4.drewN _ = w5
    have D5 := Lib.hid (show Dr w w5 from by rw [← hw5]; exact D4.out.more _)
    clear hw5
    by_cases r1 : t16 ≠ u28
    · have hp := Lib.hid (show headR b = .error (16, 24) from by rw [HP4.out, if_pos r1])
      obtain ⟨v1, v2, v3, v4⟩ := cmp_ne r1
      clear r1 HP4
      go_quiet ((first | (go_at_call 71; exact Calls.quiet_of (g16.out _ (by exact D5.out.more _))) | (go_at_call 22; exact Calls.quiet_of ((S28.out _ (by exact D5.out.more _)).mono (fun _ _ ⟨p, q⟩ => ⟨p, 0, q.symm⟩)))))
      go_wp2_with fail
      go_ret3
      exact ⟨by rw [hp.out]; rfl, D5.out.more _⟩
    have HP5 := Lib.hid (HP4.out.trans (if_neg r1))
    obtain ⟨v1, v2, v3, v4⟩ := cmp_eq (Classical.not_not.1 r1)
    clear r1 HP4
    go_quiet ((first | (go_at_call 71; exact Calls.quiet_of (g16.out _ (by exact D5.out.more _))) | (go_at_call 22; exact Calls.quiet_of ((S28.out _ (by exact D5.out.more _)).mono (fun _ _ ⟨p, q⟩ => ⟨p, 0, q.symm⟩)))))
    go_wp2_with fail
    generalize hw6 : w5.drewN _ = w6
    have D6 := Lib.hid (show Dr w w6 from by rw [← hw6]; exact D5.out.more _)
    clear hw6
    by_cases r2 : t20 ≠ uE
    · have hp := Lib.hid (show headR b = .error (20, 24) from by rw [HP5.out, if_pos r2])
      obtain ⟨z1, z2, z3, z4⟩ := cmp_ne r2
      clear r2 HP5
      go_quiet ((first | (go_at_call 71; exact Calls.quiet_of (g20.out _ (by exact D6.out.more _))) | (go_at_call 22; exact Calls.quiet_of ((SE.out _ (by exact D6.out.more _)).mono (fun _ _ ⟨p, q⟩ => ⟨p, 0, q.symm⟩)))))
      go_wp2_with fail
      go_ret3
      exact ⟨by rw [hp.out]; rfl, D6.out.more _⟩
    have hp := Lib.hid (show headR b = .ok t8 from HP5.out.trans (if_neg r2))
    obtain ⟨z1, z2, z3, z4⟩ := cmp_eq (Classical.not_not.1 r2)
    clear r2 HP5
    go_quiet ((first | (go_at_call 71; exact Calls.quiet_of (g20.out _ (by exact D6.out.more _))) | (go_at_call 22; exact Calls.quiet_of ((SE.out _ (by exact D6.out.more _)).mono (fun _ _ ⟨p, q⟩ => ⟨p, 0, q.symm⟩)))))
    go_wp2_with fail
    go_ret3
    exact ⟨by rw [hp.out]; rfl, D6.out.more _⟩
end Go.Proofs.YtofhcgbihonckaaGreatDoor

namespace Go.Proofs.YtofhcgbihonckaaGreatDoor
open Go.RowKit Go.ChangeMaps

def DecPost (b : List UInt8) (w : World) (e : Ending) (w' : World) : Prop :=
  ∃ nv, e = .returned (.tuple #[.agg #[nv], .int .i64 ((decT b).2.1 : Int), .int .i64 (decT b).2.2]) ∧ TreeRow w' w.heap.size nv (decT b).1 ∧ Below w.heap.size w w'
theorem decPost_err {b : List UInt8} {w w' : World} {n0 p : Nat} {er : Int} (hn : n0 = w.heap.size) (hd : decT b = ([], p, er)) (hb : Below n0 w w') : DecPost b w (.returned (.tuple #[.agg #[.slice none 0 0], .int .i64 (p : Int), .int .i64 er])) w' := by
  subst hn
  exact ⟨_, by rw [hd], by rw [hd]; exact TreeRow.nil _ _, hb⟩
theorem decPost_ok {b : List UInt8} {w w' : World} {n0 : Nat} {nv : Value} {T : List NodeT} (hn : n0 = w.heap.size) (hd : decT b = (T, 0, 0)) (hT : TreeRow w' n0 nv T) (hb : Below n0 w w') : DecPost b w (.returned (.tuple #[.agg #[nv], .int .i64 0, .int .i64 0])) w' := by
  subst hn
  exact ⟨_, by rw [hd]; rfl, by rw [hd]; exact hT, hb⟩
/-- Where Decode stands in its loop. -/
def DecL (b s : List UInt8) (R : Re RdS) (rb base : Nat) (bv sv : Value) (W : World) (f : Nat) (w : World) : Prop :=
  ∃ st nv ov cv, RdAt w rb base bv sv st nv ov cv ∧ StOk b st ∧ runR b s f st = R ∧ b.length < st.at_ + 4 * f ∧ Keeps (fun g => base ≤ g) W w
set_option maxRecDepth 100000 in
set_option maxHeartbeats 8000000 in
theorem blob_Decode (v : Value) (b : List UInt8) (w : World) (hb : BytesAt w v b) (hL : b.length ≤ 100000) (lay : Lay0 w) (hown : ∀ g, v.ownBlock = some g → g < w.heap.size) :
    Calls Tryz.prog 19 #[v] w (DecPost b w) := by
  have hh := fun wx (hx : BytesAt wx v b) => blob_head v b wx hx (by omega)
  obtain ⟨ba, bc, rfl, hc1, hc2, hat⟩ := id hb
  have HLAY := Lib.hid lay
  obtain ⟨m0, hm0⟩ := lay
  have hml : 0 < w.heap.size := World.block_lt_of_cell? w _ hm0
  obtain ⟨R, hR⟩ : ∃ R, R = headR b := ⟨_, rfl⟩
  rw [← hR] at hh
  have HHD := Lib.hid hh
  have HR := Lib.hid hR
  have HB := Lib.hid hb
  have hN0 := Holds.new w #[.slice none 0 0] 25
  have hb0 : Below w.heap.size w (w.alloc (.cells #[.slice none 0 0] 25)) := (Below.refl _ _).alloc (Nat.le_refl _) _
  obtain ⟨n0, hn0⟩ : ∃ n0, n0 = w.heap.size := ⟨_, rfl⟩
  go_enter Tryz.func19, Tryz.ntmps19
  clear hh hR hb hm0
  go_wp2_with fail
  refine (HHD.out _ (by exact HB.out.new hb0)).mono ?_
  rintro e w1 ⟨rfl, q, rfl⟩
  have hN1 := hN0.drewN q
  have hb1 : Below w.heap.size w ((w.alloc (.cells #[.slice none 0 0] 25)).drewN q) := hb0.trans (((Keeps.refl (fun _ => False) _).drewN q).below (by simp) (fun _ _ e => e))
  generalize hw1 : (w.alloc (.cells #[.slice none 0 0] 25)).drewN q = w1 at *
  have s1 : w1.heap.size = n0 + 1 := by rw [← hw1, hn0]; simp
  have HW1 := Lib.hid hw1
  clear hN0 hb0 hw1
  rw [← hn0] at hN1 hml hown hb1 ⊢
  have HN0 := Lib.hid hn0
  clear hn0
  cases R with
  | error pe =>
    obtain ⟨p, er⟩ := pe
    have hp := Lib.hid (decT_head HR.out.symm)
    have her : (er == 0) = false := by simpa using head_err HR.out.symm
    have q0 := hN1.cell 0
    have q1 := hN1.free 0
    have ql := hN1.lt
    have z0 := (hN1.set 0 (.slice none 0 0)).cell 0
    have HF := Lib.hid (show Below n0 w (w1.setCell ⟨n0, 0, none⟩ (.slice none 0 0)) from hb1.setCell (p := ⟨n0, 0, none⟩) (by show n0 ≤ n0; omega) _)
    clear hN1 hb1
    unfold headV
    go_wp2_with fail
    exact bodyPost_ret (v := .tuple #[.agg #[.slice none 0 0], .int .i64 (p : Int), .int .i64 er]) (by simp [results, Tryz.results19, go_sem, z0]) rfl (decPost_err HN0.out hp.out HF.out)
  | ok n =>
    unfold headV
    obtain ⟨h28, h40⟩ := headR_ok HR.out.symm
    obtain ⟨g, o, rfl, hcb⟩ := hat (by omega)
    have hgw : g < n0 := hown g rfl
    obtain ⟨bb, hbb⟩ : ∃ bb, bb = b.take (28 + n) := ⟨_, rfl⟩
    obtain ⟨ss, hss⟩ : ∃ ss, ss = b.drop (28 + n) := ⟨_, rfl⟩
    have hlb : bb.length = 28 + n := by rw [hbb, List.length_take]; omega
    have hls : ss.length = b.length - (28 + n) := by rw [hss, List.length_drop]
    obtain ⟨o3, ho3, kfr0⟩ := slice_from' g o b.length bc (28 + n) h28 hc1
    obtain ⟨sc, hsc⟩ : ∃ sc, sc = bc - (28 + n) := ⟨_, rfl⟩
    have kto : ∀ W : World, (Instr.slice 26 (.slice (some ⟨g, o, none⟩) b.length bc) none (some (.int .i64 (28 + (n : Int)))) none).run Tryz.prog W = .ok (.slice (some ⟨g, o, none⟩) bb.length bc) W := fun W => by
      have := slice_to W g o b.length bc (28 + n) (by omega) (by omega)
      rw [hlb]; simpa using this
    have kfr : ∀ W : World, (Instr.slice 26 (.slice (some ⟨g, o, none⟩) b.length bc) (some (.int .i64 (28 + (n : Int)))) none none).run Tryz.prog W = .ok (.slice (some ⟨g, o3, none⟩) ss.length sc) W := fun W => by
      have := kfr0 W
      rw [hls, hsc]; simpa using this
    have j1 : IntKind.i64.wrap (28 + (n : Int)) = 28 + (n : Int) := IntWalk.i64_in _ (by omega)
    have HBT := Lib.hid (show BytesAt w (.slice (some ⟨g, o, none⟩) bb.length bc) bb from by have := bytes_win HB.out 0 (28 + n) (by omega); rw [hlb, hbb]; simpa using this)
    have HBE := Lib.hid (show BytesAt w (.slice (some ⟨g, o3, none⟩) ss.length sc) ss from by have := bytes_end HB.out (28 + n) h28 (fun h => ho3 (by omega)); rw [hls, hsc, hss]; exact this)
    have hroom : bb.length + ss.length ≤ bc := by omega
    have hbb1 : 28 ≤ bb.length ∧ bb.length ≤ 100000 ∧ ss.length ≤ 100000 ∧ bb.length ≤ b.length := by omega
    obtain ⟨R2, hR2⟩ : ∃ R2, R2 = runR bb ss b.length ⟨28, [], [], []⟩ := ⟨_, rfl⟩
    have HOK := Lib.hid (fun st (h : R2 = .ok st) => decT_run HR.out.symm (show runR (b.take (28 + n)) (b.drop (28 + n)) b.length ⟨28, [], [], []⟩ = .ok st from by rw [← hbb, ← hss, ← hR2, h]))
    have HBAD := Lib.hid (fun p er (h : R2 = .error (p, er)) => decT_bad (p := p) (e := er) HR.out.symm (show runR (b.take (28 + n)) (b.drop (28 + n)) b.length ⟨28, [], [], []⟩ = .error (p, er) from by rw [← hbb, ← hss, ← hR2, h]))
    have HR2 := Lib.hid hR2
    clear hat hcb hown hlb hls ho3 kfr0 hsc hbb hss hR2
    have hH2 := Holds.newAt (w := w1) (B := n0 + 1) s1 (rdC (.slice (some ⟨g, o, none⟩) bb.length bc) (.slice (some ⟨g, o3, none⟩) ss.length sc) 28 (.slice none 0 0) (.slice none 0 0) (.slice none 0 0) 0 0) 75
    have hN2 := hN1.alloc (.cells (rdC (.slice (some ⟨g, o, none⟩) bb.length bc) (.slice (some ⟨g, o3, none⟩) ss.length sc) 28 (.slice none 0 0) (.slice none 0 0) (.slice none 0 0) 0 0) 75)
    have hb2 : Below n0 w (w1.alloc (.cells (rdC (.slice (some ⟨g, o, none⟩) bb.length bc) (.slice (some ⟨g, o3, none⟩) ss.length sc) 28 (.slice none 0 0) (.slice none 0 0) (.slice none 0 0) 0 0) 75)) := hb1.alloc (by omega) _
    clear hb1 hN1
    go_wp2_with fail
    go_region
    generalize hw2 : World.drew (w1.alloc _) = w2
    have hH3 : Holds w2 (n0 + 1) (rdC (.slice (some ⟨g, o, none⟩) bb.length bc) (.slice (some ⟨g, o3, none⟩) ss.length sc) 28 (.slice none 0 0) (.slice none 0 0) (.slice none 0 0) 0 0) 75 := by rw [← hw2]; exact hH2.drew
    have hN3 : Holds w2 n0 #[.slice none 0 0] 25 := by rw [← hw2]; exact hN2.drew
    have hb3 : Below n0 w w2 := by rw [← hw2]; exact hb2.trans (((Keeps.refl (fun _ => False) _).drew).below (by simp; omega) (fun _ _ e => e))
    have hs2 : n0 + 1 < w2.heap.size := hH3.lt
    clear hH2 hN2 hb2 hw2
    have hbw : w.heap.size = n0 := HN0.out.symm
    have HRI := Lib.hid (show RdIn w2 (n0 + 1) (n0 + 1) (.slice (some ⟨g, o, none⟩) bb.length bc) (.slice (some ⟨g, o3, none⟩) ss.length sc) bb ss from
      { bat := HBT.out.new (by rw [hbw]; exact hb3), sat := HBE.out.new (by rw [hbw]; exact hb3), bel := fun x hx => by have : g = x := Option.some.inj hx; omega, sel := fun x hx => by have : g = x := Option.some.inj hx; omega, rb := Nat.le_refl _, pos := by omega, bl := hbb1.2.1, sl := hbb1.2.2.1
        room := fun a m c e => by cases e; exact hroom
        b0 := by omega
        lay := HLAY.out.keeps (Keeps.of_fresh (show Below w.heap.size w w2 from by rw [hbw]; exact hb3) (fun _ => False)) (fun e => e) })
    have HL0 := Lib.hid (show DecL bb ss R2 (n0 + 1) (n0 + 1) (.slice (some ⟨g, o, none⟩) bb.length bc) (.slice (some ⟨g, o3, none⟩) ss.length sc) w2 b.length w2 from
      ⟨⟨28, [], [], []⟩, _, _, _, ⟨hH3, TreeS.nil _ _, World.ownsRow_nil _ _ _ _, World.ownsRow_nil _ _ _ _⟩, stok_start bb hbb1.1, HR2.out.symm, by omega, Keeps.refl _ _⟩)
    have HN3 := Lib.hid hN3
    have HB3 := Lib.hid hb3
    have HBS := Lib.hid (fun (st : RdS) (nv ov cv : Value) (wx : World) (hr : RdAt wx (n0 + 1) (n0 + 1) (.slice (some ⟨g, o, none⟩) bb.length bc) (.slice (some ⟨g, o3, none⟩) ss.length sc) st nv ov cv) (hk : StOk bb st) (k : Keeps (fun g => n0 + 1 ≤ g) w2 wx) =>
      blob_step (n0 + 1) (n0 + 1) (some ⟨g, o, none⟩) bc (some ⟨g, o3, none⟩) sc bb ss st nv ov cv wx hr (HRI.out.turn k) hk)
    clear hH3 hN3 hb3 hbw
    go_upto_block 0 with fail
    go_cut [] (fun wx => ∃ st nv ov cv, RdAt wx (n0 + 1) (n0 + 1) (.slice (some ⟨g, o, none⟩) bb.length bc) (.slice (some ⟨g, o3, none⟩) ss.length sc) st nv ov cv ∧ R2 = .ok st ∧ Keeps (fun g => n0 + 1 ≤ g) w2 wx)
    case first =>
      go_wp2_with fail
      go_loopg [7] b.length (fun f x wr => DecL bb ss R2 (n0 + 1) (n0 + 1) (.slice (some ⟨g, o, none⟩) bb.length bc) (.slice (some ⟨g, o3, none⟩) ss.length sc) w2 f wr)
      case atStart => exact HL0.out
      case round =>
        obtain ⟨st, nv, ov, cv, hRd, hok, hrun, hfu, hk⟩ := hrel
        obtain ⟨f', hf'⟩ : ∃ f', gk = f' + 1 := ⟨gk - 1, by have := hok.at_; omega⟩
        subst hf'
        have hcall := HBS.out st nv ov cv _ hRd hok hk
        have hkeep := fun d st' (h : stepR bb ss st = .ok (d, st')) => stepR_keeps h hok
        unfold runR at hrun
        generalize stepR bb ss st = S at hcall hkeep hrun
        have HCALL := Lib.hid hcall
        have HKEEP := Lib.hid hkeep
        have HRUN := Lib.hid hrun
        have HK := Lib.hid hk
        have hwl := hRd.1.lt
        clear hcall hkeep hrun hRd hok
        go_wp2_with fail
        refine (by exact HCALL.out : Calls _ _ _ _ _).mono ?_
        rintro e w3 ⟨hK3, h3⟩
        have HK3 := Lib.hid (HK.out.trans hK3 (fun _ _ e => e))
        cases S with
        | error pe =>
          obtain ⟨p, er⟩ := pe
          obtain ⟨d, rfl, a, nv2, ov2, cv2, hH4⟩ := h3
          have hN4 := HN3.out.keeps HK3.out (by omega)
          have hp := Lib.hid (HBAD.out p er HRUN.out.symm)
          have x6 : w3.cell? ⟨n0 + 1, 6, none⟩ = some (.int .i64 (p : Int)) := hH4.cell 6
          have x7 : w3.cell? ⟨n0 + 1, 7, none⟩ = some (.int .i64 er) := hH4.cell 7
          have xl := hH4.lt
          have q0 := hN4.cell 0
          have q1 := hN4.free 0
          have ql := hN4.lt
          have HB4 := Lib.hid (show Below n0 w w3 from HB3.out.trans (HK3.out.below (by omega) (fun i hi e => by omega)))
          have z1 : ((w3.setCell ⟨n0, 0, none⟩ (.slice none 0 0)).drew).cell? ⟨n0, 0, none⟩ = some (.slice none 0 0) := (hN4.set 0 (.slice none 0 0)).drew.cell 0
          have HF := Lib.hid (show DecPost b w (.returned (.tuple #[.agg #[.slice none 0 0], .int .i64 (p : Int), .int .i64 er])) (w3.setCell ⟨n0, 0, none⟩ (.slice none 0 0)).drew from
            decPost_err HN0.out hp.out ((HB4.out.setCell (p := ⟨n0, 0, none⟩) (Nat.le_refl _) _).trans (((Keeps.refl (fun _ => False) _).drew).below (by simp; omega) (fun _ _ e => e))))
          clear hH4 hN4 hK3
          go_wp2_with fail
          go_region
          all_goals
            go_wp2_with fail
            exact bodyPost_ret (v := .tuple #[.agg #[.slice none 0 0], .int .i64 (p : Int), .int .i64 er]) (by simp [results, Tryz.results19, go_sem, z1]) rfl HF.out
        | ok ds =>
          obtain ⟨d, st'⟩ := ds
          obtain ⟨rfl, nv2, ov2, cv2, hR4⟩ := h3
          obtain ⟨hok2, hadv⟩ := HKEEP.out d st' rfl
          cases d with
          | true =>
            have HF := Lib.hid (show ∃ st nv ov cv, RdAt w3 (n0 + 1) (n0 + 1) (.slice (some ⟨g, o, none⟩) bb.length bc) (.slice (some ⟨g, o3, none⟩) ss.length sc) st nv ov cv ∧ R2 = .ok st ∧ Keeps (fun g => n0 + 1 ≤ g) w2 w3 from ⟨_, _, _, _, hR4, HRUN.out.symm, HK3.out⟩)
            clear hR4 hok2 hadv
            go_wp2_with fail
            go_meet
            case rel => exact HF.out
          | false =>
            have HF := Lib.hid (show DecL bb ss R2 (n0 + 1) (n0 + 1) (.slice (some ⟨g, o, none⟩) bb.length bc) (.slice (some ⟨g, o3, none⟩) ss.length sc) w2 f' w3 from ⟨_, _, _, _, hR4, hok2, HRUN.out, by omega, HK3.out⟩)
            clear hR4 hok2
            go_wp2_with fail
            go_roundg f'
            case measure => omega
            case rel => exact HF.out
    case rest =>
      obtain ⟨st, nv, ov, cv, hRd, hr2, hk⟩ := hcut
      have hT := hRd.2.1.row
      obtain ⟨na, nc, rfl⟩ := hRd.2.1.shape
      have HDEC := Lib.hid (HOK.out st hr2)
      have y3 : wc.cell? ⟨n0 + 1, 3, none⟩ = some (.slice na st.nodes.length nc) := hRd.1.cell 3
      have yl := hRd.1.lt
      have HT := Lib.hid hT
      have HRD := Lib.hid hRd
      have HK := Lib.hid hk
      clear hRd hT hk hr2
      go_wp2_with fail
      refine (by exact tree_Check _ _ _ _ HT.out.in : Calls _ _ _ _ _).mono ?_
      rintro e w4 ⟨rfl, hb4⟩
      have hk4 : Keeps (fun g => n0 + 1 ≤ g) w2 w4 := HK.out.trans (Keeps.of_fresh hb4 _) (fun _ _ e => e)
      have hN4 := HN3.out.keeps hk4 (by omega)
      have HB4 := Lib.hid (show Below n0 w w4 from HB3.out.trans (hk4.below (by omega) (fun i hi e => by omega)))
      have q0 := hN4.cell 0
      have q1 := hN4.free 0
      have ql := hN4.lt
      have hT4 := HT.out.new hb4
      have hH4 := HRD.out.1.keeps (Keeps.of_fresh hb4 (fun _ => False)) (fun e => e)
      have y34 : w4.cell? ⟨n0 + 1, 3, none⟩ = some (.slice na st.nodes.length nc) := hH4.cell 3
      have yl4 := hH4.lt
      have HT4 := Lib.hid hT4
      have HK4 := Lib.hid hk4
      obtain ⟨ck, hck⟩ : ∃ ck, ck = checkT st.nodes := ⟨_, rfl⟩
      rw [← hck]
      by_cases c1 : ck = 0
      · have hpd := HDEC.out
        rw [← hck, if_neg (by simp [c1])] at hpd
        have HPD := Lib.hid hpd
        have hck0 : checkT st.nodes = 0 := by rw [← hck, c1]
        have HENC := Lib.hid (encOk_check hck0)
        have htot := (encOk_check hck0).tot
        obtain ⟨d1⟩ : Nonempty ((ck == 0) = true) := ⟨by simp [c1]⟩
        subst c1
        have HN4 := Lib.hid hN4
        have HH4 := Lib.hid hH4
        clear hck hck0 hb4 hk4 hT4 hH4 hN4 y3 hpd q1 ql
        go_wp2_with fail
        refine (by exact blob_encode _ _ _ _ HT4.out.in HENC.out : Calls _ _ _ _ _).mono ?_
        rintro e w5 ⟨wv, rfl, hbw5, hb5⟩
        obtain ⟨wa, wcap, rfl⟩ := hbw5.shape
        have hwr := hbw5.read
        have hT5 := HT4.out.new hb5
        have hN5 := HN4.out.keeps (Keeps.of_fresh hb5 (fun _ => False)) (fun e => e)
        have HB5 := Lib.hid (show Below n0 w w5 from HB4.out.trans ((Keeps.of_fresh hb5 (fun _ => False)).below (by omega) (fun _ _ e => e)))
        have hbB : BytesAt w5 (.slice (some ⟨g, o, none⟩) b.length bc) b := HB.out.keeps (Keeps.of_fresh (show Below w.heap.size w w5 from by rw [← HN0.out]; exact HB5.out) (fun _ => False)) (fun _ _ e => e)
        have y35 : w5.cell? ⟨n0 + 1, 3, none⟩ = some (.slice na st.nodes.length nc) := (HH4.out.keeps (Keeps.of_fresh hb5 (fun _ => False)) (fun e => e)).cell 3
        have yl5 : n0 + 1 < w5.heap.size := by have := hb5.size; omega
        have HT5 := Lib.hid hT5
        have HN5 := Lib.hid hN5
        clear hbw5 hb5 hT5 hN5 yl4 y34 q0 HENC
        obtain ⟨want, hwant⟩ : ∃ x, x = encodeT st.nodes := ⟨_, rfl⟩
        rw [← hwant] at hwr htot HPD ⊢
        have HWANT := Lib.hid hwant
        clear hwant
        have hwl : 0 < want.length := by rw [HWANT.out, encodeT_len]; omega
        obtain ⟨wa', wc', e1, hw1, hw2, hcw⟩ := hwr
        cases e1
        obtain ⟨gw, ow, rfl, hcw2⟩ := hcw hwl
        clear hcw
        obtain ⟨ba', bc', e1, -, -, hcb⟩ := hbB
        cases e1
        obtain ⟨gb, ob, e1, hcb2⟩ := hcb (by omega)
        cases e1
        clear hcb
        have hgb : g < w5.heap.size := by omega
        have hgw2 : gw < w5.heap.size := World.block_lt_of_cell? w5 _ (hcw2 0 hwl)
        have HCB := Lib.hid hcb2
        have HCW := Lib.hid hcw2
        obtain ⟨D, hD⟩ : ∃ D, D = diffR 0 b want := ⟨_, rfl⟩
        rw [← hD] at HPD
        have HD := Lib.hid hD
        clear hcb2 hcw2 hD
        go_wp2_with fail
        obtain ⟨mn, hmn⟩ : ∃ mn, mn = min b.length want.length := ⟨_, rfl⟩
        have hmi : min (b.length : Int) (want.length : Int) = (mn : Int) := by omega
        simp only [hmi]
        have hmb : mn ≤ b.length ∧ mn ≤ want.length := by omega
        have HMN := Lib.hid hmn
        clear hmn hmi
        go_loopg [69] mn (fun f x wr => ∃ i : Nat, x = .int .i64 i ∧ i ≤ mn ∧ mn ≤ i + f ∧ diffR i (b.drop i) (want.drop i) = D ∧ ∃ q, wr = w5.drewN q)
        case atStart => exact ⟨0, rfl, by omega, by omega, HD.out.symm, 0, rfl⟩
        case round =>
          obtain ⟨i, rfl, hi1, hi2, hdi, q, hwr⟩ := hrel
          have kk : Keeps (fun _ => False) w5 wr := by rw [hwr]; exact (Keeps.refl _ w5).drewN q
          have hN6 := HN5.out.keeps kk (fun e => e)
          have q0 := hN6.cell 0
          have q1 := hN6.free 0
          have ql := hN6.lt
          have HB6 := Lib.hid (show Below n0 w wr from HB5.out.trans (kk.below (by omega) (fun _ _ e => e.elim)))
          have HWR := Lib.hid hwr
          clear hwr
          by_cases hlt : i < mn
          · have c1 : wr.cell? ⟨g, o + i, none⟩ = some (.int .u8 (b[i]'(by omega)).toNat) := (kk.cell (p := ⟨g, o + i, none⟩) hgb (fun e => e)).trans (HCB.out i (by omega))
            have c2 : wr.cell? ⟨gw, ow + i, none⟩ = some (.int .u8 (want[i]'(by omega)).toNat) := (kk.cell (p := ⟨gw, ow + i, none⟩) hgw2 (fun e => e)).trans (HCW.out i (by omega))
            have hst := diffR_step b want i (by omega) (by omega)
            rw [hdi] at hst
            have hix : (i : Int) < (b.length : Int) := by omega
            have hix2 : (i : Int) < (want.length : Int) := by omega
            generalize b[i]'(by omega) = x at c1 hst
            generalize want[i]'(by omega) = y at c2 hst
            by_cases hxy : x = y
            · have e1 : ((x.toNat : Int) == (y.toNat : Int)) = true := by simp [hxy]
              have e2 : ((x.toNat : Int) != (y.toNat : Int)) = false := by simp [hxy]
              rw [if_pos hxy] at hst
              have HST := Lib.hid hst
              have hkq := Lib.hid kk
              clear hst hxy kk hdi hN6 q0 q1
              go_wp2_with fail
              go_quiet (fail)
              go_wp2_with fail
              go_roundg (gk - 1)
              case measure => omega
              case rel => exact ⟨i + 1, by go_num, by omega, by omega, HST.out.symm, by rw [HWR.out]; exact ⟨_, World.drewN_drewN _ _ _⟩⟩
            · have e1 : ((x.toNat : Int) == (y.toNat : Int)) = false := by rw [beq_eq_false_iff_ne]; intro h; exact hxy (UInt8.toNat_inj.1 (by omega))
              have e2 : ((x.toNat : Int) != (y.toNat : Int)) = true := by simp [bne, e1]
              rw [if_neg hxy] at hst
              have hpd := HPD.out
              rw [hst] at hpd
              have z1 : ∀ q, ((wr.drewN q).setCell ⟨n0, 0, none⟩ (.slice none 0 0)).cell? ⟨n0, 0, none⟩ = some (.slice none 0 0) := fun q => ((hN6.drewN q).set 0 (.slice none 0 0)).cell 0
              have HF := Lib.hid (show ∀ q, DecPost b w (.returned (.tuple #[.agg #[.slice none 0 0], .int .i64 (i : Int), .int .i64 12])) ((wr.drewN q).setCell ⟨n0, 0, none⟩ (.slice none 0 0)) from fun q =>
                decPost_err HN0.out hpd ((HB6.out.trans (((Keeps.refl (fun _ => False) _).drewN q).below (by omega) (fun _ _ e => e))).setCell (p := ⟨n0, 0, none⟩) (Nat.le_refl _) _))
              clear hst hxy kk hdi hN6 hpd
              go_wp2_with fail
              go_quiet (fail)
              go_wp2_with fail
              exact bodyPost_ret (v := .tuple #[.agg #[.slice none 0 0], .int .i64 (i : Int), .int .i64 12]) (by simp [results, Tryz.results19, go_sem, z1]) rfl (HF.out _)
          · have hii : i = mn := by omega
            have hend := diffR_end b want i (by rw [hii, HMN.out])
            rw [hdi] at hend
            have hpd := HPD.out
            by_cases hll : b.length = want.length
            · have e1 : ((b.length : Int) == (want.length : Int)) = true := by simp [hll]
              have e2 : ((b.length : Int) != (want.length : Int)) = false := by simp [hll]
              rw [hend, if_pos hll] at hpd
              have z1 : (wr.setCell ⟨n0, 0, none⟩ (.slice na st.nodes.length nc)).cell? ⟨n0, 0, none⟩ = some (.slice na st.nodes.length nc) := (hN6.set 0 _).cell 0
              have hT6 := (HT5.out.new (kk.below (Nat.le_refl _) (fun _ _ e => e))).set hN6 (by decide) (by decide) 0 (.slice na st.nodes.length nc)
              have y36 : wr.cell? ⟨n0 + 1, 3, none⟩ = some (.slice na st.nodes.length nc) := (kk.cell (p := ⟨n0 + 1, 3, none⟩) yl5 (fun e => e)).trans y35
              have yl6 : n0 + 1 < wr.heap.size := by have := kk.size; omega
              have HF := Lib.hid (show DecPost b w (.returned (.tuple #[.agg #[.slice na st.nodes.length nc], .int .i64 0, .int .i64 0])) (wr.setCell ⟨n0, 0, none⟩ (.slice na st.nodes.length nc)) from
                decPost_ok HN0.out hpd (hT6.base (by omega)) (HB6.out.setCell (p := ⟨n0, 0, none⟩) (Nat.le_refl _) _))
              clear kk hdi hN6 hpd hT6 hend
              have hlz : decide ((i : Int) < (mn : Int)) = false := by simp; omega
              clear hll hii
              go_wp2_with fail
              exact bodyPost_ret (v := .tuple #[.agg #[.slice na st.nodes.length nc], .int .i64 0, .int .i64 0]) (by simp [results, Tryz.results19, go_sem, z1]) rfl HF.out
            · have e1 : ((b.length : Int) == (want.length : Int)) = false := by rw [beq_eq_false_iff_ne]; omega
              have e2 : ((b.length : Int) != (want.length : Int)) = true := by simp [bne, e1]
              rw [hend, if_neg hll] at hpd
              have z1 : (wr.setCell ⟨n0, 0, none⟩ (.slice none 0 0)).cell? ⟨n0, 0, none⟩ = some (.slice none 0 0) := (hN6.set 0 _).cell 0
              have hmi : min (b.length : Int) (want.length : Int) = (i : Int) := by rw [hii, HMN.out]; omega
              have HF := Lib.hid (show DecPost b w (.returned (.tuple #[.agg #[.slice none 0 0], .int .i64 (min (b.length : Int) (want.length : Int)), .int .i64 12])) (wr.setCell ⟨n0, 0, none⟩ (.slice none 0 0)) from by
                rw [hmi]
                exact decPost_err HN0.out hpd (HB6.out.setCell (p := ⟨n0, 0, none⟩) (Nat.le_refl _) _))
              clear kk hdi hN6 hpd hend hmi
              have hlz : decide ((i : Int) < (mn : Int)) = false := by simp; omega
              clear hll hii
              go_wp2_with fail
              exact bodyPost_ret (v := .tuple #[.agg #[.slice none 0 0], .int .i64 (min (b.length : Int) (want.length : Int)), .int .i64 12]) (by simp [results, Tryz.results19, go_sem, z1]) rfl HF.out
      · have d1 : (ck == 0) = false := by simpa using c1
        have hpd := HDEC.out
        rw [← hck, if_pos c1] at hpd
        have z0 := (hN4.set 0 (.slice none 0 0)).cell 0
        have HF := Lib.hid (show DecPost b w (.returned (.tuple #[.agg #[.slice none 0 0], .int .i64 28, .int .i64 ck])) (w4.setCell ⟨n0, 0, none⟩ (.slice none 0 0)) from decPost_err HN0.out hpd (HB4.out.setCell (p := ⟨n0, 0, none⟩) (Nat.le_refl _) _))
        clear c1 hck hb4 hk4 hT4 hH4 hN4 y3 hpd
        go_wp2_with fail
        exact bodyPost_ret (v := .tuple #[.agg #[.slice none 0 0], .int .i64 28, .int .i64 ck]) (by simp [results, Tryz.results19, go_sem, z0]) rfl HF.out
end Go.Proofs.YtofhcgbihonckaaGreatDoor

namespace Go.Proofs.YtofhcgbihonckaaGreatDoor
open Go.RowKit Go.ChangeMaps

theorem enc_root : (encB rootT).2 = 0 ∧ (encB rootT).1 = encodeT rootT := ⟨by kernel_rfl, by kernel_rfl⟩
theorem enc_root_len : (encodeT rootT).length = 44 := by kernel_rfl
theorem enc_root_0 : (encodeT rootT)[0]'(by rw [enc_root_len]; decide) = 208 := by kernel_rfl
theorem enc_root_43 : (encodeT rootT)[43]'(by rw [enc_root_len]; decide) = 9 := by kernel_rfl
theorem dec_root : decT (encodeT rootT) = (rootT, 0, 0) := dec_enc root_valid (by rw [enc_root_len]; decide)

set_option maxRecDepth 100000 in
set_option maxHeartbeats 4000000 in
theorem law08_awake (w : World) (lay : Lay0 w) (hw : 0 < w.heap.size) : Calls Tryz.prog 10 #[] w fun e w' => e = .returned (.bool true) ∧ Below w.heap.size w w' := by
  have hr0 := root_row w w.heap.size w.heap.size rfl (Nat.le_refl _)
  have hb0 : Below w.heap.size w (w.alloc (.cells #[.int .i64 (-1), .string ⟨#[]⟩, .slice none 0 0] 52)) := (Below.refl _ _).alloc (Nat.le_refl _) _
  have HLAY := Lib.hid lay
  go_enter Tryz.func10, Tryz.ntmps10
  go_wp2_with fail
  refine (by exact blob_Encode _ _ rootT _ hr0.in : Calls _ _ _ _ _).mono ?_
  rintro e w1 ⟨v1, rfl, hv1, hb1⟩
  rw [enc_root.1]
  rw [enc_root.2] at hv1
  have hb01 : Below w.heap.size w w1 := hb0.trans (hb1.mono hb0.size)
  have hr := hv1.read
  have hsz : ∀ g, v1.ownBlock = some g → g < w1.heap.size := fun g hg => (hv1.lt g hg).2
  have hl1 : Lay0 w1 := HLAY.out.keeps (Keeps.of_fresh hb01 (fun _ => False)) (fun e => e)
  have hdec := blob_Decode v1 (encodeT rootT) w1 hr (by rw [enc_root_len]; decide) hl1 hsz
  unfold DecPost at hdec
  rw [dec_root] at hdec
  obtain ⟨va, vc, e1, hc1, hc2, hcb⟩ := hr
  have hlen := enc_root_len
  have h0 := enc_root_0
  have h43 := enc_root_43
  obtain ⟨g, o, rfl, hcb2⟩ := hcb (by rw [hlen]; decide)
  subst e1
  have k0 : w1.cell? ⟨g, o, none⟩ = some (.int .u8 208) := by have := hcb2 0 (by rw [hlen]; decide); rw [h0] at this; exact this
  have k43 : w1.cell? ⟨g, o + 43, none⟩ = some (.int .u8 9) := by have := hcb2 43 (by rw [hlen]; decide); rw [h43] at this; exact this
  have hg : g < w1.heap.size := hsz g rfl
  rw [hlen] at hdec ⊢
  have HDEC := Lib.hid hdec
  have HB01 := Lib.hid hb01
  clear hr0 hb0 hb1 hv1 hcb hcb2 hlen h0 h43 hdec hsz hb01 hl1
  go_wp2_with fail
  refine (by exact HDEC.out : Calls _ _ _ _ _).mono ?_
  rintro e w2 ⟨nv, rfl, hT, hb2⟩
  obtain ⟨na, nc, rfl⟩ := hT.slice
  have k02 := (hb2.cell (p := ⟨g, o, none⟩) hg).trans k0
  have k432 := (hb2.cell (p := ⟨g, o + 43, none⟩) hg).trans k43
  have hg2 : g < w2.heap.size := Nat.lt_of_lt_of_le hg hb2.size
  have hb02 : Below w.heap.size w w2 := HB01.out.trans (hb2.mono HB01.out.size)
  have HF := Lib.hid (fun t => hb02.alloc (o := t) hb02.size)
  rw [show rootT.length = 1 from rfl]
  clear k0 k43 hg hT hb2 hb02
  go_wp2_with fail
  go_ret
  exact ⟨rfl, HF.out _⟩
end Go.Proofs.YtofhcgbihonckaaGreatDoor

namespace Go.Proofs.YtofhcgbihonckaaGreatDoor
open Go.RowKit Go.ChangeMaps

theorem bts_holds2 {w : World} {base : Nat} {v : Value} {l : List UInt8} (h : Bts w base v l) (h0 : 0 < l.length) : ∃ g c, v = .slice (some ⟨g, 0, none⟩) l.length c ∧ base ≤ g ∧ g < w.heap.size ∧ l.length ≤ c := by
  have h' : w.ownsRow base 5 1 v l.length (Lib.byteCells l) := h
  obtain ⟨g, c, e, h1, h2⟩ := h'.form h0
  refine ⟨g, c, e, h1, h2, ?_⟩
  rw [e] at h'
  exact row_cap h'
theorem BytesAt.own {w : World} {v : Value} {l : List UInt8} (h : BytesAt w v l) (h0 : 0 < l.length) : ∀ g, v.ownBlock = some g → g < w.heap.size := by
  intro g hg
  obtain ⟨a, c, rfl, _, _, hc⟩ := h
  obtain ⟨g2, o, rfl, hc2⟩ := hc h0
  have : g2 = g := Option.some.inj hg
  subst this
  exact World.block_lt_of_cell? w _ (hc2 0 h0)
theorem Bts.put {w : World} {base g c : Nat} {l : List UInt8} (h : Bts w base (.slice (some ⟨g, 0, none⟩) l.length c) l) (k : Nat) (x : UInt8) :
    Bts (w.setCell ⟨g, k, none⟩ (.int .u8 x.toNat)) base (.slice (some ⟨g, 0, none⟩) (l.set k x).length c) (l.set k x) := by
  have h' : w.ownsRow base 5 1 (.slice (some ⟨g, 0, none⟩) l.length c) l.length (Lib.byteCells l) := h
  obtain ⟨s1, s2⟩ := h'.stored k (.int .u8 x.toNat)
  unfold Bts
  rw [List.length_set, show Lib.byteCells (l.set k x) = (Lib.byteCells l).set k (.int .u8 x.toNat) from by simp [Lib.byteCells, List.map_set]]
  exact s1

set_option maxRecDepth 100000 in
set_option maxHeartbeats 8000000 in
theorem blobDamage_walk (a : Option Addr) (len cap : Nat) (at_ : Int) (y : UInt8) (w : World) (hi : IntsIn w a len) (hlc : len ≤ cap) (hcap : cap ≤ maxLen) (hnil : a = none → len = 0 ∧ cap = 0) (hat : I64 at_) (lay : Lay0 w) :
    Calls Tryz.prog 5 #[.slice a len cap, .int .i64 at_, .int .u8 (y.toNat : Int)] w fun e w' => e = .returned (.bool true) ∧ Below w.heap.size w w' := by
  have HLAY := Lib.hid lay
  have hw0 : 0 < w.heap.size := by obtain ⟨m, hm⟩ := lay; exact Nat.lt_of_le_of_lt (Nat.zero_le _) (World.block_lt_of_cell? w _ hm)
  go_enter Tryz.func5, Tryz.ntmps5
  go_wp2_with fail
  refine (mk_New a len cap _ hi hlc hcap hnil).mono ?_
  rintro e w1 ⟨tb, rfl, hT1, hb1⟩
  clear hi hnil
  have hB := hT1.1
  go_wp2_with fail
  refine (grow_TreeB w.heap.size tb 6 _ hT1 (by omega) (by omega)).mono ?_
  rintro e w2 ⟨v, T, rfl, hT, hc, hl, hbk, ht2, hk2⟩
  have hb2 : Below w.heap.size w w2 := hb1.trans (hk2.below hb1.size (fun i hi e => by omega))
  obtain ⟨va, vc, rfl⟩ := hT.slice
  obtain ⟨hL, hE1, hE2, hL44, hDE⟩ := enc_grown hc hl hbk (by omega)
  have henc := blob_Encode _ _ T _ hT.in
  unfold EncPost at henc
  rw [hE1, hE2] at henc
  obtain ⟨s, n, hs4, hsn⟩ : ∃ s n, s.length % 4 = 0 ∧ encodeT T = sealT s n := ⟨_, _, struct_len4 T, rfl⟩
  have hlen := seal_len s n
  have HCUT := Lib.hid (fun (k : Nat) (hk : k < (sealT s n).length) => dec_cut hs4 (by rw [hsn] at hL; omega) hk)
  have HMORE := Lib.hid (dec_more hs4 (by rw [hsn] at hL; omega) (s := s) (n := n))
  have HSET := Lib.hid (fun (k : Nat) (hk : k < (sealT s n).length) (c : UInt8) (hc : c ≠ (sealT s n)[k]) => dec_set hs4 (by rw [hsn] at hL; omega) hk hc)
  rw [hsn] at hL hL44 hDE henc
  obtain ⟨B, hB2⟩ : ∃ B, B = sealT s n := ⟨_, rfl⟩
  rw [← hB2] at hL hL44 hDE henc HCUT HMORE HSET
  have HENC := Lib.hid henc
  have HDE := Lib.hid hDE
  clear hT1 hb1 hT hE1 hE2 henc hsn hlen hB2 hDE hs4 ht2 hk2 hc hbk hl
  go_wp2_with fail
  refine (by exact HENC.out : Calls _ _ _ _ _).mono ?_
  rintro e w3 ⟨v3, rfl, hv3, hb3⟩
  have hb3' : Below w.heap.size w w3 := hb2.trans (hb3.mono hb2.size)
  obtain ⟨gb, bc, rfl, hgb1, hgb2, hbc⟩ := bts_holds2 hv3 (by omega)
  have d1 : decide ((B.length : Int) < 44) = false := by simp; omega
  have d1' : decide (B.length < 44) = false := by simp; omega
  have hr3 := hv3.read
  have hs3 := hb3'.size
  have HB3 := Lib.hid hb3'
  have HR3 := Lib.hid hr3
  clear hb2 hb3 hb3' hr3 hv3
  go_wp2_with fail
  refine (mk_Mod at_ (B.length : Int) _ hat (by omega) (by omega)).mono ?_
  rintro e w3' ⟨r, rfl, hr0, hr1, rfl⟩
  obtain ⟨k, rfl⟩ : ∃ k : Nat, r = (k : Int) := ⟨r.toNat, by omega⟩
  have hk : k < B.length := by omega
  obtain ⟨i0, hin, hz0, hz1, hz2⟩ := info_parts infoU8
  go_wp2_with (at_builtin; refine wpList_append_src _ rfl _ _ 26 26 rfl w3.heap.size 5 i0 (.int .u8 0) 1 1 Tryz.underlying26 hin hz0 hz1 hz2 rfl _ 0 [] rfl (by exact row_empty (by simp) (by omega)) _ rfl B.length (Lib.byteCells B) ?c1 ?c2 ?c3 ?c4 ?_)
  case c1 => exact (HR3.out.new ((Below.refl _ _).alloc (Nat.le_refl _) _)).src
  case c2 => unfold maxLen; omega
  case c3 => omega
  case c4 => simp <;> omega
  intro v5 w5 hown5 hgrow5 hat5
  have hb5 : Bts w5 w3.heap.size v5 B := by
    unfold Bts
    first | exact hown5 | (rw [Nat.zero_add, List.nil_append] at hown5; exact hown5)
  have hk5 : Keeps (fun _ => False) w3 w5 := (Keeps.of_fresh ((Below.refl w3.heap.size w3).alloc (Nat.le_refl _) _) _).trans (Keeps.of_grown hgrow5 (fun i e => e)) (fun i hi e => by
    have e2 : some w3.heap.size = some i := e
    have := Option.some.inj e2; omega)
  have HB5 := Lib.hid (HB3.out.trans (hk5.below hs3 (fun _ _ e => e.elim)))
  obtain ⟨g5, c5, rfl, hg51, hg52, hc5⟩ := bts_holds2 hb5 (by omega)
  obtain ⟨a5, q5, e5, -, -, hcell⟩ := hb5.read
  cases e5
  obtain ⟨gx, ox, e5, hcell2⟩ := hcell (by omega)
  cases e5
  have ck := hcell2 k hk
  rw [Nat.zero_add] at ck
  obtain ⟨_, cur5, hH5⟩ := bts_holds hb5 rfl
  have cf := hH5.free k
  have hput := hb5.put k (B[k] ^^^ y)
  have hkp : Keeps (fun i => i = g5) w5 (w5.setCell ⟨g5, k, none⟩ (.int .u8 ((B[k] ^^^ y).toNat : Int))) := (Keeps.refl (fun i => i = g5) w5).setCell (p := ⟨g5, k, none⟩) (.inr rfl) _
  have HB6 := Lib.hid (HB5.out.trans (hkp.below (by have := HB5.out.size; omega) (fun i hi e => by have e2 : i = g5 := e; omega)))
  have hr6 := ((HR3.out.keeps hk5 (fun _ _ e => e)).keeps hkp (fun g hg e => by have e1 : gb = g := Option.some.inj hg; have e2 : g = g5 := e; omega))
  have hx := xor_u8 B[k] y
  have hnew := xor_self_iff B[k] y
  have hsets := HSET.out k hk (B[k] ^^^ y)
  have hkp2 : (k : Int) < (B.length : Int) := by omega
  have hset0 : B.set k B[k] = B := List.set_getElem_self ..
  rw [List.length_set] at hput
  generalize B[k] ^^^ y = z at *
  generalize B[k] = x at *
  have HPUT := Lib.hid hput
  have HR6 := Lib.hid hr6
  have HSZ := Lib.hid hsets
  clear hown5 hgrow5 hat5 hk5 hcell hcell2 hb5 hH5 hput hkp hr6 hsets
  go_wp2_with fail
  generalize w5.setCell ⟨g5, k, none⟩ (.int .u8 (z.toNat : Int)) = w6 at *
  have hdec := blob_Decode _ (B.set k z) w6 HPUT.out.read (by rw [List.length_set]; omega) (HLAY.out.keeps (Keeps.of_fresh HB6.out (fun _ => False)) (fun e => e)) (fun g hg => (HPUT.out.lt g hg).2)
  have hbs6 := HB6.out.size
  have hbad : ∃ T2 p2 e2, decT (B.set k z) = (T2, p2, e2) ∧ ((y = 0 ∧ e2 = 0) ∨ (y ≠ 0 ∧ e2 ≠ 0 ∧ T2 = [])) := by
    by_cases hy : y = 0
    · rw [hnew.2 hy, hset0, HDE.out]; exact ⟨_, _, _, rfl, .inl ⟨hy, rfl⟩⟩
    · obtain ⟨p, e, he⟩ := HSZ.out (fun h => hy (hnew.1 h))
      rw [decT_head he]; exact ⟨_, _, _, rfl, .inr ⟨hy, head_err he, rfl⟩⟩
  obtain ⟨T2, p2, e2, hd2, hcase⟩ := hbad
  unfold DecPost at hdec
  rw [hd2] at hdec
  have HDEC := Lib.hid hdec
  have HNEW := Lib.hid hnew
  clear hdec hd2 hnew hset0 HSET HSZ HPUT hx ck cf
  refine (by exact HDEC.out : Calls _ _ _ _ _).mono ?_
  rintro e w7 ⟨nv, rfl, hT7, hb7⟩
  obtain ⟨na, nc, rfl⟩ := hT7.slice
  have HB7 := Lib.hid (HB6.out.trans (hb7.mono hbs6))
  have HR7 := Lib.hid (HR6.out.new hb7)
  have HTK := Lib.hid (fun t => HB7.out.alloc (o := t) HB7.out.size)
  clear hT7 HDEC
  go_upto_region 9 with fail
  go_cut [70] from 56 to 70 (fun c wx => c = .bool false ∧ Below w.heap.size w wx ∧ BytesAt wx (.slice (some ⟨gb, 0, none⟩) B.length bc) B)
  case first =>
    rcases hcase with ⟨hy, he2⟩ | ⟨hy, he2, hT2⟩
    · subst he2
      have y1 : ((y.toNat : Int) == 0) = true := by rw [hy]; rfl
      clear hy
      go_wp2_with fail
      go_meet
      case rel => exact ⟨rfl, HTK.out _, HR7.out.new ((Below.refl _ _).alloc (Nat.le_refl _) _)⟩
    · have y1 : ((y.toNat : Int) == 0) = false := by
        rw [beq_eq_false_iff_ne]; intro h; exact hy (UInt8.toNat_inj.1 (by simpa using h))
      have y2 : (e2 == 0) = false := by simpa using he2
      have y3 : (e2 != 0) = true := by simp [bne, y2]
      have y4 : T2.length = 0 := by rw [hT2]; rfl
      have y5 : decide ((0 : Int) < (T2.length : Int)) = false := by simp [y4]
      have y5' : decide (0 < T2.length) = false := by simp [y4]
      clear hy he2 hT2 y4
      go_wp2_with fail
      go_meet
      case rel => exact ⟨rfl, HTK.out _, HR7.out.new ((Below.refl _ _).alloc (Nat.le_refl _) _)⟩
  case rest =>
    obtain ⟨rfl, hb8, hr8⟩ := hcut
    go_wp2_with fail
    have hs8 := hb8.size
    have hrk : BytesAt wc (.slice (some ⟨gb, 0, none⟩) k bc) (B.take k) := by have := bytes_win hr8 0 k (by omega); simpa using this
    have hdec2 := blob_Decode _ (B.take k) wc hrk (by rw [List.length_take]; omega) (HLAY.out.keeps (Keeps.of_fresh hb8 (fun _ => False)) (fun e => e)) (fun g hg => hr8.own (by omega) g hg)
    unfold DecPost at hdec2
    rw [HCUT.out k hk] at hdec2
    have HD2 := Lib.hid hdec2
    clear hdec2 hrk
    refine (by exact HD2.out : Calls _ _ _ _ _).mono ?_
    rintro e w9 ⟨nv9, rfl, hT9, hb9⟩
    obtain ⟨na9, nc9, rfl⟩ := hT9.slice
    have HB9 := Lib.hid (hb8.trans (hb9.mono hs8))
    have HR9 := Lib.hid (hr8.new hb9)
    have hs9 := hb9.size
    clear hT9 HD2 hb9 hr8 hb8
    go_wp2_with (at_builtin; refine wpList_append_src _ rfl _ _ 26 26 rfl w9.heap.size 5 i0 (.int .u8 0) 1 1 Tryz.underlying26 hin hz0 hz1 hz2 rfl _ 0 [] rfl (by exact row_empty (by simp) (by omega)) _ rfl B.length (Lib.byteCells B) ?e1 ?e2 ?e3 ?e4 ?_)
    case e1 => exact (HR9.out.new (((Below.refl _ _).alloc (Nat.le_refl _) _).alloc (by simp) _)).src
    case e2 => unfold maxLen; omega
    case e3 => omega
    case e4 => simp <;> omega
    intro v10 w10 hown10 hgrow10 hat10
    have hb10 : Bts w10 w9.heap.size v10 B := by
      unfold Bts
      first | exact hown10 | (rw [Nat.zero_add, List.nil_append] at hown10; exact hown10)
    have hk10 : Keeps (fun _ => False) w9 w10 := (Keeps.of_fresh (((Below.refl w9.heap.size w9).alloc (Nat.le_refl _) _).alloc (by simp) _) _).trans (Keeps.of_grown hgrow10 (fun i e => e)) (fun i hi e => by
      have e2 : some (w9.heap.size + 1) = some i := by simpa [Value.ownBlock] using e
      have := Option.some.inj e2; omega)
    have HB10 := Lib.hid (HB9.out.trans (hk10.below HB9.out.size (fun _ _ e => e.elim)))
    obtain ⟨a10, c10, rfl⟩ := hb10.shape
    have hs10 := hk10.size
    clear hown10 hgrow10 hat10
    go_wp2_with (at_builtin; refine wpList_append_src _ rfl _ _ 26 26 rfl w9.heap.size 5 i0 (.int .u8 0) 1 1 Tryz.underlying26 hin hz0 hz1 hz2 rfl _ B.length (Lib.byteCells B) rfl (by exact World.ownsRow.alloc hb10 _) _ rfl 1 [.int .u8 (y.toNat : Int)] ?f1 ?f2 ?f3 ?f4 ?_)
    case f1 => exact Src.ofSlice _ Tryz.underlying26 _ 1 1 _ rfl (new_cells _ _ _ _ rfl _ rfl) (fun u hu => by simp at hu; rcases hu with rfl; rfl)
    case f2 => unfold maxLen; omega
    case f3 => omega
    case f4 => simp <;> omega
    intro v11 w11 hown11 hgrow11 hat11
    have hb11 : Bts w11 w9.heap.size v11 (B ++ [y]) := by
      unfold Bts
      rw [List.length_append, show Lib.byteCells (B ++ [y]) = Lib.byteCells B ++ [.int .u8 (y.toNat : Int)] from by simp [Lib.byteCells]]
      exact hown11
    have hk11 : Keeps (fun i => w9.heap.size ≤ i) w10 w11 := (Keeps.of_fresh ((Below.refl w10.heap.size w10).alloc (Nat.le_refl _) _) _).trans (Keeps.of_grown hgrow11 (fun i e => e)) (fun i hi e => (hb10.lt i e).1)
    have HB11 := Lib.hid (HB10.out.trans (hk11.below HB10.out.size (fun i hi e => by omega)))
    have hdec3 := blob_Decode v11 (B ++ [y]) w11 hb11.read (by simp; omega) (HLAY.out.keeps (Keeps.of_fresh HB11.out (fun _ => False)) (fun e => e)) (fun g hg => (hb11.lt g hg).2)
    unfold DecPost at hdec3
    rw [HMORE.out y] at hdec3
    have HD3 := Lib.hid hdec3
    clear hdec3 hown11 hgrow11 hat11 hb10 hb11 hk10 hk11
    go_wp2_with fail
    refine (by exact HD3.out : Calls _ _ _ _ _).mono ?_
    rintro e w12 ⟨nv12, rfl, hT12, hb12⟩
    obtain ⟨na12, nc12, rfl⟩ := hT12.slice
    have HB12 := Lib.hid (HB11.out.trans (hb12.mono HB11.out.size))
    clear hT12 HD3 hb12
    have HTB := Lib.hid (fun t => HB12.out.alloc (o := t) HB12.out.size)
    go_wp2_with fail
    refine (law08_awake _ (HLAY.out.keeps (Keeps.of_fresh (HTB.out _) (fun _ => False)) (fun e => e)) (Nat.lt_of_lt_of_le hw0 (HTB.out _).size)).mono ?_
    rintro e w13 ⟨rfl, hb13⟩
    have HF := Lib.hid ((HTB.out _).trans (hb13.mono (HTB.out _).size))
    clear hb13
    go_wp2_with fail
    go_ret
    exact ⟨rfl, HF.out⟩
end Go.Proofs.YtofhcgbihonckaaGreatDoor
