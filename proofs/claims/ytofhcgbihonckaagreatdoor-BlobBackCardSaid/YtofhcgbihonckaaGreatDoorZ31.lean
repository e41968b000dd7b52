/- Contracts of bringupref03: SameNode. | Contracts of bringupref03: Same. -/
import Derived.Test.YtofhcgbihonckaaGreatDoorZ17
import Derived.Deep.LoopGhost

set_option linter.unusedVariables false
set_option linter.unusedSimpArgs false
set_option linter.unusedSectionVars false

namespace Go.Proofs.YtofhcgbihonckaaGreatDoor
open Go.RowKit

theorem nm_ne {a b : ByteArray} (h : (a.toList == b.toList) = false) : a ≠ b := fun e => by rw [e] at h; simp at h
theorem nm_eq {a b : ByteArray} (h : (a.toList == b.toList) = true) : a = b := (eqS_iff a b).1 h
def SameW (ps qs : List PropT) (X Y : Nat) (c1 c2 : Array Value) (W : World) (f : Nat) (x : Value) (w : World) : Prop :=
  ∃ i : Nat, x = .int .i64 i ∧ i ≤ ps.length ∧ ps.length ≤ i + f ∧ Hid (∀ j (h1 : j < ps.length) (h2 : j < qs.length), j < i → ps[j] = qs[j]) ∧ Holds w X c1 52 ∧ Holds w Y c2 52 ∧ Below W.heap.size W w

set_option maxRecDepth 100000 in
set_option maxHeartbeats 4000000 in
theorem ref3_SameNode (R R' : Nat → Prop) (p q : Int) (n m : ByteArray) (v u : Value) (ps qs : List PropT) (w : World) (h1 : PropsIn R w v ps) (h2 : PropsIn R' w u qs) :
    Calls Tryz.prog 45 #[.agg #[.int .i64 p, .string n, v], .agg #[.int .i64 q, .string m, u]] w fun e w' => ∃ b, e = .returned (.bool b) ∧ (b = true ↔ p = q ∧ n = m ∧ ps = qs) ∧ Below w.heap.size w w' := by
  obtain ⟨a, cap, rfl, hc1, hc2⟩ := h1.shape
  obtain ⟨a', cap', rfl, hc1', hc2'⟩ := h2.shape
  have H1 := Lib.hid h1; have H2 := Lib.hid h2; clear h1 h2
  have hX := (Holds.new w #[.int .i64 p, .string n, .slice a ps.length cap] 52).alloc (.cells #[.int .i64 q, .string m, .slice a' qs.length cap'] 52)
  have hY := Holds.newAt (w := w.alloc (.cells #[.int .i64 p, .string n, .slice a ps.length cap] 52)) (B := w.heap.size + 1) (by simp) #[.int .i64 q, .string m, .slice a' qs.length cap'] 52
  have hb0 : Below w.heap.size w ((w.alloc (.cells #[.int .i64 p, .string n, .slice a ps.length cap] 52)).alloc (.cells #[.int .i64 q, .string m, .slice a' qs.length cap'] 52)) := ((Below.refl _ _).alloc (Nat.le_refl _) _).alloc (by simp) _
  by_cases hpq : p = q
  · have hpq' : (p != q) = false := by simpa using hpq
    have HPQ := Lib.hid hpq
    clear hpq
    cases hnm : (n.toList == m.toList) with
    | false =>
      have hne := Lib.hid (nm_ne hnm)
      go_enter Tryz.func45, Tryz.ntmps45
      go_wp2_with fail
      go_ret
      exact ⟨false, rfl, by simp [hne.out], hb0⟩
    | true =>
      have heq := Lib.hid (nm_eq hnm)
      by_cases hl : ps.length = qs.length
      · have hl' : ((ps.length : Int) != (qs.length : Int)) = false := by rw [hl]; simp
        have HL := Lib.hid hl
        clear hl
        go_enter Tryz.func45, Tryz.ntmps45
        go_wp2_with fail
        go_loopg [30] ps.length (fun f x wr => SameW ps qs w.heap.size (w.heap.size + 1) #[.int .i64 p, .string n, .slice a ps.length cap] #[.int .i64 q, .string m, .slice a' qs.length cap'] w f x wr)
        case atStart => exact ⟨0, rfl, by omega, by omega, Lib.hid (fun j _ _ h => by omega), hX, hY, hb0⟩
        case round =>
          clear hX hY hb0
          obtain ⟨i, rfl, hi1, hi2, hall, hX, hY, hb⟩ := hrel
          by_cases hlt : i < ps.length
          · have hlt2 : i < qs.length := by rw [← HL.out]; exact hlt
            have k1 : (i : Int) < ps.length := by omega
            have k2 : (i : Int) < qs.length := by omega
            have x2 := hX.cell 2
            have y2 := hY.cell 2
            obtain ⟨g, o, hae, hg, c0, c1, _⟩ := (H1.out.new hb).at i hlt
            obtain ⟨g', o', hae', hg', d0, d1, _⟩ := (H2.out.new hb).at i hlt2
            subst hae
            subst hae'
            have HB := Lib.hid hb
            have HX := Lib.hid hX
            have HY := Lib.hid hY
            have HALL := hall
            clear hb hX hY hall
            have hcase : (ps[i].name = qs[i].name ∧ ps[i].value = qs[i].value) ∨ ¬ (ps[i].name = qs[i].name ∧ ps[i].value = qs[i].value) := Classical.em _
            rcases hcase with hc | hc
            · have e1 : (ps[i].name.toList == qs[i].name.toList) = true := by rw [hc.1]; simp
              have e2 : (ps[i].value.toList == qs[i].value.toList) = true := by rw [hc.2]; simp
              have hpe : ps[i] = qs[i] := by
                cases hx : ps[i]; cases hy : qs[i]
                rw [hx, hy] at hc
                simp only at hc
                rw [hc.1, hc.2]
              have HPE := Lib.hid hpe
              clear hpe hc
              generalize ps[i].name = a1 at *
              generalize ps[i].value = a2 at *
              generalize qs[i].name = b1 at *
              generalize qs[i].value = b2 at *
              go_wp2_with fail
              go_quiet (fail)
              go_wp2_with fail
              go_roundg (gk - 1)
              case measure => omega
              case rel =>
                refine ⟨i + 1, by go_num, by omega, by omega, Lib.hid (fun j j1 j2 h => ?_), HX.out, HY.out, ⟨HB.out.os, HB.out.tape, HB.out.output, HB.out.size, HB.out.block⟩⟩
                by_cases e : j = i
                · subst e; exact HPE.out
                · exact HALL.out j j1 j2 (by omega)
            · have hps := Lib.hid (show ps ≠ qs from fun e => hc (by simp only [e]; exact ⟨trivial, trivial⟩))
              cases e1 : (ps[i].name.toList == qs[i].name.toList) with
              | false =>
                clear hc
                generalize ps[i].name = a1 at *
                generalize ps[i].value = a2 at *
                generalize qs[i].name = b1 at *
                generalize qs[i].value = b2 at *
                go_wp2_with fail
                go_quiet (fail)
                go_wp2_with fail
                go_ret
                exact ⟨false, rfl, by simp [hps.out], ⟨HB.out.os, HB.out.tape, HB.out.output, HB.out.size, HB.out.block⟩⟩
              | true =>
                have e2 : (ps[i].value.toList == qs[i].value.toList) = false := by
                  cases h : (ps[i].value.toList == qs[i].value.toList) with
                  | false => rfl
                  | true => exact absurd ⟨nm_eq e1, nm_eq h⟩ hc
                clear hc
                generalize ps[i].name = a1 at *
                generalize ps[i].value = a2 at *
                generalize qs[i].name = b1 at *
                generalize qs[i].value = b2 at *
                go_wp2_with fail
                go_quiet (fail)
                go_wp2_with fail
                go_ret
                exact ⟨false, rfl, by simp [hps.out], ⟨HB.out.os, HB.out.tape, HB.out.output, HB.out.size, HB.out.block⟩⟩
          · obtain rfl : i = ps.length := by omega
            have hpe : Hid (ps = qs) := Lib.hid (by
              apply List.ext_getElem HL.out
              intro j j1 j2
              exact hall.out j j1 j2 j1)
            have hb2 := Lib.hid hb
            clear hb hX hY
            go_wp2_with fail
            go_ret
            exact ⟨true, rfl, by simp [HPQ.out, heq.out, hpe.out], hb2.out⟩
      · have hl' : ((ps.length : Int) != (qs.length : Int)) = true := by simp; omega
        have hps := Lib.hid (show ps ≠ qs from fun e => hl (by rw [e]))
        clear hl
        go_enter Tryz.func45, Tryz.ntmps45
        go_wp2_with fail
        go_ret
        exact ⟨false, rfl, by simp [hps.out], hb0⟩
  · have hpq' : (p != q) = true := by simpa using hpq
    go_enter Tryz.func45, Tryz.ntmps45
    go_wp2_with fail
    go_ret
    exact ⟨false, rfl, by simp [hpq], hb0⟩
end Go.Proofs.YtofhcgbihonckaaGreatDoor

namespace Go.Proofs.YtofhcgbihonckaaGreatDoor
open Go.RowKit

theorem node_eq {a b : NodeT} (h : a.parent = b.parent ∧ a.name = b.name ∧ a.props = b.props) : a = b := by
  cases a; cases b
  simp only at h
  obtain ⟨rfl, rfl, rfl⟩ := h
  rfl
def SameT (T U : List NodeT) (X Y : Nat) (c1 c2 : Value) (W : World) (f : Nat) (x : Value) (w : World) : Prop :=
  ∃ i : Nat, x = .int .i64 i ∧ i ≤ T.length ∧ T.length ≤ i + f ∧ Hid (∀ j (h1 : j < T.length) (h2 : j < U.length), j < i → T[j] = U[j]) ∧ Holds w X #[c1] 25 ∧ Holds w Y #[c2] 25 ∧ Below W.heap.size W w

set_option maxRecDepth 100000 in
set_option maxHeartbeats 4000000 in
theorem ref3_Same (R R' : Nat → Prop) (v u : Value) (T U : List NodeT) (w : World) (h1 : NodesIn R w v T) (h2 : NodesIn R' w u U) :
    Calls Tryz.prog 21 #[.agg #[v], .agg #[u]] w fun e w' => ∃ b, e = .returned (.bool b) ∧ (b = true ↔ T = U) ∧ Below w.heap.size w w' := by
  obtain ⟨a, cap, rfl, hc1, hc2⟩ := h1.shape
  obtain ⟨a', cap', rfl, hc1', hc2'⟩ := h2.shape
  have H1 := Lib.hid h1; have H2 := Lib.hid h2; clear h1 h2
  have hX := (Holds.new w #[.slice a T.length cap] 25).alloc (.cells #[.slice a' U.length cap'] 25)
  have hY := Holds.newAt (w := w.alloc (.cells #[.slice a T.length cap] 25)) (B := w.heap.size + 1) (by simp) #[.slice a' U.length cap'] 25
  have hb0 : Below w.heap.size w ((w.alloc (.cells #[.slice a T.length cap] 25)).alloc (.cells #[.slice a' U.length cap'] 25)) := ((Below.refl _ _).alloc (Nat.le_refl _) _).alloc (by simp) _
  by_cases hl : T.length = U.length
  · have hl' : ((T.length : Int) != (U.length : Int)) = false := by rw [hl]; simp
    have HL := Lib.hid hl
    clear hl
    go_enter Tryz.func21, Tryz.ntmps21
    go_wp2_with fail
    go_loopg [16] T.length (fun f x wr => SameT T U w.heap.size (w.heap.size + 1) (.slice a T.length cap) (.slice a' U.length cap') w f x wr)
    case atStart => exact ⟨0, rfl, by omega, by omega, Lib.hid (fun j _ _ h => by omega), hX, hY, hb0⟩
    case round =>
      clear hX hY hb0
      obtain ⟨i, rfl, hi1, hi2, hall, hX, hY, hb⟩ := hrel
      by_cases hlt : i < T.length
      · have hlt2 : i < U.length := by rw [← HL.out]; exact hlt
        have k1 : (i : Int) < T.length := by omega
        have k2 : (i : Int) < U.length := by omega
        have x0 := hX.cell 0
        have y0 := hY.cell 0
        obtain ⟨g, o, pa, pc, hae, hg, c0, c1, c2, hP, -, -, -, -, -⟩ := (H1.out.new hb).at i hlt
        obtain ⟨g', o', pa', pc', hae', hg', d0, d1, d2, hP', -, -, -, -, -⟩ := (H2.out.new hb).at i hlt2
        subst hae
        subst hae'
        have HB := Lib.hid hb
        have HX := Lib.hid hX
        have HY := Lib.hid hY
        have HC := Lib.hid (ref3_SameNode R R' T[i].parent U[i].parent T[i].name U[i].name (.slice pa T[i].props.length pc) (.slice pa' U[i].props.length pc') T[i].props U[i].props wr.drew hP.drew hP'.drew)
        have hbd : Below wr.heap.size wr wr.drew := (Below.refl _ _).drew
        have hst := Lib.hid (show (T[i].parent = U[i].parent ∧ T[i].name = U[i].name ∧ T[i].props = U[i].props) ↔ T[i] = U[i] from ⟨node_eq, fun e => by rw [e]; exact ⟨rfl, rfl, rfl⟩⟩)
        have hnext := Lib.hid (show T[i] = U[i] → ∀ j (h1 : j < T.length) (h2 : j < U.length), j < i + 1 → T[j] = U[j] from fun e j j1 j2 h => by
          by_cases ej : j = i
          · subst ej; exact e
          · exact hall.out j j1 j2 (by omega))
        have hne := Lib.hid (show ¬ T[i] = U[i] → T ≠ U from fun h e => h (by simp only [e]))
        clear hb hX hY hall hP hP'
        generalize T[i].parent = n1 at *
        generalize T[i].name = n2 at *
        generalize T[i].props = n3 at *
        generalize U[i].parent = m1 at *
        generalize U[i].name = m2 at *
        generalize U[i].props = m3 at *
        go_wp2_with fail
        go_region_with (go_at_call 45; refine HC.out.mono ?_; rintro e w2 ⟨b, rfl, hbi, hb2⟩)
        all_goals
          have hb3 := hbd.trans hb2
          have hX2 := HX.out.keeps (Keeps.of_fresh hb3 (fun _ => False)) (fun e => e)
          have hY2 := HY.out.keeps (Keeps.of_fresh hb3 (fun _ => False)) (fun e => e)
          have hb4 := HB.out.trans (hb3.mono HB.out.size)
          rw [hst.out] at hbi
          clear x0 y0 c0 c1 c2 d0 d1 d2
          cases b with
          | true =>
            have hn2 := Lib.hid (hnext.out (hbi.1 rfl))
            clear hbi
            go_wp2_with fail
            go_roundg (gk - 1)
            case measure => omega
            case rel => exact ⟨i + 1, by go_num, by omega, by omega, hn2, hX2, hY2, hb4⟩
          | false =>
            have hn2 := Lib.hid (hne.out (fun e => by have := hbi.2 e; cases this))
            clear hbi
            go_wp2_with fail
            go_ret
            exact ⟨false, rfl, by simp [hn2.out], hb4⟩
      · obtain rfl : i = T.length := by omega
        have hpe : Hid (T = U) := Lib.hid (by
          apply List.ext_getElem HL.out
          intro j j1 j2
          exact hall.out j j1 j2 j1)
        have hb2 := Lib.hid hb
        clear hb hX hY
        go_wp2_with fail
        go_ret
        exact ⟨true, rfl, by simp [hpe.out], hb2.out⟩
  · have hl' : ((T.length : Int) != (U.length : Int)) = true := by simp; omega
    have hps := Lib.hid (show T ≠ U from fun e => hl (by rw [e]))
    clear hl
    go_enter Tryz.func21, Tryz.ntmps21
    go_wp2_with fail
    go_ret
    exact ⟨false, rfl, by simp [hps.out], hb0⟩
end Go.Proofs.YtofhcgbihonckaaGreatDoor
