/- Contracts of package tree: Same (slices.EqualFunc at nodes, slices.Equal at properties). | Contracts of package tree: Same. -/
import Derived.Test.YtjfkjnakmmkkiaaGreatZ7
import Derived.Deep.RegionWith

namespace Go.Proofs.YtjfkjnakmmkkiaaGreat
open Go.RowKit

def EqP (ps qs : List PropT) (W : World) (f : Nat) (x : Value) (w : World) : Prop :=
  ∃ i : Nat, x = .int .i64 i ∧ i ≤ ps.length ∧ ps.length ≤ i + f ∧ Hid (∀ j (h1 : j < ps.length) (h2 : j < qs.length), j < i → ps[j] = qs[j]) ∧ Below W.heap.size W w

set_option maxRecDepth 100000 in
set_option maxHeartbeats 4000000 in
theorem props_Equal (R R' : Nat → Prop) (v u : Value) (ps qs : List PropT) (w : World) (h1 : PropsIn R w v ps) (h2 : PropsIn R' w u qs) :
    Calls Tryz.prog 97 #[v, u] w fun e w' => ∃ b, e = .returned (.bool b) ∧ (b = true ↔ ps = qs) ∧ Below w.heap.size w w' := by
  obtain ⟨a, cap, rfl, hc1, hc2⟩ := h1.shape
  obtain ⟨a', cap', rfl, hc1', hc2'⟩ := h2.shape
  have H1 := Lib.hid h1; have H2 := Lib.hid h2; clear h1 h2
  by_cases hl : ps.length = qs.length
  · have hl' : ((ps.length : Int) != (qs.length : Int)) = false := by rw [hl]; simp
    have HL := Lib.hid hl
    clear hl
    go_enter Tryz.func97, Tryz.ntmps97
    go_wp2_with fail
    go_loopg [13] ps.length (fun f x wr => EqP ps qs w f x wr)
    case atStart => exact ⟨0, rfl, by omega, by omega, Lib.hid (fun j _ _ h => by omega), Below.refl _ _⟩
    case round =>
      obtain ⟨i, rfl, hi1, hi2, hall, hb⟩ := hrel
      by_cases hlt : i < ps.length
      · have hlt2 : i < qs.length := by rw [← HL.out]; exact hlt
        have k1 : (i : Int) < ps.length := by omega
        have k2 : (i : Int) < qs.length := by omega
        obtain ⟨g, o, hae, hg, c0, c1, _⟩ := (H1.out.new hb).at i hlt
        obtain ⟨g', o', hae', hg', d0, d1, _⟩ := (H2.out.new hb).at i hlt2
        subst hae
        subst hae'
        have HB := Lib.hid hb
        have HALL := hall
        clear hb hall
        have hcase : (ps[i].name = qs[i].name ∧ ps[i].value = qs[i].value) ∨ ¬ (ps[i].name = qs[i].name ∧ ps[i].value = qs[i].value) := Classical.em _
        rcases hcase with hc | hc
        · have e1 : (ps[i].name.toList == qs[i].name.toList) = true := by rw [hc.1]; simp
          have e2 : (ps[i].value.toList == qs[i].value.toList) = true := by rw [hc.2]; simp
          have hpe : ps[i] = qs[i] := by
            cases hx : ps[i]; cases hy : qs[i]
            rw [hx, hy] at hc
            simp only at hc
            rw [hc.1, hc.2]
          have HPE := Lib.hid hpe
          clear hpe hc
          generalize ps[i].name = a1 at *
          generalize ps[i].value = a2 at *
          generalize qs[i].name = b1 at *
          generalize qs[i].value = b2 at *
          go_wp2_with fail
          go_quiet (fail)
          go_wp2_with fail
          go_roundg (gk - 1)
          case measure => omega
          case rel =>
            refine ⟨i + 1, by go_num, by omega, by omega, Lib.hid (fun j j1 j2 h => ?_), ⟨HB.out.os, HB.out.tape, HB.out.output, HB.out.size, HB.out.block⟩⟩
            by_cases e : j = i
            · subst e; exact HPE.out
            · exact HALL.out j j1 j2 (by omega)
        · have hps := Lib.hid (show ps ≠ qs from fun e => hc (by simp only [e]; exact ⟨trivial, trivial⟩))
          cases e1 : (ps[i].name.toList == qs[i].name.toList) with
          | false =>
            clear hc
            generalize ps[i].name = a1 at *
            generalize ps[i].value = a2 at *
            generalize qs[i].name = b1 at *
            generalize qs[i].value = b2 at *
            go_wp2_with fail
            go_quiet (fail)
            go_wp2_with fail
            go_ret
            exact ⟨false, rfl, by simp [hps.out], ⟨HB.out.os, HB.out.tape, HB.out.output, HB.out.size, HB.out.block⟩⟩
          | true =>
            have e2 : (ps[i].value.toList == qs[i].value.toList) = false := by
              cases h : (ps[i].value.toList == qs[i].value.toList) with
              | false => rfl
              | true => exact absurd ⟨nm_eq e1, nm_eq h⟩ hc
            clear hc
            generalize ps[i].name = a1 at *
            generalize ps[i].value = a2 at *
            generalize qs[i].name = b1 at *
            generalize qs[i].value = b2 at *
            go_wp2_with fail
            go_quiet (fail)
            go_wp2_with fail
            go_ret
            exact ⟨false, rfl, by simp [hps.out], ⟨HB.out.os, HB.out.tape, HB.out.output, HB.out.size, HB.out.block⟩⟩
      · obtain rfl : i = ps.length := by omega
        have hpe : Hid (ps = qs) := Lib.hid (by
          apply List.ext_getElem HL.out
          intro j j1 j2
          exact hall.out j j1 j2 j1)
        have hb2 := Lib.hid hb
        clear hb
        go_wp2_with fail
        go_ret
        exact ⟨true, rfl, by simp [hpe.out], hb2.out⟩
  · have hl' : ((ps.length : Int) != (qs.length : Int)) = true := by simp; omega
    have hps := Lib.hid (show ps ≠ qs from fun e => hl (by rw [e]))
    clear hl
    go_enter Tryz.func97, Tryz.ntmps97
    go_wp2_with fail
    go_ret
    exact ⟨false, rfl, by simp [hps.out], Below.refl _ _⟩

set_option maxRecDepth 100000 in
set_option maxHeartbeats 4000000 in
/-- The closure of Same. -/
theorem tree_Same1 (R R' : Nat → Prop) (p q : Int) (n m : ByteArray) (v u : Value) (ps qs : List PropT) (w : World) (h1 : PropsIn R w v ps) (h2 : PropsIn R' w u qs) :
    Calls Tryz.prog 96 #[.agg #[.int .i64 p, .string n, v], .agg #[.int .i64 q, .string m, u]] w fun e w' => ∃ b, e = .returned (.bool b) ∧ (b = true ↔ p = q ∧ n = m ∧ ps = qs) ∧ Below w.heap.size w w' := by
  obtain ⟨a, cap, rfl, hc1, hc2⟩ := h1.shape
  obtain ⟨a', cap', rfl, hc1', hc2'⟩ := h2.shape
  have hb0 : Below w.heap.size w ((w.alloc (.cells #[.int .i64 p, .string n, .slice a ps.length cap] 76)).alloc (.cells #[.int .i64 q, .string m, .slice a' qs.length cap'] 76)) := ((Below.refl _ _).alloc (Nat.le_refl _) _).alloc (by simp) _
  have HE := Lib.hid (fun (wx : World) (hx : Below w.heap.size w wx) => props_Equal R R' _ _ ps qs wx (h1.new hx) (h2.new hx))
  clear h1 h2
  by_cases hpq : p = q
  · have hpq' : (p == q) = true := by simpa using hpq
    have HPQ := Lib.hid hpq
    clear hpq
    cases hnm : (n.toList == m.toList) with
    | false =>
      have hne := Lib.hid (nm_ne hnm)
      go_enter Tryz.func96, Tryz.ntmps96
      go_wp2_with fail
      go_ret
      exact ⟨false, rfl, by simp [hne.out], hb0⟩
    | true =>
      have heq := Lib.hid (nm_eq hnm)
      go_enter Tryz.func96, Tryz.ntmps96
      go_wp2_with fail
      refine (HE.out _ (by exact hb0)).mono ?_
      rintro e w1 ⟨b, rfl, hb, hb1⟩
      have hb2 := hb0.trans (hb1.mono (by simp; omega))
      have HB := Lib.hid hb
      clear hb
      go_wp2_with fail
      go_ret
      exact ⟨b, rfl, by simp [HPQ.out, heq.out, HB.out], hb2⟩
  · have hpq' : (p == q) = false := by simpa using hpq
    have HPQ := Lib.hid hpq
    clear hpq
    go_enter Tryz.func96, Tryz.ntmps96
    go_wp2_with fail
    go_ret
    exact ⟨false, rfl, by simp [HPQ.out], hb0⟩
end Go.Proofs.YtjfkjnakmmkkiaaGreat

namespace Go.Proofs.YtjfkjnakmmkkiaaGreat
open Go.RowKit

theorem enters_Same1 : ∀ args w, (callFunc 96 args).run Tryz.prog w = .ok (.enter 96 args) w := enters_of Tryz.func96 (by kernel_rfl) rfl
def EqN (T U : List NodeT) (W : World) (f : Nat) (x : Value) (w : World) : Prop :=
  ∃ i : Nat, x = .int .i64 i ∧ i ≤ T.length ∧ T.length ≤ i + f ∧ Hid (∀ j (h1 : j < T.length) (h2 : j < U.length), j < i → T[j] = U[j]) ∧ Below W.heap.size W w

set_option maxRecDepth 100000 in
set_option maxHeartbeats 4000000 in
theorem nodes_EqualFunc (R R' : Nat → Prop) (v u : Value) (T U : List NodeT) (w : World) (h1 : NodesIn R w v T) (h2 : NodesIn R' w u U) :
    Calls Tryz.prog 95 #[v, u, .func (.func 96) #[] #[]] w fun e w' => ∃ b, e = .returned (.bool b) ∧ (b = true ↔ T = U) ∧ Below w.heap.size w w' := by
  obtain ⟨a, cap, rfl, hc1, hc2⟩ := h1.shape
  obtain ⟨a', cap', rfl, hc1', hc2'⟩ := h2.shape
  have H1 := Lib.hid h1; have H2 := Lib.hid h2; clear h1 h2
  have eg := enters_Same1
  by_cases hl : T.length = U.length
  · have hl' : ((T.length : Int) != (U.length : Int)) = false := by rw [hl]; simp
    have HL := Lib.hid hl
    clear hl
    go_enter Tryz.func95, Tryz.ntmps95
    go_wp2_with fail
    go_loopg [17] T.length (fun f x wr => EqN T U w f x wr)
    case atStart => exact ⟨0, rfl, by omega, by omega, Lib.hid (fun j _ _ h => by omega), Below.refl _ _⟩
    case round =>
      obtain ⟨i, rfl, hi1, hi2, hall, hb⟩ := hrel
      have hbs := hb.size
      by_cases hlt : i < T.length
      · have hlt2 : i < U.length := by rw [← HL.out]; exact hlt
        have k1 : (i : Int) < T.length := by omega
        have k2 : (i : Int) < U.length := by omega
        obtain ⟨g, o, pa, pc, hae, hg, c0, c1, c2, hP, -, -, -, -, -⟩ := (H1.out.new hb).at i hlt
        obtain ⟨g', o', pa', pc', hae', hg', d0, d1, d2, hP', -, -, -, -, -⟩ := (H2.out.new hb).at i hlt2
        subst hae
        subst hae'
        have HC := Lib.hid (fun (wx : World) (hx : Below wr.heap.size wr wx) => tree_Same1 R R' T[i].parent U[i].parent T[i].name U[i].name (.slice pa T[i].props.length pc) (.slice pa' U[i].props.length pc') T[i].props U[i].props wx (hP.new hx) (hP'.new hx))
        have hst := Lib.hid (show (T[i].parent = U[i].parent ∧ T[i].name = U[i].name ∧ T[i].props = U[i].props) ↔ T[i] = U[i] from ⟨node_eq, fun e => by rw [e]; exact ⟨rfl, rfl, rfl⟩⟩)
        have hnext := Lib.hid (show T[i] = U[i] → ∀ j (h1 : j < T.length) (h2 : j < U.length), j < i + 1 → T[j] = U[j] from fun e j j1 j2 h => by
          by_cases ej : j = i
          · subst ej; exact e
          · exact hall.out j j1 j2 (by omega))
        have hne := Lib.hid (show ¬ T[i] = U[i] → T ≠ U from fun h e => h (by simp only [e]))
        have hb2 : Below wr.heap.size wr ((wr.alloc (.cells #[.int .i64 T[i].parent, .string T[i].name, .slice pa T[i].props.length pc] 76)).alloc (.cells #[.int .i64 U[i].parent, .string U[i].name, .slice pa' U[i].props.length pc'] 76)) := ((Below.refl _ _).alloc (Nat.le_refl _) _).alloc (by simp) _
        have HB2 := Lib.hid hb2
        have HB := Lib.hid hb
        clear hall hP hP' hb2 hb
        generalize T[i].parent = n1 at *
        generalize T[i].name = n2 at *
        generalize T[i].props = n3 at *
        generalize U[i].parent = m1 at *
        generalize U[i].name = m2 at *
        generalize U[i].props = m3 at *
        go_wp2_with fail
        refine (HC.out _ (by exact HB2.out)).mono ?_
        rintro e w2 ⟨b, rfl, hbi, hb3⟩
        have hb4 := HB.out.trans ((HB2.out.trans (hb3.mono HB2.out.size)).mono hbs)
        rw [hst.out] at hbi
        clear c0 c1 c2 d0 d1 d2
        cases b with
        | true =>
          have hn2 := Lib.hid (hnext.out (hbi.1 rfl))
          clear hbi
          go_wp2_with fail
          go_roundg (gk - 1)
          case measure => omega
          case rel => exact ⟨i + 1, by go_num, by omega, by omega, hn2, hb4⟩
        | false =>
          have hn2 := Lib.hid (hne.out (fun e => by have := hbi.2 e; cases this))
          clear hbi
          go_wp2_with fail
          go_ret
          exact ⟨false, rfl, by simp [hn2.out], hb4⟩
      · obtain rfl : i = T.length := by omega
        have hpe : Hid (T = U) := Lib.hid (by
          apply List.ext_getElem HL.out
          intro j j1 j2
          exact hall.out j j1 j2 j1)
        have hb2 := Lib.hid hb
        clear hb
        go_wp2_with fail
        go_ret
        exact ⟨true, rfl, by simp [hpe.out], hb2.out⟩
  · have hl' : ((T.length : Int) != (U.length : Int)) = true := by simp; omega
    have hps := Lib.hid (show T ≠ U from fun e => hl (by rw [e]))
    clear hl
    go_enter Tryz.func95, Tryz.ntmps95
    go_wp2_with fail
    go_ret
    exact ⟨false, rfl, by simp [hps.out], Below.refl _ _⟩

set_option maxHeartbeats 1000000 in
theorem tree_Same (R R' : Nat → Prop) (v u : Value) (T U : List NodeT) (w : World) (h1 : NodesIn R w v T) (h2 : NodesIn R' w u U) :
    Calls Tryz.prog 36 #[.agg #[v], .agg #[u]] w fun e w' => ∃ b, e = .returned (.bool b) ∧ (b = true ↔ T = U) ∧ Below w.heap.size w w' := by
  obtain ⟨a, cap, rfl, hc1, hc2⟩ := h1.shape
  obtain ⟨a', cap', rfl, hc1', hc2'⟩ := h2.shape
  have hb0 : Below w.heap.size w ((w.alloc (.cells #[.slice a T.length cap] 25)).alloc (.cells #[.slice a' U.length cap'] 25)) := ((Below.refl _ _).alloc (Nat.le_refl _) _).alloc (by simp) _
  have HE := Lib.hid (nodes_EqualFunc R R' _ _ T U _ (h1.new hb0) (h2.new hb0))
  clear h1 h2
  go_enter Tryz.func36, Tryz.ntmps36
  go_wp2_with fail
  refine HE.out.mono ?_
  rintro e w2 ⟨b, rfl, hbi, hb3⟩
  have hb4 := hb0.trans (hb3.mono (by simp; omega))
  have HB := Lib.hid hbi
  clear hbi
  go_wp2_with fail
  go_ret
  exact ⟨b, rfl, HB.out, hb4⟩
end Go.Proofs.YtjfkjnakmmkkiaaGreat
