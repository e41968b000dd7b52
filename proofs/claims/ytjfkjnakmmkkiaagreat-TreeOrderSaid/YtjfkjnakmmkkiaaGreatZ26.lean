/- The walk of the law TreeEdits (printed by gted.py). -/
import Derived.Test.YtjfkjnakmmkkiaaGreatZ17
import Derived.Test.YtjfkjnakmmkkiaaGreatZ21
import Derived.Test.YtjfkjnakmmkkiaaGreatZ20
import Derived.Test.YtjfkjnakmmkkiaaGreatZ23
import Derived.Test.YtjfkjnakmmkkiaaGreatZ7
import Derived.Test.YtjfkjnakmmkkiaaGreatZ24
import Derived.Test.YtjfkjnakmmkkiaaGreatZ25
import Derived.Test.YtjfkjnakmmkkiaaGreatZ13
import Derived.Deep.DeepCutAuto
import Derived.Deep.CutBlock
import Derived.Deep.LoopGhost

namespace Go.Proofs.YtjfkjnakmmkkiaaGreat
open Go.RowKit

/-- The j-th of some trees in a list. -/
def TreesAt (b L n : Nat) (w : World) : Prop := ∀ j : Nat, j < n → ∃ a c X, w.cell? ⟨L, j, none⟩ = some (.slice a (List.length X) c) ∧ NodesIn (fun g => g ≠ b ∧ g < w.heap.size) w (.slice a (List.length X) c) X
def TedO (B b n : Nat) (W : World) (f : Nat) (x : Value) (w : World) : Prop := ∃ j : Nat, x = .int .i64 j ∧ j ≤ n ∧ n ≤ j + f ∧ Tape B w b ∧ Keeps (fun i => i = b) W w
def TedM (B b : Nat) (W : World) (p n q v : Value) (w : World) : Prop := ∃ p' n' q' v' : ByteArray, p = .string p' ∧ n = .string n' ∧ q = .string q' ∧ v = .string v' ∧ n'.size ≤ 9223372036854775807 ∧ q'.size ≤ 9223372036854775807 ∧ v'.size ≤ 9223372036854775807 ∧ Tape B w b ∧ Keeps (fun i => i = b) W w
theorem ints_below {w w' : World} {a : Option Addr} {len : Nat} (h : IntsIn w a len) (k : Below w.heap.size w w') : IntsIn w' a len := fun h0 => by
  obtain ⟨g, o, e, hc⟩ := h h0
  refine ⟨g, o, e, fun i hi => ?_⟩
  obtain ⟨n, c, r⟩ := hc i hi
  exact ⟨n, (k.cell (p := ⟨g, o + i, none⟩) (World.block_lt_of_cell? w _ c)).trans c, r⟩
theorem lName_small : ∀ s ∈ lName, s.size ≤ 9223372036854775807 := by decide
theorem lProp_small : ∀ s ∈ lProperty, s.size ≤ 9223372036854775807 := by decide

set_option maxRecDepth 100000 in
set_option maxHeartbeats 8000000 in
theorem treeEdits_walk (a0 : Option Addr) (len0 cap0 : Nat) (a1 : Option Addr) (c1 : Nat) (T0 : List NodeT) (path name value : ByteArray) (w : World) (hi : IntsIn w a0 len0) (hlc : len0 ≤ cap0) (hcap : cap0 ≤ maxLen) (hnil : a0 = none → len0 = 0 ∧ cap0 = 0)
    (hT : NodesIn (fun g => g < w.heap.size) w (.slice a1 T0.length c1) T0) (hpath : path.size ≤ maxLen) (hname : name.size ≤ maxLen) (hvalue : value.size ≤ maxLen) :
    Calls Tryz.prog 7 #[.slice a0 len0 cap0, .agg #[.slice a1 T0.length c1], .string path, .string name, .string value] w fun e w' => e = .returned (.bool true) ∧ Below w.heap.size w w' := by
  unfold maxLen at hpath hname hvalue
  have HT := Lib.hid hT; clear hT
  have haw := Lib.hid law03_awake
  have hb0 : Below w.heap.size w (w.alloc (.cells #[.slice a1 T0.length c1] 25)) := (Below.refl _ _).alloc (Nat.le_refl _) _
  have hX0 := Holds.new w #[.slice a1 T0.length c1] 25
  have hsm := Lib.hid (grow_Small (fun g => g < w.heap.size) (.slice a1 T0.length c1) T0 _ (HT.out.new hb0))
  go_enter Tryz.func7, Tryz.ntmps7
  go_wp2_with fail
  refine hsm.out.mono ?_
  rintro e w1 ⟨sb, rfl, hb1⟩
  have hb2 := hb0.trans (hb1.mono (by simp))
  have hs2 := hb2.size
  by_cases hgo : sb = true ∧ path.size ≤ 400 ∧ value.size ≤ 400
  · obtain ⟨rfl, hp4, hv4⟩ := hgo
    have hp4' : ¬ (400 : Int) < (path.size : Int) := by omega
    have hv4' : ¬ (400 : Int) < (value.size : Int) := by omega
    have hX1 := hX0.keeps (Keeps.of_fresh hb1 (fun _ => False)) (fun e => e)
    have hi1 : IntsIn w1 a0 len0 := ints_below hi hb2
    have hnw := Lib.hid (mk_New a0 len0 cap0 w1 hi1 hlc hcap hnil)
    go_wp2_with fail
    refine hnw.out.mono ?_
    rintro e w2 ⟨b, rfl, hT2, hb3⟩
    have hbW := hT2.1
    have hbl2 := hT2.lt
    go_wp2_with fail
    refine (grow_Tree w1.heap.size b 10 w2 hT2 (by omega) (by omega)).mono ?_
    rintro e w3 ⟨va, A, rfl, hA3, hAc, hAl, hT3, hK3⟩
    obtain ⟨aa, ac, rfl⟩ := tree_slice hA3
    have hfit : ∀ n ∈ A, n.props.length + 1 ≤ 25 := fun n hn => by
      obtain ⟨k, hk, rfl⟩ := List.getElem_of_mem hn
      have := fit_props hAc k hk
      omega
    have hAl3 : Below w3.heap.size w3 (w3.alloc (.cells #[.slice aa A.length ac] 25)) := (Below.refl _ _).alloc (Nat.le_refl _) _
    have hA4 := hA3.new hAl3
    have hZ4 := Holds.new w3 #[.slice aa A.length ac] 25
    have hT4 := hT3.new hAl3
    have hxb : w.heap.size ≠ b := by have := hX1.lt; omega
    have hX3 := ((hX1.keeps (Keeps.of_fresh hb3 (fun _ => False)) (fun e => e)).keeps hK3 (by have := hX1.lt; omega)).alloc (.cells #[.slice aa A.length ac] 25)
    have hb4 : Below w.heap.size w w3 := (hb2.trans (hb3.mono hs2)).trans (hK3.below (by have := hb3.size; omega) (fun i hi e => by omega))
    have hb5 := hb4.alloc hb4.size (.cells #[.slice aa A.length ac] 25)
    have hR4 := HT.out.new hb5
    have hb2w := hb3.size
    have hK3s := hK3.size
    have hzb : w3.heap.size ≠ b := by omega
    clear hb0 hX0 hsm hnw hX1 hi1 hi hT2 hT3 hK3 hb3 hA3 hAl3 hb4 hb1 hb2
    go_upto_region 5 with fail
    generalize hW4 : w3.alloc (.cells #[.slice aa A.length ac] 25) = W4 at *
    have hW4s : W4.heap.size = w3.heap.size + 1 := by rw [← hW4]; simp
    clear hW4
    have x0 := hX3.cell 0
    have xl := hX3.lt
    have y0 := hZ4.cell 0
    have yl := hZ4.lt
    have hXNb : NodesIn (fun g => g ≠ b) W4 (.slice a1 T0.length c1) T0 := hR4.mono (fun g h e => by subst e; omega)
    have hANb : NodesIn (fun g => g ≠ b) W4 (.slice aa A.length ac) A := hA4.in.mono (fun g h e => by subst e; omega)
    have hAm : ∀ n ∈ A, n.props.length ≤ 24 := fun n hn => by have := hfit n hn; omega
    clear hfit
    refine wp_region_any (by kernel_rfl) ?_
    refine wpAny_ops (ops' := bleOps 5) (by kernel_rfl) ?_
    refine ble_region w1.heap.size b 11 24 w.heap.size w3.heap.size a1 c1 T0 aa ac A W4 W4.drew _ rfl (by omega) hAm (by omega) (by omega) hX3 hZ4 hxb hzb hXNb hANb rfl rfl rfl ⟨hT4.keeps ((Keeps.refl (fun _ => False) W4).drew) (fun _ e => e.elim), (Keeps.refl _ W4).drew⟩ ?_
    intro c w5 hsb hT5 hK5 hTF h60 h61
    obtain ⟨y54, y55, y56, y57, y58, y59, y60, y61, hc⟩ := hsb.ex [54, 55, 56, 57, 58, 59, 60, 61] (by kernel_rfl)
    subst hc
    simp only [List.setIfInBounds_toArray, List.set_cons_zero, List.set_cons_succ] at hTF h60 h61 ⊢
    have hTF' : TreesF b 3 y59 w5 := hTF
    have e60 : y60 = .int .i64 3 := h60
    have e61 : y61 = .int .i64 0 := h61
    obtain ⟨L, e59, hLb, htr⟩ := hTF'
    subst e60 e61 e59
    have HTR := Lib.hid htr
    have HA4 := Lib.hid hA4
    have HT4 := Lib.hid hT4
    have HZ4 := Lib.hid hZ4
    have HK5 := Lib.hid hK5
    have hbW4 : Below w.heap.size w W4 := hb5
    have hb6 : Below w.heap.size w w5 := hbW4.trans (hK5.below hbW4.size (fun i hi e => by omega))
    have HB6 := Lib.hid hb6
    have hs6 := hb6.size
    clear hTF h60 h61 hsb htr hA4 hT4 hZ4 hK5 hb5 hb6 hbW4 hXNb hANb hAm hR4 hX3 x0 xl y0 yl
    go_wp2_with fail
    go_loopg [61] 3 (fun f x wr => TedO w1.heap.size b 3 w5 f x wr)
    case atStart => exact ⟨0, rfl, by omega, by omega, hT5, Keeps.refl _ _⟩
    case round =>
      obtain ⟨j, rfl, hj1, hj2, hTr, hKr⟩ := hrel
      have hsr := hKr.size
      clear hT5
      by_cases hlt : j < 3
      · have hlt' : (j : Int) < 3 := by omega
        obtain ⟨xa, xc, X, hcx, hXN⟩ := HTR.out j hlt
        have hcx' := (hKr.cell (p := ⟨L, j, none⟩) (World.block_lt_of_cell? w5 _ hcx) hLb).trans hcx
        have hLl : L < wr.heap.size := Nat.lt_of_lt_of_le (World.block_lt_of_cell? w5 _ hcx) hsr
        have hXN' := hXN.keeps hKr (fun _ h e => h e)
        have hal : Below wr.heap.size wr (wr.alloc (.cells #[.slice xa X.length xc] 25)) := (Below.refl _ _).alloc (Nat.le_refl _) _
        have hXNi := Lib.hid (hXN'.new hal)
        have hNi := Holds.new wr #[.slice xa X.length xc] 25
        have hTi := hTr.new hal
        have hNb : wr.heap.size ≠ b := by have := hTr.lt; omega
        clear hcx hXN hXN'
        go_wp2_with fail
        obtain ⟨wo, rfl⟩ : ∃ x : World, x = wr := ⟨_, rfl⟩
        obtain ⟨go, rfl⟩ : ∃ x : Nat, x = gk := ⟨_, rfl⟩
        have HNi := Lib.hid hNi
        have HKr := Lib.hid hKr
        have hKi := Lib.hid (Keeps.of_fresh hal (fun i => i = b))
        clear hcx' hal hNi hKr
        generalize hWi : wo.alloc (.cells #[.slice xa X.length xc] 25) = wi at *
        have hwis : wi.heap.size = wo.heap.size + 1 := by rw [← hWi]; simp
        clear hWi
        go_loopg [15] 3 (fun f x wr => TedO w1.heap.size b 3 wi f x wr)
        case atStart => exact ⟨0, rfl, by omega, by omega, hTi, Keeps.refl _ _⟩
        case round =>
          obtain ⟨i, rfl, hi1, hi2, hTq, hKq⟩ := hrel
          have hsq := hKq.size
          clear hTi
          by_cases hlti : i < 3
          · have hlti' : (i : Int) < 3 := by omega
            go_upto_if 74 with fail
            go_cut [16, 17, 18, 19] (fun p n q v wx => TedM w1.heap.size b wr p n q v wx)
            case first =>
              by_cases hi0 : i = 0
              · have hi0' : ¬ (0 : Int) < (i : Int) := by omega
                clear hi0
                go_wp2_with fail
                go_meet
                exact ⟨path, name, name, value, rfl, rfl, rfl, rfl, by omega, by omega, by omega, hTq, Keeps.refl _ _⟩
              · have hi0' : (0 : Int) < (i : Int) := by omega
                clear hi0
                have hKall : Keeps (fun i => i = b) W4 wr := ((HK5.out.trans HKr.out (fun _ _ e => e)).trans hKi.out (fun _ _ e => e)).trans hKq (fun _ _ e => e)
                have hAr := HA4.out.tape HT4.out hKall
                have hZr := HZ4.out.keeps hKall hzb
                have z0 := hZr.cell 0
                have zl := hZr.lt
                have hA1 : 0 < A.length := (limits_len (check_limits hAc)).1
                go_wp2_with fail
                refine (grow_Path w1.heap.size b _ _ A _ (by exact hTq) (by exact hAr) hA1 (by omega)).mono ?_
                rintro e q1 ⟨p, rfl, hT1, hK1⟩
                go_wp2_with fail
                refine (mk_Name w1.heap.size b _ (by exact hT1)).mono ?_
                rintro e q2 ⟨n, rfl, hn, hT2, hK2⟩
                go_wp2_with fail
                refine (mk_Property w1.heap.size b _ (by exact hT2)).mono ?_
                rintro e q3 ⟨q, rfl, hq, hT3, hK3⟩
                go_wp2_with fail
                refine (grow_Value w1.heap.size b _ (by exact hT3)).mono ?_
                rintro e q4 ⟨v, rfl, hv, hT4, hK4⟩
                go_wp2_with fail
                go_meet
                exact ⟨p, n, q, v, rfl, rfl, rfl, rfl, lName_small n hn, lProp_small q hq, by omega, hT4, ((hK1.trans hK2 (fun _ _ e => e)).trans hK3 (fun _ _ e => e)).trans hK4 (fun _ _ e => e)⟩
            case rest =>
              obtain ⟨p, n, q, v, rfl, rfl, rfl, rfl, hn1, hn2, hn3, hTm, hKm⟩ := hcut
              have hKn := hKq.trans hKm (fun _ _ e => e)
              have hNc := HNi.out.keeps hKn hNb
              have hX0 := hNc.cell 0
              have hXl := hNc.lt
              have HXN := Lib.hid (hXNi.out.keeps hKn (fun _ h e => h e))
              have HTm := Lib.hid hTm
              have HKn := Lib.hid hKn
              clear hNc hKn hKm hTm hTq hKq
              have HC1 := Lib.hid (fun wx hx => tree_Add (fun g => g ≠ b) (.slice xa X.length xc) X p n wx hx hn1)
              have HC2 := Lib.hid (fun wx hx => ref3_Add (fun g => g ≠ b) (.slice xa X.length xc) X p n wx hx hn1)
              have HC3 := Lib.hid (fun wx hx => tree_Set (fun g => g ≠ b) (.slice xa X.length xc) X p q v wx hx hn2 hn3)
              have HC4 := Lib.hid (fun wx hx => ref3_Set (fun g => g ≠ b) (.slice xa X.length xc) X p q v wx hx hn2 hn3)
              have HC5 := Lib.hid (fun wx hx => tree_Delete (fun g => g ≠ b) (.slice xa X.length xc) X p q wx hx)
              have HC6 := Lib.hid (fun wx hx => ref3_Delete (fun g => g ≠ b) (.slice xa X.length xc) X p q wx hx)
              have HC7 := Lib.hid (fun wx hx => tree_Remove (fun g => g ≠ b) (.slice xa X.length xc) X p wx hx)
              have HC8 := Lib.hid (fun wx hx => ref3_Remove (fun g => g ≠ b) (.slice xa X.length xc) X p wx hx)
              generalize addT X p n = E1 at HC1 HC2
              generalize setT X p q v = E2 at HC3 HC4
              generalize deleteT X p q = E3 at HC5 HC6
              generalize removeT X p = E4 at HC7 HC8
              obtain ⟨T1, r1⟩ := E1
              obtain ⟨T2, r2⟩ := E2
              obtain ⟨T3, r3⟩ := E3
              obtain ⟨T4, r4⟩ := E4
              have hc0 : Below wc.heap.size wc wc := Below.refl _ _
              have x1 := (cell_keep hX0 hXl hc0)
              have xl1 := Nat.lt_of_lt_of_le hXl hc0.size
              go_wp2_with fail
              refine (HC1.out _ (by exact (HXN.out.new hc0))).mono ?_
              rintro e m1 ⟨u1, rfl, hr1, hb1⟩
              obtain ⟨sa1, sc1, rfl⟩ := tree_slice hr1
              have hd1 := hc0.trans (hb1.mono hc0.size)
              have hc1 := hd1.alloc hd1.size (.cells #[.slice sa1 T1.length sc1] 25)
              have ha1 : Below m1.heap.size m1 (m1.alloc (.cells #[.slice sa1 T1.length sc1] 25)) := (Below.refl _ _).alloc (Nat.le_refl _) _
              have HR1 := Lib.hid (And.intro ((hr1.new ha1).in) (Holds.new m1 #[.slice sa1 T1.length sc1] 25))
              have hg1 := ha1
              clear x1 hr1 hd1 ha1
              have x2 := (cell_keep hX0 hXl hc1)
              have xl2 := Nat.lt_of_lt_of_le hXl hc1.size
              go_wp2_with fail
              refine (HC2.out _ (by exact (HXN.out.new hc1))).mono ?_
              rintro e m2 ⟨u2, rfl, hr2, hb2⟩
              obtain ⟨sa2, sc2, rfl⟩ := tree_slice hr2
              have hd2 := hc1.trans (hb2.mono hc1.size)
              have hc2 := hd2.alloc hd2.size (.cells #[.slice sa2 T1.length sc2] 25)
              have ha2 : Below m2.heap.size m2 (m2.alloc (.cells #[.slice sa2 T1.length sc2] 25)) := (Below.refl _ _).alloc (Nat.le_refl _) _
              have HR2 := Lib.hid (And.intro ((hr2.new ha2).in) (Holds.new m2 #[.slice sa2 T1.length sc2] 25))
              have hg2 := ha2
              clear x2 hr2 hd2 ha2
              have x3 := (cell_keep hX0 hXl hc2)
              have xl3 := Nat.lt_of_lt_of_le hXl hc2.size
              go_wp2_with fail
              refine (HC3.out _ (by exact (HXN.out.new hc2))).mono ?_
              rintro e m3 ⟨u3, rfl, hr3, hb3⟩
              obtain ⟨sa3, sc3, rfl⟩ := tree_slice hr3
              have hd3 := hc2.trans (hb3.mono hc2.size)
              have hc3 := hd3.alloc hd3.size (.cells #[.slice sa3 T2.length sc3] 25)
              have ha3 : Below m3.heap.size m3 (m3.alloc (.cells #[.slice sa3 T2.length sc3] 25)) := (Below.refl _ _).alloc (Nat.le_refl _) _
              have HR3 := Lib.hid (And.intro ((hr3.new ha3).in) (Holds.new m3 #[.slice sa3 T2.length sc3] 25))
              have hg3 := ha3
              clear x3 hr3 hd3 ha3
              have x4 := (cell_keep hX0 hXl hc3)
              have xl4 := Nat.lt_of_lt_of_le hXl hc3.size
              go_wp2_with fail
              refine (HC4.out _ (by exact (HXN.out.new hc3))).mono ?_
              rintro e m4 ⟨u4, rfl, hr4, hb4⟩
              obtain ⟨sa4, sc4, rfl⟩ := tree_slice hr4
              have hd4 := hc3.trans (hb4.mono hc3.size)
              have hc4 := hd4.alloc hd4.size (.cells #[.slice sa4 T2.length sc4] 25)
              have ha4 : Below m4.heap.size m4 (m4.alloc (.cells #[.slice sa4 T2.length sc4] 25)) := (Below.refl _ _).alloc (Nat.le_refl _) _
              have HR4 := Lib.hid (And.intro ((hr4.new ha4).in) (Holds.new m4 #[.slice sa4 T2.length sc4] 25))
              have hg4 := ha4
              clear x4 hr4 hd4 ha4
              have x5 := (cell_keep hX0 hXl hc4)
              have xl5 := Nat.lt_of_lt_of_le hXl hc4.size
              go_wp2_with fail
              refine (HC5.out _ (by exact (HXN.out.new hc4))).mono ?_
              rintro e m5 ⟨u5, rfl, hr5, hb5⟩
              obtain ⟨sa5, sc5, rfl⟩ := tree_slice hr5
              have hd5 := hc4.trans (hb5.mono hc4.size)
              have hc5 := hd5.alloc hd5.size (.cells #[.slice sa5 T3.length sc5] 25)
              have ha5 : Below m5.heap.size m5 (m5.alloc (.cells #[.slice sa5 T3.length sc5] 25)) := (Below.refl _ _).alloc (Nat.le_refl _) _
              have HR5 := Lib.hid (And.intro ((hr5.new ha5).in) (Holds.new m5 #[.slice sa5 T3.length sc5] 25))
              have hg5 := ha5
              clear x5 hr5 hd5 ha5
              have x6 := (cell_keep hX0 hXl hc5)
              have xl6 := Nat.lt_of_lt_of_le hXl hc5.size
              go_wp2_with fail
              refine (HC6.out _ (by exact (HXN.out.new hc5))).mono ?_
              rintro e m6 ⟨u6, rfl, hr6, hb6⟩
              obtain ⟨sa6, sc6, rfl⟩ := tree_slice hr6
              have hd6 := hc5.trans (hb6.mono hc5.size)
              have hc6 := hd6.alloc hd6.size (.cells #[.slice sa6 T3.length sc6] 25)
              have ha6 : Below m6.heap.size m6 (m6.alloc (.cells #[.slice sa6 T3.length sc6] 25)) := (Below.refl _ _).alloc (Nat.le_refl _) _
              have HR6 := Lib.hid (And.intro ((hr6.new ha6).in) (Holds.new m6 #[.slice sa6 T3.length sc6] 25))
              have hg6 := ha6
              clear x6 hr6 hd6 ha6
              have x7 := (cell_keep hX0 hXl hc6)
              have xl7 := Nat.lt_of_lt_of_le hXl hc6.size
              go_wp2_with fail
              refine (HC7.out _ (by exact (HXN.out.new hc6))).mono ?_
              rintro e m7 ⟨u7, rfl, hr7, hb7⟩
              obtain ⟨sa7, sc7, rfl⟩ := tree_slice hr7
              have hd7 := hc6.trans (hb7.mono hc6.size)
              have hc7 := hd7.alloc hd7.size (.cells #[.slice sa7 T4.length sc7] 25)
              have ha7 : Below m7.heap.size m7 (m7.alloc (.cells #[.slice sa7 T4.length sc7] 25)) := (Below.refl _ _).alloc (Nat.le_refl _) _
              have HR7 := Lib.hid (And.intro ((hr7.new ha7).in) (Holds.new m7 #[.slice sa7 T4.length sc7] 25))
              have hg7 := ha7
              clear x7 hr7 hd7 ha7
              have x8 := (cell_keep hX0 hXl hc7)
              have xl8 := Nat.lt_of_lt_of_le hXl hc7.size
              go_wp2_with fail
              refine (HC8.out _ (by exact (HXN.out.new hc7))).mono ?_
              rintro e m8 ⟨u8, rfl, hr8, hb8⟩
              obtain ⟨sa8, sc8, rfl⟩ := tree_slice hr8
              have hd8 := hc7.trans (hb8.mono hc7.size)
              have hc8 := hd8.alloc hd8.size (.cells #[.slice sa8 T4.length sc8] 25)
              have ha8 : Below m8.heap.size m8 (m8.alloc (.cells #[.slice sa8 T4.length sc8] 25)) := (Below.refl _ _).alloc (Nat.le_refl _) _
              have HR8 := Lib.hid (And.intro ((hr8.new ha8).in) (Holds.new m8 #[.slice sa8 T4.length sc8] 25))
              have hg8 := ha8
              clear x8 hr8 hd8 ha8
              go_upto_region 22 with fail
              -- what the calls returned, in the last world
              have g8 : Below (m8.alloc (.cells #[.slice sa8 T4.length sc8] 25)).heap.size (m8.alloc (.cells #[.slice sa8 T4.length sc8] 25)) (m8.alloc (.cells #[.slice sa8 T4.length sc8] 25)) := Below.refl _ _
              have g7 := (hb8.trans (hg8.mono hb8.size)).trans (g8.mono (Nat.le_trans hb8.size hg8.size))
              have g6 := (hb7.trans (hg7.mono hb7.size)).trans (g7.mono (Nat.le_trans hb7.size hg7.size))
              have g5 := (hb6.trans (hg6.mono hb6.size)).trans (g6.mono (Nat.le_trans hb6.size hg6.size))
              have g4 := (hb5.trans (hg5.mono hb5.size)).trans (g5.mono (Nat.le_trans hb5.size hg5.size))
              have g3 := (hb4.trans (hg4.mono hb4.size)).trans (g4.mono (Nat.le_trans hb4.size hg4.size))
              have g2 := (hb3.trans (hg3.mono hb3.size)).trans (g3.mono (Nat.le_trans hb3.size hg3.size))
              have g1 := (hb2.trans (hg2.mono hb2.size)).trans (g2.mono (Nat.le_trans hb2.size hg2.size))
              have N1 := Lib.hid (HR1.out.1.new g1)
              have Z1 := (HR1.out.2.keeps (Keeps.of_fresh g1 (fun _ => False)) (fun e => e))
              have z1 := Z1.cell 0
              have zl1 := Z1.lt
              have N2 := Lib.hid (HR2.out.1.new g2)
              have Z2 := (HR2.out.2.keeps (Keeps.of_fresh g2 (fun _ => False)) (fun e => e))
              have z2 := Z2.cell 0
              have zl2 := Z2.lt
              have N3 := Lib.hid (HR3.out.1.new g3)
              have Z3 := (HR3.out.2.keeps (Keeps.of_fresh g3 (fun _ => False)) (fun e => e))
              have z3 := Z3.cell 0
              have zl3 := Z3.lt
              have N4 := Lib.hid (HR4.out.1.new g4)
              have Z4 := (HR4.out.2.keeps (Keeps.of_fresh g4 (fun _ => False)) (fun e => e))
              have z4 := Z4.cell 0
              have zl4 := Z4.lt
              have N5 := Lib.hid (HR5.out.1.new g5)
              have Z5 := (HR5.out.2.keeps (Keeps.of_fresh g5 (fun _ => False)) (fun e => e))
              have z5 := Z5.cell 0
              have zl5 := Z5.lt
              have N6 := Lib.hid (HR6.out.1.new g6)
              have Z6 := (HR6.out.2.keeps (Keeps.of_fresh g6 (fun _ => False)) (fun e => e))
              have z6 := Z6.cell 0
              have zl6 := Z6.lt
              have N7 := Lib.hid (HR7.out.1.new g7)
              have Z7 := (HR7.out.2.keeps (Keeps.of_fresh g7 (fun _ => False)) (fun e => e))
              have z7 := Z7.cell 0
              have zl7 := Z7.lt
              have N8 := Lib.hid (HR8.out.1.new g8)
              have Z8 := (HR8.out.2.keeps (Keeps.of_fresh g8 (fun _ => False)) (fun e => e))
              have z8 := Z8.cell 0
              have zl8 := Z8.lt
              have HZ := Lib.hid (And.intro Z1 (And.intro Z2 (And.intro Z3 (And.intro Z4 (And.intro Z5 (And.intro Z6 (And.intro Z7 Z8)))))))
              have hend := Lib.hid hc8
              clear hb1 hg1 HR1 g1 Z1 hc1 hb2 hg2 HR2 g2 Z2 hc2 hb3 hg3 HR3 g3 Z3 hc3 hb4 hg4 HR4 g4 Z4 hc4 hb5 hg5 HR5 g5 Z5 hc5 hb6 hg6 HR6 g6 Z6 hc6 hb7 hg7 HR7 g7 Z7 hc7 hb8 hg8 HR8 g8 Z8 hc8
              generalize m8.alloc (.cells #[.slice sa8 T4.length sc8] 25) = W at *
              have hne1 : (r1 != r1) = false := by simp
              have hne2 : (r2 != r2) = false := by simp
              have hne3 : (r3 != r3) = false := by simp
              have hne4 : (r4 != r4) = false := by simp
              obtain ⟨Z1, Z2, Z3, Z4, Z5, Z6, Z7, Z8⟩ := HZ.out
              have hq0 : Below W.heap.size W W := Below.refl _ _
              have zz1 := cell_keep z1 zl1 hq0
              have zz2 := cell_keep z2 zl2 hq0
              have yl1 := Nat.lt_of_lt_of_le zl1 hq0.size
              have yl2 := Nat.lt_of_lt_of_le zl2 hq0.size
              have HS1 := Lib.hid (ref3_Same _ _ _ _ T1 T1 _ (N1.out.new hq0) (N2.out.new hq0))
              go_wp2_with fail
              refine (HS1.out).mono ?_
              rintro e y1 ⟨bb1, rfl, hbb1, hbs1⟩
              obtain rfl : bb1 = true := by simpa using hbb1
              have hq1 := hq0.trans (hbs1.mono hq0.size)
              clear zz1 zz2 yl1 yl2 HS1
              have zz3 := cell_keep z3 zl3 hq1
              have zz4 := cell_keep z4 zl4 hq1
              have yl3 := Nat.lt_of_lt_of_le zl3 hq1.size
              have yl4 := Nat.lt_of_lt_of_le zl4 hq1.size
              have HS2 := Lib.hid (ref3_Same _ _ _ _ T2 T2 _ (N3.out.new hq1) (N4.out.new hq1))
              go_wp2_with fail
              refine (HS2.out).mono ?_
              rintro e y2 ⟨bb2, rfl, hbb2, hbs2⟩
              obtain rfl : bb2 = true := by simpa using hbb2
              have hq2 := hq1.trans (hbs2.mono hq1.size)
              clear zz3 zz4 yl3 yl4 HS2
              have zz5 := cell_keep z5 zl5 hq2
              have zz6 := cell_keep z6 zl6 hq2
              have yl5 := Nat.lt_of_lt_of_le zl5 hq2.size
              have yl6 := Nat.lt_of_lt_of_le zl6 hq2.size
              have HS3 := Lib.hid (ref3_Same _ _ _ _ T3 T3 _ (N5.out.new hq2) (N6.out.new hq2))
              go_wp2_with fail
              refine (HS3.out).mono ?_
              rintro e y3 ⟨bb3, rfl, hbb3, hbs3⟩
              obtain rfl : bb3 = true := by simpa using hbb3
              have hq3 := hq2.trans (hbs3.mono hq2.size)
              clear zz5 zz6 yl5 yl6 HS3
              have zz7 := cell_keep z7 zl7 hq3
              have zz8 := cell_keep z8 zl8 hq3
              have yl7 := Nat.lt_of_lt_of_le zl7 hq3.size
              have yl8 := Nat.lt_of_lt_of_le zl8 hq3.size
              have HS4 := Lib.hid (ref3_Same _ _ _ _ T4 T4 _ (N7.out.new hq3) (N8.out.new hq3))
              go_wp2_with fail
              refine (HS4.out).mono ?_
              rintro e y4 ⟨bb4, rfl, hbb4, hbs4⟩
              obtain rfl : bb4 = true := by simpa using hbb4
              have hq4 := hq3.trans (hbs4.mono hq3.size)
              clear zz7 zz8 yl7 yl8 HS4
              have HB := Lib.hid (hend.out.trans (hq4.mono hend.out.size))
              clear hq0 hq1 hq2 hq3 hq4 hbs1 hbs2 hbs3 hbs4 z1 z2 z3 z4 z5 z6 z7 z8 zl1 zl2 zl3 zl4 zl5 zl6 zl7 zl8 Z1 Z2 Z3 Z4 Z5 Z6 Z7 Z8 HZ N1 N2 N3 N4 N5 N6 N7 N8
              go_wp2_with fail
              go_roundg (gk - 1)
              case measure => omega
              case rel => exact ⟨i + 1, by go_num, by omega, by omega, HTm.out.new HB.out, HKn.out.trans (Keeps.of_fresh HB.out _) (fun _ _ e => e)⟩
          · have hlti' : ¬ (i : Int) < 3 := by omega
            have hKx := Lib.hid ((HKr.out.trans hKi.out (fun _ _ e => e)).trans hKq (fun _ _ e => e))
            clear hKq
            go_wp2_with fail
            go_roundg (go - 1)
            case measure => omega
            case rel => exact ⟨j + 1, by go_num, by omega, by omega, hTq, hKx.out⟩
      · have hlt' : ¬ (j : Int) < 3 := by omega
        have hb7 := HB6.out.trans (hKr.below hs6 (fun i hi e => by omega))
        have HB7 := Lib.hid hb7
        clear hKr hb7 hTr
        go_wp2_with fail
        refine (haw.out _).mono ?_
        rintro e w8 ⟨rfl, hb12⟩
        go_wp2_with fail
        go_ret
        exact ⟨rfl, HB7.out.trans (hb12.mono HB7.out.size)⟩
  · have hcase : sb = false ∨ sb = true ∧ 400 < path.size ∨ sb = true ∧ ¬ 400 < path.size ∧ 400 < value.size := by
      cases sb with
      | false => exact .inl rfl
      | true =>
        by_cases h1 : 400 < path.size
        · exact .inr (.inl ⟨rfl, h1⟩)
        · by_cases h2 : 400 < value.size
          · exact .inr (.inr ⟨rfl, h1, h2⟩)
          · exact absurd ⟨rfl, by omega, by omega⟩ hgo
    clear hgo
    rcases hcase with rfl | ⟨rfl, h1⟩ | ⟨rfl, h1, h2⟩
    · go_wp2_with fail
      refine (haw.out _).mono ?_
      rintro e w8 ⟨rfl, hb12⟩
      go_wp2_with fail
      go_ret
      exact ⟨rfl, hb2.trans (hb12.mono hs2)⟩
    · have h1' : (400 : Int) < (path.size : Int) := by omega
      go_wp2_with fail
      refine (haw.out _).mono ?_
      rintro e w8 ⟨rfl, hb12⟩
      go_wp2_with fail
      go_ret
      exact ⟨rfl, hb2.trans (hb12.mono hs2)⟩
    · have h1' : ¬ (400 : Int) < (path.size : Int) := by omega
      have h2' : (400 : Int) < (value.size : Int) := by omega
      go_wp2_with fail
      refine (haw.out _).mono ?_
      rintro e w8 ⟨rfl, hb12⟩
      go_wp2_with fail
      go_ret
      exact ⟨rfl, hb2.trans (hb12.mono hs2)⟩
end Go.Proofs.YtjfkjnakmmkkiaaGreat
