/- The walk of the law TreeChecks (printed by gtch.py). -/
import Derived.Test.YtjfkjnakmmkkiaaGreatZ26
import Derived.Test.YtjfkjnakmmkkiaaGreatZ27
import Derived.Test.YtjfkjnakmmkkiaaGreatZ29
import Derived.Test.YtjfkjnakmmkkiaaGreatZ30

namespace Go.Proofs.YtjfkjnakmmkkiaaGreat
open Go.RowKit

theorem tch_strs {w : World} {g : Nat} {l : List ByteArray} (h : Holds w g (l.map Value.string).toArray 9) (i : Nat) (hi : i < l.length) : w.cell? ⟨g, i, none⟩ = some (.string l[i]) := by
  rw [h.cell i]; simp [hi]
theorem tch_ints {w : World} {g : Nat} {l : List Int} (h : Holds w g (l.map (Value.int .i64)).toArray 3) (i : Nat) (hi : i < l.length) : w.cell? ⟨g, i, none⟩ = some (.int .i64 l[i]) := by
  rw [h.cell i]; simp [hi]

theorem lPiece_small : ∀ s ∈ lPiece, s.size ≤ 9223372036854775807 := by decide
theorem lOdd_small : ∀ s ∈ lOdd, s.size ≤ 9223372036854775807 := by decide

set_option maxRecDepth 100000 in
set_option maxHeartbeats 8000000 in
theorem treeChecks_walk (a0 : Option Addr) (len0 cap0 : Nat) (a1 : Option Addr) (c1 : Nat) (T0 : List NodeT) (path name : ByteArray) (node : Int) (w : World) (hi : IntsIn w a0 len0) (hlc : len0 ≤ cap0) (hcap : cap0 ≤ maxLen) (hnil : a0 = none → len0 = 0 ∧ cap0 = 0)
    (hT : NodesIn (fun g => g < w.heap.size) w (.slice a1 T0.length c1) T0) (hpath : path.size ≤ maxLen) (hname : name.size ≤ maxLen) (_ : (Lit.int .i64 node).wf = true) :
    Calls Tryz.prog 4 #[.slice a0 len0 cap0, .agg #[.slice a1 T0.length c1], .string path, .string name, .int .i64 node] w fun e w' => e = .returned (.bool true) ∧ Below w.heap.size w w' := by
  unfold maxLen at hpath hname
  have HT := Lib.hid hT; clear hT
  have haw := Lib.hid law03_awake
  have hb0 : Below w.heap.size w (w.alloc (.cells #[.slice a1 T0.length c1] 25)) := (Below.refl _ _).alloc (Nat.le_refl _) _
  have hX0 := Holds.new w #[.slice a1 T0.length c1] 25
  have hsm := Lib.hid (grow_Small (fun g => g < w.heap.size) (.slice a1 T0.length c1) T0 _ (HT.out.new hb0))
  go_enter Tryz.func4, Tryz.ntmps4
  go_wp2_with fail
  refine hsm.out.mono ?_
  rintro e w1 ⟨sb, rfl, hb1⟩
  have hb2 := hb0.trans (hb1.mono (by simp))
  have hs2 := hb2.size
  by_cases hgo : sb = true ∧ path.size ≤ 400
  · obtain ⟨rfl, hp4⟩ := hgo
    have hp4' : ¬ (400 : Int) < (path.size : Int) := by omega
    have hX1 := hX0.keeps (Keeps.of_fresh hb1 (fun _ => False)) (fun e => e)
    have hi1 : IntsIn w1 a0 len0 := ints_below hi hb2
    have hnw := Lib.hid (mk_New a0 len0 cap0 w1 hi1 hlc hcap hnil)
    go_wp2_with fail
    refine hnw.out.mono ?_
    rintro e w2 ⟨b, rfl, hT2, hb3⟩
    have hbW := hT2.1
    have hbl2 := hT2.lt
    go_wp2_with fail
    refine (grow_Tree w1.heap.size b 10 w2 hT2 (by omega) (by omega)).mono ?_
    rintro e w3 ⟨va, A, rfl, hA3, hAc, hAl, hT3, hK3⟩
    obtain ⟨aa, ac, rfl⟩ := tree_slice hA3
    have hfit : ∀ n ∈ A, n.props.length + 1 ≤ 25 := fun n hn => by
      obtain ⟨k, hk, rfl⟩ := List.getElem_of_mem hn
      have := fit_props hAc k hk
      omega
    have hAl3 : Below w3.heap.size w3 (w3.alloc (.cells #[.slice aa A.length ac] 25)) := (Below.refl _ _).alloc (Nat.le_refl _) _
    have hA4 := hA3.new hAl3
    have hZ4 := Holds.new w3 #[.slice aa A.length ac] 25
    have hT4 := hT3.new hAl3
    have hxb : w.heap.size ≠ b := by have := hX1.lt; omega
    have hX3 := ((hX1.keeps (Keeps.of_fresh hb3 (fun _ => False)) (fun e => e)).keeps hK3 (by have := hX1.lt; omega)).alloc (.cells #[.slice aa A.length ac] 25)
    have hb4 : Below w.heap.size w w3 := (hb2.trans (hb3.mono hs2)).trans (hK3.below (by have := hb3.size; omega) (fun i hi e => by omega))
    have hb5 := hb4.alloc hb4.size (.cells #[.slice aa A.length ac] 25)
    have hR4 := HT.out.new hb5
    have hb2w := hb3.size
    have hK3s := hK3.size
    have hzb : w3.heap.size ≠ b := by omega
    clear hb0 hX0 hsm hnw hX1 hi1 hi hT2 hT3 hK3 hb3 hA3 hAl3 hb4 hb1 hb2
    go_upto_region 5 with fail
    generalize hW4 : w3.alloc (.cells #[.slice aa A.length ac] 25) = W4 at *
    have hW4s : W4.heap.size = w3.heap.size + 1 := by rw [← hW4]; simp
    clear hW4
    have x0 := hX3.cell 0
    have xl := hX3.lt
    have y0 := hZ4.cell 0
    have yl := hZ4.lt
    have hXNb : NodesIn (fun g => g ≠ b) W4 (.slice a1 T0.length c1) T0 := hR4.mono (fun g h e => by subst e; omega)
    have hANb : NodesIn (fun g => g ≠ b) W4 (.slice aa A.length ac) A := hA4.in.mono (fun g h e => by subst e; omega)
    have hAm : ∀ n ∈ A, n.props.length ≤ 24 := fun n hn => by have := hfit n hn; omega
    clear hfit
    refine wp_region_any (by kernel_rfl) ?_
    refine wpAny_ops (ops' := blcOps 5) (by kernel_rfl) ?_
    refine blc_region w1.heap.size b 11 24 w.heap.size w3.heap.size a1 c1 T0 aa ac A W4 W4.drew _ rfl (by omega) hAm (by omega) (by omega) hX3 hZ4 hxb hzb hXNb hANb rfl rfl rfl ⟨hT4.keeps ((Keeps.refl (fun _ => False) W4).drew) (fun _ e => e.elim), (Keeps.refl _ W4).drew⟩ ?_
    intro c w5 hsb hT5 hK5 hTF h60 h61
    obtain ⟨y44, y45, y46, y47, y48, y49, y50, y51, y52, y53, y54, y55, y56, hc⟩ := hsb.ex [44, 45, 46, 47, 48, 49, 50, 51, 52, 53, 54, 55, 56] (by kernel_rfl)
    subst hc
    simp only [List.setIfInBounds_toArray, List.set_cons_zero, List.set_cons_succ] at hTF h60 h61 ⊢
    have hTF' : TreesF b 4 y54 w5 := hTF
    have e60 : y55 = .int .i64 4 := h60
    have e61 : y56 = .int .i64 0 := h61
    obtain ⟨L, e59, hLb, htr⟩ := hTF'
    subst e60 e61 e59
    have HTR := Lib.hid htr
    have HA4 := Lib.hid hA4
    have HT4 := Lib.hid hT4
    have HZ4 := Lib.hid hZ4
    have HX4 := Lib.hid hX3
    have HK5 := Lib.hid hK5
    have HXNb := Lib.hid hXNb
    have HANb := Lib.hid hANb
    have hb6 : Below w.heap.size w w5 := hb5.trans (hK5.below hb5.size (fun i hi e => by omega))
    have HB6 := Lib.hid hb6
    have hs6 := hb6.size
    clear hTF h60 h61 hsb htr hA4 hT4 hZ4 hK5 hb5 hb6 hXNb hANb hAm hR4 hX3 x0 xl y0 yl
    go_wp2_with fail
    go_loopg [56] 4 (fun f x wr => TedO w1.heap.size b 4 w5 f x wr)
    case atStart => exact ⟨0, rfl, by omega, by omega, hT5, Keeps.refl _ _⟩
    case round =>
      obtain ⟨j, rfl, hj1, hj2, hTr, hKr⟩ := hrel
      have hsr := hKr.size
      clear hT5
      by_cases hlt : j < 4
      · have hlt' : (j : Int) < 4 := by omega
        obtain ⟨xa, xc, X, hcx, hXN⟩ := HTR.out j hlt
        have hcx' := (hKr.cell (p := ⟨L, j, none⟩) (World.block_lt_of_cell? w5 _ hcx) hLb).trans hcx
        have hLl : L < wr.heap.size := Nat.lt_of_lt_of_le (World.block_lt_of_cell? w5 _ hcx) hsr
        have hXN' := hXN.keeps hKr (fun _ h e => h e)
        have hal : Below wr.heap.size wr (wr.alloc (.cells #[.slice xa X.length xc] 25)) := (Below.refl _ _).alloc (Nat.le_refl _) _
        have hXNi := Lib.hid (hXN'.new hal)
        have hNi := Holds.new wr #[.slice xa X.length xc] 25
        have hTi := hTr.new hal
        have hNb : wr.heap.size ≠ b := by have := hTr.lt; omega
        have HNi := Lib.hid hNi
        have HKr := Lib.hid hKr
        have hKi := Lib.hid (Keeps.of_fresh hal (fun i => i = b))
        clear hcx hXN hXN'
        go_upto_region 8 with fail
        obtain ⟨wo, rfl⟩ : ∃ x : World, x = wr := ⟨_, rfl⟩
        obtain ⟨go, rfl⟩ : ∃ x : Nat, x = gk := ⟨_, rfl⟩
        clear hcx' hal hNi hKr
        generalize hWi : wo.alloc (.cells #[.slice xa X.length xc] 25) = wi at *
        have hwis : wi.heap.size = wo.heap.size + 1 := by rw [← hWi]; simp
        clear hWi
        have hKall : Keeps (fun i => i = b) W4 wi := (HK5.out.trans HKr.out (fun _ _ e => e)).trans hKi.out (fun _ _ e => e)
        refine wp_region_any (by kernel_rfl) ?_
        refine wpAny_ops (ops' := ckaOps 8) (by kernel_rfl) ?_
        refine cka_region wo.heap.size w3.heap.size w.heap.size xa xc X aa ac A a1 c1 T0 wi wi.drew _ rfl _ HNi.out hXNi.out rfl _ (HZ4.out.keeps hKall hzb) (HANb.out.keeps hKall (fun _ h e => h e)) rfl _ (HX4.out.keeps hKall hxb) (HXNb.out.keeps hKall (fun _ h e => h e)) rfl ((Below.refl _ _).drew) ?_
        intro c w6 hsb hb6 h82
        obtain ⟨y60, y61, y62, y63, y64, y65, y66, y67, y68, y69, y70, y71, y72, y73, y74, y75, y76, y77, y78, y79, y80, y81, y82, hc⟩ := hsb.ex [60, 61, 62, 63, 64, 65, 66, 67, 68, 69, 70, 71, 72, 73, 74, 75, 76, 77, 78, 79, 80, 81, 82] (by kernel_rfl)
        subst hc
        simp only [List.setIfInBounds_toArray, List.set_cons_zero, List.set_cons_succ] at h82 ⊢
        have e82 : y82 = .bool false := h82
        subst e82
        have hT6 := hTi.new hb6
        have hK6 := Keeps.of_fresh hb6 (fun i => i = b)
        clear hsb h82 hTi
        go_wp2_with fail
        refine (mk_Range w1.heap.size b (-1) 11 _ (by exact hT6) (by omega) (by omega) (by omega)).mono ?_
        rintro e w7 ⟨r, rfl, hr1, hr2, hT7, hK7⟩
        have hal2 : Below w7.heap.size w7 (w7.alloc (.cells #[.int .i64 node, .int .i64 r] 3)) := (Below.refl _ _).alloc (Nat.le_refl _) _
        have hT8 := hT7.new hal2
        have hL2 := Lib.hid (Holds.new w7 #[.int .i64 node, .int .i64 r] 3)
        have hb7 : w7.heap.size ≠ b := by have := hT7.lt; omega
        have hK8 := Lib.hid (((hKi.out.trans hK6 (fun _ _ e => e)).trans hK7 (fun _ _ e => e)).trans (Keeps.of_fresh hal2 (fun i => i = b)) (fun _ _ e => e))
        have hKw8 := Lib.hid ((hK6.trans hK7 (fun _ _ e => e)).trans (Keeps.of_fresh hal2 (fun i => i = b)) (fun _ _ e => e))
        clear hT6 hK6 hT7 hK7 hr1 hr2 hb6 hal2
        go_wp2_with fail
        generalize hW8 : w7.alloc (.cells #[.int .i64 node, .int .i64 r] 3) = w8 at *
        have hw8s : w8.heap.size = w7.heap.size + 1 := by rw [← hW8]; simp
        clear hW8
        have hNi8 := Lib.hid (HNi.out.keeps hKw8.out hNb)
        have hXN8 := Lib.hid (hXNi.out.keeps hKw8.out (fun _ h e => h e))
        go_loopg [88] 2 (fun f x wr => TedO w1.heap.size b 2 w8 f x wr)
        case atStart => exact ⟨0, rfl, by omega, by omega, hT8, Keeps.refl _ _⟩
        case round =>
          obtain ⟨q, rfl, hq1, hq2, hTq, hKq⟩ := hrel
          have hsq := hKq.size
          clear hT8
          by_cases hltq : q < 2
          · have hltq' : (q : Int) < 2 := by omega
            obtain ⟨kk, hkk⟩ : ∃ kk, wr.cell? ⟨w7.heap.size, q, none⟩ = some (.int .i64 kk) := by
              have hh := tch_ints (l := [node, r]) (hL2.out.keeps hKq hb7) q hltq
              exact ⟨_, hh⟩
            have hkl : w7.heap.size < wr.heap.size := by omega
            have HNq := Lib.hid (hNi8.out.keeps hKq hNb)
            have HXq := Lib.hid (hXN8.out.keeps hKq (fun _ h e => h e))
            have HKq := Lib.hid hKq
            have HTq := Lib.hid hTq
            obtain ⟨wp, rfl⟩ : ∃ x : World, x = wr := ⟨_, rfl⟩
            obtain ⟨gp, rfl⟩ : ∃ x : Nat, x = gk := ⟨_, rfl⟩
            clear hKq hTq
            go_upto_region 13 with fail
            clear hkk
            refine wp_region_any (by kernel_rfl) ?_
            refine wpAny_ops (ops' := ckbOps 13) (by kernel_rfl) ?_
            refine ckb_region wo.heap.size xa xc X kk wp wp.drew _ rfl _ HNq.out HXq.out rfl rfl ((Below.refl _ _).drew) ?_
            intro c w9 hsb hb9 h108
            obtain ⟨y92, y93, y94, y95, y96, y97, y98, y99, y100, y101, y102, y103, y104, y105, y106, y107, y108, hc⟩ := hsb.ex [92, 93, 94, 95, 96, 97, 98, 99, 100, 101, 102, 103, 104, 105, 106, 107, 108] (by kernel_rfl)
            subst hc
            simp only [List.setIfInBounds_toArray, List.set_cons_zero, List.set_cons_succ] at h108 ⊢
            have e108 : y108 = .bool false := h108
            subst e108
            have hT9 := HTq.out.new hb9
            have hK9 := Keeps.of_fresh hb9 (fun i => i = b)
            clear hsb h108
            go_wp2_with fail
            refine (mk_Property w1.heap.size b _ (by exact hT9)).mono ?_
            rintro e w10 ⟨s, rfl, hs, hT10, hK10⟩
            have hal3 : Below w10.heap.size w10 (w10.alloc (.cells #[.string name, .string s] 9)) := (Below.refl _ _).alloc (Nat.le_refl _) _
            have hT11 := hT10.new hal3
            have hL3 := Lib.hid (Holds.new w10 #[.string name, .string s] 9)
            have hb10 : w10.heap.size ≠ b := by have := hT10.lt; omega
            have hK11 := Lib.hid ((hK9.trans hK10 (fun _ _ e => e)).trans (Keeps.of_fresh hal3 (fun i => i = b)) (fun _ _ e => e))
            clear hT9 hK9 hT10 hK10 hb9 hal3
            go_wp2_with fail
            generalize hW11 : w10.alloc (.cells #[.string name, .string s] 9) = w11 at *
            have hw11s : w11.heap.size = w10.heap.size + 1 := by rw [← hW11]; simp
            clear hW11
            have HN11 := Lib.hid (HNq.out.keeps hK11.out hNb)
            have HX11 := Lib.hid (HXq.out.keeps hK11.out (fun _ h e => h e))
            go_loopg [114] 2 (fun f x wr => TedO w1.heap.size b 2 w11 f x wr)
            case atStart => exact ⟨0, rfl, by omega, by omega, hT11, Keeps.refl _ _⟩
            case round =>
              obtain ⟨m, rfl, hm1, hm2, hTm, hKm⟩ := hrel
              have hsm2 := hKm.size
              clear hT11
              by_cases hltm : m < 2
              · have hltm' : (m : Int) < 2 := by omega
                obtain ⟨nn, hnn⟩ : ∃ nn, wr.cell? ⟨w10.heap.size, m, none⟩ = some (.string nn) := by
                  have hh := tch_strs (l := [name, s]) (hL3.out.keeps hKm hb10) m hltm
                  exact ⟨_, hh⟩
                have hml : w10.heap.size < wr.heap.size := by omega
                have hN12 := HN11.out.keeps hKm hNb
                have n0 := hN12.cell 0
                have nl := hN12.lt
                have HX12 := Lib.hid (HX11.out.keeps hKm (fun _ h e => h e))
                have HN12 := Lib.hid hN12
                have hv1 := fun wx hx => tree_Value (fun g => g ≠ b) (.slice xa X.length xc) X kk nn wx hx
                have hv2 := fun wx hx => ref3_Value (fun g => g ≠ b) (.slice xa X.length xc) X kk nn wx hx
                unfold ValuePost at hv1 hv2
                generalize valueT X kk nn = V at *
                obtain ⟨vs, vb⟩ := V
                simp only at hv1 hv2
                have HV1 := Lib.hid hv1
                have HV2 := Lib.hid hv2
                have HKm := Lib.hid hKm
                have HTm := Lib.hid hTm
                have hvs : (vs.toList == vs.toList) = true := by simp
                have hvb : (vb != vb) = false := by simp
                clear hv1 hv2 hN12 hKm hTm
                go_wp2_with fail
                refine (HV1.out _ (by exact HX12.out)).mono ?_
                rintro e m1 ⟨rfl, hbm1⟩
                have hN13 := HN12.out.keeps (Keeps.of_fresh hbm1 (fun _ => False)) (fun e => e)
                have n1 := hN13.cell 0
                have nl1 := hN13.lt
                go_wp2_with fail
                refine (HV2.out _ (by exact HX12.out.new hbm1)).mono ?_
                rintro e m2 ⟨rfl, hbm2⟩
                have hbm3 := Lib.hid (hbm1.trans (hbm2.mono hbm1.size))
                clear n0 nl n1 nl1 hN13 hbm1 hbm2 hnn HV1 HV2
                go_wp2_with fail
                go_roundg (gk - 1)
                case measure => omega
                case rel => exact ⟨m + 1, by go_num, by omega, by omega, HTm.out.new hbm3.out, HKm.out.trans (Keeps.of_fresh hbm3.out _) (fun _ _ e => e)⟩
              · have hltm' : ¬ (m : Int) < 2 := by omega
                have HKm := Lib.hid ((HKq.out.trans hK11.out (fun _ _ e => e)).trans hKm (fun _ _ e => e))
                have HTm := Lib.hid hTm
                clear hKm hTm
                go_wp2_with fail
                go_roundg (gp - 1)
                case measure => omega
                case rel => exact ⟨q + 1, by go_num, by omega, by omega, HTm.out, HKm.out⟩
          · have hltq' : ¬ (q : Int) < 2 := by omega
            obtain ⟨wp, rfl⟩ : ∃ x : World, x = wr := ⟨_, rfl⟩
            have hKall2 : Keeps (fun i => i = b) W4 wp := (hKall.trans hKw8.out (fun _ _ e => e)).trans hKq (fun _ _ e => e)
            have hAr := HA4.out.tape HT4.out hKall2
            have hZr := HZ4.out.keeps hKall2 hzb
            have z0 := hZr.cell 0
            have zl := hZr.lt
            have hA1 : 0 < A.length := (limits_len (check_limits hAc)).1
            have HKq := Lib.hid hKq
            have HTq := Lib.hid hTq
            have HAr := Lib.hid hAr
            clear hKq hTq hAr hZr
            go_wp2_with fail
            refine (grow_Path w1.heap.size b _ _ A _ (by exact HTq.out) (by exact HAr.out) hA1 (by omega)).mono ?_
            rintro e w12 ⟨p2, rfl, hT12, hK12⟩
            have hal4 : Below w12.heap.size w12 (w12.alloc (.cells #[.string path, .string p2] 9)) := (Below.refl _ _).alloc (Nat.le_refl _) _
            have hT13 := hT12.new hal4
            have hL4 := Lib.hid (Holds.new w12 #[.string path, .string p2] 9)
            have hb12 : w12.heap.size ≠ b := by have := hT12.lt; omega
            have hK13 := Lib.hid ((HKq.out.trans hK12 (fun _ _ e => e)).trans (Keeps.of_fresh hal4 (fun i => i = b)) (fun _ _ e => e))
            clear hT12 hK12 hal4 z0 zl
            go_wp2_with fail
            generalize hW13 : w12.alloc (.cells #[.string path, .string p2] 9) = w13 at *
            have hw13s : w13.heap.size = w12.heap.size + 1 := by rw [← hW13]; simp
            clear hW13
            have HN13 := Lib.hid (hNi8.out.keeps hK13.out hNb)
            have HX13 := Lib.hid (hXN8.out.keeps hK13.out (fun _ h e => h e))
            go_loopg [148] 2 (fun f x wr => TedO w1.heap.size b 2 w13 f x wr)
            case atStart => exact ⟨0, rfl, by omega, by omega, hT13, Keeps.refl _ _⟩
            case round =>
              obtain ⟨m, rfl, hm1, hm2, hTm, hKm⟩ := hrel
              have hsm2 := hKm.size
              clear hT13
              by_cases hltm : m < 2
              · have hltm' : (m : Int) < 2 := by omega
                obtain ⟨nn, hnn⟩ : ∃ nn, wr.cell? ⟨w12.heap.size, m, none⟩ = some (.string nn) := by
                  have hh := tch_strs (l := [path, p2]) (hL4.out.keeps hKm hb12) m hltm
                  exact ⟨_, hh⟩
                have hml : w12.heap.size < wr.heap.size := by omega
                have hN14 := HN13.out.keeps hKm hNb
                have n0 := hN14.cell 0
                have nl := hN14.lt
                have HX14 := Lib.hid (HX13.out.keeps hKm (fun _ h e => h e))
                have HN14 := Lib.hid hN14
                have hv1 := fun wx hx => tree_Find (fun g => g ≠ b) (.slice xa X.length xc) X nn wx hx
                have hv2 := fun wx hx => ref3_Find (fun g => g ≠ b) (.slice xa X.length xc) X nn wx hx
                generalize rFindT X nn = V at *
                obtain ⟨vs, vb⟩ := V
                simp only at hv1 hv2
                have HV1 := Lib.hid hv1
                have HV2 := Lib.hid hv2
                have HKm := Lib.hid hKm
                have HTm := Lib.hid hTm
                have hvs : (vs != vs) = false := by simp
                have hvb : (vb != vb) = false := by simp
                clear hv1 hv2 hN14 hKm hTm
                go_wp2_with fail
                refine (HV1.out _ (by exact HX14.out)).mono ?_
                rintro e m1 ⟨rfl, hbm1⟩
                have hN15 := HN14.out.keeps (Keeps.of_fresh hbm1 (fun _ => False)) (fun e => e)
                have n1 := hN15.cell 0
                have nl1 := hN15.lt
                go_wp2_with fail
                refine (HV2.out _ (by exact HX14.out.new hbm1)).mono ?_
                rintro e m2 ⟨rfl, hbm2⟩
                have hbm3 := Lib.hid (hbm1.trans (hbm2.mono hbm1.size))
                clear n0 nl n1 nl1 hN15 hbm1 hbm2 hnn HV1 HV2
                go_wp2_with fail
                go_roundg (gk - 1)
                case measure => omega
                case rel => exact ⟨m + 1, by go_num, by omega, by omega, HTm.out.new hbm3.out, HKm.out.trans (Keeps.of_fresh hbm3.out _) (fun _ _ e => e)⟩
              · have hltm' : ¬ (m : Int) < 2 := by omega
                have HKm := Lib.hid ((HKr.out.trans hK8.out (fun _ _ e => e)).trans (hK13.out.trans hKm (fun _ _ e => e)) (fun _ _ e => e))
                have HTm := Lib.hid hTm
                clear hKm hTm
                go_wp2_with fail
                go_roundg (go - 1)
                case measure => omega
                case rel => exact ⟨j + 1, by go_num, by omega, by omega, HTm.out, HKm.out⟩
      · have hlt' : ¬ (j : Int) < 4 := by omega
        obtain ⟨wq, rfl⟩ : ∃ x : World, x = wr := ⟨_, rfl⟩
        have HB7 := Lib.hid (HB6.out.trans (hKr.below hs6 (fun i hi e => by omega)))
        have hsw := HB7.out.size
        clear hKr
        go_wp2_with fail
        refine (mk_Property w1.heap.size b _ (by exact hTr)).mono ?_
        rintro e u1 ⟨s1, rfl, hs1, hU1, hk1⟩
        go_wp2_with fail
        refine (mk_Piece w1.heap.size b _ (by exact hU1)).mono ?_
        rintro e u2 ⟨s2, rfl, hs2', hU2, hk2⟩
        go_wp2_with fail
        refine (mk_Odd w1.heap.size b _ (by exact hU2)).mono ?_
        rintro e u3 ⟨s3, rfl, hs3, hU3, hk3⟩
        go_wp2_with fail
        refine (mk_Name w1.heap.size b _ (by exact hU3)).mono ?_
        rintro e u4 ⟨s4, rfl, hs4, hU4, hk4⟩
        have hal5 : Below u4.heap.size u4 (u4.alloc (.cells #[.string name, .string path, .string s1, .string s2, .string s3, .string s4] 9)) := (Below.refl _ _).alloc (Nat.le_refl _) _
        have hL5 := Lib.hid (Holds.new u4 #[.string name, .string path, .string s1, .string s2, .string s3, .string s4] 9)
        have hku := (((hk1.trans hk2 (fun _ _ e => e)).trans hk3 (fun _ _ e => e)).trans hk4 (fun _ _ e => e)).trans (Keeps.of_fresh hal5 (fun i => i = b)) (fun _ _ e => e)
        have HB8 := Lib.hid (HB7.out.trans (hku.below hsw (fun i hi e => by omega)))
        have hsz8 := HB8.out.size
        have hsmall : Hid (∀ x ∈ [name, path, s1, s2, s3, s4], x.size ≤ 9223372036854775807) := Lib.hid (fun x hx => by
          simp only [List.mem_cons, List.mem_nil_iff, or_false] at hx
          rcases hx with rfl | rfl | rfl | rfl | rfl | rfl
          · exact hname
          · exact hpath
          · exact lProp_small _ hs1
          · exact lPiece_small _ hs2'
          · exact lOdd_small _ hs3
          · exact lName_small _ hs4)
        clear hU1 hU2 hU3 hU4 hk1 hk2 hk3 hk4 hal5 hku hs1 hs2' hs3 hs4 hTr
        go_wp2_with fail
        generalize hW14 : u4.alloc (.cells #[.string name, .string path, .string s1, .string s2, .string s3, .string s4] 9) = w14 at *
        have hw14s : w14.heap.size = u4.heap.size + 1 := by rw [← hW14]; simp
        clear hW14
        go_loopg [186] 6 (fun f x wr => ∃ m : Nat, x = .int .i64 m ∧ m ≤ 6 ∧ 6 ≤ m + f ∧ Below w14.heap.size w14 wr)
        case atStart => exact ⟨0, rfl, by omega, by omega, Below.refl _ _⟩
        case round =>
          obtain ⟨m, rfl, hm1, hm2, hbm⟩ := hrel
          have hsm2 := hbm.size
          by_cases hltm : m < 6
          · have hltm' : (m : Int) < 6 := by omega
            obtain ⟨nn, hnn, hnb⟩ : ∃ nn : ByteArray, wr.cell? ⟨u4.heap.size, m, none⟩ = some (.string nn) ∧ nn.size ≤ 9223372036854775807 := by
              have hh := tch_strs (l := [name, path, s1, s2, s3, s4]) (hL5.out.keeps (Keeps.of_fresh hbm (fun _ => False)) (fun e => e)) m hltm
              exact ⟨_, hh, hsmall.out _ (List.getElem_mem _)⟩
            have hml : u4.heap.size < wr.heap.size := by omega
            have hv1 := fun wx => tree_Property nn wx hnb
            have hv2 := fun wx => ref3_Property nn wx hnb
            generalize propB nn = pb at *
            have HV1 := Lib.hid hv1
            have HV2 := Lib.hid hv2
            have HBm := Lib.hid hbm
            have hpb : (pb != pb) = false := by simp
            clear hv1 hv2 hbm
            go_wp2_with fail
            refine (HV1.out _).mono ?_
            rintro e m1 ⟨rfl, rfl⟩
            go_wp2_with fail
            refine (HV2.out _).mono ?_
            rintro e m2 ⟨rfl, rfl⟩
            clear hnn HV1 HV2
            go_wp2_with fail
            go_roundg (gk - 1)
            case measure => omega
            case rel => exact ⟨m + 1, by go_num, by omega, by omega, HBm.out⟩
          · have hltm' : ¬ (m : Int) < 6 := by omega
            have HB9 := Lib.hid (HB8.out.trans (hbm.mono hsz8))
            clear hbm
            go_wp2_with fail
            refine (haw.out _).mono ?_
            rintro e u9 ⟨rfl, hb12⟩
            go_wp2_with fail
            go_ret
            exact ⟨rfl, HB9.out.trans (hb12.mono HB9.out.size)⟩
  · have hcase : sb = false ∨ sb = true ∧ 400 < path.size := by
      cases sb with
      | false => exact .inl rfl
      | true =>
        by_cases h1 : 400 < path.size
        · exact .inr ⟨rfl, h1⟩
        · exact absurd ⟨rfl, by omega⟩ hgo
    clear hgo
    rcases hcase with rfl | ⟨rfl, h1⟩
    · go_wp2_with fail
      refine (haw.out _).mono ?_
      rintro e u9 ⟨rfl, hb12⟩
      go_wp2_with fail
      go_ret
      exact ⟨rfl, hb2.trans (hb12.mono hs2)⟩
    · have h1' : (400 : Int) < (path.size : Int) := by omega
      go_wp2_with fail
      refine (haw.out _).mono ?_
      rintro e u9 ⟨rfl, hb12⟩
      go_wp2_with fail
      go_ret
      exact ⟨rfl, hb2.trans (hb12.mono hs2)⟩
end Go.Proofs.YtjfkjnakmmkkiaaGreat
