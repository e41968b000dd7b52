/- The walk of the law TreeUndone. -/
import Derived.Test.YtjfkjnakmmkkiaaGreatZ32
import Derived.Test.YtjfkjnakmmkkiaaGreatZ34
import Derived.Test.YtjfkjnakmmkkiaaGreatZ26

namespace Go.Proofs.YtjfkjnakmmkkiaaGreat
open Go.RowKit

theorem slash_list : (⟨#[47]⟩ : ByteArray).toList = [47] := by rw [ByteArray.toList_eq]
theorem lProp_ok : ∀ s ∈ lProperty, propB s = true := by decide
theorem lName_1000 : ∀ s ∈ lName, s.size ≤ 1000 := by decide
theorem set_err {T : List NodeT} (hc : checkT T = 0) {k : Nat} (hk : k < T.length) {q value : ByteArray} (hq : propB q = true) (he : (setT T (pathS T k) q value).2 ≠ 0) : setT T (pathS T k) q value = ([], 3) := by
  have hok := setT_ok (name := q) (value := value) (begin_of hc hk)
  rw [if_neg (by rw [hq]; decide)] at hok
  by_cases e : limitsT (setAt T k ⟨q, value⟩) = false
  · rw [hok, if_pos e]
  · rw [hok, if_neg e] at he; exact absurd rfl he
theorem path_small {T : List NodeT} (hc : checkT T = 0) {k : Nat} (hk : k < T.length) : (pathS T k).size ≤ 4000 := by
  have hp := check_parts hc
  have hl := limits_len hp.1
  have hf := flatP_len hp.2.1 k k (Nat.le_refl _) hk
  have e : (pathS T k).size = (pathS T k).data.toList.length := by simp
  rw [e, pathS_list]
  unfold pathL
  split
  · simp
  · rw [← flat_names]; omega
theorem flat_snoc (ns : List (List UInt8)) (n : List UInt8) : flatN (ns ++ [n]) = flatN ns ++ 47 :: n := by
  unfold flatN; simp
def UndCh (ns : List UInt8) (W : World) (y : Value) (w : World) : Prop := ∃ ch : ByteArray, y = .string ch ∧ Hid (ch.data.toList = ns) ∧ W = w
def UndAt (W : World) (_ : Value) (w : World) : Prop := Below W.heap.size W w

set_option maxRecDepth 100000 in
set_option maxHeartbeats 8000000 in
theorem treeUndone_walk (a0 : Option Addr) (len0 cap0 : Nat) (w : World) (hi : IntsIn w a0 len0) (hlc : len0 ≤ cap0) (hcap : cap0 ≤ maxLen) (hnil : a0 = none → len0 = 0 ∧ cap0 = 0) :
    Calls Tryz.prog 8 #[.slice a0 len0 cap0] w fun e w' => e = .returned (.bool true) ∧ Below w.heap.size w w' := by
  have haw := Lib.hid law03_awake
  have hnw := Lib.hid (mk_New a0 len0 cap0 w hi hlc hcap hnil)
  go_enter Tryz.func8, Tryz.ntmps8
  go_wp2_with fail
  refine hnw.out.mono ?_
  rintro e w2 ⟨b, rfl, hT2, hb3⟩
  have hbW := hT2.1
  have hbl2 := hT2.lt
  go_wp2_with fail
  refine (grow_Tree w.heap.size b 10 w2 hT2 (by omega) (by omega)).mono ?_
  rintro e w3 ⟨va, A, rfl, hA3, hAc, hAl, hT3, hK3⟩
  obtain ⟨aa, ac, rfl⟩ := tree_slice hA3
  have hAl3 : Below w3.heap.size w3 (w3.alloc (.cells #[.slice aa A.length ac] 25)) := (Below.refl _ _).alloc (Nat.le_refl _) _
  have hA4 := hA3.new hAl3
  have hZ4 := Holds.new w3 #[.slice aa A.length ac] 25
  have hT4 := hT3.new hAl3
  have hK3s := hK3.size
  have hzb : w3.heap.size ≠ b := by omega
  have hb4 : Below w.heap.size w w3 := hb3.trans (hK3.below (by have := hb3.size; omega) (fun i hi e => by omega))
  have hb5 := hb4.alloc hb4.size (.cells #[.slice aa A.length ac] 25)
  have hAN := hA4.in.mono (fun g h e => by subst e; omega : ∀ g, w2.heap.size ≤ g → g ≠ b)
  have hA0 : 0 < A.length := (limits_len (check_limits hAc)).1
  have HAc := Lib.hid hAc
  clear hnw hi hT2 hT3 hK3 hb3 hA3 hAl3 hb4
  go_upto_region 3 with fail
  generalize hW4 : w3.alloc (.cells #[.slice aa A.length ac] 25) = W4 at *
  have hW4s : W4.heap.size = w3.heap.size + 1 := by rw [← hW4]; simp
  clear hW4 hAc
  have x0 := hZ4.cell 0
  have xl := hZ4.lt
  have HAN := Lib.hid hAN
  have HZ4 := Lib.hid hZ4
  have HA4 := Lib.hid hA4
  have HT4 := Lib.hid hT4
  clear hA4
  have hs5 := hb5.size
  clear hAN hZ4
  go_wp2_with fail
  go_loopg [34] A.length (fun f x wr => TedO w.heap.size b A.length W4 f x wr)
  case atStart => exact ⟨0, rfl, by omega, by omega, hT4, Keeps.refl _ _⟩
  case round =>
    clear x0 xl hT4
    obtain ⟨i, rfl, hi1, hi2, hTr, hKr⟩ := hrel
    have hsr := hKr.size
    by_cases hlt : i < A.length
    · have hlt' : (i : Int) < (A.length : Int) := by omega
      have hZr := HZ4.out.keeps hKr hzb
      have z0 := hZr.cell 0
      have zl := hZr.lt
      have hNr := HAN.out.keeps hKr (fun _ h e => h e)
      have hpt := Lib.hid (fun wx hx => by have := tree_Path (fun g => g ≠ b) (.slice aa A.length ac) A (i : Int) wx hx; rw [path_of HAc.out hlt] at this; exact this)
      have hfd := Lib.hid (fun wx hx => by have := tree_Find (fun g => g ≠ b) (.slice aa A.length ac) A (pathS A i) wx hx; rw [rfind_of HAc.out hlt] at this; exact this)
      have HNr := Lib.hid (show NodesIn (fun g => g ≠ b) wr.drew (.slice aa A.length ac) A from hNr)
      have HKr := Lib.hid hKr
      have HTr := Lib.hid hTr
      have hii : ((i : Int) != (i : Int)) = false := by simp
      clear hNr hKr hTr
      generalize pathS A i = p at *
      go_wp2_with fail
      go_region_with (first
        | (go_at_call 38; refine (hpt.out _ (by exact HNr.out)).mono ?_; rintro e v1 ⟨rfl, hv1⟩; have hv1' : Below wr.heap.size wr v1 := (Below.refl wr.heap.size wr).drew.trans hv1; have hZv := hZr.keeps (Keeps.of_fresh hv1' (fun _ => False)) (fun e => e); have z1 := hZv.cell 0; have zl1 := hZv.lt)
        | (go_at_call 46; refine (hfd.out _ (by exact HNr.out.new hv1)).mono ?_; rintro e v2 ⟨rfl, hv2⟩; have hv3 := hv1'.trans (hv2.mono hv1'.size)))
      all_goals
        have HV3 := Lib.hid hv3
        clear hv1 hv1' hv2 hv3 hZv z1 zl1 z0 zl hZr
        go_wp2_with fail
        go_roundg (gk - 1)
        case measure => omega
        case rel => exact ⟨i + 1, by go_num, by omega, by omega, HTr.out.new HV3.out, HKr.out.trans (Keeps.of_fresh HV3.out _) (fun _ _ e => e)⟩
    · have hlt' : ¬ (i : Int) < (A.length : Int) := by omega
      have hZr := HZ4.out.keeps hKr hzb
      have hNr := HAN.out.keeps hKr (fun _ h e => h e)
      have hbr := hb5.trans (hKr.below hs5 (fun i hi e => by omega))
      have HBr := Lib.hid hbr
      have HKr := Lib.hid hKr
      obtain ⟨wr0, rfl⟩ : ∃ x : World, x = wr := ⟨_, rfl⟩
      clear hKr hbr
      go_upto_region 10 with fail
      refine wp_region_any (by kernel_rfl) ?_
      refine wpAny_ops (ops' := undOps) (by kernel_rfl) ?_
      refine und_region w.heap.size b w3.heap.size aa ac A wr0 wr0.drew _ rfl hA0 (by omega) hZr hzb hNr rfl rfl ⟨hTr.keeps ((Keeps.refl (fun _ => False) wr0).drew) (fun _ e => e.elim), (Keeps.refl _ wr0).drew⟩ ?_
      intro c w5 hsb hT5 hK5 h8 h9 h10 h11
      obtain ⟨y8, y9, y10, y11, y53, y54, y55, y56, y57, y58, y59, y60, y61, y62, y63, y64, y65, hc⟩ := hsb.ex [8, 9, 10, 11, 53, 54, 55, 56, 57, 58, 59, 60, 61, 62, 63, 64, 65] (by kernel_rfl)
      subst hc
      simp only [List.setIfInBounds_toArray, List.set_cons_zero, List.set_cons_succ] at h8 h9 h10 h11 ⊢
      obtain ⟨k, hk, e8⟩ : ∃ k : Nat, k < A.length ∧ y8 = .string (pathQ A k) := h8
      obtain ⟨nm, hnm, e9⟩ : ∃ s, s ∈ lName ∧ y9 = .string s := h9
      obtain ⟨q, hq, e10⟩ : ∃ s, s ∈ lProperty ∧ y10 = .string s := h10
      obtain ⟨v, hv, e11⟩ : ∃ s : ByteArray, s.size ≤ 100 ∧ y11 = .string s := h11
      rw [path_of HAc.out hk] at e8
      subst e8 e9 e10 e11
      have hZ5 := Lib.hid (hZr.keeps hK5 hzb)
      have hN5 := Lib.hid (hNr.keeps hK5 (fun _ h e => h e))
      have hA5 := Lib.hid (HA4.out.tape HT4.out (HKr.out.trans hK5 (fun _ _ e => e)))
      have hB5 := Lib.hid (HBr.out.trans (hK5.below HBr.out.size (fun i hi e => by omega)))
      have hnms := lName_small nm hnm
      have hqs := lProp_small q hq
      have hps := path_small HAc.out hk
      have hpl := Lib.hid (pathS_list A k)
      have hnm2 : nm.size ≤ 1000 := lName_1000 nm hnm
      have hp0 := Lib.hid (fun (e : pathL A k = [47]) => path_inj (check_parts HAc.out).2.1 (dis_check HAc.out) hk hA0 (e.trans (show [47] = pathL A 0 from rfl)))
      have hRA := Lib.hid (fun ch he hch => remove_add (name := nm) (child := ch) HAc.out hk he hch)
      have hAV := Lib.hid (fun he => add_valid (T := A) (s := pathS A k) (name := nm) he)
      have hSV := Lib.hid (fun he => undo_set (q := q) (v := v) HAc.out hk he)
      have hSE := Lib.hid (fun (he : (setT A (pathS A k) q v).2 ≠ 0) => set_err (value := v) HAc.out hk (lProp_ok q hq) he)
      have hov := valueT_size A (k : Int) q
      have hC1 := Lib.hid (fun wx hx => tree_Add (fun g => g ≠ b) (.slice aa A.length ac) A (pathS A k) nm wx hx hnms)
      have hC2 := Lib.hid (fun wx hx => tree_Set (fun g => g ≠ b) (.slice aa A.length ac) A (pathS A k) q v wx hx hqs (by omega))
      have hC3 := Lib.hid (fun wx hx => tree_Value (fun g => g ≠ b) (.slice aa A.length ac) A (k : Int) q wx hx)
      clear hZr hNr hT5 hK5 hsb hTr
      obtain ⟨c1, had1, hx1, hd1⟩ := adds_of' (pathS A k) ⟨#[47]⟩ (by rw [show (⟨#[47]⟩ : ByteArray).size = 1 from rfl]; omega)
      rw [show (⟨#[47]⟩ : ByteArray).size = 1 from rfl] at hx1
      obtain ⟨c2, had2, hx2, hd2⟩ := adds_of' c1 nm (by omega)
      obtain ⟨c3, had3, hx3, hd3⟩ := adds_of' ⟨#[47]⟩ nm (by rw [show (⟨#[47]⟩ : ByteArray).size = 1 from rfl]; omega)
      have hch2 : k ≠ 0 → Hid (c2.data.toList = flatN (namesL A k ++ [nm.data.toList])) := fun h0 => Lib.hid (by
        rw [hd2, hd1, hpl.out, flat_snoc]; unfold pathL; rw [if_neg h0]; simp)
      have hch3 : k = 0 → Hid (c3.data.toList = flatN (namesL A k ++ [nm.data.toList])) := fun h0 => Lib.hid (by
        rw [hd3, flat_snoc, h0]; rfl)
      have hpe : k = 0 → ((pathS A k).toList == (⟨#[47]⟩ : ByteArray).toList) = true := fun h0 => (eqS_iff _ _).2 (by subst h0; unfold pathS; rw [if_pos rfl])
      have hpn : k ≠ 0 → ((pathS A k).toList == (⟨#[47]⟩ : ByteArray).toList) = false := fun h0 => by
        cases e : ((pathS A k).toList == (⟨#[47]⟩ : ByteArray).toList) with
        | false => rfl
        | true =>
          have e2 : pathS A k = ⟨#[47]⟩ := (eqS_iff _ _).1 e
          exact absurd (hp0.out (by rw [← hpl.out, e2])) h0
      generalize namesL A k ++ [nm.data.toList] = ns at *
      clear hd1 hd2 hd3 hx1 hx2 hx3 hpl hp0
      generalize pathS A k = p at *
      go_upto_if 71 with fail
      go_cut [12] (fun y wx => UndCh (flatN ns) w5 y wx)
      case first =>
        by_cases h0 : k = 0
        · have hpe2 : (p.toList == [47]) = true := by rw [← slash_list]; exact hpe h0
          have hch := hch3 h0
          clear hpe hpn hch2 hch3 h0
          go_wp2_with fail
          all_goals first
            | (rename_i h; rw [hpe2] at h; cases h; done)
            | (go_meet; exact ⟨c3, rfl, hch, rfl⟩)
        · have hpe2 : (p.toList == [47]) = false := by rw [← slash_list]; exact hpn h0
          have hch := hch2 h0
          clear hpe hpn hch2 hch3 h0
          go_wp2_with fail
          all_goals first
            | (rename_i h; rw [hpe2] at h; cases h; done)
            | (go_meet; exact ⟨c2, rfl, hch, rfl⟩)
      case rest =>
        obtain ⟨ch, rfl, hch, rfl⟩ := hcut
        clear hpe hpn hch2 hch3 had1 had2 had3
        have z0 := hZ5.out.cell 0
        have zl := hZ5.out.lt
        obtain ⟨wA, rfl⟩ : ∃ x : World, x = w5 := ⟨_, rfl⟩
        -- y, e := Add(x, p, n), and what Remove makes of it
        generalize addT A p nm = E1 at *
        obtain ⟨Y1, r1⟩ := E1
        simp only at hRA hAV
        go_wp2_with fail
        refine (hC1.out _ (by exact hN5.out)).mono ?_
        rintro e m1 ⟨u1, rfl, hr1, hb1⟩
        obtain ⟨sa1, sc1, rfl⟩ := tree_slice hr1
        have ha1 : Below m1.heap.size m1 (m1.alloc (.cells #[.slice sa1 Y1.length sc1] 25)) := (Below.refl _ _).alloc (Nat.le_refl _) _
        have hY1 := Lib.hid (hr1.new ha1).in
        have hV1 := Holds.new m1 #[.slice sa1 Y1.length sc1] 25
        have hB1 := Lib.hid (hb1.trans (ha1.mono hb1.size))
        have HV1 := Lib.hid hV1
        clear hr1 hb1 ha1 hV1
        go_upto_if 82 with fail
        generalize hM1 : m1.alloc (.cells #[.slice sa1 Y1.length sc1] 25) = M1 at *
        clear hM1
        go_cut [13] (fun y wx => UndAt M1 y wx)
        case first =>
          by_cases he : r1 = 0
          · have he' : (r1 == 0) = true := by simp [he]
            have hrm := hRA.out ch he hch.out
            have hva := (hAV.out he).1
            have hc1 := fun wx hx => tree_Remove (fun g => wA.heap.size ≤ g) (.slice sa1 Y1.length sc1) Y1 ch wx hx
            rw [hrm] at hc1
            have hck := fun wx hx => tree_Check (fun g => wA.heap.size ≤ g) (.slice sa1 Y1.length sc1) Y1 wx hx
            rw [hva] at hck
            have HC := Lib.hid hc1
            have HCK := Lib.hid hck
            have v0 := HV1.out.cell 0
            have vl := HV1.out.lt
            clear he hrm hva hc1 hck
            go_wp2_with fail
            refine (HC.out _ (by exact hY1.out)).mono ?_
            rintro e m2 ⟨u2, rfl, hr2, hb2⟩
            obtain ⟨sa2, sc2, rfl⟩ := tree_slice hr2
            have ha2 : Below m2.heap.size m2 (m2.alloc (.cells #[.slice sa2 A.length sc2] 25)) := (Below.refl _ _).alloc (Nat.le_refl _) _
            have hY2 := Lib.hid (hr2.new ha2).in
            have hV2 := Holds.new m2 #[.slice sa2 A.length sc2] 25
            have hB2 := Lib.hid (hb2.trans (ha2.mono hb2.size))
            have hZ2 := hZ5.out.keeps (Keeps.of_fresh (hB1.out.trans (hB2.out.mono hB1.out.size)) (fun _ => False)) (fun e => e)
            have z2 := hZ2.cell 0
            have zl2 := hZ2.lt
            have t0 := hV2.cell 0
            have tl := hV2.lt
            have hVV := HV1.out.keeps (Keeps.of_fresh hB2.out (fun _ => False)) (fun e => e)
            have hSm := Lib.hid (ref3_Same _ _ _ _ A A _ (hN5.out.new (hB1.out.trans (hB2.out.mono hB1.out.size))) hY2.out)
            have hYY := Lib.hid (hY1.out.new hB2.out)
            clear hr2 hb2 ha2 v0 vl z0 zl hZ2
            go_upto_region 17 with fail
            generalize hM2 : m2.alloc (.cells #[.slice sa2 A.length sc2] 25) = M2 at *
            clear hM2 hV2
            go_wp2_with fail
            refine hSm.out.mono ?_
            rintro e m3 ⟨bb, rfl, hbb, hb3⟩
            obtain rfl : bb = true := by simpa using hbb
            have hVW := hVV.keeps (Keeps.of_fresh hb3 (fun _ => False)) (fun e => e)
            have v1 := hVW.cell 0
            have vl1 := hVW.lt
            clear z2 zl2 t0 tl
            go_wp2_with fail
            refine (HCK.out _ (by exact hYY.out.new hb3)).mono ?_
            rintro e m4 ⟨rfl, hb4⟩
            have HB4 := Lib.hid (hB2.out.trans ((hb3.trans (hb4.mono hb3.size)).mono hB2.out.size))
            clear hb3 hb4 hVW hVV v1 vl1
            go_wp2_with fail
            go_meet
            exact HB4.out
          · have he' : (r1 == 0) = false := by simpa using he
            go_wp2_with fail
            go_meet
            exact Below.refl _ _
        case rest =>
          have HX : Below M1.heap.size M1 wc := hcut
          obtain ⟨wB, rfl⟩ : ∃ x : World, x = wc := ⟨_, rfl⟩
          have hAB := Lib.hid (hB1.out.trans (HX.mono hB1.out.size))
          clear hcut HX hRA hAV hC1 hY1 HV1 hB1 z0 zl hch
          have hZB := hZ5.out.keeps (Keeps.of_fresh hAB.out (fun _ => False)) (fun e => e)
          have z0 := hZB.cell 0
          have zl := hZB.lt
          have hNB := Lib.hid (hN5.out.new hAB.out)
          generalize hE2 : setT A p q v = E2 at *
          obtain ⟨Y2, r2⟩ := E2
          simp only at hSV hSE
          go_wp2_with fail
          refine (hC2.out _ (by exact hNB.out)).mono ?_
          rintro e n1 ⟨u1, rfl, hr1, hb1⟩
          obtain ⟨sa1, sc1, rfl⟩ := tree_slice hr1
          have ha1 : Below n1.heap.size n1 (n1.alloc (.cells #[.slice sa1 Y2.length sc1] 25)) := (Below.refl _ _).alloc (Nat.le_refl _) _
          have hY1 := Lib.hid (hr1.new ha1).in
          have hV1 := Holds.new n1 #[.slice sa1 Y2.length sc1] 25
          have hB1 := Lib.hid (hb1.trans (ha1.mono hb1.size))
          have HV1 := Lib.hid hV1
          clear hr1 hb1 ha1 hV1 z0 zl hE2
          go_upto_region 20 with fail
          generalize hN1 : n1.alloc (.cells #[.slice sa1 Y2.length sc1] 25) = N1 at *
          clear hN1
          have hB0 := Lib.hid (hB5.out.trans ((hAB.out.trans (hB1.out.mono hAB.out.size)).mono hB5.out.size))
          by_cases he : r2 = 0
          · have he' : (r2 != 0) = false := by simp [he]
            obtain ⟨s1, s2, s3, Zt, s4, s5, s6⟩ := hSV.out he
            have hfd := fun wx hx => tree_Find (fun g => wB.heap.size ≤ g) (.slice sa1 Y2.length sc1) Y2 p wx hx
            rw [s2] at hfd
            have hvl := fun wx hx => tree_Value (fun g => wB.heap.size ≤ g) (.slice sa1 Y2.length sc1) Y2 (k : Int) q wx hx
            unfold ValuePost at hvl
            rw [s3] at hvl
            have hck := fun wx hx => tree_Check (fun g => wB.heap.size ≤ g) (.slice sa1 Y2.length sc1) Y2 wx hx
            rw [s1] at hck
            have hdl := fun wx hx => tree_Delete (fun g => wB.heap.size ≤ g) (.slice sa1 Y2.length sc1) Y2 p q wx hx
            rw [s4] at hdl
            have HFD := Lib.hid hfd
            have HVL := Lib.hid hvl
            have HCK := Lib.hid hck
            have HDL := Lib.hid hdl
            have S5 := Lib.hid s5
            have S6 := Lib.hid s6
            have hvv : (v.toList == v.toList) = true := by simp
            have v0 := HV1.out.cell 0
            have vl := HV1.out.lt
            clear s1 s2 s3 s4 s5 s6 hfd hvl hck hdl hSV hSE he
            go_wp2_with fail
            refine (HFD.out _ (by exact hY1.out)).mono ?_
            rintro e n2 ⟨rfl, hb2⟩
            have hV2 := HV1.out.keeps (Keeps.of_fresh hb2 (fun _ => False)) (fun e => e)
            have v1 := hV2.cell 0
            have vl1 := hV2.lt
            clear v0 vl
            go_wp2_with fail
            refine (HVL.out _ (by exact hY1.out.new hb2)).mono ?_
            rintro e n3 ⟨rfl, hb3⟩
            have hb4 := hb2.trans (hb3.mono hb2.size)
            have hV3 := HV1.out.keeps (Keeps.of_fresh hb4 (fun _ => False)) (fun e => e)
            have v2 := hV3.cell 0
            have vl2 := hV3.lt
            clear v1 vl1 hV2 hb2 hb3
            go_wp2_with fail
            refine (HCK.out _ (by exact hY1.out.new hb4)).mono ?_
            rintro e n4 ⟨rfl, hb5'⟩
            have hb6 := hb4.trans (hb5'.mono hb4.size)
            have hV4 := HV1.out.keeps (Keeps.of_fresh hb6 (fun _ => False)) (fun e => e)
            have v3 := hV4.cell 0
            have vl3 := hV4.lt
            clear v2 vl2 hV3 hb4 hb5'
            go_wp2_with fail
            refine (HDL.out _ (by exact hY1.out.new hb6)).mono ?_
            rintro e n5 ⟨u5, rfl, hr5, hb7⟩
            obtain ⟨sa5, sc5, rfl⟩ := tree_slice hr5
            have ha5 : Below n5.heap.size n5 (n5.alloc (.cells #[.slice sa5 Zt.length sc5] 25)) := (Below.refl _ _).alloc (Nat.le_refl _) _
            have hY5 := Lib.hid (hr5.new ha5)
            have hV5 := Lib.hid (Holds.new n5 #[.slice sa5 Zt.length sc5] 25)
            have hB8 := Lib.hid ((hb6.trans (hb7.mono hb6.size)).trans (ha5.mono (hb6.trans (hb7.mono hb6.size)).size))
            have hNs4 : N1.heap.size ≤ n4.heap.size := hb6.size
            have hNs5 : N1.heap.size ≤ n5.heap.size := (hb6.trans (hb7.mono hb6.size)).size
            have hz3 : w3.heap.size < n5.heap.size := by have := hZ5.out.lt; have := hAB.out.size; have := hB1.out.size; omega
            have hw5 : w.heap.size ≤ n5.heap.size := by have := hB0.out.size; omega
            clear hr5 hb7 ha5 v3 vl3 hV4
            go_upto_region 29 with fail
            generalize hN5x : n5.alloc (.cells #[.slice sa5 Zt.length sc5] 25) = N5 at *
            clear hN5x
            have hAN5 := Lib.hid ((hAB.out.trans (hB1.out.mono hAB.out.size)).trans (hB8.out.mono (hAB.out.trans (hB1.out.mono hAB.out.size)).size))
            have hB9 := Lib.hid (hB0.out.trans (hB8.out.mono hB0.out.size))
            have hZ9 := hZ5.out.keeps (Keeps.of_fresh hAN5.out (fun _ => False)) (fun e => e)
            have z0 := hZ9.cell 0
            have zl := hZ9.lt
            have hN9 := Lib.hid (hN5.out.new hAN5.out)
            have hC4 := fun wx hx => hC3.out wx hx
            unfold ValuePost at hC4
            generalize valueT A (k : Int) q = V at *
            obtain ⟨old, was⟩ := V
            simp only at hC4 S5 S6 hov
            have HC4 := Lib.hid hC4
            clear hC3 hC4
            cases was with
            | false =>
              have hz := S5.out rfl
              subst hz
              have hz5 := hV5.out
              go_wp2_with fail
              refine (HC4.out _ (by exact hN9.out)).mono ?_
              rintro e n6 ⟨rfl, hb10⟩
              have hZ10 := hZ9.keeps (Keeps.of_fresh hb10 (fun _ => False)) (fun e => e)
              have hV10 := hz5.keeps (Keeps.of_fresh hb10 (fun _ => False)) (fun e => e)
              have z1 := hZ10.cell 0
              have zl1 := hZ10.lt
              have t1 := hV10.cell 0
              have tl1 := hV10.lt
              have hSm := Lib.hid (ref3_Same _ _ _ _ Zt Zt n6 (hN9.out.new hb10) (hY5.out.new hb10).in)
              clear z0 zl
              go_wp2_with fail
              refine hSm.out.mono ?_
              rintro e n7 ⟨bb, rfl, hbb, hb11⟩
              obtain rfl : bb = true := by simpa using hbb
              have hb12 := hB9.out.trans ((hb10.trans (hb11.mono hb10.size)).mono hB9.out.size)
              have HB12 := Lib.hid hb12
              clear z1 zl1 t1 tl1 hb10 hb11 hb12 hZ10 hV10
              go_wp2_with fail
              refine (haw.out _).mono ?_
              rintro e n8 ⟨rfl, hb13⟩
              go_wp2_with fail
              go_ret
              exact ⟨rfl, HB12.out.trans (hb13.mono HB12.out.size)⟩
            | true =>
              have hst := fun wx hx => tree_Set (fun g => N1.heap.size ≤ g) (.slice sa5 Zt.length sc5) Zt p q old wx hx hqs (by omega)
              have hz := S6.out rfl
              rw [hz] at hst
              have HST := Lib.hid hst
              have hz5 := hV5.out
              clear hst hz
              go_wp2_with fail
              refine (HC4.out _ (by exact hN9.out)).mono ?_
              rintro e n6 ⟨rfl, hb10⟩
              have hV10 := hz5.keeps (Keeps.of_fresh hb10 (fun _ => False)) (fun e => e)
              have t1 := hV10.cell 0
              have tl1 := hV10.lt
              have tf1 := hV10.free 0
              clear z0 zl
              go_wp2_with fail
              refine (HST.out _ (by exact ((hY5.out.base hNs4).new hb10).in)).mono ?_
              rintro e n7 ⟨u7, rfl, hr7, hb11⟩
              obtain ⟨sa7, sc7, rfl⟩ := tree_slice hr7
              have hb12 := hb10.trans (hb11.mono hb10.size)
              have hV11 := hz5.keeps (Keeps.of_fresh hb12 (fun _ => False)) (fun e => e)
              have t2 := hV11.cell 0
              have tl2 := hV11.lt
              have tf2 := hV11.free 0
              have hV12 := hV11.set 0 (.slice sa7 A.length sc7)
              have hR12 := hr7.set hV11 (by decide) (by decide) 0 (.slice sa7 A.length sc7)
              have hb13 := hB9.out.trans (hb12.mono hB9.out.size)
              have hb14 := Lib.hid (hb13.setCell (p := ⟨n5.heap.size, 0, none⟩) hw5 (.slice sa7 A.length sc7))
              have hZ12 := Lib.hid ((hZ9.keeps (Keeps.of_fresh hb12 (fun _ => False)) (fun e => e)).other ⟨n5.heap.size, 0, none⟩ (.slice sa7 A.length sc7) (by show w3.heap.size ≠ n5.heap.size; omega))
              have hN12 := Lib.hid (((hA5.out.new hAN5.out).new hb12).set hV11 (by decide) (by decide) 0 (.slice sa7 A.length sc7)).in
              have HV12 := Lib.hid hV12
              have HR12 := Lib.hid hR12
              clear t1 tl1 tf1 hV10 hV12 hR12 hr7 hb11 hb13 hV11
              go_upto_region 32 with fail
              generalize hN7 : n7.setCell ⟨n5.heap.size, 0, none⟩ (.slice sa7 A.length sc7) = N7 at *
              clear hN7
              have z1 := hZ12.out.cell 0
              have zl1 := hZ12.out.lt
              have t3 := HV12.out.cell 0
              have tl3 := HV12.out.lt
              have hSm := Lib.hid (ref3_Same _ _ _ _ A A N7 hN12.out HR12.out.in)
              clear t2 tl2 tf2
              go_wp2_with fail
              refine hSm.out.mono ?_
              rintro e n8 ⟨bb, rfl, hbb, hb15⟩
              obtain rfl : bb = true := by simpa using hbb
              have HB15 := Lib.hid (hb14.out.trans (hb15.mono hb14.out.size))
              clear z1 zl1 t3 tl3 hb15
              go_wp2_with fail
              refine (haw.out _).mono ?_
              rintro e n9 ⟨rfl, hb16⟩
              go_wp2_with fail
              go_ret
              exact ⟨rfl, HB15.out.trans (hb16.mono HB15.out.size)⟩
          · have he' : (r2 != 0) = true := by simpa using he
            have h3 := hSE.out he
            simp only [Prod.mk.injEq] at h3
            obtain ⟨rfl, rfl⟩ := h3
            clear he
            go_wp2_with fail
            refine (haw.out _).mono ?_
            rintro e n8 ⟨rfl, hb13⟩
            go_wp2_with fail
            go_ret
            exact ⟨rfl, hB0.out.trans (hb13.mono hB0.out.size)⟩
end Go.Proofs.YtjfkjnakmmkkiaaGreat
