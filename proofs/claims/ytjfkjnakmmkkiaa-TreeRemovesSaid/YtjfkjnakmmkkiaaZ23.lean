/- The law TreeRemoves: its walk. -/
import Derived.Test.YtjfkjnakmmkkiaaZ20
import Derived.Test.YtjfkjnakmmkkiaaZ19
import Derived.Test.YtjfkjnakmmkkiaaZ22
import Derived.Test.YtjfkjnakmmkkiaaZ7

namespace Go.Proofs.Ytjfkjnakmmkkiaa
open Go.RowKit

theorem begin_path {T : List NodeT} (hc : checkT T = 0) {k : Nat} (hk : k < T.length) : rBeginT T (pathS T k) = ((k : Int), 0) := by
  have hp := check_parts hc
  have hf : findT T (pathS T k) = (k : Int) := by
    refine findT_yes hk (eqS_path.2 rfl) fun q hq => ?_
    cases e : eqS (pathS T q) (pathS T k) with
    | false => rfl
    | true => have := path_inj hp.2.1 (dis_check hc) (show q < T.length by omega) hk (eqS_path.1 e); omega
  unfold rBeginT
  rw [if_neg (by rw [hc]; simp), hf, if_pos (by omega)]
theorem ext_toList (s : ByteArray) (n : Nat) : (s.extract 0 n).toList = s.toList.take n := by
  rw [ByteArray.toList_eq, ByteArray.toList_eq, ByteArray.data_extract, Array.toList_extract]
  simp [List.extract]
theorem size_toList (s : ByteArray) : s.toList.length = s.size := by rw [ByteArray.toList_eq]; simp
theorem byte_toList (s : ByteArray) (n : Nat) (h : n < s.size) : s.toList[n]'(by rw [size_toList]; exact h) = s[n] := by
  simp only [ByteArray.toList_eq]; rfl
/-- How a path lies that goes on behind another one. -/
theorem path_parts {p q : ByteArray} {u : List UInt8} (h : p.toList = q.toList ++ 47 :: u) : ∃ hs : q.size < p.size, ((p.extract 0 q.size).toList == q.toList) = true ∧ ((p[q.size].toNat : Int) == 47) = true := by
  have hs : q.size < p.size := by rw [← size_toList, ← size_toList, h]; simp
  refine ⟨hs, ?_, ?_⟩
  · rw [ext_toList, h, ← size_toList q, List.take_left']
    · simp
    · rfl
  · have : p[q.size] = 47 := by
      rw [← byte_toList p q.size hs]
      simp only [h]
      rw [List.getElem_append_right (by rw [size_toList]; omega)]
      simp [size_toList]
    rw [this]; rfl
theorem path_join {p q : ByteArray} (hs : q.size < p.size) (h : ((p.extract 0 q.size).toList == q.toList) = true) (hb : p[q.size] = 47) : ∃ u, p.toList = q.toList ++ 47 :: u := by
  have h1 := eq_of_beq h
  rw [ext_toList] at h1
  refine ⟨p.toList.drop (q.size + 1), ?_⟩
  rw [← h1, ← hb, ← byte_toList p q.size hs, List.getElem_cons_drop, List.take_append_drop]
theorem two_alloc (w : World) (o1 o2 : Obj) : Below w.heap.size w ((w.alloc o1).alloc o2).drew := (((Below.refl _ _).alloc (Nat.le_refl _) o1).alloc (by simp) o2).drew
def RmvS (T Y : List NodeT) (k : Nat) (tv yv : Value) (Z V : Nat) (base : Nat) (W : World) (f : Nat) (x y : Value) (w : World) : Prop :=
  ∃ i : Nat, x = .int .i64 (keepO T k i).length ∧ y = .int .i64 i ∧ i ≤ T.length ∧ T.length ≤ i + f ∧ NodesIn (fun g => base ≤ g) w tv T ∧ NodesIn (fun g => base ≤ g) w yv Y ∧ Holds w Z #[tv] 27 ∧ Holds w V #[yv] 27 ∧ Below W.heap.size W w

set_option maxRecDepth 100000 in
set_option maxHeartbeats 4000000 in
theorem treeRemoves_walk (a : Option Addr) (len cap : Nat) (w : World) (hi : IntsIn w a len) (hlc : len ≤ cap) (hcap : cap ≤ maxLen) (hnil : a = none → len = 0 ∧ cap = 0) :
    Calls Try.prog 9 #[.slice a len cap] w fun e w' => e = .returned (.bool true) ∧ Below w.heap.size w w' := by
  go_enter Try.func9, Try.ntmps9
  go_wp2_with fail
  refine (mk_New a len cap _ hi hlc hcap hnil).mono ?_
  rintro e w1 ⟨tb, rfl, hT1, hb1⟩
  clear hi hnil
  have hB := hT1.1
  have htl := hT1.lt
  go_wp2_with fail
  refine (grow_Tree w.heap.size tb 10 _ (by exact hT1) (by omega) (by omega)).mono ?_
  rintro e w2 ⟨v, T, rfl, hR, hs, hl, hT2, hk2⟩
  obtain ⟨va, vc, rfl⟩ := hR.slice
  have hb2 : Below w.heap.size w w2 := hb1.trans (hk2.below (by omega) (fun i hi e => by omega))
  have hba : Below w2.heap.size w2 (w2.alloc (.cells #[.slice va T.length vc] 27)) := (Below.refl _ _).alloc (Nat.le_refl _) _
  have hR2 := hR.new hba
  have hTn := hT2.new hba
  have hb3 := hb2.alloc hb2.size (.cells #[.slice va T.length vc] 27)
  have hZ := Holds.new w2 #[.slice va T.length vc] 27
  have h0 := (limits_len (check_limits hs)).1
  have hT11 : T.length ≤ 11 := by omega
  have z0 := hZ.cell 0
  have htl2 := hT2.lt
  have hbs1 := hk2.size
  clear hR hb2 hb1 hk2 hT1 hT2 hba
  generalize w1.heap.size = base at *
  go_wp2_with fail
  refine (mk_N w.heap.size tb T.length _ (by exact hTn) (by omega) (by omega)).mono ?_
  rintro e w3 ⟨r, rfl, hr0, hr1, hT3, hk3⟩
  obtain ⟨k, rfl⟩ := Int.eq_ofNat_of_zero_le hr0
  have hkT : k < T.length := by omega
  have hR3 := hR2.tape hTn hk3
  have hZ3 := hZ.keeps hk3 (by omega)
  have hb4 := hb3.trans (hk3.below hb3.size (fun i hi e => by omega))
  have hpq : pathQ T k = pathS T k := by unfold pathQ; rw [if_neg (by rintro (h | h | h); exact h hs; omega; omega)]; simp
  have hN3 := hR3.in
  have hpath := Lib.hid (ref3_Path (fun g => base ≤ g) _ T k w3 (by exact hN3))
  have z3 := hZ3.cell 0
  have hbs3 : w2.heap.size ≤ w3.heap.size := Nat.le_trans (by simp) hk3.size
  clear hR2 hTn hb3 hZ z0 hk3 hT3 hr0 hr1
  go_wp2_with fail
  generalize w2.heap.size = Z at *
  refine hpath.out.mono ?_
  rintro e w4 ⟨rfl, hb5⟩
  rw [hpq]
  have hN4 := hN3.new hb5
  have hZ4 := hZ3.keeps (Keeps.of_fresh hb5 (fun _ => False)) (fun e => e)
  have hb6 := hb4.trans (hb5.mono hb4.size)
  have z4 := hZ4.cell 0
  have HC := Lib.hid hs
  have hrem := Lib.hid (tree_Remove (fun g => base ≤ g) _ T (pathS T k) w4 (by exact hN4))
  have hrk := remove_ok (begin_path hs hkT)
  have hbs5 := hb5.size
  have hbw : base ≤ w4.heap.size := by omega
  clear hpath hpq hR3 hN3 hZ3 hb4 hb5 hs
  go_wp2_with fail
  refine hrem.out.mono ?_
  rintro e w5 ⟨yv, rfl, hr5, hb7⟩
  rw [hrk] at hr5 ⊢
  have hb8 := hb6.trans (hb7.mono hb6.size)
  by_cases hk0 : k = 0
  · rw [if_pos hk0] at hr5 ⊢
    obtain ⟨ya, yc, rfl⟩ := tree_slice hr5
    have hb9 := hb8.alloc hb8.size (.cells #[.slice ya 0 yc] 27)
    have hV := Holds.new w5 #[.slice ya 0 yc] 27
    have v0 := hV.cell 0
    have hkb : ((k : Int) == 0) = true := by rw [hk0]; rfl
    have haw := Lib.hid (fun wx => law03_awake wx)
    clear hr5 hrem hrk hN4 hZ4 hb6 hb7 hb8 hk0 hV
    go_wp2_with fail
    refine (haw.out _).mono ?_
    rintro e w6 ⟨rfl, hb10⟩
    go_wp2_with fail
    go_ret
    exact ⟨rfl, hb9.trans (hb10.mono hb9.size)⟩
  · rw [if_neg hk0] at hr5 ⊢
    have hkb : ((k : Int) == 0) = false := by rw [beq_eq_false_iff_ne]; omega
    have hO := keep_subok (par_of_named (check_parts HC.out).2.1) hkT hk0
    have hOl := hO.len
    have hsl : (subT T (keepO T k T.length)).length = (keepO T k T.length).length := sub_len
    obtain ⟨ya, yc, rfl⟩ := tree_slice hr5
    have hal : Below w5.heap.size w5 (w5.alloc (.cells #[.slice ya (subT T (keepO T k T.length)).length yc] 27)) := (Below.refl _ _).alloc (Nat.le_refl _) _
    have hYn := ((hr5.base (base' := base) hbw).new hal).in
    have hTn := (hN4.new hb7).new hal
    have hV := Holds.new w5 #[.slice ya (subT T (keepO T k T.length)).length yc] 27
    have hZ5 := (hZ4.keeps (Keeps.of_fresh hb7 (fun _ => False)) (fun e => e)).alloc (.cells #[.slice ya (subT T (keepO T k T.length)).length yc] 27)
    have hb9 := hb8.alloc hb8.size (.cells #[.slice ya (subT T (keepO T k T.length)).length yc] 27)
    have hS0 : RmvS T (subT T (keepO T k T.length)) k (.slice va T.length vc) (.slice ya (subT T (keepO T k T.length)).length yc) Z w5.heap.size base w T.length (.int .i64 0) (.int .i64 0) (w5.alloc (.cells #[.slice ya (subT T (keepO T k T.length)).length yc] 27)) :=
      ⟨0, rfl, rfl, by omega, by omega, hTn, hYn, hZ5, hV, hb9⟩
    have z5 := hZ5.cell 0
    have HSL := Lib.hid hsl
    have HO := Lib.hid hO
    have hYl : (subT T (keepO T k T.length)).length ≤ 11 := by omega
    clear hr5 hrem hrk hN4 hZ4 hb6 hb7 hb8 hal hYn hTn hV hZ5 hb9 hsl hO z3 z4
    go_wp2_with fail
    generalize w5.heap.size = V at *
    clear z5
    go_loopg [9, 53] T.length (fun f x y wr => RmvS T (subT T (keepO T k T.length)) k (.slice va T.length vc) (.slice ya (subT T (keepO T k T.length)).length yc) Z V base w f x y wr)
    case atStart => exact hS0
    case round =>
      clear hS0
      obtain ⟨i, rfl, rfl, hi1, hi2, hTn, hYn, hZr, hVr, hb⟩ := hrel
      have z0 := hZr.cell 0
      have hkl := keepO_len T k i
      by_cases hlt : i < T.length
      · have hlt' : (i : Int) < T.length := by omega
        have hpq : pathQ T i = pathS T i := by unfold pathQ; rw [if_neg (by rintro (h | h | h); exact h HC.out; omega; omega)]; simp
        have hpath := Lib.hid (ref3_Path (fun g => base ≤ g) _ T i wr (by exact hTn))
        go_wp2_with fail
        refine hpath.out.mono ?_
        rintro e w6 ⟨rfl, hb1⟩
        rw [hpq]
        have hTn1 := hTn.new hb1
        have hYn1 := hYn.new hb1
        have hZ1 := hZr.keeps (Keeps.of_fresh hb1 (fun _ => False)) (fun e => e)
        have hV1 := hVr.keeps (Keeps.of_fresh hb1 (fun _ => False)) (fun e => e)
        have hb2 := hb.trans (hb1.mono hb.size)
        have v1 := hV1.cell 0
        have hnd := (check_parts HC.out).2.1
        have hD := dis_check HC.out
        have hfind := fun wx hx => tree_Find (fun g => base ≤ g) (.slice ya (subT T (keepO T k T.length)).length yc) (subT T (keepO T k T.length)) (pathS T i) wx hx
        have hps : ∀ j, (pathS T j).toList = pathL T j := fun j => by rw [ByteArray.toList_eq]; exact pathS_list T j
        clear hTn hYn hZr hVr hb hb1 z0 hpath hpq
        cases hr : remB T k i with
        | true =>
          have hfd := find_gone HC.out hkT hk0 hlt hr
          rw [hfd] at hfind
          have HFD := Lib.hid hfind
          have hst := keepO_no hr
          clear hfind hfd
          by_cases hik : i = k
          · have hpe : ((pathS T i).toList == (pathS T k).toList) = true := by rw [hik]; simp
            have HF := Lib.hid (show ∀ (wx : World), Below w6.heap.size w6 wx → RmvS T (subT T (keepO T k T.length)) k (.slice va T.length vc) (.slice ya (subT T (keepO T k T.length)).length yc) Z V base w (gk - 1) (.int .i64 (keepO T k i).length) (.int .i64 ((i : Int) + 1)) wx from
              fun wx hx => ⟨i + 1, by rw [hst], rfl, by omega, by omega, hTn1.new hx, hYn1.new hx, hZ1.keeps (Keeps.of_fresh hx (fun _ => False)) (fun e => e), hV1.keeps (Keeps.of_fresh hx (fun _ => False)) (fun e => e), hb2.trans (hx.mono hb2.size)⟩)
            clear hik hst hnd hD hps hr hTn1 hZ1 hV1 hb2
            generalize pathS T i = pI at *
            generalize pathS T k = pK at *
            have HY := Lib.hid hYn1
            clear hYn1
            go_wp2_with fail
            refine (HFD.out _ (by exact HY.out)).mono ?_
            rintro e w7 ⟨rfl, hb3⟩
            go_wp2_with fail
            go_roundg (gk - 1)
            case measure => omega
            case rel => exact HF.out _ hb3
          · obtain ⟨u, hu⟩ := path_below hnd hkT hlt hk0 hik hr
            have hpe : ((pathS T i).toList == (pathS T k).toList) = false := by
              rw [hps, hps, hu, beq_eq_false_iff_ne]
              intro e
              have := congrArg List.length e
              simp at this
            obtain ⟨hsz, hex, hby⟩ := path_parts (p := pathS T i) (q := pathS T k) (u := u) (by rw [hps, hps, hu])
            have HF := Lib.hid (show ∀ (wx : World), Below w6.heap.size w6 wx → RmvS T (subT T (keepO T k T.length)) k (.slice va T.length vc) (.slice ya (subT T (keepO T k T.length)).length yc) Z V base w (gk - 1) (.int .i64 (keepO T k i).length) (.int .i64 ((i : Int) + 1)) wx from
              fun wx hx => ⟨i + 1, by rw [hst], rfl, by omega, by omega, hTn1.new hx, hYn1.new hx, hZ1.keeps (Keeps.of_fresh hx (fun _ => False)) (fun e => e), hV1.keeps (Keeps.of_fresh hx (fun _ => False)) (fun e => e), hb2.trans (hx.mono hb2.size)⟩)
            have hsz' : ((pathS T k).size : Int) < ((pathS T i).size : Int) := by omega
            clear hst hnd hD hr hTn1 hZ1 hV1 hb2 hps hu
            generalize pathS T i = pI at *
            generalize pathS T k = pK at *
            have HY := Lib.hid hYn1
            clear hYn1
            go_wp2_with fail
            refine (HFD.out _ (by exact HY.out)).mono ?_
            rintro e w7 ⟨rfl, hb3⟩
            go_wp2_with fail
            go_roundg (gk - 1)
            case measure => omega
            case rel => exact HF.out _ hb3
        | false =>
          obtain ⟨hfd, -⟩ := find_kept HC.out hkT hk0 hlt hr
          rw [hfd] at hfind
          have HFD := Lib.hid hfind
          have hst := keepO_yes hr
          obtain ⟨hjY, hnn, hnp⟩ := keep_node HC.out hkT hk0 hlt hr
          have hjY' : ((keepO T k i).length : Int) < (subT T (keepO T k T.length)).length := by omega
          have hpe : ((pathS T i).toList == (pathS T k).toList) = false := by
            rw [hps, hps, beq_eq_false_iff_ne]
            exact path_other hnd hD hkT hlt hr
          have hapart : ∀ u, (pathS T i).toList ≠ (pathS T k).toList ++ 47 :: u := fun u => by
            rw [hps, hps]; exact path_apart hnd hD hkT hlt hk0 hr u
          have halt : (¬ ((pathS T k).size : Int) < ((pathS T i).size : Int)) ∨ (((pathS T k).size : Int) < ((pathS T i).size : Int) ∧ (((pathS T i).extract 0 (pathS T k).size).toList == (pathS T k).toList) = false) ∨
              (((pathS T k).size : Int) < ((pathS T i).size : Int) ∧ ∃ hs : (pathS T k).size < (pathS T i).size, (((pathS T i).extract 0 (pathS T k).size).toList == (pathS T k).toList) = true ∧ (((pathS T i)[(pathS T k).size].toNat : Int) == 47) = false) := by
            by_cases h1 : (pathS T k).size < (pathS T i).size
            · cases h2 : (((pathS T i).extract 0 (pathS T k).size).toList == (pathS T k).toList) with
              | false => exact .inr (.inl ⟨by omega, rfl⟩)
              | true =>
                refine .inr (.inr ⟨by omega, h1, rfl, ?_⟩)
                rw [beq_eq_false_iff_ne]
                intro e
                have hb : (pathS T i)[(pathS T k).size] = 47 := UInt8.toNat_inj.1 (by have : (47 : UInt8).toNat = 47 := rfl; omega)
                obtain ⟨u, hu⟩ := path_join h1 h2 hb
                exact hapart u hu
            · exact .inl (by omega)
          have HF := Lib.hid (show ∀ (wx : World), Below w6.heap.size w6 wx → RmvS T (subT T (keepO T k T.length)) k (.slice va T.length vc) (.slice ya (subT T (keepO T k T.length)).length yc) Z V base w (gk - 1) (.int .i64 (((keepO T k i).length : Int) + 1)) (.int .i64 ((i : Int) + 1)) wx from
            fun wx hx => ⟨i + 1, by rw [hst, List.length_append]; rfl, rfl, by omega, by omega, hTn1.new hx, hYn1.new hx, hZ1.keeps (Keeps.of_fresh hx (fun _ => False)) (fun e => e), hV1.keeps (Keeps.of_fresh hx (fun _ => False)) (fun e => e), hb2.trans (hx.mono hb2.size)⟩)
          have HT1 := Lib.hid hTn1
          have HY := Lib.hid hYn1
          have HZ1 := Lib.hid hZ1
          have HV1 := Lib.hid hV1
          have hnn := Lib.hid hnn
          have hnp := Lib.hid hnp
          clear hst hnd hD hps hr hTn1 hYn1 hZ1 hV1 hb2 hapart hfd hfind
          generalize pathS T i = pI at *
          generalize pathS T k = pK at *
          rcases halt with hs1 | ⟨hs1, hs2⟩ | ⟨hs1, hs2, hs3, hs4⟩
          all_goals
            go_wp2_with fail
            refine (HFD.out _ (by exact HY.out)).mono ?_
            rintro e w7 ⟨rfl, hb3⟩
            have z7 := (HZ1.out.keeps (Keeps.of_fresh hb3 (fun _ => False)) (fun e => e)).cell 0
            have v7 := (HV1.out.keeps (Keeps.of_fresh hb3 (fun _ => False)) (fun e => e)).cell 0
            have zl := (HZ1.out.keeps (Keeps.of_fresh hb3 (fun _ => False)) (fun e => e)).lt
            have vl := (HV1.out.keeps (Keeps.of_fresh hb3 (fun _ => False)) (fun e => e)).lt
            obtain ⟨g, o, pa, pc, hva, hg, q0, q1, q2, hPP, -⟩ := (HT1.out.new hb3).at i hlt
            obtain ⟨g2, o2, pa2, pc2, hya, hg2, r0, r1, r2, hPP2, -⟩ := (HY.out.new hb3).at _ hjY
            rw [hnn.out] at r1
            rw [hnp.out] at r2 hPP2
            have HP1 := Lib.hid hPP
            have HP2 := Lib.hid hPP2
            subst hva
            subst hya
            generalize (subT T (keepO T k T.length))[(keepO T k i).length].parent = par2 at *
            clear hPP hPP2
            generalize T[i].parent = par1 at *
            generalize T[i].name = nm at *
            generalize T[i].props = prs at *
            go_wp2_with fail
            go_region
            all_goals
              go_wp2_with fail
              refine (ref3_SameNode (fun g => base ≤ g) (fun g => base ≤ g) 0 0 nm nm _ _ prs prs _ (HP1.out.new (two_alloc _ _ _)) (HP2.out.new (two_alloc _ _ _))).mono ?_
              rintro e w8 ⟨b, rfl, hb4, hb5⟩
              obtain rfl : b = true := hb4.2 ⟨rfl, rfl, rfl⟩
              have hbx : Below w6.heap.size w6 w8 := (hb3.trans ((two_alloc w7 _ _).mono hb3.size)).trans (hb5.mono (Nat.le_trans hb3.size (two_alloc w7 _ _).size))
              clear hb4 hb5 hb3
              go_wp2_with fail
              go_roundg (gk - 1)
              case measure => omega
              case rel => exact HF.out _ hbx
      · obtain rfl : i = T.length := by omega
        have v0 := hVr.cell 0
        have hlen : (((keepO T k T.length).length : Int) == ((subT T (keepO T k T.length)).length : Int)) = true := by rw [HSL.out]; simp
        have haw := Lib.hid (fun wx => law03_awake wx)
        have hb2 := Lib.hid hb
        clear hTn hYn hZr hVr hb
        go_wp2_with fail
        refine (haw.out _).mono ?_
        rintro e w6 ⟨rfl, hb10⟩
        go_wp2_with fail
        go_ret
        exact ⟨rfl, hb2.out.trans (hb10.mono hb2.out.size)⟩
end Go.Proofs.Ytjfkjnakmmkkiaa
