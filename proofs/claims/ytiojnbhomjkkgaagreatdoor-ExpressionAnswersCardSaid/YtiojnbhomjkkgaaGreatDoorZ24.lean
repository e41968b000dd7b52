/- The tape: decimal, bit, shifted. | The tape: Expression. -/
import Derived.Test.YtiojnbhomjkkgaaGreatDoorZ14
import Derived.Test.YtiojnbhomjkkgaaGreatDoorZ21
import Derived.Test.YtiojnbhomjkkgaaGreatDoorZ15
import Derived.BigQuiet
import Derived.Test.YtiojnbhomjkkgaaGreatDoorZ18

set_option linter.unusedVariables false
set_option linter.unusedSimpArgs false
set_option linter.unusedSectionVars false

namespace Go.Proofs.YtiojnbhomjkkgaaGreatDoor
open Go.RowKit

theorem mk_bit (h : Bool) (w : World) : Calls Tryz.prog 35 #[.bool h] w fun e w' => e = .returned (.int .u32 (bitT h)) ∧ w = w' := by
  cases h
  · go_enter Tryz.func35, Tryz.ntmps35
    go_wp2_with fail
    go_ret
    exact ⟨rfl, rfl⟩
  · go_enter Tryz.func35, Tryz.ntmps35
    go_wp2_with fail
    go_ret
    exact ⟨rfl, rfl⟩
theorem shl_great (x y : Int) (h0 : 0 ≤ x) (h : 31 < y) : appT 6 x y = 0 := by
  show x * 2 ^ min y.toNat 32 % 4294967296 = 0
  rw [Nat.min_eq_right (by omega)]
  omega
theorem shr_great (x y : Int) (h0 : 0 ≤ x) (h1 : x ≤ 4294967295) (h : 31 < y) : appT 7 x y = 0 := by
  show x / 2 ^ min y.toNat 32 = 0
  rw [Nat.min_eq_right (by omega)]
  omega
theorem mk_shifted (x y : Int) (left : Bool) (w : World) (h0 : 0 ≤ x) (h1 : x ≤ 4294967295) (h2 : 0 ≤ y) (h3 : y ≤ 4294967295) :
    Calls Tryz.prog 34 #[.int .u32 x, .int .u32 y, .bool left] w fun e w' => e = .returned (.int .u32 (appT (if left = true then 6 else 7) x y)) ∧ w = w' := by
  by_cases hy : 31 < y
  · have e6 := Lib.hid (shl_great x y h0 hy)
    have e7 := Lib.hid (shr_great x y h0 h1 hy)
    cases left
    · go_enter Tryz.func34, Tryz.ntmps34
      go_wp2_with fail
      go_ret
      exact ⟨by rw [e7.out]; rfl, rfl⟩
    · go_enter Tryz.func34, Tryz.ntmps34
      go_wp2_with fail
      go_ret
      exact ⟨by rw [e6.out]; rfl, rfl⟩
  · have e6 := Lib.hid (show appT 6 x y = x * 2 ^ y.toNat % 4294967296 by show x * 2 ^ min y.toNat 32 % 4294967296 = _; rw [Nat.min_eq_left (by omega)])
    have e7 := Lib.hid (show appT 7 x y = x / 2 ^ y.toNat by show x / 2 ^ min y.toNat 32 = _; rw [Nat.min_eq_left (by omega)])
    cases left
    · go_enter Tryz.func34, Tryz.ntmps34
      go_wp2_with fail
      go_ret
      exact ⟨by rw [e7.out]; rfl, rfl⟩
    · go_enter Tryz.func34, Tryz.ntmps34
      go_wp2_with fail
      go_ret
      exact ⟨by rw [e6.out]; rfl, rfl⟩
theorem dec_dig : ∀ d : Nat, d < 10 → (⟨#[48, 49, 50, 51, 52, 53, 54, 55, 56, 57]⟩ : ByteArray).extract d (d + 1) = ⟨#[digCh false d]⟩ := by
  have : ∀ x : Fin 10, (⟨#[48, 49, 50, 51, 52, 53, 54, 55, 56, 57]⟩ : ByteArray).extract x (x + 1) = ⟨#[digCh false x]⟩ := by decide +kernel
  exact fun d h => this ⟨d, h⟩
set_option maxRecDepth 100000 in
set_option maxHeartbeats 1000000 in
theorem mk_decimal : ∀ (m n : Nat), n ≤ m → n ≤ 4294967295 → ∀ (w : World),
    Calls Tryz.prog 33 #[.int .i64 n] w fun e w' => e = .returned (.string ⟨(basedT 10 false n).toArray⟩) ∧ ∃ k, w' = w.drewN k := by
  intro m
  induction m with
  | zero =>
    intro n hn hb w
    obtain rfl : n = 0 := by omega
    go_enter Tryz.func33, Tryz.ntmps33
    go_wp2_with fail
    go_ret
    exact ⟨rfl, 0, rfl⟩
  | succ m ih =>
    intro n hn hb w
    by_cases h10 : n < 10
    · have hI : (n : Int) < 10 := by omega
      have h0 : (0 : Int) ≤ (n : Int) := by omega
      have hS := Lib.hid (basedT_small 10 false n h10)
      have hd := Lib.hid (dec_dig n h10)
      clear ih
      go_enter Tryz.func33, Tryz.ntmps33
      go_wp2_with fail
      go_ret
      exact ⟨by rw [hS.out, ← hd.out]; rfl, 0, rfl⟩
    · have hI : ¬ (n : Int) < 10 := by omega
      have h0 : (0 : Int) ≤ (n : Int) := by omega
      have hG := basedT_great 10 false (by omega) n (by omega)
      have hr := ih (n / 10) (by omega) (by omega)
      have hL := basedT_len10 (n / 10) (by omega)
      have hdg := dec_dig (n % 10) (by omega)
      obtain ⟨q, hq⟩ : ∃ q, q = n / 10 := ⟨_, rfl⟩
      obtain ⟨d, hd⟩ : ∃ d, d = n % 10 := ⟨_, rfl⟩
      rw [← hq, ← hd] at hG
      rw [← hq] at hr hL
      rw [← hd] at hdg
      have hqI : (n : Int) / 10 = (q : Int) := by omega
      have hqw : IntKind.i64.wrap (q : Int) = (q : Int) := IntWalk.i64_in _ (by omega)
      have hdI : (n : Int) % 10 = (d : Int) := by omega
      have hd0 : (0 : Int) ≤ (d : Int) := by omega
      have hd9 : (d : Int) < 10 := by omega
      have had := adds_of (basedT 10 false q) [digCh false d] (by simp; omega)
      rw [← hG] at had
      unfold Adds at had
      have HG := Lib.hid hG
      clear ih hG hq hd h10 hn
      generalize basedT 10 false q = A at *
      generalize basedT 10 false n = B at *
      go_enter Tryz.func33, Tryz.ntmps33
      go_wp2_with fail
      go_quiet ((go_at_call 33; exact (hr _).mono fun _ _ ⟨p, k, q⟩ => ⟨p, _, q.trans (World.drewN_drewN ..)⟩))
      go_wp2_with fail
      go_ret
      exact ⟨rfl, _, rfl⟩
end Go.Proofs.YtiojnbhomjkkgaaGreatDoor

namespace Go.Proofs.YtiojnbhomjkkgaaGreatDoor
open Go.RowKit

theorem lx_sp (s : List UInt8) (hs : s ∈ signsX) (r : List UInt8) : Lx (32 :: (s ++ [32])) [(4, s, 0)] r :=
  Lx.append (x := [32]) (T := []) (Lx.sp _) (Lx.append (U := []) (Lx.sign r s hs) (Lx.sp r))
/-- What Expression leaves. -/
def ExPost (B b k : Nat) (w : World) (e : Ending) (w' : World) : Prop :=
  ∃ (a : List UInt8) (x : Int), e = .returned (.tuple #[.string ⟨a.toArray⟩, .int .u32 x]) ∧ XG k a x ∧ Tape B w' b ∧ Keeps (· = b) w w'
set_option maxRecDepth 100000 in
set_option maxHeartbeats 4000000 in
theorem mk_Expression_zero (B b : Nat) (w : World) (h : Tape B w b) : Calls Tryz.prog 9 #[.pointer (some ⟨b, 0, none⟩), .int .i64 0] w (ExPost B b 0 w) := by
  go_enter Tryz.func9, Tryz.ntmps9
  go_wp2_with fail
  refine (mk_Number B b w h).mono ?_
  rintro e w1 ⟨r, rfl, h0, h1, hT, hK⟩
  obtain ⟨n, rfl⟩ := Int.eq_ofNat_of_zero_le h0
  have hX := Lib.hid (XG.num 0 n (by omega))
  have hd := mk_decimal n n (Nat.le_refl _) (by omega) w1
  go_wp2_with fail
  refine hd.mono ?_
  rintro e w2 ⟨rfl, k, rfl⟩
  go_wp2_with fail
  go_ret2
  exact ⟨_, _, rfl, hX.out, hT.keeps (keeps_draws _ _) (fun _ e => e.elim), hK.trans (keeps_draws _ _) (fun _ _ e => e.elim)⟩
set_option maxRecDepth 100000 in
set_option maxHeartbeats 4000000 in
theorem mk_Expression_succ (B b k : Nat) (hk : k ≤ 4) (ih : ∀ w, Tape B w b → Calls Tryz.prog 9 #[.pointer (some ⟨b, 0, none⟩), .int .i64 k] w (ExPost B b k w)) (w : World) (h : Tape B w b) :
    Calls Tryz.prog 9 #[.pointer (some ⟨b, 0, none⟩), .int .i64 ((k : Int) + 1)] w (ExPost B b (k + 1) w) := by
  unfold ExPost at ih
  have hkb : ((k : Int) + 1 == 0) = false := by rw [beq_eq_false_iff_ne]; omega
  have hkw : IntKind.i64.wrap ((k : Int) + 1 - 1) = (k : Int) := by rw [IntWalk.i64_in _ (by omega)]; omega
  go_enter Tryz.func9, Tryz.ntmps9
  go_wp2_with fail
  refine (mk_N B b 5 w h (by omega) (by omega)).mono ?_
  rintro e w1 ⟨r, rfl, r0, r1, hT1, hK1⟩
  by_cases hr : r = 0
  · subst hr
    go_wp2_with fail
    refine (mk_Number B b w1 hT1).mono ?_
    rintro e w2 ⟨r, rfl, h0, h1, hT, hK⟩
    obtain ⟨n, rfl⟩ := Int.eq_ofNat_of_zero_le h0
    have hX := Lib.hid (XG.num (k + 1) n (by omega))
    have hd := mk_decimal n n (Nat.le_refl _) (by omega) w2
    go_wp2_with fail
    refine hd.mono ?_
    rintro e w3 ⟨rfl, m, rfl⟩
    go_wp2_with fail
    go_ret2
    exact ⟨_, _, rfl, hX.out, hT.keeps (keeps_draws _ _) (fun _ e => e.elim), (hK1.trans hK (fun _ _ e => e)).trans (keeps_draws _ _) (fun _ _ e => e.elim)⟩
  · have hrb : (r == 0) = false := by simpa using hr
    clear hr
    go_wp2_with fail
    refine (ih w1 hT1).mono ?_
    rintro e w2 ⟨a, x, rfl, hA, hT2, hK2⟩
    go_wp2_with fail
    refine (ih w2 hT2).mono ?_
    rintro e w3 ⟨c, y, rfl, hC, hT3, hK3⟩
    have hKK := Lib.hid ((hK1.trans hK2 (fun _ _ e => e)).trans hK3 (fun _ _ e => e))
    have hal := hA.len
    have hcl := hC.len
    have hxl : xlen k ≤ 100000 := by
      have : k = 0 ∨ k = 1 ∨ k = 2 ∨ k = 3 ∨ k = 4 := by omega
      rcases this with rfl | rfl | rfl | rfl | rfl <;> decide
    obtain ⟨P, hP⟩ : ∃ z, z = [40] ++ a ++ [41] := ⟨_, rfl⟩
    obtain ⟨Q, hQ⟩ : ∃ z, z = [40] ++ c ++ [41] := ⟨_, rfl⟩
    have d1 := adds_of [40] a (by simp; omega)
    have d2 := adds_of ([40] ++ a) [41] (by simp; omega)
    have d3 := adds_of [40] c (by simp; omega)
    have d4 := adds_of ([40] ++ c) [41] (by simp; omega)
    unfold Adds at d1 d2 d3 d4
    rw [← hP] at d2
    rw [← hQ] at d4
    have HA := Lib.hid hA
    have HC := Lib.hid hC
    have HP := Lib.hid (show P = 40 :: (a ++ [41]) by rw [hP]; rfl)
    have HQ := Lib.hid (show Q = 40 :: (c ++ [41]) by rw [hQ]; rfl)
    have HL := Lib.hid (show P.length ≤ 100010 ∧ Q.length ≤ 100010 by rw [hP, hQ]; simp; omega)
    have hx0 := hA.lo
    have hx1 := hA.hi
    have hy0 := hC.lo
    have hy1 := hC.hi
    clear hal hcl hxl hA hC hK1 hK2 hK3 ih hkb hkw hP hQ
    generalize ([40] ++ a : List UInt8) = a1 at *
    generalize ([40] ++ c : List UInt8) = c1 at *
    go_wp2_with fail
    clear d1 d2 d3 d4
    refine (mk_N B b 20 w3 hT3 (by omega) (by omega)).mono ?_
    rintro e w4 ⟨r2, rfl, q0, q1, hT4, hK4⟩
    have HT := Lib.hid hT4
    have HK := Lib.hid (hKK.out.trans hK4 (fun _ _ e => e))
    clear hT4 hK4 hKK hT1 hT2 hT3 h
    have hcs : r2 = 0 ∨ r2 = 1 ∨ r2 = 2 ∨ r2 = 3 ∨ r2 = 4 ∨ r2 = 5 ∨ r2 = 6 ∨ r2 = 7 ∨ r2 = 8 ∨ r2 = 9 ∨ r2 = 10 ∨ r2 = 11 ∨ r2 = 12 ∨ r2 = 13 ∨ r2 = 14 ∨ r2 = 15 ∨ r2 = 16 ∨ r2 = 17 ∨ r2 = 18 ∨ r2 = 19 := by omega
    clear q0 q1
    rcases hcs with rfl | rfl | rfl | rfl | rfl | rfl | rfl | rfl | rfl | rfl | rfl | rfl | rfl | rfl | rfl | rfl | rfl | rfl | rfl | rfl
    · obtain ⟨R, hR⟩ : ∃ z, z = [45] ++ P := ⟨_, rfl⟩
      have d1 := adds_of [45] P (by have := HL.out; simp; omega)
      unfold Adds at d1
      rw [← hR] at d1
      have HX := Lib.hid (XO.un (c := 45) (by decide) HA.out)
      have hRX : R = 45 :: (40 :: (a ++ [41])) := by rw [hR, HP.out]; rfl
      rw [← hRX] at HX
      clear hR hRX
      go_wp2_with fail
      go_ret2
      exact ⟨R, _, rfl, HX.out, HT.out, HK.out⟩
    · obtain ⟨R, hR⟩ : ∃ z, z = [126] ++ P := ⟨_, rfl⟩
      have d1 := adds_of [126] P (by have := HL.out; simp; omega)
      unfold Adds at d1
      rw [← hR] at d1
      have HX := Lib.hid (XO.un (c := 126) (by decide) HA.out)
      have hRX : R = 126 :: (40 :: (a ++ [41])) := by rw [hR, HP.out]; rfl
      rw [← hRX] at HX
      clear hR hRX
      have hv : unT ⟨#[126]⟩ x = bits .xor .u32 IntKind.u32.max x := by rw [xor_all x hx0 hx1]; unfold unT; rw [if_neg (by decide), if_pos rfl]
      rw [hv] at HX
      clear hv
      go_wp2_with fail
      go_ret2
      exact ⟨R, _, rfl, HX.out, HT.out, HK.out⟩
    · obtain ⟨R, hR⟩ : ∃ z, z = [33] ++ P := ⟨_, rfl⟩
      have d1 := adds_of [33] P (by have := HL.out; simp; omega)
      unfold Adds at d1
      rw [← hR] at d1
      have HX := Lib.hid (XO.un (c := 33) (by decide) HA.out)
      have hRX : R = 33 :: (40 :: (a ++ [41])) := by rw [hR, HP.out]; rfl
      rw [← hRX] at HX
      clear hR hRX
      by_cases hx : x = 0
      · subst hx
        go_wp2_with fail
        go_ret2
        exact ⟨R, _, rfl, HX.out, HT.out, HK.out⟩
      · have hxb : (x == 0) = false := by simpa using hx
        have hu : unT ⟨#[33]⟩ x = 0 := by show bitT (x == 0) = 0; rw [hxb]; rfl
        rw [hu] at HX
        clear hx hu
        go_wp2_with fail
        go_ret2
        exact ⟨R, _, rfl, HX.out, HT.out, HK.out⟩
    · obtain ⟨R, hR⟩ : ∃ z, z = P ++ [32, 43, 32] ++ Q := ⟨_, rfl⟩
      have d1 := adds_of P [32, 43, 32] (by have := HL.out; simp; omega)
      have d2 := adds_of (P ++ [32, 43, 32]) Q (by have := HL.out; simp; omega)
      unfold Adds at d1 d2
      rw [← hR] at d2
      have hbd := app_bounds 4 x y hx0 hx1 hy0 hy1
      have HX := Lib.hid (XG.bin (m := [32, 43, 32]) (s := [43]) HA.out HC.out (row := 1) (f := 4) (by simp [rowsK]) (fun r => lx_sp [43] (by decide) _) (by decide) (by unfold divB; simp) hbd.1 hbd.2)
      have hRX : R = 40 :: (a ++ [41]) ++ ([32, 43, 32] ++ (40 :: (c ++ [41]))) := by rw [hR, HP.out, HQ.out]; simp
      rw [← hRX] at HX
      clear hR hRX hbd
      generalize (P ++ [32, 43, 32] : List UInt8) = P2 at *
      go_wp2_with fail
      go_ret2
      exact ⟨R, _, rfl, HX.out, HT.out, HK.out⟩
    · obtain ⟨R, hR⟩ : ∃ z, z = P ++ [45] ++ Q := ⟨_, rfl⟩
      have d1 := adds_of P [45] (by have := HL.out; simp; omega)
      have d2 := adds_of (P ++ [45]) Q (by have := HL.out; simp; omega)
      unfold Adds at d1 d2
      rw [← hR] at d2
      have hbd := app_bounds 5 x y hx0 hx1 hy0 hy1
      have HX := Lib.hid (XG.bin (m := [45]) (s := [45]) HA.out HC.out (row := 1) (f := 5) (by simp [rowsK]) (fun r => Lx.minus _) (by decide) (by unfold divB; simp) hbd.1 hbd.2)
      have hRX : R = 40 :: (a ++ [41]) ++ ([45] ++ (40 :: (c ++ [41]))) := by rw [hR, HP.out, HQ.out]; simp
      rw [← hRX] at HX
      clear hR hRX hbd
      generalize (P ++ [45] : List UInt8) = P2 at *
      go_wp2_with fail
      go_ret2
      exact ⟨R, _, rfl, HX.out, HT.out, HK.out⟩
    · obtain ⟨R, hR⟩ : ∃ z, z = P ++ [32, 42, 32] ++ Q := ⟨_, rfl⟩
      have d1 := adds_of P [32, 42, 32] (by have := HL.out; simp; omega)
      have d2 := adds_of (P ++ [32, 42, 32]) Q (by have := HL.out; simp; omega)
      unfold Adds at d1 d2
      rw [← hR] at d2
      have hbd := app_bounds 1 x y hx0 hx1 hy0 hy1
      have HX := Lib.hid (XG.bin (m := [32, 42, 32]) (s := [42]) HA.out HC.out (row := 0) (f := 1) (by simp [rowsK]) (fun r => lx_sp [42] (by decide) _) (by decide) (by unfold divB; simp) hbd.1 hbd.2)
      have hRX : R = 40 :: (a ++ [41]) ++ ([32, 42, 32] ++ (40 :: (c ++ [41]))) := by rw [hR, HP.out, HQ.out]; simp
      rw [← hRX] at HX
      clear hR hRX hbd
      generalize (P ++ [32, 42, 32] : List UInt8) = P2 at *
      go_wp2_with fail
      go_ret2
      exact ⟨R, _, rfl, HX.out, HT.out, HK.out⟩
    · by_cases hy : y = 0
      · subst hy
        obtain ⟨R, hR⟩ : ∃ z, z = P ++ [47, 32, 49] := ⟨_, rfl⟩
        have d1 := adds_of P [47, 32, 49] (by have := HL.out; simp; omega)
        unfold Adds at d1
        rw [← hR] at d1
        have HX := Lib.hid (XG.binN (n := 1) (m := [47]) (s := [47]) HA.out (row := 0) (f := 2) (by simp [rowsK]) (fun r => Lx.sign r [47] (by decide)) (by decide) (by decide) (by decide) (show 0 ≤ appT 2 x (1 : Nat) by show 0 ≤ x / 1; omega) (show appT 2 x (1 : Nat) ≤ 4294967295 by show x / 1 ≤ _; omega))
        have hRX : R = 40 :: (a ++ [41]) ++ ([47] ++ (32 :: basedT 10 false 1)) := by rw [hR, HP.out]; simp; rfl
        rw [← hRX] at HX
        have hv : appT 2 x (1 : Nat) = x := by show x / 1 = x; omega
        rw [hv] at HX
        clear hR hRX hv
        go_wp2_with fail
        go_ret2
        exact ⟨R, _, rfl, HX.out, HT.out, HK.out⟩
      · have hyb : (y == 0) = false := by simpa using hy
        have hdv : divB 2 y = false := by unfold divB; rw [hyb]; rfl
        have hy1' : 1 ≤ y := by omega
        obtain ⟨R, hR⟩ : ∃ z, z = P ++ [32, 47, 32] ++ Q := ⟨_, rfl⟩
        have d1 := adds_of P [32, 47, 32] (by have := HL.out; simp; omega)
        have d2 := adds_of (P ++ [32, 47, 32]) Q (by have := HL.out; simp; omega)
        unfold Adds at d1 d2
        rw [← hR] at d2
        have hbd := app_bounds 2 x y hx0 hx1 hy0 hy1
        have HX := Lib.hid (XG.bin (m := [32, 47, 32]) (s := [47]) HA.out HC.out (row := 0) (f := 2) (by simp [rowsK]) (fun r => lx_sp [47] (by decide) _) (by decide) hdv hbd.1 hbd.2)
        have hRX : R = 40 :: (a ++ [41]) ++ ([32, 47, 32] ++ (40 :: (c ++ [41]))) := by rw [hR, HP.out, HQ.out]; simp
        rw [← hRX] at HX
        clear hR hRX hbd
        generalize (P ++ [32, 47, 32] : List UInt8) = P2 at *
        clear hdv
        go_wp2_with fail
        go_quiet (fail)
        go_wp2_with fail
        go_ret2
        exact ⟨R, _, rfl, HX.out, (HT.out.keeps (keeps_draws _ _) (fun _ e => e.elim)), HK.out.trans (keeps_draws _ _) (fun _ _ e => e.elim)⟩
    · by_cases hy : y = 0
      · subst hy
        obtain ⟨R, hR⟩ : ∃ z, z = P ++ [32, 37, 32, 55] := ⟨_, rfl⟩
        have d1 := adds_of P [32, 37, 32, 55] (by have := HL.out; simp; omega)
        unfold Adds at d1
        rw [← hR] at d1
        have HX := Lib.hid (XG.binN (n := 7) (m := [32, 37]) (s := [37]) HA.out (row := 0) (f := 3) (by simp [rowsK]) (fun r => Lx.append (x := [32]) (T := []) (Lx.sp _) (Lx.sign r [37] (by decide))) (by decide) (by decide) (by decide) (show 0 ≤ appT 3 x (7 : Nat) by show 0 ≤ x % 7; omega) (show appT 3 x (7 : Nat) ≤ 4294967295 by show x % 7 ≤ _; omega))
        have hRX : R = 40 :: (a ++ [41]) ++ ([32, 37] ++ (32 :: basedT 10 false 7)) := by rw [hR, HP.out]; simp; rfl
        rw [← hRX] at HX
        have hv : appT 3 x (7 : Nat) = x % 7 := by rfl
        rw [hv] at HX
        clear hR hRX hv
        go_wp2_with fail
        go_ret2
        exact ⟨R, _, rfl, HX.out, HT.out, HK.out⟩
      · have hyb : (y == 0) = false := by simpa using hy
        have hdv : divB 3 y = false := by unfold divB; rw [hyb]; rfl
        have hy1' : 1 ≤ y := by omega
        obtain ⟨R, hR⟩ : ∃ z, z = P ++ [32, 37, 32] ++ Q := ⟨_, rfl⟩
        have d1 := adds_of P [32, 37, 32] (by have := HL.out; simp; omega)
        have d2 := adds_of (P ++ [32, 37, 32]) Q (by have := HL.out; simp; omega)
        unfold Adds at d1 d2
        rw [← hR] at d2
        have hbd := app_bounds 3 x y hx0 hx1 hy0 hy1
        have HX := Lib.hid (XG.bin (m := [32, 37, 32]) (s := [37]) HA.out HC.out (row := 0) (f := 3) (by simp [rowsK]) (fun r => lx_sp [37] (by decide) _) (by decide) hdv hbd.1 hbd.2)
        have hRX : R = 40 :: (a ++ [41]) ++ ([32, 37, 32] ++ (40 :: (c ++ [41]))) := by rw [hR, HP.out, HQ.out]; simp
        rw [← hRX] at HX
        clear hR hRX hbd
        generalize (P ++ [32, 37, 32] : List UInt8) = P2 at *
        clear hdv
        go_wp2_with fail
        go_quiet (fail)
        go_wp2_with fail
        go_ret2
        exact ⟨R, _, rfl, HX.out, (HT.out.keeps (keeps_draws _ _) (fun _ e => e.elim)), HK.out.trans (keeps_draws _ _) (fun _ _ e => e.elim)⟩
    · obtain ⟨R, hR⟩ : ∃ z, z = P ++ [32, 60, 60, 32] ++ Q := ⟨_, rfl⟩
      have d1 := adds_of P [32, 60, 60, 32] (by have := HL.out; simp; omega)
      have d2 := adds_of (P ++ [32, 60, 60, 32]) Q (by have := HL.out; simp; omega)
      unfold Adds at d1 d2
      rw [← hR] at d2
      have hbd := app_bounds 6 x y hx0 hx1 hy0 hy1
      have HX := Lib.hid (XG.bin (m := [32, 60, 60, 32]) (s := [60, 60]) HA.out HC.out (row := 2) (f := 6) (by simp [rowsK]) (fun r => lx_sp [60, 60] (by decide) _) (by decide) (by unfold divB; simp) hbd.1 hbd.2)
      have hRX : R = 40 :: (a ++ [41]) ++ ([32, 60, 60, 32] ++ (40 :: (c ++ [41]))) := by rw [hR, HP.out, HQ.out]; simp
      rw [← hRX] at HX
      clear hR hRX hbd
      generalize (P ++ [32, 60, 60, 32] : List UInt8) = P2 at *
      go_wp2_with fail
      refine (mk_shifted x y true w4 hx0 hx1 hy0 hy1).mono ?_
      rintro e w5 ⟨rfl, rfl⟩
      go_wp2_with fail
      go_ret2
      exact ⟨R, _, rfl, HX.out, HT.out, HK.out⟩
    · obtain ⟨R, hR⟩ : ∃ z, z = P ++ [32, 62, 62, 32] ++ Q := ⟨_, rfl⟩
      have d1 := adds_of P [32, 62, 62, 32] (by have := HL.out; simp; omega)
      have d2 := adds_of (P ++ [32, 62, 62, 32]) Q (by have := HL.out; simp; omega)
      unfold Adds at d1 d2
      rw [← hR] at d2
      have hbd := app_bounds 7 x y hx0 hx1 hy0 hy1
      have HX := Lib.hid (XG.bin (m := [32, 62, 62, 32]) (s := [62, 62]) HA.out HC.out (row := 2) (f := 7) (by simp [rowsK]) (fun r => lx_sp [62, 62] (by decide) _) (by decide) (by unfold divB; simp) hbd.1 hbd.2)
      have hRX : R = 40 :: (a ++ [41]) ++ ([32, 62, 62, 32] ++ (40 :: (c ++ [41]))) := by rw [hR, HP.out, HQ.out]; simp
      rw [← hRX] at HX
      clear hR hRX hbd
      generalize (P ++ [32, 62, 62, 32] : List UInt8) = P2 at *
      go_wp2_with fail
      refine (mk_shifted x y false w4 hx0 hx1 hy0 hy1).mono ?_
      rintro e w5 ⟨rfl, rfl⟩
      go_wp2_with fail
      go_ret2
      exact ⟨R, _, rfl, HX.out, HT.out, HK.out⟩
    · obtain ⟨R, hR⟩ : ∃ z, z = P ++ [32, 38, 32] ++ Q := ⟨_, rfl⟩
      have d1 := adds_of P [32, 38, 32] (by have := HL.out; simp; omega)
      have d2 := adds_of (P ++ [32, 38, 32]) Q (by have := HL.out; simp; omega)
      unfold Adds at d1 d2
      rw [← hR] at d2
      have hbd := app_bounds 14 x y hx0 hx1 hy0 hy1
      have HX := Lib.hid (XG.bin (m := [32, 38, 32]) (s := [38]) HA.out HC.out (row := 5) (f := 14) (by simp [rowsK]) (fun r => lx_sp [38] (by decide) _) (by decide) (by unfold divB; simp) hbd.1 hbd.2)
      have hRX : R = 40 :: (a ++ [41]) ++ ([32, 38, 32] ++ (40 :: (c ++ [41]))) := by rw [hR, HP.out, HQ.out]; simp
      rw [← hRX] at HX
      clear hR hRX hbd
      generalize (P ++ [32, 38, 32] : List UInt8) = P2 at *
      go_wp2_with fail
      go_ret2
      exact ⟨R, _, rfl, HX.out, HT.out, HK.out⟩
    · obtain ⟨R, hR⟩ : ∃ z, z = P ++ [32, 124, 32] ++ Q := ⟨_, rfl⟩
      have d1 := adds_of P [32, 124, 32] (by have := HL.out; simp; omega)
      have d2 := adds_of (P ++ [32, 124, 32]) Q (by have := HL.out; simp; omega)
      unfold Adds at d1 d2
      rw [← hR] at d2
      have hbd := app_bounds 16 x y hx0 hx1 hy0 hy1
      have HX := Lib.hid (XG.bin (m := [32, 124, 32]) (s := [124]) HA.out HC.out (row := 7) (f := 16) (by simp [rowsK]) (fun r => lx_sp [124] (by decide) _) (by decide) (by unfold divB; simp) hbd.1 hbd.2)
      have hRX : R = 40 :: (a ++ [41]) ++ ([32, 124, 32] ++ (40 :: (c ++ [41]))) := by rw [hR, HP.out, HQ.out]; simp
      rw [← hRX] at HX
      clear hR hRX hbd
      generalize (P ++ [32, 124, 32] : List UInt8) = P2 at *
      go_wp2_with fail
      go_ret2
      exact ⟨R, _, rfl, HX.out, HT.out, HK.out⟩
    · obtain ⟨R, hR⟩ : ∃ z, z = P ++ [32, 94, 32] ++ Q := ⟨_, rfl⟩
      have d1 := adds_of P [32, 94, 32] (by have := HL.out; simp; omega)
      have d2 := adds_of (P ++ [32, 94, 32]) Q (by have := HL.out; simp; omega)
      unfold Adds at d1 d2
      rw [← hR] at d2
      have hbd := app_bounds 15 x y hx0 hx1 hy0 hy1
      have HX := Lib.hid (XG.bin (m := [32, 94, 32]) (s := [94]) HA.out HC.out (row := 6) (f := 15) (by simp [rowsK]) (fun r => lx_sp [94] (by decide) _) (by decide) (by unfold divB; simp) hbd.1 hbd.2)
      have hRX : R = 40 :: (a ++ [41]) ++ ([32, 94, 32] ++ (40 :: (c ++ [41]))) := by rw [hR, HP.out, HQ.out]; simp
      rw [← hRX] at HX
      clear hR hRX hbd
      generalize (P ++ [32, 94, 32] : List UInt8) = P2 at *
      go_wp2_with fail
      go_ret2
      exact ⟨R, _, rfl, HX.out, HT.out, HK.out⟩
    · obtain ⟨R, hR⟩ : ∃ z, z = P ++ [32, 61, 61, 32] ++ Q := ⟨_, rfl⟩
      have d1 := adds_of P [32, 61, 61, 32] (by have := HL.out; simp; omega)
      have d2 := adds_of (P ++ [32, 61, 61, 32]) Q (by have := HL.out; simp; omega)
      unfold Adds at d1 d2
      rw [← hR] at d2
      have hbd := app_bounds 12 x y hx0 hx1 hy0 hy1
      have HX := Lib.hid (XG.bin (m := [32, 61, 61, 32]) (s := [61, 61]) HA.out HC.out (row := 4) (f := 12) (by simp [rowsK]) (fun r => lx_sp [61, 61] (by decide) _) (by decide) (by unfold divB; simp) hbd.1 hbd.2)
      have hRX : R = 40 :: (a ++ [41]) ++ ([32, 61, 61, 32] ++ (40 :: (c ++ [41]))) := by rw [hR, HP.out, HQ.out]; simp
      rw [← hRX] at HX
      clear hR hRX hbd
      generalize (P ++ [32, 61, 61, 32] : List UInt8) = P2 at *
      go_wp2_with fail
      refine (mk_bit _ w4).mono ?_
      rintro e w5 ⟨rfl, rfl⟩
      go_wp2_with fail
      go_ret2
      exact ⟨R, _, rfl, HX.out, HT.out, HK.out⟩
    · obtain ⟨R, hR⟩ : ∃ z, z = P ++ [32, 33, 61, 32] ++ Q := ⟨_, rfl⟩
      have d1 := adds_of P [32, 33, 61, 32] (by have := HL.out; simp; omega)
      have d2 := adds_of (P ++ [32, 33, 61, 32]) Q (by have := HL.out; simp; omega)
      unfold Adds at d1 d2
      rw [← hR] at d2
      have hbd := app_bounds 13 x y hx0 hx1 hy0 hy1
      have HX := Lib.hid (XG.bin (m := [32, 33, 61, 32]) (s := [33, 61]) HA.out HC.out (row := 4) (f := 13) (by simp [rowsK]) (fun r => lx_sp [33, 61] (by decide) _) (by decide) (by unfold divB; simp) hbd.1 hbd.2)
      have hRX : R = 40 :: (a ++ [41]) ++ ([32, 33, 61, 32] ++ (40 :: (c ++ [41]))) := by rw [hR, HP.out, HQ.out]; simp
      rw [← hRX] at HX
      clear hR hRX hbd
      generalize (P ++ [32, 33, 61, 32] : List UInt8) = P2 at *
      go_wp2_with fail
      refine (mk_bit _ w4).mono ?_
      rintro e w5 ⟨rfl, rfl⟩
      go_wp2_with fail
      go_ret2
      exact ⟨R, _, rfl, HX.out, HT.out, HK.out⟩
    · obtain ⟨R, hR⟩ : ∃ z, z = P ++ [32, 60, 32] ++ Q := ⟨_, rfl⟩
      have d1 := adds_of P [32, 60, 32] (by have := HL.out; simp; omega)
      have d2 := adds_of (P ++ [32, 60, 32]) Q (by have := HL.out; simp; omega)
      unfold Adds at d1 d2
      rw [← hR] at d2
      have hbd := app_bounds 8 x y hx0 hx1 hy0 hy1
      have HX := Lib.hid (XG.bin (m := [32, 60, 32]) (s := [60]) HA.out HC.out (row := 3) (f := 8) (by simp [rowsK]) (fun r => lx_sp [60] (by decide) _) (by decide) (by unfold divB; simp) hbd.1 hbd.2)
      have hRX : R = 40 :: (a ++ [41]) ++ ([32, 60, 32] ++ (40 :: (c ++ [41]))) := by rw [hR, HP.out, HQ.out]; simp
      rw [← hRX] at HX
      clear hR hRX hbd
      generalize (P ++ [32, 60, 32] : List UInt8) = P2 at *
      go_wp2_with fail
      refine (mk_bit _ w4).mono ?_
      rintro e w5 ⟨rfl, rfl⟩
      go_wp2_with fail
      go_ret2
      exact ⟨R, _, rfl, HX.out, HT.out, HK.out⟩
    · obtain ⟨R, hR⟩ : ∃ z, z = P ++ [32, 62, 61, 32] ++ Q := ⟨_, rfl⟩
      have d1 := adds_of P [32, 62, 61, 32] (by have := HL.out; simp; omega)
      have d2 := adds_of (P ++ [32, 62, 61, 32]) Q (by have := HL.out; simp; omega)
      unfold Adds at d1 d2
      rw [← hR] at d2
      have hbd := app_bounds 11 x y hx0 hx1 hy0 hy1
      have HX := Lib.hid (XG.bin (m := [32, 62, 61, 32]) (s := [62, 61]) HA.out HC.out (row := 3) (f := 11) (by simp [rowsK]) (fun r => lx_sp [62, 61] (by decide) _) (by decide) (by unfold divB; simp) hbd.1 hbd.2)
      have hRX : R = 40 :: (a ++ [41]) ++ ([32, 62, 61, 32] ++ (40 :: (c ++ [41]))) := by rw [hR, HP.out, HQ.out]; simp
      rw [← hRX] at HX
      clear hR hRX hbd
      generalize (P ++ [32, 62, 61, 32] : List UInt8) = P2 at *
      go_wp2_with fail
      refine (mk_bit _ w4).mono ?_
      rintro e w5 ⟨rfl, rfl⟩
      go_wp2_with fail
      go_ret2
      exact ⟨R, _, rfl, HX.out, HT.out, HK.out⟩
    · obtain ⟨R, hR⟩ : ∃ z, z = P ++ [32, 38, 38, 32] ++ Q := ⟨_, rfl⟩
      have d1 := adds_of P [32, 38, 38, 32] (by have := HL.out; simp; omega)
      have d2 := adds_of (P ++ [32, 38, 38, 32]) Q (by have := HL.out; simp; omega)
      unfold Adds at d1 d2
      rw [← hR] at d2
      have hbd := app_bounds 17 x y hx0 hx1 hy0 hy1
      have HX := Lib.hid (XG.bin (m := [32, 38, 38, 32]) (s := [38, 38]) HA.out HC.out (row := 8) (f := 17) (by simp [rowsK]) (fun r => lx_sp [38, 38] (by decide) _) (by decide) (by unfold divB; simp) hbd.1 hbd.2)
      have hRX : R = 40 :: (a ++ [41]) ++ ([32, 38, 38, 32] ++ (40 :: (c ++ [41]))) := by rw [hR, HP.out, HQ.out]; simp
      rw [← hRX] at HX
      clear hR hRX hbd
      generalize (P ++ [32, 38, 38, 32] : List UInt8) = P2 at *
      by_cases hx : x = 0
      · subst hx
        by_cases hy : y = 0
        · subst hy
          have hv : appT 17 0 0 = bitT false := by show bitT ((0 : Int) != 0 && (0 : Int) != 0) = _; rfl
          rw [hv] at HX
          clear hv
          go_wp2_with fail
          refine (mk_bit _ w4).mono ?_
          rintro e w5 ⟨rfl, rfl⟩
          go_wp2_with fail
          go_ret2
          exact ⟨R, _, rfl, HX.out, HT.out, HK.out⟩
        · have hyb : (y != 0) = true := by simpa using hy
          clear hy
          have hv : appT 17 0 y = bitT false := by show bitT ((0 : Int) != 0 && y != 0) = _; rw [hyb]; rfl
          rw [hv] at HX
          clear hv
          go_wp2_with fail
          refine (mk_bit _ w4).mono ?_
          rintro e w5 ⟨rfl, rfl⟩
          go_wp2_with fail
          go_ret2
          exact ⟨R, _, rfl, HX.out, HT.out, HK.out⟩
      · have hxb : (x != 0) = true := by simpa using hx
        clear hx
        by_cases hy : y = 0
        · subst hy
          have hv : appT 17 x 0 = bitT false := by show bitT (x != 0 && (0 : Int) != 0) = _; rw [hxb]; rfl
          rw [hv] at HX
          clear hv
          go_wp2_with fail
          refine (mk_bit _ w4).mono ?_
          rintro e w5 ⟨rfl, rfl⟩
          go_wp2_with fail
          go_ret2
          exact ⟨R, _, rfl, HX.out, HT.out, HK.out⟩
        · have hyb : (y != 0) = true := by simpa using hy
          clear hy
          have hv : appT 17 x y = bitT true := by show bitT (x != 0 && y != 0) = _; rw [hxb]; rw [hyb]; rfl
          rw [hv] at HX
          clear hv
          go_wp2_with fail
          refine (mk_bit _ w4).mono ?_
          rintro e w5 ⟨rfl, rfl⟩
          go_wp2_with fail
          go_ret2
          exact ⟨R, _, rfl, HX.out, HT.out, HK.out⟩
    · obtain ⟨R, hR⟩ : ∃ z, z = P ++ [32, 124, 124, 32] ++ Q := ⟨_, rfl⟩
      have d1 := adds_of P [32, 124, 124, 32] (by have := HL.out; simp; omega)
      have d2 := adds_of (P ++ [32, 124, 124, 32]) Q (by have := HL.out; simp; omega)
      unfold Adds at d1 d2
      rw [← hR] at d2
      have hbd := app_bounds 18 x y hx0 hx1 hy0 hy1
      have HX := Lib.hid (XG.bin (m := [32, 124, 124, 32]) (s := [124, 124]) HA.out HC.out (row := 9) (f := 18) (by simp [rowsK]) (fun r => lx_sp [124, 124] (by decide) _) (by decide) (by unfold divB; simp) hbd.1 hbd.2)
      have hRX : R = 40 :: (a ++ [41]) ++ ([32, 124, 124, 32] ++ (40 :: (c ++ [41]))) := by rw [hR, HP.out, HQ.out]; simp
      rw [← hRX] at HX
      clear hR hRX hbd
      generalize (P ++ [32, 124, 124, 32] : List UInt8) = P2 at *
      by_cases hx : x = 0
      · subst hx
        by_cases hy : y = 0
        · subst hy
          have hv : appT 18 0 0 = bitT false := by show bitT ((0 : Int) != 0 || (0 : Int) != 0) = _; rfl
          rw [hv] at HX
          clear hv
          go_wp2_with fail
          refine (mk_bit _ w4).mono ?_
          rintro e w5 ⟨rfl, rfl⟩
          go_wp2_with fail
          go_ret2
          exact ⟨R, _, rfl, HX.out, HT.out, HK.out⟩
        · have hyb : (y != 0) = true := by simpa using hy
          clear hy
          have hv : appT 18 0 y = bitT true := by show bitT ((0 : Int) != 0 || y != 0) = _; rw [hyb]; rfl
          rw [hv] at HX
          clear hv
          go_wp2_with fail
          refine (mk_bit _ w4).mono ?_
          rintro e w5 ⟨rfl, rfl⟩
          go_wp2_with fail
          go_ret2
          exact ⟨R, _, rfl, HX.out, HT.out, HK.out⟩
      · have hxb : (x != 0) = true := by simpa using hx
        clear hx
        by_cases hy : y = 0
        · subst hy
          have hv : appT 18 x 0 = bitT true := by show bitT (x != 0 || (0 : Int) != 0) = _; rw [hxb]; rfl
          rw [hv] at HX
          clear hv
          go_wp2_with fail
          refine (mk_bit _ w4).mono ?_
          rintro e w5 ⟨rfl, rfl⟩
          go_wp2_with fail
          go_ret2
          exact ⟨R, _, rfl, HX.out, HT.out, HK.out⟩
        · have hyb : (y != 0) = true := by simpa using hy
          clear hy
          have hv : appT 18 x y = bitT true := by show bitT (x != 0 || y != 0) = _; rw [hxb]; rw [hyb]; rfl
          rw [hv] at HX
          clear hv
          go_wp2_with fail
          refine (mk_bit _ w4).mono ?_
          rintro e w5 ⟨rfl, rfl⟩
          go_wp2_with fail
          go_ret2
          exact ⟨R, _, rfl, HX.out, HT.out, HK.out⟩
    · obtain ⟨R, hR⟩ : ∃ z, z = P ++ [32, 63, 32] ++ Q ++ [32, 58, 32, 53] := ⟨_, rfl⟩
      have d1 := adds_of P [32, 63, 32] (by have := HL.out; simp; omega)
      have d2 := adds_of (P ++ [32, 63, 32]) Q (by have := HL.out; simp; omega)
      have d3 := adds_of (P ++ [32, 63, 32] ++ Q) [32, 58, 32, 53] (by have := HL.out; simp; omega)
      unfold Adds at d1 d2 d3
      rw [← hR] at d3
      have HX := Lib.hid (XG.cond HA.out HC.out)
      have hRX : R = 40 :: (a ++ [41]) ++ ([32, 63, 32] ++ (40 :: (c ++ [41]) ++ ([32, 58, 32] ++ basedT 10 false 5))) := by rw [hR, HP.out, HQ.out]; simp; rfl
      rw [← hRX] at HX
      clear hR hRX
      generalize (P ++ [32, 63, 32] ++ Q : List UInt8) = P3 at *
      generalize (P ++ [32, 63, 32] : List UInt8) = P2 at *
      by_cases hx : x = 0
      · subst hx
        rw [if_pos rfl] at HX
        go_wp2_with fail
        go_ret2
        exact ⟨R, _, rfl, HX.out, HT.out, HK.out⟩
      · have hxb : (x != 0) = true := by simpa using hx
        rw [if_neg hx] at HX
        clear hx
        go_wp2_with fail
        go_ret2
        exact ⟨R, _, rfl, HX.out, HT.out, HK.out⟩
theorem mk_Expression (B b : Nat) : ∀ (k : Nat), k ≤ 5 → ∀ w, Tape B w b → Calls Tryz.prog 9 #[.pointer (some ⟨b, 0, none⟩), .int .i64 k] w (ExPost B b k w) := by
  intro k
  induction k with
  | zero => intro _ w h; exact mk_Expression_zero B b w h
  | succ k ih => intro hk w h; exact mk_Expression_succ B b k (by omega) (fun w h => ih (by omega) w h) w h
end Go.Proofs.YtiojnbhomjkkgaaGreatDoor
