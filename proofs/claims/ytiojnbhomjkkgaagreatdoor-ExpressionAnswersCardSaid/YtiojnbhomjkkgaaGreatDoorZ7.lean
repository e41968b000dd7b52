/- Contracts of name, Name, Label, hex, sign, escape, number of token. | Contracts of sign and escape of token. | Contracts of the small functions of the reference of token. | Contracts of the reference's reader: step, starts, ends. -/
import Derived.Test.YtiojnbhomjkkgaaGreatDoorZ5
import Derived.Test.YtiojnbhomjkkgaaGreatDoorZ6
import Derived.Test.YtiojnbhomjkkgaaGreatDoorZ8

set_option linter.unusedVariables false
set_option linter.unusedSimpArgs false
set_option linter.unusedSectionVars false

namespace Go.Proofs.YtiojnbhomjkkgaaGreatDoor
open Go.RowKit

theorem tells_letter : Tells 138 letterB := fun c w _ _ => token_letter c w
theorem tells_word : Tells 141 wordB := fun c w _ _ => token_word c w
theorem tells_small : Tells 145 smallB := fun c w _ _ => token_small c w

set_option maxHeartbeats 400000 in
theorem tells_notNl : Tells 136 notNlB := by
  intro c w _ _
  go_enter Tryz.func136, Tryz.ntmps136
  go_wp2
  all_goals (go_ret; exact ⟨ret_bool (by unfold notNlB; rw [Bool.eq_iff_iff]; simp <;> omega), rfl⟩)

set_option maxHeartbeats 400000 in
theorem token_hex (c : Int) (w : World) (h0 : 0 ≤ c) (h1 : c ≤ 255) :
    Calls Tryz.prog 208 #[.int .u8 c] w fun e w' => e = .returned (.int .i64 (hexV c)) ∧ w = w' := by
  by_cases hd : 48 ≤ c ∧ c ≤ 57
  · have hd' : digitB c = true := by unfold digitB; simpa using hd
    obtain ⟨ha, hb⟩ := hd
    go_enter Tryz.func208, Tryz.ntmps208
    go_wp2_with (first | (go_at_call 142; refine (token_digit _ _).mono ?_; rintro e w' ⟨rfl, rfl⟩))
    go_ret
    exact ⟨ret_int (by unfold hexV; rw [if_pos ⟨ha, hb⟩]), rfl⟩
  · have hd' : digitB c = false := by unfold digitB; simpa using hd
    have HD := Lib.hid hd; clear hd
    by_cases h2 : 97 ≤ c ∧ c ≤ 102
    · obtain ⟨ha, hb⟩ := h2
      go_enter Tryz.func208, Tryz.ntmps208
      go_wp2_with (first | (go_at_call 142; refine (token_digit _ _).mono ?_; rintro e w' ⟨rfl, rfl⟩))
      go_ret
      exact ⟨ret_int (by unfold hexV; rw [if_neg HD.out, if_pos ⟨ha, hb⟩]; omega), rfl⟩
    · by_cases h3 : 65 ≤ c ∧ c ≤ 70
      · have h2' : c < 97 := by omega
        have H2 := Lib.hid h2; clear h2
        obtain ⟨ha, hb⟩ := h3
        go_enter Tryz.func208, Tryz.ntmps208
        go_wp2_with (first | (go_at_call 142; refine (token_digit _ _).mono ?_; rintro e w' ⟨rfl, rfl⟩))
        go_ret
        exact ⟨ret_int (by unfold hexV; rw [if_neg HD.out, if_neg H2.out, if_pos ⟨ha, hb⟩]; omega), rfl⟩
      · have hf : Hid (hexV c = -1) := by show _ = _; unfold hexV; rw [if_neg HD.out, if_neg h2, if_neg h3]
        go_enter Tryz.func208, Tryz.ntmps208
        go_wp2_with (first | (go_at_call 142; refine (token_digit _ _).mono ?_; rintro e w' ⟨rfl, rfl⟩))
        all_goals first | (exfalso; omega) | (go_ret; exact ⟨ret_int hf.out.symm, rfl⟩)


theorem enters_word : ∀ args w, (callFunc 141 args).run Tryz.prog w = .ok (.enter 141 args) w := enters_of Tryz.func141 (by kernel_rfl) rfl
theorem enters_small : ∀ args w, (callFunc 145 args).run Tryz.prog w = .ok (.enter 145 args) w := enters_of Tryz.func145 (by kernel_rfl) rfl
theorem enters_notNl : ∀ args w, (callFunc 136 args).run Tryz.prog w = .ok (.enter 136 args) w := enters_of Tryz.func136 (by kernel_rfl) rfl

set_option maxHeartbeats 800000 in
theorem token_Label (s : ByteArray) (w : World) (hs : s.size ≤ maxLen) :
    Calls Tryz.prog 239 #[.string s] w fun e w' => e = .returned (.bool (labelT s.data.toList)) ∧ w = w' := by
  have hs' := hs
  unfold maxLen at hs'
  have hF := Lib.hid (show labelT s.data.toList = (decide (1 ≤ s.size ∧ s.size ≤ 31) && !digitB (s.data.toList.headD 0).toNat && allB wordB s.data.toList) from by unfold labelT; simp)
  by_cases h1 : 1 ≤ s.size
  · by_cases h2 : s.size ≤ 31
    · have hH := Lib.hid (head_of s h1)
      by_cases hl : digitB s[0].toNat = true
      · go_enter Tryz.func239, Tryz.ntmps239
        go_wp2_with (first | (go_at_call 142; refine (token_digit _ _).mono ?_; rintro e w' ⟨rfl, rfl⟩) | (go_at_call 140; refine (token_all _ 141 wordB _ tells_word enters_word hs).mono ?_; rintro e w' ⟨rfl, rfl⟩))
        go_ret
        exact ⟨ret_bool (by rw [hF.out, hH.out, hl, decide_eq_true ⟨h1, h2⟩]; rfl), rfl⟩
      · have hl : digitB s[0].toNat = false := by simpa using hl
        go_enter Tryz.func239, Tryz.ntmps239
        go_wp2_with (first | (go_at_call 142; refine (token_digit _ _).mono ?_; rintro e w' ⟨rfl, rfl⟩) | (go_at_call 140; refine (token_all _ 141 wordB _ tells_word enters_word hs).mono ?_; rintro e w' ⟨rfl, rfl⟩))
        go_ret
        exact ⟨ret_bool (by rw [hF.out, hH.out, hl, decide_eq_true ⟨h1, h2⟩]; rfl), rfl⟩
    · go_enter Tryz.func239, Tryz.ntmps239
      go_wp2_with fail
      go_ret
      exact ⟨ret_bool (by rw [hF.out, decide_eq_false (by omega)]; rfl), rfl⟩
  · go_enter Tryz.func239, Tryz.ntmps239
    go_wp2_with fail
    go_ret
    exact ⟨ret_bool (by rw [hF.out, decide_eq_false (by omega)]; rfl), rfl⟩
end Go.Proofs.YtiojnbhomjkkgaaGreatDoor

namespace Go.Proofs.YtiojnbhomjkkgaaGreatDoor
open Go.RowKit

set_option maxHeartbeats 1000000 in
theorem token_sign (s : ByteArray) (w : World) (_hs : s.size ≤ maxLen) (h1 : 0 < s.size) :
    Calls Tryz.prog 146 #[.string s] w fun e w' => e = .returned (.int .i64 (signN s.data.toList)) ∧ w = w' := by
  have hs := _hs
  unfold maxLen at hs
  have hH := Lib.hid (head_of s h1)
  have hM := Lib.hid (idx_mem singlesL s[0].toNat (by omega) (byte_lt _))
  go_enter Tryz.func146, Tryz.ntmps146
  go_wp2
  go_loop [3] (fun i => ∃ k : Nat, k ≤ 8 ∧ i = .int .i64 ↑(2 * k) ∧ Hid (pairsL.any (fun p => Lib.hasPrefix s.data.toList p) = (pairsL.drop k).any (fun p => Lib.hasPrefix s.data.toList p))) (fun i => 16 - (intOf i).toNat)
  case atStart => exact ⟨0, Nat.zero_le _, rfl, rfl⟩
  case round =>
    obtain ⟨k, hk, rfl, hB⟩ := hrel
    have : k = 0 ∨ k = 1 ∨ k = 2 ∨ k = 3 ∨ k = 4 ∨ k = 5 ∨ k = 6 ∨ k = 7 ∨ k = 8 := by omega
    rcases this with rfl | rfl | rfl | rfl | rfl | rfl | rfl | rfl | rfl
    rotate_right
    · go_wp2_with (first | (go_at_call 134; refine (Tryz.strings_HasPrefix _ _ _).mono ?_; rintro e w' ⟨rfl, rfl⟩) | (go_at_call 133; refine (Tryz.strings_IndexByte _ _ _).mono ?_; rintro e w' ⟨rfl, rfl⟩))
      · have hc : memB singlesL s[0].toNat = true := idx_yes (by assumption)
        go_ret
        exact ⟨ret_int (by unfold signN; rw [hB.out, if_neg (by simp [pairsL]), hH.out, if_pos hc]; rfl), rfl⟩
      · have hc : memB singlesL s[0].toNat = false := idx_no (by assumption)
        go_ret
        exact ⟨ret_int (by unfold signN; rw [hB.out, if_neg (by simp [pairsL]), hH.out, if_neg (by simp [hc])]; rfl), rfl⟩
    all_goals
      go_wp2_with (first | (go_at_call 134; refine (Tryz.strings_HasPrefix _ _ _).mono ?_; rintro e w' ⟨rfl, rfl⟩) | (go_at_call 133; refine (Tryz.strings_IndexByte _ _ _).mono ?_; rintro e w' ⟨rfl, rfl⟩))
      · go_ret
        exact ⟨ret_int (by unfold signN; rw [hB.out, if_pos (by simp [pairsL, *])]; rfl), rfl⟩
    · go_round
      case rel => exact ⟨1, by omega, rfl, by show _ = _; rw [hB.out]; simp [pairsL, *]⟩
      case measure => simp [intOf]
    · go_round
      case rel => exact ⟨2, by omega, rfl, by show _ = _; rw [hB.out]; simp [pairsL, *]⟩
      case measure => simp [intOf]
    · go_round
      case rel => exact ⟨3, by omega, rfl, by show _ = _; rw [hB.out]; simp [pairsL, *]⟩
      case measure => simp [intOf]
    · go_round
      case rel => exact ⟨4, by omega, rfl, by show _ = _; rw [hB.out]; simp [pairsL, *]⟩
      case measure => simp [intOf]
    · go_round
      case rel => exact ⟨5, by omega, rfl, by show _ = _; rw [hB.out]; simp [pairsL, *]⟩
      case measure => simp [intOf]
    · go_round
      case rel => exact ⟨6, by omega, rfl, by show _ = _; rw [hB.out]; simp [pairsL, *]⟩
      case measure => simp [intOf]
    · go_round
      case rel => exact ⟨7, by omega, rfl, by show _ = _; rw [hB.out]; simp [pairsL, *]⟩
      case measure => simp [intOf]
    · go_round
      case rel => exact ⟨8, by omega, rfl, by show _ = _; rw [hB.out]; simp [pairsL, *]⟩
      case measure => simp [intOf]

theorem pow_step (k : Nat) (x h : Int) (hk : k = 1 ∨ k = 2) (hx : x * 16 < 16 ^ k) (h15 : h ≤ 15) : (16 * x + h) * 16 < 16 ^ (k + 1) := by
  rcases hk with rfl | rfl <;> omega
set_option maxHeartbeats 2000000 in
theorem token_escape (s : ByteArray) (w : World) (hs : s.size ≤ maxLen) :
    Calls Tryz.prog 210 #[.string s] w fun e w' => e = .returned (.tuple #[.int .u8 (esc s.data.toList).1, .int .i64 (esc s.data.toList).2.1, .int .i64 (esc s.data.toList).2.2]) ∧ ∃ n, w' = w.drewN n := by
  unfold maxLen at hs
  by_cases h0 : s.size = 0
  · obtain rfl := empty_of s h0
    clear h0
    go_enter Tryz.func210, Tryz.ntmps210
    go_wp2_with fail
    go_ret3
    exact ⟨rfl, 0, rfl⟩
  · have h0 : 0 < s.size := by omega
    have hne := toList_ne s h0
    have hne2 := toList_isEmpty s h0
    have hD := Lib.hid (drop_cons s 0 h0)
    by_cases h10 : s[0].toNat = 10
    · have h10' : ((s[0].toNat : Int) == 10) = true := by simp [h10]
      have hF := Lib.hid (show esc s.data.toList = (0, 0, 21) from by rw [← List.drop_zero (l := s.data.toList), hD.out]; simp [esc, h10])
      clear h10
      go_enter Tryz.func210, Tryz.ntmps210
      go_wp2_with fail
      go_ret3
      exact ⟨by rw [hF.out]; rfl, 0, rfl⟩
    · have h10' : ((s[0].toNat : Int) == 10) = false := by simp; omega
      have hF := Lib.hid (show esc s.data.toList = if s[0].toNat = 110 then (10, 1, 0) else if s[0].toNat = 116 then (9, 1, 0) else if s[0].toNat = 34 then (34, 1, 0) else if s[0].toNat = 92 then (92, 1, 0)
    else if s[0].toNat ≠ 120 then (0, 0, 6) else hx2 2 (s.data.toList.drop 1) 0 from by rw [← List.drop_zero (l := s.data.toList), hD.out]; simp only [esc]; rw [if_neg h10]; simp)
      clear h10
      go_enter Tryz.func210, Tryz.ntmps210
      go_wp2_with fail
      go_loopw [5] (fun i wr => ∃ k nd : Nat, k ≤ 4 ∧ i = .int .i64 ↑(2 * k) ∧ Hid ((1 ≤ k → s[0].toNat ≠ 110) ∧ (2 ≤ k → s[0].toNat ≠ 116) ∧ (3 ≤ k → s[0].toNat ≠ 34) ∧ (4 ≤ k → s[0].toNat ≠ 92)) ∧ wr = w.drewN nd) (fun i _ => 8 - (intOf i).toNat)
      case atStart => exact ⟨0, 0, Nat.zero_le _, rfl, by simp [Hid], rfl⟩
      case round =>
        obtain ⟨k, nd, hk, rfl, hB, rfl⟩ := hrel
        have : k = 0 ∨ k = 1 ∨ k = 2 ∨ k = 3 ∨ k = 4 := by omega
        rcases this with rfl | rfl | rfl | rfl | rfl
        rotate_right
        · rw [show (((2 * 4 : Nat) : Int)) = 8 from rfl]
          obtain ⟨b1, b2, b3, b4⟩ := hB.out
          have hF2 := Lib.hid (show esc s.data.toList = if s[0].toNat ≠ 120 then (0, 0, 6) else hx2 2 (s.data.toList.drop 1) 0 from by rw [hF.out, if_neg (b1 (by omega)), if_neg (b2 (by omega)), if_neg (b3 (by omega)), if_neg (b4 (by omega))])
          clear b1 b2 b3 b4
          by_cases h120 : s[0].toNat = 120
          · have h120' : ((s[0].toNat : Int) != 120) = false := by simp [h120]
            have hF3 := Lib.hid (show esc s.data.toList = hx2 2 (s.data.toList.drop 1) 0 from by rw [hF2.out, if_neg (by omega)])
            clear h120
            go_wp2_with fail
            go_loop [6, 7] (fun v i => ∃ k : Nat, ∃ x : Int, 1 ≤ k ∧ k ≤ 3 ∧ k ≤ s.size ∧ i = .int .i64 k ∧ v = .int .i64 x ∧ 0 ≤ x ∧ x * 16 < 16 ^ k ∧ Hid (esc s.data.toList = hx2 (3 - k) (s.data.toList.drop k) x)) (fun _ i => 3 - (intOf i).toNat)
            case atStart => exact ⟨1, 0, by omega, by omega, by omega, rfl, rfl, by omega, by omega, hF3⟩
            case round =>
              obtain ⟨k, x, hk1, hk3, hks, rfl, rfl, hx0, hx1, hE⟩ := hrel
              by_cases hk2 : k ≤ 2
              · by_cases hks2 : k = s.size
                · have hF4 := Lib.hid (show esc s.data.toList = (0, 0, 21) from by rw [hE.out, drop_end s k (by omega), show 3 - k = (2 - k) + 1 from by omega]; rfl)
                  have hks2' : ((k : Int) == (s.size : Int)) = true := by simp; omega
                  clear hks2
                  go_wp2_with fail
                  go_ret3
                  exact ⟨by rw [hF4.out]; rfl, _, rfl⟩
                · have hks2' : ((k : Int) == (s.size : Int)) = false := by simp; omega
                  have hks3 : k < s.size := by omega
                  have hbd := hexV_bd s[k].toNat
                  have hE2 := Lib.hid (show esc s.data.toList = if s[k].toNat = 10 then (0, 0, 21) else if hexV s[k].toNat < 0 then (0, 0, 6) else hx2 (3 - (k + 1)) (s.data.toList.drop (k + 1)) (16 * x + hexV s[k].toNat) from by rw [hE.out, drop_cons s k hks3, show 3 - k = (3 - (k + 1)) + 1 from by omega]; rfl)
                  clear hks2
                  have hxb : x ≤ 15 := by
                    have : k = 1 ∨ k = 2 := by omega
                    rcases this with rfl | rfl <;> omega
                  have HX1 := Lib.hid hx1; clear hx1
                  by_cases k10 : s[k].toNat = 10
                  · have k10' : ((s[k].toNat : Int) == 10) = true := by simp [k10]
                    have K10 := Lib.hid k10; clear k10
                    go_wp2_with (first | (go_at_call 208; refine (token_hex _ _ (by omega) (byte_lt _)).mono ?_; rintro e w' ⟨rfl, rfl⟩))
                    go_ret3
                    exact ⟨by rw [hE2.out, if_pos K10.out]; rfl, _, rfl⟩
                  · have k10' : ((s[k].toNat : Int) == 10) = false := by simp; omega
                    have K10 := Lib.hid k10; clear k10
                    by_cases hh : hexV s[k].toNat < 0
                    · go_wp2_with (first | (go_at_call 208; refine (token_hex _ _ (by omega) (byte_lt _)).mono ?_; rintro e w' ⟨rfl, rfl⟩))
                      go_ret3
                      exact ⟨by rw [hE2.out, if_neg K10.out, if_pos hh]; rfl, _, rfl⟩
                    · have hh : 0 ≤ hexV s[k].toNat := by omega
                      go_wp2_with (first | (go_at_call 208; refine (token_hex _ _ (by omega) (byte_lt _)).mono ?_; rintro e w' ⟨rfl, rfl⟩))
                      go_round
                      case rel => exact ⟨k + 1, 16 * x + hexV s[k].toNat, by omega, by omega, by omega, by go_num, by go_num, by omega, pow_step k x _ (by omega) HX1.out (by omega), by show _ = _; rw [hE2.out, if_neg K10.out, if_neg (by omega)]⟩
                      case measure => simp [intOf]; omega
              · obtain rfl : k = 3 := by omega
                have hxb : x ≤ 255 := by omega
                have HX1 := Lib.hid hx1; clear hx1
                go_wp2_with fail
                go_ret3
                exact ⟨by rw [hE.out]; rfl, _, rfl⟩
          · have h120' : ((s[0].toNat : Int) != 120) = true := by simp; omega
            have H120 := Lib.hid h120; clear h120
            go_wp2_with fail
            go_ret3
            exact ⟨by rw [hF2.out, if_pos H120.out]; rfl, _, rfl⟩
        · go_wp2_with fail
          go_quiet (fail)
          go_wp2_with fail
          · have hc : ((s[0].toNat : Int) == ((110 : Nat) : Int)) = true := by assumption
            go_ret3
            exact ⟨by rw [hF.out, if_pos (by simp at hc; omega)]; rfl, _, rfl⟩
          · have hc : ((s[0].toNat : Int) == ((110 : Nat) : Int)) = false := by assumption
            have hc' : s[0].toNat ≠ 110 := by simp at hc; omega
            go_roundw
            case rel => exact ⟨1, _, by omega, rfl, by have := hB.out; refine ⟨fun _ => hc', ?_⟩; omega, rfl⟩
            case measure => simp [intOf]
        · go_wp2_with fail
          go_quiet (fail)
          go_wp2_with fail
          · have hc : ((s[0].toNat : Int) == ((116 : Nat) : Int)) = true := by assumption
            have hb := hB.out
            go_ret3
            exact ⟨by rw [hF.out, if_neg (by omega), if_pos (by simp at hc; omega)]; rfl, _, rfl⟩
          · have hc : ((s[0].toNat : Int) == ((116 : Nat) : Int)) = false := by assumption
            have hc' : s[0].toNat ≠ 116 := by simp at hc; omega
            go_roundw
            case rel => exact ⟨2, _, by omega, rfl, by have := hB.out; refine ⟨?_, ?_, ?_⟩ <;> omega, rfl⟩
            case measure => simp [intOf]
        · go_wp2_with fail
          go_quiet (fail)
          go_wp2_with fail
          · have hc : ((s[0].toNat : Int) == ((34 : Nat) : Int)) = true := by assumption
            have hb := hB.out
            go_ret3
            exact ⟨by rw [hF.out, if_neg (by omega), if_neg (by omega), if_pos (by simp at hc; omega)]; rfl, _, rfl⟩
          · have hc : ((s[0].toNat : Int) == ((34 : Nat) : Int)) = false := by assumption
            have hc' : s[0].toNat ≠ 34 := by simp at hc; omega
            go_roundw
            case rel => exact ⟨3, _, by omega, rfl, by have := hB.out; refine ⟨?_, ?_, ?_⟩ <;> omega, rfl⟩
            case measure => simp [intOf]
        · go_wp2_with fail
          go_quiet (fail)
          go_wp2_with fail
          · have hc : ((s[0].toNat : Int) == ((92 : Nat) : Int)) = true := by assumption
            have hb := hB.out
            go_ret3
            exact ⟨by rw [hF.out, if_neg (by omega), if_neg (by omega), if_neg (by omega), if_pos (by simp at hc; omega)]; rfl, _, rfl⟩
          · have hc : ((s[0].toNat : Int) == ((92 : Nat) : Int)) = false := by assumption
            have hc' : s[0].toNat ≠ 92 := by simp at hc; omega
            go_roundw
            case rel => exact ⟨4, _, by omega, rfl, by have := hB.out; refine ⟨?_, ?_, ?_, ?_⟩ <;> omega, rfl⟩
            case measure => simp [intOf]
end Go.Proofs.YtiojnbhomjkkgaaGreatDoor

namespace Go.Proofs.YtiojnbhomjkkgaaGreatDoor
open Go.RowKit

set_option maxHeartbeats 400000 in
theorem ref_words (s : ByteArray) (w : World) (hs : s.size ≤ maxLen) :
    Calls Tryz.prog 84 #[.string s] w fun e w' => e = .returned (.bool (allB wordB s.data.toList)) ∧ w = w' := by
  unfold maxLen at hs
  go_enter Tryz.func84, Tryz.ntmps84
  go_wp2
  go_loop [3] (fun i => ∃ k : Nat, k ≤ s.size ∧ i = .int .i64 k ∧ Hid (allB wordB s.data.toList = allB wordB (s.data.toList.drop k))) (fun i => s.size - (intOf i).toNat)
  case atStart => exact ⟨0, Nat.zero_le _, rfl, rfl⟩
  case round =>
    obtain ⟨k, hk, rfl, hB⟩ := hrel
    by_cases hlt : k < s.size
    · have hD := Lib.hid (drop_cons s k hlt)
      cases hpk : wordB s[k].toNat
      · go_wp2_with (first | (go_at_call 147; refine (ref_word _ _).mono ?_; rintro e w' ⟨rfl, rfl⟩))
        go_ret
        exact ⟨ret_bool (by rw [hB.out, hD.out, allB_cons, hpk, Bool.false_and]), rfl⟩
      · go_wp2_with (first | (go_at_call 147; refine (ref_word _ _).mono ?_; rintro e w' ⟨rfl, rfl⟩))
        go_round
        case rel => exact ⟨k + 1, by omega, by go_num, by show _ = _; rw [hB.out, hD.out, allB_cons, hpk, Bool.true_and]⟩
        case measure => simp [intOf]; omega
    · go_wp2
      go_ret
      exact ⟨ret_bool (by rw [hB.out, drop_end s k (by omega)]; rfl), rfl⟩

/-- A digit's value, 99 for other bytes. -/
def digV (c : Int) : Int := if hexV c < 0 then 99 else hexV c
set_option maxHeartbeats 400000 in
theorem ref_digit (c : Int) (w : World) (h0 : 0 ≤ c) (h1 : c ≤ 255) :
    Calls Tryz.prog 149 #[.int .u8 c] w fun e w' => e = .returned (.int .i64 (digV c)) ∧ w = w' := by
  have hv : Hid ((48 ≤ c ∧ c ≤ 57 ∧ digV c = c - 48) ∨ (97 ≤ c ∧ c ≤ 102 ∧ digV c = c - 87) ∨ (65 ≤ c ∧ c ≤ 70 ∧ digV c = c - 55) ∨ ((c < 48 ∨ 57 < c) ∧ (c < 97 ∨ 102 < c) ∧ (c < 65 ∨ 70 < c) ∧ digV c = 99)) := by
    show _ ∨ _
    unfold digV
    by_cases a : 48 ≤ c ∧ c ≤ 57
    · rw [show hexV c = c - 48 from by unfold hexV; rw [if_pos a], if_neg (by omega)]; omega
    · by_cases b : 97 ≤ c ∧ c ≤ 102
      · rw [show hexV c = c - 87 from by unfold hexV; rw [if_neg a, if_pos b], if_neg (by omega)]; omega
      · by_cases d : 65 ≤ c ∧ c ≤ 70
        · rw [show hexV c = c - 55 from by unfold hexV; rw [if_neg a, if_neg b, if_pos d], if_neg (by omega)]; omega
        · rw [show hexV c = -1 from by unfold hexV; rw [if_neg a, if_neg b, if_neg d], if_pos (by omega)]; omega
  generalize digV c = v at hv
  go_enter Tryz.func149, Tryz.ntmps149
  go_wp2
  all_goals (go_ret; exact ⟨ret_int (by have := hv.out; omega), rfl⟩)

end Go.Proofs.YtiojnbhomjkkgaaGreatDoor

namespace Go.Proofs.YtiojnbhomjkkgaaGreatDoor
open Go.RowKit

/-- The cells of the reference's reader. -/
def rfCells (s : ByteArray) (i : Nat) (line col : Int) : Array Value := #[.string s, .int .i64 i, .int .i64 line, .int .i64 col]
theorem rf_cells {w : World} {b : Nat} {s : ByteArray} {i : Nat} {line col : Int} {t : TypeId} (h : Holds w b (rfCells s i line col) t) :
    w.cell? ⟨b, 0, none⟩ = some (.string s) ∧ w.cell? ⟨b, 1, none⟩ = some (.int .i64 i) ∧ w.cell? ⟨b, 2, none⟩ = some (.int .i64 line) ∧ w.cell? ⟨b, 3, none⟩ = some (.int .i64 col) ∧
    w.frozen? ⟨b, 0, none⟩ = false ∧ w.frozen? ⟨b, 1, none⟩ = false ∧ w.frozen? ⟨b, 2, none⟩ = false ∧ w.frozen? ⟨b, 3, none⟩ = false :=
  ⟨h.cell 0, h.cell 1, h.cell 2, h.cell 3, h.free 0, h.free 1, h.free 2, h.free 3⟩

set_option maxHeartbeats 1000000 in
theorem ref_step (s : ByteArray) (i n : Nat) (line col : Int) (b : Nat) (w : World) (h : Holds w b (rfCells s i line col) 82) (hi : i + n ≤ s.size) (hs : s.size ≤ 140737488355328)
    (hl : 1 ≤ line) (hl' : line ≤ i + 1) (hc : 1 ≤ col) (hc' : col ≤ i + 1) :
    Calls Tryz.prog 41 #[.pointer (some ⟨b, 0, none⟩), .int .i64 n] w fun e w' => e = .returned (.tuple #[]) ∧
      Holds w' b (rfCells s (i + n) (adv ((s.data.toList.drop i).take n) (line, col)).1 (adv ((s.data.toList.drop i).take n) (line, col)).2) 82 ∧ Keeps (· = b) w w' := by
  go_enter Tryz.func41, Tryz.ntmps41
  go_wp2
  go_loopw [1] (fun n' wr => ∃ j m : Nat, ∃ l c : Int, i ≤ j ∧ j + m = i + n ∧ n' = .int .i64 m ∧ 1 ≤ l ∧ l ≤ j + 1 ∧ 1 ≤ c ∧ c ≤ j + 1 ∧ Hid ((l, c) = adv ((s.data.toList.drop i).take (j - i)) (line, col)) ∧ Holds wr b (rfCells s j l c) 82 ∧ Keeps (· = b) w wr) (fun n' _ => (intOf n').toNat)
  case atStart => exact ⟨i, n, line, col, Nat.le_refl _, rfl, rfl, hl, hl', hc, hc', by simp [Hid, adv], h, Keeps.refl _ _⟩
  case round =>
    obtain ⟨j, m, l, c, hij, hjm, rfl, hl1, hl2, hc1, hc2, hA, hH, hK⟩ := hrel
    obtain ⟨c0, c1, c2, c3, f0, f1, f2, f3⟩ := rf_cells hH
    by_cases hm : 0 < m
    · have hjs : j < s.size := by omega
      have hS := Lib.hid (adv_step s i j hij hjs (line, col))
      have hmb : m ≤ 140737488355328 := by omega
      have hjm' := Lib.hid hjm; clear hjm
      have hA' := hA.out
      by_cases h10 : s[j].toNat = 10
      · have h10' : ((s[j].toNat : Int) == 10) = true := by simp [h10]
        have hN : Hid (((l + 1 : Int), (1 : Int)) = adv ((s.data.toList.drop i).take (j + 1 - i)) (line, col)) := by show _ = _; rw [hS.out, if_pos h10, ← hA']
        clear h10 hS hA'
        go_wp2
        go_quiet (fail)
        go_wp2
        go_roundw
        case rel =>
          exact ⟨j + 1, m - 1, l + 1, 1, by omega, by have := hjm'.out; omega, by rw [show ((m : Int) - 1) = ((m - 1 : Nat) : Int) from by omega], by omega, by omega, by omega, by omega, hN,
            (((((hH.set 3 _).drewN nq).set 2 _).set 3 _).set 1 _), ((((hK.setCell (.inr rfl) _).drewN nq).setCell (.inr rfl) _).setCell (.inr rfl) _).setCell (.inr rfl) _⟩
        case measure => simp [intOf]; omega
      · have h10' : ((s[j].toNat : Int) == 10) = false := by simp; omega
        have hN : Hid ((l, c + 1) = adv ((s.data.toList.drop i).take (j + 1 - i)) (line, col)) := by show _ = _; rw [hS.out, if_neg h10, ← hA']
        clear h10 hS hA'
        go_wp2
        go_quiet (fail)
        go_wp2
        go_roundw
        case rel =>
          exact ⟨j + 1, m - 1, l, c + 1, by omega, by have := hjm'.out; omega, by rw [show ((m : Int) - 1) = ((m - 1 : Nat) : Int) from by omega], by omega, by omega, by omega, by omega, hN,
            (((hH.set 3 _).drewN nq).set 1 _), ((hK.setCell (.inr rfl) _).drewN nq).setCell (.inr rfl) _⟩
        case measure => simp [intOf]; omega
    · have : m = 0 := by omega
      subst this
      go_wp2
      go_end0
      obtain rfl : j = i + n := by omega
      refine ⟨rfl, ?_, hK⟩
      have := hA.out
      rw [show i + n - i = n from by omega] at this
      rw [← this]; exact hH

theorem pre_eq (s t : ByteArray) (i : Nat) : ((s.extract i (i + t.size)).toList == t.toList) = Lib.hasPrefix (s.data.toList.drop i) t.data.toList := by
  have h2 := take_toList s i (i + t.size)
  rw [List.drop_take, show i + t.size - i = t.size from by omega] at h2
  rw [Lib.toList_data, Lib.toList_data, h2]
  unfold Lib.hasPrefix
  rw [Bool.eq_iff_iff, List.isPrefixOf_iff_prefix, List.prefix_iff_eq_take, beq_iff_eq]
  simp only [Array.length_toList]
  constructor <;> exact fun h => h.symm
theorem pre_short (s t : ByteArray) (i : Nat) (h : s.size < i + t.size) (hi : i ≤ s.size) : Lib.hasPrefix (s.data.toList.drop i) t.data.toList = false := by
  rw [Bool.eq_false_iff]; intro hp
  have := Lib.hasPrefix_le hp
  simp at this; omega

set_option maxHeartbeats 1000000 in
theorem ref_starts (s t : ByteArray) (i : Nat) (line col : Int) (b : Nat) (w : World) (h : Holds w b (rfCells s i line col) 82) (hi : i ≤ s.size) (hs : s.size ≤ 140737488355328) (ht : t.size ≤ 140737488355328) :
    Calls Tryz.prog 80 #[.pointer (some ⟨b, 0, none⟩), .string t] w fun e w' => e = .returned (.bool (Lib.hasPrefix (s.data.toList.drop i) t.data.toList)) ∧ ∃ n, w' = w.drewN n := by
  obtain ⟨c0, c1, c2, c3, f0, f1, f2, f3⟩ := rf_cells h
  by_cases hge : s.size - (i : Int) ≥ t.size
  · have hP := Lib.hid (pre_eq s t i)
    have hle : i + t.size ≤ s.size := by omega
    have hd : decide ((s.size : Int) - i ≥ t.size) = true := by simpa using hge
    go_enter Tryz.func80, Tryz.ntmps80
    go_wp2
    go_quiet (fail)
    go_wp2
    go_ret
    exact ⟨by rw [← hP.out]; rfl, _, rfl⟩
  · have hP := Lib.hid (pre_short s t i (by omega) hi)
    have hd : decide ((s.size : Int) - i ≥ t.size) = false := by simp; omega
    go_enter Tryz.func80, Tryz.ntmps80
    go_wp2
    go_quiet (fail)
    go_wp2
    go_ret
    exact ⟨by rw [hP.out]; rfl, _, rfl⟩

set_option maxHeartbeats 1000000 in
theorem ref_ends (s : ByteArray) (i : Nat) (line col : Int) (w : World) (hi : i ≤ s.size) (hs : s.size ≤ 140737488355328) :
    Calls Tryz.prog 81 #[.agg (rfCells s i line col)] w fun e w' => e = .returned (.bool (Lib.hasPrefix (s.data.toList.drop i) [42, 47])) ∧ Keeps (fun _ => False) w w' := by
  unfold rfCells
  go_enter Tryz.func81, Tryz.ntmps81
  go_wp2_with fail
  refine (ref_starts s ⟨#[42, 47]⟩ i line col w.heap.size _ (by exact Holds.new w _ _) hi hs (by simp [ByteArray.size])).mono ?_
  rintro e w1 ⟨rfl, n, rfl⟩
  go_wp2_with fail
  go_ret
  exact ⟨rfl, ((Keeps.refl _ w).alloc _).drewN n⟩
end Go.Proofs.YtiojnbhomjkkgaaGreatDoor
