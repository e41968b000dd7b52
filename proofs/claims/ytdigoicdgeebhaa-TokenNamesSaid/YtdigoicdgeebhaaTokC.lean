/- Contracts of name, Name, Label, hex, sign, escape, number of token. -/
import Derived.Test.YtdigoicdgeebhaaTokB
import Derived.Test.YtdigoicdgeebhaaBuild
namespace Go.Proofs.Ytdigoicdgeebhaa
open Go.RowKit

theorem tells_letter : Tells 35 letterB := fun c w _ _ => token_letter c w
theorem tells_word : Tells 41 wordB := fun c w _ _ => token_word c w
theorem tells_small : Tells 50 smallB := fun c w _ _ => token_small c w

set_option maxHeartbeats 400000 in
theorem tells_notNl : Tells 46 notNlB := by
  intro c w _ _
  go_enter Try.func46, Try.ntmps46
  go_wp2
  all_goals (go_ret; exact ⟨ret_bool (by unfold notNlB; rw [Bool.eq_iff_iff]; simp <;> omega), rfl⟩)

set_option maxHeartbeats 400000 in
theorem tells_name : Tells 37 nameB := by
  intro c w h0 h1
  have hm := Lib.hid (idx_mem [44, 46, 43, 45, 63, 35, 64] c h0 h1)
  go_enter Try.func37, Try.ntmps37
  by_cases hw : wordB c = true
  · go_wp2_with (first | (go_at_call 41; refine (token_word _ _).mono ?_; rintro e w' ⟨rfl, rfl⟩) | (go_at_call 43; refine (Try.strings_IndexByte _ _ _).mono ?_; rintro e w' ⟨rfl, rfl⟩))
    go_ret
    exact ⟨ret_bool (by unfold nameB; rw [hw]; rfl), rfl⟩
  · have hw : wordB c = false := by simpa using hw
    go_wp2_with (first | (go_at_call 41; refine (token_word _ _).mono ?_; rintro e w' ⟨rfl, rfl⟩) | (go_at_call 43; refine (Try.strings_IndexByte _ _ _).mono ?_; rintro e w' ⟨rfl, rfl⟩))
    go_ret
    exact ⟨ret_bool (by unfold nameB punctB; rw [hw, Bool.false_or, ← hm.out]), rfl⟩

set_option maxHeartbeats 400000 in
theorem token_hex (c : Int) (w : World) (h0 : 0 ≤ c) (h1 : c ≤ 255) :
    Calls Try.prog 63 #[.int .u8 c] w fun e w' => e = .returned (.int .i64 (hexV c)) ∧ w = w' := by
  by_cases hd : 48 ≤ c ∧ c ≤ 57
  · have hd' : digitB c = true := by unfold digitB; simpa using hd
    obtain ⟨ha, hb⟩ := hd
    go_enter Try.func63, Try.ntmps63
    go_wp2_with (first | (go_at_call 40; refine (token_digit _ _).mono ?_; rintro e w' ⟨rfl, rfl⟩))
    go_ret
    exact ⟨ret_int (by unfold hexV; rw [if_pos ⟨ha, hb⟩]), rfl⟩
  · have hd' : digitB c = false := by unfold digitB; simpa using hd
    have HD := Lib.hid hd; clear hd
    by_cases h2 : 97 ≤ c ∧ c ≤ 102
    · obtain ⟨ha, hb⟩ := h2
      go_enter Try.func63, Try.ntmps63
      go_wp2_with (first | (go_at_call 40; refine (token_digit _ _).mono ?_; rintro e w' ⟨rfl, rfl⟩))
      go_ret
      exact ⟨ret_int (by unfold hexV; rw [if_neg HD.out, if_pos ⟨ha, hb⟩]; omega), rfl⟩
    · by_cases h3 : 65 ≤ c ∧ c ≤ 70
      · have h2' : c < 97 := by omega
        have H2 := Lib.hid h2; clear h2
        obtain ⟨ha, hb⟩ := h3
        go_enter Try.func63, Try.ntmps63
        go_wp2_with (first | (go_at_call 40; refine (token_digit _ _).mono ?_; rintro e w' ⟨rfl, rfl⟩))
        go_ret
        exact ⟨ret_int (by unfold hexV; rw [if_neg HD.out, if_neg H2.out, if_pos ⟨ha, hb⟩]; omega), rfl⟩
      · have hf : Hid (hexV c = -1) := by show _ = _; unfold hexV; rw [if_neg HD.out, if_neg h2, if_neg h3]
        go_enter Try.func63, Try.ntmps63
        go_wp2_with (first | (go_at_call 40; refine (token_digit _ _).mono ?_; rintro e w' ⟨rfl, rfl⟩))
        all_goals first | (exfalso; omega) | (go_ret; exact ⟨ret_int hf.out.symm, rfl⟩)


theorem enters_name : ∀ args w, (callFunc 37 args).run Try.prog w = .ok (.enter 37 args) w := enters_of Try.func37 (by kernel_rfl) rfl
theorem enters_word : ∀ args w, (callFunc 41 args).run Try.prog w = .ok (.enter 41 args) w := enters_of Try.func41 (by kernel_rfl) rfl
theorem enters_small : ∀ args w, (callFunc 50 args).run Try.prog w = .ok (.enter 50 args) w := enters_of Try.func50 (by kernel_rfl) rfl
theorem enters_notNl : ∀ args w, (callFunc 46 args).run Try.prog w = .ok (.enter 46 args) w := enters_of Try.func46 (by kernel_rfl) rfl

set_option maxHeartbeats 800000 in
theorem token_Name (s : ByteArray) (w : World) (hs : s.size ≤ maxLen) :
    Calls Try.prog 22 #[.string s] w fun e w' => e = .returned (.bool (nameT s.data.toList)) ∧ w = w' := by
  have hs' := hs
  unfold maxLen at hs'
  have hF := Lib.hid (show nameT s.data.toList = (decide (1 ≤ s.size ∧ s.size ≤ 31) && (letterB (s.data.toList.headD 0).toNat || decide (((s.data.toList.headD 0).toNat : Int) = 95)) && allB nameB s.data.toList) from by unfold nameT; simp)
  by_cases h1 : 1 ≤ s.size
  · by_cases h2 : s.size ≤ 31
    · have hH := Lib.hid (head_of s h1)
      by_cases hl : letterB s[0].toNat = true
      · go_enter Try.func22, Try.ntmps22
        go_wp2_with (first | (go_at_call 35; refine (token_letter _ _).mono ?_; rintro e w' ⟨rfl, rfl⟩) | (go_at_call 36; refine (token_all _ 37 nameB _ tells_name enters_name hs).mono ?_; rintro e w' ⟨rfl, rfl⟩))
        go_ret
        exact ⟨ret_bool (by rw [hF.out, hH.out, hl, decide_eq_true ⟨h1, h2⟩]; rfl), rfl⟩
      · have hl : letterB s[0].toNat = false := by simpa using hl
        by_cases h95 : (s[0].toNat : Int) = 95
        · have h95' : ((s[0].toNat : Int) == 95) = true := by simpa using h95
          have H95 := Lib.hid h95; clear h95
          go_enter Try.func22, Try.ntmps22
          go_wp2_with (first | (go_at_call 35; refine (token_letter _ _).mono ?_; rintro e w' ⟨rfl, rfl⟩) | (go_at_call 36; refine (token_all _ 37 nameB _ tells_name enters_name hs).mono ?_; rintro e w' ⟨rfl, rfl⟩))
          go_ret
          exact ⟨ret_bool (by rw [hF.out, hH.out, hl, decide_eq_true ⟨h1, h2⟩, decide_eq_true H95.out]; rfl), rfl⟩
        · have h95' : ((s[0].toNat : Int) == 95) = false := by simpa using h95
          have H95 := Lib.hid h95; clear h95
          go_enter Try.func22, Try.ntmps22
          go_wp2_with (first | (go_at_call 35; refine (token_letter _ _).mono ?_; rintro e w' ⟨rfl, rfl⟩))
          go_ret
          exact ⟨ret_bool (by rw [hF.out, hH.out, hl, decide_eq_true ⟨h1, h2⟩, decide_eq_false H95.out]; rfl), rfl⟩
    · go_enter Try.func22, Try.ntmps22
      go_wp2_with fail
      go_ret
      exact ⟨ret_bool (by rw [hF.out, decide_eq_false (by omega)]; rfl), rfl⟩
  · go_enter Try.func22, Try.ntmps22
    go_wp2_with fail
    go_ret
    exact ⟨ret_bool (by rw [hF.out, decide_eq_false (by omega)]; rfl), rfl⟩

set_option maxHeartbeats 800000 in
theorem token_Label (s : ByteArray) (w : World) (hs : s.size ≤ maxLen) :
    Calls Try.prog 24 #[.string s] w fun e w' => e = .returned (.bool (labelT s.data.toList)) ∧ w = w' := by
  have hs' := hs
  unfold maxLen at hs'
  have hF := Lib.hid (show labelT s.data.toList = (decide (1 ≤ s.size ∧ s.size ≤ 31) && !digitB (s.data.toList.headD 0).toNat && allB wordB s.data.toList) from by unfold labelT; simp)
  by_cases h1 : 1 ≤ s.size
  · by_cases h2 : s.size ≤ 31
    · have hH := Lib.hid (head_of s h1)
      by_cases hl : digitB s[0].toNat = true
      · go_enter Try.func24, Try.ntmps24
        go_wp2_with (first | (go_at_call 40; refine (token_digit _ _).mono ?_; rintro e w' ⟨rfl, rfl⟩) | (go_at_call 36; refine (token_all _ 41 wordB _ tells_word enters_word hs).mono ?_; rintro e w' ⟨rfl, rfl⟩))
        go_ret
        exact ⟨ret_bool (by rw [hF.out, hH.out, hl, decide_eq_true ⟨h1, h2⟩]; rfl), rfl⟩
      · have hl : digitB s[0].toNat = false := by simpa using hl
        go_enter Try.func24, Try.ntmps24
        go_wp2_with (first | (go_at_call 40; refine (token_digit _ _).mono ?_; rintro e w' ⟨rfl, rfl⟩) | (go_at_call 36; refine (token_all _ 41 wordB _ tells_word enters_word hs).mono ?_; rintro e w' ⟨rfl, rfl⟩))
        go_ret
        exact ⟨ret_bool (by rw [hF.out, hH.out, hl, decide_eq_true ⟨h1, h2⟩]; rfl), rfl⟩
    · go_enter Try.func24, Try.ntmps24
      go_wp2_with fail
      go_ret
      exact ⟨ret_bool (by rw [hF.out, decide_eq_false (by omega)]; rfl), rfl⟩
  · go_enter Try.func24, Try.ntmps24
    go_wp2_with fail
    go_ret
    exact ⟨ret_bool (by rw [hF.out, decide_eq_false (by omega)]; rfl), rfl⟩
end Go.Proofs.Ytdigoicdgeebhaa
