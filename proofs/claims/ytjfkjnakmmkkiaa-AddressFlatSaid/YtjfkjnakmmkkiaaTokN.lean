/- The contract of Name of token. -/
import Derived.Test.YtjfkjnakmmkkiaaTokA
namespace Go.Proofs.Ytjfkjnakmmkkiaa
open Go.RowKit

set_option maxHeartbeats 400000 in
theorem tells_name : Tells 104 nameB := by
  intro c w h0 h1
  have hm := Lib.hid (idx_mem [44, 46, 43, 45, 63, 35, 64] c h0 h1)
  go_enter Try.func104, Try.ntmps104
  by_cases hw : wordB c = true
  · go_wp2_with (first | (go_at_call 122; refine (token_word _ _).mono ?_; rintro e w' ⟨rfl, rfl⟩) | (go_at_call 123; refine (Try.strings_IndexByte _ _ _).mono ?_; rintro e w' ⟨rfl, rfl⟩))
    go_ret
    exact ⟨ret_bool (by unfold nameB; rw [hw]; rfl), rfl⟩
  · have hw : wordB c = false := by simpa using hw
    go_wp2_with (first | (go_at_call 122; refine (token_word _ _).mono ?_; rintro e w' ⟨rfl, rfl⟩) | (go_at_call 123; refine (Try.strings_IndexByte _ _ _).mono ?_; rintro e w' ⟨rfl, rfl⟩))
    go_ret
    exact ⟨ret_bool (by unfold nameB punctB; rw [hw, Bool.false_or, ← hm.out]), rfl⟩

theorem enters_name : ∀ args w, (callFunc 104 args).run Try.prog w = .ok (.enter 104 args) w := enters_of Try.func104 (by kernel_rfl) rfl

set_option maxHeartbeats 800000 in
theorem token_Name (s : ByteArray) (w : World) (hs : s.size ≤ maxLen) :
    Calls Try.prog 61 #[.string s] w fun e w' => e = .returned (.bool (nameT s.data.toList)) ∧ w = w' := by
  have hs' := hs
  unfold maxLen at hs'
  have hF := Lib.hid (show nameT s.data.toList = (decide (1 ≤ s.size ∧ s.size ≤ 31) && (letterB (s.data.toList.headD 0).toNat || decide (((s.data.toList.headD 0).toNat : Int) = 95)) && allB nameB s.data.toList) from by unfold nameT; simp)
  by_cases h1 : 1 ≤ s.size
  · by_cases h2 : s.size ≤ 31
    · have hH := Lib.hid (head_of s h1)
      by_cases hl : letterB s[0].toNat = true
      · go_enter Try.func61, Try.ntmps61
        go_wp2_with (first | (go_at_call 102; refine (token_letter _ _).mono ?_; rintro e w' ⟨rfl, rfl⟩) | (go_at_call 103; refine (token_all _ 104 nameB _ tells_name enters_name hs).mono ?_; rintro e w' ⟨rfl, rfl⟩))
        go_ret
        exact ⟨ret_bool (by rw [hF.out, hH.out, hl, decide_eq_true ⟨h1, h2⟩]; rfl), rfl⟩
      · have hl : letterB s[0].toNat = false := by simpa using hl
        by_cases h95 : (s[0].toNat : Int) = 95
        · have h95' : ((s[0].toNat : Int) == 95) = true := by simpa using h95
          have H95 := Lib.hid h95; clear h95
          go_enter Try.func61, Try.ntmps61
          go_wp2_with (first | (go_at_call 102; refine (token_letter _ _).mono ?_; rintro e w' ⟨rfl, rfl⟩) | (go_at_call 103; refine (token_all _ 104 nameB _ tells_name enters_name hs).mono ?_; rintro e w' ⟨rfl, rfl⟩))
          go_ret
          exact ⟨ret_bool (by rw [hF.out, hH.out, hl, decide_eq_true ⟨h1, h2⟩, decide_eq_true H95.out]; rfl), rfl⟩
        · have h95' : ((s[0].toNat : Int) == 95) = false := by simpa using h95
          have H95 := Lib.hid h95; clear h95
          go_enter Try.func61, Try.ntmps61
          go_wp2_with (first | (go_at_call 102; refine (token_letter _ _).mono ?_; rintro e w' ⟨rfl, rfl⟩))
          go_ret
          exact ⟨ret_bool (by rw [hF.out, hH.out, hl, decide_eq_true ⟨h1, h2⟩, decide_eq_false H95.out]; rfl), rfl⟩
    · go_enter Try.func61, Try.ntmps61
      go_wp2_with fail
      go_ret
      exact ⟨ret_bool (by rw [hF.out, decide_eq_false (by omega)]; rfl), rfl⟩
  · go_enter Try.func61, Try.ntmps61
    go_wp2_with fail
    go_ret
    exact ⟨ret_bool (by rw [hF.out, decide_eq_false (by omega)]; rfl), rfl⟩
end Go.Proofs.Ytjfkjnakmmkkiaa
