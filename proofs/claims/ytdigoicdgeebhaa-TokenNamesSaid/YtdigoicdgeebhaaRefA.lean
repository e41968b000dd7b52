/- Contracts of the small functions of the reference of token. -/
import Derived.Test.YtdigoicdgeebhaaTokC
import Derived.Test.YtdigoicdgeebhaaTokT
namespace Go.Proofs.Ytdigoicdgeebhaa
open Go.RowKit

set_option maxHeartbeats 400000 in
theorem ref_letter (c : Int) (w : World) :
    Calls Try.prog 38 #[.int .u8 c] w fun e w' => e = .returned (.bool (letterB c)) ∧ w = w' := by
  go_enter Try.func38, Try.ntmps38
  go_wp2
  all_goals (go_ret; exact ⟨ret_bool (by unfold letterB; rw [Bool.eq_iff_iff]; simp <;> omega), rfl⟩)

set_option maxHeartbeats 400000 in
theorem ref_word (c : Int) (w : World) :
    Calls Try.prog 59 #[.int .u8 c] w fun e w' => e = .returned (.bool (wordB c)) ∧ w = w' := by
  go_enter Try.func59, Try.ntmps59
  go_wp2_with (first | (go_at_call 38; refine (ref_letter _ _).mono ?_; rintro e w' ⟨rfl, rfl⟩))
  all_goals (go_ret; exact ⟨ret_bool (by unfold wordB digitB; rw [Bool.eq_iff_iff]; simp [*] <;> omega), rfl⟩)

theorem memB_cons (x : UInt8) (l : List UInt8) (c : Int) : memB (x :: l) c = (decide ((x.toNat : Int) = c) || memB l c) := by simp [memB]

set_option maxHeartbeats 400000 in
theorem ref_among (c : Int) (s : ByteArray) (w : World) (hs : s.size ≤ maxLen) :
    Calls Try.prog 52 #[.int .u8 c, .string s] w fun e w' => e = .returned (.bool (memB s.data.toList c)) ∧ w = w' := by
  unfold maxLen at hs
  go_enter Try.func52, Try.ntmps52
  go_wp2
  go_loop [5] (fun i => ∃ k : Nat, k ≤ s.size ∧ i = .int .i64 k ∧ Hid (memB s.data.toList c = memB (s.data.toList.drop k) c)) (fun i => s.size - (intOf i).toNat)
  case atStart => exact ⟨0, Nat.zero_le _, rfl, rfl⟩
  case round =>
    obtain ⟨k, hk, rfl, hB⟩ := hrel
    by_cases hlt : k < s.size
    · have hD := Lib.hid (drop_cons s k hlt)
      by_cases hc : (s[k].toNat : Int) = c
      · have hc' : ((s[k].toNat : Int) == c) = true := by simpa using hc
        have HC := Lib.hid hc; clear hc
        go_wp2_with fail
        go_ret
        exact ⟨ret_bool (by rw [hB.out, hD.out, memB_cons, decide_eq_true HC.out]; rfl), rfl⟩
      · have hc' : ((s[k].toNat : Int) == c) = false := by simpa using hc
        have HC := Lib.hid hc; clear hc
        go_wp2_with fail
        go_round
        case rel => exact ⟨k + 1, by omega, by go_num, by show _ = _; rw [hB.out, hD.out, memB_cons, decide_eq_false HC.out, Bool.false_or]⟩
        case measure => simp [intOf]; omega
    · go_wp2
      go_ret
      exact ⟨ret_bool (by rw [hB.out, drop_end s k (by omega)]; rfl), rfl⟩

set_option maxHeartbeats 400000 in
theorem ref_name (c : Int) (w : World) :
    Calls Try.prog 39 #[.int .u8 c] w fun e w' => e = .returned (.bool (nameB c)) ∧ w = w' := by
  go_enter Try.func39, Try.ntmps39
  cases hw : wordB c
  all_goals
    go_wp2_with (first | (go_at_call 59; refine (ref_word _ _).mono ?_; rintro e w' ⟨rfl, rfl⟩) | (go_at_call 52; refine (ref_among _ _ _ (by decide)).mono ?_; rintro e w' ⟨rfl, rfl⟩))
    go_ret
    exact ⟨ret_bool (by unfold nameB punctB; rw [hw]; rfl), rfl⟩

set_option maxHeartbeats 400000 in
theorem ref_words (s : ByteArray) (w : World) (hs : s.size ≤ maxLen) :
    Calls Try.prog 42 #[.string s] w fun e w' => e = .returned (.bool (allB wordB s.data.toList)) ∧ w = w' := by
  unfold maxLen at hs
  go_enter Try.func42, Try.ntmps42
  go_wp2
  go_loop [3] (fun i => ∃ k : Nat, k ≤ s.size ∧ i = .int .i64 k ∧ Hid (allB wordB s.data.toList = allB wordB (s.data.toList.drop k))) (fun i => s.size - (intOf i).toNat)
  case atStart => exact ⟨0, Nat.zero_le _, rfl, rfl⟩
  case round =>
    obtain ⟨k, hk, rfl, hB⟩ := hrel
    by_cases hlt : k < s.size
    · have hD := Lib.hid (drop_cons s k hlt)
      cases hpk : wordB s[k].toNat
      · go_wp2_with (first | (go_at_call 59; refine (ref_word _ _).mono ?_; rintro e w' ⟨rfl, rfl⟩))
        go_ret
        exact ⟨ret_bool (by rw [hB.out, hD.out, allB_cons, hpk, Bool.false_and]), rfl⟩
      · go_wp2_with (first | (go_at_call 59; refine (ref_word _ _).mono ?_; rintro e w' ⟨rfl, rfl⟩))
        go_round
        case rel => exact ⟨k + 1, by omega, by go_num, by show _ = _; rw [hB.out, hD.out, allB_cons, hpk, Bool.true_and]⟩
        case measure => simp [intOf]; omega
    · go_wp2
      go_ret
      exact ⟨ret_bool (by rw [hB.out, drop_end s k (by omega)]; rfl), rfl⟩

/-- A digit's value, 99 for other bytes. -/
def digV (c : Int) : Int := if hexV c < 0 then 99 else hexV c
set_option maxHeartbeats 400000 in
theorem ref_digit (c : Int) (w : World) (h0 : 0 ≤ c) (h1 : c ≤ 255) :
    Calls Try.prog 67 #[.int .u8 c] w fun e w' => e = .returned (.int .i64 (digV c)) ∧ w = w' := by
  have hv : Hid ((48 ≤ c ∧ c ≤ 57 ∧ digV c = c - 48) ∨ (97 ≤ c ∧ c ≤ 102 ∧ digV c = c - 87) ∨ (65 ≤ c ∧ c ≤ 70 ∧ digV c = c - 55) ∨ ((c < 48 ∨ 57 < c) ∧ (c < 97 ∨ 102 < c) ∧ (c < 65 ∨ 70 < c) ∧ digV c = 99)) := by
    show _ ∨ _
    unfold digV
    by_cases a : 48 ≤ c ∧ c ≤ 57
    · rw [show hexV c = c - 48 from by unfold hexV; rw [if_pos a], if_neg (by omega)]; omega
    · by_cases b : 97 ≤ c ∧ c ≤ 102
      · rw [show hexV c = c - 87 from by unfold hexV; rw [if_neg a, if_pos b], if_neg (by omega)]; omega
      · by_cases d : 65 ≤ c ∧ c ≤ 70
        · rw [show hexV c = c - 55 from by unfold hexV; rw [if_neg a, if_neg b, if_pos d], if_neg (by omega)]; omega
        · rw [show hexV c = -1 from by unfold hexV; rw [if_neg a, if_neg b, if_neg d], if_pos (by omega)]; omega
  generalize digV c = v at hv
  go_enter Try.func67, Try.ntmps67
  go_wp2
  all_goals (go_ret; exact ⟨ret_int (by have := hv.out; omega), rfl⟩)

set_option maxHeartbeats 800000 in
theorem ref_Name (s : ByteArray) (w : World) (hs : s.size ≤ maxLen) :
    Calls Try.prog 23 #[.string s] w fun e w' => e = .returned (.bool (nameT s.data.toList)) ∧ w = w' := by
  have hs' := hs
  unfold maxLen at hs'
  have hF := Lib.hid (show nameT s.data.toList = (decide (1 ≤ s.size ∧ s.size ≤ 31) && (letterB (s.data.toList.headD 0).toNat || decide (((s.data.toList.headD 0).toNat : Int) = 95)) && allB nameB s.data.toList) from by unfold nameT; simp)
  by_cases h1 : 1 ≤ s.size
  · by_cases h2 : s.size ≤ 31
    · have hH := Lib.hid (head_of s h1)
      have hcs : (letterB s[0].toNat = true ∨ letterB s[0].toNat = false ∧ ((s[0].toNat : Int) != 95) = false) ∨ letterB s[0].toNat = false ∧ ((s[0].toNat : Int) != 95) = true := by
        cases letterB s[0].toNat with
        | true => exact .inl (.inl rfl)
        | false =>
          cases h : ((s[0].toNat : Int) != 95)
          · exact .inl (.inr ⟨rfl, rfl⟩)
          · exact .inr ⟨rfl, rfl⟩
      rcases hcs with hcs | ⟨c1, c2⟩
      · have hF2 := Lib.hid (show nameT s.data.toList = allB nameB s.data.toList from by
          rw [hF.out, hH.out, decide_eq_true ⟨h1, h2⟩]
          rcases hcs with h | ⟨h, h'⟩
          · rw [h]; rfl
          · rw [h, decide_eq_true (by simpa using h')]; rfl)
        rcases hcs with c1 | ⟨c1, c2⟩
        all_goals
          go_enter Try.func23, Try.ntmps23
          go_wp2_with (first | (go_at_call 38; refine (ref_letter _ _).mono ?_; rintro e w' ⟨rfl, rfl⟩))
          go_loop [3] (fun i => ∃ k : Nat, k ≤ s.size ∧ i = .int .i64 k ∧ Hid (allB nameB s.data.toList = allB nameB (s.data.toList.drop k))) (fun i => s.size - (intOf i).toNat)
          case atStart => exact ⟨0, Nat.zero_le _, rfl, rfl⟩
          case round =>
            obtain ⟨k, hk, rfl, hB⟩ := hrel
            by_cases hlt : k < s.size
            · have hD := Lib.hid (drop_cons s k hlt)
              cases hpk : nameB s[k].toNat
              · go_wp2_with (first | (go_at_call 39; refine (ref_name _ _).mono ?_; rintro e w' ⟨rfl, rfl⟩))
                go_ret
                exact ⟨ret_bool (by rw [hF2.out, hB.out, hD.out, allB_cons, hpk, Bool.false_and]), rfl⟩
              · go_wp2_with (first | (go_at_call 39; refine (ref_name _ _).mono ?_; rintro e w' ⟨rfl, rfl⟩))
                go_round
                case rel => exact ⟨k + 1, by omega, by go_num, by show _ = _; rw [hB.out, hD.out, allB_cons, hpk, Bool.true_and]⟩
                case measure => simp [intOf]; omega
            · go_wp2
              go_ret
              exact ⟨ret_bool (by rw [hF2.out, hB.out, drop_end s k (by omega)]; rfl), rfl⟩
      · go_enter Try.func23, Try.ntmps23
        go_wp2_with (first | (go_at_call 38; refine (ref_letter _ _).mono ?_; rintro e w' ⟨rfl, rfl⟩))
        go_ret
        exact ⟨ret_bool (by rw [hF.out, hH.out, c1, decide_eq_false (p := ((s[0].toNat : Int) = 95)) (by simpa using c2)]; simp), rfl⟩
    · go_enter Try.func23, Try.ntmps23
      go_wp2_with fail
      go_ret
      exact ⟨ret_bool (by rw [hF.out, decide_eq_false (by omega)]; rfl), rfl⟩
  · go_enter Try.func23, Try.ntmps23
    go_wp2_with fail
    go_ret
    exact ⟨ret_bool (by rw [hF.out, decide_eq_false (by omega)]; rfl), rfl⟩

set_option maxHeartbeats 800000 in
theorem ref_Label (s : ByteArray) (w : World) (hs : s.size ≤ maxLen) :
    Calls Try.prog 25 #[.string s] w fun e w' => e = .returned (.bool (labelT s.data.toList)) ∧ w = w' := by
  have hs' := hs
  unfold maxLen at hs'
  have hF := Lib.hid (show labelT s.data.toList = (decide (1 ≤ s.size ∧ s.size ≤ 31) && !digitB (s.data.toList.headD 0).toNat && allB wordB s.data.toList) from by unfold labelT; simp)
  by_cases h1 : 1 ≤ s.size
  · by_cases h2 : s.size ≤ 31
    · have hH := Lib.hid (head_of s h1)
      by_cases hd : 48 ≤ s[0].toNat ∧ s[0].toNat ≤ 57
      · have hd' := Lib.hid (show digitB s[0].toNat = true from by unfold digitB; simp; omega)
        obtain ⟨d1, d2⟩ := hd
        go_enter Try.func25, Try.ntmps25
        go_wp2_with fail
        go_ret
        exact ⟨ret_bool (by rw [hF.out, hH.out, hd'.out]; simp), rfl⟩
      · have hd' := Lib.hid (show digitB s[0].toNat = false from by unfold digitB; simp; omega)
        have hdc : s[0].toNat < 48 ∨ 48 ≤ s[0].toNat ∧ 57 < s[0].toNat := by omega
        clear hd
        rcases hdc with c | ⟨c, c'⟩
        all_goals
          go_enter Try.func25, Try.ntmps25
          go_wp2_with (first | (go_at_call 42; refine (ref_words _ _ hs).mono ?_; rintro e w' ⟨rfl, rfl⟩))
          go_ret
          exact ⟨ret_bool (by rw [hF.out, hH.out, hd'.out, decide_eq_true ⟨h1, h2⟩]; rfl), rfl⟩
    · go_enter Try.func25, Try.ntmps25
      go_wp2_with fail
      go_ret
      exact ⟨ret_bool (by rw [hF.out, decide_eq_false (by omega)]; rfl), rfl⟩
  · go_enter Try.func25, Try.ntmps25
    go_wp2_with fail
    go_ret
    exact ⟨ret_bool (by rw [hF.out, decide_eq_false (by omega)]; rfl), rfl⟩
end Go.Proofs.Ytdigoicdgeebhaa
