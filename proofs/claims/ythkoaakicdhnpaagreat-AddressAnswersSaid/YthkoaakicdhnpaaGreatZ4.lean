/- Contracts of the small byte functions of token. | The contract of Name of token. | Contracts of the small functions of the reference of token: letters, names. -/
import Derived.Test.YthkoaakicdhnpaaGreatZ1
import Derived.Test.YthkoaakicdhnpaaGreatZ2
import Derived.Test.YthkoaakicdhnpaaGreatShelf
import Derived.WalkKit
import Derived.WalkSpells
import Derived.WalkLawsBesides
import Derived.Lib.Hide
import Derived.Deep.QuietTactic
import Derived.BigQuiet

namespace Go.Proofs.YthkoaakicdhnpaaGreat
open Go.RowKit

set_option maxHeartbeats 400000 in
theorem token_letter (c : Int) (w : World) :
    Calls Tryz.prog 87 #[.int .u8 c] w fun e w' => e = .returned (.bool (letterB c)) ∧ w = w' := by
  go_enter Tryz.func87, Tryz.ntmps87
  go_wp2
  all_goals (go_ret; exact ⟨ret_bool (by unfold letterB; rw [Bool.eq_iff_iff]; simp <;> omega), rfl⟩)

set_option maxHeartbeats 400000 in
theorem token_digit (c : Int) (w : World) :
    Calls Tryz.prog 100 #[.int .u8 c] w fun e w' => e = .returned (.bool (digitB c)) ∧ w = w' := by
  go_enter Tryz.func100, Tryz.ntmps100
  go_wp2
  all_goals (go_ret; exact ⟨ret_bool (by unfold digitB; rw [Bool.eq_iff_iff]; simp <;> omega), rfl⟩)

set_option maxHeartbeats 400000 in
theorem token_word (c : Int) (w : World) :
    Calls Tryz.prog 95 #[.int .u8 c] w fun e w' => e = .returned (.bool (wordB c)) ∧ w = w' := by
  go_enter Tryz.func95, Tryz.ntmps95
  go_wp2_with (first | (go_at_call 87; refine (token_letter _ _).mono ?_; rintro e w' ⟨rfl, rfl⟩) | (go_at_call 100; refine (token_digit _ _).mono ?_; rintro e w' ⟨rfl, rfl⟩))
  all_goals (go_ret; exact ⟨ret_bool (by unfold wordB; rw [Bool.eq_iff_iff]; simp [*]), rfl⟩)


/-- What a function value of one byte gives: it leaves the world as it is. -/
def Tells (g : Nat) (p : Int → Bool) : Prop := ∀ (c : Int) (w : World), 0 ≤ c → c ≤ 255 → Calls Tryz.prog g #[.int .u8 c] w fun e w' => e = .returned (.bool (p c)) ∧ w = w'

set_option maxHeartbeats 400000 in
theorem token_all (s : ByteArray) (g : Nat) (p : Int → Bool) (w : World) (hp : Tells g p) (eg : ∀ args w, (callFunc g args).run Tryz.prog w = .ok (.enter g args) w) (hs : s.size ≤ maxLen) :
    Calls Tryz.prog 88 #[.string s, .func (.func g) #[] #[]] w fun e w' => e = .returned (.bool (allB p s.data.toList)) ∧ w = w' := by
  unfold maxLen at hs
  go_enter Tryz.func88, Tryz.ntmps88
  go_wp2
  go_loop [8] (fun i => ∃ k : Nat, k ≤ s.size ∧ i = .int .i64 k ∧ Hid (allB p s.data.toList = allB p (s.data.toList.drop k))) (fun i => s.size - (intOf i).toNat)
  case atStart => exact ⟨0, Nat.zero_le _, rfl, rfl⟩
  case round =>
    obtain ⟨k, hk, rfl, hB⟩ := hrel
    by_cases hlt : k < s.size
    · have hd := drop_cons s k hlt
      have hD := Lib.hid hd; clear hd
      by_cases hpk : p s[k].toNat = true
      · go_wp2_with fail
        refine (hp _ _ (by omega) (byte_lt _)).mono ?_
        rintro e w' ⟨rfl, rfl⟩
        go_wp2_with fail
        go_round
        case rel => exact ⟨k + 1, by omega, by go_num, by rw [hB.out, hD.out, allB_cons, hpk, Bool.true_and]; rfl⟩
        case measure => simp [intOf]; omega
      · have hpk : p s[k].toNat = false := by simpa using hpk
        go_wp2_with fail
        refine (hp _ _ (by omega) (byte_lt _)).mono ?_
        rintro e w' ⟨rfl, rfl⟩
        go_wp2_with fail
        go_ret
        exact ⟨ret_bool (by rw [hB.out, hD.out, allB_cons, hpk, Bool.false_and]), rfl⟩
    · go_wp2
      go_ret
      exact ⟨ret_bool (by rw [hB.out, drop_end s k (by omega)]; rfl), rfl⟩

end Go.Proofs.YthkoaakicdhnpaaGreat

namespace Go.Proofs.YthkoaakicdhnpaaGreat
open Go.RowKit

set_option maxHeartbeats 400000 in
theorem tells_name : Tells 89 nameB := by
  intro c w h0 h1
  have hm := Lib.hid (idx_mem [44, 46, 43, 45, 63, 35, 64] c h0 h1)
  go_enter Tryz.func89, Tryz.ntmps89
  by_cases hw : wordB c = true
  · go_wp2_with (first | (go_at_call 95; refine (token_word _ _).mono ?_; rintro e w' ⟨rfl, rfl⟩) | (go_at_call 96; refine (Tryz.strings_IndexByte _ _ _).mono ?_; rintro e w' ⟨rfl, rfl⟩))
    go_ret
    exact ⟨ret_bool (by unfold nameB; rw [hw]; rfl), rfl⟩
  · have hw : wordB c = false := by simpa using hw
    go_wp2_with (first | (go_at_call 95; refine (token_word _ _).mono ?_; rintro e w' ⟨rfl, rfl⟩) | (go_at_call 96; refine (Tryz.strings_IndexByte _ _ _).mono ?_; rintro e w' ⟨rfl, rfl⟩))
    go_ret
    exact ⟨ret_bool (by unfold nameB punctB; rw [hw, Bool.false_or, ← hm.out]), rfl⟩

theorem enters_name : ∀ args w, (callFunc 89 args).run Tryz.prog w = .ok (.enter 89 args) w := enters_of Tryz.func89 (by kernel_rfl) rfl

set_option maxHeartbeats 800000 in
theorem token_Name (s : ByteArray) (w : World) (hs : s.size ≤ maxLen) :
    Calls Tryz.prog 81 #[.string s] w fun e w' => e = .returned (.bool (nameT s.data.toList)) ∧ w = w' := by
  have hs' := hs
  unfold maxLen at hs'
  have hF := Lib.hid (show nameT s.data.toList = (decide (1 ≤ s.size ∧ s.size ≤ 31) && (letterB (s.data.toList.headD 0).toNat || decide (((s.data.toList.headD 0).toNat : Int) = 95)) && allB nameB s.data.toList) from by unfold nameT; simp)
  by_cases h1 : 1 ≤ s.size
  · by_cases h2 : s.size ≤ 31
    · have hH := Lib.hid (head_of s h1)
      by_cases hl : letterB s[0].toNat = true
      · go_enter Tryz.func81, Tryz.ntmps81
        go_wp2_with (first | (go_at_call 87; refine (token_letter _ _).mono ?_; rintro e w' ⟨rfl, rfl⟩) | (go_at_call 88; refine (token_all _ 89 nameB _ tells_name enters_name hs).mono ?_; rintro e w' ⟨rfl, rfl⟩))
        go_ret
        exact ⟨ret_bool (by rw [hF.out, hH.out, hl, decide_eq_true ⟨h1, h2⟩]; rfl), rfl⟩
      · have hl : letterB s[0].toNat = false := by simpa using hl
        by_cases h95 : (s[0].toNat : Int) = 95
        · have h95' : ((s[0].toNat : Int) == 95) = true := by simpa using h95
          have H95 := Lib.hid h95; clear h95
          go_enter Tryz.func81, Tryz.ntmps81
          go_wp2_with (first | (go_at_call 87; refine (token_letter _ _).mono ?_; rintro e w' ⟨rfl, rfl⟩) | (go_at_call 88; refine (token_all _ 89 nameB _ tells_name enters_name hs).mono ?_; rintro e w' ⟨rfl, rfl⟩))
          go_ret
          exact ⟨ret_bool (by rw [hF.out, hH.out, hl, decide_eq_true ⟨h1, h2⟩, decide_eq_true H95.out]; rfl), rfl⟩
        · have h95' : ((s[0].toNat : Int) == 95) = false := by simpa using h95
          have H95 := Lib.hid h95; clear h95
          go_enter Tryz.func81, Tryz.ntmps81
          go_wp2_with (first | (go_at_call 87; refine (token_letter _ _).mono ?_; rintro e w' ⟨rfl, rfl⟩))
          go_ret
          exact ⟨ret_bool (by rw [hF.out, hH.out, hl, decide_eq_true ⟨h1, h2⟩, decide_eq_false H95.out]; rfl), rfl⟩
    · go_enter Tryz.func81, Tryz.ntmps81
      go_wp2_with fail
      go_ret
      exact ⟨ret_bool (by rw [hF.out, decide_eq_false (by omega)]; rfl), rfl⟩
  · go_enter Tryz.func81, Tryz.ntmps81
    go_wp2_with fail
    go_ret
    exact ⟨ret_bool (by rw [hF.out, decide_eq_false (by omega)]; rfl), rfl⟩
end Go.Proofs.YthkoaakicdhnpaaGreat

namespace Go.Proofs.YthkoaakicdhnpaaGreat
open Go.RowKit

set_option maxHeartbeats 400000 in
theorem ref_letter (c : Int) (w : World) :
    Calls Tryz.prog 77 #[.int .u8 c] w fun e w' => e = .returned (.bool (letterB c)) ∧ w = w' := by
  go_enter Tryz.func77, Tryz.ntmps77
  go_wp2
  all_goals (go_ret; exact ⟨ret_bool (by unfold letterB; rw [Bool.eq_iff_iff]; simp <;> omega), rfl⟩)

set_option maxHeartbeats 400000 in
theorem ref_word (c : Int) (w : World) :
    Calls Tryz.prog 85 #[.int .u8 c] w fun e w' => e = .returned (.bool (wordB c)) ∧ w = w' := by
  go_enter Tryz.func85, Tryz.ntmps85
  go_wp2_with (first | (go_at_call 77; refine (ref_letter _ _).mono ?_; rintro e w' ⟨rfl, rfl⟩))
  all_goals (go_ret; exact ⟨ret_bool (by unfold wordB digitB; rw [Bool.eq_iff_iff]; simp [*] <;> omega), rfl⟩)

theorem memB_cons (x : UInt8) (l : List UInt8) (c : Int) : memB (x :: l) c = (decide ((x.toNat : Int) = c) || memB l c) := by simp [memB]

set_option maxHeartbeats 400000 in
theorem ref_among (c : Int) (s : ByteArray) (w : World) (hs : s.size ≤ maxLen) :
    Calls Tryz.prog 86 #[.int .u8 c, .string s] w fun e w' => e = .returned (.bool (memB s.data.toList c)) ∧ w = w' := by
  unfold maxLen at hs
  go_enter Tryz.func86, Tryz.ntmps86
  go_wp2
  go_loop [5] (fun i => ∃ k : Nat, k ≤ s.size ∧ i = .int .i64 k ∧ Hid (memB s.data.toList c = memB (s.data.toList.drop k) c)) (fun i => s.size - (intOf i).toNat)
  case atStart => exact ⟨0, Nat.zero_le _, rfl, rfl⟩
  case round =>
    obtain ⟨k, hk, rfl, hB⟩ := hrel
    by_cases hlt : k < s.size
    · have hD := Lib.hid (drop_cons s k hlt)
      by_cases hc : (s[k].toNat : Int) = c
      · have hc' : ((s[k].toNat : Int) == c) = true := by simpa using hc
        have HC := Lib.hid hc; clear hc
        go_wp2_with fail
        go_ret
        exact ⟨ret_bool (by rw [hB.out, hD.out, memB_cons, decide_eq_true HC.out]; rfl), rfl⟩
      · have hc' : ((s[k].toNat : Int) == c) = false := by simpa using hc
        have HC := Lib.hid hc; clear hc
        go_wp2_with fail
        go_round
        case rel => exact ⟨k + 1, by omega, by go_num, by show _ = _; rw [hB.out, hD.out, memB_cons, decide_eq_false HC.out, Bool.false_or]⟩
        case measure => simp [intOf]; omega
    · go_wp2
      go_ret
      exact ⟨ret_bool (by rw [hB.out, drop_end s k (by omega)]; rfl), rfl⟩

set_option maxHeartbeats 400000 in
theorem ref_name (c : Int) (w : World) :
    Calls Tryz.prog 78 #[.int .u8 c] w fun e w' => e = .returned (.bool (nameB c)) ∧ w = w' := by
  go_enter Tryz.func78, Tryz.ntmps78
  cases hw : wordB c
  all_goals
    go_wp2_with (first | (go_at_call 85; refine (ref_word _ _).mono ?_; rintro e w' ⟨rfl, rfl⟩) | (go_at_call 86; refine (ref_among _ _ _ (by decide)).mono ?_; rintro e w' ⟨rfl, rfl⟩))
    go_ret
    exact ⟨ret_bool (by unfold nameB punctB; rw [hw]; rfl), rfl⟩

set_option maxHeartbeats 800000 in
theorem ref_Name (s : ByteArray) (w : World) (hs : s.size ≤ maxLen) :
    Calls Tryz.prog 58 #[.string s] w fun e w' => e = .returned (.bool (nameT s.data.toList)) ∧ w = w' := by
  have hs' := hs
  unfold maxLen at hs'
  have hF := Lib.hid (show nameT s.data.toList = (decide (1 ≤ s.size ∧ s.size ≤ 31) && (letterB (s.data.toList.headD 0).toNat || decide (((s.data.toList.headD 0).toNat : Int) = 95)) && allB nameB s.data.toList) from by unfold nameT; simp)
  by_cases h1 : 1 ≤ s.size
  · by_cases h2 : s.size ≤ 31
    · have hH := Lib.hid (head_of s h1)
      have hcs : (letterB s[0].toNat = true ∨ letterB s[0].toNat = false ∧ ((s[0].toNat : Int) != 95) = false) ∨ letterB s[0].toNat = false ∧ ((s[0].toNat : Int) != 95) = true := by
        cases letterB s[0].toNat with
        | true => exact .inl (.inl rfl)
        | false =>
          cases h : ((s[0].toNat : Int) != 95)
          · exact .inl (.inr ⟨rfl, rfl⟩)
          · exact .inr ⟨rfl, rfl⟩
      rcases hcs with hcs | ⟨c1, c2⟩
      · have hF2 := Lib.hid (show nameT s.data.toList = allB nameB s.data.toList from by
          rw [hF.out, hH.out, decide_eq_true ⟨h1, h2⟩]
          rcases hcs with h | ⟨h, h'⟩
          · rw [h]; rfl
          · rw [h, decide_eq_true (by simpa using h')]; rfl)
        rcases hcs with c1 | ⟨c1, c2⟩
        all_goals
          go_enter Tryz.func58, Tryz.ntmps58
          go_wp2_with (first | (go_at_call 77; refine (ref_letter _ _).mono ?_; rintro e w' ⟨rfl, rfl⟩))
          go_loop [3] (fun i => ∃ k : Nat, k ≤ s.size ∧ i = .int .i64 k ∧ Hid (allB nameB s.data.toList = allB nameB (s.data.toList.drop k))) (fun i => s.size - (intOf i).toNat)
          case atStart => exact ⟨0, Nat.zero_le _, rfl, rfl⟩
          case round =>
            obtain ⟨k, hk, rfl, hB⟩ := hrel
            by_cases hlt : k < s.size
            · have hD := Lib.hid (drop_cons s k hlt)
              cases hpk : nameB s[k].toNat
              · go_wp2_with (first | (go_at_call 78; refine (ref_name _ _).mono ?_; rintro e w' ⟨rfl, rfl⟩))
                go_ret
                exact ⟨ret_bool (by rw [hF2.out, hB.out, hD.out, allB_cons, hpk, Bool.false_and]), rfl⟩
              · go_wp2_with (first | (go_at_call 78; refine (ref_name _ _).mono ?_; rintro e w' ⟨rfl, rfl⟩))
                go_round
                case rel => exact ⟨k + 1, by omega, by go_num, by show _ = _; rw [hB.out, hD.out, allB_cons, hpk, Bool.true_and]⟩
                case measure => simp [intOf]; omega
            · go_wp2
              go_ret
              exact ⟨ret_bool (by rw [hF2.out, hB.out, drop_end s k (by omega)]; rfl), rfl⟩
      · go_enter Tryz.func58, Tryz.ntmps58
        go_wp2_with (first | (go_at_call 77; refine (ref_letter _ _).mono ?_; rintro e w' ⟨rfl, rfl⟩))
        go_ret
        exact ⟨ret_bool (by rw [hF.out, hH.out, c1, decide_eq_false (p := ((s[0].toNat : Int) = 95)) (by simpa using c2)]; simp), rfl⟩
    · go_enter Tryz.func58, Tryz.ntmps58
      go_wp2_with fail
      go_ret
      exact ⟨ret_bool (by rw [hF.out, decide_eq_false (by omega)]; rfl), rfl⟩
  · go_enter Tryz.func58, Tryz.ntmps58
    go_wp2_with fail
    go_ret
    exact ⟨ret_bool (by rw [hF.out, decide_eq_false (by omega)]; rfl), rfl⟩
end Go.Proofs.YthkoaakicdhnpaaGreat
