/- Contracts of the small byte functions of token. -/
import Derived.Test.YtjfkjnakmmkkiaaTokS
import Derived.Test.YtjfkjnakmmkkiaaMem
import Derived.Test.YtjfkjnakmmkkiaaShelf
import Derived.WalkKit
import Derived.WalkSpells
import Derived.WalkLawsBesides
import Derived.Lib.Hide
import Derived.Deep.QuietTactic
import Derived.BigQuiet
namespace Go.Proofs.Ytjfkjnakmmkkiaa
open Go.RowKit

set_option maxHeartbeats 400000 in
theorem token_letter (c : Int) (w : World) :
    Calls Try.prog 102 #[.int .u8 c] w fun e w' => e = .returned (.bool (letterB c)) ∧ w = w' := by
  go_enter Try.func102, Try.ntmps102
  go_wp2
  all_goals (go_ret; exact ⟨ret_bool (by unfold letterB; rw [Bool.eq_iff_iff]; simp <;> omega), rfl⟩)

set_option maxHeartbeats 400000 in
theorem token_digit (c : Int) (w : World) :
    Calls Try.prog 137 #[.int .u8 c] w fun e w' => e = .returned (.bool (digitB c)) ∧ w = w' := by
  go_enter Try.func137, Try.ntmps137
  go_wp2
  all_goals (go_ret; exact ⟨ret_bool (by unfold digitB; rw [Bool.eq_iff_iff]; simp <;> omega), rfl⟩)

set_option maxHeartbeats 400000 in
theorem token_word (c : Int) (w : World) :
    Calls Try.prog 122 #[.int .u8 c] w fun e w' => e = .returned (.bool (wordB c)) ∧ w = w' := by
  go_enter Try.func122, Try.ntmps122
  go_wp2_with (first | (go_at_call 102; refine (token_letter _ _).mono ?_; rintro e w' ⟨rfl, rfl⟩) | (go_at_call 137; refine (token_digit _ _).mono ?_; rintro e w' ⟨rfl, rfl⟩))
  all_goals (go_ret; exact ⟨ret_bool (by unfold wordB; rw [Bool.eq_iff_iff]; simp [*]), rfl⟩)


/-- What a function value of one byte gives: it leaves the world as it is. -/
def Tells (g : Nat) (p : Int → Bool) : Prop := ∀ (c : Int) (w : World), 0 ≤ c → c ≤ 255 → Calls Try.prog g #[.int .u8 c] w fun e w' => e = .returned (.bool (p c)) ∧ w = w'

set_option maxHeartbeats 400000 in
theorem token_all (s : ByteArray) (g : Nat) (p : Int → Bool) (w : World) (hp : Tells g p) (eg : ∀ args w, (callFunc g args).run Try.prog w = .ok (.enter g args) w) (hs : s.size ≤ maxLen) :
    Calls Try.prog 103 #[.string s, .func (.func g) #[] #[]] w fun e w' => e = .returned (.bool (allB p s.data.toList)) ∧ w = w' := by
  unfold maxLen at hs
  go_enter Try.func103, Try.ntmps103
  go_wp2
  go_loop [8] (fun i => ∃ k : Nat, k ≤ s.size ∧ i = .int .i64 k ∧ Hid (allB p s.data.toList = allB p (s.data.toList.drop k))) (fun i => s.size - (intOf i).toNat)
  case atStart => exact ⟨0, Nat.zero_le _, rfl, rfl⟩
  case round =>
    obtain ⟨k, hk, rfl, hB⟩ := hrel
    by_cases hlt : k < s.size
    · have hd := drop_cons s k hlt
      have hD := Lib.hid hd; clear hd
      by_cases hpk : p s[k].toNat = true
      · go_wp2_with fail
        refine (hp _ _ (by omega) (byte_lt _)).mono ?_
        rintro e w' ⟨rfl, rfl⟩
        go_wp2_with fail
        go_round
        case rel => exact ⟨k + 1, by omega, by go_num, by rw [hB.out, hD.out, allB_cons, hpk, Bool.true_and]; rfl⟩
        case measure => simp [intOf]; omega
      · have hpk : p s[k].toNat = false := by simpa using hpk
        go_wp2_with fail
        refine (hp _ _ (by omega) (byte_lt _)).mono ?_
        rintro e w' ⟨rfl, rfl⟩
        go_wp2_with fail
        go_ret
        exact ⟨ret_bool (by rw [hB.out, hD.out, allB_cons, hpk, Bool.false_and]), rfl⟩
    · go_wp2
      go_ret
      exact ⟨ret_bool (by rw [hB.out, drop_end s k (by omega)]; rfl), rfl⟩

end Go.Proofs.Ytjfkjnakmmkkiaa