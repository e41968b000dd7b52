/- Contracts of the small byte functions of token. | Contracts of the reader's methods of token. | The contract of Name of token. | Contracts of the small functions of the reference of token: letters, names. -/
import Derived.Test.YtiojnbhomjkkgaaGreatDoorZ4
import Derived.Test.YtiojnbhomjkkgaaGreatDoorZ1
import Derived.Test.YtiojnbhomjkkgaaGreatDoorShelf
import Derived.WalkKit
import Derived.WalkSpells
import Derived.WalkLawsBesides
import Derived.Lib.Hide
import Derived.Deep.QuietTactic
import Derived.BigQuiet

set_option linter.unusedVariables false
set_option linter.unusedSimpArgs false
set_option linter.unusedSectionVars false

namespace Go.Proofs.YtiojnbhomjkkgaaGreatDoor
open Go.RowKit

set_option maxHeartbeats 400000 in
theorem token_letter (c : Int) (w : World) :
    Calls Tryz.prog 138 #[.int .u8 c] w fun e w' => e = .returned (.bool (letterB c)) ∧ w = w' := by
  go_enter Tryz.func138, Tryz.ntmps138
  go_wp2
  all_goals (go_ret; exact ⟨ret_bool (by unfold letterB; rw [Bool.eq_iff_iff]; simp <;> omega), rfl⟩)

set_option maxHeartbeats 400000 in
theorem token_digit (c : Int) (w : World) :
    Calls Tryz.prog 142 #[.int .u8 c] w fun e w' => e = .returned (.bool (digitB c)) ∧ w = w' := by
  go_enter Tryz.func142, Tryz.ntmps142
  go_wp2
  all_goals (go_ret; exact ⟨ret_bool (by unfold digitB; rw [Bool.eq_iff_iff]; simp <;> omega), rfl⟩)

set_option maxHeartbeats 400000 in
theorem token_word (c : Int) (w : World) :
    Calls Tryz.prog 141 #[.int .u8 c] w fun e w' => e = .returned (.bool (wordB c)) ∧ w = w' := by
  go_enter Tryz.func141, Tryz.ntmps141
  go_wp2_with (first | (go_at_call 138; refine (token_letter _ _).mono ?_; rintro e w' ⟨rfl, rfl⟩) | (go_at_call 142; refine (token_digit _ _).mono ?_; rintro e w' ⟨rfl, rfl⟩))
  all_goals (go_ret; exact ⟨ret_bool (by unfold wordB; rw [Bool.eq_iff_iff]; simp [*]), rfl⟩)

set_option maxHeartbeats 400000 in
theorem token_small (c : Int) (w : World) :
    Calls Tryz.prog 145 #[.int .u8 c] w fun e w' => e = .returned (.bool (smallB c)) ∧ w = w' := by
  go_enter Tryz.func145, Tryz.ntmps145
  go_wp2
  all_goals (go_ret; exact ⟨ret_bool (by unfold smallB; rw [Bool.eq_iff_iff]; simp <;> omega), rfl⟩)


/-- What a function value of one byte gives: it leaves the world as it is. -/
def Tells (g : Nat) (p : Int → Bool) : Prop := ∀ (c : Int) (w : World), 0 ≤ c → c ≤ 255 → Calls Tryz.prog g #[.int .u8 c] w fun e w' => e = .returned (.bool (p c)) ∧ w = w'

set_option maxHeartbeats 400000 in
theorem token_all (s : ByteArray) (g : Nat) (p : Int → Bool) (w : World) (hp : Tells g p) (eg : ∀ args w, (callFunc g args).run Tryz.prog w = .ok (.enter g args) w) (hs : s.size ≤ maxLen) :
    Calls Tryz.prog 140 #[.string s, .func (.func g) #[] #[]] w fun e w' => e = .returned (.bool (allB p s.data.toList)) ∧ w = w' := by
  unfold maxLen at hs
  go_enter Tryz.func140, Tryz.ntmps140
  go_wp2
  go_loop [8] (fun i => ∃ k : Nat, k ≤ s.size ∧ i = .int .i64 k ∧ Hid (allB p s.data.toList = allB p (s.data.toList.drop k))) (fun i => s.size - (intOf i).toNat)
  case atStart => exact ⟨0, Nat.zero_le _, rfl, rfl⟩
  case round =>
    obtain ⟨k, hk, rfl, hB⟩ := hrel
    by_cases hlt : k < s.size
    · have hd := drop_cons s k hlt
      have hD := Lib.hid hd; clear hd
      by_cases hpk : p s[k].toNat = true
      · go_wp2_with fail
        refine (hp _ _ (by omega) (byte_lt _)).mono ?_
        rintro e w' ⟨rfl, rfl⟩
        go_wp2_with fail
        go_round
        case rel => exact ⟨k + 1, by omega, by go_num, by rw [hB.out, hD.out, allB_cons, hpk, Bool.true_and]; rfl⟩
        case measure => simp [intOf]; omega
      · have hpk : p s[k].toNat = false := by simpa using hpk
        go_wp2_with fail
        refine (hp _ _ (by omega) (byte_lt _)).mono ?_
        rintro e w' ⟨rfl, rfl⟩
        go_wp2_with fail
        go_ret
        exact ⟨ret_bool (by rw [hB.out, hD.out, allB_cons, hpk, Bool.false_and]), rfl⟩
    · go_wp2
      go_ret
      exact ⟨ret_bool (by rw [hB.out, drop_end s k (by omega)]; rfl), rfl⟩

set_option maxHeartbeats 400000 in
theorem token_run (s : ByteArray) (a : Nat) (g : Nat) (p : Int → Bool) (w : World) (hp : Tells g p) (eg : ∀ args w, (callFunc g args).run Tryz.prog w = .ok (.enter g args) w) (hs : s.size ≤ maxLen) (ha : a ≤ s.size) :
    Calls Tryz.prog 135 #[.string s, .int .i64 a, .func (.func g) #[] #[]] w fun e w' => e = .returned (.int .i64 (runB p (s.data.toList.drop a))) ∧ w = w' := by
  unfold maxLen at hs
  go_enter Tryz.func135, Tryz.ntmps135
  go_wp2
  go_loop [7] (fun i => ∃ k : Nat, a ≤ k ∧ k ≤ s.size ∧ i = .int .i64 k ∧ Hid (runB p (s.data.toList.drop a) + a = runB p (s.data.toList.drop k) + k)) (fun i => s.size - (intOf i).toNat)
  case atStart => exact ⟨a, Nat.le_refl _, ha, rfl, rfl⟩
  case round =>
    obtain ⟨k, hak, hk, rfl, hB⟩ := hrel
    by_cases hlt : k < s.size
    · have hD := Lib.hid (drop_cons s k hlt)
      by_cases hpk : p s[k].toNat = true
      · go_wp2_with fail
        refine (hp _ _ (by omega) (byte_lt _)).mono ?_
        rintro e w' ⟨rfl, rfl⟩
        go_wp2_with fail
        go_round
        case rel => exact ⟨k + 1, by omega, by omega, by go_num, by have := hB.out; rw [hD.out, runB_cons, if_pos hpk] at this; show _ = _; omega⟩
        case measure => simp [intOf]; omega
      · have hpk : p s[k].toNat = false := by simpa using hpk
        have hF : Hid (runB p (s.data.toList.drop a) + a = k) := by have := hB.out; rw [hD.out, runB_cons, if_neg (by simp [hpk])] at this; show _ = _; omega
        go_wp2_with fail
        refine (hp _ _ (by omega) (byte_lt _)).mono ?_
        rintro e w' ⟨rfl, rfl⟩
        go_wp2_with fail
        go_ret
        exact ⟨ret_int (by have := hF.out; omega), rfl⟩
    · have hF : Hid (runB p (s.data.toList.drop a) + a = k) := by have := hB.out; rw [drop_end s k (by omega)] at this; simp [runB] at this; show _ = _; unfold runB; omega
      go_wp2_with fail
      go_ret
      exact ⟨ret_int (by have := hF.out; omega), rfl⟩
end Go.Proofs.YtiojnbhomjkkgaaGreatDoor

namespace Go.Proofs.YtiojnbhomjkkgaaGreatDoor
open Go.RowKit

/-- The cells of a reader. -/
def rdCells (s : ByteArray) (i : Nat) (file line col : Int) : Array Value := #[.string s, .int .i64 i, .int .i64 file, .int .i64 line, .int .i64 col]

theorem rd_cells {w : World} {b : Nat} {s : ByteArray} {i : Nat} {file line col : Int} {t : TypeId} (h : Holds w b (rdCells s i file line col) t) :
    w.cell? ⟨b, 0, none⟩ = some (.string s) ∧ w.cell? ⟨b, 1, none⟩ = some (.int .i64 i) ∧ w.cell? ⟨b, 2, none⟩ = some (.int .i64 file) ∧ w.cell? ⟨b, 3, none⟩ = some (.int .i64 line) ∧ w.cell? ⟨b, 4, none⟩ = some (.int .i64 col) ∧
    w.frozen? ⟨b, 0, none⟩ = false ∧ w.frozen? ⟨b, 1, none⟩ = false ∧ w.frozen? ⟨b, 2, none⟩ = false ∧ w.frozen? ⟨b, 3, none⟩ = false ∧ w.frozen? ⟨b, 4, none⟩ = false :=
  ⟨h.cell 0, h.cell 1, h.cell 2, h.cell 3, h.cell 4, h.free 0, h.free 1, h.free 2, h.free 3, h.free 4⟩

set_option maxHeartbeats 400000 in
theorem token_rest (s : ByteArray) (i : Nat) (file line col : Int) (b : Nat) (w : World) (h : Holds w b (rdCells s i file line col) 119) (hi : i ≤ s.size) (_hs : s.size ≤ maxLen) :
    Calls Tryz.prog 76 #[.pointer (some ⟨b, 0, none⟩)] w fun e w' => e = .returned (.string (s.extract i s.size)) ∧ ∃ n, w' = w.drewN n := by
  have hs := _hs
  unfold maxLen at hs
  obtain ⟨c0, c1, c2, c3, c4, f0, f1, f2, f3, f4⟩ := rd_cells h
  go_enter Tryz.func76, Tryz.ntmps76
  go_wp2
  go_quiet (fail)
  go_wp2
  go_ret
  exact ⟨rfl, _, rfl⟩

theorem adv_step (s : ByteArray) (i j : Nat) (h : i ≤ j) (hj : j < s.size) (p : Int × Int) :
    adv ((s.data.toList.drop i).take (j + 1 - i)) p = if s[j].toNat = 10 then ((adv ((s.data.toList.drop i).take (j - i)) p).1 + 1, 1) else ((adv ((s.data.toList.drop i).take (j - i)) p).1, (adv ((s.data.toList.drop i).take (j - i)) p).2 + 1) := by
  have e : (s.data.toList.drop i).take (j + 1 - i) = (s.data.toList.drop i).take (j - i) ++ [s[j]] := by
    rw [show j + 1 - i = (j - i) + 1 from by omega, List.take_succ_eq_append_getElem (by simp; omega)]
    congr 2
    rw [List.getElem_drop]
    simp only [show i + (j - i) = j from by omega]; rfl
  rw [e, adv_snoc]

set_option maxHeartbeats 1000000 in
theorem token_skip (s : ByteArray) (i n : Nat) (file line col : Int) (b : Nat) (w : World) (h : Holds w b (rdCells s i file line col) 119) (hi : i + n ≤ s.size) (hs : s.size ≤ 140737488355328)
    (hl : 1 ≤ line) (hl' : line ≤ i + 1) (hc : 1 ≤ col) (hc' : col ≤ i + 1) :
    Calls Tryz.prog 78 #[.pointer (some ⟨b, 0, none⟩), .int .i64 n] w fun e w' => e = .returned (.tuple #[]) ∧
      Holds w' b (rdCells s (i + n) file (adv ((s.data.toList.drop i).take n) (line, col)).1 (adv ((s.data.toList.drop i).take n) (line, col)).2) 119 ∧ Keeps (· = b) w w' := by
  go_enter Tryz.func78, Tryz.ntmps78
  go_wp2
  go_loopw [1] (fun n' wr => ∃ j m : Nat, ∃ l c : Int, i ≤ j ∧ j + m = i + n ∧ n' = .int .i64 m ∧ 1 ≤ l ∧ l ≤ j + 1 ∧ 1 ≤ c ∧ c ≤ j + 1 ∧ Hid ((l, c) = adv ((s.data.toList.drop i).take (j - i)) (line, col)) ∧ Holds wr b (rdCells s j file l c) 119 ∧ Keeps (· = b) w wr) (fun n' _ => (intOf n').toNat)
  case atStart => exact ⟨i, n, line, col, Nat.le_refl _, rfl, rfl, hl, hl', hc, hc', by simp [Hid, adv], h, Keeps.refl _ _⟩
  case round =>
    obtain ⟨j, m, l, c, hij, hjm, rfl, hl1, hl2, hc1, hc2, hA, hH, hK⟩ := hrel
    obtain ⟨c0, c1, c2, c3, c4, f0, f1, f2, f3, f4⟩ := rd_cells hH
    by_cases hm : 0 < m
    · have hjs : j < s.size := by omega
      have hS := Lib.hid (adv_step s i j hij hjs (line, col))
      have hmb : m ≤ 140737488355328 := by omega
      have hjm' := Lib.hid hjm; clear hjm
      have hA' := hA.out
      by_cases h10 : s[j].toNat = 10
      · have h10' : ((s[j].toNat : Int) == 10) = true := by simp [h10]
        have hN : Hid (((l + 1 : Int), (1 : Int)) = adv ((s.data.toList.drop i).take (j + 1 - i)) (line, col)) := by show _ = _; rw [hS.out, if_pos h10, ← hA']
        clear h10 hS hA'
        go_wp2
        go_quiet (fail)
        go_wp2
        go_roundw
        case rel =>
          exact ⟨j + 1, m - 1, l + 1, 1, by omega, by have := hjm'.out; omega, by rw [show ((m : Int) - 1) = ((m - 1 : Nat) : Int) from by omega], by omega, by omega, by omega, by omega, hN,
            (((((hH.set 4 _).drewN nq).set 3 _).set 4 _).set 1 _), ((((hK.setCell (.inr rfl) _).drewN nq).setCell (.inr rfl) _).setCell (.inr rfl) _).setCell (.inr rfl) _⟩
        case measure => simp [intOf]; omega
      · have h10' : ((s[j].toNat : Int) == 10) = false := by simp; omega
        have hN : Hid ((l, c + 1) = adv ((s.data.toList.drop i).take (j + 1 - i)) (line, col)) := by show _ = _; rw [hS.out, if_neg h10, ← hA']
        clear h10 hS hA'
        go_wp2
        go_quiet (fail)
        go_wp2
        go_roundw
        case rel =>
          exact ⟨j + 1, m - 1, l, c + 1, by omega, by have := hjm'.out; omega, by rw [show ((m : Int) - 1) = ((m - 1 : Nat) : Int) from by omega], by omega, by omega, by omega, by omega, hN,
            (((hH.set 4 _).drewN nq).set 1 _), ((hK.setCell (.inr rfl) _).drewN nq).setCell (.inr rfl) _⟩
        case measure => simp [intOf]; omega
    · have : m = 0 := by omega
      subst this
      go_wp2
      go_end0
      obtain rfl : j = i + n := by omega
      refine ⟨rfl, ?_, hK⟩
      have := hA.out
      rw [show i + n - i = n from by omega] at this
      rw [← this]; exact hH
end Go.Proofs.YtiojnbhomjkkgaaGreatDoor

namespace Go.Proofs.YtiojnbhomjkkgaaGreatDoor
open Go.RowKit

set_option maxHeartbeats 400000 in
theorem tells_name : Tells 139 nameB := by
  intro c w h0 h1
  have hm := Lib.hid (idx_mem [44, 46, 43, 45, 63, 35, 64] c h0 h1)
  go_enter Tryz.func139, Tryz.ntmps139
  by_cases hw : wordB c = true
  · go_wp2_with (first | (go_at_call 141; refine (token_word _ _).mono ?_; rintro e w' ⟨rfl, rfl⟩) | (go_at_call 133; refine (Tryz.strings_IndexByte _ _ _).mono ?_; rintro e w' ⟨rfl, rfl⟩))
    go_ret
    exact ⟨ret_bool (by unfold nameB; rw [hw]; rfl), rfl⟩
  · have hw : wordB c = false := by simpa using hw
    go_wp2_with (first | (go_at_call 141; refine (token_word _ _).mono ?_; rintro e w' ⟨rfl, rfl⟩) | (go_at_call 133; refine (Tryz.strings_IndexByte _ _ _).mono ?_; rintro e w' ⟨rfl, rfl⟩))
    go_ret
    exact ⟨ret_bool (by unfold nameB punctB; rw [hw, Bool.false_or, ← hm.out]), rfl⟩

theorem enters_name : ∀ args w, (callFunc 139 args).run Tryz.prog w = .ok (.enter 139 args) w := enters_of Tryz.func139 (by kernel_rfl) rfl

set_option maxHeartbeats 800000 in
theorem token_Name (s : ByteArray) (w : World) (hs : s.size ≤ maxLen) :
    Calls Tryz.prog 111 #[.string s] w fun e w' => e = .returned (.bool (nameT s.data.toList)) ∧ w = w' := by
  have hs' := hs
  unfold maxLen at hs'
  have hF := Lib.hid (show nameT s.data.toList = (decide (1 ≤ s.size ∧ s.size ≤ 31) && (letterB (s.data.toList.headD 0).toNat || decide (((s.data.toList.headD 0).toNat : Int) = 95)) && allB nameB s.data.toList) from by unfold nameT; simp)
  by_cases h1 : 1 ≤ s.size
  · by_cases h2 : s.size ≤ 31
    · have hH := Lib.hid (head_of s h1)
      by_cases hl : letterB s[0].toNat = true
      · go_enter Tryz.func111, Tryz.ntmps111
        go_wp2_with (first | (go_at_call 138; refine (token_letter _ _).mono ?_; rintro e w' ⟨rfl, rfl⟩) | (go_at_call 140; refine (token_all _ 139 nameB _ tells_name enters_name hs).mono ?_; rintro e w' ⟨rfl, rfl⟩))
        go_ret
        exact ⟨ret_bool (by rw [hF.out, hH.out, hl, decide_eq_true ⟨h1, h2⟩]; rfl), rfl⟩
      · have hl : letterB s[0].toNat = false := by simpa using hl
        by_cases h95 : (s[0].toNat : Int) = 95
        · have h95' : ((s[0].toNat : Int) == 95) = true := by simpa using h95
          have H95 := Lib.hid h95; clear h95
          go_enter Tryz.func111, Tryz.ntmps111
          go_wp2_with (first | (go_at_call 138; refine (token_letter _ _).mono ?_; rintro e w' ⟨rfl, rfl⟩) | (go_at_call 140; refine (token_all _ 139 nameB _ tells_name enters_name hs).mono ?_; rintro e w' ⟨rfl, rfl⟩))
          go_ret
          exact ⟨ret_bool (by rw [hF.out, hH.out, hl, decide_eq_true ⟨h1, h2⟩, decide_eq_true H95.out]; rfl), rfl⟩
        · have h95' : ((s[0].toNat : Int) == 95) = false := by simpa using h95
          have H95 := Lib.hid h95; clear h95
          go_enter Tryz.func111, Tryz.ntmps111
          go_wp2_with (first | (go_at_call 138; refine (token_letter _ _).mono ?_; rintro e w' ⟨rfl, rfl⟩))
          go_ret
          exact ⟨ret_bool (by rw [hF.out, hH.out, hl, decide_eq_true ⟨h1, h2⟩, decide_eq_false H95.out]; rfl), rfl⟩
    · go_enter Tryz.func111, Tryz.ntmps111
      go_wp2_with fail
      go_ret
      exact ⟨ret_bool (by rw [hF.out, decide_eq_false (by omega)]; rfl), rfl⟩
  · go_enter Tryz.func111, Tryz.ntmps111
    go_wp2_with fail
    go_ret
    exact ⟨ret_bool (by rw [hF.out, decide_eq_false (by omega)]; rfl), rfl⟩
end Go.Proofs.YtiojnbhomjkkgaaGreatDoor

namespace Go.Proofs.YtiojnbhomjkkgaaGreatDoor
open Go.RowKit

set_option maxHeartbeats 400000 in
theorem ref_letter (c : Int) (w : World) :
    Calls Tryz.prog 82 #[.int .u8 c] w fun e w' => e = .returned (.bool (letterB c)) ∧ w = w' := by
  go_enter Tryz.func82, Tryz.ntmps82
  go_wp2
  all_goals (go_ret; exact ⟨ret_bool (by unfold letterB; rw [Bool.eq_iff_iff]; simp <;> omega), rfl⟩)

set_option maxHeartbeats 400000 in
theorem ref_word (c : Int) (w : World) :
    Calls Tryz.prog 147 #[.int .u8 c] w fun e w' => e = .returned (.bool (wordB c)) ∧ w = w' := by
  go_enter Tryz.func147, Tryz.ntmps147
  go_wp2_with (first | (go_at_call 82; refine (ref_letter _ _).mono ?_; rintro e w' ⟨rfl, rfl⟩))
  all_goals (go_ret; exact ⟨ret_bool (by unfold wordB digitB; rw [Bool.eq_iff_iff]; simp [*] <;> omega), rfl⟩)

theorem memB_cons (x : UInt8) (l : List UInt8) (c : Int) : memB (x :: l) c = (decide ((x.toNat : Int) = c) || memB l c) := by simp [memB]

set_option maxHeartbeats 400000 in
theorem ref_among (c : Int) (s : ByteArray) (w : World) (hs : s.size ≤ maxLen) :
    Calls Tryz.prog 79 #[.int .u8 c, .string s] w fun e w' => e = .returned (.bool (memB s.data.toList c)) ∧ w = w' := by
  unfold maxLen at hs
  go_enter Tryz.func79, Tryz.ntmps79
  go_wp2
  go_loop [5] (fun i => ∃ k : Nat, k ≤ s.size ∧ i = .int .i64 k ∧ Hid (memB s.data.toList c = memB (s.data.toList.drop k) c)) (fun i => s.size - (intOf i).toNat)
  case atStart => exact ⟨0, Nat.zero_le _, rfl, rfl⟩
  case round =>
    obtain ⟨k, hk, rfl, hB⟩ := hrel
    by_cases hlt : k < s.size
    · have hD := Lib.hid (drop_cons s k hlt)
      by_cases hc : (s[k].toNat : Int) = c
      · have hc' : ((s[k].toNat : Int) == c) = true := by simpa using hc
        have HC := Lib.hid hc; clear hc
        go_wp2_with fail
        go_ret
        exact ⟨ret_bool (by rw [hB.out, hD.out, memB_cons, decide_eq_true HC.out]; rfl), rfl⟩
      · have hc' : ((s[k].toNat : Int) == c) = false := by simpa using hc
        have HC := Lib.hid hc; clear hc
        go_wp2_with fail
        go_round
        case rel => exact ⟨k + 1, by omega, by go_num, by show _ = _; rw [hB.out, hD.out, memB_cons, decide_eq_false HC.out, Bool.false_or]⟩
        case measure => simp [intOf]; omega
    · go_wp2
      go_ret
      exact ⟨ret_bool (by rw [hB.out, drop_end s k (by omega)]; rfl), rfl⟩

set_option maxHeartbeats 400000 in
theorem ref_name (c : Int) (w : World) :
    Calls Tryz.prog 148 #[.int .u8 c] w fun e w' => e = .returned (.bool (nameB c)) ∧ w = w' := by
  go_enter Tryz.func148, Tryz.ntmps148
  cases hw : wordB c
  all_goals
    go_wp2_with (first | (go_at_call 147; refine (ref_word _ _).mono ?_; rintro e w' ⟨rfl, rfl⟩) | (go_at_call 79; refine (ref_among _ _ _ (by decide)).mono ?_; rintro e w' ⟨rfl, rfl⟩))
    go_ret
    exact ⟨ret_bool (by unfold nameB punctB; rw [hw]; rfl), rfl⟩

set_option maxHeartbeats 800000 in
theorem ref_Name (s : ByteArray) (w : World) (hs : s.size ≤ maxLen) :
    Calls Tryz.prog 177 #[.string s] w fun e w' => e = .returned (.bool (nameT s.data.toList)) ∧ w = w' := by
  have hs' := hs
  unfold maxLen at hs'
  have hF := Lib.hid (show nameT s.data.toList = (decide (1 ≤ s.size ∧ s.size ≤ 31) && (letterB (s.data.toList.headD 0).toNat || decide (((s.data.toList.headD 0).toNat : Int) = 95)) && allB nameB s.data.toList) from by unfold nameT; simp)
  by_cases h1 : 1 ≤ s.size
  · by_cases h2 : s.size ≤ 31
    · have hH := Lib.hid (head_of s h1)
      have hcs : (letterB s[0].toNat = true ∨ letterB s[0].toNat = false ∧ ((s[0].toNat : Int) != 95) = false) ∨ letterB s[0].toNat = false ∧ ((s[0].toNat : Int) != 95) = true := by
        cases letterB s[0].toNat with
        | true => exact .inl (.inl rfl)
        | false =>
          cases h : ((s[0].toNat : Int) != 95)
          · exact .inl (.inr ⟨rfl, rfl⟩)
          · exact .inr ⟨rfl, rfl⟩
      rcases hcs with hcs | ⟨c1, c2⟩
      · have hF2 := Lib.hid (show nameT s.data.toList = allB nameB s.data.toList from by
          rw [hF.out, hH.out, decide_eq_true ⟨h1, h2⟩]
          rcases hcs with h | ⟨h, h'⟩
          · rw [h]; rfl
          · rw [h, decide_eq_true (by simpa using h')]; rfl)
        rcases hcs with c1 | ⟨c1, c2⟩
        all_goals
          go_enter Tryz.func177, Tryz.ntmps177
          go_wp2_with (first | (go_at_call 82; refine (ref_letter _ _).mono ?_; rintro e w' ⟨rfl, rfl⟩))
          go_loop [3] (fun i => ∃ k : Nat, k ≤ s.size ∧ i = .int .i64 k ∧ Hid (allB nameB s.data.toList = allB nameB (s.data.toList.drop k))) (fun i => s.size - (intOf i).toNat)
          case atStart => exact ⟨0, Nat.zero_le _, rfl, rfl⟩
          case round =>
            obtain ⟨k, hk, rfl, hB⟩ := hrel
            by_cases hlt : k < s.size
            · have hD := Lib.hid (drop_cons s k hlt)
              cases hpk : nameB s[k].toNat
              · go_wp2_with (first | (go_at_call 148; refine (ref_name _ _).mono ?_; rintro e w' ⟨rfl, rfl⟩))
                go_ret
                exact ⟨ret_bool (by rw [hF2.out, hB.out, hD.out, allB_cons, hpk, Bool.false_and]), rfl⟩
              · go_wp2_with (first | (go_at_call 148; refine (ref_name _ _).mono ?_; rintro e w' ⟨rfl, rfl⟩))
                go_round
                case rel => exact ⟨k + 1, by omega, by go_num, by show _ = _; rw [hB.out, hD.out, allB_cons, hpk, Bool.true_and]⟩
                case measure => simp [intOf]; omega
            · go_wp2
              go_ret
              exact ⟨ret_bool (by rw [hF2.out, hB.out, drop_end s k (by omega)]; rfl), rfl⟩
      · go_enter Tryz.func177, Tryz.ntmps177
        go_wp2_with (first | (go_at_call 82; refine (ref_letter _ _).mono ?_; rintro e w' ⟨rfl, rfl⟩))
        go_ret
        exact ⟨ret_bool (by rw [hF.out, hH.out, c1, decide_eq_false (p := ((s[0].toNat : Int) = 95)) (by simpa using c2)]; simp), rfl⟩
    · go_enter Tryz.func177, Tryz.ntmps177
      go_wp2_with fail
      go_ret
      exact ⟨ret_bool (by rw [hF.out, decide_eq_false (by omega)]; rfl), rfl⟩
  · go_enter Tryz.func177, Tryz.ntmps177
    go_wp2_with fail
    go_ret
    exact ⟨ret_bool (by rw [hF.out, decide_eq_false (by omega)]; rfl), rfl⟩
end Go.Proofs.YtiojnbhomjkkgaaGreatDoor
