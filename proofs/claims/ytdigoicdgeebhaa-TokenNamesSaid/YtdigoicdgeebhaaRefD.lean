/- Contracts of the reference of token: run, slashed. -/
import Derived.Test.YtdigoicdgeebhaaRefC
import Derived.Deep.LoopGhost
namespace Go.Proofs.Ytdigoicdgeebhaa
open Go.RowKit

theorem getD_at (s : ByteArray) (n : Nat) (h : n < s.size) : s.data.toList.getD n 0 = s[n] := by
  rw [List.getD_eq_getElem?_getD, List.getElem?_eq_getElem (by simpa using h)]; rfl
/-- What run counts. -/
def runK (nm : Bool) (c : Int) : Bool := if nm = true then nameB c else wordB c
theorem run_yes {p : Int → Bool} {s : ByteArray} {a k : Nat} {R : Nat} (h : a + k < s.size) (hR : R = runB p (s.data.toList.drop (a + k)) + k) (hp : p s[a + k].toNat = true) : R = runB p (s.data.toList.drop (a + (k + 1))) + (k + 1) := by
  rw [hR, drop_cons s _ h, runB_cons, if_pos hp, Nat.add_assoc a k 1]; omega
theorem run_no {p : Int → Bool} {s : ByteArray} {a k : Nat} {R : Nat} (h : a + k < s.size) (hR : R = runB p (s.data.toList.drop (a + k)) + k) (hp : p s[a + k].toNat = false) : R = k := by
  rw [hR, drop_cons s _ h, runB_cons, if_neg (by simp [hp])]; omega
theorem run_end {p : Int → Bool} {s : ByteArray} {a k : Nat} {R : Nat} (h : s.size ≤ a + k) (hR : R = runB p (s.data.toList.drop (a + k)) + k) : R = k := by
  rw [hR, drop_end s _ h]; simp [runB]

set_option maxHeartbeats 2000000 in
theorem ref_run (s : ByteArray) (a : Nat) (nm : Bool) (w : World) (hs : s.size ≤ 140737488355328) (ha : a ≤ s.size) :
    Calls Try.prog 55 #[.string s, .int .i64 a, .bool nm] w fun e w' => e = .returned (.int .i64 (runB (runK nm) (s.data.toList.drop a))) ∧ w = w' := by
  generalize hR : runB (runK nm) (s.data.toList.drop a) = R
  have HR := Lib.hid hR; clear hR
  go_enter Try.func55, Try.ntmps55
  go_wp2
  go_loopg [7] (s.size) (fun f i wr => ∃ k : Nat, a + k ≤ s.size ∧ s.size ≤ a + k + f ∧ i = .int .i64 k ∧ Hid (R = runB (runK nm) (s.data.toList.drop (a + k)) + k) ∧ w = wr)
  case atStart => exact ⟨0, by omega, by omega, rfl, HR.out.symm, rfl⟩
  case round =>
    obtain ⟨k, hk, hf, rfl, hB, rfl⟩ := hrel
    by_cases hlt : a + k < s.size
    · cases nm
      · cases hw : wordB s[a + k].toNat
        · have hF := Lib.hid (run_no hlt hB.out hw)
          go_wp2_with (first | (go_at_call 59; refine (ref_word _ _).mono ?_; rintro e w' ⟨rfl, rfl⟩))
          go_ret
          exact ⟨ret_int (by rw [hF.out]), rfl⟩
        · have hF := Lib.hid (run_yes hlt hB.out hw)
          go_wp2_with (first | (go_at_call 59; refine (ref_word _ _).mono ?_; rintro e w' ⟨rfl, rfl⟩))
          go_roundg (gk - 1)
          case measure => omega
          case rel => exact ⟨k + 1, by omega, by omega, by go_num, hF.out, rfl⟩
      · cases hw : wordB s[a + k].toNat
        · cases hn : nameB s[a + k].toNat
          · have hF := Lib.hid (run_no hlt hB.out hn)
            go_wp2_with (first | (go_at_call 59; refine (ref_word _ _).mono ?_; rintro e w' ⟨rfl, rfl⟩) | (go_at_call 39; refine (ref_name _ _).mono ?_; rintro e w' ⟨rfl, rfl⟩))
            go_ret
            exact ⟨ret_int (by rw [hF.out]), rfl⟩
          · have hF := Lib.hid (run_yes hlt hB.out hn)
            go_wp2_with (first | (go_at_call 59; refine (ref_word _ _).mono ?_; rintro e w' ⟨rfl, rfl⟩) | (go_at_call 39; refine (ref_name _ _).mono ?_; rintro e w' ⟨rfl, rfl⟩))
            go_roundg (gk - 1)
            case measure => omega
            case rel => exact ⟨k + 1, by omega, by omega, by go_num, hF.out, rfl⟩
        · have hF := Lib.hid (run_yes hlt hB.out (by unfold runK; rw [if_pos rfl]; unfold nameB; rw [hw]; rfl))
          go_wp2_with (first | (go_at_call 59; refine (ref_word _ _).mono ?_; rintro e w' ⟨rfl, rfl⟩))
          go_roundg (gk - 1)
          case measure => omega
          case rel => exact ⟨k + 1, by omega, by omega, by go_num, hF.out, rfl⟩
    · have hF := Lib.hid (run_end (by omega) hB.out)
      go_wp2_with fail
      go_ret
      exact ⟨ret_int (by rw [hF.out]), rfl⟩

/-- The word between slashes: how many bytes, 0 if there is none. -/
def slashV (l : List UInt8) : Nat := if runB smallB (l.drop 1) > 0 ∧ runB smallB (l.drop 1) + 1 < l.length ∧ (l.getD (runB smallB (l.drop 1) + 1) 0).toNat = 47 then runB smallB (l.drop 1) + 2 else 0
theorem slash_end {s : ByteArray} {a k R : Nat} (ha : a < s.size) (hR : slashV (s.data.toList.drop a) = R) (hk : runB smallB (s.data.toList.drop (a + 1)) + 1 = k) :
    (¬ 1 < k ∧ Hid (R = 0)) ∨ (1 < k ∧ ¬ a + k < s.size ∧ Hid (R = 0)) ∨ (∃ h : a + k < s.size, 1 < k ∧ ((s[a + k].toNat : Int) == 47) = true ∧ Hid (R = k + 1)) ∨ (∃ h : a + k < s.size, 1 < k ∧ ((s[a + k].toNat : Int) == 47) = false ∧ Hid (R = 0)) := by
  subst hk
  unfold slashV at hR
  rw [List.drop_drop] at hR
  generalize runB smallB (s.data.toList.drop (a + 1)) = n at hR
  have hl : (s.data.toList.drop a).length = s.size - a := by simp
  rw [hl] at hR
  by_cases h1 : 0 < n
  · by_cases h2 : a + (n + 1) < s.size
    · have hg : (s.data.toList.drop a).getD (n + 1) 0 = s[a + (n + 1)] := by
        rw [← getD_at s (a + (n + 1)) h2, List.getD_eq_getElem?_getD, List.getD_eq_getElem?_getD, List.getElem?_drop]
      rw [hg] at hR
      by_cases h3 : s[a + (n + 1)].toNat = 47
      · rw [if_pos ⟨h1, by omega, h3⟩] at hR
        exact .inr (.inr (.inl ⟨h2, by omega, by simp [h3], by show _ = _; omega⟩))
      · rw [if_neg (by rintro ⟨_, _, h⟩; exact h3 h)] at hR
        exact .inr (.inr (.inr ⟨h2, by omega, by simp; omega, by show _ = _; omega⟩))
    · rw [if_neg (by omega)] at hR
      exact .inr (.inl ⟨by omega, h2, hR.symm⟩)
  · rw [if_neg (by omega)] at hR
    exact .inl ⟨by omega, hR.symm⟩

set_option maxHeartbeats 4000000 in
theorem ref_slashed (s : ByteArray) (a : Nat) (w : World) (hs : s.size ≤ 140737488355328) (ha : a < s.size) :
    Calls Try.prog 58 #[.string s, .int .i64 a] w fun e w' => e = .returned (.int .i64 (slashV (s.data.toList.drop a))) ∧ w = w' := by
  generalize hR : slashV (s.data.toList.drop a) = R
  have HR := Lib.hid hR; clear hR
  generalize hM : runB smallB (s.data.toList.drop (a + 1)) + 1 = M
  have HM := Lib.hid hM; clear hM
  go_enter Try.func58, Try.ntmps58
  go_wp2
  go_loopg [5] (s.size) (fun f i wr => ∃ k : Nat, 1 ≤ k ∧ a + k ≤ s.size ∧ s.size ≤ a + k + f ∧ i = .int .i64 k ∧ Hid (M = runB smallB (s.data.toList.drop (a + k)) + k) ∧ w = wr)
  case atStart => exact ⟨1, by omega, by omega, by omega, rfl, HM.out.symm, rfl⟩
  case round =>
    obtain ⟨k, hk1, hk, hf, rfl, hB, rfl⟩ := hrel
    by_cases hlt : a + k < s.size
    · have hb := byte_lt s[a + k]
      by_cases hsm : smallB s[a + k].toNat = true
      · have hF := Lib.hid (run_yes hlt hB.out hsm)
        have hcs : 97 ≤ (s[a + k].toNat : Int) ∧ (s[a + k].toNat : Int) ≤ 122 ∨ (s[a + k].toNat : Int) < 97 ∧ ((s[a + k].toNat : Int) == 45) = true := by
          unfold smallB at hsm; simp only [decide_eq_true_eq, beq_iff_eq] at hsm ⊢; omega
        clear hsm
        rcases hcs with ⟨c1, c2⟩ | ⟨c1, c2⟩
        all_goals
          go_wp2_with fail
          go_roundg (gk - 1)
          case measure => omega
          case rel => exact ⟨k + 1, by omega, by omega, by omega, by go_num, hF.out, rfl⟩
      · have hsm : smallB s[a + k].toNat = false := by simpa using hsm
        have hF := run_no hlt hB.out hsm
        have hcs : (97 ≤ (s[a + k].toNat : Int) ∧ 122 < (s[a + k].toNat : Int) ∧ ((s[a + k].toNat : Int) == 45) = false) ∨ (s[a + k].toNat : Int) < 97 ∧ ((s[a + k].toNat : Int) == 45) = false := by
          unfold smallB at hsm; simp only [decide_eq_false_iff_not, beq_eq_false_iff_ne] at hsm ⊢; omega
        clear hsm
        have hen := slash_end ha HR.out (HM.out.trans hF)
        clear hF
        rcases hcs with ⟨c1, c2, c3⟩ | ⟨c1, c2⟩
        all_goals
          rcases hen with ⟨e1, hF⟩ | ⟨e1, e2, hF⟩ | ⟨_, e1, e2, hF⟩ | ⟨_, e1, e2, hF⟩
          all_goals first
          | (exfalso; omega)
          | (go_wp2_with fail
             go_ret
             exact ⟨ret_int (by rw [hF.out]; rfl), rfl⟩)
    · have hF := run_end (by omega) hB.out
      have hen := slash_end ha HR.out (HM.out.trans hF)
      clear hF
      rcases hen with ⟨e1, hF⟩ | ⟨e1, e2, hF⟩ | ⟨_, e1, e2, hF⟩ | ⟨_, e1, e2, hF⟩
      all_goals first
      | (exfalso; omega)
      | (go_wp2_with fail
         go_ret
         exact ⟨ret_int (by rw [hF.out]; rfl), rfl⟩)
end Go.Proofs.Ytdigoicdgeebhaa
