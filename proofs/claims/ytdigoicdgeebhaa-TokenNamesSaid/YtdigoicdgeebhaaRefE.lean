/- Contracts of the reference of token: escape. -/
import Derived.Test.YtdigoicdgeebhaaRefD
namespace Go.Proofs.Ytdigoicdgeebhaa
open Go.RowKit

/-- What the reference's escape gives. -/
def escR (E : Int × Nat × Int) : Value := .tuple #[.int .u8 E.1, .int .i64 (if E.2.2 = 0 then (E.2.1 : Int) + 1 else 0), .int .i64 E.2.2]
theorem digV_neg {c : Int} (h : hexV c < 0) : digV c = 99 := by unfold digV; rw [if_pos h]
theorem digV_pos {c : Int} (h : ¬ hexV c < 0) : digV c = hexV c := by unfold digV; rw [if_neg h]

set_option maxHeartbeats 4000000 in
theorem ref_escape (s : ByteArray) (i : Nat) (w : World) (hs : s.size ≤ 140737488355328) (hi : i < s.size) :
    Calls Try.prog 68 #[.string s, .int .i64 i] w fun e w' => e = .returned (escR (esc (s.data.toList.drop (i + 1)))) ∧ ∃ n, w' = w.drewN n := by
  generalize hE : esc (s.data.toList.drop (i + 1)) = E
  have HE := Lib.hid hE; clear hE
  by_cases hlt : i + 1 < s.size
  · have hD := drop_cons s (i + 1) hlt
    by_cases h10 : s[i + 1].toNat = 10
    · have h10' : ((s[i + 1].toNat : Int) == 10) = true := by simp [h10]
      have hF := Lib.hid (show E = (0, 0, 21) from by rw [← HE.out, hD]; simp [esc, h10])
      clear h10 hD
      go_enter Try.func68, Try.ntmps68
      go_wp2_with fail
      go_ret3
      exact ⟨by rw [hF.out]; rfl, 0, rfl⟩
    · have h10' : ((s[i + 1].toNat : Int) == 10) = false := by simp; omega
      have hcs : ((s[i + 1].toNat : Int) == 110) = true ∧ Hid (E = (10, 1, 0)) ∨
          ((s[i + 1].toNat : Int) == 110) = false ∧ ((s[i + 1].toNat : Int) == 116) = true ∧ Hid (E = (9, 1, 0)) ∨
          ((s[i + 1].toNat : Int) == 110) = false ∧ ((s[i + 1].toNat : Int) == 116) = false ∧ ((s[i + 1].toNat : Int) == 34) = true ∧ Hid (E = ((s[i + 1].toNat : Int), 1, 0)) ∨
          ((s[i + 1].toNat : Int) == 110) = false ∧ ((s[i + 1].toNat : Int) == 116) = false ∧ ((s[i + 1].toNat : Int) == 34) = false ∧ ((s[i + 1].toNat : Int) == 92) = true ∧ Hid (E = ((s[i + 1].toNat : Int), 1, 0)) ∨
          ((s[i + 1].toNat : Int) == 110) = false ∧ ((s[i + 1].toNat : Int) == 116) = false ∧ ((s[i + 1].toNat : Int) == 34) = false ∧ ((s[i + 1].toNat : Int) == 92) = false ∧ ((s[i + 1].toNat : Int) == 120) = false ∧ Hid (E = (0, 0, 6)) ∨
          ((s[i + 1].toNat : Int) == 110) = false ∧ ((s[i + 1].toNat : Int) == 116) = false ∧ ((s[i + 1].toNat : Int) == 34) = false ∧ ((s[i + 1].toNat : Int) == 92) = false ∧ ((s[i + 1].toNat : Int) == 120) = true ∧ Hid (E = hx2 2 (s.data.toList.drop (i + 2)) 0) := by
        have hF : E = if s[i + 1].toNat = 110 then (10, 1, 0) else if s[i + 1].toNat = 116 then (9, 1, 0) else if s[i + 1].toNat = 34 then (34, 1, 0) else if s[i + 1].toNat = 92 then (92, 1, 0)
            else if s[i + 1].toNat ≠ 120 then (0, 0, 6) else hx2 2 (s.data.toList.drop (i + 2)) 0 := by rw [← HE.out, hD]; simp only [esc]; rw [if_neg h10]
        simp only [Hid, beq_iff_eq, beq_eq_false_iff_ne]
        split at hF
        · left; exact ⟨by omega, hF⟩
        · split at hF
          · right; left; exact ⟨by omega, by omega, hF⟩
          · split at hF
            · right; right; left; exact ⟨by omega, by omega, by omega, by rw [hF]; congr 1; omega⟩
            · split at hF
              · right; right; right; left; exact ⟨by omega, by omega, by omega, by omega, by rw [hF]; congr 1; omega⟩
              · split at hF
                · right; right; right; right; left; exact ⟨by omega, by omega, by omega, by omega, by omega, hF⟩
                · right; right; right; right; right; exact ⟨by omega, by omega, by omega, by omega, by omega, hF⟩
      clear h10 hD
      rcases hcs with ⟨c1, hF⟩ | ⟨c1, c2, hF⟩ | ⟨c1, c2, c3, hF⟩ | ⟨c1, c2, c3, c4, hF⟩ | ⟨c1, c2, c3, c4, c5, hF⟩ | ⟨c1, c2, c3, c4, c5, hF⟩
      rotate_right
      · go_enter Try.func68, Try.ntmps68
        go_wp2_with fail
        go_loopg [7, 8] 3 (fun f x y wr => ∃ k : Nat, ∃ v : Int, 2 ≤ k ∧ k ≤ 4 ∧ 4 ≤ k + f ∧ i + k ≤ s.size ∧ x = .int .i64 v ∧ y = .int .i64 k ∧ 0 ≤ v ∧ v * 256 < 16 ^ k ∧ Hid (E = hx2 (4 - k) (s.data.toList.drop (i + k)) v) ∧ w = wr)
        case atStart => exact ⟨2, 0, by omega, by omega, by omega, by omega, rfl, rfl, by omega, by omega, hF, rfl⟩
        case round =>
          obtain ⟨k, v, hk2, hk4, hf, hks, rfl, rfl, hv0, hv1, hB, rfl⟩ := hrel
          by_cases h4 : k < 4
          · by_cases hlt2 : i + k < s.size
            · have hD := drop_cons s (i + k) hlt2
              by_cases h10 : s[i + k].toNat = 10
              · have h10' : ((s[i + k].toNat : Int) == 10) = true := by simp [h10]
                have hF := Lib.hid (show E = (0, 0, 21) from by rw [hB.out, hD, show 4 - k = (3 - k) + 1 from by omega]; simp [hx2, h10])
                clear h10 hD
                go_wp2_with fail
                go_ret3
                exact ⟨by rw [hF.out]; rfl, 0, rfl⟩
              · have h10' : ((s[i + k].toNat : Int) == 10) = false := by simp; omega
                have hF : E = if hexV s[i + k].toNat < 0 then (0, 0, 6) else hx2 (4 - (k + 1)) (s.data.toList.drop (i + (k + 1))) (16 * v + hexV s[i + k].toNat) := by
                  rw [hB.out, hD, show 4 - k = (4 - (k + 1)) + 1 from by omega]; simp only [hx2]; rw [if_neg h10]; rfl
                have hcon := fun wx => ref_digit s[i + k].toNat wx (by omega) (byte_lt _)
                have hbd := hexV_bd s[i + k].toNat
                by_cases hx : hexV s[i + k].toNat < 0
                · have hF2 := Lib.hid (show E = (0, 0, 6) from by rw [hF, if_pos hx])
                  rw [digV_neg hx] at hcon
                  clear h10 hD hF hx hbd
                  go_wp2_with (first | (go_at_call 67; refine (hcon _).mono ?_; rintro e w' ⟨rfl, rfl⟩))
                  go_ret3
                  exact ⟨by rw [hF2.out]; rfl, 0, rfl⟩
                · rw [digV_pos hx] at hcon
                  have hF2 := Lib.hid (show E = hx2 (4 - (k + 1)) (s.data.toList.drop (i + (k + 1))) (16 * v + hexV s[i + k].toNat) from by rw [hF, if_neg hx])
                  clear h10 hD hF
                  generalize hexV s[i + k].toNat = dv at hF2 hcon hbd hx
                  have h99 : (dv == 99) = false := by rw [beq_eq_false_iff_ne]; omega
                  have hv2 : v ≤ 15 := by have : k = 2 ∨ k = 3 := by omega
                                          rcases this with rfl | rfl <;> omega
                  have hkk : k = 2 ∨ k = 3 := by omega
                  have hnx : (v * 16 + dv) * 256 < 16 ^ (k + 1) := by rcases hkk with rfl | rfl <;> omega
                  clear hkk
                  have HV1 := Lib.hid hv1; clear hv1
                  have HNX := Lib.hid hnx; clear hnx
                  go_wp2_with (first | (go_at_call 67; refine (hcon _).mono ?_; rintro e w' ⟨rfl, rfl⟩))
                  go_roundg (gk - 1)
                  case measure => omega
                  case rel => exact ⟨k + 1, v * 16 + dv, by omega, by omega, by omega, by omega, rfl, by go_num, by omega, HNX.out, by have := hF2.out; rw [Int.mul_comm 16 v] at this; exact this, rfl⟩
            · have hF := Lib.hid (show E = (0, 0, 21) from by rw [hB.out, drop_end s _ (by omega), show 4 - k = (3 - k) + 1 from by omega]; rfl)
              go_wp2_with fail
              go_ret3
              exact ⟨by rw [hF.out]; rfl, 0, rfl⟩
          · obtain rfl : k = 4 := by omega
            have hF := Lib.hid (show E = (v, 3, 0) from by rw [hB.out]; rfl)
            have hv3 : v ≤ 255 := by omega
            clear hv1
            go_wp2_with fail
            go_ret3
            exact ⟨by rw [hF.out]; rfl, 0, rfl⟩
      all_goals
        go_enter Try.func68, Try.ntmps68
        go_wp2_with fail
        go_ret3
        exact ⟨by rw [hF.out]; rfl, 0, rfl⟩
  · have hF := Lib.hid (show E = (0, 0, 21) from by rw [← HE.out, drop_end s _ (by omega)]; rfl)
    go_enter Try.func68, Try.ntmps68
    go_wp2_with fail
    go_ret3
    exact ⟨by rw [hF.out]; rfl, 0, rfl⟩
end Go.Proofs.Ytdigoicdgeebhaa
