/- Contracts of the reference of token: number. -/
import Derived.Test.YtdigoicdgeebhaaRefA
import Derived.Test.YtdigoicdgeebhaaTokE
import Derived.Deep.LoopGhost
namespace Go.Proofs.Ytdigoicdgeebhaa
open Go.RowKit

/-- The saturated value as the reference keeps it: a small number, or 'big' and a small number that matters no more. -/
def satOf (big : Bool) (n : Int) : Int := if big = true then 4294967296 else n
theorem pre_hex (s : ByteArray) (h : 1 < s.size) (h0 : ((s[0]'(by omega)).toNat : Int) = 48) : Lib.hasPrefix s.data.toList [48, 120] = decide ((s[1].toNat : Int) = 120) := by
  have e0 := drop_cons s 0 (by omega)
  have e1 := drop_cons s 1 h
  rw [List.drop_zero] at e0
  rw [e0, e1]
  have h0' : s[0] = 48 := by apply UInt8.toNat_inj.1; have : s[0].toNat = 48 := by omega
                             rw [this]; rfl
  rw [h0', Bool.eq_iff_iff]
  simp [Lib.hasPrefix]
  constructor
  · intro h; rw [← h]; rfl
  · intro h; symm; apply UInt8.toNat_inj.1; have : s[1].toNat = 120 := by omega
    rw [this]; rfl
theorem pre_hex_no (s : ByteArray) (h : ¬ 1 < s.size ∨ ∃ h : 0 < s.size, ((s[0]'h).toNat : Int) ≠ 48) : Lib.hasPrefix s.data.toList [48, 120] = false := by
  rw [Bool.eq_false_iff]
  intro hp
  have hle : 2 ≤ s.size := by simpa using Lib.hasPrefix_le hp
  rcases h with h | ⟨h1, h⟩
  · omega
  · apply h
    have e0 := drop_cons s 0 (by omega)
    rw [List.drop_zero] at e0
    rw [e0] at hp
    simp [Lib.hasPrefix] at hp
    rw [← hp.1]; rfl
theorem drew_two (w : World) (a b : Nat) : ∃ n, (w.drewN a).drewN b = w.drewN n := ⟨a + b, by rw [World.drewN_drewN]⟩
theorem sat_big (d base : Int) (h0 : 0 ≤ d) (hb : 8 ≤ base) : min (4294967296 * base + d) 4294967296 = 4294967296 := by omega

set_option maxHeartbeats 8000000 in
theorem ref_number (s : ByteArray) (w : World) (hs : s.size ≤ maxLen) :
    Calls Try.prog 56 #[.string s] w fun e w' => e = .returned (.tuple #[.int .i64 (numT s.data.toList).1, .int .i64 (numT s.data.toList).2]) ∧ ∃ n, w' = w.drewN n := by
  unfold maxLen at hs
  go_enter Try.func56, Try.ntmps56
  have hbd := numParts_bd s.data.toList
  have hln := numParts_len s.data.toList
  generalize hnp : numParts s.data.toList = np at hbd hln
  have HNP := Lib.hid hnp; clear hnp
  obtain ⟨base, dl⟩ := np
  obtain ⟨hb1, hb2⟩ := hbd
  simp only at hb1 hb2 hln
  have hcs : (∃ h1 : 1 < s.size, ((s[0].toNat : Int) == 48) = true ∧ ((s[1].toNat : Int) == 120) = true ∧ Hid (dl = s.data.toList.drop 2) ∧ Hid (base = 16)) ∨
      (∃ h1 : 1 < s.size, ((s[0].toNat : Int) == 48) = true ∧ ((s[1].toNat : Int) == 120) = false ∧ Hid (dl = s.data.toList.drop 1) ∧ Hid (base = 8)) ∨
      (∃ h1 : 1 < s.size, ((s[0].toNat : Int) == 48) = false ∧ Hid (dl = s.data.toList) ∧ Hid (base = 10)) ∨ (¬ 1 < s.size ∧ Hid (dl = s.data.toList) ∧ Hid (base = 10)) := by
    by_cases h1 : 1 < s.size
    · have hH := head_of s (by omega)
      by_cases h48 : (s[0].toNat : Int) = 48
      · have hx := pre_hex s h1 h48
        by_cases h120 : (s[1].toNat : Int) = 120
        · have e := (np_hex (by rw [hx]; simpa using h120)).symm.trans HNP.out
          obtain ⟨e1, e2⟩ := Prod.mk.inj e
          exact .inl ⟨h1, by simpa using h48, by simpa using h120, e2.symm, e1.symm⟩
        · have e := (np_oct (by rw [hx]; simpa using h120) (by simpa using h1) (by rw [hH]; exact h48)).symm.trans HNP.out
          obtain ⟨e1, e2⟩ := Prod.mk.inj e
          exact .inr (.inl ⟨h1, by simpa using h48, by simpa using h120, e2.symm, e1.symm⟩)
      · have e := (np_dec (pre_hex_no s (.inr ⟨by omega, h48⟩)) (.inr (by rw [hH]; exact h48))).symm.trans HNP.out
        obtain ⟨e1, e2⟩ := Prod.mk.inj e
        exact .inr (.inr (.inl ⟨h1, by simpa using h48, e2.symm, e1.symm⟩))
    · have e := (np_dec (pre_hex_no s (.inl h1)) (.inl (by simpa using h1))).symm.trans HNP.out
      obtain ⟨e1, e2⟩ := Prod.mk.inj e
      exact .inr (.inr (.inr ⟨h1, e2.symm, e1.symm⟩))
  rcases hcs with ⟨h1, h48, h120, hdl, hba⟩ | ⟨h1, h48, h120, hdl, hba⟩ | ⟨h1, h48, hdl, hba⟩ | ⟨h1, hdl, hba⟩
  all_goals
    go_upto_if 18 with fail
    go_cut [4, 5] (fun b d wx => ∃ dg : ByteArray, b = .int .i64 base ∧ d = .string dg ∧ Hid (dg.data.toList = dl) ∧ ∃ n, wx = w.drewN n)
  case first =>
    go_wp2_with fail
    go_quiet (fail)
    go_wp2
    go_quiet (fail)
    go_wp2
    go_meet
    case rel => exact ⟨_, by rw [hba.out], rfl, by rw [hdl.out]; exact drop_toList s 2, drew_two _ _ _⟩
  case first =>
    go_wp2_with fail
    go_quiet (fail)
    go_wp2
    go_meet
    case rel => exact ⟨_, by rw [hba.out], rfl, by rw [hdl.out]; exact drop_toList s 1, _, rfl⟩
  case first =>
    go_wp2_with fail
    go_meet
    case rel => exact ⟨_, by rw [hba.out], rfl, by rw [hdl.out]; rfl, 0, rfl⟩
  case first =>
    go_wp2_with fail
    go_meet
    case rel => exact ⟨_, by rw [hba.out], rfl, by rw [hdl.out]; rfl, 0, rfl⟩
  all_goals
    obtain ⟨dg, rfl, rfl, hdg, n0, rfl⟩ := hcut
    have hT := Lib.hid (show numT s.data.toList = if dl = [] then (0, 6) else numR (numFold base dl 0) from by unfold numT; rw [HNP.out])
    have hlen : dg.size = dl.length := by rw [← hdg.out]; simp
    have hds : dg.size ≤ 9223372036854775807 := by rw [hlen]; simp at hln; omega
    have HL := Lib.hid hlen; clear hlen
    by_cases h0 : dg.size = 0
    · obtain rfl := empty_of dg h0
      have hF := Lib.hid (show numT s.data.toList = (0, 6) from by rw [hT.out, if_pos]; rw [← hdg.out]; rfl)
      clear h0
      go_wp2_with fail
      go_ret2
      exact ⟨by rw [hF.out]; rfl, _, rfl⟩
    · have h0 : 0 < dg.size := by omega
      have hne := toList_ne dg h0
      have hne2 := toList_isEmpty dg h0
      have hz : ((dg.size : Int) == 0) = false := by rw [beq_eq_false_iff_ne]; omega
      have hT2 := Lib.hid (show numT s.data.toList = numR (numFold base dg.data.toList 0) from by rw [hT.out, hdg.out, if_neg]; intro e; have := HL.out; subst e; simp only [List.length_nil] at this; omega)
      go_wp2_with fail
      go_loopg [6, 7, 8] (dg.size) (fun f x y i wr => ∃ k : Nat, ∃ n : Int, ∃ big : Bool, k ≤ dg.size ∧ dg.size ≤ k + f ∧ i = .int .i64 k ∧ y = .bool big ∧ x = .int .i64 n ∧ 0 ≤ n ∧ n ≤ 4294967295 ∧ Hid (numFold base dg.data.toList 0 = numFold base (dg.data.toList.drop k) (satOf big n)) ∧ wr = w.drewN n0)
      case atStart => exact ⟨0, 0, false, Nat.zero_le _, by omega, rfl, rfl, rfl, by omega, by omega, rfl, rfl⟩
      case round =>
        obtain ⟨k, n, big, hk, hf, rfl, rfl, rfl, hn0, hn1, hE, rfl⟩ := hrel
        by_cases hlt : k < dg.size
        · have hE2 := Lib.hid (show numFold base dg.data.toList 0 = if hexV dg[k].toNat < 0 ∨ base ≤ hexV dg[k].toNat then none else numFold base (dg.data.toList.drop (k + 1)) (min (satOf big n * base + hexV dg[k].toNat) 4294967296) from by rw [hE.out, drop_cons dg k hlt]; rfl)
          have hbd := hexV_bd dg[k].toNat
          have hnb : 0 ≤ n * base := Int.mul_nonneg hn0 (by omega)
          have hnb2 : n * base ≤ 4294967295 * 16 := Int.mul_le_mul hn1 hb2 (by omega) (by omega)
          by_cases hg : hexV dg[k].toNat < 0 ∨ base ≤ hexV dg[k].toNat
          · have hF := Lib.hid (show numT s.data.toList = (0, 6) from by rw [hT2.out, hE2.out, if_pos hg]; rfl)
            have hge : base ≤ digV dg[k].toNat := by unfold digV; split <;> omega
            have hdb : digV dg[k].toNat ≤ 99 := by unfold digV; split <;> omega
            clear hg hbd
            have hcon := fun wx => ref_digit dg[k].toNat wx (by omega) (byte_lt _)
            generalize digV dg[k].toNat = dv at hge hdb hcon
            go_wp2_with (first | (go_at_call 67; refine (hcon _).mono ?_; rintro e w' ⟨rfl, rfl⟩))
            go_ret2
            exact ⟨by rw [hF.out]; rfl, _, rfl⟩
          · have hde := Lib.hid (show digV dg[k].toNat = hexV dg[k].toNat from by unfold digV; rw [if_neg (by omega)])
            have hE3 := Lib.hid (show numFold base dg.data.toList 0 = numFold base (dg.data.toList.drop (k + 1)) (min (satOf big n * base + digV dg[k].toNat) 4294967296) from by rw [hE2.out, if_neg hg, hde.out])
            have hgl : digV dg[k].toNat < base := by rw [hde.out]; omega
            have hg0 : 0 ≤ digV dg[k].toNat := by rw [hde.out]; omega
            have hcon := fun wx => ref_digit dg[k].toNat wx (by omega) (byte_lt _)
            clear hg hbd hde hE2
            have hdu : digV dg[k].toNat ≤ 15 := by omega
            generalize digV dg[k].toNat = dv at hE3 hgl hg0 hcon hdu
            have hsat := Lib.hid (show 4294967295 < n * base + dv → min (satOf big n * base + dv) 4294967296 = satOf true 0 from by intro h; unfold satOf; cases big <;> simp <;> omega)
            have hsm := Lib.hid (show n * base + dv ≤ 4294967295 → min (satOf big n * base + dv) 4294967296 = satOf big (n * base + dv) from by intro h; unfold satOf; cases big <;> simp <;> omega)
            by_cases hbg : 4294967295 < n * base + dv
            · go_wp2_with (first | (go_at_call 67; refine (hcon _).mono ?_; rintro e w' ⟨rfl, rfl⟩))
              go_roundg (gk - 1)
              case measure => omega
              case rel => exact ⟨k + 1, _, _, by omega, by omega, by go_num, rfl, rfl, by omega, by omega, by show _ = _; rw [hE3.out, hsat.out hbg], rfl⟩
            · go_wp2_with (first | (go_at_call 67; refine (hcon _).mono ?_; rintro e w' ⟨rfl, rfl⟩))
              go_roundg (gk - 1)
              case measure => omega
              case rel => exact ⟨k + 1, _, _, by omega, by omega, by go_num, rfl, rfl, by omega, by omega, by show _ = _; rw [hE3.out, hsm.out (by omega)], rfl⟩
        · have hE2 := Lib.hid (show numFold base dg.data.toList 0 = some (satOf big n) from by rw [hE.out, drop_end dg k (by omega)]; rfl)
          cases big
          · have hF := Lib.hid (show numT s.data.toList = (n, 0) from by rw [hT2.out, hE2.out]; unfold numR satOf; simp; omega)
            go_wp2_with fail
            go_ret2
            exact ⟨by rw [hF.out]; rfl, _, rfl⟩
          · have hF := Lib.hid (show numT s.data.toList = (0, 2) from by rw [hT2.out, hE2.out]; unfold numR satOf; simp)
            go_wp2_with fail
            go_ret2
            exact ⟨by rw [hF.out]; rfl, _, rfl⟩
end Go.Proofs.Ytdigoicdgeebhaa
