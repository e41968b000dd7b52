/- Contracts of number and quoted of token. -/
import Derived.Test.YtdigoicdgeebhaaTokD
import Derived.Deep.DeepCutAuto
import Derived.Deep.CutBlock
namespace Go.Proofs.Ytdigoicdgeebhaa
open Go.RowKit

theorem np_hex {l : List UInt8} (h : Lib.hasPrefix l [48, 120] = true) : numParts l = (16, l.drop 2) := by unfold numParts; simp [h]
theorem np_oct {l : List UInt8} (h : Lib.hasPrefix l [48, 120] = false) (h1 : 1 < l.length) (h2 : ((l.headD 0).toNat : Int) = 48) : numParts l = (8, l.drop 1) := by
  have h3 : l.headD 0 = 48 := by
    apply UInt8.toNat_inj.1
    have : (l.headD 0).toNat = 48 := by omega
    rw [this]; rfl
  unfold numParts
  rw [if_neg (by simp [h]), if_pos ⟨h1, h3⟩]
theorem np_dec {l : List UInt8} (h : Lib.hasPrefix l [48, 120] = false) (h1 : ¬ 1 < l.length ∨ ((l.headD 0).toNat : Int) ≠ 48) : numParts l = (10, l) := by
  unfold numParts; rw [if_neg (by simp [h]), if_neg ?_]; rintro ⟨a, b⟩; rcases h1 with h1 | h1; exact h1 a; apply h1; rw [b]; rfl

set_option maxHeartbeats 2000000 in
theorem token_number (s : ByteArray) (w : World) (hs : s.size ≤ maxLen) :
    Calls Try.prog 48 #[.string s] w fun e w' => e = .returned (.tuple #[.int .i64 (numT s.data.toList).1, .int .i64 (numT s.data.toList).2]) ∧ ∃ n, w' = w.drewN n := by
  unfold maxLen at hs
  go_enter Try.func48, Try.ntmps48
  go_upto_block 0 with fail
  have hbd := numParts_bd s.data.toList
  have hln := numParts_len s.data.toList
  generalize hnp : numParts s.data.toList = np at hbd hln
  have HNP := Lib.hid hnp; clear hnp
  obtain ⟨base, dl⟩ := np
  obtain ⟨hb1, hb2⟩ := hbd
  simp only at hb1 hb2 hln
  go_cut [4, 5] (fun b d wx => ∃ dg : ByteArray, b = .int .i64 base ∧ d = .string dg ∧ Hid (dg.data.toList = dl) ∧ ∃ n, wx = w.drewN n)
  case first =>
    by_cases hp : Lib.hasPrefix s.data.toList [48, 120] = true
    · have hle := Lib.hasPrefix_le hp
      have hle2 : 2 ≤ s.size := by simpa using hle
      go_wp2_with (first | (go_at_call 44; refine (Try.strings_HasPrefix _ _ _).mono ?_; rintro e w' ⟨rfl, rfl⟩))
      go_quiet (fail)
      go_wp2
      go_meet
      case rel =>
        have e := (np_hex hp).symm.trans HNP.out
        obtain ⟨rfl, rfl⟩ := Prod.mk.inj e
        exact ⟨_, rfl, rfl, drop_toList s 2, _, rfl⟩
    · have hp : Lib.hasPrefix s.data.toList [48, 120] = false := by simpa using hp
      by_cases h1 : 1 < s.size
      · have hH := Lib.hid (head_of s (by omega))
        by_cases h48 : (s[0].toNat : Int) = 48
        · have h48' : ((s[0].toNat : Int) == 48) = true := by simpa using h48
          have H48 := Lib.hid h48; clear h48
          go_wp2_with (first | (go_at_call 44; refine (Try.strings_HasPrefix _ _ _).mono ?_; rintro e w' ⟨rfl, rfl⟩))
          go_quiet (fail)
          go_wp2
          go_meet
          case rel =>
            have e := (np_oct hp (by simpa using h1) (by rw [hH.out]; exact H48.out)).symm.trans HNP.out
            obtain ⟨rfl, rfl⟩ := Prod.mk.inj e
            exact ⟨_, rfl, rfl, drop_toList s 1, _, rfl⟩
        · have h48' : ((s[0].toNat : Int) == 48) = false := by simpa using h48
          have H48 := Lib.hid h48; clear h48
          go_wp2_with (first | (go_at_call 44; refine (Try.strings_HasPrefix _ _ _).mono ?_; rintro e w' ⟨rfl, rfl⟩))
          go_meet
          case rel =>
            have e := (np_dec hp (.inr (by rw [hH.out]; exact H48.out))).symm.trans HNP.out
            obtain ⟨rfl, rfl⟩ := Prod.mk.inj e
            exact ⟨_, rfl, rfl, rfl, 0, rfl⟩
      · go_wp2_with (first | (go_at_call 44; refine (Try.strings_HasPrefix _ _ _).mono ?_; rintro e w' ⟨rfl, rfl⟩))
        go_meet
        case rel =>
          have e := (np_dec hp (.inl (by simpa using h1))).symm.trans HNP.out
          obtain ⟨rfl, rfl⟩ := Prod.mk.inj e
          exact ⟨_, rfl, rfl, rfl, 0, rfl⟩
  case rest =>
    obtain ⟨dg, rfl, rfl, hdg, n0, rfl⟩ := hcut
    have hT := Lib.hid (show numT s.data.toList = if dl = [] then (0, 6) else numR (numFold base dl 0) from by unfold numT; rw [HNP.out])
    have hlen : dg.size = dl.length := by rw [← hdg.out]; simp
    have hds : dg.size ≤ 9223372036854775807 := by rw [hlen]; simp at hln; omega
    have HL := Lib.hid hlen; clear hlen
    by_cases h0 : dg.size = 0
    · obtain rfl := empty_of dg h0
      have hF := Lib.hid (show numT s.data.toList = (0, 6) from by rw [hT.out, if_pos]; rw [← hdg.out]; rfl)
      clear h0
      go_wp2_with fail
      go_ret2
      exact ⟨by rw [hF.out]; rfl, _, rfl⟩
    · have h0 : 0 < dg.size := by omega
      have hne := toList_ne dg h0
      have hne2 := toList_isEmpty dg h0
      have hT2 := Lib.hid (show numT s.data.toList = numR (numFold base dg.data.toList 0) from by rw [hT.out, hdg.out, if_neg]; intro e; have := HL.out; subst e; simp only [List.length_nil] at this; omega)
      go_wp2_with fail
      go_loop [6, 30] (fun x i => ∃ k : Nat, ∃ n : Int, k ≤ dg.size ∧ i = .int .i64 k ∧ x = .int .i64 n ∧ 0 ≤ n ∧ n ≤ 4294967296 ∧ Hid (numFold base dg.data.toList 0 = numFold base (dg.data.toList.drop k) n)) (fun _ i => dg.size - (intOf i).toNat)
      case atStart => exact ⟨0, 0, Nat.zero_le _, rfl, rfl, by omega, by omega, rfl⟩
      case round =>
        obtain ⟨k, n, hk, rfl, rfl, hn0, hn1, hE⟩ := hrel
        by_cases hlt : k < dg.size
        · have hE2 := Lib.hid (show numFold base dg.data.toList 0 = if hexV dg[k].toNat < 0 ∨ base ≤ hexV dg[k].toNat then none else numFold base (dg.data.toList.drop (k + 1)) (min (n * base + hexV dg[k].toNat) 4294967296) from by rw [hE.out, drop_cons dg k hlt]; rfl)
          have hbd := hexV_bd dg[k].toNat
          have hnb : 0 ≤ n * base := Int.mul_nonneg hn0 (by omega)
          have hnb2 : n * base ≤ 4294967296 * 16 := Int.mul_le_mul hn1 hb2 (by omega) (by omega)
          by_cases hh : hexV dg[k].toNat < 0
          · have hF := Lib.hid (show numT s.data.toList = (0, 6) from by rw [hT2.out, hE2.out, if_pos (.inl hh)]; rfl)
            go_wp2_with (first | (go_at_call 63; refine (token_hex _ _ (by omega) (byte_lt _)).mono ?_; rintro e w' ⟨rfl, rfl⟩))
            go_ret2
            exact ⟨by rw [hF.out]; rfl, _, rfl⟩
          · have hh : 0 ≤ hexV dg[k].toNat := by omega
            by_cases hg : base ≤ hexV dg[k].toNat
            · have hF := Lib.hid (show numT s.data.toList = (0, 6) from by rw [hT2.out, hE2.out, if_pos (.inr hg)]; rfl)
              go_wp2_with (first | (go_at_call 63; refine (token_hex _ _ (by omega) (byte_lt _)).mono ?_; rintro e w' ⟨rfl, rfl⟩))
              go_ret2
              exact ⟨by rw [hF.out]; rfl, _, rfl⟩
            · have hg : hexV dg[k].toNat < base := by omega
              have hE3 := Lib.hid (show numFold base dg.data.toList 0 = numFold base (dg.data.toList.drop (k + 1)) (min (n * base + hexV dg[k].toNat) 4294967296) from by rw [hE2.out, if_neg (by omega)])
              go_wp2_with (first | (go_at_call 63; refine (token_hex _ _ (by omega) (byte_lt _)).mono ?_; rintro e w' ⟨rfl, rfl⟩))
              go_round
              case rel => exact ⟨k + 1, _, by omega, by go_num, rfl, by omega, by omega, hE3⟩
              case measure => simp [intOf]; omega
        · have hE2 := Lib.hid (show numFold base dg.data.toList 0 = some n from by rw [hE.out, drop_end dg k (by omega)]; rfl)
          by_cases hg : 4294967295 < n
          · have hF := Lib.hid (show numT s.data.toList = (0, 2) from by rw [hT2.out, hE2.out]; unfold numR; simp only; rw [if_pos (by omega)])
            go_wp2_with fail
            go_ret2
            exact ⟨by rw [hF.out]; rfl, _, rfl⟩
          · have hF := Lib.hid (show numT s.data.toList = (n, 0) from by rw [hT2.out, hE2.out]; unfold numR; simp only; rw [if_neg (by omega)])
            go_wp2_with fail
            go_ret2
            exact ⟨by rw [hF.out]; rfl, _, rfl⟩

theorem u8_back (v : Int) (h0 : 0 ≤ v) (h1 : v ≤ 255) : ((v.toNat.toUInt8).toNat : Int) = v := by simp [Nat.toUInt8]; omega
theorem byteCells_snoc (acc : List UInt8) (v : Int) (h0 : 0 ≤ v) (h1 : v ≤ 255) : Lib.byteCells acc ++ [.int .u8 v] = Lib.byteCells (acc ++ [v.toNat.toUInt8]) := by
  unfold Lib.byteCells; rw [List.map_append, List.map_singleton, u8_back v h0 h1]
theorem esc_bd (l : List UInt8) : 0 ≤ (esc l).1 ∧ (esc l).1 ≤ 255 ∧ (esc l).2.1 ≤ 3 ∧ (esc l).2.1 ≤ l.length ∧ ((esc l).2.2 = 0 → 1 ≤ (esc l).2.1) ∧ (esc l).2.2 ≤ 21 ∧ 0 ≤ (esc l).2.2 := by
  cases l with
  | nil => simp [esc]
  | cons c r =>
    simp only [esc]
    repeat' (split; · simp)
    cases r with
    | nil => simp [hx2]
    | cons a r =>
      simp only [hx2]
      repeat' (split; · simp)
      cases r with
      | nil => simp [hx2]
      | cons b r =>
        have h1 := hexV_bd a.toNat
        have h2 := hexV_bd b.toNat
        simp only [hx2]
        repeat' (split; · simp)
        simp; omega

set_option maxHeartbeats 2000000 in
theorem token_quoted (s : ByteArray) (w : World) (hs : s.size ≤ 140737488355328) (h1 : 0 < s.size) :
    Calls Try.prog 49 #[.string s] w fun e w' => e = .returned (.tuple #[.string ⟨(qtA s.data.toList.length (s.data.toList.drop 1) [] 1).1.toArray⟩, .int .i64 (qtA s.data.toList.length (s.data.toList.drop 1) [] 1).2.1, .int .i64 (qtA s.data.toList.length (s.data.toList.drop 1) [] 1).2.2]) ∧ Below w.heap.size w w' := by
  generalize hF : qtA s.data.toList.length (s.data.toList.drop 1) [] 1 = R
  have HF := Lib.hid hF; clear hF
  go_enter Try.func49, Try.ntmps49
  go_wp2_with fail
  go_loopw [6] (fun i wr => ∃ (k f : Nat) (acc : List UInt8), 1 ≤ k ∧ k ≤ s.size ∧ s.size ≤ k + f ∧ acc.length < k ∧ i = .int .i64 k ∧ Hid (qtA f (s.data.toList.drop k) acc k = R) ∧ Lib.IsBuilder 82 5 w.heap.size w.heap.size (Lib.byteCells acc) wr ∧ Below w.heap.size w wr) (fun i _ => s.size - (intOf i).toNat)
  case atStart => exact ⟨1, s.data.toList.length, [], by omega, by omega, by simp, by simp, rfl, HF, Lib.fresh_isBuilder _ _ w, (Below.refl _ _).alloc (Nat.le_refl _) _⟩
  case round =>
    obtain ⟨k, f, acc, hk1, hk, hf, hacc, rfl, hE, hB, hbel⟩ := hrel
    by_cases hlt : k < s.size
    · obtain ⟨f, rfl⟩ : ∃ f', f = f' + 1 := ⟨f - 1, by omega⟩
      have hE2 : Hid (R = if s[k].toNat = 34 then (acc, k + 1, 0) else if s[k].toNat = 10 then ([], 0, 21) else if s[k].toNat = 92 then
          (if (esc (s.data.toList.drop (k + 1))).2.2 ≠ 0 then ([], 0, (esc (s.data.toList.drop (k + 1))).2.2) else qtA f ((s.data.toList.drop (k + 1)).drop (esc (s.data.toList.drop (k + 1))).2.1) (acc ++ [(esc (s.data.toList.drop (k + 1))).1.toNat.toUInt8]) (k + (esc (s.data.toList.drop (k + 1))).2.1 + 1))
          else qtA f (s.data.toList.drop (k + 1)) (acc ++ [s[k]]) (k + 1)) := by
        show _ = _
        rw [← hE.out, drop_cons s k hlt]; rfl
      have hbs := hbel.size
      have hcl : (Lib.byteCells acc).length + 1 ≤ 140737488355328 := by unfold Lib.byteCells; simp; omega
      by_cases h34 : s[k].toNat = 34
      · have h34' : ((s[k].toNat : Int) == 34) = true := by simp [h34]
        have hR := Lib.hid (show R = (acc, k + 1, 0) from by rw [hE2.out, if_pos h34])
        clear h34
        go_wp2_with (first | (go_at_call 64; refine (Try.Builder_String_any _ _ acc _ hB hbs).mono ?_; rintro e w1 ⟨rfl, hb1⟩))
        go_ret3
        exact ⟨by rw [hR.out]; simp, hbel.trans hb1⟩
      · have h34' : ((s[k].toNat : Int) == 34) = false := by simp; omega
        by_cases h10 : s[k].toNat = 10
        · have h10' : ((s[k].toNat : Int) == 10) = true := by simp [h10]
          have hR := Lib.hid (show R = ([], 0, 21) from by rw [hE2.out, if_neg h34, if_pos h10])
          clear h10 h34
          go_wp2_with fail
          go_ret3
          exact ⟨by rw [hR.out]; rfl, hbel⟩
        · have h10' : ((s[k].toNat : Int) == 10) = false := by simp; omega
          by_cases h92 : s[k].toNat = 92
          · have h92' : ((s[k].toNat : Int) == 92) = true := by simp [h92]
            have hee := esc_bd (s.data.toList.drop (k + 1))
            have hesc := fun wx => token_escape (s.extract (k + 1) s.size) wx (by simp [maxLen]; omega)
            rw [drop_toList] at hesc
            have hR := Lib.hid (show R = (if (esc (s.data.toList.drop (k + 1))).2.2 ≠ 0 then ([], 0, (esc (s.data.toList.drop (k + 1))).2.2) else qtA f ((s.data.toList.drop (k + 1)).drop (esc (s.data.toList.drop (k + 1))).2.1) (acc ++ [(esc (s.data.toList.drop (k + 1))).1.toNat.toUInt8]) (k + (esc (s.data.toList.drop (k + 1))).2.1 + 1)) from by rw [hE2.out, if_neg h34, if_neg h10, if_pos h92])
            clear hE2 h92 h10 h34
            generalize esc (s.data.toList.drop (k + 1)) = E at hee hesc hR
            obtain ⟨ev, en, ee⟩ := E
            obtain ⟨g1, g2, g3, g4, g5, g6, g7⟩ := hee
            simp only [List.length_drop] at g1 g2 g3 g4 g5 g6 g7 hesc hR
            have g4' : en + (k + 1) ≤ s.size := by simp at g4; omega
            have HS := Lib.hid hesc; clear hesc g4
            by_cases hz : ee = 0
            · subst hz
              have g5' := Lib.hid (g5 rfl); clear g5
              go_wp2_with (first | (go_at_call 65; refine (HS.out _).mono ?_; rintro e w1 ⟨rfl, nd, rfl⟩) | (go_at_call 66; refine (writeByte _ _ (Lib.byteCells acc) ev _ (by exact hB) hcl (by exact hbs)).mono ?_; rintro e w1 ⟨rfl, hb1, hb2⟩))
              go_roundw
              case rel => exact ⟨k + en + 1, f, acc ++ [ev.toNat.toUInt8], by omega, by omega, by omega, by simp; omega, by go_num, by have := hR.out; rw [if_neg (by simp), List.drop_drop] at this; show _ = _; rw [this, show k + 1 + en = k + en + 1 from by omega], .inr (by rw [← byteCells_snoc acc ev g1 g2]; exact hb1), (below_drewN hbel nd).trans hb2⟩
              case measure => simp [intOf]; omega
            · have hz' : (ee != 0) = true := by simpa using hz
              have HR := Lib.hid (show R = ([], 0, ee) from by rw [hR.out, if_pos hz])
              clear hz g5
              go_wp2_with (first | (go_at_call 65; refine (HS.out _).mono ?_; rintro e w1 ⟨rfl, nd, rfl⟩))
              go_ret3
              exact ⟨by rw [HR.out]; rfl, below_drewN hbel _⟩
          · have h92' : ((s[k].toNat : Int) == 92) = false := by simp; omega
            have hR := Lib.hid (show R = qtA f (s.data.toList.drop (k + 1)) (acc ++ [s[k]]) (k + 1) from by rw [hE2.out, if_neg h34, if_neg h10, if_neg h92])
            clear hE2 h92 h10 h34
            go_wp2_with (first | (go_at_call 66; refine (writeByte _ _ (Lib.byteCells acc) _ _ hB hcl hbs).mono ?_; rintro e w1 ⟨rfl, hb1, hb2⟩))
            go_roundw
            case rel => exact ⟨k + 1, f, acc ++ [s[k]], by omega, by omega, by omega, by simp; omega, by go_num, hR.out.symm, .inr (by simpa [Lib.byteCells] using hb1), hbel.trans hb2⟩
            case measure => simp [intOf]; omega
    · have hR := Lib.hid (show R = ([], 0, 21) from by rw [← hE.out, drop_end s k (by omega)]; cases f <;> rfl)
      go_wp2_with fail
      go_ret3
      exact ⟨by rw [hR.out]; rfl, hbel⟩
end Go.Proofs.Ytdigoicdgeebhaa
