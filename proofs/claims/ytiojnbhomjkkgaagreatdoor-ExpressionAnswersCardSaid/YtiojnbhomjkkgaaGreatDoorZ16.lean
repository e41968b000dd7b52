/- Contracts of number and quoted of token. | The contract of next of token. | The contract of next of token: references and signs. | The contract of next of token: words, and all of it. | The contract of Read of token. | A row of tokens in memory, read. | Package expression: Compute. | Contracts of the reference of token: text. | Contracts of the reference of token: number. | awake of the laws on expressions. | Plain laws: what Compute makes of a made expression. -/
import Derived.Test.YtiojnbhomjkkgaaGreatDoorZ7
import Derived.Deep.DeepCutAuto
import Derived.Deep.CutBlock
import Derived.Test.YtiojnbhomjkkgaaGreatDoorZ9
import Derived.Test.YtiojnbhomjkkgaaGreatDoorZ8
import Derived.Test.YtiojnbhomjkkgaaGreatDoorZ21
import Derived.Test.YtiojnbhomjkkgaaGreatDoorZ18
import Derived.Laws.IdiomStrings
import Derived.Deep.LoopGhost
import Derived.Test.YtiojnbhomjkkgaaGreatDoorZ12

set_option linter.unusedVariables false
set_option linter.unusedSimpArgs false
set_option linter.unusedSectionVars false

namespace Go.Proofs.YtiojnbhomjkkgaaGreatDoor
open Go.RowKit

theorem np_hex {l : List UInt8} (h : Lib.hasPrefix l [48, 120] = true) : numParts l = (16, l.drop 2) := by unfold numParts; simp [h]
theorem np_oct {l : List UInt8} (h : Lib.hasPrefix l [48, 120] = false) (h1 : 1 < l.length) (h2 : ((l.headD 0).toNat : Int) = 48) : numParts l = (8, l.drop 1) := by
  have h3 : l.headD 0 = 48 := by
    apply UInt8.toNat_inj.1
    have : (l.headD 0).toNat = 48 := by omega
    rw [this]; rfl
  unfold numParts
  rw [if_neg (by simp [h]), if_pos ⟨h1, h3⟩]
theorem np_dec {l : List UInt8} (h : Lib.hasPrefix l [48, 120] = false) (h1 : ¬ 1 < l.length ∨ ((l.headD 0).toNat : Int) ≠ 48) : numParts l = (10, l) := by
  unfold numParts; rw [if_neg (by simp [h]), if_neg ?_]; rintro ⟨a, b⟩; rcases h1 with h1 | h1; exact h1 a; apply h1; rw [b]; rfl

set_option maxHeartbeats 2000000 in
theorem token_number (s : ByteArray) (w : World) (hs : s.size ≤ maxLen) :
    Calls Tryz.prog 143 #[.string s] w fun e w' => e = .returned (.tuple #[.int .i64 (numT s.data.toList).1, .int .i64 (numT s.data.toList).2]) ∧ ∃ n, w' = w.drewN n := by
  unfold maxLen at hs
  go_enter Tryz.func143, Tryz.ntmps143
  go_upto_block 0 with fail
  have hbd := numParts_bd s.data.toList
  have hln := numParts_len s.data.toList
  generalize hnp : numParts s.data.toList = np at hbd hln
  have HNP := Lib.hid hnp; clear hnp
  obtain ⟨base, dl⟩ := np
  obtain ⟨hb1, hb2⟩ := hbd
  simp only at hb1 hb2 hln
  go_cut [4, 5] (fun b d wx => ∃ dg : ByteArray, b = .int .i64 base ∧ d = .string dg ∧ Hid (dg.data.toList = dl) ∧ ∃ n, wx = w.drewN n)
  case first =>
    by_cases hp : Lib.hasPrefix s.data.toList [48, 120] = true
    · have hle := Lib.hasPrefix_le hp
      have hle2 : 2 ≤ s.size := by simpa using hle
      go_wp2_with (first | (go_at_call 134; refine (Tryz.strings_HasPrefix _ _ _).mono ?_; rintro e w' ⟨rfl, rfl⟩))
      go_quiet (fail)
      go_wp2
      go_meet
      case rel =>
        have e := (np_hex hp).symm.trans HNP.out
        obtain ⟨rfl, rfl⟩ := Prod.mk.inj e
        exact ⟨_, rfl, rfl, drop_toList s 2, _, rfl⟩
    · have hp : Lib.hasPrefix s.data.toList [48, 120] = false := by simpa using hp
      by_cases h1 : 1 < s.size
      · have hH := Lib.hid (head_of s (by omega))
        by_cases h48 : (s[0].toNat : Int) = 48
        · have h48' : ((s[0].toNat : Int) == 48) = true := by simpa using h48
          have H48 := Lib.hid h48; clear h48
          go_wp2_with (first | (go_at_call 134; refine (Tryz.strings_HasPrefix _ _ _).mono ?_; rintro e w' ⟨rfl, rfl⟩))
          go_quiet (fail)
          go_wp2
          go_meet
          case rel =>
            have e := (np_oct hp (by simpa using h1) (by rw [hH.out]; exact H48.out)).symm.trans HNP.out
            obtain ⟨rfl, rfl⟩ := Prod.mk.inj e
            exact ⟨_, rfl, rfl, drop_toList s 1, _, rfl⟩
        · have h48' : ((s[0].toNat : Int) == 48) = false := by simpa using h48
          have H48 := Lib.hid h48; clear h48
          go_wp2_with (first | (go_at_call 134; refine (Tryz.strings_HasPrefix _ _ _).mono ?_; rintro e w' ⟨rfl, rfl⟩))
          go_meet
          case rel =>
            have e := (np_dec hp (.inr (by rw [hH.out]; exact H48.out))).symm.trans HNP.out
            obtain ⟨rfl, rfl⟩ := Prod.mk.inj e
            exact ⟨_, rfl, rfl, rfl, 0, rfl⟩
      · go_wp2_with (first | (go_at_call 134; refine (Tryz.strings_HasPrefix _ _ _).mono ?_; rintro e w' ⟨rfl, rfl⟩))
        go_meet
        case rel =>
          have e := (np_dec hp (.inl (by simpa using h1))).symm.trans HNP.out
          obtain ⟨rfl, rfl⟩ := Prod.mk.inj e
          exact ⟨_, rfl, rfl, rfl, 0, rfl⟩
  case rest =>
    obtain ⟨dg, rfl, rfl, hdg, n0, rfl⟩ := hcut
    have hT := Lib.hid (show numT s.data.toList = if dl = [] then (0, 6) else numR (numFold base dl 0) from by unfold numT; rw [HNP.out])
    have hlen : dg.size = dl.length := by rw [← hdg.out]; simp
    have hds : dg.size ≤ 9223372036854775807 := by rw [hlen]; simp at hln; omega
    have HL := Lib.hid hlen; clear hlen
    by_cases h0 : dg.size = 0
    · obtain rfl := empty_of dg h0
      have hF := Lib.hid (show numT s.data.toList = (0, 6) from by rw [hT.out, if_pos]; rw [← hdg.out]; rfl)
      clear h0
      go_wp2_with fail
      go_ret2
      exact ⟨by rw [hF.out]; rfl, _, rfl⟩
    · have h0 : 0 < dg.size := by omega
      have hne := toList_ne dg h0
      have hne2 := toList_isEmpty dg h0
      have hT2 := Lib.hid (show numT s.data.toList = numR (numFold base dg.data.toList 0) from by rw [hT.out, hdg.out, if_neg]; intro e; have := HL.out; subst e; simp only [List.length_nil] at this; omega)
      go_wp2_with fail
      go_loop [6, 30] (fun x i => ∃ k : Nat, ∃ n : Int, k ≤ dg.size ∧ i = .int .i64 k ∧ x = .int .i64 n ∧ 0 ≤ n ∧ n ≤ 4294967296 ∧ Hid (numFold base dg.data.toList 0 = numFold base (dg.data.toList.drop k) n)) (fun _ i => dg.size - (intOf i).toNat)
      case atStart => exact ⟨0, 0, Nat.zero_le _, rfl, rfl, by omega, by omega, rfl⟩
      case round =>
        obtain ⟨k, n, hk, rfl, rfl, hn0, hn1, hE⟩ := hrel
        by_cases hlt : k < dg.size
        · have hE2 := Lib.hid (show numFold base dg.data.toList 0 = if hexV dg[k].toNat < 0 ∨ base ≤ hexV dg[k].toNat then none else numFold base (dg.data.toList.drop (k + 1)) (min (n * base + hexV dg[k].toNat) 4294967296) from by rw [hE.out, drop_cons dg k hlt]; rfl)
          have hbd := hexV_bd dg[k].toNat
          have hnb : 0 ≤ n * base := Int.mul_nonneg hn0 (by omega)
          have hnb2 : n * base ≤ 4294967296 * 16 := Int.mul_le_mul hn1 hb2 (by omega) (by omega)
          by_cases hh : hexV dg[k].toNat < 0
          · have hF := Lib.hid (show numT s.data.toList = (0, 6) from by rw [hT2.out, hE2.out, if_pos (.inl hh)]; rfl)
            go_wp2_with (first | (go_at_call 208; refine (token_hex _ _ (by omega) (byte_lt _)).mono ?_; rintro e w' ⟨rfl, rfl⟩))
            go_ret2
            exact ⟨by rw [hF.out]; rfl, _, rfl⟩
          · have hh : 0 ≤ hexV dg[k].toNat := by omega
            by_cases hg : base ≤ hexV dg[k].toNat
            · have hF := Lib.hid (show numT s.data.toList = (0, 6) from by rw [hT2.out, hE2.out, if_pos (.inr hg)]; rfl)
              go_wp2_with (first | (go_at_call 208; refine (token_hex _ _ (by omega) (byte_lt _)).mono ?_; rintro e w' ⟨rfl, rfl⟩))
              go_ret2
              exact ⟨by rw [hF.out]; rfl, _, rfl⟩
            · have hg : hexV dg[k].toNat < base := by omega
              have hE3 := Lib.hid (show numFold base dg.data.toList 0 = numFold base (dg.data.toList.drop (k + 1)) (min (n * base + hexV dg[k].toNat) 4294967296) from by rw [hE2.out, if_neg (by omega)])
              go_wp2_with (first | (go_at_call 208; refine (token_hex _ _ (by omega) (byte_lt _)).mono ?_; rintro e w' ⟨rfl, rfl⟩))
              go_round
              case rel => exact ⟨k + 1, _, by omega, by go_num, rfl, by omega, by omega, hE3⟩
              case measure => simp [intOf]; omega
        · have hE2 := Lib.hid (show numFold base dg.data.toList 0 = some n from by rw [hE.out, drop_end dg k (by omega)]; rfl)
          by_cases hg : 4294967295 < n
          · have hF := Lib.hid (show numT s.data.toList = (0, 2) from by rw [hT2.out, hE2.out]; unfold numR; simp only; rw [if_pos (by omega)])
            go_wp2_with fail
            go_ret2
            exact ⟨by rw [hF.out]; rfl, _, rfl⟩
          · have hF := Lib.hid (show numT s.data.toList = (n, 0) from by rw [hT2.out, hE2.out]; unfold numR; simp only; rw [if_neg (by omega)])
            go_wp2_with fail
            go_ret2
            exact ⟨by rw [hF.out]; rfl, _, rfl⟩

theorem u8_back (v : Int) (h0 : 0 ≤ v) (h1 : v ≤ 255) : ((v.toNat.toUInt8).toNat : Int) = v := by simp [Nat.toUInt8]; omega
theorem byteCells_snoc (acc : List UInt8) (v : Int) (h0 : 0 ≤ v) (h1 : v ≤ 255) : Lib.byteCells acc ++ [.int .u8 v] = Lib.byteCells (acc ++ [v.toNat.toUInt8]) := by
  unfold Lib.byteCells; rw [List.map_append, List.map_singleton, u8_back v h0 h1]
theorem esc_bd (l : List UInt8) : 0 ≤ (esc l).1 ∧ (esc l).1 ≤ 255 ∧ (esc l).2.1 ≤ 3 ∧ (esc l).2.1 ≤ l.length ∧ ((esc l).2.2 = 0 → 1 ≤ (esc l).2.1) ∧ (esc l).2.2 ≤ 21 ∧ 0 ≤ (esc l).2.2 := by
  cases l with
  | nil => simp [esc]
  | cons c r =>
    simp only [esc]
    repeat' (split; · simp)
    cases r with
    | nil => simp [hx2]
    | cons a r =>
      simp only [hx2]
      repeat' (split; · simp)
      cases r with
      | nil => simp [hx2]
      | cons b r =>
        have h1 := hexV_bd a.toNat
        have h2 := hexV_bd b.toNat
        simp only [hx2]
        repeat' (split; · simp)
        simp; omega

set_option maxHeartbeats 2000000 in
theorem token_quoted (s : ByteArray) (w : World) (hs : s.size ≤ 140737488355328) (h1 : 0 < s.size) :
    Calls Tryz.prog 144 #[.string s] w fun e w' => e = .returned (.tuple #[.string ⟨(qtA s.data.toList.length (s.data.toList.drop 1) [] 1).1.toArray⟩, .int .i64 (qtA s.data.toList.length (s.data.toList.drop 1) [] 1).2.1, .int .i64 (qtA s.data.toList.length (s.data.toList.drop 1) [] 1).2.2]) ∧ Below w.heap.size w w' := by
  generalize hF : qtA s.data.toList.length (s.data.toList.drop 1) [] 1 = R
  have HF := Lib.hid hF; clear hF
  go_enter Tryz.func144, Tryz.ntmps144
  go_wp2_with fail
  go_loopw [6] (fun i wr => ∃ (k f : Nat) (acc : List UInt8), 1 ≤ k ∧ k ≤ s.size ∧ s.size ≤ k + f ∧ acc.length < k ∧ i = .int .i64 k ∧ Hid (qtA f (s.data.toList.drop k) acc k = R) ∧ Lib.IsBuilder 216 5 w.heap.size w.heap.size (Lib.byteCells acc) wr ∧ Below w.heap.size w wr) (fun i _ => s.size - (intOf i).toNat)
  case atStart => exact ⟨1, s.data.toList.length, [], by omega, by omega, by simp, by simp, rfl, HF, Lib.fresh_isBuilder _ _ w, (Below.refl _ _).alloc (Nat.le_refl _) _⟩
  case round =>
    obtain ⟨k, f, acc, hk1, hk, hf, hacc, rfl, hE, hB, hbel⟩ := hrel
    by_cases hlt : k < s.size
    · obtain ⟨f, rfl⟩ : ∃ f', f = f' + 1 := ⟨f - 1, by omega⟩
      have hE2 : Hid (R = if s[k].toNat = 34 then (acc, k + 1, 0) else if s[k].toNat = 10 then ([], 0, 21) else if s[k].toNat = 92 then
          (if (esc (s.data.toList.drop (k + 1))).2.2 ≠ 0 then ([], 0, (esc (s.data.toList.drop (k + 1))).2.2) else qtA f ((s.data.toList.drop (k + 1)).drop (esc (s.data.toList.drop (k + 1))).2.1) (acc ++ [(esc (s.data.toList.drop (k + 1))).1.toNat.toUInt8]) (k + (esc (s.data.toList.drop (k + 1))).2.1 + 1))
          else qtA f (s.data.toList.drop (k + 1)) (acc ++ [s[k]]) (k + 1)) := by
        show _ = _
        rw [← hE.out, drop_cons s k hlt]; rfl
      have hbs := hbel.size
      have hcl : (Lib.byteCells acc).length + 1 ≤ 140737488355328 := by unfold Lib.byteCells; simp; omega
      by_cases h34 : s[k].toNat = 34
      · have h34' : ((s[k].toNat : Int) == 34) = true := by simp [h34]
        have hR := Lib.hid (show R = (acc, k + 1, 0) from by rw [hE2.out, if_pos h34])
        clear h34
        go_wp2_with (first | (go_at_call 209; refine (Tryz.Builder_String_any _ _ acc _ hB hbs).mono ?_; rintro e w1 ⟨rfl, hb1⟩))
        go_ret3
        exact ⟨by rw [hR.out]; simp, hbel.trans hb1⟩
      · have h34' : ((s[k].toNat : Int) == 34) = false := by simp; omega
        by_cases h10 : s[k].toNat = 10
        · have h10' : ((s[k].toNat : Int) == 10) = true := by simp [h10]
          have hR := Lib.hid (show R = ([], 0, 21) from by rw [hE2.out, if_neg h34, if_pos h10])
          clear h10 h34
          go_wp2_with fail
          go_ret3
          exact ⟨by rw [hR.out]; rfl, hbel⟩
        · have h10' : ((s[k].toNat : Int) == 10) = false := by simp; omega
          by_cases h92 : s[k].toNat = 92
          · have h92' : ((s[k].toNat : Int) == 92) = true := by simp [h92]
            have hee := esc_bd (s.data.toList.drop (k + 1))
            have hesc := fun wx => token_escape (s.extract (k + 1) s.size) wx (by simp [maxLen]; omega)
            rw [drop_toList] at hesc
            have hR := Lib.hid (show R = (if (esc (s.data.toList.drop (k + 1))).2.2 ≠ 0 then ([], 0, (esc (s.data.toList.drop (k + 1))).2.2) else qtA f ((s.data.toList.drop (k + 1)).drop (esc (s.data.toList.drop (k + 1))).2.1) (acc ++ [(esc (s.data.toList.drop (k + 1))).1.toNat.toUInt8]) (k + (esc (s.data.toList.drop (k + 1))).2.1 + 1)) from by rw [hE2.out, if_neg h34, if_neg h10, if_pos h92])
            clear hE2 h92 h10 h34
            generalize esc (s.data.toList.drop (k + 1)) = E at hee hesc hR
            obtain ⟨ev, en, ee⟩ := E
            obtain ⟨g1, g2, g3, g4, g5, g6, g7⟩ := hee
            simp only [List.length_drop] at g1 g2 g3 g4 g5 g6 g7 hesc hR
            have g4' : en + (k + 1) ≤ s.size := by simp at g4; omega
            have HS := Lib.hid hesc; clear hesc g4
            by_cases hz : ee = 0
            · subst hz
              have g5' := Lib.hid (g5 rfl); clear g5
              go_wp2_with (first | (go_at_call 210; refine (HS.out _).mono ?_; rintro e w1 ⟨rfl, nd, rfl⟩) | (go_at_call 211; refine (writeByte _ _ (Lib.byteCells acc) ev _ (by exact hB) hcl (by exact hbs)).mono ?_; rintro e w1 ⟨rfl, hb1, hb2⟩))
              go_roundw
              case rel => exact ⟨k + en + 1, f, acc ++ [ev.toNat.toUInt8], by omega, by omega, by omega, by simp; omega, by go_num, by have := hR.out; rw [if_neg (by simp), List.drop_drop] at this; show _ = _; rw [this, show k + 1 + en = k + en + 1 from by omega], .inr (by rw [← byteCells_snoc acc ev g1 g2]; exact hb1), (below_drewN hbel nd).trans hb2⟩
              case measure => simp [intOf]; omega
            · have hz' : (ee != 0) = true := by simpa using hz
              have HR := Lib.hid (show R = ([], 0, ee) from by rw [hR.out, if_pos hz])
              clear hz g5
              go_wp2_with (first | (go_at_call 210; refine (HS.out _).mono ?_; rintro e w1 ⟨rfl, nd, rfl⟩))
              go_ret3
              exact ⟨by rw [HR.out]; rfl, below_drewN hbel _⟩
          · have h92' : ((s[k].toNat : Int) == 92) = false := by simp; omega
            have hR := Lib.hid (show R = qtA f (s.data.toList.drop (k + 1)) (acc ++ [s[k]]) (k + 1) from by rw [hE2.out, if_neg h34, if_neg h10, if_neg h92])
            clear hE2 h92 h10 h34
            go_wp2_with (first | (go_at_call 211; refine (writeByte _ _ (Lib.byteCells acc) _ _ hB hcl hbs).mono ?_; rintro e w1 ⟨rfl, hb1, hb2⟩))
            go_roundw
            case rel => exact ⟨k + 1, f, acc ++ [s[k]], by omega, by omega, by omega, by simp; omega, by go_num, hR.out.symm, .inr (by simpa [Lib.byteCells] using hb1), hbel.trans hb2⟩
            case measure => simp [intOf]; omega
    · have hR := Lib.hid (show R = ([], 0, 21) from by rw [← hE.out, drop_end s k (by omega)]; cases f <;> rfl)
      go_wp2_with fail
      go_ret3
      exact ⟨by rw [hR.out]; rfl, hbel⟩
end Go.Proofs.YtiojnbhomjkkgaaGreatDoor

namespace Go.Proofs.YtiojnbhomjkkgaaGreatDoor
open Go.RowKit

theorem str_take (s : ByteArray) (a b : Nat) : s.extract a b = ⟨((s.data.toList.take b).drop a).toArray⟩ := by
  apply ByteArray.ext
  apply Array.toList_inj.1
  rw [take_toList]
theorem token_run0 (s : ByteArray) (g : Nat) (p : Int → Bool) (w : World) (hp : Tells g p) (eg : ∀ args w, (callFunc g args).run Tryz.prog w = .ok (.enter g args) w) (hs : s.size ≤ maxLen) :
    Calls Tryz.prog 135 #[.string s, .int .i64 0, .func (.func g) #[] #[]] w fun e w' => e = .returned (.int .i64 (runB p s.data.toList)) ∧ w = w' :=
  token_run s 0 g p w hp eg hs (Nat.zero_le _)
theorem token_run1 (s : ByteArray) (g : Nat) (p : Int → Bool) (w : World) (hp : Tells g p) (eg : ∀ args w, (callFunc g args).run Tryz.prog w = .ok (.enter g args) w) (hs : s.size ≤ maxLen) (h1 : 0 < s.size) :
    Calls Tryz.prog 135 #[.string s, .int .i64 1, .func (.func g) #[] #[]] w fun e w' => e = .returned (.int .i64 (runB p (s.data.toList.drop 1))) ∧ w = w' :=
  token_run s 1 g p w hp eg hs h1

/-- A token as a value. -/
def tokAgg (file : Int) (t : Tok) : Value := .agg #[.int .i64 t.kind, .string ⟨t.text.toArray⟩, .int .i64 t.value, .int .i64 file, .int .i64 t.line, .int .i64 t.col]
def NextPost (s : ByteArray) (w : World) (e : Ending) (w' : World) : Prop :=
  e = .returned (.tuple #[tokAgg 0 (nextT s.data.toList).1, .int .i64 (nextT s.data.toList).2.1, .int .i64 (nextT s.data.toList).2.2]) ∧ Below w.heap.size w w'

theorem len_of (s : ByteArray) : s.data.toList.length = s.size := by simp
theorem getD_of (s : ByteArray) (n : Nat) (h : n < s.size) : s.data.toList.getD n 0 = s[n] := by
  have := drop_cons s n h
  rw [List.getD_eq_getElem?_getD, List.getElem?_eq_getElem (by simpa using h)]; rfl

set_option maxHeartbeats 4000000 in
theorem next_name (s : ByteArray) (w : World) (hs : s.size ≤ 140737488355328) (h1 : 0 < s.size) (hc : letterB s[0].toNat = true ∨ (s[0].toNat : Int) = 95 ∨ (s[0].toNat : Int) = 35) :
    Calls Tryz.prog 77 #[.string s] w (NextPost s w) := by
  have hm : s.size ≤ maxLen := by unfold maxLen; omega
  have hH := head_of s h1
  have hF := Lib.hid (show nextT s.data.toList = if runB nameB s.data.toList = s.data.toList.length ∨ (s.data.toList.getD (runB nameB s.data.toList) 0).toNat ≠ 58 then (⟨1, s.data.toList.take (runB nameB s.data.toList), 0, 0, 0⟩, runB nameB s.data.toList, 0)
    else if allB wordB (s.data.toList.take (runB nameB s.data.toList)) = true then (⟨5, s.data.toList.take (runB nameB s.data.toList), 0, 0, 0⟩, runB nameB s.data.toList + 1, 0) else (⟨0, [], 0, 0, 0⟩, 0, 6) from by unfold nextT; simp only [hH]; rw [if_pos hc])
  have hrun := fun wx => token_run0 s 139 nameB wx tells_name enters_name hm
  have hn := runB_le nameB s.data.toList
  have hall := fun wx => token_all (s.extract 0 (runB nameB s.data.toList)) 141 wordB wx tells_word enters_word (by unfold maxLen at *; simp; omega)
  rw [take_toList, List.drop_zero] at hall
  generalize runB nameB s.data.toList = n at hF hrun hn hall
  have HR := Lib.hid hrun; clear hrun
  have HA := Lib.hid hall; clear hall
  have hn' : n ≤ s.size := by simpa using hn
  clear hn hH
  have hcs : letterB s[0].toNat = true ∨ letterB s[0].toNat = false ∧ ((s[0].toNat : Int) == 95) = true ∨ letterB s[0].toNat = false ∧ ((s[0].toNat : Int) == 95) = false ∧ ((s[0].toNat : Int) == 35) = true := by
    by_cases a : letterB s[0].toNat = true
    · exact .inl a
    · have a' : letterB s[0].toNat = false := by simpa using a
      by_cases b : (s[0].toNat : Int) = 95
      · exact .inr (.inl ⟨a', by simpa using b⟩)
      · have c : (s[0].toNat : Int) = 35 := by rcases hc with h | h | h; exact absurd h a; exact absurd h b; exact h
        exact .inr (.inr ⟨a', by simpa using b, by simpa using c⟩)
  clear hc
  by_cases hns : n = s.size
  · have hR := Lib.hid (show nextT s.data.toList = (⟨1, s.data.toList.take n, 0, 0, 0⟩, n, 0) from by rw [hF.out, if_pos (.inl (by simpa using hns))])
    have hns' : ((n : Int) == (s.size : Int)) = true := by simp; omega
    clear hns
    rcases hcs with h | ⟨h, h'⟩ | ⟨h, h', h''⟩
    all_goals
      go_enter Tryz.func77, Tryz.ntmps77
      go_wp2_with (first | (go_at_call 138; refine (token_letter _ _).mono ?_; rintro e w' ⟨rfl, rfl⟩) | (go_at_call 135; refine (HR.out _).mono ?_; rintro e w' ⟨rfl, rfl⟩))
      exact bodyPost_ret (v := .tuple #[.agg #[.int .i64 1, .string (s.extract 0 n), .int .i64 0, .int .i64 0, .int .i64 0, .int .i64 0], .int .i64 n, .int .i64 0]) (by simp [results, Tryz.results77, go_sem]) rfl ⟨by rw [hR.out, str_take]; rfl, (Below.refl _ _).alloc (Nat.le_refl _) _⟩
  · have hlt : n < s.size := by omega
    have hns' : ((n : Int) == (s.size : Int)) = false := by simp; omega
    have hg := getD_of s n hlt
    by_cases h58 : s[n].toNat = 58
    · have h58' : ((s[n].toNat : Int) != 58) = false := by simp [h58]
      by_cases hw : allB wordB (s.data.toList.take n) = true
      · have hR := Lib.hid (show nextT s.data.toList = (⟨5, s.data.toList.take n, 0, 0, 0⟩, n + 1, 0) from by rw [hF.out, if_neg, if_pos hw]; rintro (h | h); exact hns (by simpa using h); rw [hg] at h; exact h h58)
        clear hns h58 hg
        rcases hcs with h | ⟨h, h'⟩ | ⟨h, h', h''⟩
        all_goals
          go_enter Tryz.func77, Tryz.ntmps77
          go_wp2_with (first | (go_at_call 138; refine (token_letter _ _).mono ?_; rintro e w' ⟨rfl, rfl⟩) | (go_at_call 135; refine (HR.out _).mono ?_; rintro e w' ⟨rfl, rfl⟩) | (go_at_call 140; refine (HA.out _).mono ?_; rintro e w' ⟨rfl, rfl⟩))
          exact bodyPost_ret (v := .tuple #[.agg #[.int .i64 5, .string (s.extract 0 n), .int .i64 0, .int .i64 0, .int .i64 0, .int .i64 0], .int .i64 (n + 1), .int .i64 0]) (by simp [results, Tryz.results77, go_sem]) rfl ⟨by rw [hR.out, str_take]; rfl, (Below.refl _ _).alloc (Nat.le_refl _) _⟩
      · have hw : allB wordB (s.data.toList.take n) = false := by simpa using hw
        have hR := Lib.hid (show nextT s.data.toList = (⟨0, [], 0, 0, 0⟩, 0, 6) from by rw [hF.out, if_neg, if_neg (by simp [hw])]; rintro (h | h); exact hns (by simpa using h); rw [hg] at h; exact h h58)
        clear hns h58 hg
        rcases hcs with h | ⟨h, h'⟩ | ⟨h, h', h''⟩
        all_goals
          go_enter Tryz.func77, Tryz.ntmps77
          go_wp2_with (first | (go_at_call 138; refine (token_letter _ _).mono ?_; rintro e w' ⟨rfl, rfl⟩) | (go_at_call 135; refine (HR.out _).mono ?_; rintro e w' ⟨rfl, rfl⟩) | (go_at_call 140; refine (HA.out _).mono ?_; rintro e w' ⟨rfl, rfl⟩))
          exact bodyPost_ret (v := .tuple #[.agg #[.int .i64 0, .string ⟨#[]⟩, .int .i64 0, .int .i64 0, .int .i64 0, .int .i64 0], .int .i64 0, .int .i64 6]) (by simp [results, Tryz.results77, go_sem]) rfl ⟨by rw [hR.out]; rfl, (Below.refl _ _).alloc (Nat.le_refl _) _⟩
    · have h58' : ((s[n].toNat : Int) != 58) = true := by simp; omega
      have hR := Lib.hid (show nextT s.data.toList = (⟨1, s.data.toList.take n, 0, 0, 0⟩, n, 0) from by rw [hF.out, if_pos]; right; rw [hg]; exact h58)
      clear hns h58 hg
      rcases hcs with h | ⟨h, h'⟩ | ⟨h, h', h''⟩
      all_goals
        go_enter Tryz.func77, Tryz.ntmps77
        go_wp2_with (first | (go_at_call 138; refine (token_letter _ _).mono ?_; rintro e w' ⟨rfl, rfl⟩) | (go_at_call 135; refine (HR.out _).mono ?_; rintro e w' ⟨rfl, rfl⟩) | (go_at_call 140; refine (HA.out _).mono ?_; rintro e w' ⟨rfl, rfl⟩))
        exact bodyPost_ret (v := .tuple #[.agg #[.int .i64 1, .string (s.extract 0 n), .int .i64 0, .int .i64 0, .int .i64 0, .int .i64 0], .int .i64 n, .int .i64 0]) (by simp [results, Tryz.results77, go_sem]) rfl ⟨by rw [hR.out, str_take]; rfl, (Below.refl _ _).alloc (Nat.le_refl _) _⟩

theorem hcs_no (c : Int) (hc : ¬ (letterB c = true ∨ c = 95 ∨ c = 35)) : letterB c = false ∧ (c == 95) = false ∧ (c == 35) = false := by
  refine ⟨?_, ?_, ?_⟩
  · cases h : letterB c; rfl; exact absurd (.inl h) hc
  · simp; intro h; exact hc (.inr (.inl h))
  · simp; intro h; exact hc (.inr (.inr h))

set_option maxHeartbeats 4000000 in
theorem next_digit (s : ByteArray) (w : World) (hs : s.size ≤ 140737488355328) (h1 : 0 < s.size) (hc : ¬ (letterB s[0].toNat = true ∨ (s[0].toNat : Int) = 95 ∨ (s[0].toNat : Int) = 35)) (hd : digitB s[0].toNat = true) :
    Calls Tryz.prog 77 #[.string s] w (NextPost s w) := by
  have hm : s.size ≤ maxLen := by unfold maxLen; omega
  have hH := head_of s h1
  have hF := Lib.hid (show nextT s.data.toList = (⟨2, [], (numT (s.data.toList.take (runB wordB s.data.toList))).1, 0, 0⟩, runB wordB s.data.toList, (numT (s.data.toList.take (runB wordB s.data.toList))).2) from by unfold nextT; simp only [hH]; rw [if_neg hc, if_pos hd])
  have hrun := fun wx => token_run0 s 141 wordB wx tells_word enters_word hm
  have hn := runB_le wordB s.data.toList
  have hnum := fun wx => token_number (s.extract 0 (runB wordB s.data.toList)) wx (by unfold maxLen at *; simp; omega)
  rw [take_toList, List.drop_zero] at hnum
  generalize runB wordB s.data.toList = n at hF hrun hn hnum
  generalize numT (s.data.toList.take n) = N at hF hnum
  have HR := Lib.hid hrun; clear hrun
  have HA := Lib.hid hnum; clear hnum
  have hn' : n ≤ s.size := by simpa using hn
  clear hn hH
  obtain ⟨h, h', h''⟩ := hcs_no _ hc
  clear hc
  go_enter Tryz.func77, Tryz.ntmps77
  go_wp2_with (first | (go_at_call 138; refine (token_letter _ _).mono ?_; rintro e w' ⟨rfl, rfl⟩) | (go_at_call 142; refine (token_digit _ _).mono ?_; rintro e w' ⟨rfl, rfl⟩) | (go_at_call 135; refine (HR.out _).mono ?_; rintro e w' ⟨rfl, rfl⟩) | (go_at_call 143; refine (HA.out _).mono ?_; rintro e w' ⟨rfl, nd, rfl⟩))
  exact bodyPost_ret (v := .tuple #[.agg #[.int .i64 2, .string ⟨#[]⟩, .int .i64 N.1, .int .i64 0, .int .i64 0, .int .i64 0], .int .i64 n, .int .i64 N.2]) (by simp [results, Tryz.results77, go_sem]) rfl ⟨by rw [hF.out]; rfl,
    ((((((below_drewN ((Below.refl _ _).alloc (Nat.le_refl _) _) nd).setCell (Nat.le_refl _) _).setCell (Nat.le_refl _) _).setCell (Nat.le_refl _) _).setCell (Nat.le_refl _) _).setCell (Nat.le_refl _) _).setCell (Nat.le_refl _) _⟩

/-- Six cells of a block, as a walk wants them. -/
theorem six {w : World} {b : Nat} {x0 x1 x2 x3 x4 x5 : Value} {t : TypeId} (h : Holds w b #[x0, x1, x2, x3, x4, x5] t) :
    (w.cell? ⟨b, 0, none⟩ = some x0 ∧ w.cell? ⟨b, 1, none⟩ = some x1 ∧ w.cell? ⟨b, 2, none⟩ = some x2 ∧ w.cell? ⟨b, 3, none⟩ = some x3 ∧ w.cell? ⟨b, 4, none⟩ = some x4 ∧ w.cell? ⟨b, 5, none⟩ = some x5) ∧
    (w.frozen? ⟨b, 0, none⟩ = false ∧ w.frozen? ⟨b, 1, none⟩ = false ∧ w.frozen? ⟨b, 2, none⟩ = false ∧ w.frozen? ⟨b, 3, none⟩ = false ∧ w.frozen? ⟨b, 4, none⟩ = false ∧ w.frozen? ⟨b, 5, none⟩ = false) :=
  ⟨⟨h.cell 0, h.cell 1, h.cell 2, h.cell 3, h.cell 4, h.cell 5⟩, h.free 0, h.free 1, h.free 2, h.free 3, h.free 4, h.free 5⟩

set_option maxHeartbeats 4000000 in
theorem next_string (s : ByteArray) (w : World) (hs : s.size ≤ 140737488355328) (h1 : 0 < s.size) (hc : ¬ (letterB s[0].toNat = true ∨ (s[0].toNat : Int) = 95 ∨ (s[0].toNat : Int) = 35)) (hd : digitB s[0].toNat = false) (hq : (s[0].toNat : Int) = 34) :
    Calls Tryz.prog 77 #[.string s] w (NextPost s w) := by
  have hH := head_of s h1
  have hF := Lib.hid (show nextT s.data.toList = (⟨3, (qtA s.data.toList.length (s.data.toList.drop 1) [] 1).1, 0, 0, 0⟩, (qtA s.data.toList.length (s.data.toList.drop 1) [] 1).2.1, (qtA s.data.toList.length (s.data.toList.drop 1) [] 1).2.2) from by unfold nextT; simp only [hH]; rw [if_neg hc, if_neg (by simp [hd]), if_pos hq])
  have hnum := fun wx => token_quoted s wx hs h1
  generalize qtA s.data.toList.length (s.data.toList.drop 1) [] 1 = Q at hF hnum
  have HA := Lib.hid hnum; clear hnum
  have hq' : ((s[0].toNat : Int) == 34) = true := by simpa using hq
  obtain ⟨h, h', h''⟩ := hcs_no _ hc
  clear hc hq hH
  go_enter Tryz.func77, Tryz.ntmps77
  go_wp2_with (first | (go_at_call 138; refine (token_letter _ _).mono ?_; rintro e w' ⟨rfl, rfl⟩) | (go_at_call 142; refine (token_digit _ _).mono ?_; rintro e w' ⟨rfl, rfl⟩))
  refine (HA.out _).mono ?_
  rintro e w1 ⟨rfl, hb1⟩
  have hB : Holds w1 w.heap.size #[.int .i64 0, .string ⟨#[]⟩, .int .i64 0, .int .i64 0, .int .i64 0, .int .i64 0] 80 := (hb1.block w.heap.size (by simp)).trans (Holds.new w _ _)
  obtain ⟨⟨c0, c1, c2, c3, c4, c5⟩, f0, f1, f2, f3, f4, f5⟩ := six hB
  have hlt := hB.lt
  have hb2 : Below w.heap.size w w1 := ((Below.refl _ _).alloc (Nat.le_refl _) _).trans (hb1.mono (by simp))
  go_wp2_with fail
  exact bodyPost_ret (v := .tuple #[.agg #[.int .i64 3, .string ⟨Q.1.toArray⟩, .int .i64 0, .int .i64 0, .int .i64 0, .int .i64 0], .int .i64 Q.2.1, .int .i64 Q.2.2]) (by simp [results, Tryz.results77, go_sem, c0, c1, c2, c3, c4, c5]) rfl ⟨by rw [hF.out]; rfl,
    (((((hb2.setCell (Nat.le_refl _) _).setCell (Nat.le_refl _) _).setCell (Nat.le_refl _) _).setCell (Nat.le_refl _) _).setCell (Nat.le_refl _) _).setCell (Nat.le_refl _) _⟩

end Go.Proofs.YtiojnbhomjkkgaaGreatDoor

namespace Go.Proofs.YtiojnbhomjkkgaaGreatDoor
open Go.RowKit

set_option maxHeartbeats 4000000 in
theorem next_ref (s : ByteArray) (w : World) (hs : s.size ≤ 140737488355328) (h1 : 0 < s.size) (hc : ¬ (letterB s[0].toNat = true ∨ (s[0].toNat : Int) = 95 ∨ (s[0].toNat : Int) = 35)) (hd : digitB s[0].toNat = false) (hq : ¬ (s[0].toNat : Int) = 34) (h38 : (s[0].toNat : Int) = 38) (hs1 : 1 < s.size) (hl : letterB s[1].toNat = true ∨ (s[1].toNat : Int) = 95) :
    Calls Tryz.prog 77 #[.string s] w (NextPost s w) := by
  have hm : s.size ≤ maxLen := by unfold maxLen; omega
  have hH := head_of s h1
  have hG := getD_of s 1 hs1
  have hF := Lib.hid (show nextT s.data.toList = (⟨6, (s.data.toList.take (runB wordB (s.data.toList.drop 1) + 1)).drop 1, 0, 0, 0⟩, runB wordB (s.data.toList.drop 1) + 1, 0) from by
    unfold nextT; simp only [hH]; rw [if_neg hc, if_neg (by simp [hd]), if_neg hq, if_pos ⟨h38, by simpa using hs1, by rw [hG]; rcases hl with h | h; exact .inl h; right; omega⟩])
  have hrun := fun wx => token_run1 s 141 wordB wx tells_word enters_word hm h1
  have hn := runB_le wordB (s.data.toList.drop 1)
  generalize runB wordB (s.data.toList.drop 1) = n at hF hrun hn
  have HR := Lib.hid hrun; clear hrun
  have hn' : n + 1 ≤ s.size := by simp at hn; omega
  have hq' : ((s[0].toNat : Int) == 34) = false := by simpa using hq
  have h38' : ((s[0].toNat : Int) == 38) = true := by simpa using h38
  obtain ⟨h, h', h''⟩ := hcs_no _ hc
  clear hn hH hG hc hq h38
  by_cases hl1 : letterB s[1].toNat = true
  · clear hl
    go_enter Tryz.func77, Tryz.ntmps77
    go_wp2_with (first | (go_at_call 138; refine (token_letter _ _).mono ?_; rintro e w' ⟨rfl, rfl⟩) | (go_at_call 142; refine (token_digit _ _).mono ?_; rintro e w' ⟨rfl, rfl⟩) | (go_at_call 135; refine (HR.out _).mono ?_; rintro e w' ⟨rfl, rfl⟩))
    exact bodyPost_ret (v := .tuple #[.agg #[.int .i64 6, .string (s.extract 1 (n + 1)), .int .i64 0, .int .i64 0, .int .i64 0, .int .i64 0], .int .i64 (n + 1), .int .i64 0]) (by simp [results, Tryz.results77, go_sem]) rfl ⟨by rw [hF.out, str_take]; rfl, (Below.refl _ _).alloc (Nat.le_refl _) _⟩
  · have hl2 : ((s[1].toNat : Int) == 95) = true := by rcases hl with h | h; exact absurd h hl1; simpa using h
    have hl1 : letterB s[1].toNat = false := by simpa using hl1
    clear hl
    go_enter Tryz.func77, Tryz.ntmps77
    go_wp2_with (first | (go_at_call 138; refine (token_letter _ _).mono ?_; rintro e w' ⟨rfl, rfl⟩) | (go_at_call 142; refine (token_digit _ _).mono ?_; rintro e w' ⟨rfl, rfl⟩) | (go_at_call 135; refine (HR.out _).mono ?_; rintro e w' ⟨rfl, rfl⟩))
    exact bodyPost_ret (v := .tuple #[.agg #[.int .i64 6, .string (s.extract 1 (n + 1)), .int .i64 0, .int .i64 0, .int .i64 0, .int .i64 0], .int .i64 (n + 1), .int .i64 0]) (by simp [results, Tryz.results77, go_sem]) rfl ⟨by rw [hF.out, str_take]; rfl, (Below.refl _ _).alloc (Nat.le_refl _) _⟩

/-- The signs' part of the spec. -/
def sgT (l : List UInt8) : Tok × Nat × Int := if signN l > 0 then (⟨4, l.take (signN l), 0, 0, 0⟩, signN l, 0) else (⟨0, [], 0, 0, 0⟩, 0, 20)
theorem signN_le (l : List UInt8) (h : l ≠ []) : signN l ≤ l.length := by
  unfold signN
  split
  · rename_i h2
    simp only [pairsL, List.any_cons, List.any_nil, Bool.or_false, Bool.or_eq_true] at h2
    rcases h2 with h2 | h2 | h2 | h2 | h2 | h2 | h2 | h2 <;> exact Lib.hasPrefix_le h2
  · split
    · have := List.length_pos_iff.2 h; omega
    · omega

set_option maxHeartbeats 4000000 in
theorem next_sign (s : ByteArray) (w : World) (hs : s.size ≤ 140737488355328) (h1 : 0 < s.size) (hc : ¬ (letterB s[0].toNat = true ∨ (s[0].toNat : Int) = 95 ∨ (s[0].toNat : Int) = 35)) (hd : digitB s[0].toNat = false) (hq : ¬ (s[0].toNat : Int) = 34) (h38 : ¬ ((s[0].toNat : Int) = 38 ∧ 1 < s.size ∧ (letterB (s.data.toList.getD 1 0).toNat = true ∨ (s.data.toList.getD 1 0).toNat = 95))) (h47 : ¬ (s[0].toNat : Int) = 47) :
    Calls Tryz.prog 77 #[.string s] w (NextPost s w) := by
  have hm : s.size ≤ maxLen := by unfold maxLen; omega
  have hH := head_of s h1
  have hF := Lib.hid (show nextT s.data.toList = sgT s.data.toList from by
    unfold nextT; simp only [hH]; rw [if_neg hc, if_neg (by simp [hd]), if_neg hq, if_neg (by simpa using h38), if_neg h47]; rfl)
  have hsg := fun wx => token_sign s wx hm h1
  have hn := signN_le s.data.toList (by intro e; have h2 := len_of s; rw [e] at h2; simp only [List.length_nil] at h2; omega)
  unfold sgT at hF
  generalize signN s.data.toList = n at hF hsg hn
  have HR := Lib.hid hsg; clear hsg
  have hn' : n ≤ s.size := by simpa using hn
  have hq' : ((s[0].toNat : Int) == 34) = false := by simpa using hq
  have h47' : ((s[0].toNat : Int) == 47) = false := by simpa using h47
  obtain ⟨h, h', h''⟩ := hcs_no _ hc
  have h38c : ((s[0].toNat : Int) == 38) = false ∨ ((s[0].toNat : Int) == 38) = true ∧ ¬ 1 < s.size ∨ ∃ hs1 : 1 < s.size, ((s[0].toNat : Int) == 38) = true ∧ letterB s[1].toNat = false ∧ ((s[1].toNat : Int) == 95) = false := by
    by_cases a : (s[0].toNat : Int) = 38
    · by_cases b : 1 < s.size
      · rw [getD_of s 1 b] at h38
        refine .inr (.inr ⟨b, by simpa using a, ?_, ?_⟩)
        · cases hx : letterB s[1].toNat; rfl; exact absurd ⟨a, b, .inl hx⟩ h38
        · simp; intro hx; exact h38 ⟨a, b, .inr (by omega)⟩
      · exact .inr (.inl ⟨by simpa using a, b⟩)
    · exact .inl (by simpa using a)
  clear hn hH hc hq h38 h47
  by_cases hn0 : 0 < n
  · have hR := Lib.hid (show nextT s.data.toList = (⟨4, s.data.toList.take n, 0, 0, 0⟩, n, 0) from by rw [hF.out, if_pos hn0])
    rcases h38c with g | ⟨g, g'⟩ | ⟨g, g', g2, g3⟩
    all_goals
      go_enter Tryz.func77, Tryz.ntmps77
      go_wp2_with (first | (go_at_call 138; refine (token_letter _ _).mono ?_; rintro e w' ⟨rfl, rfl⟩) | (go_at_call 142; refine (token_digit _ _).mono ?_; rintro e w' ⟨rfl, rfl⟩) | (go_at_call 146; refine (HR.out _).mono ?_; rintro e w' ⟨rfl, rfl⟩))
      exact bodyPost_ret (v := .tuple #[.agg #[.int .i64 4, .string (s.extract 0 n), .int .i64 0, .int .i64 0, .int .i64 0, .int .i64 0], .int .i64 n, .int .i64 0]) (by simp [results, Tryz.results77, go_sem]) rfl ⟨by rw [hR.out, str_take]; rfl, (Below.refl _ _).alloc (Nat.le_refl _) _⟩
  · have hn0 : n = 0 := by omega
    subst hn0
    have hR := Lib.hid (show nextT s.data.toList = (⟨0, [], 0, 0, 0⟩, 0, 20) from by rw [hF.out, if_neg (by omega)])
    rcases h38c with g | ⟨g, g'⟩ | ⟨g, g', g2, g3⟩
    all_goals
      go_enter Tryz.func77, Tryz.ntmps77
      go_wp2_with (first | (go_at_call 138; refine (token_letter _ _).mono ?_; rintro e w' ⟨rfl, rfl⟩) | (go_at_call 142; refine (token_digit _ _).mono ?_; rintro e w' ⟨rfl, rfl⟩) | (go_at_call 146; refine (HR.out _).mono ?_; rintro e w' ⟨rfl, rfl⟩))
      exact bodyPost_ret (v := .tuple #[.agg #[.int .i64 0, .string ⟨#[]⟩, .int .i64 0, .int .i64 0, .int .i64 0, .int .i64 0], .int .i64 0, .int .i64 20]) (by simp [results, Tryz.results77, go_sem]) rfl ⟨by rw [hR.out]; rfl, (Below.refl _ _).alloc (Nat.le_refl _) _⟩
end Go.Proofs.YtiojnbhomjkkgaaGreatDoor

namespace Go.Proofs.YtiojnbhomjkkgaaGreatDoor
open Go.RowKit

set_option maxHeartbeats 8000000 in
theorem next_word (s : ByteArray) (w : World) (hs : s.size ≤ 140737488355328) (h1 : 0 < s.size) (hc : ¬ (letterB s[0].toNat = true ∨ (s[0].toNat : Int) = 95 ∨ (s[0].toNat : Int) = 35)) (hd : digitB s[0].toNat = false) (hq : ¬ (s[0].toNat : Int) = 34) (h47 : (s[0].toNat : Int) = 47) :
    Calls Tryz.prog 77 #[.string s] w (NextPost s w) := by
  have hm : s.size ≤ maxLen := by unfold maxLen; omega
  have hH := head_of s h1
  have hF := Lib.hid (show nextT s.data.toList = if runB smallB (s.data.toList.drop 1) > 0 ∧ runB smallB (s.data.toList.drop 1) + 1 < s.data.toList.length ∧ (s.data.toList.getD (runB smallB (s.data.toList.drop 1) + 1) 0).toNat = 47 then (⟨7, (s.data.toList.take (runB smallB (s.data.toList.drop 1) + 1)).drop 1, 0, 0, 0⟩, runB smallB (s.data.toList.drop 1) + 2, 0) else sgT s.data.toList from by
    unfold nextT; simp only [hH]; rw [if_neg hc, if_neg (by simp [hd]), if_neg hq, if_neg (by rintro ⟨a, _⟩; omega), if_pos h47]; rfl)
  have hsg := fun wx => token_sign s wx hm h1
  have hn := signN_le s.data.toList (by intro e; have h2 := len_of s; rw [e] at h2; simp only [List.length_nil] at h2; omega)
  have hrun := fun wx => token_run1 s 145 smallB wx tells_small enters_small hm h1
  have hu := runB_le smallB (s.data.toList.drop 1)
  unfold sgT at hF
  generalize signN s.data.toList = n at hF hsg hn
  generalize runB smallB (s.data.toList.drop 1) = u at hF hrun hu
  have HR := Lib.hid hsg; clear hsg
  have HU := Lib.hid hrun; clear hrun
  have hn' : n ≤ s.size := by simpa using hn
  have hu' : u + 1 ≤ s.size := by simp at hu; omega
  have hq' : ((s[0].toNat : Int) == 34) = false := by simpa using hq
  have h38' : ((s[0].toNat : Int) == 38) = false := by simp; omega
  have h47' : ((s[0].toNat : Int) == 47) = true := by simpa using h47
  obtain ⟨h, h', h''⟩ := hcs_no _ hc
  clear hn hu hH hc hq h47
  by_cases hw : 0 < u ∧ u + 1 < s.size ∧ (s.data.toList.getD (u + 1) 0).toNat = 47
  · obtain ⟨g1, g2, g3⟩ := hw
    have hR := Lib.hid (show nextT s.data.toList = (⟨7, (s.data.toList.take (u + 1)).drop 1, 0, 0, 0⟩, u + 2, 0) from by rw [hF.out, if_pos ⟨g1, by rw [len_of]; exact g2, g3⟩])
    rw [getD_of s _ g2] at g3
    have g4 : ((s[u + 1].toNat : Int) == 47) = true := by simp [g3]
    clear g3
    go_enter Tryz.func77, Tryz.ntmps77
    go_wp2_with (first | (go_at_call 138; refine (token_letter _ _).mono ?_; rintro e w' ⟨rfl, rfl⟩) | (go_at_call 142; refine (token_digit _ _).mono ?_; rintro e w' ⟨rfl, rfl⟩) | (go_at_call 135; refine (HU.out _).mono ?_; rintro e w' ⟨rfl, rfl⟩) | (go_at_call 146; refine (HR.out _).mono ?_; rintro e w' ⟨rfl, rfl⟩))
    exact bodyPost_ret (v := .tuple #[.agg #[.int .i64 7, .string (s.extract 1 (u + 1)), .int .i64 0, .int .i64 0, .int .i64 0, .int .i64 0], .int .i64 (u + 2), .int .i64 0]) (by simp [results, Tryz.results77, go_sem]) rfl ⟨by rw [hR.out, str_take]; rfl, (Below.refl _ _).alloc (Nat.le_refl _) _⟩
  · have hF2 := Lib.hid (show nextT s.data.toList = if n > 0 then (⟨4, s.data.toList.take n, 0, 0, 0⟩, n, 0) else (⟨0, [], 0, 0, 0⟩, 0, 20) from by rw [hF.out, if_neg (by rw [len_of]; exact hw)])
    have hwc : u = 0 ∨ (0 < u ∧ ¬ u + 1 < s.size) ∨ (0 < u ∧ ∃ g : u + 1 < s.size, ((s[u + 1].toNat : Int) == 47) = false) := by
      by_cases a : 0 < u
      · by_cases b : u + 1 < s.size
        · refine .inr (.inr ⟨a, b, ?_⟩)
          rw [getD_of s _ b] at hw
          simp; intro hx; exact hw ⟨a, b, by omega⟩
        · exact .inr (.inl ⟨a, b⟩)
      · exact .inl (by omega)
    clear hw
    by_cases hn0 : 0 < n
    · have hR := Lib.hid (show nextT s.data.toList = (⟨4, s.data.toList.take n, 0, 0, 0⟩, n, 0) from by rw [hF2.out, if_pos hn0])
      rcases hwc with rfl | ⟨g, g'⟩ | ⟨g, g', g2⟩
      all_goals
        go_enter Tryz.func77, Tryz.ntmps77
        go_wp2_with (first | (go_at_call 138; refine (token_letter _ _).mono ?_; rintro e w' ⟨rfl, rfl⟩) | (go_at_call 142; refine (token_digit _ _).mono ?_; rintro e w' ⟨rfl, rfl⟩) | (go_at_call 135; refine (HU.out _).mono ?_; rintro e w' ⟨rfl, rfl⟩) | (go_at_call 146; refine (HR.out _).mono ?_; rintro e w' ⟨rfl, rfl⟩))
        exact bodyPost_ret (v := .tuple #[.agg #[.int .i64 4, .string (s.extract 0 n), .int .i64 0, .int .i64 0, .int .i64 0, .int .i64 0], .int .i64 n, .int .i64 0]) (by simp [results, Tryz.results77, go_sem]) rfl ⟨by rw [hR.out, str_take]; rfl, (Below.refl _ _).alloc (Nat.le_refl _) _⟩
    · have hn0 : n = 0 := by omega
      subst hn0
      have hR := Lib.hid (show nextT s.data.toList = (⟨0, [], 0, 0, 0⟩, 0, 20) from by rw [hF2.out, if_neg (by omega)])
      rcases hwc with rfl | ⟨g, g'⟩ | ⟨g, g', g2⟩
      all_goals
        go_enter Tryz.func77, Tryz.ntmps77
        go_wp2_with (first | (go_at_call 138; refine (token_letter _ _).mono ?_; rintro e w' ⟨rfl, rfl⟩) | (go_at_call 142; refine (token_digit _ _).mono ?_; rintro e w' ⟨rfl, rfl⟩) | (go_at_call 135; refine (HU.out _).mono ?_; rintro e w' ⟨rfl, rfl⟩) | (go_at_call 146; refine (HR.out _).mono ?_; rintro e w' ⟨rfl, rfl⟩))
        exact bodyPost_ret (v := .tuple #[.agg #[.int .i64 0, .string ⟨#[]⟩, .int .i64 0, .int .i64 0, .int .i64 0, .int .i64 0], .int .i64 0, .int .i64 20]) (by simp [results, Tryz.results77, go_sem]) rfl ⟨by rw [hR.out]; rfl, (Below.refl _ _).alloc (Nat.le_refl _) _⟩

theorem token_next (s : ByteArray) (w : World) (hs : s.size ≤ 140737488355328) (h1 : 0 < s.size) : Calls Tryz.prog 77 #[.string s] w (NextPost s w) := by
  by_cases hc : letterB s[0].toNat = true ∨ (s[0].toNat : Int) = 95 ∨ (s[0].toNat : Int) = 35
  · exact next_name s w hs h1 hc
  · cases hd : digitB s[0].toNat
    · by_cases hq : (s[0].toNat : Int) = 34
      · exact next_string s w hs h1 hc hd hq
      · by_cases h47 : (s[0].toNat : Int) = 47
        · exact next_word s w hs h1 hc hd hq h47
        · by_cases h38 : (s[0].toNat : Int) = 38 ∧ 1 < s.size ∧ (letterB (s.data.toList.getD 1 0).toNat = true ∨ (s.data.toList.getD 1 0).toNat = 95)
          · obtain ⟨a, b, c⟩ := h38
            rw [getD_of s 1 b] at c
            exact next_ref s w hs h1 hc hd hq a b (by rcases c with c | c; exact .inl c; right; omega)
          · exact next_sign s w hs h1 hc hd hq h38 h47
    · exact next_digit s w hs h1 hc hd
end Go.Proofs.YtiojnbhomjkkgaaGreatDoor

namespace Go.Proofs.YtiojnbhomjkkgaaGreatDoor
open Go.RowKit

/-- The cells of tokens. -/
def tokCells (file : Int) (t : Tok) : List Value := [.int .i64 t.kind, .string ⟨t.text.toArray⟩, .int .i64 t.value, .int .i64 file, .int .i64 t.line, .int .i64 t.col]
def toksCells (file : Int) (l : List Tok) : List Value := l.flatMap (tokCells file)
def posAgg (p : Int × Int × Int) : Value := .agg #[.int .i64 p.1, .int .i64 p.2.1, .int .i64 p.2.2]
theorem toksCells_snoc (file : Int) (l : List Tok) (t : Tok) : toksCells file (l ++ [t]) = toksCells file l ++ tokCells file t := by simp [toksCells]
theorem tok_one (file : Int) (t : Tok) : ∀ u ∈ tokCells file t, u.oneCell' = true := by
  intro u hu
  simp only [tokCells, List.mem_cons, List.not_mem_nil, or_false] at hu
  rcases hu with rfl | rfl | rfl | rfl | rfl | rfl <;> rfl
def ReadPost (s : ByteArray) (file : Int) (w : World) (e : Ending) (w' : World) : Prop :=
  ∃ v, e = .returned (.tuple #[v, posAgg (readT s.data.toList file).2.1, .int .i64 (readT s.data.toList file).2.2]) ∧
    w'.ownsRow w.heap.size 80 6 v (readT s.data.toList file).1.length (toksCells file (readT s.data.toList file).1) ∧ Below w.heap.size w w'

theorem ownsRow_shape {w : World} {base : Nat} {e : TypeId} {size : Nat} {v : Value} {n : Nat} {xs : List Value} (h : w.ownsRow base e size v n xs) : ∃ a cap, v = .slice a n cap := by
  rcases h.2 with ⟨rfl, rfl⟩ | ⟨g, cap, cur, rfl, _⟩
  · exact ⟨none, 0, rfl⟩
  · exact ⟨_, _, rfl⟩
theorem ownsRow_base {w : World} {base base' : Nat} {e : TypeId} {size : Nat} {v : Value} {n : Nat} {xs : List Value} (h : w.ownsRow base e size v n xs) (hb : base' ≤ base) : w.ownsRow base' e size v n xs := by
  refine ⟨h.1, ?_⟩
  rcases h.2 with hn | ⟨g, cap, cur, rfl, hg, r⟩
  · exact .inl hn
  · exact .inr ⟨g, cap, cur, rfl, by omega, r⟩
theorem tri {w : World} {b : Nat} {x0 x1 x2 : Value} {t : TypeId} (h : Holds w b #[x0, x1, x2] t) :
    w.cell? ⟨b, 0, none⟩ = some x0 ∧ w.cell? ⟨b, 1, none⟩ = some x1 ∧ w.cell? ⟨b, 2, none⟩ = some x2 ∧ w.frozen? ⟨b, 0, none⟩ = false ∧ w.frozen? ⟨b, 1, none⟩ = false ∧ w.frozen? ⟨b, 2, none⟩ = false :=
  ⟨h.cell 0, h.cell 1, h.cell 2, h.free 0, h.free 1, h.free 2⟩

section
variable {file : Int} {f : Nat} {l : List UInt8} {p : Int × Int} {acc : List Tok} {B : Nat × Bool}
theorem rdA_bad (hB : blk l.length l = B) (h : B.2 = true) : rdA file (f + 1) l p acc = ([], (file, (adv (l.take B.1) p).1, (adv (l.take B.1) p).2), 21) := by
  subst hB; simp only [rdA]; rw [if_pos h]
theorem rdA_full (hB : blk l.length l = B) (h : B.2 = false) (h2 : acc.length = 6000) : rdA file (f + 1) l p acc = ([], (file, (adv (l.take B.1) p).1, (adv (l.take B.1) p).2), 3) := by
  subst hB; simp only [rdA]; rw [if_neg (by simp [h]), if_pos h2]
theorem rdA_end (hB : blk l.length l = B) (h : B.2 = false) (h2 : acc.length ≠ 6000) (h3 : l.drop B.1 = []) : rdA file (f + 1) l p acc = (acc ++ [⟨8, [], 0, (adv (l.take B.1) p).1, (adv (l.take B.1) p).2⟩], (0, 0, 0), 0) := by
  subst hB; simp only [rdA]; rw [if_neg (by simp [h]), if_neg h2, if_pos h3]
theorem rdA_err (hB : blk l.length l = B) (h : B.2 = false) (h2 : acc.length ≠ 6000) (h3 : l.drop B.1 ≠ []) {t : Tok × Nat × Int} (ht : nextT (l.drop B.1) = t) (h4 : t.2.2 ≠ 0) : rdA file (f + 1) l p acc = ([], (file, (adv (l.take B.1) p).1, (adv (l.take B.1) p).2), t.2.2) := by
  subst hB ht; simp only [rdA]; rw [if_neg (by simp [h]), if_neg h2, if_neg h3, if_pos h4]
theorem rdA_go (hB : blk l.length l = B) (h : B.2 = false) (h2 : acc.length ≠ 6000) (h3 : l.drop B.1 ≠ []) {t : Tok × Nat × Int} (ht : nextT (l.drop B.1) = t) (h4 : t.2.2 = 0) :
    rdA file (f + 1) l p acc = rdA file f ((l.drop B.1).drop t.2.1) (adv ((l.drop B.1).take t.2.1) (adv (l.take B.1) p)) (acc ++ [{ t.1 with line := (adv (l.take B.1) p).1, col := (adv (l.take B.1) p).2 }]) := by
  subst hB ht; simp only [rdA]; rw [if_neg (by simp [h]), if_neg h2, if_neg h3, if_neg (by simp [h4])]
end

/-- The loop's relation. -/
def RRel (s : ByteArray) (file : Int) (w : World) (R : List Tok × (Int × Int × Int) × Int) (f : Nat) (v : Value) (wr : World) : Prop :=
  ∃ (j : Nat) (l c : Int) (toks : List Tok), j ≤ s.size ∧ s.size < j + f ∧ 1 ≤ l ∧ l ≤ j + 1 ∧ 1 ≤ c ∧ c ≤ j + 1 ∧ rdA file f (s.data.toList.drop j) (l, c) toks = R ∧ toks.length ≤ 6000 ∧
    wr.ownsRow (w.heap.size + 2) 80 6 v toks.length (toksCells file toks) ∧ Holds wr (w.heap.size + 1) (rdCells s j file l c) 119 ∧ Holds wr w.heap.size #[.int .i64 0, .int .i64 0, .int .i64 0] 38 ∧ Below w.heap.size w wr

theorem infoTok : (Tryz.prog.info? 80).map (fun i => (i.zero, i.size, i.bytes)) = some (some (.agg #[.int .i64 0, .string ⟨#[]⟩, .int .i64 0, .int .i64 0, .int .i64 0, .int .i64 0]), 6, 56) := by kernel_rfl

set_option maxHeartbeats 4000000 in
theorem token_Read (s : ByteArray) (file : Int) (w : World) (hs : s.size ≤ maxLen) (h0 : Lay0 w) :
    Calls Tryz.prog 38 #[.string s, .int .i64 file] w (ReadPost s file w) := by
  unfold maxLen at hs
  by_cases h16 : 16000 < s.size
  · have hF := Lib.hid (show readT s.data.toList file = ([], (0, 0, 0), 3) from by unfold readT; rw [len_of, if_pos h16])
    go_enter Tryz.func38, Tryz.ntmps38
    go_wp2_with fail
    exact bodyPost_ret (v := .tuple #[.slice none 0 0, .agg #[.int .i64 0, .int .i64 0, .int .i64 0], .int .i64 3]) (by simp [results, Tryz.results38, go_sem]) rfl ⟨_, by rw [hF.out]; rfl, by rw [hF.out]; exact World.ownsRow_nil _ _ _ _, (Below.refl _ _).alloc (Nat.le_refl _) _⟩
  · have h16 : s.size ≤ 16000 := by omega
    have hF : readT s.data.toList file = rdA file (s.size + 1) s.data.toList (1, 1) [] := by unfold readT; rw [len_of, if_neg (by omega)]
    unfold ReadPost
    generalize readT s.data.toList file = R at hF
    have HF := Lib.hid hF; clear hF
    go_enter Tryz.func38, Tryz.ntmps38
    go_wp2_with fail
    go_loopg [8] (s.size + 1) (fun f v wr => RRel s file w R f v wr)
    case atStart => exact ⟨0, 1, 1, [], by omega, by omega, by omega, by omega, by omega, by omega, HF.out.symm, by simp, World.ownsRow_nil _ _ _ _, by
        have := Holds.new (w.alloc (.cells #[.int .i64 0, .int .i64 0, .int .i64 0] 38)) (rdCells s 0 file 1 1) 119
        rw [show (w.alloc (.cells #[.int .i64 0, .int .i64 0, .int .i64 0] 38)).heap.size = w.heap.size + 1 from by simp] at this
        exact this, (Holds.new w _ _).alloc _, ((Below.refl _ _).alloc (Nat.le_refl _) _).alloc (by simp) _⟩
    case round =>
      obtain ⟨j, l, c, toks, hj, hf, hl1, hl2, hc1, hc2, hE, htl, hown, hH, hP, hbel⟩ := hrel
      obtain ⟨f, rfl⟩ : ∃ f', gk = f' + 1 := ⟨gk - 1, by omega⟩
      have hL0 : Lay0 wr := h0.keeps (Keeps.of_fresh hbel (fun _ => False)) (fun e => e)
      have hblk := token_blanks s j file l c (w.heap.size + 1) wr hH hj h16 hl1 hl2 hc1 hc2 hL0
      unfold BlankPost at hblk
      have hroom := blk_room s j (s.size - j) hj
      have hbb : blk (s.data.toList.drop j).length (s.data.toList.drop j) = blk (s.size - j) (s.data.toList.drop j) := by congr 1; simp
      generalize blk (s.size - j) (s.data.toList.drop j) = B at hblk hroom hbb
      obtain ⟨bn, bx⟩ := B
      simp only at hblk hroom
      have hbd := adv_bd ((s.data.toList.drop j).take bn) (l, c) hl1 hc1
      have hbl : ((s.data.toList.drop j).take bn).length ≤ bn := by simp; omega
      have hcases := @rdA_bad file f (s.data.toList.drop j) (l, c) toks _ hbb
      have hcases2 := @rdA_full file f (s.data.toList.drop j) (l, c) toks _ hbb
      have hcases3 := @rdA_end file f (s.data.toList.drop j) (l, c) toks _ hbb
      have hcases4 := @rdA_err file f (s.data.toList.drop j) (l, c) toks _ hbb
      have hcases5 := @rdA_go file f (s.data.toList.drop j) (l, c) toks _ hbb
      simp only at hcases hcases2 hcases3 hcases4 hcases5 hbd
      rw [List.drop_drop] at hcases3 hcases4 hcases5
      rw [hE] at hcases hcases2 hcases3 hcases4 hcases5
      generalize adv ((s.data.toList.drop j).take bn) (l, c) = p1 at hblk hbd hcases hcases2 hcases3 hcases4 hcases5
      obtain ⟨l1, c1⟩ := p1
      simp only at hblk hbd hcases hcases2 hcases3 hcases4 hcases5
      obtain ⟨k1, k2, k3, k4⟩ := hbd
      have k3' : l1 ≤ (j + bn : Nat) + 1 := by omega
      have k4' : c1 ≤ (j + bn : Nat) + 1 := by omega
      clear hE k3 k4 hbl hbb
      generalize hj2 : j + bn = j2 at hblk hroom hcases3 hcases4 hcases5 k3' k4'
      have hjj : j ≤ j2 := by omega
      clear hj2
      have HC := Lib.hid hcases; clear hcases
      have HC2 := Lib.hid hcases2; clear hcases2
      have HC3 := Lib.hid hcases3; clear hcases3
      have HC4 := Lib.hid hcases4; clear hcases4
      have HC5 := Lib.hid hcases5; clear hcases5
      have HBK := Lib.hid hblk; clear hblk
      obtain ⟨ao, cap, rfl⟩ := ownsRow_shape hown
      go_wp2_with fail
      refine HBK.out.mono ?_
      rintro e w1 ⟨rfl, hH1, hK1⟩
      have hP1 := hP.keeps hK1 (by omega)
      have hb1 : Below w.heap.size w w1 := hbel.trans (hK1.below hbel.size (by intro i hi; omega))
      have hown1 := ownsRow_keeps hown hK1 (by intro g hg; have := (hown.lt g hg).1; omega)
      have hs1 := hK1.size
      have hlt1 := hH1.lt
      have hrd := rd_cells hH1
      obtain ⟨q0, q1, q2, q3, q4, q5⟩ := tri hP1
      obtain ⟨r0, r1, r2, r3, r4, r5, r6, r7, r8, r9⟩ := rd_cells hH1
      clear hrd
      cases bx with
      | true =>
        have hR := Lib.hid (HC.out rfl)
        go_wp2_with fail
        go_region
        go_wp2_with fail
        exact bodyPost_ret (v := .tuple #[.slice none 0 0, .agg #[.int .i64 file, .int .i64 l1, .int .i64 c1], .int .i64 21]) (by simp [results, Tryz.results38, go_sem, q0, q1, q2]) rfl ⟨_, by rw [hR.out]; rfl, by rw [hR.out]; exact World.ownsRow_nil _ _ _ _, (((hb1.setCell (Nat.le_refl _) _).setCell (Nat.le_refl _) _).setCell (Nat.le_refl _) _).drew⟩
      | false =>
        by_cases h6 : toks.length = 6000
        · have h6' : ((toks.length : Int) == 6000) = true := by simp [h6]
          have hR := Lib.hid (HC2.out rfl h6)
          clear h6
          go_wp2_with fail
          go_region
          go_wp2_with fail
          exact bodyPost_ret (v := .tuple #[.slice none 0 0, .agg #[.int .i64 file, .int .i64 l1, .int .i64 c1], .int .i64 3]) (by simp [results, Tryz.results38, go_sem, q0, q1, q2]) rfl ⟨_, by rw [hR.out]; rfl, by rw [hR.out]; exact World.ownsRow_nil _ _ _ _, (((hb1.setCell (Nat.le_refl _) _).setCell (Nat.le_refl _) _).setCell (Nat.le_refl _) _).drew⟩
        · have h6' : ((toks.length : Int) == 6000) = false := by simp; omega
          have h6b : toks.length < 6000 := by omega
          have H6 := Lib.hid h6; clear h6
          have hrest := fun wx hh => token_rest s j2 file l1 c1 (w.heap.size + 1) wx hh hroom (by unfold maxLen; omega)
          by_cases hend : j2 = s.size
          · have hR := Lib.hid (HC3.out rfl H6.out (drop_end s j2 (by omega)))
            subst hend
            have he : s.extract s.size s.size = ByteArray.empty := empty_of _ (by simp)
            rw [he] at hrest
            have HRE := Lib.hid hrest; clear hrest he
            go_wp2_with fail
            refine (HRE.out _ hH1).mono ?_
            rintro e w2 ⟨rfl, nd, rfl⟩
            obtain ⟨i0, hi, hz0, hz1, hz2⟩ := info_parts infoTok
            go_wp2_with (at_builtin; refine wpList_append_own _ rfl _ _ 23 rfl (w.heap.size + 2) 80 i0 _ 6 56 Tryz.underlying23 hi hz0 hz1 hz2 rfl (by decide) _ _ _ rfl (hown1.alloc _) ⟨w1.heap.size, 0, none⟩ 1 1 (tokCells file ⟨8, [], 0, l1, c1⟩) rfl rfl ?c1 ?c2 ?c3 ?c4 ?c5 ?_)
            case c1 => exact new_cells (w1.drewN nd) _ _ _ rfl _ rfl
            case c2 => exact tok_one _ _
            case c3 => unfold maxLen; omega
            case c4 => omega
            case c5 => have := hP1.lt; simp; omega
            intro v' w3 hown' hgrow _
            have hnr : ∀ g, (Value.slice ao toks.length cap).ownBlock = some g → w.heap.size + 2 ≤ g := fun g hg => (hown1.lt g hg).1
            have hP3 : Holds w3 w.heap.size #[.int .i64 0, .int .i64 0, .int .i64 0] 38 := ((hP1.drewN nd).alloc _).grown hgrow (fun e => by have := hnr _ e; omega)
            have hb3 : Below w.heap.size w w3 := ((below_drewN hb1 nd).alloc (by simpa using hb1.size) _).grown hgrow (by have := hb1.size; simp; omega) (fun g hg => by have := hnr g hg; omega)
            obtain ⟨p0, p1, p2, p3, p4, p5⟩ := tri hP3
            have hown2 : w3.ownsRow w.heap.size 80 6 v' (toks.length + 1) (toksCells file (toks ++ [⟨8, [], 0, l1, c1⟩])) := by rw [toksCells_snoc]; exact ownsRow_base hown' (by omega)
            have hng : ∀ g, v'.ownBlock = some g → ¬ g = w.heap.size := fun g hg => by have := (hown'.lt g hg).1; omega
            clear hown' hgrow
            obtain ⟨ao', cap', rfl⟩ := ownsRow_shape hown2
            go_wp2_with fail
            exact bodyPost_ret (v := .tuple #[.slice ao' (toks.length + 1) cap', .agg #[.int .i64 0, .int .i64 0, .int .i64 0], .int .i64 0]) (by simp [results, Tryz.results38, go_sem, p0, p1, p2]) rfl ⟨_, by rw [hR.out]; rfl, by
              rw [hR.out]
              simp only [List.length_append, List.length_singleton]
              exact ownsRow_keeps hown2 ((((Keeps.refl (fun i => i = w.heap.size) w3).setCell (.inr rfl) _).setCell (.inr rfl) _).setCell (.inr rfl) _) hng,
              ((hb3.setCell (Nat.le_refl _) _).setCell (Nat.le_refl _) _).setCell (Nat.le_refl _) _⟩
          · have hj2 : j2 < s.size := by omega
            have hnr := drop_toList s j2
            have hsz : (s.extract j2 s.size).size = s.size - j2 := by simp
            have hdn : s.data.toList.drop j2 ≠ [] := by rw [drop_cons s j2 hj2]; simp
            have hnext := fun wx => token_next (s.extract j2 s.size) wx (by omega) (by omega)
            unfold NextPost at hnext
            rw [hnr] at hnext
            have hroom2 := nextT_room (s.data.toList.drop j2) hdn
            have hskp := fun n hn wx hh => token_skip s j2 n file l1 c1 (w.heap.size + 1) wx hh hn (by omega) k1 k3' k2 k4'
            have HC4' := Lib.hid (fun h => HC4.out rfl H6.out hdn rfl h)
            have HC5' := Lib.hid (fun h => HC5.out rfl H6.out hdn rfl h)
            clear HC4 HC5 HC3 HC2 HC
            simp only [List.length_drop] at hroom2
            generalize nextT (s.data.toList.drop j2) = T at hnext hroom2 HC4' HC5'
            generalize s.extract j2 s.size = r at hrest hsz hnext
            have hr3 : 0 < r.size := by omega
            have hne := toList_ne r hr3
            have hne2 := toList_isEmpty r hr3
            obtain ⟨tk, tn, te⟩ := T
            simp only at hnext hroom2 HC4' HC5'
            have HRE := Lib.hid hrest; clear hrest
            have HNX := Lib.hid hnext; clear hnext
            have HSZ := Lib.hid hsz; clear hsz
            have HSK := Lib.hid hskp; clear hskp
            clear hend hnr
            by_cases hte : te = 0
            · subst hte
              obtain ⟨t1, t2⟩ := hroom2 rfl
              have t2' : j2 + tn ≤ s.size := by rw [len_of] at t2; omega
              have hR := Lib.hid (HC5'.out rfl)
              clear HC4' HC5' hroom2 t2
              go_wp2_with fail
              refine (HRE.out _ hH1).mono ?_
              rintro e w2 ⟨rfl, nd, rfl⟩
              go_wp2_with fail
              refine (HRE.out _ (hH1.drewN nd)).mono ?_
              rintro e w2 ⟨rfl, nd2, rfl⟩
              go_wp2_with fail
              refine (HNX.out _).mono ?_
              rintro e w2 ⟨rfl, hbn0⟩
              have hbn : Below w1.heap.size w1 w2 := ⟨hbn0.os, hbn0.tape, hbn0.output, hbn0.size, hbn0.block⟩
              unfold tokAgg
              have hKn : Keeps (fun _ => False) w1 w2 := Keeps.of_fresh hbn _
              have hH2 := hH1.keeps hKn (fun e => e)
              have hP2 := hP1.keeps hKn (fun e => e)
              have hown2 := ownsRow_keeps hown1 hKn (fun _ _ e => e)
              have hb2 : Below w.heap.size w w2 := hb1.trans (hbn.mono hb1.size)
              have hs2 := hKn.size
              clear hbn0 r0 r1 r2 r3 r4 r5 r6 r7 r8 r9
              obtain ⟨r0, r1, r2, r3, r4, r5, r6, r7, r8, r9⟩ := rd_cells hH2
              have hlt2 := hH2.lt
              obtain ⟨i0, hi, hz0, hz1, hz2⟩ := info_parts infoTok
              go_wp2_with (at_builtin; refine wpList_append_own _ rfl _ _ 23 rfl (w.heap.size + 2) 80 i0 _ 6 56 Tryz.underlying23 hi hz0 hz1 hz2 rfl (by decide) _ _ _ rfl ((hown2.alloc _).alloc _) ⟨w2.heap.size + 1, 0, none⟩ 1 1 (tokCells file { tk with line := l1, col := c1 }) rfl rfl ?c1 ?c2 ?c3 ?c4 ?c5 ?_)
              case c1 => exact new_cells _ _ _ _ (by simp) _ rfl
              case c2 => exact tok_one _ _
              case c3 => unfold maxLen; omega
              case c4 => omega
              case c5 => have := hP1.lt; have := hb2.size; simp; omega
              intro v' w3 hown' hgrow _
              have hnr : ∀ g, (Value.slice ao toks.length cap).ownBlock = some g → w.heap.size + 2 ≤ g := fun g hg => (hown1.lt g hg).1
              have hP3 : Holds w3 w.heap.size #[.int .i64 0, .int .i64 0, .int .i64 0] 38 := ((hP2.alloc _).alloc _).grown hgrow (fun e => by have := hnr _ e; omega)
              have hH3 : Holds w3 (w.heap.size + 1) (rdCells s j2 file l1 c1) 119 := ((hH2.alloc _).alloc _).grown hgrow (fun e => by have := hnr _ e; omega)
              have hb3 : Below w.heap.size w w3 := ((hb2.alloc hb2.size _).alloc (by have := hb2.size; simp; omega) _).grown hgrow (by have := hb2.size; simp; omega) (fun g hg => by have := hnr g hg; omega)
              have hown3 : w3.ownsRow (w.heap.size + 2) 80 6 v' (toks.length + 1) (toksCells file (toks ++ [{ tk with line := l1, col := c1 }])) := by rw [toksCells_snoc]; exact hown'
              have hng : ∀ g, v'.ownBlock = some g → ¬ g = w.heap.size + 1 := fun g hg => by have := (hown'.lt g hg).1; omega
              clear hown' hgrow
              have hlt3 := hH3.lt
              clear r0 r1 r2 r3 r4 r5 r6 r7 r8 r9
              go_wp2_with fail
              refine (HSK.out tn t2' _ hH3).mono ?_
              rintro e w4 ⟨rfl, hH4, hK4⟩
              have hP4 := hP3.keeps hK4 (by omega)
              have hb4 : Below w.heap.size w w4 := hb3.trans (hK4.below hb3.size (by intro i hi; omega))
              have hown4 := ownsRow_keeps hown3 hK4 hng
              go_wp2_with fail
              go_roundg f
              case measure => omega
              case rel =>
                have hbd := adv_bd ((s.data.toList.drop j2).take tn) (l1, c1) k1 k2
                have hln : ((s.data.toList.drop j2).take tn).length ≤ tn := by simp; omega
                have hR2 := hR.out.symm
                rw [List.drop_drop] at hR2
                exact ⟨j2 + tn, _, _, toks ++ [{ tk with line := l1, col := c1 }], t2', by omega, hbd.1, by simp at hbd; omega, hbd.2.1, by simp at hbd; omega, hR2, by simp; omega, by simpa using hown4, hH4, hP4, hb4⟩
            · have hR := Lib.hid (HC4'.out hte)
              have hte' : (te != 0) = true := by simpa using hte
              clear HC4' HC5' hroom2 hte
              go_wp2_with fail
              refine (HRE.out _ hH1).mono ?_
              rintro e w2 ⟨rfl, nd, rfl⟩
              go_wp2_with fail
              refine (HRE.out _ (hH1.drewN nd)).mono ?_
              rintro e w2 ⟨rfl, nd2, rfl⟩
              go_wp2_with fail
              refine (HNX.out _).mono ?_
              rintro e w2 ⟨rfl, hbn0⟩
              have hbn : Below w1.heap.size w1 w2 := ⟨hbn0.os, hbn0.tape, hbn0.output, hbn0.size, hbn0.block⟩
              unfold tokAgg
              have hKn : Keeps (fun _ => False) w1 w2 := Keeps.of_fresh hbn _
              have hH2 := hH1.keeps hKn (fun e => e)
              have hP2 := hP1.keeps hKn (fun e => e)
              have hb2 : Below w.heap.size w w2 := hb1.trans (hbn.mono hb1.size)
              have hs2 := hKn.size
              clear hbn0 r0 r1 r2 r3 r4 r5 r6 r7 r8 r9 q0 q1 q2 q3 q4 q5
              obtain ⟨q0, q1, q2, q3, q4, q5⟩ := tri hP2
              obtain ⟨r0, r1, r2, r3, r4, r5, r6, r7, r8, r9⟩ := rd_cells hH2
              have hlt2 := hH2.lt
              have hltp := hP2.lt
              go_wp2_with fail
              go_region
              go_wp2_with fail
              exact bodyPost_ret (v := .tuple #[.slice none 0 0, .agg #[.int .i64 file, .int .i64 l1, .int .i64 c1], .int .i64 te]) (by simp [results, Tryz.results38, go_sem, q0, q1, q2, hltp]) rfl ⟨_, by rw [hR.out]; rfl, by rw [hR.out]; exact World.ownsRow_nil _ _ _ _, ((((hb2.setCell (Nat.le_refl _) _).setCell (Nat.le_refl _) _).setCell (Nat.le_refl _) _).alloc (by simpa using hb2.size) _).drew⟩
end Go.Proofs.YtiojnbhomjkkgaaGreatDoor

namespace Go.Proofs.YtiojnbhomjkkgaaGreatDoor
open Go.RowKit

/-- A row of tokens, read: its slice, and the six cells of each. -/
theorem tok_row {w : World} {base : Nat} {T : TypeId} {v : Value} {file : Int} {toks : List Tok} (h : w.ownsRow base T 6 v toks.length (toksCells file toks)) (hne : toks ≠ []) :
    ∃ g cap, v = .slice (some ⟨g, 0, none⟩) toks.length cap ∧ base ≤ g ∧ g < w.heap.size ∧ toks.length ≤ cap ∧ ∀ (i : Nat) (t : Tok), toks[i]? = some t → ∀ (k : Nat) (u : Value), (tokCells file t)[k]? = some u → w.cell? ⟨g, 6 * i + k, none⟩ = some u := by
  have hlen := List.length_pos_iff.2 hne
  rcases h.2 with ⟨_, h0⟩ | ⟨g, cap, cur, rfl, hb, hh, hcap, hr⟩
  · omega
  · refine ⟨g, cap, rfl, hb, lt_of_block hh, hcap, ?_⟩
    intro i t ht k u hu
    have hc := h.cells (g := g) rfl (6 * i + k) u
    have hadd : (⟨g, 0, none⟩ : Addr).add (6 * i + k) = ⟨g, 6 * i + k, none⟩ := by unfold Addr.add; split <;> simp_all
    rw [hadd] at hc
    apply hc
    have hk : k < 6 := by
      rcases Nat.lt_or_ge k 6 with h | h
      · exact h
      · rw [List.getElem?_eq_none (by simpa [tokCells] using h)] at hu; cases hu
    clear hc hcap hr hh hb h hlen hadd hne
    unfold toksCells
    induction toks generalizing i with
    | nil => simp at ht
    | cons a l ih =>
      rw [List.flatMap_cons]
      cases i with
      | zero =>
        simp at ht; subst ht
        rw [List.getElem?_append_left (by simp [tokCells]; omega)]
        simpa using hu
      | succ i =>
        rw [List.getElem?_append_right (by simp [tokCells]; omega)]
        have := ih i (by simpa using ht)
        rw [← this]; congr 1; simp [tokCells]; omega
end Go.Proofs.YtiojnbhomjkkgaaGreatDoor

namespace Go.Proofs.YtiojnbhomjkkgaaGreatDoor
open Go.RowKit

theorem TokAt.mono {R S : Nat → Prop} {w : World} {v : Value} {L : List (Int × ByteArray × Int)} (h : TokAt R w v L) (hs : ∀ x, R x → S x) : TokAt S w v L := by
  obtain ⟨a, c, e, h1, h2⟩ := h
  exact ⟨a, c, e, h1, fun h0 => by obtain ⟨g, o, x, y, z⟩ := h2 h0; exact ⟨g, o, x, hs g y, z⟩⟩
/-- A row of tokens that a call made, as a slice of tokens. -/
theorem tokAt_row {w : World} {base : Nat} {v : Value} {file : Int} {toks : List Tok} (h : w.ownsRow base 80 6 v toks.length (toksCells file toks)) (hl : ∀ t ∈ toks, t.text.length ≤ 16000) : TokAt (fun x => base ≤ x ∧ x < w.heap.size) w v (toks.map tkX) := by
  have hsz : ∀ t ∈ toks.map tkX, t.2.1.size ≤ maxLen := by
    intro t ht
    obtain ⟨u, hu, rfl⟩ := List.mem_map.1 ht
    have := hl u hu
    show (⟨u.text.toArray⟩ : ByteArray).size ≤ maxLen
    simp [ByteArray.size, maxLen]; omega
  by_cases hne : toks = []
  · subst hne
    rcases h.2 with ⟨rfl, _⟩ | ⟨g, cap, cur, rfl, _⟩
    · exact ⟨none, 0, rfl, hsz, fun h0 => absurd h0 (by simp)⟩
    · exact ⟨_, cap, rfl, hsz, fun h0 => absurd h0 (by simp)⟩
  · obtain ⟨g, cap, rfl, hb, hg, _, hc⟩ := tok_row h hne
    refine ⟨_, cap, by rw [List.length_map], hsz, fun _ => ⟨g, 0, rfl, ⟨hb, hg⟩, fun j hj => ?_⟩⟩
    rw [List.length_map] at hj
    have ht : toks[j]? = some toks[j] := List.getElem?_eq_getElem hj
    have e0 := hc j _ ht 0 _ rfl
    have e1 := hc j _ ht 1 _ rfl
    have e2 := hc j _ ht 2 _ rfl
    rw [List.getElem_map, show 0 + j * 6 = 6 * j + 0 from by omega]
    exact ⟨e0, e1, e2⟩
/-- What Compute answers for the tokens of a text. -/
def CompQ (T : List Tok × (Int × Int × Int) × Int) (v er : Int) : Prop :=
  if T.2.2 ≠ 0 then v = 0 ∧ er = T.2.2 else
    ∃ res, Rd (T.1.map tkX) .whole 0 0 res ∧
      if (outT res).2.2 ≠ 0 then v = 0 ∧ er = (outT res).2.2 else
        ∃ t, (T.1.map tkX)[(outT res).2.1.toNat]? = some t ∧ if t.1 = 8 then v = (outT res).1 ∧ er = 0 else v = 0 ∧ er = 6
/-- What Compute answers for a text. -/
def CompR (s : List UInt8) (v er : Int) : Prop := CompQ (readT s 0) v er
theorem CompR.det {s : List UInt8} {v er v' er' : Int} (h : CompR s v er) (k : CompR s v' er') : v = v' ∧ er = er' := by
  unfold CompR CompQ at h k
  split at h
  · rename_i hc
    rw [if_pos hc] at k
    exact ⟨h.1.trans k.1.symm, h.2.trans k.2.symm⟩
  · rename_i hc
    rw [if_neg hc] at k
    obtain ⟨r1, a1, a2⟩ := h
    obtain ⟨r2, b1, b2⟩ := k
    obtain rfl := a1.det b1
    split at a2
    · rename_i hd
      rw [if_pos hd] at b2
      exact ⟨a2.1.trans b2.1.symm, a2.2.trans b2.2.symm⟩
    · rename_i hd
      rw [if_neg hd] at b2
      obtain ⟨t, c1, c2⟩ := a2
      obtain ⟨u, d1, d2⟩ := b2
      rw [c1] at d1
      obtain rfl := Option.some.inj d1
      split at c2
      · rename_i he
        rw [if_pos he] at d2
        exact ⟨c2.1.trans d2.1.symm, c2.2.trans d2.2.symm⟩
      · rename_i he
        rw [if_neg he] at d2
        exact ⟨c2.1.trans d2.1.symm, c2.2.trans d2.2.symm⟩
/-- Reading a text's tokens ends in front of its end. -/
theorem out_place {s : List UInt8} {file : Int} (h : (readT s file).2.2 = 0) {W : Wh} {d : Nat} {res : Option (Int × Nat × Bool × Bool × Bool)} (hr : Rd ((readT s file).1.map tkX) W d 0 res) :
    0 < (readT s file).1.length ∧ 0 ≤ (outT res).2.1 ∧ (outT res).2.1.toNat < (readT s file).1.length := by
  obtain ⟨ts, t, e, h8⟩ := (readT_text s file).2.2 h
  have hlen : (readT s file).1.length = ts.length + 1 := by rw [e]; simp
  have hb : ∀ q : Int × Nat × Bool × Bool × Bool, res = some q → q.2.1 ≤ ts.length := by
    rintro q rfl
    refine rd_before hr (t := tkX t) ?_ h8 (by omega)
    rw [e]; simp
  refine ⟨by omega, ?_, ?_⟩
  · unfold outT
    cases res with
    | none => simp
    | some q =>
      obtain ⟨v, j, p, g, q⟩ := q
      cases p <;> cases g <;> cases q <;> simp
  · unfold outT
    cases res with
    | none => simp; omega
    | some q =>
      have := hb q rfl
      obtain ⟨v, j, p, g, q⟩ := q
      simp only at this
      cases p <;> cases g <;> cases q <;> simp <;> omega
theorem comp_end {toks : List Tok} {p : Int × Int × Int} {res : Option (Int × Nat × Bool × Bool × Bool)} {r1 v er : Int} {k : Nat} {t : Int × ByteArray × Int} (hr : Rd (toks.map tkX) .whole 0 0 res) (ho : (r1, (k : Int), (0 : Int)) = outT res)
    (ht : (toks.map tkX)[k]? = some t) {kd : Int} (hk : t.1 = kd) (h : if kd = 8 then v = r1 ∧ er = 0 else v = 0 ∧ er = 6) : CompQ (toks, p, 0) v er := by
  unfold CompQ
  rw [if_neg (by simp)]
  refine ⟨res, hr, ?_⟩
  rw [← ho]
  rw [if_neg (by simp)]
  exact ⟨t, by simpa using ht, by rw [hk]; exact h⟩
theorem comp_err {toks : List Tok} {p : Int × Int × Int} {res : Option (Int × Nat × Bool × Bool × Bool)} {r1 k r3 : Int} (hr : Rd (toks.map tkX) .whole 0 0 res) (ho : (r1, k, r3) = outT res) (h : ¬ r3 = 0) : CompQ (toks, p, 0) 0 r3 := by
  unfold CompQ
  rw [if_neg (by simp)]
  refine ⟨res, hr, ?_⟩
  rw [← ho]
  rw [if_pos h]
  exact ⟨rfl, rfl⟩
set_option maxRecDepth 100000 in
set_option maxHeartbeats 8000000 in
theorem exp_Compute (s : ByteArray) (w : World) (hs : s.size ≤ maxLen) (h0 : Lay0 w) :
    Calls Tryz.prog 13 #[.string s] w fun e w' => ∃ v er, e = .returned (.tuple #[.int .i64 v, .int .i64 er]) ∧ CompR s.data.toList v er ∧ Below w.heap.size w w' := by
  have hrd := token_Read s 0 w hs h0
  unfold ReadPost posAgg at hrd
  have htx := readT_text s.data.toList 0
  have hpl := fun h W d res hr => @out_place s.data.toList 0 h W d res hr
  show Calls _ _ _ _ fun e w' => ∃ v er, e = .returned (.tuple #[.int .i64 v, .int .i64 er]) ∧ CompQ (readT s.data.toList 0) v er ∧ Below w.heap.size w w'
  generalize readT s.data.toList 0 = T at *
  obtain ⟨toks, ⟨p1, p2, p3⟩, er⟩ := T
  simp only at hrd htx hpl
  have HPL := Lib.hid hpl
  have HTX := Lib.hid htx
  clear hpl htx
  by_cases he : er = 0
  · subst he
    go_enter Tryz.func13, Tryz.ntmps13
    go_wp2_with fail
    refine hrd.mono ?_
    rintro e w1 ⟨v, rfl, hown, hb⟩
    have hTK := tokAt_row hown HTX.out.1
    have hlen : toks.length ≤ 6001 := HTX.out.2.1
    have hpos : 0 < toks.length := by
      obtain ⟨ts, t, h, _⟩ := HTX.out.2.2 (by simp)
      rw [h]; simp
    obtain ⟨a, cap, rfl⟩ := ownsRow_shape hown
    have HB := Lib.hid hb
    have k1 := (Keeps.refl (fun _ => False) w1).alloc (.cells #[.int .i64 p1, .int .i64 p2, .int .i64 p3] 38)
    have hTA := (hTK.keeps k1 (fun _ _ e => e)).mono (S := fun x => x < (w1.alloc (.cells #[.int .i64 p1, .int .i64 p2, .int .i64 p3] 38)).heap.size) (fun x hx => by simp; omega)
    have hv := exp_Value (toks.map tkX) _ 0 _ hTA (by simp; omega)
    unfold ValuePostX at hv
    have hcond : (0 : Int) ≤ 0 ∧ (0 : Int) < ((toks.map tkX).length : Int) := ⟨by omega, by simp; omega⟩
    simp only [if_pos hcond] at hv
    clear hcond
    have HTA := Lib.hid hTA
    clear hown hb hrd hTK k1 hTA
    go_wp2_with fail
    refine (by exact hv : Calls _ _ _ _ _).mono ?_
    rintro e w2 ⟨⟨r1, r2, r3⟩, rfl, hb2, res, hres, hout⟩
    obtain ⟨_, hq1, hq2⟩ := HPL.out (by simp) .whole 0 res hres
    have hq0 : (outT res).2.1 = r2 := by rw [← hout]
    rw [hq0] at hq1 hq2
    obtain ⟨k, rfl⟩ := Int.eq_ofNat_of_zero_le hq1
    simp only [Int.toNat_natCast] at hq2
    obtain ⟨a', c', ea, _, hcl⟩ := HTA.out.keeps (Keeps.of_fresh hb2 (fun _ => False)) (fun _ _ e => e)
    simp only [Value.slice.injEq] at ea
    obtain ⟨rfl, -, rfl⟩ := ea
    obtain ⟨gt, ot, rfl, _, hcl⟩ := hcl (by simpa using hpos)
    obtain ⟨d0, _, _⟩ := hcl k (by simpa using hq2)
    have hkI : (k : Int) < (toks.length : Int) := by omega
    have hkI2 : ¬ ((toks.length : Int) ≤ (k : Int)) := by omega
    have hkL : k < (toks.map tkX).length := by simpa using hq2
    have ht : (toks.map tkX)[k]? = some ((toks.map tkX)[k]'hkL) := List.getElem?_eq_getElem hkL
    have HBF := Lib.hid ((HB.out.alloc HB.out.size (.cells #[.int .i64 p1, .int .i64 p2, .int .i64 p3] 38)).trans (hb2.mono (by simp; have := HB.out.size; omega)))
    generalize (toks.map tkX)[k]'hkL = tk at *
    obtain ⟨kd, tx, tv⟩ := tk
    simp only at d0
    have HT := Lib.hid ht
    have HR := Lib.hid hres
    have HOUT := Lib.hid hout
    clear hres hout ht hq0 hq1 hcl hb2 hv
    by_cases h3 : r3 = 0
    · subst h3
      by_cases h8 : kd = 8
      · subst h8
        go_wp2_with fail
        go_ret2
        exact ⟨r1, 0, rfl, comp_end HR.out HOUT.out HT.out rfl (by rw [if_pos rfl]; exact ⟨rfl, rfl⟩), HBF.out⟩
      · have h8b : (kd != 8) = true := by simpa using h8
        have H8 := Lib.hid h8
        clear h8
        go_wp2_with fail
        go_ret2
        exact ⟨0, 6, rfl, comp_end HR.out HOUT.out HT.out rfl (by rw [if_neg H8.out]; exact ⟨rfl, rfl⟩), HBF.out⟩
    · have h3b : (r3 != 0) = true := by simpa using h3
      have H3 := Lib.hid h3
      clear h3
      go_wp2_with fail
      go_ret2
      exact ⟨0, r3, rfl, comp_err HR.out HOUT.out H3.out, HBF.out⟩
  · have hne : (er != 0) = true := by simpa using he
    go_enter Tryz.func13, Tryz.ntmps13
    go_wp2_with fail
    refine hrd.mono ?_
    rintro e w1 ⟨v, rfl, hown, hb⟩
    have HO := Lib.hid hown
    have HB := Lib.hid hb
    have HE := Lib.hid he
    clear hown hb hrd he
    go_wp2_with fail
    go_ret2
    exact ⟨0, er, rfl, by unfold CompQ; rw [if_pos HE.out]; exact ⟨rfl, rfl⟩, HB.out.alloc (HB.out.size) _⟩
end Go.Proofs.YtiojnbhomjkkgaaGreatDoor

namespace Go.Proofs.YtiojnbhomjkkgaaGreatDoor
open Go.RowKit

/-- A row of bytes of the call's own, as a string. -/
theorem bytes_conv {w : World} {base : Nat} {v : Value} {acc : List UInt8} (h : w.ownsRow base 5 1 v acc.length (Lib.byteCells acc)) :
    (convert 78 9 v).run Tryz.prog w = .ok (.string ⟨acc.toArray⟩) w := by
  rcases h.2 with ⟨rfl, h0⟩ | ⟨g, cap, cur, rfl, hb, hh, hcap, hr⟩
  · have : acc = [] := List.eq_nil_of_length_eq_zero h0
    subst this
    exact run_convert_bytes_nil w _ _ Tryz.underlying78 Tryz.underlying5 0 0 _ Tryz.underlying9
  · refine run_convert_bytes_back w _ _ _ ⟨g, 0, none⟩ cap acc Tryz.underlying78 Tryz.underlying5 Tryz.underlying9 ?_
    intro j hj
    exact h.cells (g := g) rfl j _ (by simp [Lib.byteCells, hj])
theorem bytes_shape {w : World} {base : Nat} {e : TypeId} {v : Value} {n : Nat} {xs : List Value} (h : w.ownsRow base e 1 v n xs) : ∃ a cap, v = .slice a n cap := by
  rcases h.2 with ⟨rfl, rfl⟩ | ⟨g, cap, cur, rfl, _⟩
  · exact ⟨none, 0, rfl⟩
  · exact ⟨_, cap, rfl⟩

def TextPost (Q : List UInt8 × Nat × Int) (w : World) (e : Ending) (w' : World) : Prop :=
  e = .returned (.tuple #[.string ⟨Q.1.toArray⟩, .int .i64 Q.2.1, .int .i64 Q.2.2]) ∧ Below w.heap.size w w'
def TRel (s : ByteArray) (a : Nat) (Q : List UInt8 × Nat × Int) (w : World) (f : Nat) (x y : Value) (wr : World) : Prop :=
  ∃ (k : Nat) (acc : List UInt8), a + 1 ≤ k ∧ k ≤ s.size ∧ s.size ≤ k + f ∧ acc.length < k ∧ y = .int .i64 k ∧ qtA f (s.data.toList.drop k) acc (k - a) = Q ∧
    wr.ownsRow w.heap.size 5 1 x acc.length (Lib.byteCells acc) ∧ Below w.heap.size w wr
theorem esc_len (s : ByteArray) (k : Nat) (h : k < s.size) : k + 1 + (esc (s.data.toList.drop (k + 1))).2.1 ≤ s.size := by
  have := (esc_bd (s.data.toList.drop (k + 1))).2.2.2.1
  simp at this; omega

set_option maxHeartbeats 4000000 in
theorem ref_text (s : ByteArray) (a : Nat) (w : World) (hs : s.size ≤ 140737488355328) (ha : a < s.size) :
    Calls Tryz.prog 86 #[.string s, .int .i64 a] w (TextPost (qtA (s.size - a) (s.data.toList.drop (a + 1)) [] 1) w) := by
  generalize hQ : qtA (s.size - a) (s.data.toList.drop (a + 1)) [] 1 = Q
  have HQ := Lib.hid hQ; clear hQ
  go_enter Tryz.func86, Tryz.ntmps86
  go_wp2_with fail
  go_loopg [7, 8] (s.size - a) (fun f x y wr => TRel s a Q w f x y wr)
  case atStart => exact ⟨a + 1, [], by omega, by omega, by omega, by simp, rfl, by rw [show a + 1 - a = 1 from by omega]; exact HQ.out, World.ownsRow_nil _ _ _ _, Below.refl _ _⟩
  case round =>
    obtain ⟨k, acc, hk1, hk, hf, hacc, rfl, hB, hown, hbel⟩ := hrel
    have HB := Lib.hid hB; clear hB
    obtain ⟨ao, cap, rfl⟩ := bytes_shape hown
    by_cases hlt : k < s.size
    · obtain ⟨f, rfl⟩ : ∃ f', gk = f' + 1 := ⟨gk - 1, by omega⟩
      have hE2 : Hid (Q = if s[k].toNat = 34 then (acc, k - a + 1, 0) else if s[k].toNat = 10 then ([], 0, 21) else if s[k].toNat = 92 then
          (if (esc (s.data.toList.drop (k + 1))).2.2 ≠ 0 then ([], 0, (esc (s.data.toList.drop (k + 1))).2.2) else qtA f ((s.data.toList.drop (k + 1)).drop (esc (s.data.toList.drop (k + 1))).2.1) (acc ++ [(esc (s.data.toList.drop (k + 1))).1.toNat.toUInt8]) (k - a + (esc (s.data.toList.drop (k + 1))).2.1 + 1))
          else qtA f (s.data.toList.drop (k + 1)) (acc ++ [s[k]]) (k - a + 1)) := by
        show _ = _
        rw [← HB.out, drop_cons s k hlt]; rfl
      have hbs := hbel.size
      by_cases h34 : s[k].toNat = 34
      · have h34' : ((s[k].toNat : Int) == 34) = true := by simp [h34]
        have h10' : ((s[k].toNat : Int) != 10) = true := by simp [h34]
        have hR := Lib.hid (show Q = (acc, k - a + 1, 0) from by rw [hE2.out, if_pos h34])
        have hcv := bytes_conv hown
        clear h34
        go_wp2_with fail
        go_ret3
        exact ⟨by rw [hR.out]; simp; omega, hbel⟩
      · have h34' : ((s[k].toNat : Int) == 34) = false := by simp; omega
        by_cases h10 : s[k].toNat = 10
        · have h10' : ((s[k].toNat : Int) != 10) = false := by simp [h10]
          have hR := Lib.hid (show Q = ([], 0, 21) from by rw [hE2.out, if_neg h34, if_pos h10])
          clear h10 h34
          go_wp2_with fail
          go_ret3
          exact ⟨by rw [hR.out]; rfl, hbel⟩
        · have h10' : ((s[k].toNat : Int) != 10) = true := by simp; omega
          by_cases h92 : s[k].toNat = 92
          · have h92' : ((s[k].toNat : Int) != 92) = false := by simp [h92]
            have hee := esc_bd (s.data.toList.drop (k + 1))
            have hel := esc_len s k hlt
            have hesc := fun wx => ref_escape s k wx hs hlt
            have hR := Lib.hid (show Q = (if (esc (s.data.toList.drop (k + 1))).2.2 ≠ 0 then ([], 0, (esc (s.data.toList.drop (k + 1))).2.2) else qtA f ((s.data.toList.drop (k + 1)).drop (esc (s.data.toList.drop (k + 1))).2.1) (acc ++ [(esc (s.data.toList.drop (k + 1))).1.toNat.toUInt8]) (k - a + (esc (s.data.toList.drop (k + 1))).2.1 + 1)) from by rw [hE2.out, if_neg h34, if_neg h10, if_pos h92])
            clear hE2 h92 h10 h34
            generalize esc (s.data.toList.drop (k + 1)) = E at hee hesc hR hel
            obtain ⟨ev, en, ee⟩ := E
            obtain ⟨g1, g2, g3, g4, g5, g6, g7⟩ := hee
            simp only [List.length_drop] at g1 g2 g3 g4 g5 g6 g7 hesc hR hel
            unfold escR at hesc
            simp only at hesc
            clear g4
            by_cases hz : ee = 0
            · subst hz
              have g5' := Lib.hid (g5 rfl); clear g5
              simp only [if_true] at hesc
              have HS := Lib.hid hesc; clear hesc
              obtain ⟨i0, hi, hz0, hz1, hz2⟩ := info_parts infoByte
              go_wp2_with (first | (go_at_call 150; refine (HS.out _).mono ?_; rintro e w1 ⟨rfl, nd, rfl⟩) | (at_builtin; refine wpList_append_own _ rfl _ _ 78 rfl w.heap.size 5 i0 (.int .u8 0) 1 1 Tryz.underlying78 hi hz0 hz1 hz2 rfl (by decide) _ _ _ rfl (by exact World.ownsRow.alloc hown _) ⟨wr.heap.size, 0, none⟩ 1 1 [.int .u8 ev] rfl rfl ?c1 ?c2 ?c3 ?c4 ?c5 ?_))
              case c1 => exact new_cells _ _ _ _ rfl _ rfl
              case c2 => intro u hu; simp at hu; subst hu; rfl
              case c3 => unfold maxLen; omega
              case c4 => omega
              case c5 => simp; omega
              intro v' w3 hown' hgrow _
              have hb3 : Below w.heap.size w w3 := ((below_drewN hbel nd).alloc (by simpa using hbs) _).grown hgrow (by simp; omega) (fun g hg => by have := (hown.lt g hg).1; omega)
              rw [byteCells_snoc acc ev g1 g2] at hown'
              clear hgrow
              obtain ⟨ao', cap', rfl⟩ := bytes_shape hown'
              go_wp2_with fail
              go_roundg f
              case measure => omega
              case rel => exact ⟨k + (en + 1), acc ++ [ev.toNat.toUInt8], by omega, by omega, by omega, by simp; omega, by go_num, by have := hR.out; rw [if_neg (by simp), List.drop_drop] at this; rw [this, show k + 1 + en = k + (en + 1) from by omega, show k - a + en + 1 = k + (en + 1) - a from by omega], by simpa using hown', hb3⟩
            · have hz' : (ee != 0) = true := by simpa using hz
              have HR := Lib.hid (show Q = ([], 0, ee) from by rw [hR.out, if_pos hz])
              rw [if_neg hz] at hesc
              have HS := Lib.hid hesc; clear hesc
              clear hz g5
              go_wp2_with (first | (go_at_call 150; refine (HS.out _).mono ?_; rintro e w1 ⟨rfl, nd, rfl⟩))
              go_ret3
              exact ⟨by rw [HR.out]; rfl, below_drewN hbel _⟩
          · have h92' : ((s[k].toNat : Int) != 92) = true := by simp; omega
            have hR := Lib.hid (show Q = qtA f (s.data.toList.drop (k + 1)) (acc ++ [s[k]]) (k - a + 1) from by rw [hE2.out, if_neg h34, if_neg h10, if_neg h92])
            clear hE2 h92 h10 h34
            obtain ⟨i0, hi, hz0, hz1, hz2⟩ := info_parts infoByte
            go_wp2_with (at_builtin; refine wpList_append_own _ rfl _ _ 78 rfl w.heap.size 5 i0 (.int .u8 0) 1 1 Tryz.underlying78 hi hz0 hz1 hz2 rfl (by decide) _ _ _ rfl (by exact World.ownsRow.alloc hown _) ⟨wr.heap.size, 0, none⟩ 1 1 [.int .u8 s[k].toNat] rfl rfl ?c1 ?c2 ?c3 ?c4 ?c5 ?_)
            case c1 => exact new_cells _ _ _ _ rfl _ rfl
            case c2 => intro u hu; simp at hu; subst hu; rfl
            case c3 => unfold maxLen; omega
            case c4 => omega
            case c5 => simp; omega
            intro v' w3 hown' hgrow _
            have hb3 : Below w.heap.size w w3 := (hbel.alloc hbs _).grown hgrow (by simp; omega) (fun g hg => by have := (hown.lt g hg).1; omega)
            have hown2 : w3.ownsRow w.heap.size 5 1 v' (acc.length + 1) (Lib.byteCells (acc ++ [s[k]])) := by simpa [Lib.byteCells] using hown'
            clear hgrow hown'
            obtain ⟨ao', cap', rfl⟩ := bytes_shape hown2
            go_wp2_with fail
            go_roundg f
            case measure => omega
            case rel => exact ⟨k + 1, acc ++ [s[k]], by omega, by omega, by omega, by simp; omega, by go_num, by rw [hR.out, show k - a + 1 = k + 1 - a from by omega], by simpa using hown2, hb3⟩
    · have hR := Lib.hid (show Q = ([], 0, 21) from by rw [← HB.out, drop_end s k (by omega)]; cases gk <;> rfl)
      go_wp2_with fail
      go_ret3
      exact ⟨by rw [hR.out]; rfl, hbel⟩
end Go.Proofs.YtiojnbhomjkkgaaGreatDoor

namespace Go.Proofs.YtiojnbhomjkkgaaGreatDoor
open Go.RowKit

/-- The saturated value as the reference keeps it: a small number, or 'big' and a small number that matters no more. -/
def satOf (big : Bool) (n : Int) : Int := if big = true then 4294967296 else n
theorem pre_hex (s : ByteArray) (h : 1 < s.size) (h0 : ((s[0]'(by omega)).toNat : Int) = 48) : Lib.hasPrefix s.data.toList [48, 120] = decide ((s[1].toNat : Int) = 120) := by
  have e0 := drop_cons s 0 (by omega)
  have e1 := drop_cons s 1 h
  rw [List.drop_zero] at e0
  rw [e0, e1]
  have h0' : s[0] = 48 := by apply UInt8.toNat_inj.1; have : s[0].toNat = 48 := by omega
                             rw [this]; rfl
  rw [h0', Bool.eq_iff_iff]
  simp [Lib.hasPrefix]
  constructor
  · intro h; rw [← h]; rfl
  · intro h; symm; apply UInt8.toNat_inj.1; have : s[1].toNat = 120 := by omega
    rw [this]; rfl
theorem pre_hex_no (s : ByteArray) (h : ¬ 1 < s.size ∨ ∃ h : 0 < s.size, ((s[0]'h).toNat : Int) ≠ 48) : Lib.hasPrefix s.data.toList [48, 120] = false := by
  rw [Bool.eq_false_iff]
  intro hp
  have hle : 2 ≤ s.size := by simpa using Lib.hasPrefix_le hp
  rcases h with h | ⟨h1, h⟩
  · omega
  · apply h
    have e0 := drop_cons s 0 (by omega)
    rw [List.drop_zero] at e0
    rw [e0] at hp
    simp [Lib.hasPrefix] at hp
    rw [← hp.1]; rfl
theorem drew_two (w : World) (a b : Nat) : ∃ n, (w.drewN a).drewN b = w.drewN n := ⟨a + b, by rw [World.drewN_drewN]⟩
theorem sat_big (d base : Int) (h0 : 0 ≤ d) (hb : 8 ≤ base) : min (4294967296 * base + d) 4294967296 = 4294967296 := by omega

set_option maxHeartbeats 8000000 in
theorem ref_number (s : ByteArray) (w : World) (hs : s.size ≤ maxLen) :
    Calls Tryz.prog 85 #[.string s] w fun e w' => e = .returned (.tuple #[.int .i64 (numT s.data.toList).1, .int .i64 (numT s.data.toList).2]) ∧ ∃ n, w' = w.drewN n := by
  unfold maxLen at hs
  go_enter Tryz.func85, Tryz.ntmps85
  have hbd := numParts_bd s.data.toList
  have hln := numParts_len s.data.toList
  generalize hnp : numParts s.data.toList = np at hbd hln
  have HNP := Lib.hid hnp; clear hnp
  obtain ⟨base, dl⟩ := np
  obtain ⟨hb1, hb2⟩ := hbd
  simp only at hb1 hb2 hln
  have hcs : (∃ h1 : 1 < s.size, ((s[0].toNat : Int) == 48) = true ∧ ((s[1].toNat : Int) == 120) = true ∧ Hid (dl = s.data.toList.drop 2) ∧ Hid (base = 16)) ∨
      (∃ h1 : 1 < s.size, ((s[0].toNat : Int) == 48) = true ∧ ((s[1].toNat : Int) == 120) = false ∧ Hid (dl = s.data.toList.drop 1) ∧ Hid (base = 8)) ∨
      (∃ h1 : 1 < s.size, ((s[0].toNat : Int) == 48) = false ∧ Hid (dl = s.data.toList) ∧ Hid (base = 10)) ∨ (¬ 1 < s.size ∧ Hid (dl = s.data.toList) ∧ Hid (base = 10)) := by
    by_cases h1 : 1 < s.size
    · have hH := head_of s (by omega)
      by_cases h48 : (s[0].toNat : Int) = 48
      · have hx := pre_hex s h1 h48
        by_cases h120 : (s[1].toNat : Int) = 120
        · have e := (np_hex (by rw [hx]; simpa using h120)).symm.trans HNP.out
          obtain ⟨e1, e2⟩ := Prod.mk.inj e
          exact .inl ⟨h1, by simpa using h48, by simpa using h120, e2.symm, e1.symm⟩
        · have e := (np_oct (by rw [hx]; simpa using h120) (by simpa using h1) (by rw [hH]; exact h48)).symm.trans HNP.out
          obtain ⟨e1, e2⟩ := Prod.mk.inj e
          exact .inr (.inl ⟨h1, by simpa using h48, by simpa using h120, e2.symm, e1.symm⟩)
      · have e := (np_dec (pre_hex_no s (.inr ⟨by omega, h48⟩)) (.inr (by rw [hH]; exact h48))).symm.trans HNP.out
        obtain ⟨e1, e2⟩ := Prod.mk.inj e
        exact .inr (.inr (.inl ⟨h1, by simpa using h48, e2.symm, e1.symm⟩))
    · have e := (np_dec (pre_hex_no s (.inl h1)) (.inl (by simpa using h1))).symm.trans HNP.out
      obtain ⟨e1, e2⟩ := Prod.mk.inj e
      exact .inr (.inr (.inr ⟨h1, e2.symm, e1.symm⟩))
  rcases hcs with ⟨h1, h48, h120, hdl, hba⟩ | ⟨h1, h48, h120, hdl, hba⟩ | ⟨h1, h48, hdl, hba⟩ | ⟨h1, hdl, hba⟩
  all_goals
    go_upto_if 18 with fail
    go_cut [4, 5] (fun b d wx => ∃ dg : ByteArray, b = .int .i64 base ∧ d = .string dg ∧ Hid (dg.data.toList = dl) ∧ ∃ n, wx = w.drewN n)
  case first =>
    go_wp2_with fail
    go_quiet (fail)
    go_wp2
    go_quiet (fail)
    go_wp2
    go_meet
    case rel => exact ⟨_, by rw [hba.out], rfl, by rw [hdl.out]; exact drop_toList s 2, drew_two _ _ _⟩
  case first =>
    go_wp2_with fail
    go_quiet (fail)
    go_wp2
    go_meet
    case rel => exact ⟨_, by rw [hba.out], rfl, by rw [hdl.out]; exact drop_toList s 1, _, rfl⟩
  case first =>
    go_wp2_with fail
    go_meet
    case rel => exact ⟨_, by rw [hba.out], rfl, by rw [hdl.out]; rfl, 0, rfl⟩
  case first =>
    go_wp2_with fail
    go_meet
    case rel => exact ⟨_, by rw [hba.out], rfl, by rw [hdl.out]; rfl, 0, rfl⟩
  all_goals
    obtain ⟨dg, rfl, rfl, hdg, n0, rfl⟩ := hcut
    have hT := Lib.hid (show numT s.data.toList = if dl = [] then (0, 6) else numR (numFold base dl 0) from by unfold numT; rw [HNP.out])
    have hlen : dg.size = dl.length := by rw [← hdg.out]; simp
    have hds : dg.size ≤ 9223372036854775807 := by rw [hlen]; simp at hln; omega
    have HL := Lib.hid hlen; clear hlen
    by_cases h0 : dg.size = 0
    · obtain rfl := empty_of dg h0
      have hF := Lib.hid (show numT s.data.toList = (0, 6) from by rw [hT.out, if_pos]; rw [← hdg.out]; rfl)
      clear h0
      go_wp2_with fail
      go_ret2
      exact ⟨by rw [hF.out]; rfl, _, rfl⟩
    · have h0 : 0 < dg.size := by omega
      have hne := toList_ne dg h0
      have hne2 := toList_isEmpty dg h0
      have hz : ((dg.size : Int) == 0) = false := by rw [beq_eq_false_iff_ne]; omega
      have hT2 := Lib.hid (show numT s.data.toList = numR (numFold base dg.data.toList 0) from by rw [hT.out, hdg.out, if_neg]; intro e; have := HL.out; subst e; simp only [List.length_nil] at this; omega)
      go_wp2_with fail
      go_loopg [6, 7, 8] (dg.size) (fun f x y i wr => ∃ k : Nat, ∃ n : Int, ∃ big : Bool, k ≤ dg.size ∧ dg.size ≤ k + f ∧ i = .int .i64 k ∧ y = .bool big ∧ x = .int .i64 n ∧ 0 ≤ n ∧ n ≤ 4294967295 ∧ Hid (numFold base dg.data.toList 0 = numFold base (dg.data.toList.drop k) (satOf big n)) ∧ wr = w.drewN n0)
      case atStart => exact ⟨0, 0, false, Nat.zero_le _, by omega, rfl, rfl, rfl, by omega, by omega, rfl, rfl⟩
      case round =>
        obtain ⟨k, n, big, hk, hf, rfl, rfl, rfl, hn0, hn1, hE, rfl⟩ := hrel
        by_cases hlt : k < dg.size
        · have hE2 := Lib.hid (show numFold base dg.data.toList 0 = if hexV dg[k].toNat < 0 ∨ base ≤ hexV dg[k].toNat then none else numFold base (dg.data.toList.drop (k + 1)) (min (satOf big n * base + hexV dg[k].toNat) 4294967296) from by rw [hE.out, drop_cons dg k hlt]; rfl)
          have hbd := hexV_bd dg[k].toNat
          have hnb : 0 ≤ n * base := Int.mul_nonneg hn0 (by omega)
          have hnb2 : n * base ≤ 4294967295 * 16 := Int.mul_le_mul hn1 hb2 (by omega) (by omega)
          by_cases hg : hexV dg[k].toNat < 0 ∨ base ≤ hexV dg[k].toNat
          · have hF := Lib.hid (show numT s.data.toList = (0, 6) from by rw [hT2.out, hE2.out, if_pos hg]; rfl)
            have hge : base ≤ digV dg[k].toNat := by unfold digV; split <;> omega
            have hdb : digV dg[k].toNat ≤ 99 := by unfold digV; split <;> omega
            clear hg hbd
            have hcon := fun wx => ref_digit dg[k].toNat wx (by omega) (byte_lt _)
            generalize digV dg[k].toNat = dv at hge hdb hcon
            go_wp2_with (first | (go_at_call 149; refine (hcon _).mono ?_; rintro e w' ⟨rfl, rfl⟩))
            go_ret2
            exact ⟨by rw [hF.out]; rfl, _, rfl⟩
          · have hde := Lib.hid (show digV dg[k].toNat = hexV dg[k].toNat from by unfold digV; rw [if_neg (by omega)])
            have hE3 := Lib.hid (show numFold base dg.data.toList 0 = numFold base (dg.data.toList.drop (k + 1)) (min (satOf big n * base + digV dg[k].toNat) 4294967296) from by rw [hE2.out, if_neg hg, hde.out])
            have hgl : digV dg[k].toNat < base := by rw [hde.out]; omega
            have hg0 : 0 ≤ digV dg[k].toNat := by rw [hde.out]; omega
            have hcon := fun wx => ref_digit dg[k].toNat wx (by omega) (byte_lt _)
            clear hg hbd hde hE2
            have hdu : digV dg[k].toNat ≤ 15 := by omega
            generalize digV dg[k].toNat = dv at hE3 hgl hg0 hcon hdu
            have hsat := Lib.hid (show 4294967295 < n * base + dv → min (satOf big n * base + dv) 4294967296 = satOf true 0 from by intro h; unfold satOf; cases big <;> simp <;> omega)
            have hsm := Lib.hid (show n * base + dv ≤ 4294967295 → min (satOf big n * base + dv) 4294967296 = satOf big (n * base + dv) from by intro h; unfold satOf; cases big <;> simp <;> omega)
            by_cases hbg : 4294967295 < n * base + dv
            · go_wp2_with (first | (go_at_call 149; refine (hcon _).mono ?_; rintro e w' ⟨rfl, rfl⟩))
              go_roundg (gk - 1)
              case measure => omega
              case rel => exact ⟨k + 1, _, _, by omega, by omega, by go_num, rfl, rfl, by omega, by omega, by show _ = _; rw [hE3.out, hsat.out hbg], rfl⟩
            · go_wp2_with (first | (go_at_call 149; refine (hcon _).mono ?_; rintro e w' ⟨rfl, rfl⟩))
              go_roundg (gk - 1)
              case measure => omega
              case rel => exact ⟨k + 1, _, _, by omega, by omega, by go_num, rfl, rfl, by omega, by omega, by show _ = _; rw [hE3.out, hsm.out (by omega)], rfl⟩
        · have hE2 := Lib.hid (show numFold base dg.data.toList 0 = some (satOf big n) from by rw [hE.out, drop_end dg k (by omega)]; rfl)
          cases big
          · have hF := Lib.hid (show numT s.data.toList = (n, 0) from by rw [hT2.out, hE2.out]; unfold numR satOf; simp; omega)
            go_wp2_with fail
            go_ret2
            exact ⟨by rw [hF.out]; rfl, _, rfl⟩
          · have hF := Lib.hid (show numT s.data.toList = (0, 2) from by rw [hT2.out, hE2.out]; unfold numR satOf; simp)
            go_wp2_with fail
            go_ret2
            exact ⟨by rw [hF.out]; rfl, _, rfl⟩
end Go.Proofs.YtiojnbhomjkkgaaGreatDoor

namespace Go.Proofs.YtiojnbhomjkkgaaGreatDoor
open Go.RowKit

theorem compq_ok {T : List Tok × (Int × Int × Int) × Int} {L : List (Int × ByteArray × Int)} (h0 : T.2.2 = 0) (hm : T.1.map tkX = L) {v : Int} {j : Nat} {t : Int × ByteArray × Int} (hr : Rd L .whole 0 0 (some (v, j, false, false, false))) (ht : L[j]? = some t) (h8 : t.1 = 8) : CompQ T v 0 := by
  unfold CompQ
  rw [if_neg (by simp [h0]), hm]
  refine ⟨_, hr, ?_⟩
  rw [if_neg (by simp [outT])]
  refine ⟨t, by simpa [outT] using ht, ?_⟩
  rw [if_pos h8]
  exact ⟨by simp [outT], rfl⟩
theorem comp_ok {s : List UInt8} {L : List (Int × ByteArray × Int)} (h0 : (readT s 0).2.2 = 0) (hm : (readT s 0).1.map tkX = L) {v : Int} {j : Nat} {t : Int × ByteArray × Int} (hr : Rd L .whole 0 0 (some (v, j, false, false, false))) (ht : L[j]? = some t) (h8 : t.1 = 8) : CompR s v 0 := by
  unfold CompR CompQ
  rw [if_neg (by simp [h0]), hm]
  refine ⟨_, hr, ?_⟩
  rw [if_neg (by simp [outT])]
  refine ⟨t, by simpa [outT] using ht, ?_⟩
  rw [if_pos h8]
  exact ⟨by simp [outT], rfl⟩
theorem compq_div {T : List Tok × (Int × Int × Int) × Int} {L : List (Int × ByteArray × Int)} (h0 : T.2.2 = 0) (hm : T.1.map tkX = L) {v : Int} {j : Nat} (hr : Rd L .whole 0 0 (some (v, j, false, false, true))) : CompQ T 0 22 := by
  unfold CompQ
  rw [if_neg (by simp [h0]), hm]
  refine ⟨_, hr, ?_⟩
  rw [if_pos (by simp [outT])]
  exact ⟨rfl, by simp [outT]⟩
theorem comp_div {s : List UInt8} {L : List (Int × ByteArray × Int)} (h0 : (readT s 0).2.2 = 0) (hm : (readT s 0).1.map tkX = L) {v : Int} {j : Nat} (hr : Rd L .whole 0 0 (some (v, j, false, false, true))) : CompR s 0 22 := by
  unfold CompR CompQ
  rw [if_neg (by simp [h0]), hm]
  refine ⟨_, hr, ?_⟩
  rw [if_pos (by simp [outT])]
  exact ⟨rfl, by simp [outT]⟩
theorem aw_r1 : (readT [49, 32, 43, 32, 50, 32, 42, 32, 51, 32, 60, 60, 32, 49] 0).2.2 = 0 ∧ (readT [49, 32, 43, 32, 50, 32, 42, 32, 51, 32, 60, 60, 32, 49] 0).1.map tkX = [(2, ⟨#[]⟩, 1), (4, ⟨#[43]⟩, 0), (2, ⟨#[]⟩, 2), (4, ⟨#[42]⟩, 0), (2, ⟨#[]⟩, 3), (4, ⟨#[60, 60]⟩, 0), (2, ⟨#[]⟩, 1), (8, ⟨#[]⟩, 0)] := ⟨by kernel_rfl, by kernel_rfl⟩
theorem aw_r2 : (readT [40, 49, 32, 63, 32, 50, 32, 58, 32, 51, 41, 32, 45, 32, 53] 0).2.2 = 0 ∧ (readT [40, 49, 32, 63, 32, 50, 32, 58, 32, 51, 41, 32, 45, 32, 53] 0).1.map tkX = [(4, ⟨#[40]⟩, 0), (2, ⟨#[]⟩, 1), (4, ⟨#[63]⟩, 0), (2, ⟨#[]⟩, 2), (4, ⟨#[58]⟩, 0), (2, ⟨#[]⟩, 3), (4, ⟨#[41]⟩, 0), (4, ⟨#[45]⟩, 0), (2, ⟨#[]⟩, 5), (8, ⟨#[]⟩, 0)] := ⟨by kernel_rfl, by kernel_rfl⟩
theorem aw_r3 : (readT [49, 32, 124, 124, 32, 49, 32, 47, 32, 48] 0).2.2 = 0 ∧ (readT [49, 32, 124, 124, 32, 49, 32, 47, 32, 48] 0).1.map tkX = [(2, ⟨#[]⟩, 1), (4, ⟨#[124, 124]⟩, 0), (2, ⟨#[]⟩, 1), (4, ⟨#[47]⟩, 0), (2, ⟨#[]⟩, 0), (8, ⟨#[]⟩, 0)] := ⟨by kernel_rfl, by kernel_rfl⟩
theorem aw_e1 : evT [(2, ⟨#[]⟩, 1), (4, ⟨#[43]⟩, 0), (2, ⟨#[]⟩, 2), (4, ⟨#[42]⟩, 0), (2, ⟨#[]⟩, 3), (4, ⟨#[60, 60]⟩, 0), (2, ⟨#[]⟩, 1), (8, ⟨#[]⟩, 0)] 60 .whole 0 0 = some (some (14, 7, false, false, false)) := by kernel_rfl
theorem aw_e2 : evT [(4, ⟨#[40]⟩, 0), (2, ⟨#[]⟩, 1), (4, ⟨#[63]⟩, 0), (2, ⟨#[]⟩, 2), (4, ⟨#[58]⟩, 0), (2, ⟨#[]⟩, 3), (4, ⟨#[41]⟩, 0), (4, ⟨#[45]⟩, 0), (2, ⟨#[]⟩, 5), (8, ⟨#[]⟩, 0)] 60 .whole 0 0 = some (some (4294967293, 9, false, false, false)) := by kernel_rfl
theorem aw_e3 : evT [(2, ⟨#[]⟩, 1), (4, ⟨#[124, 124]⟩, 0), (2, ⟨#[]⟩, 1), (4, ⟨#[47]⟩, 0), (2, ⟨#[]⟩, 0), (8, ⟨#[]⟩, 0)] 60 .whole 0 0 = some (some (1, 5, false, false, true)) := by kernel_rfl
theorem aw_c1 : CompR [49, 32, 43, 32, 50, 32, 42, 32, 51, 32, 60, 60, 32, 49] 14 0 := by
  have h := aw_r1
  have e : Rd _ _ _ _ _ := ⟨60, aw_e1⟩
  generalize hs : readT _ 0 = T at h
  unfold CompR
  rw [hs]
  exact compq_ok h.1 h.2 e rfl rfl
theorem aw_c2 : CompR [40, 49, 32, 63, 32, 50, 32, 58, 32, 51, 41, 32, 45, 32, 53] 4294967293 0 := by
  have h := aw_r2
  have e : Rd _ _ _ _ _ := ⟨60, aw_e2⟩
  generalize hs : readT _ 0 = T at h
  unfold CompR
  rw [hs]
  exact compq_ok h.1 h.2 e rfl rfl
theorem aw_c3 : CompR [49, 32, 124, 124, 32, 49, 32, 47, 32, 48] 0 22 := by
  have h := aw_r3
  have e : Rd _ _ _ _ _ := ⟨60, aw_e3⟩
  generalize hs : readT _ 0 = T at h
  unfold CompR
  rw [hs]
  exact compq_div h.1 h.2 e
theorem aw_f : formT 255 = [48, 120, 102, 102] := by kernel_rfl
/-- Compute at a text with a known answer. -/
theorem exp_comp {s : List UInt8} {v er : Int} (hc : CompR s v er) (w : World) (hs : s.length ≤ 1000000) (h0 : Lay0 w) :
    Calls Tryz.prog 13 #[.string ⟨s.toArray⟩] w fun e w' => e = .returned (.tuple #[.int .i64 v, .int .i64 er]) ∧ Below w.heap.size w w' := by
  refine (exp_Compute ⟨s.toArray⟩ w (by simp [ByteArray.size, maxLen]; omega) h0).mono ?_
  rintro e w' ⟨v', er', he, hc', hb⟩
  obtain ⟨e1, e2⟩ := hc'.det hc
  exact ⟨by rw [he, e1, e2], hb⟩
set_option maxRecDepth 100000 in
set_option maxHeartbeats 4000000 in
theorem law02_awake (w : World) (h0 : Lay0 w) (hb : LayB w) : Calls Tryz.prog 7 #[] w fun e w' => e = .returned (.bool true) ∧ Below w.heap.size w w' := by
  have r1 := fun wx h => exp_comp aw_c1 wx (by decide) h
  have r2 := fun wx h => exp_comp aw_c2 wx (by decide) h
  have r3 := fun wx h => exp_comp aw_c3 wx (by decide) h
  have R1 := Lib.hid r1; clear r1
  have R2 := Lib.hid r2; clear r2
  have R3 := Lib.hid r3; clear r3
  go_enter Tryz.func7, Tryz.ntmps7
  go_wp2_with fail
  refine (R1.out _ h0).mono ?_
  rintro e w1 ⟨rfl, hb1⟩
  have h1 := h0.keeps (Keeps.of_fresh hb1 (fun _ => False)) (fun e => e)
  have hB1 := hb.keeps (Keeps.of_fresh hb1 (fun _ => False)) (fun e => e)
  go_wp2_with fail
  refine (R2.out _ h1).mono ?_
  rintro e w2 ⟨rfl, hb2⟩
  have h2 := h1.keeps (Keeps.of_fresh hb2 (fun _ => False)) (fun e => e)
  have hB2 := hB1.keeps (Keeps.of_fresh hb2 (fun _ => False)) (fun e => e)
  go_wp2_with fail
  refine (R3.out _ h2).mono ?_
  rintro e w3 ⟨rfl, hb3⟩
  have hB3 := hB2.keeps (Keeps.of_fresh hb3 (fun _ => False)) (fun e => e)
  have hf := exp_Format 255 w3 hB3
  rw [aw_f] at hf
  have HF := Lib.hid hf
  clear hf
  go_wp2_with fail
  refine (by exact HF.out : Calls _ _ _ _ _).mono ?_
  rintro e w4 ⟨rfl, hb4⟩
  go_wp2_with fail
  go_ret
  exact ⟨rfl, ((hb1.trans (hb2.mono hb1.size)).trans (hb3.mono (Nat.le_trans hb1.size hb2.size))).trans (hb4.mono (Nat.le_trans (Nat.le_trans hb1.size hb2.size) hb3.size))⟩
end Go.Proofs.YtiojnbhomjkkgaaGreatDoor

namespace Go.Proofs.YtiojnbhomjkkgaaGreatDoor
open Go.RowKit

theorem xlen_small {k : Nat} (h : k ≤ 5) : xlen k ≤ 1000 := by
  have : k = 0 ∨ k = 1 ∨ k = 2 ∨ k = 3 ∨ k = 4 ∨ k = 5 := by omega
  rcases this with rfl | rfl | rfl | rfl | rfl | rfl <;> decide
theorem xcnt_small {k : Nat} (h : k ≤ 5) : xcnt k ≤ 1000 := by
  have : k = 0 ∨ k = 1 ∨ k = 2 ∨ k = 3 ∨ k = 4 ∨ k = 5 := by omega
  rcases this with rfl | rfl | rfl | rfl | rfl | rfl <;> decide
theorem tkX_cv (l : List Tok) : l.map tkX = (l.map bare).map cvT := by rw [List.map_map]; rfl
/-- A text that gives the tokens T, and what is read of them. -/
theorem comp_lex {a : List UInt8} {T : List (Int × List UInt8 × Int)} (hx : Lx a T []) (hl : a.length ≤ 16000) (hc : T.length < 6000) : (readT a 0).2.2 = 0 ∧ (readT a 0).1.map tkX = (T ++ [(8, [], 0)]).map cvT := by
  obtain ⟨toks, h1, h2⟩ := hx.read hl hc
  rw [h1, tkX_cv, h2]
  exact ⟨rfl, rfl⟩
theorem atT_self (T R : List (Int × ByteArray × Int)) : AtT (T ++ R) 0 T := ⟨R, rfl⟩
theorem sgn_end (T : List (Int × ByteArray × Int)) (b : ByteArray) (v : Int) : sgnT (T ++ [(8, b, v)]) T.length = ⟨#[]⟩ := by
  unfold sgnT
  rw [List.getElem?_append_right (Nat.le_refl _)]
  simp
theorem XG.comp {k : Nat} {a : List UInt8} {x : Int} (h : XG k a x) (hk : k ≤ 5) : CompR a x 0 := by
  obtain ⟨h0, h1, hl, _, T, hc, hT, hR⟩ := h
  have b1 := xlen_small hk
  have b2 := xcnt_small hk
  have hx := hT [] (.inl rfl)
  obtain ⟨e1, e2⟩ := comp_lex hx (by omega) (by omega)
  rw [List.map_append] at e2
  have hr := hR (T.map cvT ++ [(8, [], 0)].map cvT) 0 0 (by omega) (atT_self _ _) (by
    rw [Nat.zero_add, ← List.length_map (f := cvT)]
    exact .inl (sgn_end _ _ _))
  rw [Nat.zero_add] at hr
  exact comp_ok e1 e2 hr (t := cvT (8, [], 0)) (by rw [List.getElem?_append_right (by simp)]; simp) rfl
end Go.Proofs.YtiojnbhomjkkgaaGreatDoor
