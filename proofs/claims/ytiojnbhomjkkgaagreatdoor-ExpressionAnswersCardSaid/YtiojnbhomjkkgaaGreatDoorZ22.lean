/- Contracts of the reference of token: skip. | Contracts of the reference of token: next. | Contracts of the reference of token: next, references and words. | Contracts of the reference of token: next, signs. | The contract of Read of the reference of token. -/
import Derived.Test.YtiojnbhomjkkgaaGreatDoorZ16
import Derived.Test.YtiojnbhomjkkgaaGreatDoorZ9
import Derived.Deep.RegionHeld3
import Derived.IntWalk

set_option linter.unusedVariables false
set_option linter.unusedSimpArgs false
set_option linter.unusedSectionVars false

namespace Go.Proofs.YtiojnbhomjkkgaaGreatDoor
open Go.RowKit

/-- What skip leaves. -/
def SkipPost (s : ByteArray) (i : Nat) (line col : Int) (b : Nat) (w : World) (e : Ending) (w' : World) : Prop :=
  e = .returned (.int .i64 (if (blk (s.size - i) (s.data.toList.drop i)).2 = true then 21 else 0)) ∧
  Holds w' b (rfCells s (i + (blk (s.size - i) (s.data.toList.drop i)).1) (adv ((s.data.toList.drop i).take (blk (s.size - i) (s.data.toList.drop i)).1) (line, col)).1 (adv ((s.data.toList.drop i).take (blk (s.size - i) (s.data.toList.drop i)).1) (line, col)).2) 82 ∧ Keeps (· = b) w w'
/-- A place behind i, with its line and column. -/
def At (s : ByteArray) (i : Nat) (line col : Int) (j : Nat) (l c : Int) : Prop :=
  i ≤ j ∧ j ≤ s.size ∧ 1 ≤ l ∧ l ≤ j + 1 ∧ 1 ≤ c ∧ c ≤ j + 1 ∧ (l, c) = adv ((s.data.toList.drop i).take (j - i)) (line, col)
theorem At.go {s : ByteArray} {i : Nat} {line col : Int} {j : Nat} {l c : Int} (h : At s i line col j l c) (n : Nat) (hn : j + n ≤ s.size) :
    At s i line col (j + n) (adv ((s.data.toList.drop j).take n) (l, c)).1 (adv ((s.data.toList.drop j).take n) (l, c)).2 := by
  obtain ⟨hij, hj, hl1, hl2, hc1, hc2, hA⟩ := h
  have hbd := adv_bd ((s.data.toList.drop j).take n) (l, c) hl1 hc1
  have hln : ((s.data.toList.drop j).take n).length ≤ n := by simp; omega
  exact ⟨by omega, hn, hbd.1, by simp at hbd; omega, hbd.2.1, by simp at hbd; omega, by rw [hA, adv_more _ i j n hij]⟩
def KRel (s : ByteArray) (i : Nat) (line col : Int) (b : Nat) (w : World) (B : Nat × Bool) (f : Nat) (wr : World) : Prop :=
  ∃ j : Nat, ∃ l c : Int, At s i line col j l c ∧ s.size ≤ j + f ∧ B = ((blk f (s.data.toList.drop j)).1 + (j - i), (blk f (s.data.toList.drop j)).2) ∧
    Holds wr b (rfCells s j l c) 82 ∧ Keeps (· = b) w wr
def LRel (s : ByteArray) (i : Nat) (line col : Int) (b : Nat) (w : World) (j : Nat) (f : Nat) (wr : World) : Prop :=
  ∃ j' : Nat, ∃ l c : Int, At s i line col j' l c ∧ j ≤ j' ∧ s.size ≤ j' + f ∧ runB notNlB (s.data.toList.drop j) = runB notNlB (s.data.toList.drop j') + (j' - j) ∧
    Holds wr b (rfCells s j' l c) 82 ∧ Keeps (· = b) w wr
def MRel (s : ByteArray) (b : Nat) (w : World) (j : Nat) (l c : Int) (f : Nat) (x : Value) (wr : World) : Prop :=
  ∃ n : Nat, 2 ≤ n ∧ j + n ≤ s.size ∧ s.size ≤ j + n + f ∧ x = .int .i64 n ∧ (∀ m, m < n - 2 → Lib.occAt (s.data.toList.drop (j + 2)) [42, 47] m = false) ∧
    Holds wr b (rfCells s j l c) 82 ∧ Keeps (· = b) w wr

theorem skip_end {s : ByteArray} {i : Nat} {line col : Int} {b : Nat} {w w2 : World} {B : Nat × Bool} {j : Nat} {l c : Int} {x : Bool} {e : Ending} (hA : At s i line col j l c) (hB : B = (j - i, x)) (HB : blk (s.size - i) (s.data.toList.drop i) = B)
    (hH : Holds w2 b (rfCells s j l c) 82) (hK : Keeps (· = b) w w2) (he : e = .returned (.int .i64 (if x = true then 21 else 0))) : SkipPost s i line col b w e w2 := by
  obtain ⟨hij, hj, hl1, hl2, hc1, hc2, hA⟩ := hA
  unfold SkipPost
  rw [HB, hB]
  refine ⟨he, ?_, hK⟩
  simp only
  rw [← hA, show i + (j - i) = j from by omega]
  exact hH
theorem blk_drop (s : ByteArray) (j n f : Nat) : blk f ((s.data.toList.drop j).drop n) = blk f (s.data.toList.drop (j + n)) := by rw [List.drop_drop]
theorem occ_at (s : ByteArray) (j n : Nat) (h : 2 ≤ n) : Lib.occAt (s.data.toList.drop (j + 2)) [42, 47] (n - 2) = Lib.hasPrefix (s.data.toList.drop (j + n)) [42, 47] := by
  unfold Lib.occAt Lib.hasPrefix
  rw [List.drop_drop, show j + 2 + (n - 2) = j + n from by omega]
theorem memB_sep (c : Int) : memB (⟨#[32, 9, 13, 10]⟩ : ByteArray).data.toList c = sepB c := rfl

theorem occ_more {s : ByteArray} {j n : Nat} (h2 : 2 ≤ n) (h : ∀ m, m < n - 2 → Lib.occAt (s.data.toList.drop (j + 2)) [42, 47] m = false) (hn : Lib.hasPrefix (s.data.toList.drop (j + n)) [42, 47] = false) :
    ∀ m, m < n + 1 - 2 → Lib.occAt (s.data.toList.drop (j + 2)) [42, 47] m = false := by
  intro m hm
  by_cases hmn : m = n - 2
  · subst hmn; rw [occ_at s j n h2]; exact hn
  · exact h m (by omega)
theorem occ_none {s : ByteArray} {j n : Nat} (h2 : 2 ≤ n) (hn : s.size ≤ j + n) (h : ∀ m, m < n - 2 → Lib.occAt (s.data.toList.drop (j + 2)) [42, 47] m = false) : Lib.index (s.data.toList.drop (j + 2)) [42, 47] = -1 := by
  apply Lib.index_none
  intro m _
  by_cases hmn : m < n - 2
  · exact h m hmn
  · unfold Lib.occAt
    rw [Bool.eq_false_iff]
    intro hp
    have := (List.isPrefixOf_iff_prefix.1 hp).length_le
    simp at this; omega
theorem rf_keep {s : ByteArray} {j : Nat} {l c : Int} {b : Nat} {w wx w' : World} {t : TypeId} (hk : Keeps (fun _ => False) wx w') (hH : Holds wx b (rfCells s j l c) t) (hK : Keeps (· = b) w wx) :
    w'.cell? ⟨b, 0, none⟩ = some (.string s) ∧ w'.cell? ⟨b, 1, none⟩ = some (.int .i64 j) ∧ Holds w' b (rfCells s j l c) t ∧ Keeps (· = b) w w' :=
  have h := hH.keeps hk (fun x => x)
  ⟨h.cell 0, h.cell 1, h, hK.trans hk (fun _ _ x => x.elim)⟩

set_option maxHeartbeats 8000000 in
set_option maxRecDepth 100000 in
theorem ref_skip (s : ByteArray) (i : Nat) (line col : Int) (b : Nat) (w : World) (h : Holds w b (rfCells s i line col) 82) (hi : i ≤ s.size) (hs : s.size ≤ 16000)
    (hl : 1 ≤ line) (hl' : line ≤ i + 1) (hc : 1 ≤ col) (hc' : col ≤ i + 1) :
    Calls Tryz.prog 39 #[.pointer (some ⟨b, 0, none⟩)] w (SkipPost s i line col b w) := by
  generalize hB : blk (s.size - i) (s.data.toList.drop i) = B
  have HB := Lib.hid hB; clear hB
  go_enter Tryz.func39, Tryz.ntmps39
  go_wp2_with fail
  go_loopg [] (s.size - i) (fun f wr => KRel s i line col b w B f wr)
  case atStart => exact ⟨i, line, col, ⟨by omega, hi, hl, hl', hc, hc', by simp [adv]⟩, by omega, by rw [HB.out]; simp, h, Keeps.refl _ _⟩
  case round =>
    obtain ⟨j, l, c, hAt, hf, hE, hH, hK⟩ := hrel
    have hAt' := hAt
    obtain ⟨hij, hj, hl1, hl2, hc1, hc2, hA⟩ := hAt'
    clear hA
    have HE := Lib.hid hE; clear hE
    obtain ⟨c0, c1, c2, c3, f0, f1, f2, f3⟩ := rf_cells hH
    have hstarts := fun t wx hh ht => ref_starts s t j l c b wx hh hj (by omega) ht
    have hstep := fun n wx hh hn => ref_step s j n l c b wx hh hn (by omega) hl1 hl2 hc1 hc2
    by_cases hlt : j < s.size
    · obtain ⟨f, rfl⟩ : ∃ f', gk = f' + 1 := ⟨gk - 1, by omega⟩
      have hD := Lib.hid (drop_cons s j hlt)
      have hamong : ∀ wx, Calls Tryz.prog 79 #[.int .u8 s[j].toNat, .string ⟨#[32, 9, 13, 10]⟩] wx fun e w' => e = .returned (.bool (sepB s[j].toNat)) ∧ w' = wx := fun wx => (ref_among s[j].toNat ⟨#[32, 9, 13, 10]⟩ wx (by simp [maxLen, ByteArray.size])).mono fun _ _ ⟨p, q⟩ => ⟨p, q.symm⟩
      cases hsep : sepB s[j].toNat
      · have h2s := fun wx hh => hstarts ⟨#[47, 47]⟩ wx hh (by simp [ByteArray.size])
        have h3s := fun wx hh => hstarts ⟨#[47, 42]⟩ wx hh (by simp [ByteArray.size])
        change ∀ wx hh, Calls _ _ _ _ fun e w' => e = .returned (.bool (Lib.hasPrefix (s.data.toList.drop j) [47, 47])) ∧ _ at h2s
        change ∀ wx hh, Calls _ _ _ _ fun e w' => e = .returned (.bool (Lib.hasPrefix (s.data.toList.drop j) [47, 42])) ∧ _ at h3s
        have HS := Lib.hid hsep
        rw [hsep] at hamong
        clear hsep hstarts
        cases hp : Lib.hasPrefix (s.data.toList.drop j) [47, 47]
        · rw [hp] at h2s
          have HP := Lib.hid hp; clear hp
          cases hq : Lib.hasPrefix (s.data.toList.drop j) [47, 42]
          · rw [hq] at h3s
            have hB2 := Lib.hid (show B = (j - i, false) from by rw [HE.out, hD.out, blk_none HS.out (by rw [← hD.out]; exact HP.out) (by rw [← hD.out]; exact hq)]; simp)
            clear hq
            go_wp2_with fail
            go_quiet (fail)
            go_wp2_with fail
            go_quiet ((go_at_call 79; exact (hamong _).mono fun _ _ ⟨p, q⟩ => ⟨p, _, q⟩))
            go_wp2_with fail
            refine (h2s _ (by exact hH)).mono ?_
            rintro e w1 ⟨rfl, n1, rfl⟩
            go_wp2_with fail
            refine (h3s _ (by exact hH)).mono ?_
            rintro e w1 ⟨rfl, n2, rfl⟩
            go_wp2_with fail
            go_ret
            exact skip_end hAt hB2.out HB.out hH (hK.drewN _) rfl
          · rw [hq] at h3s
            have hj2 : j + 2 ≤ s.size := by have := Lib.hasPrefix_le hq; simp at this; omega
            have HQ := Lib.hid hq; clear hq
            go_wp2_with fail
            go_quiet (fail)
            go_wp2_with fail
            go_quiet ((go_at_call 79; exact (hamong _).mono fun _ _ ⟨p, q⟩ => ⟨p, _, q⟩))
            go_wp2_with fail
            refine (h2s _ (by exact hH)).mono ?_
            rintro e w1 ⟨rfl, n1, rfl⟩
            go_wp2_with fail
            refine (h3s _ (by exact hH)).mono ?_
            rintro e w1 ⟨rfl, n2, rfl⟩
            go_wp2_with fail
            go_loopg [3] (s.size) (fun f x wr => MRel s b w j l c f x wr)
            case atStart => exact ⟨2, by omega, hj2, by omega, rfl, by intro m hm; omega, hH, hK.drewN _⟩
            case round =>
              obtain ⟨n, hn2, hjn, hfn, rfl, hno, hHn, hKn⟩ := hrel
              have HNO := Lib.hid hno; clear hno
              obtain ⟨d0, d1, d2, d3, g0, g1, g2, g3⟩ := rf_cells hHn
              by_cases hltn : j + n < s.size
              · have hends := fun wx => ref_ends s (j + n) 0 0 wx (by omega) (by omega)
                unfold rfCells at hends
                rw [show ((j + n : Nat) : Int) = (j : Int) + n from by omega] at hends
                have hd : decide ((j : Int) + n < s.size) = true := by simp; omega
                have hwr := Lib.hid (show IntKind.i64.wrap ((j : Int) + n) = (j : Int) + n from IntWalk.i64_in _ (by omega))
                have hwr2 := hwr.out
                cases he : Lib.hasPrefix (s.data.toList.drop (j + n)) [42, 47]
                · rw [he] at hends
                  have HE2 := Lib.hid he; clear he
                  go_wp2_with fail
                  go_region_held3 (fun wx => wx.cell? ⟨b, 0, none⟩ = some (.string s) ∧ wx.cell? ⟨b, 1, none⟩ = some (.int .i64 j) ∧ Holds wx b (rfCells s j l c) 82 ∧ Keeps (· = b) w wx)
                    (first
                    | exact ⟨d0, d1, hHn, hKn.drew⟩
                    | (go_split_ands; exact rf_keep (by assumption) (by assumption) (by assumption))
                    | go_keep)
                    (first
                    | (go_at_call 81; refine (hends _).mono ?_; rintro e w' ⟨rfl, hk⟩))
                  rename_i hS3
                  obtain ⟨_, _, hH3, hK3⟩ := hS3
                  clear hwr2
                  go_wp2_with fail
                  go_roundg (gk - 1)
                  case measure => omega
                  case rel => exact ⟨n + 1, by omega, by omega, by omega, by go_num, occ_more hn2 HNO.out HE2.out, hH3, hK3⟩
                · rw [he] at hends
                  have hjn2 : j + (n + 2) ≤ s.size := by have := Lib.hasPrefix_le he; simp at this; omega
                  have hB2 := Lib.hid (show B = ((blk f (s.data.toList.drop (j + (n + 2)))).1 + (n + 2) + (j - i), (blk f (s.data.toList.drop (j + (n + 2)))).2) from by
                    rw [HE.out, show n + 2 = (n - 2) + 4 from by omega, ← List.drop_drop, hD.out, blk_note HS.out (by rw [← hD.out]; exact HP.out) (by rw [← hD.out]; exact HQ.out) (n - 2) (by rw [← hD.out, List.drop_drop]; exact Lib.index_first (by simp; omega) (by rw [occ_at s j n hn2]; exact he) HNO.out)])
                  have HE2 := Lib.hid he; clear he
                  go_wp2_with fail
                  go_region_held3 (fun wx => wx.cell? ⟨b, 0, none⟩ = some (.string s) ∧ wx.cell? ⟨b, 1, none⟩ = some (.int .i64 j) ∧ Holds wx b (rfCells s j l c) 82 ∧ Keeps (· = b) w wx)
                    (first
                    | exact ⟨d0, d1, hHn, hKn.drew⟩
                    | (go_split_ands; exact rf_keep (by assumption) (by assumption) (by assumption))
                    | go_keep)
                    (first
                    | (go_at_call 81; refine (hends _).mono ?_; rintro e w' ⟨rfl, hk⟩))
                  rename_i hS3
                  obtain ⟨_, _, hH3, hK3⟩ := hS3
                  have hge : decide ((s.size : Int) ≤ (j : Int) + n) = false := by simp; omega
                  go_wp2_with fail
                  go_quiet (fail)
                  clear hwr2
                  go_wp2_with fail
                  refine (hstep (n + 2) _ (by exact hH3) hjn2).mono ?_
                  rintro e w1 ⟨rfl, hH1, hK1⟩
                  go_wp2_with fail
                  go_roundg f
                  case measure => omega
                  case rel => exact ⟨j + (n + 2), _, _, hAt.go (n + 2) hjn2, by omega, by rw [hB2.out]; congr 1; omega, hH1, (hK3.drewN _).trans hK1 (fun _ _ h => h)⟩
              · have hd : decide ((j : Int) + n < s.size) = false := by simp; omega
                have hge : decide ((s.size : Int) ≤ (j : Int) + n) = true := by simp; omega
                have hwr := Lib.hid (show IntKind.i64.wrap ((j : Int) + n) = (j : Int) + n from IntWalk.i64_in _ (by omega))
                have hB2 := Lib.hid (show B = (j - i, true) from by
                  rw [HE.out, hD.out, blk_bad HS.out (by rw [← hD.out]; exact HP.out) (by rw [← hD.out]; exact HQ.out) (by rw [← hD.out, List.drop_drop, occ_none hn2 (by omega) HNO.out]; omega)]; simp)
                have hwr2 := hwr.out
                go_wp2_with fail
                go_quiet (fail)
                go_wp2_with fail
                go_quiet (fail)
                clear hwr2
                go_wp2_with fail
                go_ret
                exact skip_end hAt hB2.out HB.out hHn ((hKn.drewN _).drewN _) rfl
        · have hrp : 1 ≤ runB notNlB (s.data.toList.drop j) := by
            have h1' := hp
            rw [hD.out] at h1'
            have e0 : s[j] = 47 := by simp [Lib.hasPrefix] at h1'; exact h1'.1.symm
            rw [hD.out, runB_cons, if_pos (by rw [e0]; decide)]; omega
          have hB2 := Lib.hid (show B = ((blk f (s.data.toList.drop (j + runB notNlB (s.data.toList.drop j)))).1 + runB notNlB (s.data.toList.drop j) + (j - i), (blk f (s.data.toList.drop (j + runB notNlB (s.data.toList.drop j)))).2) from by
            have h1' := hp
            rw [hD.out] at h1'
            rw [HE.out, ← List.drop_drop, hD.out, blk_line HS.out h1'])
          rw [hp] at h2s
          clear hp
          generalize hM : runB notNlB (s.data.toList.drop j) = M at hrp hB2
          have HM := Lib.hid hM; clear hM
          go_wp2_with fail
          go_quiet (fail)
          go_wp2_with fail
          go_quiet ((go_at_call 79; exact (hamong _).mono fun _ _ ⟨p, q⟩ => ⟨p, _, q⟩))
          go_wp2_with fail
          refine (h2s _ (by exact hH)).mono ?_
          rintro e w1 ⟨rfl, n1, rfl⟩
          go_wp2_with fail
          go_loopg [] (s.size) (fun f wr => LRel s i line col b w j f wr)
          case atStart => exact ⟨j, l, c, hAt, by omega, by omega, by omega, hH, hK.drewN _⟩
          case round =>
            obtain ⟨j', l', c', hAt2, hjj, hf2, hR, hH2, hK2⟩ := hrel
            have hAt2' := hAt2
            obtain ⟨ij2, hj2, l1, l2, k1, k2, hA2⟩ := hAt2'
            clear hA2
            have HR := Lib.hid hR; clear hR
            obtain ⟨d0, d1, d2, d3, g0, g1, g2, g3⟩ := rf_cells hH2
            have hstep2 := fun wx hh hn => ref_step s j' 1 l' c' b wx hh hn (by omega) l1 l2 k1 k2
            by_cases hlt2 : j' < s.size
            · have hd : decide ((j' : Int) < s.size) = true := by simp; omega
              have hD2 := Lib.hid (drop_cons s j' hlt2)
              by_cases h10 : s[j'].toNat = 10
              · have h10' : ((s[j'].toNat : Int) != 10) = false := by simp [h10]
                have hM2 := Lib.hid (show M = j' - j from by rw [← HM.out, HR.out, hD2.out, runB_cons, if_neg (by simp [notNlB, h10])]; omega)
                clear h10
                go_wp2_with fail
                go_quiet (fail)
                go_wp2_with fail
                go_roundg f
                case measure => omega
                case rel => exact ⟨j', l', c', hAt2, by have := hM2.out; omega, by have := hM2.out; rw [hB2.out, this, show j + (j' - j) = j' from by omega]; congr 1; omega, hH2, hK2.drewN _⟩
              · have h10' : ((s[j'].toNat : Int) != 10) = true := by simp; omega
                have hR2 := Lib.hid (show runB notNlB (s.data.toList.drop j) = runB notNlB (s.data.toList.drop (j' + 1)) + (j' + 1 - j) from by rw [HR.out, hD2.out, runB_cons, if_pos (by simp [notNlB]; omega)]; omega)
                clear h10
                go_wp2_with fail
                go_quiet (fail)
                go_wp2_with fail
                refine (hstep2 _ (by exact hH2) (by omega)).mono ?_
                rintro e w1 ⟨rfl, hH3, hK3⟩
                go_wp2_with fail
                go_roundg (gk - 1)
                case measure => omega
                case rel => exact ⟨j' + 1, _, _, hAt2.go 1 (by omega), by omega, by omega, hR2.out, hH3, (hK2.drewN _).trans hK3 (fun _ _ h => h)⟩
            · have hd : decide ((j' : Int) < s.size) = false := by simp; omega
              have hM2 := Lib.hid (show M = j' - j from by rw [← HM.out, HR.out, drop_end s j' (by omega)]; simp [runB])
              go_wp2_with fail
              go_quiet (fail)
              go_wp2_with fail
              go_roundg f
              case measure => omega
              case rel => exact ⟨j', l', c', hAt2, by have := hM2.out; omega, by have := hM2.out; rw [hB2.out, this, show j + (j' - j) = j' from by omega]; congr 1; omega, hH2, hK2.drewN _⟩
      · have hB2 := Lib.hid (show B = ((blk f (s.data.toList.drop (j + 1))).1 + 1 + (j - i), (blk f (s.data.toList.drop (j + 1))).2) from by rw [HE.out, hD.out, blk_sep hsep])
        rw [hsep] at hamong
        clear hsep hstarts
        go_wp2_with fail
        go_quiet (fail)
        go_wp2_with fail
        go_quiet ((go_at_call 79; exact (hamong _).mono fun _ _ ⟨p, q⟩ => ⟨p, _, q⟩))
        go_wp2_with fail
        refine (hstep 1 _ (by exact hH) (by omega)).mono ?_
        rintro e w1 ⟨rfl, hH1, hK1⟩
        go_wp2_with fail
        go_roundg f
        case measure => omega
        case rel => exact ⟨j + 1, _, _, hAt.go 1 (by omega), by omega, by rw [hB2.out]; congr 1; omega, hH1, (hK.drewN _).trans hK1 (fun _ _ h => h)⟩
    · have hB2 := Lib.hid (show B = (j - i, false) from by rw [HE.out, drop_end s j (by omega)]; cases gk <;> simp [blk])
      go_wp2_with fail
      go_quiet (fail)
      go_wp2_with fail
      go_ret
      exact skip_end hAt hB2.out HB.out hH (hK.drewN _) rfl
end Go.Proofs.YtiojnbhomjkkgaaGreatDoor

namespace Go.Proofs.YtiojnbhomjkkgaaGreatDoor
open Go.RowKit

theorem str_mid (s : ByteArray) (a n : Nat) : s.extract a (a + n) = ⟨((s.data.toList.drop a).take n).toArray⟩ := by
  rw [str_take, List.drop_take, show a + n - a = n from by omega]
theorem hd_at (s : ByteArray) (a : Nat) (h : a < s.size) : (s.data.toList.drop a).headD 0 = s[a] := by rw [drop_cons s a h]; rfl
theorem getD_drop (s : ByteArray) (a n : Nat) (h : a + n < s.size) : (s.data.toList.drop a).getD n 0 = s[a + n] := by
  rw [← getD_at s (a + n) h, List.getD_eq_getElem?_getD, List.getD_eq_getElem?_getD, List.getElem?_drop]
/-- What the reference's next gives: as nextT, but for what an error leaves. -/
def NextR (s : ByteArray) (a : Nat) (w : World) (e : Ending) (w' : World) : Prop :=
  ∃ (t : Tok) (n : Nat), e = .returned (.tuple #[tokAgg 0 t, .int .i64 n, .int .i64 (nextT (s.data.toList.drop a)).2.2]) ∧
    ((nextT (s.data.toList.drop a)).2.2 = 0 → t = (nextT (s.data.toList.drop a)).1 ∧ n = (nextT (s.data.toList.drop a)).2.1) ∧ Below w.heap.size w w'
theorem NextR.of {s : ByteArray} {a : Nat} {w w' : World} {e : Ending} {t : Tok} {n : Nat} {er : Int} (h : nextT (s.data.toList.drop a) = (t, n, er)) (he : e = .returned (.tuple #[tokAgg 0 t, .int .i64 n, .int .i64 er])) (hb : Below w.heap.size w w') : NextR s a w e w' :=
  ⟨t, n, by rw [h]; exact he, by rw [h]; exact fun _ => ⟨rfl, rfl⟩, hb⟩
theorem NextR.bad {s : ByteArray} {a : Nat} {w w' : World} {e : Ending} {t t' : Tok} {n n' : Nat} {er : Int} (h : nextT (s.data.toList.drop a) = (t, n, er)) (h0 : er ≠ 0) (he : e = .returned (.tuple #[tokAgg 0 t', .int .i64 n', .int .i64 er])) (hb : Below w.heap.size w w') : NextR s a w e w' :=
  ⟨t', n', by rw [h]; exact he, by rw [h]; exact fun x => absurd x h0, hb⟩

theorem rn_len (s : ByteArray) (a : Nat) : (s.data.toList.drop a).length = s.size - a := by simp

set_option maxHeartbeats 8000000 in
set_option maxRecDepth 100000 in
theorem rnext_name (s : ByteArray) (a : Nat) (line col : Int) (w : World) (hs : s.size ≤ 16000) (h1 : a < s.size) (hc : letterB s[a].toNat = true ∨ (s[a].toNat : Int) = 95 ∨ (s[a].toNat : Int) = 35) :
    Calls Tryz.prog 40 #[.agg (rfCells s a line col)] w (NextR s a w) := by
  unfold rfCells
  have hH := hd_at s a h1
  have hF := Lib.hid (show nextT (s.data.toList.drop a) = if runB nameB (s.data.toList.drop a) = (s.data.toList.drop a).length ∨ ((s.data.toList.drop a).getD (runB nameB (s.data.toList.drop a)) 0).toNat ≠ 58 then (⟨1, (s.data.toList.drop a).take (runB nameB (s.data.toList.drop a)), 0, 0, 0⟩, runB nameB (s.data.toList.drop a), 0)
    else if allB wordB ((s.data.toList.drop a).take (runB nameB (s.data.toList.drop a))) = true then (⟨5, (s.data.toList.drop a).take (runB nameB (s.data.toList.drop a)), 0, 0, 0⟩, runB nameB (s.data.toList.drop a) + 1, 0) else (⟨0, [], 0, 0, 0⟩, 0, 6) from by unfold nextT; simp only [hH]; rw [if_pos hc])
  have hrun : ∀ wx, Calls Tryz.prog 83 #[.string s, .int .i64 a, .bool true] wx fun e w' => e = .returned (.int .i64 (runB nameB (s.data.toList.drop a))) ∧ wx = w' := fun wx => ref_run s a true wx (by omega) (by omega)
  have hn := runB_le nameB (s.data.toList.drop a)
  have hall := fun wx => ref_words (s.extract a (a + runB nameB (s.data.toList.drop a))) wx (by unfold maxLen; simp; omega)
  rw [str_mid] at hall
  simp only at hall
  generalize runB nameB (s.data.toList.drop a) = n at hF hrun hn hall
  rw [← str_mid] at hall
  have HR := Lib.hid hrun; clear hrun
  have HA := Lib.hid hall; clear hall
  have hn' : a + n ≤ s.size := by simp at hn; omega
  clear hn hH
  have hcs : letterB s[a].toNat = true ∨ letterB s[a].toNat = false ∧ ((s[a].toNat : Int) == 95) = true ∨ letterB s[a].toNat = false ∧ ((s[a].toNat : Int) == 95) = false ∧ ((s[a].toNat : Int) == 35) = true := by
    by_cases x : letterB s[a].toNat = true
    · exact .inl x
    · have x' : letterB s[a].toNat = false := by simpa using x
      by_cases b : (s[a].toNat : Int) = 95
      · exact .inr (.inl ⟨x', by simpa using b⟩)
      · have c : (s[a].toNat : Int) = 35 := by rcases hc with h | h | h; exact absurd h x; exact absurd h b; exact h
        exact .inr (.inr ⟨x', by simpa using b, by simpa using c⟩)
  clear hc
  by_cases hlt : a + n < s.size
  · have hg := getD_drop s a n hlt
    by_cases h58 : s[a + n].toNat = 58
    · have h58' : ((s[a + n].toNat : Int) == 58) = true := by simp [h58]
      cases hw : allB wordB ((s.data.toList.drop a).take n)
      · have hR := Lib.hid (show nextT (s.data.toList.drop a) = (⟨0, [], 0, 0, 0⟩, 0, 6) from by rw [hF.out, if_neg, if_neg (by simp [hw])]; rintro (h | h); rw [rn_len] at h; omega; rw [hg] at h; exact h h58)
        clear h58 hg
        rcases hcs with h | ⟨h, h'⟩ | ⟨h, h', h''⟩
        all_goals
          go_enter Tryz.func40, Tryz.ntmps40
          go_wp2_with fail
          go_quiet (fail)
          go_wp2_with (first | (go_at_call 82; refine (ref_letter _ _).mono ?_; rintro e w' ⟨rfl, rfl⟩) | (go_at_call 83; refine (HR.out _).mono ?_; rintro e w' ⟨rfl, rfl⟩) | (go_at_call 84; refine (HA.out _).mono ?_; rintro e w' ⟨rfl, rfl⟩))
          exact bodyPost_ret (v := .tuple #[.agg #[.int .i64 5, .string (s.extract a (a + n)), .int .i64 0, .int .i64 0, .int .i64 0, .int .i64 0], .int .i64 0, .int .i64 6]) (by simp [results, Tryz.results40, go_sem]) rfl (NextR.bad (t' := ⟨5, _, 0, 0, 0⟩) (n' := 0) hR.out (by decide) (by rw [str_mid]; rfl) (by repeat (first | with_reducible exact Below.refl _ _ | with_reducible assumption | with_reducible refine Below.setCell ?_ (by simp) _ | with_reducible refine Below.alloc ?_ (by simp; try omega) _ | with_reducible refine below_drewN ?_ _ | with_reducible refine Below.drew ?_)))
      · have hR := Lib.hid (show nextT (s.data.toList.drop a) = (⟨5, (s.data.toList.drop a).take n, 0, 0, 0⟩, n + 1, 0) from by rw [hF.out, if_neg, if_pos hw]; rintro (h | h); rw [rn_len] at h; omega; rw [hg] at h; exact h h58)
        clear h58 hg
        rcases hcs with h | ⟨h, h'⟩ | ⟨h, h', h''⟩
        all_goals
          go_enter Tryz.func40, Tryz.ntmps40
          go_wp2_with fail
          go_quiet (fail)
          go_wp2_with (first | (go_at_call 82; refine (ref_letter _ _).mono ?_; rintro e w' ⟨rfl, rfl⟩) | (go_at_call 83; refine (HR.out _).mono ?_; rintro e w' ⟨rfl, rfl⟩) | (go_at_call 84; refine (HA.out _).mono ?_; rintro e w' ⟨rfl, rfl⟩))
          exact bodyPost_ret (v := .tuple #[.agg #[.int .i64 5, .string (s.extract a (a + n)), .int .i64 0, .int .i64 0, .int .i64 0, .int .i64 0], .int .i64 (n + 1), .int .i64 0]) (by simp [results, Tryz.results40, go_sem]) rfl (NextR.of hR.out (by rw [str_mid]; rfl) (by repeat (first | with_reducible exact Below.refl _ _ | with_reducible assumption | with_reducible refine Below.setCell ?_ (by simp) _ | with_reducible refine Below.alloc ?_ (by simp; try omega) _ | with_reducible refine below_drewN ?_ _ | with_reducible refine Below.drew ?_)))
    · have h58' : ((s[a + n].toNat : Int) == 58) = false := by simp; omega
      have hR := Lib.hid (show nextT (s.data.toList.drop a) = (⟨1, (s.data.toList.drop a).take n, 0, 0, 0⟩, n, 0) from by rw [hF.out, if_pos]; right; rw [hg]; exact h58)
      clear h58 hg
      rcases hcs with h | ⟨h, h'⟩ | ⟨h, h', h''⟩
      all_goals
        go_enter Tryz.func40, Tryz.ntmps40
        go_wp2_with fail
        go_quiet (fail)
        go_wp2_with (first | (go_at_call 82; refine (ref_letter _ _).mono ?_; rintro e w' ⟨rfl, rfl⟩) | (go_at_call 83; refine (HR.out _).mono ?_; rintro e w' ⟨rfl, rfl⟩) | (go_at_call 84; refine (HA.out _).mono ?_; rintro e w' ⟨rfl, rfl⟩))
        exact bodyPost_ret (v := .tuple #[.agg #[.int .i64 1, .string (s.extract a (a + n)), .int .i64 0, .int .i64 0, .int .i64 0, .int .i64 0], .int .i64 n, .int .i64 0]) (by simp [results, Tryz.results40, go_sem]) rfl (NextR.of hR.out (by rw [str_mid]; rfl) (by repeat (first | with_reducible exact Below.refl _ _ | with_reducible assumption | with_reducible refine Below.setCell ?_ (by simp) _ | with_reducible refine Below.alloc ?_ (by simp; try omega) _ | with_reducible refine below_drewN ?_ _ | with_reducible refine Below.drew ?_)))
  · have hR := Lib.hid (show nextT (s.data.toList.drop a) = (⟨1, (s.data.toList.drop a).take n, 0, 0, 0⟩, n, 0) from by rw [hF.out, if_pos]; left; rw [rn_len]; omega)
    rcases hcs with h | ⟨h, h'⟩ | ⟨h, h', h''⟩
    all_goals
      go_enter Tryz.func40, Tryz.ntmps40
      go_wp2_with fail
      go_quiet (fail)
      go_wp2_with (first | (go_at_call 82; refine (ref_letter _ _).mono ?_; rintro e w' ⟨rfl, rfl⟩) | (go_at_call 83; refine (HR.out _).mono ?_; rintro e w' ⟨rfl, rfl⟩) | (go_at_call 84; refine (HA.out _).mono ?_; rintro e w' ⟨rfl, rfl⟩))
      exact bodyPost_ret (v := .tuple #[.agg #[.int .i64 1, .string (s.extract a (a + n)), .int .i64 0, .int .i64 0, .int .i64 0, .int .i64 0], .int .i64 n, .int .i64 0]) (by simp [results, Tryz.results40, go_sem]) rfl (NextR.of hR.out (by rw [str_mid]; rfl) (by repeat (first | with_reducible exact Below.refl _ _ | with_reducible assumption | with_reducible refine Below.setCell ?_ (by simp) _ | with_reducible refine Below.alloc ?_ (by simp; try omega) _ | with_reducible refine below_drewN ?_ _ | with_reducible refine Below.drew ?_)))

theorem rcs_no (c : Int) (hc : ¬ (letterB c = true ∨ c = 95 ∨ c = 35)) : letterB c = false ∧ (c == 95) = false ∧ (c == 35) = false := hcs_no c hc
theorem dig_dec (c : Int) : (digitB c = true → decide (c ≥ 48) = true ∧ decide (c ≤ 57) = true) := by
  unfold digitB; simp

set_option maxHeartbeats 8000000 in
set_option maxRecDepth 100000 in
theorem rnext_digit (s : ByteArray) (a : Nat) (line col : Int) (w : World) (hs : s.size ≤ 16000) (h1 : a < s.size) (hc : ¬ (letterB s[a].toNat = true ∨ (s[a].toNat : Int) = 95 ∨ (s[a].toNat : Int) = 35)) (hd : digitB s[a].toNat = true) :
    Calls Tryz.prog 40 #[.agg (rfCells s a line col)] w (NextR s a w) := by
  unfold rfCells
  have hH := hd_at s a h1
  have hF := Lib.hid (show nextT (s.data.toList.drop a) = (⟨2, [], (numT ((s.data.toList.drop a).take (runB wordB (s.data.toList.drop a)))).1, 0, 0⟩, runB wordB (s.data.toList.drop a), (numT ((s.data.toList.drop a).take (runB wordB (s.data.toList.drop a)))).2) from by unfold nextT; simp only [hH]; rw [if_neg hc, if_pos hd])
  have hrun : ∀ wx, Calls Tryz.prog 83 #[.string s, .int .i64 a, .bool false] wx fun e w' => e = .returned (.int .i64 (runB wordB (s.data.toList.drop a))) ∧ wx = w' := fun wx => ref_run s a false wx (by omega) (by omega)
  have hn := runB_le wordB (s.data.toList.drop a)
  have hnum := fun wx => ref_number (s.extract a (a + runB wordB (s.data.toList.drop a))) wx (by unfold maxLen; simp; omega)
  rw [str_mid] at hnum
  simp only at hnum
  generalize runB wordB (s.data.toList.drop a) = n at hF hrun hn hnum
  rw [← str_mid] at hnum
  generalize numT ((s.data.toList.drop a).take n) = N at hF hnum
  have HR := Lib.hid hrun; clear hrun
  have HA := Lib.hid hnum; clear hnum
  have hn' : a + n ≤ s.size := by simp at hn; omega
  clear hn hH
  obtain ⟨h, h', h''⟩ := rcs_no _ hc
  have hd1 : 48 ≤ (s[a].toNat : Int) := by unfold digitB at hd; simp at hd; omega
  have hd2 : (s[a].toNat : Int) ≤ 57 := by unfold digitB at hd; simp at hd; omega
  clear hc hd
  go_enter Tryz.func40, Tryz.ntmps40
  go_wp2_with fail
  go_quiet (fail)
  go_wp2_with (first | (go_at_call 82; refine (ref_letter _ _).mono ?_; rintro e w' ⟨rfl, rfl⟩) | (go_at_call 83; refine (HR.out _).mono ?_; rintro e w' ⟨rfl, rfl⟩) | (go_at_call 85; refine (HA.out _).mono ?_; rintro e w' ⟨rfl, nd, rfl⟩))
  exact bodyPost_ret (v := .tuple #[.agg #[.int .i64 2, .string ⟨#[]⟩, .int .i64 N.1, .int .i64 0, .int .i64 0, .int .i64 0], .int .i64 n, .int .i64 N.2]) (by simp [results, Tryz.results40, go_sem]) rfl (NextR.of hF.out rfl (by repeat (first | with_reducible exact Below.refl _ _ | with_reducible assumption | with_reducible refine Below.setCell ?_ (by simp) _ | with_reducible refine Below.alloc ?_ (by simp; try omega) _ | with_reducible refine below_drewN ?_ _ | with_reducible refine Below.drew ?_)))

theorem new2 (w : World) (o : Obj) (cs : Array Value) (t : TypeId) : Holds ((w.alloc o).alloc (.cells cs t)) (w.heap.size + 1) cs t := by
  have h := Holds.new (w.alloc o) cs t
  rwa [show (w.alloc o).heap.size = w.heap.size + 1 from by simp] at h
theorem qt_len (s : ByteArray) (a : Nat) : (s.data.toList.drop a).length = s.size - a := rn_len s a
set_option maxHeartbeats 8000000 in
set_option maxRecDepth 100000 in
theorem rnext_string (s : ByteArray) (a : Nat) (line col : Int) (w : World) (hs : s.size ≤ 16000) (h1 : a < s.size) (hc : ¬ (letterB s[a].toNat = true ∨ (s[a].toNat : Int) = 95 ∨ (s[a].toNat : Int) = 35)) (hd : digitB s[a].toNat = false) (hq : (s[a].toNat : Int) = 34) :
    Calls Tryz.prog 40 #[.agg (rfCells s a line col)] w (NextR s a w) := by
  unfold rfCells
  have hH := hd_at s a h1
  have hF := Lib.hid (show nextT (s.data.toList.drop a) = (⟨3, (qtA (s.size - a) (s.data.toList.drop (a + 1)) [] 1).1, 0, 0, 0⟩, (qtA (s.size - a) (s.data.toList.drop (a + 1)) [] 1).2.1, (qtA (s.size - a) (s.data.toList.drop (a + 1)) [] 1).2.2) from by
    unfold nextT; simp only [hH]; rw [if_neg hc, if_neg (by simp [hd]), if_pos hq, rn_len, List.drop_drop])
  have hnum := fun wx => ref_text s a wx (by omega) h1
  unfold TextPost at hnum
  generalize qtA (s.size - a) (s.data.toList.drop (a + 1)) [] 1 = Q at hF hnum
  have HA := Lib.hid hnum; clear hnum
  have hq' : ((s[a].toNat : Int) == 34) = true := by simpa using hq
  have hd1 : decide (48 ≤ (s[a].toNat : Int)) = false := by simp; omega
  obtain ⟨h, h', h''⟩ := rcs_no _ hc
  clear hc hq hH hd
  go_enter Tryz.func40, Tryz.ntmps40
  go_wp2_with fail
  go_quiet (fail)
  go_wp2_with (first | (go_at_call 82; refine (ref_letter _ _).mono ?_; rintro e w' ⟨rfl, rfl⟩))
  refine (HA.out _).mono ?_
  rintro e w1 ⟨rfl, hb1⟩
  have hB : Holds w1 (w.heap.size + 1) #[.int .i64 0, .string ⟨#[]⟩, .int .i64 0, .int .i64 0, .int .i64 0, .int .i64 0] 80 := (hb1.block (w.heap.size + 1) (by simp)).trans (new2 w _ _ _).out
  obtain ⟨⟨c0, c1, c2, c3, c4, c5⟩, f0, f1, f2, f3, f4, f5⟩ := six hB
  have hlt := hB.lt
  have hb2 : Below w.heap.size w w1 := Below.trans (by repeat (first | with_reducible exact Below.refl _ _ | with_reducible assumption | with_reducible refine Below.setCell ?_ (by simp) _ | with_reducible refine Below.alloc ?_ (by simp; try omega) _ | with_reducible refine below_drewN ?_ _ | with_reducible refine Below.drew ?_)) (hb1.mono (by simp; omega))
  go_wp2_with fail
  exact bodyPost_ret (v := .tuple #[.agg #[.int .i64 3, .string ⟨Q.1.toArray⟩, .int .i64 0, .int .i64 0, .int .i64 0, .int .i64 0], .int .i64 Q.2.1, .int .i64 Q.2.2]) (by simp [results, Tryz.results40, go_sem, c0, c1, c2, c3, c4, c5]) rfl (NextR.of hF.out rfl (by repeat (first | with_reducible exact Below.refl _ _ | with_reducible assumption | with_reducible refine Below.setCell ?_ (by simp) _ | with_reducible refine Below.alloc ?_ (by simp; try omega) _ | with_reducible refine below_drewN ?_ _ | with_reducible refine Below.drew ?_)))
end Go.Proofs.YtiojnbhomjkkgaaGreatDoor

namespace Go.Proofs.YtiojnbhomjkkgaaGreatDoor
open Go.RowKit

theorem str_mid1 (s : ByteArray) (a n : Nat) : s.extract (a + 1) (a + 1 + n) = ⟨(((s.data.toList.drop a).take (n + 1)).drop 1).toArray⟩ := by
  rw [str_mid, List.drop_take, List.drop_drop, show n + 1 - 1 = n from by omega]

set_option maxHeartbeats 8000000 in
set_option maxRecDepth 100000 in
theorem rnext_ref (s : ByteArray) (a : Nat) (line col : Int) (w : World) (hs : s.size ≤ 16000) (h1 : a < s.size) (hc : ¬ (letterB s[a].toNat = true ∨ (s[a].toNat : Int) = 95 ∨ (s[a].toNat : Int) = 35)) (hd : digitB s[a].toNat = false) (hq : ¬ (s[a].toNat : Int) = 34) (h38 : (s[a].toNat : Int) = 38) (hs1 : a + 1 < s.size) (hl : letterB s[a + 1].toNat = true ∨ (s[a + 1].toNat : Int) = 95) :
    Calls Tryz.prog 40 #[.agg (rfCells s a line col)] w (NextR s a w) := by
  unfold rfCells
  have hH := hd_at s a h1
  have hG := getD_drop s a 1 hs1
  have hF := Lib.hid (show nextT (s.data.toList.drop a) = (⟨6, ((s.data.toList.drop a).take (runB wordB (s.data.toList.drop (a + 1)) + 1)).drop 1, 0, 0, 0⟩, runB wordB (s.data.toList.drop (a + 1)) + 1, 0) from by
    unfold nextT; simp only [hH]; rw [if_neg hc, if_neg (by simp [hd]), if_neg hq, if_pos ⟨h38, by rw [rn_len]; omega, by rw [hG]; rcases hl with h | h; exact .inl h; right; omega⟩, List.drop_drop])
  have hrun : ∀ wx, Calls Tryz.prog 83 #[.string s, .int .i64 ((a : Int) + 1), .bool false] wx fun e w' => e = .returned (.int .i64 (runB wordB (s.data.toList.drop (a + 1)))) ∧ wx = w' := fun wx => ref_run s (a + 1) false wx (by omega) (by omega)
  have hn := runB_le wordB (s.data.toList.drop (a + 1))
  generalize runB wordB (s.data.toList.drop (a + 1)) = n at hF hrun hn
  have HR := Lib.hid hrun; clear hrun
  have hn' : a + 1 + n ≤ s.size := by simp at hn; omega
  have hq' : ((s[a].toNat : Int) == 34) = false := by simpa using hq
  have h38' : ((s[a].toNat : Int) == 38) = true := by simpa using h38
  have hd1 : decide (48 ≤ (s[a].toNat : Int)) = false := by simp; omega
  obtain ⟨h, h', h''⟩ := rcs_no _ hc
  clear hn hH hG hc hq h38 hd
  have hcs : letterB s[a + 1].toNat = true ∨ letterB s[a + 1].toNat = false ∧ ((s[a + 1].toNat : Int) == 95) = true := by
    cases hx : letterB s[a + 1].toNat
    · right; rcases hl with h | h; rw [hx] at h; cases h; exact ⟨rfl, by simpa using h⟩
    · exact .inl rfl
  clear hl
  rcases hcs with g | ⟨g, g'⟩
  all_goals
    go_enter Tryz.func40, Tryz.ntmps40
    go_wp2_with fail
    go_quiet (fail)
    go_wp2_with (first | (go_at_call 82; refine (ref_letter _ _).mono ?_; rintro e w' ⟨rfl, rfl⟩) | (go_at_call 83; refine (HR.out _).mono ?_; rintro e w' ⟨rfl, rfl⟩))
    exact bodyPost_ret (v := .tuple #[.agg #[.int .i64 6, .string (s.extract (a + 1) (a + 1 + n)), .int .i64 0, .int .i64 0, .int .i64 0, .int .i64 0], .int .i64 (n + 1), .int .i64 0]) (by simp [results, Tryz.results40, go_sem]) rfl (NextR.of hF.out (by rw [str_mid1]; rfl) (by repeat (first | with_reducible exact Below.refl _ _ | with_reducible assumption | with_reducible refine Below.setCell ?_ (by simp) _ | with_reducible refine Below.alloc ?_ (by simp; try omega) _ | with_reducible refine below_drewN ?_ _ | with_reducible refine Below.drew ?_)))

theorem slash_pos {l : List UInt8} (h : slashV l ≠ 0) : (runB smallB (l.drop 1) > 0 ∧ runB smallB (l.drop 1) + 1 < l.length ∧ (l.getD (runB smallB (l.drop 1) + 1) 0).toNat = 47) ∧ slashV l = runB smallB (l.drop 1) + 2 := by
  unfold slashV at h ⊢
  split at h
  · rename_i g; exact ⟨g, by rw [if_pos g]⟩
  · exact absurd rfl h
theorem slash_zero {l : List UInt8} (h : slashV l = 0) : ¬ (runB smallB (l.drop 1) > 0 ∧ runB smallB (l.drop 1) + 1 < l.length ∧ (l.getD (runB smallB (l.drop 1) + 1) 0).toNat = 47) := by
  unfold slashV at h
  intro g
  rw [if_pos g] at h
  omega

set_option maxHeartbeats 8000000 in
set_option maxRecDepth 100000 in
theorem rnext_word (s : ByteArray) (a : Nat) (line col : Int) (w : World) (hs : s.size ≤ 16000) (h1 : a < s.size) (hc : ¬ (letterB s[a].toNat = true ∨ (s[a].toNat : Int) = 95 ∨ (s[a].toNat : Int) = 35)) (hd : digitB s[a].toNat = false) (hq : ¬ (s[a].toNat : Int) = 34) (h47 : (s[a].toNat : Int) = 47) (hsl : slashV (s.data.toList.drop a) ≠ 0) :
    Calls Tryz.prog 40 #[.agg (rfCells s a line col)] w (NextR s a w) := by
  unfold rfCells
  have hH := hd_at s a h1
  obtain ⟨hp, hv⟩ := slash_pos hsl
  have hF := Lib.hid (show nextT (s.data.toList.drop a) = (⟨7, ((s.data.toList.drop a).take (runB smallB ((s.data.toList.drop a).drop 1) + 1)).drop 1, 0, 0, 0⟩, runB smallB ((s.data.toList.drop a).drop 1) + 2, 0) from by
    unfold nextT; simp only [hH]; rw [if_neg hc, if_neg (by simp [hd]), if_neg hq, if_neg (by rintro ⟨x, _⟩; omega), if_pos h47, if_pos hp])
  have hsla := fun wx => ref_slashed s a wx (by omega) h1
  rw [hv] at hsla
  have hn : a + (runB smallB ((s.data.toList.drop a).drop 1) + 2) ≤ s.size := by have := hp.2.1; rw [rn_len] at this; omega
  clear hp hsl hv
  generalize runB smallB ((s.data.toList.drop a).drop 1) = n at hF hsla hn
  have hsl2 : ∀ wx, Calls Tryz.prog 87 #[.string s, .int .i64 a] wx fun e w' => e = .returned (.int .i64 ((n : Int) + 2)) ∧ wx = w' := hsla
  have HR := Lib.hid hsl2; clear hsla hsl2
  have hq' : ((s[a].toNat : Int) == 34) = false := by simpa using hq
  have h38' : ((s[a].toNat : Int) == 38) = false := by simp; omega
  have h47' : ((s[a].toNat : Int) == 47) = true := by simpa using h47
  have hd1 : decide (48 ≤ (s[a].toNat : Int)) = false := by simp; omega
  obtain ⟨h, h', h''⟩ := rcs_no _ hc
  clear hH hc hq h47 hd
  go_enter Tryz.func40, Tryz.ntmps40
  go_wp2_with fail
  go_quiet (fail)
  go_wp2_with (first | (go_at_call 82; refine (ref_letter _ _).mono ?_; rintro e w' ⟨rfl, rfl⟩) | (go_at_call 87; refine (HR.out _).mono ?_; rintro e w' ⟨rfl, rfl⟩))
  exact bodyPost_ret (v := .tuple #[.agg #[.int .i64 7, .string (s.extract (a + 1) (a + (n + 1))), .int .i64 0, .int .i64 0, .int .i64 0, .int .i64 0], .int .i64 (n + 2), .int .i64 0]) (by simp [results, Tryz.results40, go_sem]) rfl (NextR.of hF.out (by rw [show a + (n + 1) = a + 1 + n from by omega, str_mid1]; rfl) (by repeat (first | with_reducible exact Below.refl _ _ | with_reducible assumption | with_reducible refine Below.setCell ?_ (by simp) _ | with_reducible refine Below.alloc ?_ (by simp; try omega) _ | with_reducible refine below_drewN ?_ _ | with_reducible refine Below.drew ?_)))
end Go.Proofs.YtiojnbhomjkkgaaGreatDoor

namespace Go.Proofs.YtiojnbhomjkkgaaGreatDoor
open Go.RowKit

/-- The pairs of signs as the reference lists them. -/
def pairB (k : Nat) : ByteArray := ⟨(pairsL.getD k []).toArray⟩
def pairCells : Array Value := #[.string ⟨#[60, 60]⟩, .string ⟨#[62, 62]⟩, .string ⟨#[60, 61]⟩, .string ⟨#[62, 61]⟩, .string ⟨#[61, 61]⟩, .string ⟨#[33, 61]⟩, .string ⟨#[38, 38]⟩, .string ⟨#[124, 124]⟩]
theorem pair_cases {p : Nat → Prop} (h0 : p 0) (h1 : p 1) (h2 : p 2) (h3 : p 3) (h4 : p 4) (h5 : p 5) (h6 : p 6) (h7 : p 7) : ∀ k, k < 8 → p k
  | 0, _ => h0
  | 1, _ => h1
  | 2, _ => h2
  | 3, _ => h3
  | 4, _ => h4
  | 5, _ => h5
  | 6, _ => h6
  | 7, _ => h7
  | n + 8, h => absurd h (by omega)
theorem pair_cell : ∀ k, k < 8 → pairCells[k]? = some (.string (pairB k)) := pair_cases rfl rfl rfl rfl rfl rfl rfl rfl
theorem pair_size : ∀ k, k < 8 → (pairB k).size = 2 := pair_cases rfl rfl rfl rfl rfl rfl rfl rfl
theorem pair_mem : ∀ k, k < 8 → pairsL.getD k [] ∈ pairsL := pair_cases (by decide) (by decide) (by decide) (by decide) (by decide) (by decide) (by decide) (by decide)
theorem pair_len : ∀ k, k < 8 → (pairsL.getD k []).length = 2 := pair_cases rfl rfl rfl rfl rfl rfl rfl rfl
theorem pair_hit {l : List UInt8} {k : Nat} (hk : k < 8) (h : Lib.hasPrefix l (pairsL.getD k []) = true) : signN l = 2 ∧ l.take 2 = pairsL.getD k [] := by
  constructor
  · unfold signN
    rw [if_pos]
    exact List.any_eq_true.2 ⟨_, pair_mem k hk, h⟩
  · have := List.prefix_iff_eq_take.1 (List.isPrefixOf_iff_prefix.1 h)
    rw [pair_len k hk] at this
    exact this.symm
theorem pair_miss {l : List UInt8} (h : ∀ m, m < 8 → Lib.hasPrefix l (pairsL.getD m []) = false) : signN l = if memB singlesL (l.headD 0).toNat = true then 1 else 0 := by
  unfold signN
  rw [if_neg]
  have e : pairsL = [pairsL.getD 0 [], pairsL.getD 1 [], pairsL.getD 2 [], pairsL.getD 3 [], pairsL.getD 4 [], pairsL.getD 5 [], pairsL.getD 6 [], pairsL.getD 7 []] := rfl
  rw [e]
  simp only [List.any_cons, List.any_nil]
  rw [h 0 (by omega), h 1 (by omega), h 2 (by omega), h 3 (by omega), h 4 (by omega), h 5 (by omega), h 6 (by omega), h 7 (by omega)]
  decide
theorem cell_at {w : World} {b : Nat} {cs : Array Value} {t : TypeId} (h : Holds w b cs t) {k : Nat} {v : Value} (hv : cs[k]? = some v) : w.cell? ⟨b, k, none⟩ = some v := by rw [h.cell k, hv]

def SRel (s : ByteArray) (a : Nat) (line col : Int) (w : World) (f : Nat) (y : Value) (wr : World) : Prop :=
  ∃ k : Nat, k ≤ 8 ∧ 8 ≤ k + f ∧ y = .int .i64 k ∧ (∀ m, m < k → Lib.hasPrefix (s.data.toList.drop a) (pairsL.getD m []) = false) ∧ Holds wr w.heap.size (rfCells s a line col) 82 ∧
    Holds wr (w.heap.size + 1) #[.int .i64 0, .string ⟨#[]⟩, .int .i64 0, .int .i64 0, .int .i64 0, .int .i64 0] 80 ∧ Holds wr (w.heap.size + 2) pairCells 9 ∧ Below w.heap.size w wr

theorem new3 (w : World) (o p : Obj) (n : Nat) (cs : Array Value) (t : TypeId) : Holds ((((w.alloc o).alloc p).drewN n).alloc (.cells cs t)) (w.heap.size + 2) cs t := by
  have h := Holds.new (((w.alloc o).alloc p).drewN n) cs t
  rwa [show (((w.alloc o).alloc p).drewN n).heap.size = w.heap.size + 2 from by simp] at h

/-- How the walk comes to the signs. -/
def SignWay (s : ByteArray) (a : Nat) (h1 : a < s.size) : Prop :=
  (((s[a].toNat : Int) == 38) = false ∧ ((s[a].toNat : Int) == 47) = false) ∨ (((s[a].toNat : Int) == 38) = true ∧ ((s[a].toNat : Int) == 47) = false ∧ ¬ a + 1 < s.size) ∨
  (((s[a].toNat : Int) == 38) = true ∧ ((s[a].toNat : Int) == 47) = false ∧ ∃ g : a + 1 < s.size, letterB s[a + 1].toNat = false ∧ ((s[a + 1].toNat : Int) == 95) = false) ∨
  (((s[a].toNat : Int) == 38) = false ∧ ((s[a].toNat : Int) == 47) = true ∧ Hid (slashV (s.data.toList.drop a) = 0))

set_option maxHeartbeats 8000000 in
set_option maxRecDepth 100000 in
theorem rnext_sign (s : ByteArray) (a : Nat) (line col : Int) (w : World) (hs : s.size ≤ 16000) (h1 : a < s.size) (hc : ¬ (letterB s[a].toNat = true ∨ (s[a].toNat : Int) = 95 ∨ (s[a].toNat : Int) = 35)) (hd : digitB s[a].toNat = false) (hq : ¬ (s[a].toNat : Int) = 34)
    (hway : SignWay s a h1) (hsg : nextT (s.data.toList.drop a) = sgT (s.data.toList.drop a)) :
    Calls Tryz.prog 40 #[.agg (rfCells s a line col)] w (NextR s a w) := by
  have hH := hd_at s a h1
  have HSG := Lib.hid hsg; clear hsg
  have hq' : ((s[a].toNat : Int) == 34) = false := by simpa using hq
  have hd1 : ¬ (48 ≤ (s[a].toNat : Int) ∧ (s[a].toNat : Int) ≤ 57) := by unfold digitB at hd; simpa using hd
  have hdc : decide (48 ≤ (s[a].toNat : Int)) = false ∨ decide (48 ≤ (s[a].toNat : Int)) = true ∧ decide ((s[a].toNat : Int) ≤ 57) = false := by
    by_cases x : 48 ≤ (s[a].toNat : Int)
    · right; simp; omega
    · left; simp; omega
  obtain ⟨h, h', h''⟩ := rcs_no _ hc
  have hsla := fun wx => ref_slashed s a wx (by omega) h1
  have HH := Lib.hid hH
  have HSL := Lib.hid hsla
  have hamong : ∀ wx, Calls Tryz.prog 79 #[.int .u8 s[a].toNat, .string ⟨#[123, 125, 40, 41, 60, 62, 91, 93, 59, 61, 44, 43, 45, 42, 47, 37, 38, 124, 94, 126, 33, 63, 58]⟩] wx fun e w' => e = .returned (.bool (memB singlesL s[a].toNat)) ∧ wx = w' := fun wx => ref_among s[a].toNat ⟨#[123, 125, 40, 41, 60, 62, 91, 93, 59, 61, 44, 43, 45, 42, 47, 37, 38, 124, 94, 126, 33, 63, 58]⟩ wx (by simp [maxLen, ByteArray.size])
  have HAM := Lib.hid hamong
  have HSL0 : slashV (s.data.toList.drop a) = 0 → Hid (∀ wx, Calls Tryz.prog 87 #[.string s, .int .i64 a] wx fun e w' => e = .returned (.int .i64 0) ∧ wx = w') := by
    intro e wx
    have := HSL.out wx
    rw [e] at this
    exact this
  have HS0 := Lib.hid HSL0
  clear hH hc hq hd hd1 hsla hamong HSL0
  have hcs : (decide (48 ≤ (s[a].toNat : Int)) = true ∧ decide ((s[a].toNat : Int) ≤ 57) = false ∧ ((s[a].toNat : Int) == 38) = false ∧ ((s[a].toNat : Int) == 47) = false) ∨
      (decide (48 ≤ (s[a].toNat : Int)) = false ∧ ((s[a].toNat : Int) == 38) = false ∧ ((s[a].toNat : Int) == 47) = false) ∨
      (decide (48 ≤ (s[a].toNat : Int)) = false ∧ ((s[a].toNat : Int) == 38) = true ∧ ((s[a].toNat : Int) == 47) = false ∧ ¬ a + 1 < s.size) ∨
      (decide (48 ≤ (s[a].toNat : Int)) = false ∧ ((s[a].toNat : Int) == 38) = true ∧ ((s[a].toNat : Int) == 47) = false ∧ ∃ g : a + 1 < s.size, letterB s[a + 1].toNat = false ∧ ((s[a + 1].toNat : Int) == 95) = false) ∨
      (decide (48 ≤ (s[a].toNat : Int)) = false ∧ ((s[a].toNat : Int) == 38) = false ∧ ((s[a].toNat : Int) == 47) = true ∧ Hid (slashV (s.data.toList.drop a) = 0)) := by
    rcases hway with ⟨x, y⟩ | ⟨x, y, z⟩ | ⟨x, y, z⟩ | ⟨x, y, z⟩
    · rcases hdc with d | ⟨d, d'⟩
      · exact .inr (.inl ⟨d, x, y⟩)
      · exact .inl ⟨d, d', x, y⟩
    · refine .inr (.inr (.inl ⟨?_, x, y, z⟩)); simp at x ⊢; omega
    · refine .inr (.inr (.inr (.inl ⟨?_, x, y, z⟩))); simp at x ⊢; omega
    · refine .inr (.inr (.inr (.inr ⟨?_, x, y, z⟩))); simp at y ⊢; omega
  clear hway hdc
  unfold rfCells
  rcases hcs with ⟨x1, x2, x3, x4⟩ | ⟨x1, x2, x3⟩ | ⟨x1, x2, x3, x4⟩ | ⟨x1, x2, x3, x4, x5, x6⟩ | ⟨x1, x2, x3, x4⟩
  rotate_left 4
  · have HSZ := HS0.out x4.out
    go_enter Tryz.func40, Tryz.ntmps40
    go_wp2_with fail
    go_quiet (fail)
    go_upto_region 25 with (first | (go_at_call 82; refine (ref_letter _ _).mono ?_; rintro e w' ⟨rfl, rfl⟩) | (go_at_call 87; refine (HSZ.out _).mono ?_; rintro e w' ⟨rfl, rfl⟩))
    go_wp2_with fail
    go_loopg [173] 8 (fun f y wr => SRel s a line col w f y wr)
    case atStart => exact ⟨0, by omega, by omega, rfl, by intro m hm; omega, (((Holds.new w _ _).alloc _).drewN _).alloc _, ((new2 w _ _ _).drewN _).alloc _, new3 w _ _ _ _ _, (by repeat (first | with_reducible exact Below.refl _ _ | with_reducible assumption | with_reducible refine Below.setCell ?_ (by simp) _ | with_reducible refine Below.alloc ?_ (by simp; try omega) _ | with_reducible refine below_drewN ?_ _ | with_reducible refine Below.drew ?_))⟩
    case round =>
      obtain ⟨k, hk, hf, rfl, hno, hB, hT, hP, hbel⟩ := hrel
      have HNO := Lib.hid hno; clear hno
      obtain ⟨⟨c0, c1, c2, c3, c4, c5⟩, f0, f1, f2, f3, f4, f5⟩ := six hT
      have hlt := hT.lt
      by_cases hk8 : k < 8
      · have hpc := cell_at hP (pair_cell k hk8)
        have hst : ∀ wx, Holds wx w.heap.size (rfCells s a line col) 82 → Calls Tryz.prog 80 #[.pointer (some ⟨w.heap.size, 0, none⟩), .string (pairB k)] wx fun e w' => e = .returned (.bool (Lib.hasPrefix (s.data.toList.drop a) (pairsL.getD k []))) ∧ ∃ n, w' = wx.drewN n := fun wx hh => ref_starts s (pairB k) a line col _ wx hh (by omega) (by omega) (by rw [pair_size k hk8]; omega)
        cases hp : Lib.hasPrefix (s.data.toList.drop a) (pairsL.getD k [])
        · rw [hp] at hst
          have HP2 := Lib.hid hp; clear hp
          go_wp2_with fail
          refine (hst _ (by exact hB)).mono ?_
          rintro e w1 ⟨rfl, n1, rfl⟩
          go_wp2_with fail
          go_roundg (gk - 1)
          case measure => omega
          case rel => exact ⟨k + 1, by omega, by omega, by go_num, by intro m hm; rcases Nat.lt_succ_iff_lt_or_eq.1 hm with h | rfl; exact HNO.out m h; exact HP2.out, hB, hT, hP, below_drewN hbel _⟩
        · rw [hp] at hst
          obtain ⟨e1, e2⟩ := pair_hit hk8 hp
          have hR := Lib.hid (show nextT (s.data.toList.drop a) = (⟨4, pairsL.getD k [], 0, 0, 0⟩, 2, 0) from by rw [HSG.out]; unfold sgT; rw [e1, if_pos (by omega), e2])
          clear hp e1 e2
          go_wp2_with fail
          refine (hst _ (by exact hB)).mono ?_
          rintro e w1 ⟨rfl, n1, rfl⟩
          go_wp2_with fail
          exact bodyPost_ret (v := .tuple #[.agg #[.int .i64 4, .string (pairB k), .int .i64 0, .int .i64 0, .int .i64 0, .int .i64 0], .int .i64 2, .int .i64 0]) (by simp [results, Tryz.results40, go_sem, c0, c1, c2, c3, c4, c5]) rfl (NextR.of hR.out rfl (by repeat (first | with_reducible exact Below.refl _ _ | with_reducible assumption | with_reducible refine Below.setCell ?_ (by simp) _ | with_reducible refine Below.alloc ?_ (by simp; try omega) _ | with_reducible refine below_drewN ?_ _ | with_reducible refine Below.drew ?_)))
      · have hk : k = 8 := by omega
        subst hk
        have hsi := Lib.hid (pair_miss HNO.out)
        cases hm : memB singlesL s[a].toNat
        · have hR := Lib.hid (show nextT (s.data.toList.drop a) = (⟨0, [], 0, 0, 0⟩, 0, 20) from by rw [HSG.out]; unfold sgT; rw [hsi.out, HH.out, hm]; simp)
          go_wp2_with (first | (go_at_call 79; refine (HAM.out _).mono ?_; rintro e w' ⟨rfl, rfl⟩))
          exact bodyPost_ret (v := .tuple #[.agg #[.int .i64 0, .string ⟨#[]⟩, .int .i64 0, .int .i64 0, .int .i64 0, .int .i64 0], .int .i64 0, .int .i64 20]) (by simp [results, Tryz.results40, go_sem, c0, c1, c2, c3, c4, c5]) rfl (NextR.of hR.out rfl (by repeat (first | with_reducible exact Below.refl _ _ | with_reducible assumption | with_reducible refine Below.setCell ?_ (by simp) _ | with_reducible refine Below.alloc ?_ (by simp; try omega) _ | with_reducible refine below_drewN ?_ _ | with_reducible refine Below.drew ?_)))
        · have hR := Lib.hid (show nextT (s.data.toList.drop a) = (⟨4, (s.data.toList.drop a).take 1, 0, 0, 0⟩, 1, 0) from by rw [HSG.out]; unfold sgT; rw [hsi.out, HH.out, hm]; simp)
          go_wp2_with (first | (go_at_call 79; refine (HAM.out _).mono ?_; rintro e w' ⟨rfl, rfl⟩))
          exact bodyPost_ret (v := .tuple #[.agg #[.int .i64 4, .string (s.extract a (a + 1)), .int .i64 0, .int .i64 0, .int .i64 0, .int .i64 0], .int .i64 1, .int .i64 0]) (by simp [results, Tryz.results40, go_sem, c0, c1, c2, c3, c4, c5]) rfl (NextR.of hR.out (by rw [str_mid]; rfl) (by repeat (first | with_reducible exact Below.refl _ _ | with_reducible assumption | with_reducible refine Below.setCell ?_ (by simp) _ | with_reducible refine Below.alloc ?_ (by simp; try omega) _ | with_reducible refine below_drewN ?_ _ | with_reducible refine Below.drew ?_)))
  all_goals
    go_enter Tryz.func40, Tryz.ntmps40
    go_wp2_with fail
    go_quiet (fail)
    go_upto_region 25 with (first | (go_at_call 82; refine (ref_letter _ _).mono ?_; rintro e w' ⟨rfl, rfl⟩))
    go_wp2_with fail
    go_loopg [173] 8 (fun f y wr => SRel s a line col w f y wr)
    case atStart => exact ⟨0, by omega, by omega, rfl, by intro m hm; omega, (((Holds.new w _ _).alloc _).drewN _).alloc _, ((new2 w _ _ _).drewN _).alloc _, new3 w _ _ _ _ _, (by repeat (first | with_reducible exact Below.refl _ _ | with_reducible assumption | with_reducible refine Below.setCell ?_ (by simp) _ | with_reducible refine Below.alloc ?_ (by simp; try omega) _ | with_reducible refine below_drewN ?_ _ | with_reducible refine Below.drew ?_))⟩
    case round =>
      obtain ⟨k, hk, hf, rfl, hno, hB, hT, hP, hbel⟩ := hrel
      have HNO := Lib.hid hno; clear hno
      obtain ⟨⟨c0, c1, c2, c3, c4, c5⟩, f0, f1, f2, f3, f4, f5⟩ := six hT
      have hlt := hT.lt
      by_cases hk8 : k < 8
      · have hpc := cell_at hP (pair_cell k hk8)
        have hst : ∀ wx, Holds wx w.heap.size (rfCells s a line col) 82 → Calls Tryz.prog 80 #[.pointer (some ⟨w.heap.size, 0, none⟩), .string (pairB k)] wx fun e w' => e = .returned (.bool (Lib.hasPrefix (s.data.toList.drop a) (pairsL.getD k []))) ∧ ∃ n, w' = wx.drewN n := fun wx hh => ref_starts s (pairB k) a line col _ wx hh (by omega) (by omega) (by rw [pair_size k hk8]; omega)
        cases hp : Lib.hasPrefix (s.data.toList.drop a) (pairsL.getD k [])
        · rw [hp] at hst
          have HP2 := Lib.hid hp; clear hp
          go_wp2_with fail
          refine (hst _ (by exact hB)).mono ?_
          rintro e w1 ⟨rfl, n1, rfl⟩
          go_wp2_with fail
          go_roundg (gk - 1)
          case measure => omega
          case rel => exact ⟨k + 1, by omega, by omega, by go_num, by intro m hm; rcases Nat.lt_succ_iff_lt_or_eq.1 hm with h | rfl; exact HNO.out m h; exact HP2.out, hB, hT, hP, below_drewN hbel _⟩
        · rw [hp] at hst
          obtain ⟨e1, e2⟩ := pair_hit hk8 hp
          have hR := Lib.hid (show nextT (s.data.toList.drop a) = (⟨4, pairsL.getD k [], 0, 0, 0⟩, 2, 0) from by rw [HSG.out]; unfold sgT; rw [e1, if_pos (by omega), e2])
          clear hp e1 e2
          go_wp2_with fail
          refine (hst _ (by exact hB)).mono ?_
          rintro e w1 ⟨rfl, n1, rfl⟩
          go_wp2_with fail
          exact bodyPost_ret (v := .tuple #[.agg #[.int .i64 4, .string (pairB k), .int .i64 0, .int .i64 0, .int .i64 0, .int .i64 0], .int .i64 2, .int .i64 0]) (by simp [results, Tryz.results40, go_sem, c0, c1, c2, c3, c4, c5]) rfl (NextR.of hR.out rfl (by repeat (first | with_reducible exact Below.refl _ _ | with_reducible assumption | with_reducible refine Below.setCell ?_ (by simp) _ | with_reducible refine Below.alloc ?_ (by simp; try omega) _ | with_reducible refine below_drewN ?_ _ | with_reducible refine Below.drew ?_)))
      · have hk : k = 8 := by omega
        subst hk
        have hsi := Lib.hid (pair_miss HNO.out)
        cases hm : memB singlesL s[a].toNat
        · have hR := Lib.hid (show nextT (s.data.toList.drop a) = (⟨0, [], 0, 0, 0⟩, 0, 20) from by rw [HSG.out]; unfold sgT; rw [hsi.out, HH.out, hm]; simp)
          go_wp2_with (first | (go_at_call 79; refine (HAM.out _).mono ?_; rintro e w' ⟨rfl, rfl⟩))
          exact bodyPost_ret (v := .tuple #[.agg #[.int .i64 0, .string ⟨#[]⟩, .int .i64 0, .int .i64 0, .int .i64 0, .int .i64 0], .int .i64 0, .int .i64 20]) (by simp [results, Tryz.results40, go_sem, c0, c1, c2, c3, c4, c5]) rfl (NextR.of hR.out rfl (by repeat (first | with_reducible exact Below.refl _ _ | with_reducible assumption | with_reducible refine Below.setCell ?_ (by simp) _ | with_reducible refine Below.alloc ?_ (by simp; try omega) _ | with_reducible refine below_drewN ?_ _ | with_reducible refine Below.drew ?_)))
        · have hR := Lib.hid (show nextT (s.data.toList.drop a) = (⟨4, (s.data.toList.drop a).take 1, 0, 0, 0⟩, 1, 0) from by rw [HSG.out]; unfold sgT; rw [hsi.out, HH.out, hm]; simp)
          go_wp2_with (first | (go_at_call 79; refine (HAM.out _).mono ?_; rintro e w' ⟨rfl, rfl⟩))
          exact bodyPost_ret (v := .tuple #[.agg #[.int .i64 4, .string (s.extract a (a + 1)), .int .i64 0, .int .i64 0, .int .i64 0, .int .i64 0], .int .i64 1, .int .i64 0]) (by simp [results, Tryz.results40, go_sem, c0, c1, c2, c3, c4, c5]) rfl (NextR.of hR.out (by rw [str_mid]; rfl) (by repeat (first | with_reducible exact Below.refl _ _ | with_reducible assumption | with_reducible refine Below.setCell ?_ (by simp) _ | with_reducible refine Below.alloc ?_ (by simp; try omega) _ | with_reducible refine below_drewN ?_ _ | with_reducible refine Below.drew ?_)))
end Go.Proofs.YtiojnbhomjkkgaaGreatDoor

namespace Go.Proofs.YtiojnbhomjkkgaaGreatDoor
open Go.RowKit

theorem nextT_sign {l : List UInt8} {c : UInt8} (hH : l.headD 0 = c) (hc : ¬ (letterB c.toNat = true ∨ (c.toNat : Int) = 95 ∨ (c.toNat : Int) = 35)) (hd : digitB c.toNat = false) (hq : ¬ (c.toNat : Int) = 34)
    (h38 : ¬ ((c.toNat : Int) = 38 ∧ 1 < l.length ∧ (letterB (l.getD 1 0).toNat = true ∨ (l.getD 1 0).toNat = 95))) (h47 : (c.toNat : Int) = 47 → slashV l = 0) : nextT l = sgT l := by
  unfold nextT; simp only [hH]; rw [if_neg hc, if_neg (by simp [hd]), if_neg hq, if_neg h38]
  by_cases h : (c.toNat : Int) = 47
  · rw [if_pos h, if_neg (slash_zero (h47 h))]; rfl
  · rw [if_neg h]; rfl

theorem ref_next (s : ByteArray) (a : Nat) (line col : Int) (w : World) (hs : s.size ≤ 16000) (h1 : a < s.size) : Calls Tryz.prog 40 #[.agg (rfCells s a line col)] w (NextR s a w) := by
  have hH := hd_at s a h1
  by_cases hc : letterB s[a].toNat = true ∨ (s[a].toNat : Int) = 95 ∨ (s[a].toNat : Int) = 35
  · exact rnext_name s a line col w hs h1 hc
  · cases hd : digitB s[a].toNat
    · by_cases hq : (s[a].toNat : Int) = 34
      · exact rnext_string s a line col w hs h1 hc hd hq
      · by_cases h47 : (s[a].toNat : Int) = 47
        · by_cases hsl : slashV (s.data.toList.drop a) = 0
          · exact rnext_sign s a line col w hs h1 hc hd hq (.inr (.inr (.inr ⟨by simp; omega, by simpa using h47, hsl⟩))) (nextT_sign hH hc hd hq (by rintro ⟨x, _⟩; omega) (fun _ => hsl))
          · exact rnext_word s a line col w hs h1 hc hd hq h47 hsl
        · by_cases h38 : (s[a].toNat : Int) = 38
          · by_cases hs1 : a + 1 < s.size
            · have hG := getD_drop s a 1 hs1
              by_cases hl : letterB s[a + 1].toNat = true ∨ (s[a + 1].toNat : Int) = 95
              · exact rnext_ref s a line col w hs h1 hc hd hq h38 hs1 hl
              · refine rnext_sign s a line col w hs h1 hc hd hq (.inr (.inr (.inl ⟨by simpa using h38, by simp; omega, hs1, ?_, ?_⟩))) (nextT_sign hH hc hd hq (by rintro ⟨_, _, x⟩; rw [hG] at x; apply hl; rcases x with x | x; exact .inl x; right; omega) (fun x => absurd x h47))
                · cases hx : letterB s[a + 1].toNat; rfl; exact absurd (.inl hx) hl
                · simp; intro hx; exact hl (.inr hx)
            · exact rnext_sign s a line col w hs h1 hc hd hq (.inr (.inl ⟨by simpa using h38, by simp; omega, hs1⟩)) (nextT_sign hH hc hd hq (by rintro ⟨_, x, _⟩; rw [rn_len] at x; omega) (fun x => absurd x h47))
          · exact rnext_sign s a line col w hs h1 hc hd hq (.inl ⟨by simp; omega, by simp; omega⟩) (nextT_sign hH hc hd hq (by rintro ⟨x, _⟩; omega) (fun x => absurd x h47))
    · exact rnext_digit s a line col w hs h1 hc hd

/-- The loop's relation. -/
def RfRel (s : ByteArray) (file : Int) (w : World) (R : List Tok × (Int × Int × Int) × Int) (f : Nat) (v : Value) (wr : World) : Prop :=
  ∃ (j : Nat) (l c : Int) (toks : List Tok), j ≤ s.size ∧ s.size < j + f ∧ 1 ≤ l ∧ l ≤ j + 1 ∧ 1 ≤ c ∧ c ≤ j + 1 ∧ rdA file f (s.data.toList.drop j) (l, c) toks = R ∧ toks.length ≤ 6000 ∧
    wr.ownsRow (w.heap.size + 2) 80 6 v toks.length (toksCells file toks) ∧ Holds wr (w.heap.size + 1) (rfCells s j l c) 82 ∧ Holds wr w.heap.size #[.int .i64 0, .int .i64 0, .int .i64 0] 38 ∧ Below w.heap.size w wr

set_option maxHeartbeats 8000000 in
theorem ref_Read (s : ByteArray) (file : Int) (w : World) (hs : s.size ≤ maxLen) :
    Calls Tryz.prog 15 #[.string s, .int .i64 file] w (ReadPost s file w) := by
  unfold maxLen at hs
  by_cases h16 : 16000 < s.size
  · have hF := Lib.hid (show readT s.data.toList file = ([], (0, 0, 0), 3) from by unfold readT; rw [len_of, if_pos h16])
    go_enter Tryz.func15, Tryz.ntmps15
    go_wp2_with fail
    exact bodyPost_ret (v := .tuple #[.slice none 0 0, .agg #[.int .i64 0, .int .i64 0, .int .i64 0], .int .i64 3]) (by simp [results, Tryz.results15, go_sem]) rfl ⟨_, by rw [hF.out]; rfl, by rw [hF.out]; exact World.ownsRow_nil _ _ _ _, by repeat (first | with_reducible exact Below.refl _ _ | with_reducible assumption | with_reducible refine Below.setCell ?_ (by first | omega | simp) _ | with_reducible refine Below.alloc ?_ (by first | omega | (simp; omega) | simp) _ | with_reducible refine below_drewN ?_ _ | with_reducible refine Below.drew ?_)⟩
  · have h16 : s.size ≤ 16000 := by omega
    have hF : readT s.data.toList file = rdA file (s.size + 1) s.data.toList (1, 1) [] := by unfold readT; rw [len_of, if_neg (by omega)]
    unfold ReadPost
    generalize readT s.data.toList file = R at hF
    have HF := Lib.hid hF; clear hF
    go_enter Tryz.func15, Tryz.ntmps15
    go_wp2_with fail
    go_loopg [8] (s.size + 1) (fun f v wr => RfRel s file w R f v wr)
    case atStart => exact ⟨0, 1, 1, [], by omega, by omega, by omega, by omega, by omega, by omega, HF.out.symm, by simp, World.ownsRow_nil _ _ _ _, new2 w _ (rfCells s 0 1 1) _, (Holds.new w _ _).alloc _, by repeat (first | with_reducible exact Below.refl _ _ | with_reducible assumption | with_reducible refine Below.setCell ?_ (by first | omega | simp) _ | with_reducible refine Below.alloc ?_ (by first | omega | (simp; omega) | simp) _ | with_reducible refine below_drewN ?_ _ | with_reducible refine Below.drew ?_)⟩
    case round =>
      obtain ⟨j, l, c, toks, hj, hf, hl1, hl2, hc1, hc2, hE, htl, hown, hH, hP, hbel⟩ := hrel
      obtain ⟨f, rfl⟩ : ∃ f', gk = f' + 1 := ⟨gk - 1, by omega⟩
      have hblk := ref_skip s j l c (w.heap.size + 1) wr hH hj h16 hl1 hl2 hc1 hc2
      unfold SkipPost at hblk
      have hroom := blk_room s j (s.size - j) hj
      have hbb : blk (s.data.toList.drop j).length (s.data.toList.drop j) = blk (s.size - j) (s.data.toList.drop j) := by congr 1; simp
      generalize blk (s.size - j) (s.data.toList.drop j) = B at hblk hroom hbb
      obtain ⟨bn, bx⟩ := B
      simp only at hblk hroom
      have hbd := adv_bd ((s.data.toList.drop j).take bn) (l, c) hl1 hc1
      have hbl : ((s.data.toList.drop j).take bn).length ≤ bn := by simp; omega
      have hcases := @rdA_bad file f (s.data.toList.drop j) (l, c) toks _ hbb
      have hcases2 := @rdA_full file f (s.data.toList.drop j) (l, c) toks _ hbb
      have hcases3 := @rdA_end file f (s.data.toList.drop j) (l, c) toks _ hbb
      have hcases4 := @rdA_err file f (s.data.toList.drop j) (l, c) toks _ hbb
      have hcases5 := @rdA_go file f (s.data.toList.drop j) (l, c) toks _ hbb
      simp only at hcases hcases2 hcases3 hcases4 hcases5 hbd
      rw [List.drop_drop] at hcases3 hcases4 hcases5
      rw [hE] at hcases hcases2 hcases3 hcases4 hcases5
      generalize adv ((s.data.toList.drop j).take bn) (l, c) = p1 at hblk hbd hcases hcases2 hcases3 hcases4 hcases5
      obtain ⟨l1, c1⟩ := p1
      simp only at hblk hbd hcases hcases2 hcases3 hcases4 hcases5
      obtain ⟨k1, k2, k3, k4⟩ := hbd
      have k3' : l1 ≤ (j + bn : Nat) + 1 := by omega
      have k4' : c1 ≤ (j + bn : Nat) + 1 := by omega
      clear hE k3 k4 hbl hbb
      generalize hj2 : j + bn = j2 at hblk hroom hcases3 hcases4 hcases5 k3' k4'
      have hjj : j ≤ j2 := by omega
      clear hj2
      have HC := Lib.hid hcases; clear hcases
      have HC2 := Lib.hid hcases2; clear hcases2
      have HC3 := Lib.hid hcases3; clear hcases3
      have HC4 := Lib.hid hcases4; clear hcases4
      have HC5 := Lib.hid hcases5; clear hcases5
      have HBK := Lib.hid hblk; clear hblk
      obtain ⟨ao, cap, rfl⟩ := ownsRow_shape hown
      go_wp2_with fail
      refine HBK.out.mono ?_
      rintro e w1 ⟨rfl, hH1, hK1⟩
      have hP1 := hP.keeps hK1 (by omega)
      have hb1 : Below w.heap.size w w1 := hbel.trans (hK1.below hbel.size (by intro i hi; omega))
      have hown1 := ownsRow_keeps hown hK1 (by intro g hg; have := (hown.lt g hg).1; omega)
      have hs1 := hK1.size
      have hs0 := hb1.size
      have hlt1 := hH1.lt
      have hlt0 := hP1.lt
      obtain ⟨q0, q1, q2, q3, q4, q5⟩ := tri hP1
      obtain ⟨r0, r1, r2, r3, r4, r5, r6, r7⟩ := rf_cells hH1
      cases bx with
      | true =>
        have hR := Lib.hid (HC.out rfl)
        go_wp2_with fail
        go_region
        go_wp2_with fail
        exact bodyPost_ret (v := .tuple #[.slice none 0 0, .agg #[.int .i64 file, .int .i64 l1, .int .i64 c1], .int .i64 21]) (by simp [results, Tryz.results15, go_sem, q0, q1, q2, hlt0]) rfl ⟨_, by rw [hR.out]; rfl, by rw [hR.out]; exact World.ownsRow_nil _ _ _ _, by repeat (first | with_reducible exact Below.refl _ _ | with_reducible assumption | with_reducible refine Below.setCell ?_ (by first | omega | simp) _ | with_reducible refine Below.alloc ?_ (by first | omega | (simp; omega) | simp) _ | with_reducible refine below_drewN ?_ _ | with_reducible refine Below.drew ?_)⟩
      | false =>
        by_cases h6 : toks.length = 6000
        · have h6' : ((toks.length : Int) == 6000) = true := by simp [h6]
          have hR := Lib.hid (HC2.out rfl h6)
          clear h6
          go_wp2_with fail
          go_region
          go_wp2_with fail
          exact bodyPost_ret (v := .tuple #[.slice none 0 0, .agg #[.int .i64 file, .int .i64 l1, .int .i64 c1], .int .i64 3]) (by simp [results, Tryz.results15, go_sem, q0, q1, q2, hlt0]) rfl ⟨_, by rw [hR.out]; rfl, by rw [hR.out]; exact World.ownsRow_nil _ _ _ _, by repeat (first | with_reducible exact Below.refl _ _ | with_reducible assumption | with_reducible refine Below.setCell ?_ (by first | omega | simp) _ | with_reducible refine Below.alloc ?_ (by first | omega | (simp; omega) | simp) _ | with_reducible refine below_drewN ?_ _ | with_reducible refine Below.drew ?_)⟩
        · have h6' : ((toks.length : Int) == 6000) = false := by simp; omega
          have h6b : toks.length < 6000 := by omega
          have H6 := Lib.hid h6; clear h6
          by_cases hend : j2 = s.size
          · have hend' : ((j2 : Int) == (s.size : Int)) = true := by simp; omega
            have hR := Lib.hid (HC3.out rfl H6.out (drop_end s j2 (by omega)))
            clear hend
            obtain ⟨i0, hi, hz0, hz1, hz2⟩ := info_parts infoTok
            go_wp2_with (at_builtin; refine wpList_append_own _ rfl _ _ 23 rfl (w.heap.size + 2) 80 i0 _ 6 56 Tryz.underlying23 hi hz0 hz1 hz2 rfl (by decide) _ _ _ rfl ((hown1.alloc _).alloc _) ⟨w1.heap.size + 1, 0, none⟩ 1 1 (tokCells file ⟨8, [], 0, l1, c1⟩) rfl rfl ?c1 ?c2 ?c3 ?c4 ?c5 ?_)
            case c1 => exact new_cells _ _ _ _ (by simp) _ rfl
            case c2 => exact tok_one _ _
            case c3 => unfold maxLen; omega
            case c4 => omega
            case c5 => simp; omega
            intro v' w3 hown' hgrow _
            have hnr : ∀ g, (Value.slice ao toks.length cap).ownBlock = some g → w.heap.size + 2 ≤ g := fun g hg => (hown1.lt g hg).1
            have hP3 : Holds w3 w.heap.size #[.int .i64 0, .int .i64 0, .int .i64 0] 38 := ((hP1.alloc _).alloc _).grown hgrow (fun e => by have := hnr _ e; omega)
            have hb3 : Below w.heap.size w w3 := ((hb1.alloc (by omega) _).alloc (by simp; omega) _).grown hgrow (by simp; omega) (fun g hg => by have := hnr g hg; omega)
            obtain ⟨p0, p1, p2, p3, p4, p5⟩ := tri hP3
            have hown2 : w3.ownsRow w.heap.size 80 6 v' (toks.length + 1) (toksCells file (toks ++ [⟨8, [], 0, l1, c1⟩])) := by rw [toksCells_snoc]; exact ownsRow_base hown' (by omega)
            have hng : ∀ g, v'.ownBlock = some g → ¬ g = w.heap.size := fun g hg => by have := (hown'.lt g hg).1; omega
            have hlt3 := hP3.lt
            clear hown' hgrow
            obtain ⟨ao', cap', rfl⟩ := ownsRow_shape hown2
            go_wp2_with fail
            exact bodyPost_ret (v := .tuple #[.slice ao' (toks.length + 1) cap', .agg #[.int .i64 0, .int .i64 0, .int .i64 0], .int .i64 0]) (by simp [results, Tryz.results15, go_sem, p0, p1, p2]) rfl ⟨_, by rw [hR.out]; rfl, by
              rw [hR.out]
              simp only [List.length_append, List.length_singleton]
              exact ownsRow_keeps hown2 ((((Keeps.refl (fun i => i = w.heap.size) w3).setCell (.inr rfl) _).setCell (.inr rfl) _).setCell (.inr rfl) _) hng,
              by repeat (first | with_reducible exact Below.refl _ _ | with_reducible assumption | with_reducible refine Below.setCell ?_ (by first | omega | simp) _ | with_reducible refine Below.alloc ?_ (by first | omega | (simp; omega) | simp) _ | with_reducible refine below_drewN ?_ _ | with_reducible refine Below.drew ?_)⟩
          · have hj2 : j2 < s.size := by omega
            have hend' : ((j2 : Int) == (s.size : Int)) = false := by simp; omega
            have hdn : s.data.toList.drop j2 ≠ [] := by rw [drop_cons s j2 hj2]; simp
            have hnext := fun wx => ref_next s j2 l1 c1 wx h16 hj2
            unfold NextR at hnext
            have hroom2 := nextT_room (s.data.toList.drop j2) hdn
            have hskp := fun n hn wx hh => ref_step s j2 n l1 c1 (w.heap.size + 1) wx hh hn (by omega) k1 k3' k2 k4'
            have HC4' := Lib.hid (fun h => HC4.out rfl H6.out hdn rfl h)
            have HC5' := Lib.hid (fun h => HC5.out rfl H6.out hdn rfl h)
            clear HC4 HC5 HC3 HC2 HC
            simp only [List.length_drop] at hroom2
            generalize nextT (s.data.toList.drop j2) = T at hnext hroom2 HC4' HC5'
            obtain ⟨tk, tn, te⟩ := T
            simp only at hnext hroom2 HC4' HC5'
            have HNX := Lib.hid hnext; clear hnext
            have HSK := Lib.hid hskp; clear hskp
            clear hend
            go_wp2_with fail
            refine (HNX.out _).mono ?_
            rintro e w2 ⟨tk', tn', rfl, hok, hbn⟩
            unfold tokAgg
            have hKn : Keeps (fun _ => False) _ w2 := Keeps.of_fresh hbn _
            have hH2 := (hH1.alloc _).keeps hKn (fun e => e)
            have hP2 := (hP1.alloc _).keeps hKn (fun e => e)
            have hQ2 := (Holds.new w1 _ _).keeps hKn (fun e => e)
            have hown2 := ownsRow_keeps (hown1.alloc _) hKn (fun _ _ e => e)
            have hb2 : Below w.heap.size w w2 := (hb1.alloc hs0 _).trans (hbn.mono (by simp; omega))
            have hs2 := hKn.size
            simp at hs2
            have hs02 := hb2.size
            clear q0 q1 q2 q3 q4 q5 r0 r1 r2 r3 r4 r5 r6 r7
            obtain ⟨q0, q1, q2, q3, q4, q5⟩ := tri hP2
            obtain ⟨r0, r1, r2, r3, r4, r5, r6, r7⟩ := rf_cells hH2
            obtain ⟨u0, u1, u2, u3, u4, u5⟩ := tri hQ2
            have hlt2 := hH2.lt
            have hltp := hP2.lt
            have hltq := hQ2.lt
            by_cases hte : te = 0
            · subst hte
              obtain ⟨rfl, rfl⟩ := hok rfl
              obtain ⟨t1, t2⟩ := hroom2 rfl
              have t2' : j2 + tn' ≤ s.size := by rw [len_of] at t2; omega
              have hR := Lib.hid (HC5'.out rfl)
              clear HC4' HC5' hroom2 t2 hok
              obtain ⟨i0, hi, hz0, hz1, hz2⟩ := info_parts infoTok
              go_wp2_with (at_builtin; refine wpList_append_own _ rfl _ _ 23 rfl (w.heap.size + 2) 80 i0 _ 6 56 Tryz.underlying23 hi hz0 hz1 hz2 rfl (by decide) _ _ _ rfl ((hown2.alloc _).alloc _) ⟨w2.heap.size + 1, 0, none⟩ 1 1 (tokCells file { tk' with line := l1, col := c1 }) rfl rfl ?c1 ?c2 ?c3 ?c4 ?c5 ?_)
              case c1 => exact new_cells _ _ _ _ (by simp) _ rfl
              case c2 => exact tok_one _ _
              case c3 => unfold maxLen; omega
              case c4 => omega
              case c5 => simp; omega
              intro v' w3 hown' hgrow _
              have hnr : ∀ g, (Value.slice ao toks.length cap).ownBlock = some g → w.heap.size + 2 ≤ g := fun g hg => (hown1.lt g hg).1
              have hP3 : Holds w3 w.heap.size #[.int .i64 0, .int .i64 0, .int .i64 0] 38 := ((hP2.alloc _).alloc _).grown hgrow (fun e => by have := hnr _ e; omega)
              have hH3 : Holds w3 (w.heap.size + 1) (rfCells s j2 l1 c1) 82 := ((hH2.alloc _).alloc _).grown hgrow (fun e => by have := hnr _ e; omega)
              have hb3 : Below w.heap.size w w3 := ((hb2.alloc hs02 _).alloc (by simp; omega) _).grown hgrow (by simp; omega) (fun g hg => by have := hnr g hg; omega)
              have hown3 : w3.ownsRow (w.heap.size + 2) 80 6 v' (toks.length + 1) (toksCells file (toks ++ [{ tk' with line := l1, col := c1 }])) := by rw [toksCells_snoc]; exact hown'
              have hng : ∀ g, v'.ownBlock = some g → ¬ g = w.heap.size + 1 := fun g hg => by have := (hown'.lt g hg).1; omega
              clear hown' hgrow
              have hlt3 := hH3.lt
              clear q0 q1 q2 q3 q4 q5 r0 r1 r2 r3 r4 r5 r6 r7 u0 u1 u2 u3 u4 u5
              go_wp2_with fail
              refine (HSK.out tn' t2' _ hH3).mono ?_
              rintro e w4 ⟨rfl, hH4, hK4⟩
              have hP4 := hP3.keeps hK4 (by omega)
              have hb4 : Below w.heap.size w w4 := hb3.trans (hK4.below hb3.size (by intro i hi; omega))
              have hown4 := ownsRow_keeps hown3 hK4 hng
              go_wp2_with fail
              go_roundg f
              case measure => omega
              case rel =>
                have hbd := adv_bd ((s.data.toList.drop j2).take tn') (l1, c1) k1 k2
                have hln : ((s.data.toList.drop j2).take tn').length ≤ tn' := by simp; omega
                have hR2 := hR.out.symm
                rw [List.drop_drop] at hR2
                exact ⟨j2 + tn', _, _, toks ++ [{ tk' with line := l1, col := c1 }], t2', by omega, hbd.1, by simp at hbd; omega, hbd.2.1, by simp at hbd; omega, hR2, by simp; omega, by simpa using hown4, hH4, hP4, hb4⟩
            · have hR := Lib.hid (HC4'.out hte)
              have hte' : (te != 0) = true := by simpa using hte
              clear HC4' HC5' hroom2 hte hok
              go_wp2_with fail
              go_region
              go_wp2_with fail
              exact bodyPost_ret (v := .tuple #[.slice none 0 0, .agg #[.int .i64 file, .int .i64 l1, .int .i64 c1], .int .i64 te]) (by simp [results, Tryz.results15, go_sem, q0, q1, q2, hltp]) rfl ⟨_, by rw [hR.out]; rfl, by rw [hR.out]; exact World.ownsRow_nil _ _ _ _, by repeat (first | with_reducible exact Below.refl _ _ | with_reducible assumption | with_reducible refine Below.setCell ?_ (by first | omega | simp) _ | with_reducible refine Below.alloc ?_ (by first | omega | (simp; omega) | simp) _ | with_reducible refine below_drewN ?_ _ | with_reducible refine Below.drew ?_)⟩
end Go.Proofs.YtiojnbhomjkkgaaGreatDoor
