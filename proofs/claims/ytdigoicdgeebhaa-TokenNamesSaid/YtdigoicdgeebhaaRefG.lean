/- Contracts of the reference of token: skip. -/
import Derived.Test.YtdigoicdgeebhaaRefF
import Derived.Test.YtdigoicdgeebhaaRefB
import Derived.Test.YtdigoicdgeebhaaTokI
import Derived.Deep.RegionHeld3
import Derived.IntWalk
namespace Go.Proofs.Ytdigoicdgeebhaa
open Go.RowKit

/-- What skip leaves. -/
def SkipPost (s : ByteArray) (i : Nat) (line col : Int) (b : Nat) (w : World) (e : Ending) (w' : World) : Prop :=
  e = .returned (.int .i64 (if (blk (s.size - i) (s.data.toList.drop i)).2 = true then 21 else 0)) ∧
  Holds w' b (rfCells s (i + (blk (s.size - i) (s.data.toList.drop i)).1) (adv ((s.data.toList.drop i).take (blk (s.size - i) (s.data.toList.drop i)).1) (line, col)).1 (adv ((s.data.toList.drop i).take (blk (s.size - i) (s.data.toList.drop i)).1) (line, col)).2) 59 ∧ Keeps (· = b) w w'
/-- A place behind i, with its line and column. -/
def At (s : ByteArray) (i : Nat) (line col : Int) (j : Nat) (l c : Int) : Prop :=
  i ≤ j ∧ j ≤ s.size ∧ 1 ≤ l ∧ l ≤ j + 1 ∧ 1 ≤ c ∧ c ≤ j + 1 ∧ (l, c) = adv ((s.data.toList.drop i).take (j - i)) (line, col)
theorem At.go {s : ByteArray} {i : Nat} {line col : Int} {j : Nat} {l c : Int} (h : At s i line col j l c) (n : Nat) (hn : j + n ≤ s.size) :
    At s i line col (j + n) (adv ((s.data.toList.drop j).take n) (l, c)).1 (adv ((s.data.toList.drop j).take n) (l, c)).2 := by
  obtain ⟨hij, hj, hl1, hl2, hc1, hc2, hA⟩ := h
  have hbd := adv_bd ((s.data.toList.drop j).take n) (l, c) hl1 hc1
  have hln : ((s.data.toList.drop j).take n).length ≤ n := by simp; omega
  exact ⟨by omega, hn, hbd.1, by simp at hbd; omega, hbd.2.1, by simp at hbd; omega, by rw [hA, adv_more _ i j n hij]⟩
def KRel (s : ByteArray) (i : Nat) (line col : Int) (b : Nat) (w : World) (B : Nat × Bool) (f : Nat) (wr : World) : Prop :=
  ∃ j : Nat, ∃ l c : Int, At s i line col j l c ∧ s.size ≤ j + f ∧ B = ((blk f (s.data.toList.drop j)).1 + (j - i), (blk f (s.data.toList.drop j)).2) ∧
    Holds wr b (rfCells s j l c) 59 ∧ Keeps (· = b) w wr
def LRel (s : ByteArray) (i : Nat) (line col : Int) (b : Nat) (w : World) (j : Nat) (f : Nat) (wr : World) : Prop :=
  ∃ j' : Nat, ∃ l c : Int, At s i line col j' l c ∧ j ≤ j' ∧ s.size ≤ j' + f ∧ runB notNlB (s.data.toList.drop j) = runB notNlB (s.data.toList.drop j') + (j' - j) ∧
    Holds wr b (rfCells s j' l c) 59 ∧ Keeps (· = b) w wr
def MRel (s : ByteArray) (b : Nat) (w : World) (j : Nat) (l c : Int) (f : Nat) (x : Value) (wr : World) : Prop :=
  ∃ n : Nat, 2 ≤ n ∧ j + n ≤ s.size ∧ s.size ≤ j + n + f ∧ x = .int .i64 n ∧ (∀ m, m < n - 2 → Lib.occAt (s.data.toList.drop (j + 2)) [42, 47] m = false) ∧
    Holds wr b (rfCells s j l c) 59 ∧ Keeps (· = b) w wr

theorem skip_end {s : ByteArray} {i : Nat} {line col : Int} {b : Nat} {w w2 : World} {B : Nat × Bool} {j : Nat} {l c : Int} {x : Bool} {e : Ending} (hA : At s i line col j l c) (hB : B = (j - i, x)) (HB : blk (s.size - i) (s.data.toList.drop i) = B)
    (hH : Holds w2 b (rfCells s j l c) 59) (hK : Keeps (· = b) w w2) (he : e = .returned (.int .i64 (if x = true then 21 else 0))) : SkipPost s i line col b w e w2 := by
  obtain ⟨hij, hj, hl1, hl2, hc1, hc2, hA⟩ := hA
  unfold SkipPost
  rw [HB, hB]
  refine ⟨he, ?_, hK⟩
  simp only
  rw [← hA, show i + (j - i) = j from by omega]
  exact hH
theorem blk_drop (s : ByteArray) (j n f : Nat) : blk f ((s.data.toList.drop j).drop n) = blk f (s.data.toList.drop (j + n)) := by rw [List.drop_drop]
theorem occ_at (s : ByteArray) (j n : Nat) (h : 2 ≤ n) : Lib.occAt (s.data.toList.drop (j + 2)) [42, 47] (n - 2) = Lib.hasPrefix (s.data.toList.drop (j + n)) [42, 47] := by
  unfold Lib.occAt Lib.hasPrefix
  rw [List.drop_drop, show j + 2 + (n - 2) = j + n from by omega]
theorem memB_sep (c : Int) : memB (⟨#[32, 9, 13, 10]⟩ : ByteArray).data.toList c = sepB c := rfl

theorem occ_more {s : ByteArray} {j n : Nat} (h2 : 2 ≤ n) (h : ∀ m, m < n - 2 → Lib.occAt (s.data.toList.drop (j + 2)) [42, 47] m = false) (hn : Lib.hasPrefix (s.data.toList.drop (j + n)) [42, 47] = false) :
    ∀ m, m < n + 1 - 2 → Lib.occAt (s.data.toList.drop (j + 2)) [42, 47] m = false := by
  intro m hm
  by_cases hmn : m = n - 2
  · subst hmn; rw [occ_at s j n h2]; exact hn
  · exact h m (by omega)
theorem occ_none {s : ByteArray} {j n : Nat} (h2 : 2 ≤ n) (hn : s.size ≤ j + n) (h : ∀ m, m < n - 2 → Lib.occAt (s.data.toList.drop (j + 2)) [42, 47] m = false) : Lib.index (s.data.toList.drop (j + 2)) [42, 47] = -1 := by
  apply Lib.index_none
  intro m _
  by_cases hmn : m < n - 2
  · exact h m hmn
  · unfold Lib.occAt
    rw [Bool.eq_false_iff]
    intro hp
    have := (List.isPrefixOf_iff_prefix.1 hp).length_le
    simp at this; omega
theorem rf_keep {s : ByteArray} {j : Nat} {l c : Int} {b : Nat} {w wx w' : World} {t : TypeId} (hk : Keeps (fun _ => False) wx w') (hH : Holds wx b (rfCells s j l c) t) (hK : Keeps (· = b) w wx) :
    w'.cell? ⟨b, 0, none⟩ = some (.string s) ∧ w'.cell? ⟨b, 1, none⟩ = some (.int .i64 j) ∧ Holds w' b (rfCells s j l c) t ∧ Keeps (· = b) w w' :=
  have h := hH.keeps hk (fun x => x)
  ⟨h.cell 0, h.cell 1, h, hK.trans hk (fun _ _ x => x.elim)⟩

set_option maxHeartbeats 8000000 in
set_option maxRecDepth 100000 in
theorem ref_skip (s : ByteArray) (i : Nat) (line col : Int) (b : Nat) (w : World) (h : Holds w b (rfCells s i line col) 59) (hi : i ≤ s.size) (hs : s.size ≤ 16000)
    (hl : 1 ≤ line) (hl' : line ≤ i + 1) (hc : 1 ≤ col) (hc' : col ≤ i + 1) :
    Calls Try.prog 30 #[.pointer (some ⟨b, 0, none⟩)] w (SkipPost s i line col b w) := by
  generalize hB : blk (s.size - i) (s.data.toList.drop i) = B
  have HB := Lib.hid hB; clear hB
  go_enter Try.func30, Try.ntmps30
  go_wp2_with fail
  go_loopg [] (s.size - i) (fun f wr => KRel s i line col b w B f wr)
  case atStart => exact ⟨i, line, col, ⟨by omega, hi, hl, hl', hc, hc', by simp [adv]⟩, by omega, by rw [HB.out]; simp, h, Keeps.refl _ _⟩
  case round =>
    obtain ⟨j, l, c, hAt, hf, hE, hH, hK⟩ := hrel
    have hAt' := hAt
    obtain ⟨hij, hj, hl1, hl2, hc1, hc2, hA⟩ := hAt'
    clear hA
    have HE := Lib.hid hE; clear hE
    obtain ⟨c0, c1, c2, c3, f0, f1, f2, f3⟩ := rf_cells hH
    have hstarts := fun t wx hh ht => ref_starts s t j l c b wx hh hj (by omega) ht
    have hstep := fun n wx hh hn => ref_step s j n l c b wx hh hn (by omega) hl1 hl2 hc1 hc2
    by_cases hlt : j < s.size
    · obtain ⟨f, rfl⟩ : ∃ f', gk = f' + 1 := ⟨gk - 1, by omega⟩
      have hD := Lib.hid (drop_cons s j hlt)
      have hamong : ∀ wx, Calls Try.prog 52 #[.int .u8 s[j].toNat, .string ⟨#[32, 9, 13, 10]⟩] wx fun e w' => e = .returned (.bool (sepB s[j].toNat)) ∧ w' = wx := fun wx => (ref_among s[j].toNat ⟨#[32, 9, 13, 10]⟩ wx (by simp [maxLen, ByteArray.size])).mono fun _ _ ⟨p, q⟩ => ⟨p, q.symm⟩
      cases hsep : sepB s[j].toNat
      · have h2s := fun wx hh => hstarts ⟨#[47, 47]⟩ wx hh (by simp [ByteArray.size])
        have h3s := fun wx hh => hstarts ⟨#[47, 42]⟩ wx hh (by simp [ByteArray.size])
        change ∀ wx hh, Calls _ _ _ _ fun e w' => e = .returned (.bool (Lib.hasPrefix (s.data.toList.drop j) [47, 47])) ∧ _ at h2s
        change ∀ wx hh, Calls _ _ _ _ fun e w' => e = .returned (.bool (Lib.hasPrefix (s.data.toList.drop j) [47, 42])) ∧ _ at h3s
        have HS := Lib.hid hsep
        rw [hsep] at hamong
        clear hsep hstarts
        cases hp : Lib.hasPrefix (s.data.toList.drop j) [47, 47]
        · rw [hp] at h2s
          have HP := Lib.hid hp; clear hp
          cases hq : Lib.hasPrefix (s.data.toList.drop j) [47, 42]
          · rw [hq] at h3s
            have hB2 := Lib.hid (show B = (j - i, false) from by rw [HE.out, hD.out, blk_none HS.out (by rw [← hD.out]; exact HP.out) (by rw [← hD.out]; exact hq)]; simp)
            clear hq
            go_wp2_with fail
            go_quiet (fail)
            go_wp2_with fail
            go_quiet ((go_at_call 52; exact (hamong _).mono fun _ _ ⟨p, q⟩ => ⟨p, _, q⟩))
            go_wp2_with fail
            refine (h2s _ (by exact hH)).mono ?_
            rintro e w1 ⟨rfl, n1, rfl⟩
            go_wp2_with fail
            refine (h3s _ (by exact hH)).mono ?_
            rintro e w1 ⟨rfl, n2, rfl⟩
            go_wp2_with fail
            go_ret
            exact skip_end hAt hB2.out HB.out hH (hK.drewN _) rfl
          · rw [hq] at h3s
            have hj2 : j + 2 ≤ s.size := by have := Lib.hasPrefix_le hq; simp at this; omega
            have HQ := Lib.hid hq; clear hq
            go_wp2_with fail
            go_quiet (fail)
            go_wp2_with fail
            go_quiet ((go_at_call 52; exact (hamong _).mono fun _ _ ⟨p, q⟩ => ⟨p, _, q⟩))
            go_wp2_with fail
            refine (h2s _ (by exact hH)).mono ?_
            rintro e w1 ⟨rfl, n1, rfl⟩
            go_wp2_with fail
            refine (h3s _ (by exact hH)).mono ?_
            rintro e w1 ⟨rfl, n2, rfl⟩
            go_wp2_with fail
            go_loopg [3] (s.size) (fun f x wr => MRel s b w j l c f x wr)
            case atStart => exact ⟨2, by omega, hj2, by omega, rfl, by intro m hm; omega, hH, hK.drewN _⟩
            case round =>
              obtain ⟨n, hn2, hjn, hfn, rfl, hno, hHn, hKn⟩ := hrel
              have HNO := Lib.hid hno; clear hno
              obtain ⟨d0, d1, d2, d3, g0, g1, g2, g3⟩ := rf_cells hHn
              by_cases hltn : j + n < s.size
              · have hends := fun wx => ref_ends s (j + n) 0 0 wx (by omega) (by omega)
                unfold rfCells at hends
                rw [show ((j + n : Nat) : Int) = (j : Int) + n from by omega] at hends
                have hd : decide ((j : Int) + n < s.size) = true := by simp; omega
                have hwr := Lib.hid (show IntKind.i64.wrap ((j : Int) + n) = (j : Int) + n from IntWalk.i64_in _ (by omega))
                have hwr2 := hwr.out
                cases he : Lib.hasPrefix (s.data.toList.drop (j + n)) [42, 47]
                · rw [he] at hends
                  have HE2 := Lib.hid he; clear he
                  go_wp2_with fail
                  go_region_held3 (fun wx => wx.cell? ⟨b, 0, none⟩ = some (.string s) ∧ wx.cell? ⟨b, 1, none⟩ = some (.int .i64 j) ∧ Holds wx b (rfCells s j l c) 59 ∧ Keeps (· = b) w wx)
                    (first
                    | exact ⟨d0, d1, hHn, hKn.drew⟩
                    | (go_split_ands; exact rf_keep (by assumption) (by assumption) (by assumption))
                    | go_keep)
                    (first
                    | (go_at_call 54; refine (hends _).mono ?_; rintro e w' ⟨rfl, hk⟩))
                  rename_i hS3
                  obtain ⟨_, _, hH3, hK3⟩ := hS3
                  clear hwr2
                  go_wp2_with fail
                  go_roundg (gk - 1)
                  case measure => omega
                  case rel => exact ⟨n + 1, by omega, by omega, by omega, by go_num, occ_more hn2 HNO.out HE2.out, hH3, hK3⟩
                · rw [he] at hends
                  have hjn2 : j + (n + 2) ≤ s.size := by have := Lib.hasPrefix_le he; simp at this; omega
                  have hB2 := Lib.hid (show B = ((blk f (s.data.toList.drop (j + (n + 2)))).1 + (n + 2) + (j - i), (blk f (s.data.toList.drop (j + (n + 2)))).2) from by
                    rw [HE.out, show n + 2 = (n - 2) + 4 from by omega, ← List.drop_drop, hD.out, blk_note HS.out (by rw [← hD.out]; exact HP.out) (by rw [← hD.out]; exact HQ.out) (n - 2) (by rw [← hD.out, List.drop_drop]; exact Lib.index_first (by simp; omega) (by rw [occ_at s j n hn2]; exact he) HNO.out)])
                  have HE2 := Lib.hid he; clear he
                  go_wp2_with fail
                  go_region_held3 (fun wx => wx.cell? ⟨b, 0, none⟩ = some (.string s) ∧ wx.cell? ⟨b, 1, none⟩ = some (.int .i64 j) ∧ Holds wx b (rfCells s j l c) 59 ∧ Keeps (· = b) w wx)
                    (first
                    | exact ⟨d0, d1, hHn, hKn.drew⟩
                    | (go_split_ands; exact rf_keep (by assumption) (by assumption) (by assumption))
                    | go_keep)
                    (first
                    | (go_at_call 54; refine (hends _).mono ?_; rintro e w' ⟨rfl, hk⟩))
                  rename_i hS3
                  obtain ⟨_, _, hH3, hK3⟩ := hS3
                  have hge : decide ((s.size : Int) ≤ (j : Int) + n) = false := by simp; omega
                  go_wp2_with fail
                  go_quiet (fail)
                  clear hwr2
                  go_wp2_with fail
                  refine (hstep (n + 2) _ (by exact hH3) hjn2).mono ?_
                  rintro e w1 ⟨rfl, hH1, hK1⟩
                  go_wp2_with fail
                  go_roundg f
                  case measure => omega
                  case rel => exact ⟨j + (n + 2), _, _, hAt.go (n + 2) hjn2, by omega, by rw [hB2.out]; congr 1; omega, hH1, (hK3.drewN _).trans hK1 (fun _ _ h => h)⟩
              · have hd : decide ((j : Int) + n < s.size) = false := by simp; omega
                have hge : decide ((s.size : Int) ≤ (j : Int) + n) = true := by simp; omega
                have hwr := Lib.hid (show IntKind.i64.wrap ((j : Int) + n) = (j : Int) + n from IntWalk.i64_in _ (by omega))
                have hB2 := Lib.hid (show B = (j - i, true) from by
                  rw [HE.out, hD.out, blk_bad HS.out (by rw [← hD.out]; exact HP.out) (by rw [← hD.out]; exact HQ.out) (by rw [← hD.out, List.drop_drop, occ_none hn2 (by omega) HNO.out]; omega)]; simp)
                have hwr2 := hwr.out
                go_wp2_with fail
                go_quiet (fail)
                go_wp2_with fail
                go_quiet (fail)
                clear hwr2
                go_wp2_with fail
                go_ret
                exact skip_end hAt hB2.out HB.out hHn ((hKn.drewN _).drewN _) rfl
        · have hrp : 1 ≤ runB notNlB (s.data.toList.drop j) := by
            have h1' := hp
            rw [hD.out] at h1'
            have e0 : s[j] = 47 := by simp [Lib.hasPrefix] at h1'; exact h1'.1.symm
            rw [hD.out, runB_cons, if_pos (by rw [e0]; decide)]; omega
          have hB2 := Lib.hid (show B = ((blk f (s.data.toList.drop (j + runB notNlB (s.data.toList.drop j)))).1 + runB notNlB (s.data.toList.drop j) + (j - i), (blk f (s.data.toList.drop (j + runB notNlB (s.data.toList.drop j)))).2) from by
            have h1' := hp
            rw [hD.out] at h1'
            rw [HE.out, ← List.drop_drop, hD.out, blk_line HS.out h1'])
          rw [hp] at h2s
          clear hp
          generalize hM : runB notNlB (s.data.toList.drop j) = M at hrp hB2
          have HM := Lib.hid hM; clear hM
          go_wp2_with fail
          go_quiet (fail)
          go_wp2_with fail
          go_quiet ((go_at_call 52; exact (hamong _).mono fun _ _ ⟨p, q⟩ => ⟨p, _, q⟩))
          go_wp2_with fail
          refine (h2s _ (by exact hH)).mono ?_
          rintro e w1 ⟨rfl, n1, rfl⟩
          go_wp2_with fail
          go_loopg [] (s.size) (fun f wr => LRel s i line col b w j f wr)
          case atStart => exact ⟨j, l, c, hAt, by omega, by omega, by omega, hH, hK.drewN _⟩
          case round =>
            obtain ⟨j', l', c', hAt2, hjj, hf2, hR, hH2, hK2⟩ := hrel
            have hAt2' := hAt2
            obtain ⟨ij2, hj2, l1, l2, k1, k2, hA2⟩ := hAt2'
            clear hA2
            have HR := Lib.hid hR; clear hR
            obtain ⟨d0, d1, d2, d3, g0, g1, g2, g3⟩ := rf_cells hH2
            have hstep2 := fun wx hh hn => ref_step s j' 1 l' c' b wx hh hn (by omega) l1 l2 k1 k2
            by_cases hlt2 : j' < s.size
            · have hd : decide ((j' : Int) < s.size) = true := by simp; omega
              have hD2 := Lib.hid (drop_cons s j' hlt2)
              by_cases h10 : s[j'].toNat = 10
              · have h10' : ((s[j'].toNat : Int) != 10) = false := by simp [h10]
                have hM2 := Lib.hid (show M = j' - j from by rw [← HM.out, HR.out, hD2.out, runB_cons, if_neg (by simp [notNlB, h10])]; omega)
                clear h10
                go_wp2_with fail
                go_quiet (fail)
                go_wp2_with fail
                go_roundg f
                case measure => omega
                case rel => exact ⟨j', l', c', hAt2, by have := hM2.out; omega, by have := hM2.out; rw [hB2.out, this, show j + (j' - j) = j' from by omega]; congr 1; omega, hH2, hK2.drewN _⟩
              · have h10' : ((s[j'].toNat : Int) != 10) = true := by simp; omega
                have hR2 := Lib.hid (show runB notNlB (s.data.toList.drop j) = runB notNlB (s.data.toList.drop (j' + 1)) + (j' + 1 - j) from by rw [HR.out, hD2.out, runB_cons, if_pos (by simp [notNlB]; omega)]; omega)
                clear h10
                go_wp2_with fail
                go_quiet (fail)
                go_wp2_with fail
                refine (hstep2 _ (by exact hH2) (by omega)).mono ?_
                rintro e w1 ⟨rfl, hH3, hK3⟩
                go_wp2_with fail
                go_roundg (gk - 1)
                case measure => omega
                case rel => exact ⟨j' + 1, _, _, hAt2.go 1 (by omega), by omega, by omega, hR2.out, hH3, (hK2.drewN _).trans hK3 (fun _ _ h => h)⟩
            · have hd : decide ((j' : Int) < s.size) = false := by simp; omega
              have hM2 := Lib.hid (show M = j' - j from by rw [← HM.out, HR.out, drop_end s j' (by omega)]; simp [runB])
              go_wp2_with fail
              go_quiet (fail)
              go_wp2_with fail
              go_roundg f
              case measure => omega
              case rel => exact ⟨j', l', c', hAt2, by have := hM2.out; omega, by have := hM2.out; rw [hB2.out, this, show j + (j' - j) = j' from by omega]; congr 1; omega, hH2, hK2.drewN _⟩
      · have hB2 := Lib.hid (show B = ((blk f (s.data.toList.drop (j + 1))).1 + 1 + (j - i), (blk f (s.data.toList.drop (j + 1))).2) from by rw [HE.out, hD.out, blk_sep hsep])
        rw [hsep] at hamong
        clear hsep hstarts
        go_wp2_with fail
        go_quiet (fail)
        go_wp2_with fail
        go_quiet ((go_at_call 52; exact (hamong _).mono fun _ _ ⟨p, q⟩ => ⟨p, _, q⟩))
        go_wp2_with fail
        refine (hstep 1 _ (by exact hH) (by omega)).mono ?_
        rintro e w1 ⟨rfl, hH1, hK1⟩
        go_wp2_with fail
        go_roundg f
        case measure => omega
        case rel => exact ⟨j + 1, _, _, hAt.go 1 (by omega), by omega, by rw [hB2.out]; congr 1; omega, hH1, (hK.drewN _).trans hK1 (fun _ _ h => h)⟩
    · have hB2 := Lib.hid (show B = (j - i, false) from by rw [HE.out, drop_end s j (by omega)]; cases gk <;> simp [blk])
      go_wp2_with fail
      go_quiet (fail)
      go_wp2_with fail
      go_ret
      exact skip_end hAt hB2.out HB.out hH (hK.drewN _) rfl
end Go.Proofs.Ytdigoicdgeebhaa
