/- The contract of blanks of token. -/
import Derived.Test.YtofhcgbihonckaaGreatZ8
import Derived.Test.YtofhcgbihonckaaGreatZ11
import Derived.Test.YtofhcgbihonckaaGreatZ5
import Derived.Test.YtofhcgbihonckaaGreatZ1
import Derived.Deep.LoopGhost

set_option linter.unusedVariables false
set_option linter.unusedSimpArgs false
set_option linter.unusedSectionVars false

namespace Go.Proofs.YtofhcgbihonckaaGreat
open Go.RowKit

theorem rd_ne0 {w : World} {b : Nat} {s : ByteArray} {i : Nat} {file line col : Int} {t : TypeId} (h : Holds w b (rdCells s i file line col) t) (h0 : Lay0 w) : b ≠ 0 := by
  rintro rfl
  obtain ⟨m, h0⟩ := h0
  have := (h.cell 0).symm.trans h0
  simp [rdCells] at this

/-- What blanks leaves. -/
def BlankPost (s : ByteArray) (i : Nat) (file line col : Int) (b : Nat) (w : World) (e : Ending) (w' : World) : Prop :=
  e = .returned (.int .i64 (if (blk (s.size - i) (s.data.toList.drop i)).2 = true then 21 else 0)) ∧
  Holds w' b (rdCells s (i + (blk (s.size - i) (s.data.toList.drop i)).1) file (adv ((s.data.toList.drop i).take (blk (s.size - i) (s.data.toList.drop i)).1) (line, col)).1 (adv ((s.data.toList.drop i).take (blk (s.size - i) (s.data.toList.drop i)).1) (line, col)).2) 98 ∧ Keeps (· = b) w w'

theorem blk_room (s : ByteArray) (i f : Nat) (hi : i ≤ s.size) : i + (blk f (s.data.toList.drop i)).1 ≤ s.size := by
  have := blk_le f (s.data.toList.drop i)
  simp at this; omega

theorem adv_more (l : List UInt8) (i j n : Nat) (h : i ≤ j) (p : Int × Int) : adv ((l.drop j).take n) (adv ((l.drop i).take (j - i)) p) = adv ((l.drop i).take (j + n - i)) p := by
  rw [← adv_append]
  congr 1
  rw [show j + n - i = (j - i) + n from by omega, List.take_add, List.drop_drop, show i + (j - i) = j from by omega]

theorem rest_hd (s : ByteArray) (j : Nat) (h : j < s.size) : (s.extract j s.size).data.toList.headD 0 = s[j] := by
  rw [drop_toList, drop_cons s j h]; rfl

/-- The loop's relation: f bounds the rounds to come. -/
def BRel (s : ByteArray) (i : Nat) (file line col : Int) (b : Nat) (w : World) (B : Nat × Bool) (f : Nat) (wr : World) : Prop :=
  ∃ j : Nat, ∃ l c : Int, i ≤ j ∧ j ≤ s.size ∧ s.size ≤ j + f ∧ 1 ≤ l ∧ l ≤ j + 1 ∧ 1 ≤ c ∧ c ≤ j + 1 ∧ B = ((blk f (s.data.toList.drop j)).1 + (j - i), (blk f (s.data.toList.drop j)).2) ∧
    (l, c) = adv ((s.data.toList.drop i).take (j - i)) (line, col) ∧ Holds wr b (rdCells s j file l c) 98 ∧ Keeps (· = b) w wr

theorem brel_step {s : ByteArray} {i : Nat} {file line col : Int} {b : Nat} {w w2 : World} {B : Nat × Bool} {f j n : Nat} {l c : Int} (hij : i ≤ j) (hjn : j + n ≤ s.size) (hf : s.size ≤ j + n + f) (hl1 : 1 ≤ l) (hl2 : l ≤ j + 1) (hc1 : 1 ≤ c) (hc2 : c ≤ j + 1)
    (hA : (l, c) = adv ((s.data.toList.drop i).take (j - i)) (line, col)) (hB : B = ((blk f (s.data.toList.drop (j + n))).1 + n + (j - i), (blk f (s.data.toList.drop (j + n))).2))
    (hH : Holds w2 b (rdCells s (j + n) file (adv ((s.data.toList.drop j).take n) (l, c)).1 (adv ((s.data.toList.drop j).take n) (l, c)).2) 98) (hK : Keeps (· = b) w w2) : BRel s i file line col b w B f w2 := by
  have hbd := adv_bd ((s.data.toList.drop j).take n) (l, c) hl1 hc1
  have hln : ((s.data.toList.drop j).take n).length ≤ n := by simp; omega
  refine ⟨j + n, _, _, by omega, hjn, hf, hbd.1, by simp at hbd; omega, hbd.2.1, by simp at hbd; omega, ?_, ?_, hH, hK⟩
  · rw [hB]; congr 1; omega
  · rw [hA, adv_more _ i j n hij]

theorem blank_end {s : ByteArray} {i : Nat} {file line col : Int} {b : Nat} {w w2 : World} {B : Nat × Bool} {j : Nat} {l c : Int} {x : Bool} {e : Ending} (hij : i ≤ j)
    (hA : (l, c) = adv ((s.data.toList.drop i).take (j - i)) (line, col)) (hB : B = (j - i, x)) (HB : blk (s.size - i) (s.data.toList.drop i) = B)
    (hH : Holds w2 b (rdCells s j file l c) 98) (hK : Keeps (· = b) w w2) (he : e = .returned (.int .i64 (if x = true then 21 else 0))) : BlankPost s i file line col b w e w2 := by
  unfold BlankPost
  rw [HB, hB]
  refine ⟨he, ?_, hK⟩
  simp only
  rw [← hA, show i + (j - i) = j from by omega]
  exact hH

theorem blk_sep {f : Nat} {c : UInt8} {r : List UInt8} (h : sepB c.toNat = true) : blk (f + 1) (c :: r) = ((blk f r).1 + 1, (blk f r).2) := by simp [blk, h]
theorem blk_line {f : Nat} {c : UInt8} {r : List UInt8} (h : sepB c.toNat = false) (h2 : Lib.hasPrefix (c :: r) [47, 47] = true) : blk (f + 1) (c :: r) = ((blk f ((c :: r).drop (runB notNlB (c :: r)))).1 + runB notNlB (c :: r), (blk f ((c :: r).drop (runB notNlB (c :: r)))).2) := by
  simp only [blk]; rw [if_neg (by simp [h]), if_pos h2]
theorem blk_bad {f : Nat} {c : UInt8} {r : List UInt8} (h : sepB c.toNat = false) (h2 : Lib.hasPrefix (c :: r) [47, 47] = false) (h3 : Lib.hasPrefix (c :: r) [47, 42] = true) (h4 : Lib.index ((c :: r).drop 2) [42, 47] < 0) : blk (f + 1) (c :: r) = (0, true) := by
  simp only [blk]; rw [if_neg (by simp [h]), if_neg (by simp [h2]), if_pos h3, if_pos h4]
theorem blk_note {f : Nat} {c : UInt8} {r : List UInt8} (h : sepB c.toNat = false) (h2 : Lib.hasPrefix (c :: r) [47, 47] = false) (h3 : Lib.hasPrefix (c :: r) [47, 42] = true) (n : Nat) (h4 : Lib.index ((c :: r).drop 2) [42, 47] = n) : blk (f + 1) (c :: r) = ((blk f ((c :: r).drop (n + 4))).1 + (n + 4), (blk f ((c :: r).drop (n + 4))).2) := by
  simp only [blk]; rw [if_neg (by simp [h]), if_neg (by simp [h2]), if_pos h3, if_neg (by omega), h4]; rfl
theorem blk_none {f : Nat} {c : UInt8} {r : List UInt8} (h : sepB c.toNat = false) (h2 : Lib.hasPrefix (c :: r) [47, 47] = false) (h3 : Lib.hasPrefix (c :: r) [47, 42] = false) : blk (f + 1) (c :: r) = (0, false) := by
  simp only [blk]; rw [if_neg (by simp [h]), if_neg (by simp [h2]), if_neg (by simp [h3])]

set_option maxHeartbeats 4000000 in
theorem token_blanks (s : ByteArray) (i : Nat) (file line col : Int) (b : Nat) (w : World) (h : Holds w b (rdCells s i file line col) 98) (hi : i ≤ s.size) (hs : s.size ≤ 16000)
    (hl : 1 ≤ line) (hl' : line ≤ i + 1) (hc : 1 ≤ col) (hc' : col ≤ i + 1) (h0 : Lay0 w) :
    Calls Tryz.prog 48 #[.pointer (some ⟨b, 0, none⟩)] w (BlankPost s i file line col b w) := by
  have hb0 := rd_ne0 h h0
  generalize hB : blk (s.size - i) (s.data.toList.drop i) = B
  have HB := Lib.hid hB; clear hB
  go_enter Tryz.func48, Tryz.ntmps48
  go_wp2_with fail
  go_loopg [] (s.size - i) (fun f wr => BRel s i file line col b w B f wr)
  case atStart => exact ⟨i, line, col, by omega, hi, by omega, hl, hl', hc, hc', by rw [HB.out]; simp, by simp [adv], h, Keeps.refl _ _⟩
  case round =>
    obtain ⟨j, l, c, hij, hj, hf, hl1, hl2, hc1, hc2, hE, hA, hH, hK⟩ := hrel
    have HE := Lib.hid hE; clear hE
    have HA := Lib.hid hA; clear hA
    have hrest := fun wx hh => token_rest s j file l c b wx hh hj (by unfold maxLen; omega)
    have hskip := fun n hn wx hh => token_skip s j n file l c b wx hh hn (by omega) hl1 hl2 hc1 hc2
    by_cases hlt : j < s.size
    · have hr1 : (s.extract j s.size).size = s.size - j := by simp
      have hr2 := drop_toList s j
      obtain ⟨m, hm⟩ := h0.keeps hK (fun e => hb0 e.symm)
      generalize s.extract j s.size = r at hrest hr1 hr2
      have hr3 : 0 < r.size := by omega
      have hr4 : r.size ≤ 16000 := by omega
      have hD := Lib.hid ((List.drop_zero (l := r.data.toList)).symm.trans (drop_cons r 0 hr3))
      have HR2 := Lib.hid hr2; clear hr2
      have HR1 := Lib.hid hr1; clear hr1
      have HRE := Lib.hid hrest; clear hrest
      have HSK := Lib.hid hskip; clear hskip
      obtain ⟨f, rfl⟩ : ∃ f', gk = f' + 1 := ⟨gk - 1, by omega⟩
      have hne := toList_ne r hr3
      have hne2 := toList_isEmpty r hr3
      have hK2 : Hid (∀ nd, Keeps (· = b) w (wr.drewN nd)) := fun nd => hK.drewN nd
      by_cases hsep : sepB r[0].toNat = true
      · have hB2 := Lib.hid (show B = ((blk f (s.data.toList.drop (j + 1))).1 + 1 + (j - i), (blk f (s.data.toList.drop (j + 1))).2) from by rw [HE.out, ← HR2.out, hD.out, blk_sep hsep, show r.data.toList.drop (0 + 1) = s.data.toList.drop (j + 1) from by rw [HR2.out, List.drop_drop]])
        have hx : 0 ≤ Lib.indexByte [32, 9, 13, 10] r[0] := by have := idx_byte [32, 9, 13, 10] r[0]; unfold sepB at hsep; rw [hsep] at this; simpa using this
        clear hsep
        go_wp2_with fail
        refine (HRE.out _ hH).mono ?_
        rintro e w1 ⟨rfl, nd, rfl⟩
        go_wp2_with (go_at_call 79; refine (Tryz.strings_IndexByte _ _ _).mono ?_; rintro e w' ⟨rfl, rfl⟩)
        refine (HSK.out 1 (by omega) _ (hH.drewN nd)).mono ?_
        rintro e w1 ⟨rfl, hH1, hK1⟩
        go_wp2_with fail
        go_roundg f
        case measure => omega
        case rel => exact brel_step hij (by omega) (by omega) hl1 hl2 hc1 hc2 HA.out hB2.out hH1 ((hK2.out nd).trans hK1 (fun _ _ h => h))
      · have hsep : sepB r[0].toNat = false := by simpa using hsep
        have hx : Lib.indexByte [32, 9, 13, 10] r[0] < 0 := by have := idx_byte [32, 9, 13, 10] r[0]; unfold sepB at hsep; rw [hsep] at this; simpa using this
        have HS := Lib.hid hsep; clear hsep
        by_cases h1 : Lib.hasPrefix r.data.toList [47, 47] = true
        · have hB2 := Lib.hid (show B = ((blk f (s.data.toList.drop (j + runB notNlB r.data.toList))).1 + runB notNlB r.data.toList + (j - i), (blk f (s.data.toList.drop (j + runB notNlB r.data.toList))).2) from by
            have h1' := h1
            rw [hD.out] at h1'
            rw [HE.out, ← List.drop_drop, ← HR2.out, hD.out, blk_line HS.out h1'])
          have hrun := fun wx => token_run r 0 82 notNlB wx tells_notNl enters_notNl (by unfold maxLen; omega) (by omega)
          rw [List.drop_zero] at hrun
          have hrl := runB_le notNlB r.data.toList
          have hrp : 1 ≤ runB notNlB r.data.toList := by
            have h1' := h1
            rw [hD.out] at h1'
            have e0 : r[0] = 47 := by simp [Lib.hasPrefix] at h1'; exact h1'.1.symm
            rw [hD.out, runB_cons, if_pos (by rw [e0]; decide)]; omega
          generalize runB notNlB r.data.toList = n at hB2 hrun hrl hrp
          have hrl2 : j + n ≤ s.size := by have := HR1.out; simp at hrl; omega
          have HU := Lib.hid hrun; clear hrun hrl
          go_wp2_with fail
          refine (HRE.out _ hH).mono ?_
          rintro e w1 ⟨rfl, nd, rfl⟩
          go_wp2_with (first | (go_at_call 79; refine (Tryz.strings_IndexByte _ _ _).mono ?_; rintro e w' ⟨rfl, rfl⟩) | (go_at_call 80; refine (Tryz.strings_HasPrefix _ _ _).mono ?_; rintro e w' ⟨rfl, rfl⟩) | (go_at_call 81; refine (HU.out _).mono ?_; rintro e w' ⟨rfl, rfl⟩))
          refine (HSK.out n (by omega) _ (hH.drewN nd)).mono ?_
          rintro e w1 ⟨rfl, hH1, hK1⟩
          go_wp2_with fail
          go_roundg f
          case measure => omega
          case rel => exact brel_step hij (by omega) (by omega) hl1 hl2 hc1 hc2 HA.out hB2.out hH1 ((hK2.out nd).trans hK1 (fun _ _ h => h))
        · have h1 : Lib.hasPrefix r.data.toList [47, 47] = false := by simpa using h1
          have h1' := Lib.hid (show Lib.hasPrefix (r[0] :: r.data.toList.drop (0 + 1)) [47, 47] = false from by rw [← hD.out]; exact h1)
          by_cases h2 : Lib.hasPrefix r.data.toList [47, 42] = true
          · have h2' := Lib.hid (show Lib.hasPrefix (r[0] :: r.data.toList.drop (0 + 1)) [47, 42] = true from by rw [← hD.out]; exact h2)
            have h2s : 2 ≤ r.size := by have := Lib.hasPrefix_le h2; simpa using this
            have hidx := fun wx hm => Tryz.strings_Index (r.extract 2 r.size) ⟨#[42, 47]⟩ m wx (by simp; omega) hm
            rw [drop_toList] at hidx
            have hge := Lib.index_ge (r.data.toList.drop 2) [42, 47]
            have hro := Lib.index_room (r.data.toList.drop 2) [42, 47]
            have HX : Hid (∀ x, Lib.index (r.data.toList.drop 2) [42, 47] = x → Lib.index ((r[0] :: r.data.toList.drop (0 + 1)).drop 2) [42, 47] = x) := by intro x hx; rw [← hD.out]; exact hx
            change ∀ wx hm, Calls _ _ _ _ fun e w' => e = .returned (.int .i64 (Lib.index (r.data.toList.drop 2) [42, 47])) ∧ _ at hidx
            generalize hxi : Lib.index (r.data.toList.drop 2) [42, 47] = xi at hidx hge hro
            have HXI := Lib.hid hxi; clear hxi
            have HIX := Lib.hid hidx; clear hidx
            by_cases hneg : xi < 0
            · have hB2 := Lib.hid (show B = (j - i, true) from by rw [HE.out, ← HR2.out, hD.out, blk_bad HS.out h1'.out h2'.out (by rw [HX.out _ HXI.out]; exact hneg)]; simp)
              clear hro
              go_wp2_with fail
              refine (HRE.out _ hH).mono ?_
              rintro e w1 ⟨rfl, nd, rfl⟩
              go_wp2_with (first | (go_at_call 79; refine (Tryz.strings_IndexByte _ _ _).mono ?_; rintro e w' ⟨rfl, rfl⟩) | (go_at_call 80; refine (Tryz.strings_HasPrefix _ _ _).mono ?_; rintro e w' ⟨rfl, rfl⟩) | (go_at_call 83; refine (HIX.out _ (by exact hm)).mono ?_; rintro e w' ⟨rfl, rfl⟩))
              go_ret
              exact blank_end hij HA.out hB2.out HB.out (hH.drewN nd) (hK2.out nd) rfl
            · obtain ⟨n, rfl⟩ : ∃ n : Nat, xi = n := ⟨xi.toNat, by omega⟩
              have hB2 := Lib.hid (show B = ((blk f (s.data.toList.drop (j + (n + 4)))).1 + (n + 4) + (j - i), (blk f (s.data.toList.drop (j + (n + 4)))).2) from by
                rw [HE.out, ← List.drop_drop, ← HR2.out, hD.out, blk_note HS.out h1'.out h2'.out n (HX.out _ HXI.out)])
              have hjn : j + (n + 4) ≤ s.size := by have q := hro (by omega); have q2 := HR1.out; simp at q; omega
              clear hro
              go_wp2_with fail
              refine (HRE.out _ hH).mono ?_
              rintro e w1 ⟨rfl, nd, rfl⟩
              go_wp2_with (first | (go_at_call 79; refine (Tryz.strings_IndexByte _ _ _).mono ?_; rintro e w' ⟨rfl, rfl⟩) | (go_at_call 80; refine (Tryz.strings_HasPrefix _ _ _).mono ?_; rintro e w' ⟨rfl, rfl⟩) | (go_at_call 83; refine (HIX.out _ (by exact hm)).mono ?_; rintro e w' ⟨rfl, rfl⟩))
              refine (HSK.out (n + 4) (by omega) _ (hH.drewN nd)).mono ?_
              rintro e w1 ⟨rfl, hH1, hK1⟩
              go_wp2_with fail
              go_roundg f
              case measure => omega
              case rel => exact brel_step hij (by omega) (by omega) hl1 hl2 hc1 hc2 HA.out hB2.out hH1 ((hK2.out nd).trans hK1 (fun _ _ h => h))
          · have h2 : Lib.hasPrefix r.data.toList [47, 42] = false := by simpa using h2
            have hB2 := Lib.hid (show B = (j - i, false) from by rw [HE.out, ← HR2.out, hD.out, blk_none HS.out h1'.out (by rw [← hD.out]; exact h2)]; simp)
            go_wp2_with fail
            refine (HRE.out _ hH).mono ?_
            rintro e w1 ⟨rfl, nd, rfl⟩
            go_wp2_with (first | (go_at_call 79; refine (Tryz.strings_IndexByte _ _ _).mono ?_; rintro e w' ⟨rfl, rfl⟩) | (go_at_call 80; refine (Tryz.strings_HasPrefix _ _ _).mono ?_; rintro e w' ⟨rfl, rfl⟩))
            go_ret
            exact blank_end hij HA.out hB2.out HB.out (hH.drewN nd) (hK2.out nd) rfl
    · obtain rfl : j = s.size := by omega
      have hB2 := Lib.hid (show B = (s.size - i, false) from by rw [HE.out, drop_end s s.size (Nat.le_refl _)]; cases gk <;> simp [blk])
      have he : s.extract s.size s.size = ByteArray.empty := empty_of _ (by simp)
      rw [he] at hrest
      have HRE := Lib.hid hrest; clear hrest hskip he
      have hK2 : Hid (∀ nd, Keeps (· = b) w (wr.drewN nd)) := fun nd => hK.drewN nd
      go_wp2_with fail
      refine (HRE.out _ hH).mono ?_
      rintro e w1 ⟨rfl, nd, rfl⟩
      go_wp2_with fail
      go_ret
      exact blank_end hij HA.out hB2.out HB.out (hH.drewN nd) (hK2.out nd) rfl
end Go.Proofs.YtofhcgbihonckaaGreat
