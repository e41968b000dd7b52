/- The contract of blanks of token. | Contracts of the reference of token: run, slashed. | Contracts of the reference of token: escape. -/
import Derived.Test.YtiojnbhomjkkgaaGreatDoorZ5
import Derived.Test.YtiojnbhomjkkgaaGreatDoorZ7
import Derived.Test.YtiojnbhomjkkgaaGreatDoorZ8
import Derived.Test.YtiojnbhomjkkgaaGreatDoorZ1
import Derived.Deep.LoopGhost

set_option linter.unusedVariables false
set_option linter.unusedSimpArgs false
set_option linter.unusedSectionVars false

namespace Go.Proofs.YtiojnbhomjkkgaaGreatDoor
open Go.RowKit

theorem rd_ne0 {w : World} {b : Nat} {s : ByteArray} {i : Nat} {file line col : Int} {t : TypeId} (h : Holds w b (rdCells s i file line col) t) (h0 : Lay0 w) : b ≠ 1 := by
  rintro rfl
  obtain ⟨m, h0⟩ := h0
  have := (h.cell 0).symm.trans h0
  simp [rdCells] at this

/-- What blanks leaves. -/
def BlankPost (s : ByteArray) (i : Nat) (file line col : Int) (b : Nat) (w : World) (e : Ending) (w' : World) : Prop :=
  e = .returned (.int .i64 (if (blk (s.size - i) (s.data.toList.drop i)).2 = true then 21 else 0)) ∧
  Holds w' b (rdCells s (i + (blk (s.size - i) (s.data.toList.drop i)).1) file (adv ((s.data.toList.drop i).take (blk (s.size - i) (s.data.toList.drop i)).1) (line, col)).1 (adv ((s.data.toList.drop i).take (blk (s.size - i) (s.data.toList.drop i)).1) (line, col)).2) 119 ∧ Keeps (· = b) w w'

theorem blk_room (s : ByteArray) (i f : Nat) (hi : i ≤ s.size) : i + (blk f (s.data.toList.drop i)).1 ≤ s.size := by
  have := blk_le f (s.data.toList.drop i)
  simp at this; omega

theorem adv_more (l : List UInt8) (i j n : Nat) (h : i ≤ j) (p : Int × Int) : adv ((l.drop j).take n) (adv ((l.drop i).take (j - i)) p) = adv ((l.drop i).take (j + n - i)) p := by
  rw [← adv_append]
  congr 1
  rw [show j + n - i = (j - i) + n from by omega, List.take_add, List.drop_drop, show i + (j - i) = j from by omega]

theorem rest_hd (s : ByteArray) (j : Nat) (h : j < s.size) : (s.extract j s.size).data.toList.headD 0 = s[j] := by
  rw [drop_toList, drop_cons s j h]; rfl

/-- The loop's relation: f bounds the rounds to come. -/
def BRel (s : ByteArray) (i : Nat) (file line col : Int) (b : Nat) (w : World) (B : Nat × Bool) (f : Nat) (wr : World) : Prop :=
  ∃ j : Nat, ∃ l c : Int, i ≤ j ∧ j ≤ s.size ∧ s.size ≤ j + f ∧ 1 ≤ l ∧ l ≤ j + 1 ∧ 1 ≤ c ∧ c ≤ j + 1 ∧ B = ((blk f (s.data.toList.drop j)).1 + (j - i), (blk f (s.data.toList.drop j)).2) ∧
    (l, c) = adv ((s.data.toList.drop i).take (j - i)) (line, col) ∧ Holds wr b (rdCells s j file l c) 119 ∧ Keeps (· = b) w wr

theorem brel_step {s : ByteArray} {i : Nat} {file line col : Int} {b : Nat} {w w2 : World} {B : Nat × Bool} {f j n : Nat} {l c : Int} (hij : i ≤ j) (hjn : j + n ≤ s.size) (hf : s.size ≤ j + n + f) (hl1 : 1 ≤ l) (hl2 : l ≤ j + 1) (hc1 : 1 ≤ c) (hc2 : c ≤ j + 1)
    (hA : (l, c) = adv ((s.data.toList.drop i).take (j - i)) (line, col)) (hB : B = ((blk f (s.data.toList.drop (j + n))).1 + n + (j - i), (blk f (s.data.toList.drop (j + n))).2))
    (hH : Holds w2 b (rdCells s (j + n) file (adv ((s.data.toList.drop j).take n) (l, c)).1 (adv ((s.data.toList.drop j).take n) (l, c)).2) 119) (hK : Keeps (· = b) w w2) : BRel s i file line col b w B f w2 := by
  have hbd := adv_bd ((s.data.toList.drop j).take n) (l, c) hl1 hc1
  have hln : ((s.data.toList.drop j).take n).length ≤ n := by simp; omega
  refine ⟨j + n, _, _, by omega, hjn, hf, hbd.1, by simp at hbd; omega, hbd.2.1, by simp at hbd; omega, ?_, ?_, hH, hK⟩
  · rw [hB]; congr 1; omega
  · rw [hA, adv_more _ i j n hij]

theorem blank_end {s : ByteArray} {i : Nat} {file line col : Int} {b : Nat} {w w2 : World} {B : Nat × Bool} {j : Nat} {l c : Int} {x : Bool} {e : Ending} (hij : i ≤ j)
    (hA : (l, c) = adv ((s.data.toList.drop i).take (j - i)) (line, col)) (hB : B = (j - i, x)) (HB : blk (s.size - i) (s.data.toList.drop i) = B)
    (hH : Holds w2 b (rdCells s j file l c) 119) (hK : Keeps (· = b) w w2) (he : e = .returned (.int .i64 (if x = true then 21 else 0))) : BlankPost s i file line col b w e w2 := by
  unfold BlankPost
  rw [HB, hB]
  refine ⟨he, ?_, hK⟩
  simp only
  rw [← hA, show i + (j - i) = j from by omega]
  exact hH

theorem blk_sep {f : Nat} {c : UInt8} {r : List UInt8} (h : sepB c.toNat = true) : blk (f + 1) (c :: r) = ((blk f r).1 + 1, (blk f r).2) := by simp [blk, h]
theorem blk_line {f : Nat} {c : UInt8} {r : List UInt8} (h : sepB c.toNat = false) (h2 : Lib.hasPrefix (c :: r) [47, 47] = true) : blk (f + 1) (c :: r) = ((blk f ((c :: r).drop (runB notNlB (c :: r)))).1 + runB notNlB (c :: r), (blk f ((c :: r).drop (runB notNlB (c :: r)))).2) := by
  simp only [blk]; rw [if_neg (by simp [h]), if_pos h2]
theorem blk_bad {f : Nat} {c : UInt8} {r : List UInt8} (h : sepB c.toNat = false) (h2 : Lib.hasPrefix (c :: r) [47, 47] = false) (h3 : Lib.hasPrefix (c :: r) [47, 42] = true) (h4 : Lib.index ((c :: r).drop 2) [42, 47] < 0) : blk (f + 1) (c :: r) = (0, true) := by
  simp only [blk]; rw [if_neg (by simp [h]), if_neg (by simp [h2]), if_pos h3, if_pos h4]
theorem blk_note {f : Nat} {c : UInt8} {r : List UInt8} (h : sepB c.toNat = false) (h2 : Lib.hasPrefix (c :: r) [47, 47] = false) (h3 : Lib.hasPrefix (c :: r) [47, 42] = true) (n : Nat) (h4 : Lib.index ((c :: r).drop 2) [42, 47] = n) : blk (f + 1) (c :: r) = ((blk f ((c :: r).drop (n + 4))).1 + (n + 4), (blk f ((c :: r).drop (n + 4))).2) := by
  simp only [blk]; rw [if_neg (by simp [h]), if_neg (by simp [h2]), if_pos h3, if_neg (by omega), h4]; rfl
theorem blk_none {f : Nat} {c : UInt8} {r : List UInt8} (h : sepB c.toNat = false) (h2 : Lib.hasPrefix (c :: r) [47, 47] = false) (h3 : Lib.hasPrefix (c :: r) [47, 42] = false) : blk (f + 1) (c :: r) = (0, false) := by
  simp only [blk]; rw [if_neg (by simp [h]), if_neg (by simp [h2]), if_neg (by simp [h3])]

set_option maxHeartbeats 4000000 in
theorem token_blanks (s : ByteArray) (i : Nat) (file line col : Int) (b : Nat) (w : World) (h : Holds w b (rdCells s i file line col) 119) (hi : i ≤ s.size) (hs : s.size ≤ 16000)
    (hl : 1 ≤ line) (hl' : line ≤ i + 1) (hc : 1 ≤ col) (hc' : col ≤ i + 1) (h0 : Lay0 w) :
    Calls Tryz.prog 75 #[.pointer (some ⟨b, 0, none⟩)] w (BlankPost s i file line col b w) := by
  have hb0 := rd_ne0 h h0
  generalize hB : blk (s.size - i) (s.data.toList.drop i) = B
  have HB := Lib.hid hB; clear hB
  go_enter Tryz.func75, Tryz.ntmps75
  go_wp2_with fail
  go_loopg [] (s.size - i) (fun f wr => BRel s i file line col b w B f wr)
  case atStart => exact ⟨i, line, col, by omega, hi, by omega, hl, hl', hc, hc', by rw [HB.out]; simp, by simp [adv], h, Keeps.refl _ _⟩
  case round =>
    obtain ⟨j, l, c, hij, hj, hf, hl1, hl2, hc1, hc2, hE, hA, hH, hK⟩ := hrel
    have HE := Lib.hid hE; clear hE
    have HA := Lib.hid hA; clear hA
    have hrest := fun wx hh => token_rest s j file l c b wx hh hj (by unfold maxLen; omega)
    have hskip := fun n hn wx hh => token_skip s j n file l c b wx hh hn (by omega) hl1 hl2 hc1 hc2
    by_cases hlt : j < s.size
    · have hr1 : (s.extract j s.size).size = s.size - j := by simp
      have hr2 := drop_toList s j
      obtain ⟨m, hm⟩ := h0.keeps hK (fun e => hb0 e.symm)
      generalize s.extract j s.size = r at hrest hr1 hr2
      have hr3 : 0 < r.size := by omega
      have hr4 : r.size ≤ 16000 := by omega
      have hD := Lib.hid ((List.drop_zero (l := r.data.toList)).symm.trans (drop_cons r 0 hr3))
      have HR2 := Lib.hid hr2; clear hr2
      have HR1 := Lib.hid hr1; clear hr1
      have HRE := Lib.hid hrest; clear hrest
      have HSK := Lib.hid hskip; clear hskip
      obtain ⟨f, rfl⟩ : ∃ f', gk = f' + 1 := ⟨gk - 1, by omega⟩
      have hne := toList_ne r hr3
      have hne2 := toList_isEmpty r hr3
      have hK2 : Hid (∀ nd, Keeps (· = b) w (wr.drewN nd)) := fun nd => hK.drewN nd
      by_cases hsep : sepB r[0].toNat = true
      · have hB2 := Lib.hid (show B = ((blk f (s.data.toList.drop (j + 1))).1 + 1 + (j - i), (blk f (s.data.toList.drop (j + 1))).2) from by rw [HE.out, ← HR2.out, hD.out, blk_sep hsep, show r.data.toList.drop (0 + 1) = s.data.toList.drop (j + 1) from by rw [HR2.out, List.drop_drop]])
        have hx : 0 ≤ Lib.indexByte [32, 9, 13, 10] r[0] := by have := idx_byte [32, 9, 13, 10] r[0]; unfold sepB at hsep; rw [hsep] at this; simpa using this
        clear hsep
        go_wp2_with fail
        refine (HRE.out _ hH).mono ?_
        rintro e w1 ⟨rfl, nd, rfl⟩
        go_wp2_with (go_at_call 133; refine (Tryz.strings_IndexByte _ _ _).mono ?_; rintro e w' ⟨rfl, rfl⟩)
        refine (HSK.out 1 (by omega) _ (hH.drewN nd)).mono ?_
        rintro e w1 ⟨rfl, hH1, hK1⟩
        go_wp2_with fail
        go_roundg f
        case measure => omega
        case rel => exact brel_step hij (by omega) (by omega) hl1 hl2 hc1 hc2 HA.out hB2.out hH1 ((hK2.out nd).trans hK1 (fun _ _ h => h))
      · have hsep : sepB r[0].toNat = false := by simpa using hsep
        have hx : Lib.indexByte [32, 9, 13, 10] r[0] < 0 := by have := idx_byte [32, 9, 13, 10] r[0]; unfold sepB at hsep; rw [hsep] at this; simpa using this
        have HS := Lib.hid hsep; clear hsep
        by_cases h1 : Lib.hasPrefix r.data.toList [47, 47] = true
        · have hB2 := Lib.hid (show B = ((blk f (s.data.toList.drop (j + runB notNlB r.data.toList))).1 + runB notNlB r.data.toList + (j - i), (blk f (s.data.toList.drop (j + runB notNlB r.data.toList))).2) from by
            have h1' := h1
            rw [hD.out] at h1'
            rw [HE.out, ← List.drop_drop, ← HR2.out, hD.out, blk_line HS.out h1'])
          have hrun := fun wx => token_run r 0 136 notNlB wx tells_notNl enters_notNl (by unfold maxLen; omega) (by omega)
          rw [List.drop_zero] at hrun
          have hrl := runB_le notNlB r.data.toList
          have hrp : 1 ≤ runB notNlB r.data.toList := by
            have h1' := h1
            rw [hD.out] at h1'
            have e0 : r[0] = 47 := by simp [Lib.hasPrefix] at h1'; exact h1'.1.symm
            rw [hD.out, runB_cons, if_pos (by rw [e0]; decide)]; omega
          generalize runB notNlB r.data.toList = n at hB2 hrun hrl hrp
          have hrl2 : j + n ≤ s.size := by have := HR1.out; simp at hrl; omega
          have HU := Lib.hid hrun; clear hrun hrl
          go_wp2_with fail
          refine (HRE.out _ hH).mono ?_
          rintro e w1 ⟨rfl, nd, rfl⟩
          go_wp2_with (first | (go_at_call 133; refine (Tryz.strings_IndexByte _ _ _).mono ?_; rintro e w' ⟨rfl, rfl⟩) | (go_at_call 134; refine (Tryz.strings_HasPrefix _ _ _).mono ?_; rintro e w' ⟨rfl, rfl⟩) | (go_at_call 135; refine (HU.out _).mono ?_; rintro e w' ⟨rfl, rfl⟩))
          refine (HSK.out n (by omega) _ (hH.drewN nd)).mono ?_
          rintro e w1 ⟨rfl, hH1, hK1⟩
          go_wp2_with fail
          go_roundg f
          case measure => omega
          case rel => exact brel_step hij (by omega) (by omega) hl1 hl2 hc1 hc2 HA.out hB2.out hH1 ((hK2.out nd).trans hK1 (fun _ _ h => h))
        · have h1 : Lib.hasPrefix r.data.toList [47, 47] = false := by simpa using h1
          have h1' := Lib.hid (show Lib.hasPrefix (r[0] :: r.data.toList.drop (0 + 1)) [47, 47] = false from by rw [← hD.out]; exact h1)
          by_cases h2 : Lib.hasPrefix r.data.toList [47, 42] = true
          · have h2' := Lib.hid (show Lib.hasPrefix (r[0] :: r.data.toList.drop (0 + 1)) [47, 42] = true from by rw [← hD.out]; exact h2)
            have h2s : 2 ≤ r.size := by have := Lib.hasPrefix_le h2; simpa using this
            have hidx := fun wx hm => Tryz.strings_Index (r.extract 2 r.size) ⟨#[42, 47]⟩ m wx (by simp; omega) hm
            rw [drop_toList] at hidx
            have hge := Lib.index_ge (r.data.toList.drop 2) [42, 47]
            have hro := Lib.index_room (r.data.toList.drop 2) [42, 47]
            have HX : Hid (∀ x, Lib.index (r.data.toList.drop 2) [42, 47] = x → Lib.index ((r[0] :: r.data.toList.drop (0 + 1)).drop 2) [42, 47] = x) := by intro x hx; rw [← hD.out]; exact hx
            change ∀ wx hm, Calls _ _ _ _ fun e w' => e = .returned (.int .i64 (Lib.index (r.data.toList.drop 2) [42, 47])) ∧ _ at hidx
            generalize hxi : Lib.index (r.data.toList.drop 2) [42, 47] = xi at hidx hge hro
            have HXI := Lib.hid hxi; clear hxi
            have HIX := Lib.hid hidx; clear hidx
            by_cases hneg : xi < 0
            · have hB2 := Lib.hid (show B = (j - i, true) from by rw [HE.out, ← HR2.out, hD.out, blk_bad HS.out h1'.out h2'.out (by rw [HX.out _ HXI.out]; exact hneg)]; simp)
              clear hro
              go_wp2_with fail
              refine (HRE.out _ hH).mono ?_
              rintro e w1 ⟨rfl, nd, rfl⟩
              go_wp2_with (first | (go_at_call 133; refine (Tryz.strings_IndexByte _ _ _).mono ?_; rintro e w' ⟨rfl, rfl⟩) | (go_at_call 134; refine (Tryz.strings_HasPrefix _ _ _).mono ?_; rintro e w' ⟨rfl, rfl⟩) | (go_at_call 137; refine (HIX.out _ (by exact hm)).mono ?_; rintro e w' ⟨rfl, rfl⟩))
              go_ret
              exact blank_end hij HA.out hB2.out HB.out (hH.drewN nd) (hK2.out nd) rfl
            · obtain ⟨n, rfl⟩ : ∃ n : Nat, xi = n := ⟨xi.toNat, by omega⟩
              have hB2 := Lib.hid (show B = ((blk f (s.data.toList.drop (j + (n + 4)))).1 + (n + 4) + (j - i), (blk f (s.data.toList.drop (j + (n + 4)))).2) from by
                rw [HE.out, ← List.drop_drop, ← HR2.out, hD.out, blk_note HS.out h1'.out h2'.out n (HX.out _ HXI.out)])
              have hjn : j + (n + 4) ≤ s.size := by have q := hro (by omega); have q2 := HR1.out; simp at q; omega
              clear hro
              go_wp2_with fail
              refine (HRE.out _ hH).mono ?_
              rintro e w1 ⟨rfl, nd, rfl⟩
              go_wp2_with (first | (go_at_call 133; refine (Tryz.strings_IndexByte _ _ _).mono ?_; rintro e w' ⟨rfl, rfl⟩) | (go_at_call 134; refine (Tryz.strings_HasPrefix _ _ _).mono ?_; rintro e w' ⟨rfl, rfl⟩) | (go_at_call 137; refine (HIX.out _ (by exact hm)).mono ?_; rintro e w' ⟨rfl, rfl⟩))
              refine (HSK.out (n + 4) (by omega) _ (hH.drewN nd)).mono ?_
              rintro e w1 ⟨rfl, hH1, hK1⟩
              go_wp2_with fail
              go_roundg f
              case measure => omega
              case rel => exact brel_step hij (by omega) (by omega) hl1 hl2 hc1 hc2 HA.out hB2.out hH1 ((hK2.out nd).trans hK1 (fun _ _ h => h))
          · have h2 : Lib.hasPrefix r.data.toList [47, 42] = false := by simpa using h2
            have hB2 := Lib.hid (show B = (j - i, false) from by rw [HE.out, ← HR2.out, hD.out, blk_none HS.out h1'.out (by rw [← hD.out]; exact h2)]; simp)
            go_wp2_with fail
            refine (HRE.out _ hH).mono ?_
            rintro e w1 ⟨rfl, nd, rfl⟩
            go_wp2_with (first | (go_at_call 133; refine (Tryz.strings_IndexByte _ _ _).mono ?_; rintro e w' ⟨rfl, rfl⟩) | (go_at_call 134; refine (Tryz.strings_HasPrefix _ _ _).mono ?_; rintro e w' ⟨rfl, rfl⟩))
            go_ret
            exact blank_end hij HA.out hB2.out HB.out (hH.drewN nd) (hK2.out nd) rfl
    · obtain rfl : j = s.size := by omega
      have hB2 := Lib.hid (show B = (s.size - i, false) from by rw [HE.out, drop_end s s.size (Nat.le_refl _)]; cases gk <;> simp [blk])
      have he : s.extract s.size s.size = ByteArray.empty := empty_of _ (by simp)
      rw [he] at hrest
      have HRE := Lib.hid hrest; clear hrest hskip he
      have hK2 : Hid (∀ nd, Keeps (· = b) w (wr.drewN nd)) := fun nd => hK.drewN nd
      go_wp2_with fail
      refine (HRE.out _ hH).mono ?_
      rintro e w1 ⟨rfl, nd, rfl⟩
      go_wp2_with fail
      go_ret
      exact blank_end hij HA.out hB2.out HB.out (hH.drewN nd) (hK2.out nd) rfl
end Go.Proofs.YtiojnbhomjkkgaaGreatDoor

namespace Go.Proofs.YtiojnbhomjkkgaaGreatDoor
open Go.RowKit

theorem getD_at (s : ByteArray) (n : Nat) (h : n < s.size) : s.data.toList.getD n 0 = s[n] := by
  rw [List.getD_eq_getElem?_getD, List.getElem?_eq_getElem (by simpa using h)]; rfl
/-- What run counts. -/
def runK (nm : Bool) (c : Int) : Bool := if nm = true then nameB c else wordB c
theorem run_yes {p : Int → Bool} {s : ByteArray} {a k : Nat} {R : Nat} (h : a + k < s.size) (hR : R = runB p (s.data.toList.drop (a + k)) + k) (hp : p s[a + k].toNat = true) : R = runB p (s.data.toList.drop (a + (k + 1))) + (k + 1) := by
  rw [hR, drop_cons s _ h, runB_cons, if_pos hp, Nat.add_assoc a k 1]; omega
theorem run_no {p : Int → Bool} {s : ByteArray} {a k : Nat} {R : Nat} (h : a + k < s.size) (hR : R = runB p (s.data.toList.drop (a + k)) + k) (hp : p s[a + k].toNat = false) : R = k := by
  rw [hR, drop_cons s _ h, runB_cons, if_neg (by simp [hp])]; omega
theorem run_end {p : Int → Bool} {s : ByteArray} {a k : Nat} {R : Nat} (h : s.size ≤ a + k) (hR : R = runB p (s.data.toList.drop (a + k)) + k) : R = k := by
  rw [hR, drop_end s _ h]; simp [runB]

set_option maxHeartbeats 2000000 in
theorem ref_run (s : ByteArray) (a : Nat) (nm : Bool) (w : World) (hs : s.size ≤ 140737488355328) (ha : a ≤ s.size) :
    Calls Tryz.prog 83 #[.string s, .int .i64 a, .bool nm] w fun e w' => e = .returned (.int .i64 (runB (runK nm) (s.data.toList.drop a))) ∧ w = w' := by
  generalize hR : runB (runK nm) (s.data.toList.drop a) = R
  have HR := Lib.hid hR; clear hR
  go_enter Tryz.func83, Tryz.ntmps83
  go_wp2
  go_loopg [7] (s.size) (fun f i wr => ∃ k : Nat, a + k ≤ s.size ∧ s.size ≤ a + k + f ∧ i = .int .i64 k ∧ Hid (R = runB (runK nm) (s.data.toList.drop (a + k)) + k) ∧ w = wr)
  case atStart => exact ⟨0, by omega, by omega, rfl, HR.out.symm, rfl⟩
  case round =>
    obtain ⟨k, hk, hf, rfl, hB, rfl⟩ := hrel
    by_cases hlt : a + k < s.size
    · cases nm
      · cases hw : wordB s[a + k].toNat
        · have hF := Lib.hid (run_no hlt hB.out hw)
          go_wp2_with (first | (go_at_call 147; refine (ref_word _ _).mono ?_; rintro e w' ⟨rfl, rfl⟩))
          go_ret
          exact ⟨ret_int (by rw [hF.out]), rfl⟩
        · have hF := Lib.hid (run_yes hlt hB.out hw)
          go_wp2_with (first | (go_at_call 147; refine (ref_word _ _).mono ?_; rintro e w' ⟨rfl, rfl⟩))
          go_roundg (gk - 1)
          case measure => omega
          case rel => exact ⟨k + 1, by omega, by omega, by go_num, hF.out, rfl⟩
      · cases hw : wordB s[a + k].toNat
        · cases hn : nameB s[a + k].toNat
          · have hF := Lib.hid (run_no hlt hB.out hn)
            go_wp2_with (first | (go_at_call 147; refine (ref_word _ _).mono ?_; rintro e w' ⟨rfl, rfl⟩) | (go_at_call 148; refine (ref_name _ _).mono ?_; rintro e w' ⟨rfl, rfl⟩))
            go_ret
            exact ⟨ret_int (by rw [hF.out]), rfl⟩
          · have hF := Lib.hid (run_yes hlt hB.out hn)
            go_wp2_with (first | (go_at_call 147; refine (ref_word _ _).mono ?_; rintro e w' ⟨rfl, rfl⟩) | (go_at_call 148; refine (ref_name _ _).mono ?_; rintro e w' ⟨rfl, rfl⟩))
            go_roundg (gk - 1)
            case measure => omega
            case rel => exact ⟨k + 1, by omega, by omega, by go_num, hF.out, rfl⟩
        · have hF := Lib.hid (run_yes hlt hB.out (by unfold runK; rw [if_pos rfl]; unfold nameB; rw [hw]; rfl))
          go_wp2_with (first | (go_at_call 147; refine (ref_word _ _).mono ?_; rintro e w' ⟨rfl, rfl⟩))
          go_roundg (gk - 1)
          case measure => omega
          case rel => exact ⟨k + 1, by omega, by omega, by go_num, hF.out, rfl⟩
    · have hF := Lib.hid (run_end (by omega) hB.out)
      go_wp2_with fail
      go_ret
      exact ⟨ret_int (by rw [hF.out]), rfl⟩

/-- The word between slashes: how many bytes, 0 if there is none. -/
def slashV (l : List UInt8) : Nat := if runB smallB (l.drop 1) > 0 ∧ runB smallB (l.drop 1) + 1 < l.length ∧ (l.getD (runB smallB (l.drop 1) + 1) 0).toNat = 47 then runB smallB (l.drop 1) + 2 else 0
theorem slash_end {s : ByteArray} {a k R : Nat} (ha : a < s.size) (hR : slashV (s.data.toList.drop a) = R) (hk : runB smallB (s.data.toList.drop (a + 1)) + 1 = k) :
    (¬ 1 < k ∧ Hid (R = 0)) ∨ (1 < k ∧ ¬ a + k < s.size ∧ Hid (R = 0)) ∨ (∃ h : a + k < s.size, 1 < k ∧ ((s[a + k].toNat : Int) == 47) = true ∧ Hid (R = k + 1)) ∨ (∃ h : a + k < s.size, 1 < k ∧ ((s[a + k].toNat : Int) == 47) = false ∧ Hid (R = 0)) := by
  subst hk
  unfold slashV at hR
  rw [List.drop_drop] at hR
  generalize runB smallB (s.data.toList.drop (a + 1)) = n at hR
  have hl : (s.data.toList.drop a).length = s.size - a := by simp
  rw [hl] at hR
  by_cases h1 : 0 < n
  · by_cases h2 : a + (n + 1) < s.size
    · have hg : (s.data.toList.drop a).getD (n + 1) 0 = s[a + (n + 1)] := by
        rw [← getD_at s (a + (n + 1)) h2, List.getD_eq_getElem?_getD, List.getD_eq_getElem?_getD, List.getElem?_drop]
      rw [hg] at hR
      by_cases h3 : s[a + (n + 1)].toNat = 47
      · rw [if_pos ⟨h1, by omega, h3⟩] at hR
        exact .inr (.inr (.inl ⟨h2, by omega, by simp [h3], by show _ = _; omega⟩))
      · rw [if_neg (by rintro ⟨_, _, h⟩; exact h3 h)] at hR
        exact .inr (.inr (.inr ⟨h2, by omega, by simp; omega, by show _ = _; omega⟩))
    · rw [if_neg (by omega)] at hR
      exact .inr (.inl ⟨by omega, h2, hR.symm⟩)
  · rw [if_neg (by omega)] at hR
    exact .inl ⟨by omega, hR.symm⟩

set_option maxHeartbeats 4000000 in
theorem ref_slashed (s : ByteArray) (a : Nat) (w : World) (hs : s.size ≤ 140737488355328) (ha : a < s.size) :
    Calls Tryz.prog 87 #[.string s, .int .i64 a] w fun e w' => e = .returned (.int .i64 (slashV (s.data.toList.drop a))) ∧ w = w' := by
  generalize hR : slashV (s.data.toList.drop a) = R
  have HR := Lib.hid hR; clear hR
  generalize hM : runB smallB (s.data.toList.drop (a + 1)) + 1 = M
  have HM := Lib.hid hM; clear hM
  go_enter Tryz.func87, Tryz.ntmps87
  go_wp2
  go_loopg [5] (s.size) (fun f i wr => ∃ k : Nat, 1 ≤ k ∧ a + k ≤ s.size ∧ s.size ≤ a + k + f ∧ i = .int .i64 k ∧ Hid (M = runB smallB (s.data.toList.drop (a + k)) + k) ∧ w = wr)
  case atStart => exact ⟨1, by omega, by omega, by omega, rfl, HM.out.symm, rfl⟩
  case round =>
    obtain ⟨k, hk1, hk, hf, rfl, hB, rfl⟩ := hrel
    by_cases hlt : a + k < s.size
    · have hb := byte_lt s[a + k]
      by_cases hsm : smallB s[a + k].toNat = true
      · have hF := Lib.hid (run_yes hlt hB.out hsm)
        have hcs : 97 ≤ (s[a + k].toNat : Int) ∧ (s[a + k].toNat : Int) ≤ 122 ∨ (s[a + k].toNat : Int) < 97 ∧ ((s[a + k].toNat : Int) == 45) = true := by
          unfold smallB at hsm; simp only [decide_eq_true_eq, beq_iff_eq] at hsm ⊢; omega
        clear hsm
        rcases hcs with ⟨c1, c2⟩ | ⟨c1, c2⟩
        all_goals
          go_wp2_with fail
          go_roundg (gk - 1)
          case measure => omega
          case rel => exact ⟨k + 1, by omega, by omega, by omega, by go_num, hF.out, rfl⟩
      · have hsm : smallB s[a + k].toNat = false := by simpa using hsm
        have hF := run_no hlt hB.out hsm
        have hcs : (97 ≤ (s[a + k].toNat : Int) ∧ 122 < (s[a + k].toNat : Int) ∧ ((s[a + k].toNat : Int) == 45) = false) ∨ (s[a + k].toNat : Int) < 97 ∧ ((s[a + k].toNat : Int) == 45) = false := by
          unfold smallB at hsm; simp only [decide_eq_false_iff_not, beq_eq_false_iff_ne] at hsm ⊢; omega
        clear hsm
        have hen := slash_end ha HR.out (HM.out.trans hF)
        clear hF
        rcases hcs with ⟨c1, c2, c3⟩ | ⟨c1, c2⟩
        all_goals
          rcases hen with ⟨e1, hF⟩ | ⟨e1, e2, hF⟩ | ⟨_, e1, e2, hF⟩ | ⟨_, e1, e2, hF⟩
          all_goals first
          | (exfalso; omega)
          | (go_wp2_with fail
             go_ret
             exact ⟨ret_int (by rw [hF.out]; rfl), rfl⟩)
    · have hF := run_end (by omega) hB.out
      have hen := slash_end ha HR.out (HM.out.trans hF)
      clear hF
      rcases hen with ⟨e1, hF⟩ | ⟨e1, e2, hF⟩ | ⟨_, e1, e2, hF⟩ | ⟨_, e1, e2, hF⟩
      all_goals first
      | (exfalso; omega)
      | (go_wp2_with fail
         go_ret
         exact ⟨ret_int (by rw [hF.out]; rfl), rfl⟩)
end Go.Proofs.YtiojnbhomjkkgaaGreatDoor

namespace Go.Proofs.YtiojnbhomjkkgaaGreatDoor
open Go.RowKit

/-- What the reference's escape gives. -/
def escR (E : Int × Nat × Int) : Value := .tuple #[.int .u8 E.1, .int .i64 (if E.2.2 = 0 then (E.2.1 : Int) + 1 else 0), .int .i64 E.2.2]
theorem digV_neg {c : Int} (h : hexV c < 0) : digV c = 99 := by unfold digV; rw [if_pos h]
theorem digV_pos {c : Int} (h : ¬ hexV c < 0) : digV c = hexV c := by unfold digV; rw [if_neg h]

set_option maxHeartbeats 4000000 in
theorem ref_escape (s : ByteArray) (i : Nat) (w : World) (hs : s.size ≤ 140737488355328) (hi : i < s.size) :
    Calls Tryz.prog 150 #[.string s, .int .i64 i] w fun e w' => e = .returned (escR (esc (s.data.toList.drop (i + 1)))) ∧ ∃ n, w' = w.drewN n := by
  generalize hE : esc (s.data.toList.drop (i + 1)) = E
  have HE := Lib.hid hE; clear hE
  by_cases hlt : i + 1 < s.size
  · have hD := drop_cons s (i + 1) hlt
    by_cases h10 : s[i + 1].toNat = 10
    · have h10' : ((s[i + 1].toNat : Int) == 10) = true := by simp [h10]
      have hF := Lib.hid (show E = (0, 0, 21) from by rw [← HE.out, hD]; simp [esc, h10])
      clear h10 hD
      go_enter Tryz.func150, Tryz.ntmps150
      go_wp2_with fail
      go_ret3
      exact ⟨by rw [hF.out]; rfl, 0, rfl⟩
    · have h10' : ((s[i + 1].toNat : Int) == 10) = false := by simp; omega
      have hcs : ((s[i + 1].toNat : Int) == 110) = true ∧ Hid (E = (10, 1, 0)) ∨
          ((s[i + 1].toNat : Int) == 110) = false ∧ ((s[i + 1].toNat : Int) == 116) = true ∧ Hid (E = (9, 1, 0)) ∨
          ((s[i + 1].toNat : Int) == 110) = false ∧ ((s[i + 1].toNat : Int) == 116) = false ∧ ((s[i + 1].toNat : Int) == 34) = true ∧ Hid (E = ((s[i + 1].toNat : Int), 1, 0)) ∨
          ((s[i + 1].toNat : Int) == 110) = false ∧ ((s[i + 1].toNat : Int) == 116) = false ∧ ((s[i + 1].toNat : Int) == 34) = false ∧ ((s[i + 1].toNat : Int) == 92) = true ∧ Hid (E = ((s[i + 1].toNat : Int), 1, 0)) ∨
          ((s[i + 1].toNat : Int) == 110) = false ∧ ((s[i + 1].toNat : Int) == 116) = false ∧ ((s[i + 1].toNat : Int) == 34) = false ∧ ((s[i + 1].toNat : Int) == 92) = false ∧ ((s[i + 1].toNat : Int) == 120) = false ∧ Hid (E = (0, 0, 6)) ∨
          ((s[i + 1].toNat : Int) == 110) = false ∧ ((s[i + 1].toNat : Int) == 116) = false ∧ ((s[i + 1].toNat : Int) == 34) = false ∧ ((s[i + 1].toNat : Int) == 92) = false ∧ ((s[i + 1].toNat : Int) == 120) = true ∧ Hid (E = hx2 2 (s.data.toList.drop (i + 2)) 0) := by
        have hF : E = if s[i + 1].toNat = 110 then (10, 1, 0) else if s[i + 1].toNat = 116 then (9, 1, 0) else if s[i + 1].toNat = 34 then (34, 1, 0) else if s[i + 1].toNat = 92 then (92, 1, 0)
            else if s[i + 1].toNat ≠ 120 then (0, 0, 6) else hx2 2 (s.data.toList.drop (i + 2)) 0 := by rw [← HE.out, hD]; simp only [esc]; rw [if_neg h10]
        simp only [Hid, beq_iff_eq, beq_eq_false_iff_ne]
        split at hF
        · left; exact ⟨by omega, hF⟩
        · split at hF
          · right; left; exact ⟨by omega, by omega, hF⟩
          · split at hF
            · right; right; left; exact ⟨by omega, by omega, by omega, by rw [hF]; congr 1; omega⟩
            · split at hF
              · right; right; right; left; exact ⟨by omega, by omega, by omega, by omega, by rw [hF]; congr 1; omega⟩
              · split at hF
                · right; right; right; right; left; exact ⟨by omega, by omega, by omega, by omega, by omega, hF⟩
                · right; right; right; right; right; exact ⟨by omega, by omega, by omega, by omega, by omega, hF⟩
      clear h10 hD
      rcases hcs with ⟨c1, hF⟩ | ⟨c1, c2, hF⟩ | ⟨c1, c2, c3, hF⟩ | ⟨c1, c2, c3, c4, hF⟩ | ⟨c1, c2, c3, c4, c5, hF⟩ | ⟨c1, c2, c3, c4, c5, hF⟩
      rotate_right
      · go_enter Tryz.func150, Tryz.ntmps150
        go_wp2_with fail
        go_loopg [7, 8] 3 (fun f x y wr => ∃ k : Nat, ∃ v : Int, 2 ≤ k ∧ k ≤ 4 ∧ 4 ≤ k + f ∧ i + k ≤ s.size ∧ x = .int .i64 v ∧ y = .int .i64 k ∧ 0 ≤ v ∧ v * 256 < 16 ^ k ∧ Hid (E = hx2 (4 - k) (s.data.toList.drop (i + k)) v) ∧ w = wr)
        case atStart => exact ⟨2, 0, by omega, by omega, by omega, by omega, rfl, rfl, by omega, by omega, hF, rfl⟩
        case round =>
          obtain ⟨k, v, hk2, hk4, hf, hks, rfl, rfl, hv0, hv1, hB, rfl⟩ := hrel
          by_cases h4 : k < 4
          · by_cases hlt2 : i + k < s.size
            · have hD := drop_cons s (i + k) hlt2
              by_cases h10 : s[i + k].toNat = 10
              · have h10' : ((s[i + k].toNat : Int) == 10) = true := by simp [h10]
                have hF := Lib.hid (show E = (0, 0, 21) from by rw [hB.out, hD, show 4 - k = (3 - k) + 1 from by omega]; simp [hx2, h10])
                clear h10 hD
                go_wp2_with fail
                go_ret3
                exact ⟨by rw [hF.out]; rfl, 0, rfl⟩
              · have h10' : ((s[i + k].toNat : Int) == 10) = false := by simp; omega
                have hF : E = if hexV s[i + k].toNat < 0 then (0, 0, 6) else hx2 (4 - (k + 1)) (s.data.toList.drop (i + (k + 1))) (16 * v + hexV s[i + k].toNat) := by
                  rw [hB.out, hD, show 4 - k = (4 - (k + 1)) + 1 from by omega]; simp only [hx2]; rw [if_neg h10]; rfl
                have hcon := fun wx => ref_digit s[i + k].toNat wx (by omega) (byte_lt _)
                have hbd := hexV_bd s[i + k].toNat
                by_cases hx : hexV s[i + k].toNat < 0
                · have hF2 := Lib.hid (show E = (0, 0, 6) from by rw [hF, if_pos hx])
                  rw [digV_neg hx] at hcon
                  clear h10 hD hF hx hbd
                  go_wp2_with (first | (go_at_call 149; refine (hcon _).mono ?_; rintro e w' ⟨rfl, rfl⟩))
                  go_ret3
                  exact ⟨by rw [hF2.out]; rfl, 0, rfl⟩
                · rw [digV_pos hx] at hcon
                  have hF2 := Lib.hid (show E = hx2 (4 - (k + 1)) (s.data.toList.drop (i + (k + 1))) (16 * v + hexV s[i + k].toNat) from by rw [hF, if_neg hx])
                  clear h10 hD hF
                  generalize hexV s[i + k].toNat = dv at hF2 hcon hbd hx
                  have h99 : (dv == 99) = false := by rw [beq_eq_false_iff_ne]; omega
                  have hv2 : v ≤ 15 := by have : k = 2 ∨ k = 3 := by omega
                                          rcases this with rfl | rfl <;> omega
                  have hkk : k = 2 ∨ k = 3 := by omega
                  have hnx : (v * 16 + dv) * 256 < 16 ^ (k + 1) := by rcases hkk with rfl | rfl <;> omega
                  clear hkk
                  have HV1 := Lib.hid hv1; clear hv1
                  have HNX := Lib.hid hnx; clear hnx
                  go_wp2_with (first | (go_at_call 149; refine (hcon _).mono ?_; rintro e w' ⟨rfl, rfl⟩))
                  go_roundg (gk - 1)
                  case measure => omega
                  case rel => exact ⟨k + 1, v * 16 + dv, by omega, by omega, by omega, by omega, rfl, by go_num, by omega, HNX.out, by have := hF2.out; rw [Int.mul_comm 16 v] at this; exact this, rfl⟩
            · have hF := Lib.hid (show E = (0, 0, 21) from by rw [hB.out, drop_end s _ (by omega), show 4 - k = (3 - k) + 1 from by omega]; rfl)
              go_wp2_with fail
              go_ret3
              exact ⟨by rw [hF.out]; rfl, 0, rfl⟩
          · obtain rfl : k = 4 := by omega
            have hF := Lib.hid (show E = (v, 3, 0) from by rw [hB.out]; rfl)
            have hv3 : v ≤ 255 := by omega
            clear hv1
            go_wp2_with fail
            go_ret3
            exact ⟨by rw [hF.out]; rfl, 0, rfl⟩
      all_goals
        go_enter Tryz.func150, Tryz.ntmps150
        go_wp2_with fail
        go_ret3
        exact ⟨by rw [hF.out]; rfl, 0, rfl⟩
  · have hF := Lib.hid (show E = (0, 0, 21) from by rw [← HE.out, drop_end s _ (by omega)]; rfl)
    go_enter Tryz.func150, Tryz.ntmps150
    go_wp2_with fail
    go_ret3
    exact ⟨by rw [hF.out]; rfl, 0, rfl⟩
end Go.Proofs.YtiojnbhomjkkgaaGreatDoor
