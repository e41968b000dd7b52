/- Contracts of package blob: the reader's string and text. | Contracts of package blob: the reader's text. -/
import Derived.Test.YtofhcgbihonckaaGreatDoorZ13
import Derived.Test.YtofhcgbihonckaaGreatDoorZ14
import Derived.Test.YtofhcgbihonckaaGreatDoorZ2
import Derived.Lib.SlBytesRow

set_option linter.unusedVariables false
set_option linter.unusedSimpArgs false
set_option linter.unusedSectionVars false

namespace Go.Proofs.YtofhcgbihonckaaGreatDoor
open Go.RowKit Go.ChangeMaps

theorem infoByteB : ∀ w : World, (Go.sizeOf 5).run Tryz.prog w = .ok 1 w := fun w => by kernel_rfl
theorem bytes_row {w : World} {g o : Nat} {l : List UInt8} (hc : ∀ i (h : i < l.length), w.cell? ⟨g, o + i, none⟩ = some (.int .u8 l[i].toNat)) : Lib.Bytes w g o ⟨l.toArray⟩ := fun i hi => by
  have := hc i (by simpa [ByteArray.size] using hi)
  rw [this]
  rfl
/-- A window of bytes, as a string. -/
theorem conv_win (w : World) (g o : Nat) (l : List UInt8) (hc : ∀ i (h : i < l.length), w.cell? ⟨g, o + i, none⟩ = some (.int .u8 l[i].toNat)) (j n cap : Nat) (hj : j + n ≤ l.length) :
    (convert 26 9 (.slice (some ⟨g, o + j, none⟩) n cap)).run Tryz.prog w = .ok (.string ⟨((l.drop j).take n).toArray⟩) w := by
  rw [Lib.run_convert_window w 26 5 9 Tryz.underlying26 Tryz.underlying5 Tryz.underlying9 g o ⟨l.toArray⟩ (bytes_row hc) j n cap (by simpa [ByteArray.size] using hj)]
  congr 2
  apply ByteArray.ext
  apply Array.toList_inj.1
  rw [Lib.extract_data]
  simp
theorem slice_from (W : World) (g o len cap l : Nat) (h : l ≤ len) (hc : len ≤ cap) (hl : l < cap) :
    (Instr.slice 26 (.slice (some ⟨g, o, none⟩) len cap) (some (.int .i64 (l : Int))) none none).run Tryz.prog W = .ok (.slice (some ⟨g, o + l, none⟩) (len - l) (cap - l)) W := by
  have ht' : Tryz.prog.underlying 26 = some (.slice (Tryz.prog.elem 26)) := by kernel_rfl
  rw [run_slice_l W _ _ _ _ ht' .i64 _ (by omega) (by omega), show Tryz.prog.elem 26 = 5 by kernel_rfl, infoByteB]
  have hne : ¬ cap = l := by omega
  by_cases h0 : l = 0
  · subst h0
    simp [Result.andThen, sliced, Addr.add, hne]
  · simp [Result.andThen, sliced, Addr.add, hne, h0]
theorem slice_win (W : World) (g o len cap l h : Nat) (hlh : l ≤ h) (hh : h ≤ cap) (hl : l < cap) :
    (Instr.slice 26 (.slice (some ⟨g, o, none⟩) len cap) (some (.int .i64 (l : Int))) (some (.int .i64 (h : Int))) none).run Tryz.prog W = .ok (.slice (some ⟨g, o + l, none⟩) (h - l) (cap - l)) W := by
  have ht' : Tryz.prog.underlying 26 = some (.slice (Tryz.prog.elem 26)) := by kernel_rfl
  rw [run_slice_lh W _ _ _ _ ht' .i64 .i64 _ _ (by omega) (by omega) (by omega), show Tryz.prog.elem 26 = 5 by kernel_rfl, infoByteB]
  have hne : ¬ cap = l := by omega
  by_cases h0 : l = 0
  · subst h0
    simp [Result.andThen, sliced, Addr.add, hne]
  · simp [Result.andThen, sliced, Addr.add, hne, h0]
def strV : Option (List UInt8) → Value
  | none => .tuple #[.string ⟨#[]⟩, .bool false]
  | some t => .tuple #[.string ⟨t.toArray⟩, .bool true]
set_option maxRecDepth 100000 in
set_option maxHeartbeats 2000000 in
theorem blob_string (rb : Nat) (bv : Value) (sa : Option Addr) (sc at_ : Nat) (nv ov cv : Value) (s : List UInt8) (k : Nat) (w : World) (h : Holds w rb (rdC bv (.slice sa s.length sc) at_ nv ov cv 0 0) 75) (hs : BytesAt w (.slice sa s.length sc) s) (hL : s.length ≤ 1000000000) (hk : k ≤ 10000000000) (y0 : Lay0 w) :
    Calls Tryz.prog 89 #[.pointer (some ⟨rb, 0, none⟩), .int .i64 k] w fun e w' => e = .returned (strV (stringR s k)) ∧ ∃ n, w' = w.drewN n := by
  have x1 : w.cell? ⟨rb, 1, none⟩ = some (.slice sa s.length sc) := h.cell 1
  have hl := h.lt
  clear h
  obtain ⟨m, hm⟩ := y0
  by_cases c1 : s.length ≤ k
  · have d1 : decide ((s.length : Int) ≤ (k : Int)) = true := by simp; omega
    have d1' : decide (s.length ≤ k) = true := by simpa using c1
    have hp := Lib.hid (show stringR s k = none from by unfold stringR; rw [if_pos (.inl c1)])
    clear c1 hs hL
    go_enter Tryz.func89, Tryz.ntmps89
    go_wp2_with fail
    go_ret2
    exact ⟨by rw [hp.out]; rfl, 0, rfl⟩
  · have d1 : decide ((s.length : Int) ≤ (k : Int)) = false := by simp; omega
    have d1' : decide (s.length ≤ k) = false := by simpa using c1
    obtain ⟨a, cap, he, hc1, hc2, hat⟩ := hs
    cases he
    obtain ⟨g, o, rfl, hc⟩ := hat (by omega)
    by_cases c2 : 0 < k ∧ s.getD (k - 1) 0 ≠ 0
    · obtain ⟨c2, c3⟩ := c2
      have hp := Lib.hid (show stringR s k = none from by unfold stringR; rw [if_pos (.inr ⟨c2, c3⟩)])
      have d2 : decide ((0 : Int) < (k : Int)) = true := by simp; omega
      have d2' : decide (0 < k) = true := by simp; omega
      have k0 := hc (k - 1) (by omega)
      rw [List.getD_eq_getElem?_getD, List.getElem?_eq_getElem (by omega)] at c3
      generalize s[k - 1]'(by omega) = b0 at k0 c3
      have c4 : ((b0.toNat : Int) == 0) = false := by
        rw [beq_eq_false_iff_ne]; intro e
        exact c3 (UInt8.toNat_inj.1 (by show b0.toNat = 0; omega))
      have c5 : ((b0.toNat : Int) != 0) = true := by simp only [bne, c4, Bool.not_false]
      have j1 : IntKind.i64.wrap ((k : Int) - 1) = (k : Int) - 1 := IntWalk.i64_in _ (by omega)
      have n1 : ((k : Int) - 1).toNat = k - 1 := by omega
      have p1 : (0 : Int) ≤ (k : Int) - 1 := by omega
      have q1 : (k : Int) - 1 < s.length := by omega
      have q2 : k - 1 < s.length := by omega
      clear hc hat c3
      go_enter Tryz.func89, Tryz.ntmps89
      go_wp2_with fail
      go_ret2
      exact ⟨by rw [hp.out]; rfl, 0, rfl⟩
    · have hlt : k < s.length := by omega
      have hp := Lib.hid (show stringR s k = some (uptoZ (s.drop k)) from by unfold stringR; rw [if_neg (fun e => e.elim (fun e => by omega) c2)])
      have ks := fun W : World => slice_from W g o s.length sc k (by omega) hc1 (by omega)
      have kc := fun q : Nat => conv_win (w.drewN q) g o s (fun i hi => by simpa using hc i hi) k (s.length - k) (sc - k) (by omega)
      have kc0 := conv_win w g o s hc k (s.length - k) (sc - k) (by omega)
      rw [show (s.drop k).take (s.length - k) = s.drop k from List.take_of_length_le (by simp)] at kc0
      simp only [show (s.drop k).take (s.length - k) = s.drop k from List.take_of_length_le (by simp)] at kc
      have hq := Lib.hid (Tryz.strings_Cut ⟨(s.drop k).toArray⟩ ⟨#[0]⟩ m w (by simp only [ByteArray.size, List.size_toArray, List.length_drop]; omega) hm)
      by_cases c3 : k = 0
      · have d2 : decide ((0 : Int) < (k : Int)) = false := by simp; omega
        have d2' : decide (0 < k) = false := by simp; omega
        have C3 := Lib.hid c3
        clear c3
        clear hc hat c2
        go_enter Tryz.func89, Tryz.ntmps89
        go_wp2_with fail
        refine (by exact hq.out : Calls _ _ _ _ _).mono ?_
        rintro e w2 ⟨rfl, n, rfl⟩
        go_wp2_with fail
        go_ret2
        exact ⟨by rw [hp.out, ← cut_zero]; rfl, n, rfl⟩
      · have d2 : decide ((0 : Int) < (k : Int)) = true := by simp; omega
        have d2' : decide (0 < k) = true := by simp; omega
        have c4 : s.getD (k - 1) 0 = 0 := Classical.not_not.1 fun e => c2 ⟨by omega, e⟩
        have k0 := hc (k - 1) (by omega)
        rw [List.getD_eq_getElem?_getD, List.getElem?_eq_getElem (by omega)] at c4
        generalize s[k - 1]'(by omega) = b0 at k0 c4
        have c4 : b0 = 0 := c4
        subst c4
        have j1 : IntKind.i64.wrap ((k : Int) - 1) = (k : Int) - 1 := IntWalk.i64_in _ (by omega)
        have n1 : ((k : Int) - 1).toNat = k - 1 := by omega
        have p1 : (0 : Int) ≤ (k : Int) - 1 := by omega
        have q1 : (k : Int) - 1 < s.length := by omega
        have q2 : k - 1 < s.length := by omega
        clear c3
        clear hc hat c2
        go_enter Tryz.func89, Tryz.ntmps89
        go_wp2_with fail
        refine (by exact hq.out : Calls _ _ _ _ _).mono ?_
        rintro e w2 ⟨rfl, n, rfl⟩
        go_wp2_with fail
        go_ret2
        exact ⟨by rw [hp.out, ← cut_zero]; rfl, n, rfl⟩
end Go.Proofs.YtofhcgbihonckaaGreatDoor

namespace Go.Proofs.YtofhcgbihonckaaGreatDoor
open Go.RowKit Go.ChangeMaps

theorem slice_from' (g o len cap l : Nat) (h : l ≤ len) (hc : len ≤ cap) : ∃ o', (l < len → o' = o + l) ∧ ∀ W : World,
    (Instr.slice 26 (.slice (some ⟨g, o, none⟩) len cap) (some (.int .i64 (l : Int))) none none).run Tryz.prog W = .ok (.slice (some ⟨g, o', none⟩) (len - l) (cap - l)) W := by
  by_cases hl : l < cap
  · exact ⟨o + l, fun _ => rfl, fun W => slice_from W g o len cap l h hc hl⟩
  · refine ⟨o, fun h => by omega, fun W => ?_⟩
    have ht' : Tryz.prog.underlying 26 = some (.slice (Tryz.prog.elem 26)) := by kernel_rfl
    rw [run_slice_l W _ _ _ _ ht' .i64 _ (by omega) (by omega), show Tryz.prog.elem 26 = 5 by kernel_rfl, infoByteB]
    have he : cap = l := by omega
    simp [Result.andThen, sliced, he]
theorem index_at (g o' c : Nat) (l : List UInt8) (w : World) (hc : ∀ i (h : i < l.length), w.cell? ⟨g, o' + i, none⟩ = some (.int .u8 l[i].toNat)) :
    Calls Tryz.prog 101 #[.slice (some ⟨g, o', none⟩) l.length c, .int .u8 0] w fun e w' => e = .returned (.int .i64 (Lib.indexByte l 0)) ∧ w' = w :=
  Tryz.bytes_IndexByte_bytes g o' c ⟨l.toArray⟩ 0 w (bytes_row hc)
def TextPost (rb : Nat) (bv sv : Value) (nv ov cv : Value) (R : Re (List UInt8 × Nat)) (w : World) (e : Ending) (w' : World) : Prop :=
  Keeps (· = rb) w w' ∧ match R with
  | .ok (t, j) => e = .returned (.tuple #[.string ⟨t.toArray⟩, .bool true]) ∧ Holds w' rb (rdC bv sv j nv ov cv 0 0) 75
  | .error (p, er) => e = .returned (.tuple #[.string ⟨#[]⟩, .bool false]) ∧ ∃ a : Nat, Holds w' rb (rdC bv sv a nv ov cv p er) 75
set_option maxRecDepth 100000 in
set_option maxHeartbeats 4000000 in
theorem blob_text (rb : Nat) (ba : Option Addr) (bc : Nat) (sv : Value) (at_ : Nat) (nv ov cv : Value) (b : List UInt8) (w : World) (h : Holds w rb (rdC (.slice ba b.length bc) sv at_ nv ov cv 0 0) 75) (hb : BytesAt w (.slice ba b.length bc) b) (hne : ∀ g, Value.ownBlock (.slice ba b.length bc) = some g → g ≠ rb) (hL : b.length ≤ 1000000000) (h0 : 0 < b.length) (ha : at_ ≤ b.length) :
    Calls Tryz.prog 88 #[.pointer (some ⟨rb, 0, none⟩)] w (TextPost rb (.slice ba b.length bc) sv nv ov cv (textR b at_) w) := by
  have HB := Lib.hid hb
  obtain ⟨a, cap, he, hc1, hc2, hat⟩ := hb
  cases he
  obtain ⟨g, o, rfl, hc⟩ := hat h0
  have hgr : g ≠ rb := hne g rfl
  have x0 : w.cell? ⟨rb, 0, none⟩ = some (.slice (some ⟨g, o, none⟩) b.length bc) := h.cell 0
  have x2 : w.cell? ⟨rb, 2, none⟩ = some (.int .i64 at_) := h.cell 2
  have f2 := h.free 2
  have hl := h.lt
  have HH := Lib.hid h
  have HC := Lib.hid hc
  obtain ⟨o', ho', ks⟩ := slice_from' g o b.length bc at_ ha hc1
  have hix := Lib.hid (fun q => index_at g o' (bc - at_) (b.drop at_) (w.drewN q) (fun i hi => by
    have hi' : i < b.length - at_ := by simpa using hi
    rw [ho' (by omega), Nat.add_assoc]
    have := hc (at_ + i) (by omega)
    simpa using this))
  rw [List.length_drop] at hix
  have hix0 := Lib.hid (index_at g o' (bc - at_) (b.drop at_) w (fun i hi => by
    have hi' : i < b.length - at_ := by simpa using hi
    rw [ho' (by omega), Nat.add_assoc]
    have := hc (at_ + i) (by omega)
    simpa using this))
  rw [List.length_drop] at hix0
  rcases index_upto (b.drop at_) with ⟨e1, e2⟩ | ⟨e1, e2⟩
  · have hp := Lib.hid (show textR b at_ = .error (b.length, 21) from by
      unfold textR; simp only []; rw [if_pos (by rw [e1, List.length_drop]; omega)])
    rw [e2] at hix hix0
    have hfl := Lib.hid (fun (wx : World) (hx : Holds wx rb (rdC (.slice (some ⟨g, o, none⟩) b.length bc) sv at_ nv ov cv 0 0) 75) => blob_fail rb (.slice (some ⟨g, o, none⟩) b.length bc) sv at_ nv ov cv 0 b.length 21 wx hx)
    clear h hc hat HB e1 e2 ho' hne
    go_enter Tryz.func88, Tryz.ntmps88
    go_wp2_with fail
    refine (by exact hix0.out : Calls _ _ _ _ _).mono ?_
    rintro e w2 ⟨rfl, rfl⟩
    go_wp2_with fail
    refine (hfl.out _ (by exact HH.out)).mono ?_
    rintro e w3 ⟨rfl, hH3, hK3⟩
    go_wp2_with fail
    go_ret2
    rw [hp.out]
    exact ⟨hK3, rfl, _, hH3⟩
  · obtain ⟨n, hn⟩ : ∃ n, n = (uptoZ (b.drop at_)).length := ⟨_, rfl⟩
    rw [← hn] at e1 e2
    rw [List.length_drop] at e1
    rw [e2] at hix hix0
    obtain ⟨sz, hsz⟩ : ∃ sz, sz = n + 4 - n % 4 := ⟨_, rfl⟩
    have htake : (b.drop at_).take n = uptoZ (b.drop at_) := by rw [hn]; exact upto_take _
    have hd0 : decide ((n : Int) < 0) = false := by simp
    have j1 : IntKind.i64.wrap ((n : Int) + 4) = (n : Int) + 4 := IntWalk.i64_in _ (by omega)
    have j3 : wrap64 ((n : Int) + 4 - (n : Int) % 4) = (sz : Int) := by rw [← IntWalk.i64_left, IntWalk.i64_in _ (by omega)]; omega
    have j4 : IntKind.i64.wrap ((at_ : Int) + (sz : Int)) = ((at_ + sz : Nat) : Int) := by rw [IntWalk.i64_in _ (by omega)]; omega
    have j5 : IntKind.i64.wrap ((at_ : Int) + (n : Int)) = ((at_ + n : Nat) : Int) := by rw [IntWalk.i64_in _ (by omega)]; omega
    have hsn : n < sz ∧ sz ≤ n + 4 := by omega
    have hft := blob_fits rb (some ⟨g, o, none⟩) b.length bc sv at_ sz nv ov cv w h hL (by omega) (by omega)
    unfold FitPost at hft
    have HFT := Lib.hid hft
    clear hft
    by_cases hf : at_ + sz ≤ b.length
    · have HF := Lib.hid hf
      have HSZ := Lib.hid hsz
      have HN := Lib.hid hn
      have kw := fun W : World => slice_win W g o b.length bc (at_ + n) (at_ + sz) (by omega) (by omega) (by omega)
      have kt := fun W : World => slice_win W g o b.length bc at_ (at_ + n) (by omega) (by omega) (by omega)
      have hcv := Lib.hid (fun (wx : World) (hx : Keeps (· = rb) w wx) => conv_win wx g o b (fun i hi => (hx.cell (p := ⟨g, o + i, none⟩) (World.block_lt_of_cell? w _ (hc i hi)) hgr).trans (hc i hi)) (at_ + n) (at_ + sz - (at_ + n)) (bc - (at_ + n)) (by omega))
      have hct := Lib.hid (fun (wx : World) (hx : Keeps (· = rb) w wx) => conv_win wx g o b (fun i hi => (hx.cell (p := ⟨g, o + i, none⟩) (World.block_lt_of_cell? w _ (hc i hi)) hgr).trans (hc i hi)) at_ (at_ + n - at_) (bc - at_) (by omega))
      rw [show at_ + sz - (at_ + n) = 4 - n % 4 by omega] at hcv
      rw [show at_ + n - at_ = n by omega, htake] at hct
      have htr := Lib.hid (fun (wx : World) => Tryz.strings_Trim_one ⟨((b.drop (at_ + n)).take (4 - n % 4)).toArray⟩ 0 (by decide) wx (by simp only [ByteArray.size, List.size_toArray, List.length_take]; omega))
      simp only [show at_ + sz - (at_ + n) = 4 - n % 4 by omega] at kw
      simp only [show at_ + n - at_ = n by omega] at kt
      simp only [Int.natCast_add] at kw kt
      generalize hWn : (b.drop (at_ + n)).take (4 - n % 4) = Wn at hcv htr
      have HWn := Lib.hid hWn
      generalize hTn : uptoZ (b.drop at_) = Tn at hct
      have HTn := Lib.hid hTn
      clear hWn hTn
      by_cases hz : zeroB Wn = true
      · have hp := Lib.hid (show textR b at_ = .ok (Tn, at_ + sz) from by
          unfold textR; simp only []; rw [← hn, if_neg (by omega), ← hsz, if_neg (by omega), HWn.out, if_neg (by simp [hz]), HTn.out])
        rw [show Lib.trimB (⟨Wn.toArray⟩ : ByteArray).data.toList 0 = [] from (trim_zero Wn).2 hz] at htr
        clear h hc hat HB e1 e2 ho' hne hf hsz hn htake hz
        go_enter Tryz.func88, Tryz.ntmps88
        go_wp2_with fail
        refine (by exact hix0.out : Calls _ _ _ _ _).mono ?_
        rintro e w2 ⟨rfl, rfl⟩
        go_wp2_with fail
        refine (by exact HFT.out : Calls _ _ _ _ _).mono ?_
        rintro e w3 ⟨h3, -⟩
        obtain ⟨rfl, hH3, hK3⟩ := h3 HF.out
        have y0 : w3.cell? ⟨rb, 0, none⟩ = some (.slice (some ⟨g, o, none⟩) b.length bc) := hH3.cell 0
        have y2 : w3.cell? ⟨rb, 2, none⟩ = some (.int .i64 at_) := hH3.cell 2
        have g2 := hH3.free 2
        have hl3 := hH3.lt
        have HH3 := Lib.hid hH3
        have HK3 := Lib.hid hK3
        clear hH3 hK3 h3
        go_wp2_with fail
        obtain ⟨w4, hw4⟩ : ∃ w4, w4 = w3.setCell ⟨rb, 2, none⟩ (.int .i64 ((at_ : Int) + (sz : Int))) := ⟨_, rfl⟩
        have hH4 : Holds w4 rb (rdC (.slice (some ⟨g, o, none⟩) b.length bc) sv (at_ + sz) nv ov cv 0 0) 75 := by rw [hw4]; exact HH3.out.set 2 _
        have hK4 : Keeps (· = rb) w2 w4 := by rw [hw4]; exact (show Keeps (· = rb) w2 w3 from HK3.out.mono (fun _ _ e => e.elim)).setCell (p := ⟨rb, 2, none⟩) (.inr rfl) _
        rw [← hw4]
        have z0 : w4.cell? ⟨rb, 0, none⟩ = some (.slice (some ⟨g, o, none⟩) b.length bc) := hH4.cell 0
        have z2 : w4.cell? ⟨rb, 2, none⟩ = some (.int .i64 ((at_ : Int) + (sz : Int))) := hH4.cell 2
        have hl4 := hH4.lt
        have kc := fun q : Nat => hcv.out (w4.drewN q) (hK4.drewN q)
        have kc0 := hcv.out w4 hK4
        have kd := fun q : Nat => hct.out (w4.drewN q) (hK4.drewN q)
        have HH4 := Lib.hid hH4
        have HK4 := Lib.hid hK4
        clear hH4 hK4 hw4 y0 y2 g2
        go_quiet ((go_at_call 90; exact Calls.quiet_of ((htr.out _).mono (fun _ _ ⟨p, q⟩ => ⟨p, q.elim (fun q => ⟨0, q⟩) (fun q => ⟨1, q⟩)⟩))))
        go_wp2_with fail
        go_ret2
        rw [hp.out]
        exact ⟨HK4.out.drewN _, rfl, HH4.out.drewN _⟩
      · obtain ⟨X, hX⟩ : ∃ X : ByteArray, X = ⟨(Lib.trimB (⟨Wn.toArray⟩ : ByteArray).data.toList 0).toArray⟩ := ⟨_, rfl⟩
        have hz' : zeroB Wn = false := by simpa using hz
        have hp := Lib.hid (show textR b at_ = .error (at_, 6) from by
          unfold textR; simp only []; rw [← hn, if_neg (by omega), ← hsz, if_neg (by omega), HWn.out, if_pos hz'])
        have hXe : ¬ X.toList = [] := fun e => hz ((trim_zero Wn).1 (by
          rw [hX, ByteArray.toList_eq] at e
          simpa using e))
        have hXb : (X.toList == []) = false := by rw [beq_eq_false_iff_ne]; exact hXe
        have hXc : X.toList.isEmpty = false := by simpa using hXe
        rw [← hX] at htr
        have hfl := Lib.hid (fun (wx : World) (hx : Holds wx rb (rdC (.slice (some ⟨g, o, none⟩) b.length bc) sv (at_ + sz) nv ov cv 0 0) 75) => blob_fail rb (.slice (some ⟨g, o, none⟩) b.length bc) sv (at_ + sz) nv ov cv 0 at_ 6 wx hx)
        clear h hc hat HB e1 e2 ho' hne hf hsz hn htake hz hz' hX
        go_enter Tryz.func88, Tryz.ntmps88
        go_wp2_with fail
        refine (by exact hix0.out : Calls _ _ _ _ _).mono ?_
        rintro e w2 ⟨rfl, rfl⟩
        go_wp2_with fail
        refine (by exact HFT.out : Calls _ _ _ _ _).mono ?_
        rintro e w3 ⟨h3, -⟩
        obtain ⟨rfl, hH3, hK3⟩ := h3 HF.out
        have y0 : w3.cell? ⟨rb, 0, none⟩ = some (.slice (some ⟨g, o, none⟩) b.length bc) := hH3.cell 0
        have y2 : w3.cell? ⟨rb, 2, none⟩ = some (.int .i64 at_) := hH3.cell 2
        have g2 := hH3.free 2
        have hl3 := hH3.lt
        have HH3 := Lib.hid hH3
        have HK3 := Lib.hid hK3
        clear hH3 hK3 h3
        go_wp2_with fail
        obtain ⟨w4, hw4⟩ : ∃ w4, w4 = w3.setCell ⟨rb, 2, none⟩ (.int .i64 ((at_ : Int) + (sz : Int))) := ⟨_, rfl⟩
        have hH4 : Holds w4 rb (rdC (.slice (some ⟨g, o, none⟩) b.length bc) sv (at_ + sz) nv ov cv 0 0) 75 := by rw [hw4]; exact HH3.out.set 2 _
        have hK4 : Keeps (· = rb) w2 w4 := by rw [hw4]; exact (show Keeps (· = rb) w2 w3 from HK3.out.mono (fun _ _ e => e.elim)).setCell (p := ⟨rb, 2, none⟩) (.inr rfl) _
        rw [← hw4]
        have z0 : w4.cell? ⟨rb, 0, none⟩ = some (.slice (some ⟨g, o, none⟩) b.length bc) := hH4.cell 0
        have z2 : w4.cell? ⟨rb, 2, none⟩ = some (.int .i64 ((at_ : Int) + (sz : Int))) := hH4.cell 2
        have hl4 := hH4.lt
        have kc := fun q : Nat => hcv.out (w4.drewN q) (hK4.drewN q)
        have kc0 := hcv.out w4 hK4
        have kd := fun q : Nat => hct.out (w4.drewN q) (hK4.drewN q)
        have HH4 := Lib.hid hH4
        have HK4 := Lib.hid hK4
        clear hH4 hK4 hw4 y0 y2 g2
        go_quiet ((go_at_call 90; exact Calls.quiet_of ((htr.out _).mono (fun _ _ ⟨p, q⟩ => ⟨p, q.elim (fun q => ⟨0, q⟩) (fun q => ⟨1, q⟩)⟩))))
        go_wp2_with fail
        refine (hfl.out _ (by exact HH4.out.drewN _)).mono ?_
        rintro e w5 ⟨rfl, hH5, hK5⟩
        go_wp2_with fail
        go_ret2
        rw [hp.out]
        exact ⟨(HK4.out.drewN _).trans hK5 (fun _ _ e => e), rfl, _, hH5⟩
    · have hp := Lib.hid (show textR b at_ = .error (b.length, 21) from by
        unfold textR; simp only []; rw [← hn, if_neg (by omega), ← hsz, if_pos (by omega)])
      have HF := Lib.hid hf
      have HSZ := Lib.hid hsz
      have HN := Lib.hid hn
      clear h hc hat HB e1 e2 ho' hne hf hsz hn
      go_enter Tryz.func88, Tryz.ntmps88
      go_wp2_with fail
      refine (by exact hix0.out : Calls _ _ _ _ _).mono ?_
      rintro e w2 ⟨rfl, rfl⟩
      go_wp2_with fail
      refine (by exact HFT.out : Calls _ _ _ _ _).mono ?_
      rintro e w3 ⟨-, h3⟩
      obtain ⟨rfl, hH3, hK3⟩ := h3 HF.out
      go_wp2_with fail
      go_ret2
      rw [hp.out]
      exact ⟨hK3, rfl, _, hH3⟩
end Go.Proofs.YtofhcgbihonckaaGreatDoor
