/- Library: strconv.FormatInt of base 16. | Package expression: Format. -/
import Derived.Test.YtiojnbhomjkkgaaGreatDoorZ5
import Derived.Test.YtiojnbhomjkkgaaGreatDoorZ8
import Derived.Deep.LoopGhost
import Derived.KernelRfl
import Derived.Laws.IdiomStrings
import Derived.Test.YtiojnbhomjkkgaaGreatDoorZ15

set_option linter.unusedVariables false
set_option linter.unusedSimpArgs false
set_option linter.unusedSectionVars false

namespace Go.Proofs.YtiojnbhomjkkgaaGreatDoor
open Go.RowKit

/-- What the library's table of De Bruijn says of 16. -/
def LayB (w : World) : Prop := w.cell? ⟨3, 15, none⟩ = some (.int .u8 4)
theorem LayB.keeps {S : Nat → Prop} {w w' : World} (h : LayB w) (k : Keeps S w w') (hn : ¬ S 3) : LayB w' :=
  (k.cell (p := ⟨3, 15, none⟩) (World.block_lt_of_cell? w _ h) hn).trans h
theorem pow_two (w : World) : Calls Tryz.prog 215 #[.int .i64 16] w fun e w' => e = .returned (.bool true) ∧ w = w' := by
  go_enter Tryz.func215, Tryz.ntmps215
  go_wp2_with fail
  go_ret
  exact ⟨rfl, rfl⟩
theorem tz_64 (w : World) (h : LayB w) : Calls Tryz.prog 262 #[.int .u64 16] w fun e w' => e = .returned (.int .i64 4) ∧ w = w' := by
  unfold LayB at h
  have hz : IntKind.u64.wrap (bits BinOp.and IntKind.u64 16 (IntKind.u64.wrap (-16)) * 285870213051353865) / 288230376151711744 = 15 := by kernel_rfl
  go_enter Tryz.func262, Tryz.ntmps262
  go_wp2_with fail
  go_ret
  exact ⟨rfl, rfl⟩
theorem tz_any (w : World) (h : LayB w) : Calls Tryz.prog 216 #[.int .u64 16] w fun e w' => e = .returned (.int .i64 4) ∧ w = w' := by
  have h4 := tz_64 w h
  go_enter Tryz.func216, Tryz.ntmps216
  go_wp2_with fail
  refine h4.mono ?_
  rintro e w' ⟨rfl, rfl⟩
  go_wp2_with fail
  go_ret
  exact ⟨rfl, rfl⟩
theorem and_15 (n : Int) (h0 : 0 ≤ n) (h1 : n ≤ 4294967295) : bits .and .u64 n 15 = n % 16 := by
  obtain ⟨k, rfl⟩ := Int.eq_ofNat_of_zero_le h0
  have e1 : (BitVec.ofInt 64 (k : Int)).toNat = k := by
    rw [BitVec.toNat_ofInt]; norm_cast; omega
  have e2 : (BitVec.ofInt 64 (15 : Int)).toNat = 2 ^ 4 - 1 := by rfl
  show IntKind.u64.wrap ((((BitVec.ofInt 64 (k : Int)) &&& (BitVec.ofInt 64 (15 : Int))).toNat : Nat) : Int) = _
  rw [BitVec.toNat_and, e1, e2, Nat.and_two_pow_sub_one_eq_mod]
  rw [IntWalk.u64_in _ (by omega)]
  omega
def digsS : ByteArray := ⟨#[48, 49, 50, 51, 52, 53, 54, 55, 56, 57, 97, 98, 99, 100, 101, 102, 103, 104, 105, 106, 107, 108, 109, 110, 111, 112, 113, 114, 115, 116, 117, 118, 119, 120, 121, 122]⟩
/-- The array of digits, filled from place i on. -/
def DigsAt (w : World) (b i : Nat) (D : List UInt8) : Prop := ∃ cs : Array Value, Holds w b cs 224 ∧ cs.size = 65 ∧ i + D.length = 65 ∧ ∀ (j : Nat) (h : j < D.length), cs[i + j]? = some (.int .u8 D[j].toNat)
theorem DigsAt.facts {w : World} {b i k : Nat} {D : List UInt8} (h : DigsAt w b i D) (hi : k < 65) : b < w.heap.size ∧ w.frozen? ⟨b, k, none⟩ = false ∧ ∃ v, w.cell? ⟨b, k, none⟩ = some v := by
  obtain ⟨cs, h1, h2, h3, _⟩ := h
  exact ⟨h1.lt, h1.free k, cs[k], by rw [h1.cell k, Array.getElem?_eq_getElem (by omega)]⟩
theorem DigsAt.put {w : World} {b i : Nat} {D : List UInt8} (h : DigsAt w b (i + 1) D) (x : UInt8) (v : Value) (hv : v = .int .u8 x.toNat) : DigsAt (w.setCell ⟨b, i, none⟩ v) b i (x :: D) := by
  subst hv
  obtain ⟨cs, h1, h2, h3, h4⟩ := h
  refine ⟨cs.setIfInBounds i (.int .u8 x.toNat), h1.set i _, by simpa using h2, by simp; omega, ?_⟩
  intro j hj
  cases j with
  | zero => simp [Array.getElem?_setIfInBounds]; omega
  | succ j =>
    have := h4 j (by simpa using hj)
    rw [Array.getElem?_setIfInBounds, if_neg (by omega), show i + (j + 1) = i + 1 + j from by omega, this]; rfl
theorem digs_at {d : Nat} (h : d < 16) (h2 : d < digsS.size) : digsS[d]'h2 = digCh false d := by
  have : ∀ x : Fin 16, digsS.data[x.val]? = some (digCh false x) := by decide +kernel
  have h3 := this ⟨d, h⟩
  have h4 : digsS.data[d]? = some (digsS.data[d]'h2) := Array.getElem?_eq_getElem h2
  rw [h3] at h4
  exact (Option.some.inj h4).symm
theorem slice_65 (b i n : Nat) (h : i + n = 65) (h1 : 1 ≤ n) (w : World) : Sem.run Tryz.prog (Instr.sliceAt 224 (.pointer (some ⟨b, 0, none⟩)) (some (.int .i64 (i : Int))) none none) w = .ok (.slice (some ⟨b, i, none⟩) n n) w := by
  have hal : Tryz.prog.arrayLen 224 = 65 := by kernel_rfl
  rw [run_sliceAt_array_l (P := Tryz.prog) w 224 ⟨b, 0, none⟩ (by kernel_rfl) .i64 (i : Int) (by omega) (by rw [hal]; omega)]
  have h2 : (Tryz.prog.info? (Tryz.prog.elem 224)).map (fun i => i.size) = some 1 := by kernel_rfl
  obtain ⟨inf, hi, hs⟩ := Option.map_eq_some_iff.1 h2
  have h3 : Sem.run Tryz.prog (sizeOf (Tryz.prog.elem 224)) w = .ok 1 w := by simp [sizeOf, run_typeInfo w hi, hs]
  rw [h3]
  show Result.ok (slicedAt _ _ _ _ _) w = _
  rw [hal]
  unfold slicedAt
  rw [if_neg (by rw [Int.toNat_natCast]; omega : ¬ (65 = (i : Int).toNat))]
  have e : (⟨b, 0, none⟩ : Addr).add ((i : Int).toNat * 1) = ⟨b, i, none⟩ := by unfold Addr.add; split <;> simp_all
  rw [e, show 65 - (i : Int).toNat = n from by simp; omega]
theorem digs_conv {w : World} {b i : Nat} {D : List UInt8} (h : DigsAt w b i D) : Sem.run Tryz.prog (convert 78 9 (.slice (some ⟨b, i, none⟩) D.length D.length)) w = .ok (.string ⟨D.toArray⟩) w := by
  obtain ⟨cs, h1, h2, h3, h4⟩ := h
  refine run_convert_bytes_back w _ _ _ ⟨b, i, none⟩ D.length D Tryz.underlying78 Tryz.underlying5 Tryz.underlying9 ?_
  intro j hj
  have := h1.cell (i + j)
  rw [h4 j hj] at this
  have hadd : (⟨b, i, none⟩ : Addr).add j = ⟨b, i + j, none⟩ := by unfold Addr.add; split <;> simp_all
  rw [hadd]; exact this
set_option maxRecDepth 100000 in
set_option maxHeartbeats 4000000 in
theorem format_bits (n : Nat) (w : World) (h : LayB w) (hn : n ≤ 4294967295) (h10 : 10 ≤ n) :
    Calls Tryz.prog 176 #[.slice none 0 0, .int .u64 n, .int .i64 16, .bool false, .bool false] w fun e w' => ∃ v, e = .returned (.tuple #[v, .string ⟨(basedT 16 false n).toArray⟩]) ∧ Below w.heap.size w w' := by
  have hp := pow_two
  have ht := tz_any
  have hst : DigsAt (w.alloc (.cells Tryz.zeroCells224 224)) w.heap.size 65 [] := ⟨_, Holds.new w _ _, by kernel_rfl, rfl, fun j hj => absurd hj (by simp)⟩
  have hlb := h.keeps ((Keeps.refl (fun _ => False) w).alloc (.cells Tryz.zeroCells224 224)) (fun e => e)
  have HST := Lib.hid hst
  have HLB := Lib.hid hlb
  clear hst hlb
  go_enter Tryz.func176, Tryz.ntmps176
  go_wp2_with fail
  refine (hp _).mono ?_
  rintro e w1 ⟨rfl, rfl⟩
  go_wp2_with fail
  refine (ht _ (by exact HLB.out)).mono ?_
  rintro e w1 ⟨rfl, rfl⟩
  go_wp2_with fail
  go_loopg [1, 13] 7 (fun f x y wr => ∃ (u i : Nat) (D : List UInt8), x = .int .u64 u ∧ y = .int .i64 (i : Int) ∧ i = 58 + f ∧ f ≤ 7 ∧ u < 16 ^ (f + 1) ∧ u ≤ 4294967295 ∧ Hid (basedT 16 false n = basedT 16 false u ++ D) ∧ DigsAt wr w.heap.size i D ∧ Below w.heap.size w wr)
  case atStart => exact ⟨n, 65, [], rfl, rfl, rfl, by omega, by omega, hn, Lib.hid (by simp), HST.out, (Below.refl _ _).alloc (Nat.le_refl _) _⟩
  case round =>
    obtain ⟨u, i, D, rfl, rfl, hif, hf, hu, hu2, hD, hA, hb⟩ := hrel
    obtain ⟨bb, hbb⟩ : ∃ b, b = w.heap.size := ⟨_, rfl⟩
    rw [← hbb] at hA
    rw [← hbb]
    have HBB := Lib.hid hbb
    clear hbb
    obtain ⟨d, hd⟩ : ∃ d, d = u % 16 := ⟨_, rfl⟩
    have hd16 : d < 16 := by omega
    have HDD := Lib.hid hd
    obtain ⟨i, rfl⟩ : ∃ k, i = k + 1 := ⟨i - 1, by omega⟩
    obtain ⟨f1, f2, vo, f3⟩ := hA.facts (k := i) (by omega)
    have hw1 : IntKind.i64.wrap (((i + 1 : Nat) : Int) - 1) = (i : Int) := by rw [IntWalk.i64_in _ (by omega)]; omega
    have hi0 : (0 : Int) ≤ (i : Int) := by omega
    have hi65 : (i : Int) < 65 := by omega
    have hd0 : (0 : Int) ≤ (d : Int) := by omega
    have hd36 : (d : Int) < 36 := by omega
    have hdg := digs_at hd16 (by show d < 36; omega)
    unfold digsS at hdg
    by_cases h16 : 16 ≤ u
    · have hge : (16 : Int) ≤ (u : Int) := by omega
      have hg0 : 0 < gk := by
        rcases Nat.lt_or_ge 0 gk with c | c
        · exact c
        · obtain rfl : gk = 0 := by omega
          simp at hu; omega
      have hand : bits .and .u64 (u : Int) 15 = (d : Int) := by rw [and_15 _ (by omega) (by omega)]; omega
      obtain ⟨u2, hu3⟩ : ∃ x, x = u / 16 := ⟨_, rfl⟩
      have hdu : (u : Int) / 16 = (u2 : Int) := by omega
      have HU3 := Lib.hid hu3
      clear hu3
      have HU := Lib.hid hu
      have HH := Lib.hid h16
      have HI := Lib.hid hif
      clear hd hu h16 hif
      go_wp2_with fail
      have hbb := HBB.out
      subst hbb
      go_roundg (gk - 1)
      case measure => omega
      case rel =>
        have hbd := HDD.out
        have hif := HI.out
        refine ⟨u2, i, digCh false d :: D, rfl, rfl, by omega, by omega, ?_, by have := HU3.out; omega, Lib.hid ?_, hA.put _ _ rfl, ?_⟩
        · have h1 := HU.out
          have h2 := HU3.out
          rw [show gk - 1 + 1 = gk from by omega]
          rw [Nat.pow_succ] at h1
          omega
        · rw [hD.out, basedT_great 16 false (by omega) u HH.out, ← hbd, ← HU3.out]; simp
        · exact hb.setCell (Nat.le_refl _) _
    · have hge : ¬ (16 : Int) ≤ (u : Int) := by omega
      obtain rfl : d = u := by omega
      have HI := Lib.hid hif
      have HH := Lib.hid h16
      clear hd hu h16 hif
      have hA2 := hA.put (digCh false d) _ rfl
      have hb2 := hb.setCell (p := ⟨bb, i, none⟩) (by show _ ≤ bb; rw [HBB.out]; exact Nat.le_refl _) (.int .u8 (digCh false d).toNat)
      obtain ⟨E, hE⟩ : ∃ E, E = digCh false d :: D := ⟨_, rfl⟩
      rw [← hE] at hA2
      have hcv := digs_conv hA2
      have hEl : i + E.length = 65 := by obtain ⟨_, _, _, h, _⟩ := hA2; exact h
      have hsl := slice_65 bb i E.length hEl (by rw [hE]; simp)
      have HEE := Lib.hid hE
      have HB2 := Lib.hid hb2
      clear hE hA2 hb2 hEl
      go_wp2_with fail
      go_ret2
      exact ⟨⟨_, by rw [hD.out, basedT_small 16 false d (by have := HH.out; omega), HEE.out]; rfl⟩, HB2.out⟩
end Go.Proofs.YtiojnbhomjkkgaaGreatDoor

namespace Go.Proofs.YtiojnbhomjkkgaaGreatDoor
open Go.RowKit

theorem itoa_small (n : Nat) (w : World) (hn : n < 10) : Calls Tryz.prog 173 #[.int .i64 n] w fun e w' => e = .returned (.string ⟨#[digCh false n]⟩) ∧ w = w' := by
  have h1 : (n : Int) < 10 := by omega
  have h0 : (0 : Int) ≤ (n : Int) := by omega
  go_enter Tryz.func173, Tryz.ntmps173
  go_wp2_with fail
  go_ret
  have : ∀ x : Fin 10, digsS.extract x.val (x.val + 1) = ⟨#[digCh false x]⟩ := by decide +kernel
  have h2 := this ⟨n, hn⟩
  exact ⟨by rw [← h2]; rfl, rfl⟩
theorem int_format (n : Nat) (w : World) (h : LayB w) (hn : n ≤ 4294967295) (h10 : 10 ≤ n) :
    Calls Tryz.prog 96 #[.int .i64 n, .int .i64 16] w fun e w' => e = .returned (.string ⟨(basedT 16 false n).toArray⟩) ∧ Below w.heap.size w w' := by
  have hf := format_bits n w h hn h10
  have h0 : ¬ (n : Int) < 0 := by omega
  have h1 : (n : Int) ≤ 4294967295 := by omega
  go_enter Tryz.func96, Tryz.ntmps96
  go_wp2_with fail
  refine (by exact hf : Calls _ _ _ _ _).mono ?_
  rintro e w' ⟨v, rfl, hb⟩
  go_wp2_with fail
  go_ret
  exact ⟨rfl, hb⟩
theorem str_format (n : Nat) (w : World) (h : LayB w) (hn : n ≤ 4294967295) (h10 : 10 ≤ n) :
    Calls Tryz.prog 54 #[.int .i64 n, .int .i64 16] w fun e w' => e = .returned (.string ⟨(basedT 16 false n).toArray⟩) ∧ Below w.heap.size w w' := by
  have hf := int_format n w h hn h10
  go_enter Tryz.func54, Tryz.ntmps54
  go_wp2_with fail
  refine (by exact hf : Calls _ _ _ _ _).mono ?_
  rintro e w' ⟨rfl, hb⟩
  go_wp2_with fail
  go_ret
  exact ⟨rfl, hb⟩
theorem int_small (n : Nat) (w : World) (hn : n < 10) : Calls Tryz.prog 96 #[.int .i64 n, .int .i64 10] w fun e w' => e = .returned (.string ⟨#[digCh false n]⟩) ∧ w = w' := by
  have hf := itoa_small n w hn
  have h0 : (0 : Int) ≤ (n : Int) := by omega
  have h1 : (n : Int) < 100 := by omega
  go_enter Tryz.func96, Tryz.ntmps96
  go_wp2_with fail
  refine (by exact hf : Calls _ _ _ _ _).mono ?_
  rintro e w' ⟨rfl, rfl⟩
  go_wp2_with fail
  go_ret
  exact ⟨rfl, rfl⟩
theorem int_itoa (n : Nat) (w : World) (hn : n < 10) : Calls Tryz.prog 95 #[.int .i64 n] w fun e w' => e = .returned (.string ⟨#[digCh false n]⟩) ∧ w = w' := by
  have hf := int_small n w hn
  have h1 : (n : Int) < 100 := by omega
  go_enter Tryz.func95, Tryz.ntmps95
  go_wp2_with fail
  refine (by exact hf : Calls _ _ _ _ _).mono ?_
  rintro e w' ⟨rfl, rfl⟩
  go_wp2_with fail
  go_ret
  exact ⟨rfl, rfl⟩
theorem str_itoa (n : Nat) (w : World) (hn : n < 10) : Calls Tryz.prog 53 #[.int .i64 n] w fun e w' => e = .returned (.string ⟨#[digCh false n]⟩) ∧ w = w' := by
  have hf := int_itoa n w hn
  go_enter Tryz.func53, Tryz.ntmps53
  go_wp2_with fail
  refine (by exact hf : Calls _ _ _ _ _).mono ?_
  rintro e w' ⟨rfl, rfl⟩
  go_wp2_with fail
  go_ret
  exact ⟨rfl, rfl⟩
/-- Format. -/
def formT (n : Int) : List UInt8 := if n < 0 ∨ 4294967295 < n then [] else fmtT n.toNat
theorem exp_Format (n : Int) (w : World) (h : LayB w) :
    Calls Tryz.prog 22 #[.int .i64 n] w fun e w' => e = .returned (.string ⟨(formT n).toArray⟩) ∧ Below w.heap.size w w' := by
  by_cases h0 : n < 0
  · have hF := Lib.hid (show formT n = [] from by unfold formT; rw [if_pos (.inl h0)])
    go_enter Tryz.func22, Tryz.ntmps22
    go_wp2_with fail
    go_ret
    exact ⟨by rw [hF.out]; rfl, Below.refl _ _⟩
  · by_cases h1 : 4294967295 < n
    · have hF := Lib.hid (show formT n = [] from by unfold formT; rw [if_pos (.inr h1)])
      go_enter Tryz.func22, Tryz.ntmps22
      go_wp2_with fail
      go_ret
      exact ⟨by rw [hF.out]; rfl, Below.refl _ _⟩
    · obtain ⟨k, rfl⟩ := Int.eq_ofNat_of_zero_le (by omega : 0 ≤ n)
      have hF : formT (k : Int) = fmtT k := by unfold formT; rw [if_neg (by omega)]; rfl
      by_cases h2 : k < 10
      · have hf := str_itoa k w h2
        have hF2 := Lib.hid (show formT (k : Int) = [digCh false k] from by rw [hF]; unfold fmtT; rw [if_pos h2])
        have h3 : (k : Int) < 10 := by omega
        clear hF
        go_enter Tryz.func22, Tryz.ntmps22
        go_wp2_with fail
        refine (by exact hf : Calls _ _ _ _ _).mono ?_
        rintro e w' ⟨rfl, rfl⟩
        go_wp2_with fail
        go_ret
        exact ⟨by rw [hF2.out]; rfl, Below.refl _ _⟩
      · have hf := str_format k w h (by omega) (by omega)
        have hF2 := Lib.hid (show formT (k : Int) = 48 :: 120 :: basedT 16 false k from by rw [hF]; unfold fmtT; rw [if_neg h2])
        have h3 : ¬ (k : Int) < 10 := by omega
        clear hF
        have hlen : (basedT 16 false k).length ≤ 33 := basedT_len 16 false (by omega) 32 k (by omega)
        have had := adds_of [48, 120] (basedT 16 false k) (by simp; omega)
        obtain ⟨E, hE⟩ : ∃ E : List UInt8, E = [48, 120] ++ basedT 16 false k := ⟨_, rfl⟩
        rw [← hE] at had
        have HE := Lib.hid hE
        unfold Adds at had
        clear hE hlen
        go_enter Tryz.func22, Tryz.ntmps22
        go_wp2_with fail
        refine (by exact hf : Calls _ _ _ _ _).mono ?_
        rintro e w' ⟨rfl, hb⟩
        go_wp2_with fail
        go_ret
        exact ⟨by rw [hF2.out, HE.out]; rfl, hb⟩
end Go.Proofs.YtiojnbhomjkkgaaGreatDoor
