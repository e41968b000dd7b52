/- Contracts of bringuplaw08: crafted (some bytes). | The law BlobBack: its walk. -/
import Derived.Test.YtofhcgbihonckaaGreatDoorZ33
import Derived.Test.YtofhcgbihonckaaGreatDoorZ20
import Derived.Test.YtofhcgbihonckaaGreatDoorZ7
import Derived.StillTailTactics
import Derived.Lib.SlBytesConst
import Derived.Deep.DeepCutAuto
import Derived.Deep.CutBlock
import Derived.Test.YtofhcgbihonckaaGreatDoorZ19
import Derived.Test.YtofhcgbihonckaaGreatDoorZ31

set_option linter.unusedVariables false
set_option linter.unusedSimpArgs false
set_option linter.unusedSectionVars false

namespace Go.Proofs.YtofhcgbihonckaaGreatDoor
open Go.RowKit Go.ChangeMaps

theorem row_prefix {w : World} {base : Nat} {e : TypeId} {size g n cap : Nat} {xs : List Value} (h : w.ownsRow base e size (.slice (some ⟨g, 0, none⟩) n cap) n xs) (q : Nat) (hq : q ≤ n) :
    w.ownsRow base e size (.slice (some ⟨g, 0, none⟩) q cap) q (xs.take (q * size)) := by
  obtain ⟨hl, h2⟩ := h
  have hm : q * size ≤ n * size := Nat.mul_le_mul_right _ hq
  refine ⟨by rw [List.length_take, hl]; omega, .inr ?_⟩
  rcases h2 with ⟨e1, _⟩ | ⟨g', cap', cur, e1, hb, hh, h1, h2, h3, h4⟩
  · cases e1
  · cases e1
    exact ⟨g, cap, cur, rfl, hb, hh, by omega, h2, h3, by rw [← h4, List.take_take, Nat.min_eq_left hm]⟩
theorem Bts.pre {w : World} {base g c : Nat} {l : List UInt8} (h : Bts w base (.slice (some ⟨g, 0, none⟩) l.length c) l) (q : Nat) (hq : q ≤ l.length) : Bts w base (.slice (some ⟨g, 0, none⟩) q c) (l.take q) := by
  have h2 := row_prefix h q hq
  unfold Bts
  rw [List.length_take, Nat.min_eq_left hq, show Lib.byteCells (l.take q) = (Lib.byteCells l).take (q * 1) from by simp [Lib.byteCells, List.map_take]]
  exact h2
/-- What crafted leaves: some bytes. -/
def CrPost (B b : Nat) (w : World) (e : Ending) (w' : World) : Prop := ∃ v l, e = .returned v ∧ l.length ≤ 90000 ∧ Bts w' w.heap.size v l ∧ Tape B w' b ∧ Keeps (· = b) w w'
/-- What it holds ahead of its end. -/
def CrS (B b base : Nat) (W : World) (v6 v7 : Value) (w : World) : Prop :=
  ∃ l6 l7, Bts w base v6 l6 ∧ BytesAt w v7 l7 ∧ l6.length ≤ 41000 ∧ l7.length ≤ 41000 ∧ Tape B w b ∧ Keeps (· = b) W w
set_option maxRecDepth 100000 in
set_option maxHeartbeats 8000000 in
theorem law08_crafted (B b g o cp : Nat) (bs s n : List UInt8) (w : World) (hbs : bs = sealT s n) (h4 : s.length % 4 = 0) (h12 : 4 ≤ s.length) (hL : bs.length ≤ 40000) (hT : Tape B w b) (hv : BytesAt w (.slice (some ⟨g, o, none⟩) bs.length cp) bs) :
    Calls Tryz.prog 17 #[.pointer (some ⟨b, 0, none⟩), .slice (some ⟨g, o, none⟩) bs.length cp] w (CrPost B b w) := by
  obtain ⟨a', c', e1, hc1, hc2, hat⟩ := id hv
  cases e1
  have hlen := seal_len s n
  have hnum := (seal_nums s n (by rw [hbs] at hL; omega)).2.2.1
  rw [← hbs] at hlen hnum
  obtain ⟨g', o', e1, hc⟩ := hat (by omega)
  cases e1
  have k0 := hc 8 (by omega)
  have k1 := hc 9 (by omega)
  have k2 := hc 10 (by omega)
  have k3 := hc 11 (by omega)
  have hn := Lib.hid (show wordT (bs[8]'(by omega)) (bs[9]'(by omega)) (bs[10]'(by omega)) (bs[11]'(by omega)) = ((s.length : Nat) : Int) from by
    rw [← hnum]
    unfold numB wordT
    have e : ∀ j (h : j < bs.length), bs.getD j 0 = bs[j] := fun j h => by rw [List.getD_eq_getElem?_getD, List.getElem?_eq_getElem h]; rfl
    rw [e 8 (by omega), e 9 (by omega), e 10 (by omega), e 11 (by omega)]
    omega)
  generalize bs[8]'(by omega) = b0 at *
  generalize bs[9]'(by omega) = b1 at *
  generalize bs[10]'(by omega) = b2 at *
  generalize bs[11]'(by omega) = b3 at *
  have WO := Lib.hid (word_or b0 b1 b2 b3)
  have W0 := Lib.hid (show IntKind.i64.wrap ((b0.toNat : Int) * 16777216) = (b0.toNat : Int) * 16777216 from wrap_mul b0 16777216 (by omega))
  have W1 := Lib.hid (show IntKind.i64.wrap ((b1.toNat : Int) * 65536) = (b1.toNat : Int) * 65536 from wrap_mul b1 65536 (by omega))
  have W2 := Lib.hid (show IntKind.i64.wrap ((b2.toNat : Int) * 256) = (b2.toNat : Int) * 256 from wrap_mul b2 256 (by omega))
  have w3 := wrap_byte b0
  have w4 := wrap_byte b1
  have w5 := wrap_byte b2
  have w6 := wrap_byte b3
  have r8 : (8 : Int) < bs.length := by omega
  have r9 : (9 : Int) < bs.length := by omega
  have r10 : (10 : Int) < bs.length := by omega
  have r11 : (11 : Int) < bs.length := by omega
  have HV := Lib.hid hv
  have HT := Lib.hid hT
  have HBS := Lib.hid hbs
  have HLEN := Lib.hid hlen
  clear hat hc hv hT hbs hnum hlen
  go_enter Tryz.func17, Tryz.ntmps17
  go_wp2_with fail
  go_quiet (fail)
  go_wp2_with fail
  have z0 := W0.out
  have z1 := W1.out
  have z2 := W2.out
  rw [IntWalk.i64_left] at z0 z1 z2
  rw [z0, z1, z2, WO.out, hn.out]
  generalize hwx : w.drewN _ = wx
  have hkx : Keeps (fun _ => False) w wx := by rw [← hwx]; exact (Keeps.refl _ w).drewN _
  have hsx : wx.heap.size = w.heap.size := by rw [← hwx]; simp
  have hTx : Tape B wx b := HT.out.keeps hkx (fun _ e => e.elim)
  have hVx := HV.out.keeps hkx (fun _ _ e => e)
  have hml : 28 + s.length ≤ bs.length := by have := HLEN.out; omega
  obtain ⟨o1, ho1, kA0⟩ := slice_win' g o bs.length cp 28 (28 + s.length) (by omega) (by omega)
  obtain ⟨o2, ho2, kC0⟩ := slice_from' g o bs.length cp (28 + s.length) hml hc1
  rw [Nat.add_sub_cancel_left] at ho1
  simp only [Int.natCast_add, Nat.add_sub_cancel_left, show ((28 : Nat) : Int) = 28 from rfl] at kA0 kC0
  have hA := bytes_win' hVx 28 s.length hml ho1
  have hC := bytes_end hVx (28 + s.length) hml ho2
  obtain ⟨A, hAe⟩ : ∃ A, A = (bs.drop 28).take s.length := ⟨_, rfl⟩
  obtain ⟨C, hCe⟩ : ∃ C, C = bs.drop (28 + s.length) := ⟨_, rfl⟩
  have hAl : A.length = s.length := by rw [hAe, List.length_take, List.length_drop]; omega
  have hCl : C.length ≤ 40000 := by rw [hCe, List.length_drop]; omega
  rw [← hAe] at hA
  rw [← hCe] at hC
  have HSX := Lib.hid hsx
  have HKX := Lib.hid hkx
  have HAL := Lib.hid hAl
  have hA4 : 4 ≤ A.length := by omega
  have hA5 : A.length ≤ 40000 := by omega
  have HA4 := Lib.hid (show A.length % 4 = 0 from by rw [hAl]; exact h4)
  clear hAe hCe hwx ho1 ho2 hkx hAl
  refine wp_region_any (by kernel_rfl) ?_
  refine wpAny_ops (ops' := lbrOps) (by kernel_rfl) ?_
  refine lbr_region w.heap.size (.slice (some ⟨g, o, none⟩) bs.length cp) _ _ s.length A C wx _ _ rfl (by omega) (by omega) (by omega) (by omega) (by omega) hA hC kA0 kC0 rfl rfl (((Keeps.refl (fun _ => False) wx).drew).below (Nat.le_refl _) (fun _ _ e => e)) ?_
  intro c w2 P5 P11 hsb hS2 hb6 ho6 hb7 ho7 hne
  obtain ⟨y6, y7, y31, y32, y33, y34, y35, y36, y37, y38, y39, y40, y41, y42, hcc⟩ := hsb.ex [6, 7, 31, 32, 33, 34, 35, 36, 37, 38, 39, 40, 41, 42] (by kernel_rfl)
  subst hcc
  simp only [List.setIfInBounds_toArray, List.set_cons_zero, List.set_cons_succ] at hb6 ho6 hb7 ho7 ⊢
  have h6 : Bts w2 w.heap.size y6 A := hb6
  have h7 : Bts w2 w.heap.size y7 C := hb7
  have e6 : y6.ownBlock = some P5 := ho6
  have e7 : y7.ownBlock = some P11 := ho7
  clear hb6 hb7 ho6 ho7 hsb hA hC kA0 kC0
  obtain ⟨g6, c6, rfl, hg61, hg62, hc6⟩ := bts_holds2 h6 (by omega)
  obtain rfl : g6 = P5 := Option.some.inj e6
  obtain ⟨a7, c7, rfl⟩ := h7.shape
  have hT2 := hTx.new hS2
  have hk2 : Keeps (· = b) w w2 := (HKX.out.mono (S := (· = b)) (fun _ _ e => e.elim)).trans (Keeps.of_fresh hS2 _) (fun _ _ e => e)
  have htb := HT.out.lt
  have HK2 := Lib.hid hk2
  clear hTx hVx hS2 hk2 e6
  have hs2 := HK2.out.size
  go_wp2_with fail
  refine (mk_N B b (A.length : Int) _ hT2 (by omega) (by omega)).mono ?_
  rintro e w3' ⟨r, rfl, hr1, hr2, hT3, hk3⟩
  obtain ⟨k, rfl⟩ : ∃ k : Nat, r = (k : Int) := ⟨r.toNat, by omega⟩
  have h63 := h6.keeps hk3 (fun q hq e => by have e1 : g6 = q := Option.some.inj hq; have e2 : q = b := e; omega)
  have h73 := h7.keeps hk3 (fun q hq e => by have := (h7.lt q hq).1; have e2 : q = b := e; omega)
  have HK3 := Lib.hid (HK2.out.trans hk3 (fun _ _ e => e))
  clear h6 h7 hT2 hk3
  go_wp2_with fail
  refine (mk_N B b 6 _ hT3 (by omega) (by omega)).mono ?_
  rintro e w4' ⟨r, rfl, hq1, hq2, hT4, hk4⟩
  have h64 := h63.keeps hk4 (fun q hq e => by have e1 : g6 = q := Option.some.inj hq; have e2 : q = b := e; omega)
  have h74 := h73.keeps hk4 (fun q hq e => by have := (h73.lt q hq).1; have e2 : q = b := e; omega)
  have HK4 := Lib.hid (HK3.out.trans hk4 (fun _ _ e => e))
  have hs4 := HK4.out.size
  clear h63 h73 hT3 hk4
  go_upto_block 0 with fail
  have h6a := h64
  obtain ⟨q, hq⟩ : ∃ q, q = k / 4 * 4 := ⟨_, rfl⟩
  have hkA : k < A.length := by omega
  have hqA : q + 4 ≤ A.length := by have := HA4.out; omega
  have hqi : (k : Int) / 4 * 4 = (q : Int) := by omega
  have hTl := hT4.lt
  have HH6 := Lib.hid h64
  have HH7 := Lib.hid h74
  have HT4 := Lib.hid hT4
  have HQ := Lib.hid hq
  have hg64 : g6 < w4'.heap.size := (h64.lt g6 rfl).2
  have hgb6 : g6 ≠ b := by omega
  have hC7 : ∀ x, Value.ownBlock (.slice a7 C.length c7) = some x → x ≠ g6 := fun x hx e => hne (by rw [← e]; rw [e7] at hx; exact (Option.some.inj hx).symm)
  have hC7b : ∀ x, Value.ownBlock (.slice a7 C.length c7) = some x → w.heap.size ≤ x ∧ x < w4'.heap.size := fun x hx => h74.lt x hx
  have HC7 := Lib.hid hC7
  have HC7B := Lib.hid hC7b
  obtain ⟨i0, hin, hz0, hz1, hz2⟩ := info_parts infoU8
  have hkr : (k : Int) < (A.length : Int) := by omega
  clear h64 h74 hT4 h6a hq hC7 hC7b
  go_cut [6, 7] (fun x6 x7 wx => CrS B b w.heap.size w x6 x7 wx)
  case first =>
    have hrc : r = 0 ∨ r = 1 ∨ r = 2 ∨ r = 3 ∨ r = 4 ∨ r = 5 := by omega
    rcases hrc with rfl | rfl | rfl | rfl | rfl | rfl
    · go_wp2_with fail
      refine (mk_N B b 256 _ HT4.out (by omega) (by omega)).mono ?_
      rintro e w5' ⟨r0, rfl, hr01, hr02, hT5, hk5⟩
      have h65 := HH6.out.keeps hk5 (fun x hx e => by have e1 : g6 = x := Option.some.inj hx; have e2 : x = b := e; omega)
      have h75 := HH7.out.keeps hk5 (fun x hx e => by have := HC7B.out x hx; have e2 : x = b := e; omega)
      have HK5 := Lib.hid (HK4.out.trans hk5 (fun _ _ e => e))
      have hs5 := hk5.size
      have hL5 := Holds.new w5' #[.int .i64 0, .int .i64 1, .int .i64 2, .int .i64 3, .int .i64 4, .int .i64 9, .int .i64 97, .int .i64 r0] 3
      have hb5 : Below w5'.heap.size w5' (w5'.alloc (.cells #[.int .i64 0, .int .i64 1, .int .i64 2, .int .i64 3, .int .i64 4, .int .i64 9, .int .i64 97, .int .i64 r0] 3)) := (Below.refl _ _).alloc (Nat.le_refl _) _
      have hT6 := hT5.new hb5
      have h66 := h65.keeps (Keeps.of_fresh hb5 (fun _ => False)) (fun _ _ e => e)
      have h76 := h75.keeps (Keeps.of_fresh hb5 (fun _ => False)) (fun _ _ e => e)
      have HK6 := Lib.hid (HK5.out.trans (Keeps.of_fresh hb5 _) (fun _ _ e => e))
      have hTl5 := hT5.lt
      have hs6 := hb5.size
      have H66 := Lib.hid h66
      have H76 := Lib.hid h76
      clear h65 h75 hT5 hk5 hb5 h66 h76
      go_wp2_with fail
      refine (mk_Pick B b w5'.heap.size 0 8 [0, 1, 2, 3, 4, 9, 97, r0] _ hT6 (by simp) (by simp) (by omega) (fun i hi => by
        rw [Nat.zero_add, hL5.cell i]
        have hi8 : i < 8 := hi
        obtain rfl | rfl | rfl | rfl | rfl | rfl | rfl | rfl : i = 0 ∨ i = 1 ∨ i = 2 ∨ i = 3 ∨ i = 4 ∨ i = 5 ∨ i = 6 ∨ i = 7 := by omega
        all_goals rfl)).mono ?_
      rintro e w7' ⟨r1, rfl, -, hT7, hk7⟩
      have h67 := H66.out.keeps hk7 (fun x hx e => by have e1 : g6 = x := Option.some.inj hx; have e2 : x = b := e; omega)
      have h77 := H76.out.keeps hk7 (fun x hx e => by have := HC7B.out x hx; have e2 : x = b := e; omega)
      have hK7 := HK6.out.trans hk7 (fun _ _ e => e)
      obtain ⟨z, hz⟩ := u8_wrap r1
      have hzz : r1 % 256 = (z.toNat : Int) := by rw [← hz, IntKind.wrap_u8]
      obtain ⟨_, cur7, hH7⟩ := bts_holds h67 rfl
      have f7 := hH7.free k
      have l7' := hH7.lt
      have hp := h67.put k z
      rw [List.length_set] at hp
      have kz : Keeps (· = g6) w7' (w7'.setCell ⟨g6, k, none⟩ (.int .u8 (z.toNat : Int))) := (Keeps.refl (· = g6) w7').setCell (p := ⟨g6, k, none⟩) (.inr rfl) _
      obtain ⟨ax, cx, ex, -, -, hcell⟩ := h67.read
      cases ex
      obtain ⟨gx, ox, ex, hcell2⟩ := hcell (by omega)
      cases ex
      have c7k := hcell2 k hkA
      rw [Nat.zero_add] at c7k
      have HF := Lib.hid (show CrS B b w.heap.size w (.slice (some ⟨g6, 0, none⟩) A.length c6) (.slice a7 C.length c7) (w7'.setCell ⟨g6, k, none⟩ (.int .u8 (z.toNat : Int))) from
        ⟨A.set k z, C, by unfold Bts; rw [List.length_set]; unfold Bts at hp; rw [List.length_set] at hp; exact hp, (h77.keeps kz (fun x hx e => HC7.out x hx e)).read, by rw [List.length_set]; omega, by omega, hT7.keeps kz (fun i e => by subst e; exact ⟨by have := hT7.1; omega, hgb6⟩), hK7.trans kz (fun i hi e => by have e2 : i = g6 := e; omega)⟩)
      clear hcell hcell2 hp kz hH7 h67 h77 hK7 hk7 hT7 hT6 hL5
      go_wp2_with fail
      go_meet
      case rel => exact HF.out
    · have hq4 : IntKind.i64.wrap ((q : Int) + 4) = (q : Int) + 4 := IntWalk.i64_in _ (by omega)
      have hw1 : IntKind.i64.wrap ((k : Int) / 4) = (k : Int) / 4 := IntWalk.i64_in _ (by omega)
      have hw3 : IntKind.i64.wrap (q : Int) = (q : Int) := IntWalk.i64_in _ (by omega)
      have hw4 : (q : Int) ≤ (c6 : Int) := by omega
      obtain ⟨o3, ho3, kf⟩ := slice_from' g6 0 A.length c6 (q + 4) hqA hc6
      simp only [Int.natCast_add, show ((4 : Nat) : Int) = 4 from rfl] at kf
      have kt := fun W : World => slice_to W g6 0 A.length c6 q (by omega) (by omega)
      have hpre := (HH6.out.pre q (by omega))
      have hsrc := (bytes_end HH6.out.read (q + 4) hqA ho3)
      have hdl : (A.drop (q + 4)).length = A.length - (q + 4) := List.length_drop
      have HSRC := Lib.hid hsrc
      have HPRE := Lib.hid (show w4'.ownsRow w.heap.size 5 1 (.slice (some ⟨g6, 0, none⟩) q c6) q (Lib.byteCells (A.take q)) from by
        unfold Bts at hpre; rw [List.length_take, Nat.min_eq_left (by omega)] at hpre; exact hpre)
      have HDL := Lib.hid hdl
      clear hpre hsrc hdl ho3
      go_wp2_with fail
      go_still_tail 11, (by kernel_rfl)
      go_wp2_with (at_builtin; refine wpList_append_src _ rfl _ _ 26 26 rfl w.heap.size 5 i0 (.int .u8 0) 1 1 Tryz.underlying26 hin hz0 hz1 hz2 rfl (.slice (some ⟨g6, 0, none⟩) q c6) q (Lib.byteCells (A.take q)) (by rfl) (by exact HPRE.out) (.slice (some ⟨g6, o3, none⟩) (A.length - (q + 4)) (c6 - (q + 4))) (by rfl) (A.length - (q + 4)) (Lib.byteCells (A.drop (q + 4))) ?g1 ?g2 ?g3 ?g4 ?_)
      case g1 => have := (HSRC.out.keeps ((Keeps.refl (fun _ => False) w4').drew) (fun _ _ e => e)).src; rw [HDL.out] at this; exact this
      case g2 => unfold maxLen; omega
      case g3 => omega
      intro v8 w8 hown8 hgrow8 hat8
      have hk8 : Keeps (fun i => i = g6) w4'.drew w8 := Keeps.of_grown hgrow8 (fun i e => (Option.some.inj (show some g6 = some i from e)).symm)
      have hk84 : Keeps (fun i => i = g6) w4' w8 := (((Keeps.refl (fun _ => False) w4').drew).mono (S := fun i => i = g6) (fun _ _ e => e.elim)).trans hk8 (fun _ _ e => e)
      have HF := Lib.hid (show CrS B b w.heap.size w v8 (.slice a7 C.length c7) w8 from
        ⟨A.take q ++ A.drop (q + 4), C, by
          unfold Bts
          rw [List.length_append, HDL.out, List.length_take, Nat.min_eq_left (by omega), show Lib.byteCells (A.take q ++ A.drop (q + 4)) = Lib.byteCells (A.take q) ++ Lib.byteCells (A.drop (q + 4)) from by simp [Lib.byteCells]]
          exact hown8, (HH7.out.keeps hk84 (fun x hx e => HC7.out x hx e)).read, by rw [List.length_append, HDL.out, List.length_take]; omega, by omega, HT4.out.keeps hk84 (fun i e => by subst e; exact ⟨by have := HT4.out.1; omega, hgb6⟩), HK4.out.trans hk84 (fun i hi e => by have e2 : i = g6 := e; omega)⟩)
      clear hk8 hk84 hown8 hgrow8 hat8
      go_wp2_with fail
      go_meet
      case rel => exact HF.out
    · have HF := Lib.hid (show CrS B b w.heap.size w (.slice (some ⟨g6, 0, none⟩) q c6) (.slice a7 C.length c7) w4' from
        ⟨A.take q, C, HH6.out.pre q (by omega), HH7.out.read, by rw [List.length_take]; omega, by omega, HT4.out, HK4.out⟩)
      go_wp2_with fail
      go_meet
      case rel => exact HF.out
    · skip
      have hLp3 := Holds.new w4' #[.int .i64 1, .int .i64 2, .int .i64 3, .int .i64 9, .int .i64 0, .int .i64 5, .int .i64 257] 3
      have hbnp3 : Below w4'.heap.size w4' (w4'.alloc (.cells #[.int .i64 1, .int .i64 2, .int .i64 3, .int .i64 9, .int .i64 0, .int .i64 5, .int .i64 257] 3)) := (Below.refl _ _).alloc (Nat.le_refl _) _
      have hTnp3 := HT4.out.new hbnp3
      have H6np3 := Lib.hid (HH6.out.keeps (Keeps.of_fresh hbnp3 (fun _ => False)) (fun _ _ e => e))
      have H7np3 := Lib.hid (HH7.out.keeps (Keeps.of_fresh hbnp3 (fun _ => False)) (fun _ _ e => e))
      have HKnp3 := Lib.hid (HK4.out.trans (Keeps.of_fresh hbnp3 _) (fun _ _ e => e))
      have hTlp3 := HT4.out.lt
      have hsnp3 := hbnp3.size
      clear hbnp3
      go_wp2_with fail
      refine (mk_Pick B b w4'.heap.size 0 7 [1, 2, 3, 9, 0, 5, 257] _ hTnp3 (by simp) (by simp) (by omega) (fun i hi => by
        rw [Nat.zero_add, hLp3.cell i]
        have hi8 : i < 7 := hi
        obtain rfl | rfl | rfl | rfl | rfl | rfl | rfl : i = 0 ∨ i = 1 ∨ i = 2 ∨ i = 3 ∨ i = 4 ∨ i = 5 ∨ i = 6 := by omega
        all_goals rfl)).mono ?_
      rintro e wp3 ⟨rp3, rfl, hrmp3, hTp3, hkpp3⟩
      have h6p3 := H6np3.out.keeps hkpp3 (fun x hx e => by have e1 : g6 = x := Option.some.inj hx; have e2 : x = b := e; omega)
      have h7p3 := H7np3.out.keeps hkpp3 (fun x hx e => by have := HC7B.out x hx; have e2 : x = b := e; omega)
      have hKp3 := HKnp3.out.trans hkpp3 (fun _ _ e => e)
      have hssp3 := hkpp3.size
      have hrb : 0 ≤ rp3 ∧ rp3 ≤ 4294967295 := by
        simp only [List.mem_cons, List.not_mem_nil, or_false] at hrmp3
        omega
      have hput := law08_put w.heap.size g6 c6 A q rp3 wp3 h6p3 hqA (by omega) hrb.1 hrb.2
      have HPUT := Lib.hid hput
      have H7P := Lib.hid h7p3
      have HKP := Lib.hid hKp3
      have HTP := Lib.hid hTp3
      have hrr := (h6p3.lt g6 rfl).2
      clear hput h6p3 h7p3 hKp3 hTp3 hkpp3 hLp3 hTnp3 hrmp3
      go_wp2_with fail
      refine (by exact HPUT.out : Calls _ _ _ _ _).mono ?_
      rintro e w8 ⟨⟨x8, rfl⟩, ⟨l8, hl8, hb8⟩, hk8⟩
      have HF := Lib.hid (show CrS B b w.heap.size w (.slice (some ⟨g6, 0, none⟩) A.length c6) (.slice a7 C.length c7) w8 from
        ⟨l8, C, hb8, (H7P.out.keeps hk8 (fun x hx e => HC7.out x hx e)).read, by omega, by omega, HTP.out.keeps hk8 (fun i e => by subst e; exact ⟨by have := HTP.out.1; omega, hgb6⟩), HKP.out.trans hk8 (fun i hi e => by have e2 : i = g6 := e; omega)⟩)
      clear hl8 hb8 hk8
      go_wp2_with fail
      go_meet
      case rel => exact HF.out
    · skip
      have hLp4 := Holds.new w4' #[.int .i64 9, .int .i64 0] 3
      have hbnp4 : Below w4'.heap.size w4' (w4'.alloc (.cells #[.int .i64 9, .int .i64 0] 3)) := (Below.refl _ _).alloc (Nat.le_refl _) _
      have hTnp4 := HT4.out.new hbnp4
      have H6np4 := Lib.hid (HH6.out.keeps (Keeps.of_fresh hbnp4 (fun _ => False)) (fun _ _ e => e))
      have H7np4 := Lib.hid (HH7.out.keeps (Keeps.of_fresh hbnp4 (fun _ => False)) (fun _ _ e => e))
      have HKnp4 := Lib.hid (HK4.out.trans (Keeps.of_fresh hbnp4 _) (fun _ _ e => e))
      have hTlp4 := HT4.out.lt
      have hsnp4 := hbnp4.size
      clear hbnp4
      go_wp2_with fail
      refine (mk_Pick B b w4'.heap.size 0 2 [9, 0] _ hTnp4 (by simp) (by simp) (by omega) (fun i hi => by
        rw [Nat.zero_add, hLp4.cell i]
        have hi8 : i < 2 := hi
        obtain rfl | rfl : i = 0 ∨ i = 1 := by omega
        all_goals rfl)).mono ?_
      rintro e wp4 ⟨rp4, rfl, hrmp4, hTp4, hkpp4⟩
      have h6p4 := H6np4.out.keeps hkpp4 (fun x hx e => by have e1 : g6 = x := Option.some.inj hx; have e2 : x = b := e; omega)
      have h7p4 := H7np4.out.keeps hkpp4 (fun x hx e => by have := HC7B.out x hx; have e2 : x = b := e; omega)
      have hKp4 := HKnp4.out.trans hkpp4 (fun _ _ e => e)
      have hssp4 := hkpp4.size
      obtain ⟨z, hz⟩ := u8_wrap rp4
      have hzz : rp4 % 256 = (z.toNat : Int) := by rw [← hz, IntKind.wrap_u8]
      have H6P := Lib.hid h6p4
      have H7P := Lib.hid h7p4
      have HKP := Lib.hid hKp4
      have HTP := Lib.hid hTp4
      have hrr := (h6p4.lt g6 rfl).2
      have hsk := hKp4.size
      clear h6p4 h7p4 hKp4 hTp4 hkpp4 hLp4 hTnp4 hrmp4
      go_wp2_with (at_builtin; refine wpList_append_src _ rfl _ _ 26 26 rfl w.heap.size 5 i0 (.int .u8 0) 1 1 Tryz.underlying26 hin hz0 hz1 hz2 rfl _ A.length (Lib.byteCells A) rfl (by exact World.ownsRow.alloc H6P.out _) _ rfl 4 [.int .u8 0, .int .u8 0, .int .u8 0, .int .u8 (z.toNat : Int)] ?h1 ?h2 ?h3 ?h4 ?_)
      case h1 => exact Src.ofSlice _ Tryz.underlying26 _ 4 4 _ rfl (new_cells _ _ _ _ rfl _ rfl) (fun u hu => by simp at hu; rcases hu with rfl | rfl <;> rfl)
      case h2 => unfold maxLen; omega
      case h3 => omega
      case h4 => first | omega | (simp; omega)
      intro v8 w8 hown8 hgrow8 hat8
      have hk8 : Keeps (fun i => i = g6) wp4 w8 := (((Keeps.refl (fun i => i = g6) wp4).alloc _)).trans (Keeps.of_grown hgrow8 (fun i e => (Option.some.inj (show some g6 = some i from e)).symm)) (fun _ _ e => e)
      have HF := Lib.hid (show CrS B b w.heap.size w v8 (.slice a7 C.length c7) w8 from
        ⟨A ++ [0, 0, 0, z], C, by
          unfold Bts
          rw [List.length_append, show Lib.byteCells (A ++ [0, 0, 0, z]) = Lib.byteCells A ++ [.int .u8 0, .int .u8 0, .int .u8 0, .int .u8 (z.toNat : Int)] from by simp [Lib.byteCells]]
          exact hown8, (H7P.out.keeps hk8 (fun x hx e => HC7.out x hx e)).read, by rw [List.length_append]; show A.length + 4 ≤ 41000; omega, by omega, HTP.out.keeps hk8 (fun i e => by subst e; exact ⟨by have := HTP.out.1; omega, hgb6⟩), HKP.out.trans hk8 (fun i hi e => by have e2 : i = g6 := e; omega)⟩)
      clear hk8 hown8 hgrow8 hat8
      go_wp2_with fail
      go_meet
      case rel => exact HF.out
    · by_cases hcz : 0 < C.length
      · have dz : decide ((0 : Int) < (C.length : Int)) = true := by simp; omega
        have dz' : decide (0 < C.length) = true := by simp; omega
        obtain ⟨g7, c7', ez, hg71, hg72, hc7⟩ := bts_holds2 HH7.out hcz
        cases ez
        have hg76 : g7 ≠ g6 := HC7.out g7 rfl
        have hg7b : g7 ≠ b := by omega
        go_wp2_with fail
        refine (mk_N B b (C.length : Int) _ HT4.out (by omega) (by omega)).mono ?_
        rintro e w5' ⟨r5, rfl, hr51, hr52, hT5, hk5⟩
        obtain ⟨j, rfl⟩ : ∃ j : Nat, r5 = (j : Int) := ⟨r5.toNat, by omega⟩
        have h65 := HH6.out.keeps hk5 (fun x hx e => by have e1 : g6 = x := Option.some.inj hx; have e2 : x = b := e; omega)
        have h75 := HH7.out.keeps hk5 (fun x hx e => by have := HC7B.out x hx; have e2 : x = b := e; omega)
        have HK5 := Lib.hid (HK4.out.trans hk5 (fun _ _ e => e))
        have hs5 := hk5.size
        clear hk5
        have hLp5 := Holds.new w5' #[.int .i64 0, .int .i64 97, .int .i64 64] 3
        have hbnp5 : Below w5'.heap.size w5' (w5'.alloc (.cells #[.int .i64 0, .int .i64 97, .int .i64 64] 3)) := (Below.refl _ _).alloc (Nat.le_refl _) _
        have hTnp5 := hT5.new hbnp5
        have H6np5 := Lib.hid (h65.keeps (Keeps.of_fresh hbnp5 (fun _ => False)) (fun _ _ e => e))
        have H7np5 := Lib.hid (h75.keeps (Keeps.of_fresh hbnp5 (fun _ => False)) (fun _ _ e => e))
        have HKnp5 := Lib.hid (HK5.out.trans (Keeps.of_fresh hbnp5 _) (fun _ _ e => e))
        have hTlp5 := hT5.lt
        have hsnp5 := hbnp5.size
        clear hbnp5
        go_wp2_with fail
        refine (mk_Pick B b w5'.heap.size 0 3 [0, 97, 64] _ hTnp5 (by simp) (by simp) (by omega) (fun i hi => by
          rw [Nat.zero_add, hLp5.cell i]
          have hi8 : i < 3 := hi
          obtain rfl | rfl | rfl : i = 0 ∨ i = 1 ∨ i = 2 := by omega
          all_goals rfl)).mono ?_
        rintro e wp5 ⟨rp5, rfl, hrmp5, hTp5, hkpp5⟩
        have h6p5 := H6np5.out.keeps hkpp5 (fun x hx e => by have e1 : g6 = x := Option.some.inj hx; have e2 : x = b := e; omega)
        have h7p5 := H7np5.out.keeps hkpp5 (fun x hx e => by have := HC7B.out x hx; have e2 : x = b := e; omega)
        have hKp5 := HKnp5.out.trans hkpp5 (fun _ _ e => e)
        have hssp5 := hkpp5.size
        obtain ⟨z, hz⟩ := u8_wrap rp5
        have hzz : rp5 % 256 = (z.toNat : Int) := by rw [← hz, IntKind.wrap_u8]
        obtain ⟨_, cur7, hH7⟩ := bts_holds h7p5 rfl
        have f7 := hH7.free j
        have l7' := hH7.lt
        have hp := h7p5.put j z
        rw [List.length_set] at hp
        have hpr : BytesAt (wp5.setCell ⟨g7, j, none⟩ (.int .u8 (z.toNat : Int))) (.slice (some ⟨g7, 0, none⟩) C.length c7) (C.set j z) := by have := hp.read; exact this
        have kz : Keeps (· = g7) wp5 (wp5.setCell ⟨g7, j, none⟩ (.int .u8 (z.toNat : Int))) := (Keeps.refl (· = g7) wp5).setCell (p := ⟨g7, j, none⟩) (.inr rfl) _
        obtain ⟨ax, cx, ex, -, -, hcell⟩ := h7p5.read
        cases ex
        obtain ⟨gx, ox, ex, hcell2⟩ := hcell (by omega)
        cases ex
        have hjC : j < C.length := by omega
        have c7k := hcell2 j hjC
        rw [Nat.zero_add] at c7k
        have hjr : (j : Int) < (C.length : Int) := by omega
        have HF := Lib.hid (show CrS B b w.heap.size w (.slice (some ⟨g6, 0, none⟩) A.length c6) (.slice (some ⟨g7, 0, none⟩) C.length c7) (wp5.setCell ⟨g7, j, none⟩ (.int .u8 (z.toNat : Int))) from
          ⟨A, C.set j z, h6p5.keeps kz (fun x hx e => by have e1 : g6 = x := Option.some.inj hx; have e2 : x = g7 := e; omega), hpr, by omega, by rw [List.length_set]; omega, hTp5.keeps kz (fun i e => by subst e; exact ⟨by have := hTp5.1; omega, hg7b⟩), hKp5.trans kz (fun i hi e => by have e2 : i = g7 := e; omega)⟩)
        clear hcell hcell2 hp kz hH7 h6p5 h7p5 hKp5 hkpp5 hTp5 hTnp5 hLp5 h65 h75 hT5
        go_wp2_with fail
        go_meet
        case rel => exact HF.out
      · have dz : decide ((0 : Int) < (C.length : Int)) = false := by rw [decide_eq_false_iff_not]; omega
        have dz' : decide (0 < C.length) = false := by rw [decide_eq_false_iff_not]; omega
        have hbn : Below w4'.heap.size w4' (w4'.alloc (.cells #[.int .u8 122, .int .u8 122, .int .u8 0] 5 (3, 4))) := (Below.refl _ _).alloc (Nat.le_refl _) _
        have hrow : BytesAt (w4'.alloc (.cells #[.int .u8 122, .int .u8 122, .int .u8 0] 5 (3, 4))) (.slice (some ⟨w4'.heap.size, 0, none⟩) 3 3) [122, 122, 0] :=
          ⟨_, 3, rfl, by simp, by omega, fun _ => ⟨_, 0, rfl, fun i hi => by
            rw [Nat.zero_add, World.cell?_alloc_mark]
            have hi3 : i < 3 := hi
            obtain rfl | rfl | rfl : i = 0 ∨ i = 1 ∨ i = 2 := by omega
            all_goals rfl⟩⟩
        have hcv := Lib.run_convert_bytes_const (P := Tryz.prog) w4' 26 5 #[.int .u8 122, .int .u8 122, .int .u8 0] 3 3 Tryz.underlying26 Tryz.underlying5
        have HF := Lib.hid (show CrS B b w.heap.size w (.slice (some ⟨g6, 0, none⟩) A.length c6) (.slice (some ⟨w4'.heap.size, 0, none⟩) 3 3) (w4'.alloc (.cells #[.int .u8 122, .int .u8 122, .int .u8 0] 5 (3, 4))) from
          ⟨A, [122, 122, 0], HH6.out.keeps (Keeps.of_fresh hbn (fun _ => False)) (fun _ _ e => e), hrow, by omega, by simp, HT4.out.new hbn, HK4.out.trans (Keeps.of_fresh hbn _) (fun _ _ e => e)⟩)
        clear hbn hrow hcz
        go_wp2_with fail
        go_meet
        case rel => exact HF.out
  case rest =>
    obtain ⟨l6, l7, hb6, hb7, hl6, hl7, hTf, hkf⟩ := hcut
    obtain ⟨xa6, xc6, rfl⟩ := hb6.shape
    obtain ⟨xa7, xc7, rfl, -, -⟩ := hb7.shape
    have hsl := law08_sealed _ _ l6 l7 wc hb6.read hb7 (by omega) (by omega)
    have HSL := Lib.hid hsl
    have HTF := Lib.hid hTf
    have HKF := Lib.hid hkf
    clear hsl hTf hkf hb6 hb7
    go_wp2_with fail
    refine (by exact HSL.out : Calls _ _ _ _ _).mono ?_
    rintro e w9 ⟨vr, lr, rfl, hlr, hbr, hb9⟩
    have HF := Lib.hid (show CrPost B b w (.returned vr) w9 from ⟨vr, lr, rfl, by omega, row_base hbr HKF.out.size, HTF.out.new hb9, HKF.out.trans (Keeps.of_fresh hb9 _) (fun _ _ e => e)⟩)
    obtain ⟨ra, rc, rfl⟩ := hbr.shape
    have HLR := Lib.hid hlr
    clear hbr hb9 hlr
    go_wp2_with fail
    go_ret
    exact HF.out
end Go.Proofs.YtofhcgbihonckaaGreatDoor

namespace Go.Proofs.YtofhcgbihonckaaGreatDoor
open Go.RowKit Go.ChangeMaps

set_option maxRecDepth 100000 in
set_option maxHeartbeats 8000000 in
theorem blobBack_walk (a : Option Addr) (len cap : Nat) (w : World) (hi : IntsIn w a len) (hlc : len ≤ cap) (hcap : cap ≤ maxLen) (hnil : a = none → len = 0 ∧ cap = 0) (lay : Lay0 w) :
    Calls Tryz.prog 4 #[.slice a len cap] w fun e w' => e = .returned (.bool true) ∧ Below w.heap.size w w' := by
  have HLAY := Lib.hid lay
  have hw0 : 0 < w.heap.size := by obtain ⟨m, hm⟩ := lay; exact Nat.lt_of_le_of_lt (Nat.zero_le _) (World.block_lt_of_cell? w _ hm)
  clear lay
  go_enter Tryz.func4, Tryz.ntmps4
  go_wp2_with fail
  refine (mk_New a len cap _ hi hlc hcap hnil).mono ?_
  rintro e w1 ⟨tb, rfl, hT1, hb1⟩
  clear hi hnil
  have hB := hT1.1
  go_wp2_with fail
  refine (grow_TreeB w.heap.size tb 12 _ hT1 (by omega) (by omega)).mono ?_
  rintro e w2 ⟨v, T, rfl, hT, hc, hl, hbk, ht2, hk2⟩
  have hb2 : Below w.heap.size w w2 := hb1.trans (hk2.below hb1.size (fun i hi e => by omega))
  obtain ⟨va, vc, rfl⟩ := hT.slice
  obtain ⟨hL, hE1, hE2, hL44, hDE⟩ := enc_grown hc hl hbk (by omega)
  have hbn := (Below.refl w2.heap.size w2).alloc (Nat.le_refl _) (.cells #[.slice va T.length vc] 25)
  have hT' := hT.new hbn
  have ht2' := ht2.new hbn
  have hHZ := Holds.new w2 #[.slice va T.length vc] 25
  have hb2' : Below w.heap.size w (w2.alloc (.cells #[.slice va T.length vc] 25)) := hb2.trans (hbn.mono hb2.size)
  have henc := blob_Encode _ _ T _ hT'.in
  unfold EncPost at henc
  rw [hE1, hE2] at henc
  obtain ⟨s, n, hs4, hsn, hs12⟩ : ∃ s n, s.length % 4 = 0 ∧ encodeT T = sealT s n ∧ 4 ≤ s.length := ⟨_, _, struct_len4 T, rfl, by unfold structT; rw [List.length_append, b4_len]; omega⟩
  obtain ⟨B, hB2⟩ : ∃ B, B = encodeT T := ⟨_, rfl⟩
  rw [← hB2] at hL hL44 hDE henc hsn
  have HENC := Lib.hid henc
  have HDE := Lib.hid hDE
  have HT' := Lib.hid hT'
  have HTP := Lib.hid ht2'
  have HHZ := Lib.hid hHZ
  have HB2 := Lib.hid hb2'
  have HSN := Lib.hid hsn
  have htb2 := ht2.lt
  clear hT1 hb1 hT hE1 hE2 henc hsn hB2 hDE ht2 hk2 hc hbk hl hbn hT' ht2' hHZ hb2 hb2'
  go_wp2_with fail
  obtain ⟨X, hX⟩ : ∃ X, X = w2.heap.size := ⟨_, rfl⟩
  rw [← hX] at HHZ ⊢
  have HXE := Lib.hid hX
  clear hX
  generalize w2.alloc (.cells #[.slice va T.length vc] 25) = w2' at *
  refine (by exact HENC.out : Calls _ _ _ _ _).mono ?_
  rintro e w3 ⟨v3, rfl, hv3, hb3⟩
  obtain ⟨gb, bc, rfl, hgb1, hgb2, hbc⟩ := bts_holds2 hv3 (by omega)
  have HB3 := Lib.hid (HB2.out.trans (hb3.mono HB2.out.size))
  have HR3 := Lib.hid hv3.read
  have HT3 := Lib.hid (HT'.out.new hb3)
  have HZ3 := Lib.hid (HHZ.out.keeps (Keeps.of_fresh hb3 (fun _ => False)) (fun e => e))
  have HTP3 := Lib.hid (HTP.out.new hb3)
  have hdec := blob_Decode _ B w3 hv3.read (by omega) (HLAY.out.keeps (Keeps.of_fresh HB3.out (fun _ => False)) (fun e => e)) (fun g hg => (hv3.lt g hg).2)
  unfold DecPost at hdec
  rw [HDE.out] at hdec
  have HDEC := Lib.hid hdec
  clear hdec hv3 hb3
  go_wp2_with fail
  refine (by exact HDEC.out : Calls _ _ _ _ _).mono ?_
  rintro e w4 ⟨nv, rfl, hT4, hb4⟩
  obtain ⟨na, nc, rfl⟩ := hT4.slice
  have hbn := (Below.refl w4.heap.size w4).alloc (Nat.le_refl _) (.cells #[.slice na T.length nc] 25)
  have hb5 := hb4.trans (hbn.mono hb4.size)
  have HB5 := Lib.hid (HB3.out.trans (hb5.mono HB3.out.size))
  have HR5 := Lib.hid (HR3.out.new hb5)
  have HT5 := Lib.hid (HT3.out.new hb5)
  have HZ5 := Lib.hid (HZ3.out.keeps (Keeps.of_fresh hb5 (fun _ => False)) (fun e => e))
  have HTP5 := Lib.hid (HTP3.out.new hb5)
  have HU5 := Lib.hid (hT4.new hbn)
  have HY5 := Lib.hid (Holds.new w4 #[.slice na T.length nc] 25)
  have x0 := HZ5.out.cell 0
  have x1 := HZ5.out.lt
  have y0 := HY5.out.cell 0
  have y1 := HY5.out.lt
  clear hbn hb4 hb5 hT4
  go_wp2_with fail
  generalize w4.alloc (.cells #[.slice na T.length nc] 25) = w5 at *
  refine (by exact ref3_Same _ _ _ _ T T w5 HT5.out.in HU5.out.in : Calls _ _ _ _ _).mono ?_
  rintro e w6 ⟨bb, rfl, hbb, hb6⟩
  obtain rfl : bb = true := hbb.2 rfl
  have HB6 := Lib.hid (HB5.out.trans (hb6.mono HB5.out.size))
  have HR6 := Lib.hid (HR5.out.new hb6)
  have HTP6 := Lib.hid (HTP5.out.new hb6)
  have hs6 := HB6.out.size
  clear hb6 hbb x0 x1 y0 y1
  go_wp2_with fail
  refine (by exact law08_crafted w.heap.size tb gb 0 bc B s n w6 HSN.out hs4 hs12 hL HTP6.out HR6.out : Calls _ _ _ _ _).mono ?_
  rintro e w7 ⟨v7, l7, rfl, hl7, hv7, hT7, hk7⟩
  have HB7 := Lib.hid (HB6.out.trans (hk7.below HB6.out.size (fun i hi e => by have e2 : i = tb := e; omega)))
  obtain ⟨a7, c7, rfl⟩ := hv7.shape
  have hdec := blob_Decode _ l7 w7 hv7.read (by omega) (HLAY.out.keeps (Keeps.of_fresh HB7.out (fun _ => False)) (fun e => e)) (fun g hg => (hv7.lt g hg).2)
  unfold DecPost at hdec
  have hback := dec_back l7
  obtain ⟨Z, p, er, hz⟩ : ∃ Z p er, decT l7 = (Z, p, er) := ⟨_, _, _, rfl⟩
  rw [hz] at hdec hback
  have HDEC2 := Lib.hid hdec
  have HBK := Lib.hid hback
  have HV7 := Lib.hid hv7
  clear hdec hback hz hv7 hT7 hk7
  go_wp2_with fail
  refine (by exact HDEC2.out : Calls _ _ _ _ _).mono ?_
  rintro e w8 ⟨zv, rfl, hT8, hb8⟩
  obtain ⟨za, zc, rfl⟩ := hT8.slice
  have hbn := (Below.refl w8.heap.size w8).alloc (Nat.le_refl _) (.cells #[.slice za Z.length zc] 25)
  have hb9 := hb8.trans (hbn.mono hb8.size)
  have HB9 := Lib.hid (HB7.out.trans (hb9.mono HB7.out.size))
  have HV9 := Lib.hid (HV7.out.keeps (Keeps.of_fresh hb9 (fun _ => False)) (fun _ _ e => e))
  have HT9 := Lib.hid (hT8.new hbn)
  have HY9 := Lib.hid (Holds.new w8 #[.slice za Z.length zc] 25)
  have z0 := HY9.out.cell 0
  have z1 := HY9.out.lt
  clear hbn hb8 hb9 hT8
  by_cases he : er = 0
  · subst he
    obtain ⟨-, hcZ, heZ, hlZ, -⟩ := HBK.out.resolve_right (fun h => h.1 rfl)
    have hEB : encB Z = (l7, 0) := by unfold encB; rw [if_neg (by simp [hcZ]), if_neg (by rw [heZ]; omega), heZ]
    have henc := blob_Encode _ _ Z _ HT9.out.in
    unfold EncPost at henc
    rw [hEB] at henc
    have HENC2 := Lib.hid henc
    clear henc hEB heZ hcZ
    go_wp2_with fail
    generalize w8.alloc (.cells #[.slice za Z.length zc] 25) = w9 at *
    refine (by exact HENC2.out : Calls _ _ _ _ _).mono ?_
    rintro e w10 ⟨v10, rfl, hv10, hb10⟩
    have HB10 := Lib.hid (HB9.out.trans (hb10.mono HB9.out.size))
    have hcv1 := bytes_conv (HV9.out.keeps (Keeps.of_fresh hb10 (fun _ => False)) (fun _ _ e => e))
    have hcv2 := bytes_conv hv10
    obtain ⟨xa, xc, rfl⟩ := hv10.shape
    obtain ⟨sx, hsx⟩ : ∃ sx : ByteArray, sx = ⟨l7.toArray⟩ := ⟨_, rfl⟩
    rw [← hsx] at hcv1 hcv2
    have HSX := Lib.hid hsx
    clear hsx hv10 hb10
    go_wp2_with fail
    refine (law08_awake _ (HLAY.out.keeps (Keeps.of_fresh HB10.out (fun _ => False)) (fun e => e)) (Nat.lt_of_lt_of_le hw0 HB10.out.size)).mono ?_
    rintro e w11 ⟨rfl, hb11⟩
    have HF := Lib.hid (HB10.out.trans (hb11.mono HB10.out.size))
    clear hb11
    go_wp2_with fail
    go_ret
    exact ⟨rfl, HF.out⟩
  · have he' : (er == 0) = false := by simpa using he
    clear he
    go_wp2_with fail
    refine (law08_awake _ (HLAY.out.keeps (Keeps.of_fresh HB9.out (fun _ => False)) (fun e => e)) (Nat.lt_of_lt_of_le hw0 HB9.out.size)).mono ?_
    rintro e w11 ⟨rfl, hb11⟩
    have HF := Lib.hid (HB9.out.trans (hb11.mono HB9.out.size))
    clear hb11
    go_wp2_with fail
    go_ret
    exact ⟨rfl, HF.out⟩
end Go.Proofs.YtofhcgbihonckaaGreatDoor
