/- The walk of the law SourceReads. -/
import Derived.Test.YtofhcgbihonckaaGreatZ26
import Derived.Test.YtofhcgbihonckaaGreatZ19
import Derived.Test.YtofhcgbihonckaaGreatZ20
import Derived.Test.YtofhcgbihonckaaGreatZ28
import Derived.Test.YtofhcgbihonckaaGreatZ31
import Derived.Test.YtofhcgbihonckaaGreatZ32
import Derived.Deep.LoopGhost
set_option linter.unusedVariables false
set_option linter.unusedSimpArgs false
set_option linter.unusedSectionVars false
namespace Go.Proofs.YtofhcgbihonckaaGreat
open Go.RowKit
theorem six_at (x0 x1 x2 x3 x4 x5 : ByteArray) (n : Nat) (h0 : x0.size ≤ n) (h1 : x1.size ≤ n) (h2 : x2.size ≤ n) (h3 : x3.size ≤ n) (h4 : x4.size ≤ n) (h5 : x5.size ≤ n) (k : Nat) (hk : k < 6) :
    ∃ x : ByteArray, (#[Value.string x0, .string x1, .string x2, .string x3, .string x4, .string x5] : Array Value)[k]? = some (.string x) ∧ x.size ≤ n := by
  have : k = 0 ∨ k = 1 ∨ k = 2 ∨ k = 3 ∨ k = 4 ∨ k = 5 := by omega
  rcases this with rfl | rfl | rfl | rfl | rfl | rfl
  · exact ⟨x0, rfl, h0⟩
  · exact ⟨x1, rfl, h1⟩
  · exact ⟨x2, rfl, h2⟩
  · exact ⟨x3, rfl, h3⟩
  · exact ⟨x4, rfl, h4⟩
  · exact ⟨x5, rfl, h5⟩
def DefsOk (l : List FdT) : Prop := l.length ≤ 9223372036854775807 ∧ ∀ x ∈ l, x.2.parts.length ≤ 9223372036854775807 ∧ ∀ p ∈ x.2.parts, p.cells.length ≤ 9223372036854775807
theorem src_defsOk (l : List UInt8) (file : Int) : DefsOk (tagT file (srcT l file).1) := by
  refine ⟨by have := src_short l file; simp [tagT]; omega, fun x hx => ?_⟩
  obtain ⟨d, hd, rfl⟩ := List.mem_map.1 hx
  obtain ⟨h1, h2⟩ := src_len l file d hd
  exact ⟨by show d.parts.length ≤ _; omega, fun p hp => by have := h2 p hp; omega⟩
set_option maxRecDepth 100000 in
set_option maxHeartbeats 8000000 in
theorem sourceReads_walk (a0 : Option Addr) (len0 cap0 : Nat) (raw : ByteArray) (a2 : Option Addr) (c2 : Nat) (T2 : List FdT) (file : Int) (w : World) (hi : IntsIn w a0 len0) (hlc : len0 ≤ cap0) (hcap : cap0 ≤ maxLen) (hnil : a0 = none → len0 = 0 ∧ cap0 = 0) (hs : raw.size ≤ maxLen)
    (hD : DefsIn w (.slice a2 T2.length c2) T2 ∧ T2.length ≤ 9223372036854775807 ∧ ∀ x ∈ T2, x.2.parts.length ≤ 9223372036854775807 ∧ ∀ p ∈ x.2.parts, p.cells.length ≤ 9223372036854775807) (_hf : (Lit.int .i64 file).wf = true) (h0 : Lay0 w) :
    Calls Tryz.prog 4 #[.slice a0 len0 cap0, .string raw, .slice a2 T2.length c2, .int .i64 file] w fun e w' => e = .returned (.bool true) ∧ Below w.heap.size w w' := by
  have hm := hs
  unfold maxLen at hs
  have HD := Lib.hid hD.1
  have HDO := Lib.hid (show DefsOk T2 from hD.2)
  have hT9 := hD.2.1
  clear hD _hf
  by_cases hgo : raw.size ≤ 2000 ∧ T2.length ≤ 40
  · obtain ⟨hr2, hT4⟩ := hgo
    have hr2' : ¬ (2000 : Int) < (raw.size : Int) := by omega
    have hT4' : ¬ (40 : Int) < (T2.length : Int) := by omega
    go_enter Tryz.func4, Tryz.ntmps4
    go_wp2_with fail
    refine (mk_New a0 len0 cap0 _ hi hlc hcap hnil).mono ?_
    rintro e w1 ⟨tb, rfl, hT1, hb1⟩
    have htb := hT1.1
    go_wp2_with fail
    refine (grow_Document _ _ 3 (by omega) _ hT1).mono ?_
    rintro e w2 ⟨x1, rfl, hx1, hTp2, hK2⟩
    go_wp2_with fail
    refine (mk_Spoil _ _ x1 _ hTp2 (by omega)).mono ?_
    rintro e w3 ⟨x2, rfl, hx2, hTp3, hK3⟩
    go_wp2_with fail
    refine (mk_Spoil _ _ x1 _ hTp3 (by omega)).mono ?_
    rintro e w4 ⟨x3, rfl, hx3, hTp4, hK4⟩
    go_wp2_with fail
    refine (mk_Spoil _ _ x3 _ hTp4 (by omega)).mono ?_
    rintro e w5 ⟨x4, rfl, hx4, hTp5, hK5⟩
    go_wp2_with fail
    refine (mk_Source _ _ 12 _ hTp5 (by omega)).mono ?_
    rintro e w6 ⟨x5, rfl, hx5, hTp6, hK6⟩
    go_wp2_with fail
    refine (mk_Source _ _ 6 _ hTp6 (by omega)).mono ?_
    rintro e w7 ⟨x6, rfl, hx6, hTp7, hK7⟩
    obtain ⟨x7, hA7, hs7, _⟩ := adds_ex ⟨#[47, 32, 123, 32]⟩ x6 (by show 4 + _ ≤ _; omega)
    obtain ⟨x8, hA8, hs8, _⟩ := adds_ex x7 ⟨#[32, 125, 59]⟩ (by rw [hs7]; show 4 + _ + 3 ≤ _; omega)
    have h78 : x8.size ≤ 1000 := by rw [hs8, hs7]; show 4 + _ + 3 ≤ _; omega
    unfold Adds at hA7 hA8
    have hK : Keeps (· = tb) w1 w7 := (((((hK2.trans hK3 (fun _ _ h => h)).trans hK4 (fun _ _ h => h)).trans hK5 (fun _ _ h => h)).trans hK6 (fun _ _ h => h)).trans hK7 (fun _ _ h => h))
    have hb7 : Below w.heap.size w w7 := hb1.trans (hK.below hb1.size (by intro i hi; omega))
    have hs7' := hb7.size
    have hat := six_at raw x1 x2 x4 x5 x8 1000000 (by omega) (by omega) (by omega) (by omega) (by omega) (by omega)
    clear hT1 hTp2 hTp3 hTp4 hTp5 hTp6 hTp7 hK2 hK3 hK4 hK5 hK6 hK7 hK hb1 hx1 hx2 hx3 hx4 hx5 hx6 htb hs7 hs8 h78
    go_wp2_with fail
    go_loopg [50] 6 (fun f y wr => ∃ k : Nat, k ≤ 6 ∧ 6 ≤ k + f ∧ y = .int .i64 k ∧ Holds wr w7.heap.size #[.string raw, .string x1, .string x2, .string x4, .string x5, .string x8] 9 ∧ Below w.heap.size w wr)
    case atStart => exact ⟨0, by omega, by omega, rfl, Holds.new w7 _ _, hb7.alloc hs7' _⟩
    case round =>
      obtain ⟨k, hk, hf, rfl, hH, hbel⟩ := hrel
      have hL := h0.keeps (Keeps.of_fresh hbel (fun _ => False)) (fun e => e)
      by_cases hk6 : k < 6
      · obtain ⟨x, hx, hxs⟩ := hat k hk6
        have hc := cell_at hH hx
        have hlt := hH.lt
        have hbs := hbel.size
        have HOK := Lib.hid (src_defsOk x.data.toList file)
        have HH := Lib.hid hH
        have HB := Lib.hid hbel
        have HR1 := Lib.hid (fun wx hl => source_Read x file wx (by unfold maxLen; omega) hl)
        have HR2 := Lib.hid (fun wx => r4_Read x file wx (by unfold maxLen; omega))
        unfold SrcPost posAgg at HR1 HR2
        generalize srcT x.data.toList file = R at *
        obtain ⟨D, ⟨p1, p2, p3⟩, er⟩ := R
        simp only at HOK HR1 HR2
        clear hat hx hxs hH hbel
        go_wp2_with fail
        refine (by exact HR1.out _ hL : Calls _ _ _ _ _).mono ?_
        rintro e w8 ⟨v1, rfl, hd1, hb8⟩
        have HV1 := Lib.hid ((hd1.fds.new ((Below.refl _ _).alloc (Nat.le_refl _) (.cells #[.int .i64 p1, .int .i64 p2, .int .i64 p3] 27))).in)
        have hP1 := Holds.new w8 #[.int .i64 p1, .int .i64 p2, .int .i64 p3] 27
        have hb9 := (HB.out.trans (hb8.mono hbs)).alloc (by have := hb8.size; omega) (.cells #[.int .i64 p1, .int .i64 p2, .int .i64 p3] 27)
        have hk9 : Keeps (fun _ => False) wr (w8.alloc (.cells #[.int .i64 p1, .int .i64 p2, .int .i64 p3] 27)) := (Keeps.of_fresh hb8 (fun _ => False)).alloc _
        have HH9 := Lib.hid (HH.out.keeps hk9 (fun e => e))
        have HB9 := Lib.hid hb9
        have HP9 := Lib.hid hP1
        obtain ⟨va1, vc1, rfl⟩ := hd1.slice
        clear hd1 hb8 hb9 hk9 hP1
        go_wp2_with fail
        generalize w8.alloc (.cells #[.int .i64 p1, .int .i64 p2, .int .i64 p3] 27) = w9 at *
        refine (by exact HR2.out w9 : Calls _ _ _ _ _).mono ?_
        rintro e w10 ⟨v2, rfl, hd2, hb10⟩
        have k910 : Below w9.heap.size w9 (w10.alloc (.cells #[.int .i64 p1, .int .i64 p2, .int .i64 p3] 27)) := hb10.alloc hb10.size _
        have HV2 := Lib.hid ((hd2.fds.new ((Below.refl _ _).alloc (Nat.le_refl _) (.cells #[.int .i64 p1, .int .i64 p2, .int .i64 p3] 27))).in)
        have hP2 := Holds.new w10 #[.int .i64 p1, .int .i64 p2, .int .i64 p3] 27
        have HV11 := Lib.hid (HV1.out.new k910)
        have hP11 := HP9.out.keeps (Keeps.of_fresh k910 (fun _ => False)) (fun e => e)
        have HH11 := Lib.hid (HH9.out.keeps (Keeps.of_fresh k910 (fun _ => False)) (fun e => e))
        have HB11 := Lib.hid (HB9.out.trans (k910.mono HB9.out.size))
        have HD11 := Lib.hid (HD.out.new HB11.out)
        obtain ⟨va2, vc2, rfl⟩ := hd2.slice
        obtain ⟨x0, x1', x2', _, _, _, xl⟩ := three hP11
        obtain ⟨y0, y1, y2, _, _, _, yl⟩ := three hP2
        clear hd2 hb10 k910 hP2 hP11
        go_wp2_with fail
        generalize w10.alloc (.cells #[.int .i64 p1, .int .i64 p2, .int .i64 p3] 27) = w11 at *
        have HQ1 := Lib.hid (r4_Same _ _ (tagT file D) (tagT file D) w11 HV11.out HV2.out HOK.out.1 HOK.out.2)
        refine (by exact HQ1.out : Calls _ _ _ _ _).mono ?_
        rintro e w12 ⟨bb, rfl, hbb, hb12⟩
        obtain rfl : bb = true := hbb.2 (by first | rfl | trivial)
        have HQ2 := Lib.hid (source_Same _ _ (tagT file D) T2 w12 (HV11.out.new hb12) (HD11.out.new hb12) HOK.out.1 HOK.out.2)
        have HB12 := Lib.hid hb12
        clear hbb hb12
        go_wp2_with fail
        refine (by exact HQ2.out : Calls _ _ _ _ _).mono ?_
        rintro e w13 ⟨b1, rfl, hb1', hb13⟩
        have HB13 := Lib.hid (HB12.out.trans (hb13.mono HB12.out.size))
        have HQ3 := Lib.hid (r4_Same _ _ (tagT file D) T2 w13 (HV11.out.new HB13.out) (HD11.out.new HB13.out) HOK.out.1 HOK.out.2)
        have HE1 := Lib.hid hb1'
        clear hb1' hb13
        go_wp2_with fail
        refine (by exact HQ3.out : Calls _ _ _ _ _).mono ?_
        rintro e w14 ⟨b2, rfl, hb2', hb14⟩
        obtain rfl : b1 = b2 := by
          have h1 := HE1.out
          cases b1 <;> cases b2
          · rfl
          · exact absurd (h1.2 (hb2'.1 rfl)) Bool.false_ne_true
          · exact absurd (hb2'.2 (h1.1 rfl)) Bool.false_ne_true
          · rfl
        have HB14 := Lib.hid (HB13.out.trans (hb14.mono HB13.out.size))
        have HQ4 := Lib.hid (source_Same _ _ (tagT file D) (tagT file D) w14 (HV11.out.new HB14.out) (HV2.out.new HB14.out) HOK.out.1 HOK.out.2)
        have HH14 := Lib.hid (HH11.out.keeps (Keeps.of_fresh HB14.out (fun _ => False)) (fun e => e))
        have HBL := Lib.hid (HB11.out.trans (HB14.out.mono HB11.out.size))
        clear hb2' hb14
        cases b1
        all_goals
          go_wp2_with fail
          refine (by exact HQ4.out : Calls _ _ _ _ _).mono ?_
          rintro e w15 ⟨bb, rfl, hbb, hb15⟩
          obtain rfl : bb = true := hbb.2 (by first | rfl | trivial)
          have HH15 := Lib.hid (HH14.out.keeps (Keeps.of_fresh hb15 (fun _ => False)) (fun e => e))
          have HB15 := Lib.hid (HBL.out.trans (hb15.mono HBL.out.size))
          clear hbb hb15
          go_wp2_with fail
          go_roundg (gk - 1)
          case measure => omega
          case rel => exact ⟨k + 1, by omega, by omega, by go_num, HH15.out, HB15.out⟩
      · go_wp2_with fail
        refine (law04_awake _ hL).mono ?_
        rintro e w8 ⟨rfl, hb⟩
        go_wp2_with fail
        go_ret
        exact ⟨rfl, hbel.trans (hb.mono hbel.size)⟩
  · have haw := Lib.hid (law04_awake w h0)
    by_cases hr2 : 2000 < raw.size
    · have hr2' : (2000 : Int) < (raw.size : Int) := by omega
      clear hgo
      go_enter Tryz.func4, Tryz.ntmps4
      go_wp2_with fail
      refine haw.out.mono ?_
      rintro e w1 ⟨rfl, hb⟩
      go_wp2_with fail
      go_ret
      exact ⟨rfl, hb⟩
    · have hr2' : ¬ (2000 : Int) < (raw.size : Int) := by omega
      have hT4' : (40 : Int) < (T2.length : Int) := by omega
      clear hgo hr2
      go_enter Tryz.func4, Tryz.ntmps4
      go_wp2_with fail
      refine haw.out.mono ?_
      rintro e w1 ⟨rfl, hb⟩
      go_wp2_with fail
      go_ret
      exact ⟨rfl, hb⟩
end Go.Proofs.YtofhcgbihonckaaGreat
