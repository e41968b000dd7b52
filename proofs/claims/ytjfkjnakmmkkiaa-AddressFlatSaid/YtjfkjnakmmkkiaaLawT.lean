/- The law AddressFlat: its walk. -/
import Derived.Test.YtjfkjnakmmkkiaaLawP
import Derived.Test.YtjfkjnakmmkkiaaTreR
import Derived.Test.YtjfkjnakmmkkiaaMakR
import Derived.Laws.AppendOwnNone
import Derived.Deep.RegionLaw
import Derived.Deep.AppendLies
namespace Go.Proofs.Ytjfkjnakmmkkiaa
open Go.RowKit

def flatPre (hid : Bool) (k : Nat) (b s : Int) (j : Nat) : List NodeT := ⟨-1, ByteArray.empty, []⟩ :: (List.range j).map (nodeFlat hid k b s)
theorem flatPre_snoc (hid : Bool) (k : Nat) (b s : Int) (j : Nat) : flatPre hid k b s (j + 1) = flatPre hid k b s j ++ [nodeFlat hid k b s j] := by
  unfold flatPre; rw [List.range_succ]; simp
theorem flatPre_len (hid : Bool) (k : Nat) (b s : Int) (j : Nat) : (flatPre hid k b s j).length = j + 1 := by simp [flatPre]
def FlatRel (hid : Bool) (k X : Nat) (b s : Int) (w : World) (f : Nat) (y : Value) (wr : World) : Prop :=
  ∃ (j : Nat) (v : Value), j ≤ k ∧ k ≤ j + f ∧ y = .int .i64 (j + 1) ∧ Holds wr X #[v] 27 ∧ TreeRow wr w.heap.size v (flatPre hid k b s j) ∧ Below w.heap.size w wr
/-- The properties of a bus. -/
def flatProps (hid : Bool) (j : Nat) : List PropT := if (hid && decide (j = 0)) = true then [] else [⟨sRanges, ByteArray.empty⟩]
def FlatMid (j Nd : Nat) (wr : World) (y : Value) (ps : List PropT) (wx : World) : Prop :=
  ∃ pv, y = .pointer (some ⟨Nd, 0, none⟩) ∧ Holds wx Nd #[.int .i64 j, .string sB, pv] 42 ∧ PropRow wx wr.heap.size pv ps ∧ Below wr.heap.size wr wx ∧ (ps = [] → pv = .slice none 0 0)

/-- The same behind the copy. -/
def FlatMid2 (j Nd : Nat) (wr : World) (y : Value) (ps : List PropT) (wx : World) : Prop :=
  ∃ pv, y = .pointer (some ⟨Nd, 0, none⟩) ∧ Holds wx Nd #[.int .i64 j, .string sB, pv] 42 ∧ PropRow wx wr.heap.size pv ps ∧ Below wr.heap.size wr wx
theorem flatProps_len (hid : Bool) (j : Nat) : (flatProps hid j).length ≤ 1 := by unfold flatProps; split <;> simp
theorem nodeFlat_mid {hid : Bool} {k j : Nat} {b s : Int} (h : j + 1 ≠ k) : (nodeFlat hid k b s j).props = flatProps hid j := by
  unfold nodeFlat flatProps; simp [h]
theorem nodeFlat_last {hid : Bool} {k j : Nat} {b s : Int} (h : j + 1 = k) : (nodeFlat hid k b s j).props = flatProps hid j ++ [⟨sReg, valT [b, s]⟩] := by
  unfold nodeFlat flatProps; simp [h]

set_option maxRecDepth 100000 in
set_option maxHeartbeats 4000000 in
theorem flat_walk (a : Option Addr) (len cap : Nat) (n : Int) (w : World) (hi : IntsIn w a len) (hlc : len ≤ cap) (hcap : cap ≤ maxLen) (hnil : a = none → len = 0 ∧ cap = 0) (hn0 : 0 ≤ n) (hn1 : n ≤ 255) :
    Calls Try.prog 4 #[.slice a len cap, .int .u8 n] w fun e w' => e = .returned (.bool true) ∧ Below w.heap.size w w' := by
  have hk0 : 1 ≤ n % 6 + 1 := by omega
  have hk6 : n % 6 + 1 ≤ 6 := by omega
  obtain ⟨k, hk⟩ : ∃ k : Nat, n % 6 + 1 = k := ⟨(n % 6 + 1).toNat, by omega⟩
  go_enter Try.func4, Try.ntmps4
  go_wp2_with fail
  refine (mk_New a len cap _ hi hlc hcap hnil).mono ?_
  rintro e w1 ⟨tb, rfl, hT1, hb1⟩
  have hB := hT1.1
  have htl := hT1.lt
  have hs1 := hb1.size
  have hb2 := (hb1.alloc hs1 (.cells #[.int .i64 (-1), .string ⟨#[]⟩, .slice none 0 0] 42)).alloc (by simp; omega) (.cells #[.slice (some ⟨w1.heap.size, 0, none⟩) 1 1] 27)
  have hX1 := Holds.newAt (w := w1.alloc (.cells #[.int .i64 (-1), .string ⟨#[]⟩, .slice none 0 0] 42)) (B := w1.heap.size + 1) (by simp) #[.slice (some ⟨w1.heap.size, 0, none⟩) 1 1] 27
  have hR1 : TreeRow ((w1.alloc (.cells #[.int .i64 (-1), .string ⟨#[]⟩, .slice none 0 0] 42)).alloc (.cells #[.slice (some ⟨w1.heap.size, 0, none⟩) 1 1] 27)) w.heap.size (.slice (some ⟨w1.heap.size, 0, none⟩) 1 1) (flatPre false k 0 0 0) :=
    ⟨[.slice none 0 0], rfl, (row_built (n := 1) rfl hs1 rfl (by omega)).alloc _, fun j hj hj2 => by
      match j, hj with
      | 0, _ => exact PropRow.nil _ _, fun m hm => by simp [flatPre] at hm; subst hm; exact nodeOk_mk _ _ _ (by decide) (by decide) (by decide)⟩
  have hT2 := hT1.keeps (((Keeps.refl (fun _ => False) w1).alloc (.cells #[.int .i64 (-1), .string ⟨#[]⟩, .slice none 0 0] 42)).alloc (.cells #[.slice (some ⟨w1.heap.size, 0, none⟩) 1 1] 27)) (fun _ e => e.elim)
  clear hT1 hb1
  generalize hW1 : (w1.alloc (.cells #[.int .i64 (-1), .string ⟨#[]⟩, .slice none 0 0] 42)).alloc (.cells #[.slice (some ⟨w1.heap.size, 0, none⟩) 1 1] 27) = W1 at hb2 hX1 hR1 hT2
  have htX : tb ≠ w1.heap.size + 1 := by omega
  go_wp2_with fail
  refine (mk_N w.heap.size tb 2 _ (by exact hT2) (by omega) (by omega)).mono ?_
  clear hW1
  rintro e w2 ⟨r, rfl, r0, r1, hT3, hK3⟩
  obtain ⟨hid, hrh⟩ : ∃ hid : Bool, (r == 0) = hid := ⟨_, rfl⟩
  go_wp2_with fail
  refine (mk_Range w.heap.size tb 0 4294967295 _ (by exact hT3) (by omega) (by omega) (by omega)).mono ?_
  rintro e w3 ⟨b, rfl, b0, b1, hT4, hK4⟩
  have ht4 := hT4.lt
  have hT4' := hT4.keeps ((Keeps.refl (fun _ => False) w3).alloc (.cells #[.int .i64 0, .int .i64 1, .int .i64 255] 3)) (fun _ e => e.elim)
  go_wp2_with fail
  refine (mk_Pick w.heap.size tb w3.heap.size 0 3 [0, 1, 255] _ (by exact hT4') (by decide) (by decide) (by omega) (by
    have hH := Holds.new w3 #[.int .i64 0, .int .i64 1, .int .i64 255] 3
    intro i hi
    match i, hi with
    | 0, _ => exact hH.cell 0
    | 1, _ => exact hH.cell 1
    | 2, _ => exact hH.cell 2)).mono ?_
  rintro e w4 ⟨s, rfl, hsm, hT5, hK5⟩
  have hs01 : 0 ≤ s ∧ s ≤ 255 := by simp at hsm; omega
  obtain ⟨s0, s1⟩ := hs01
  have hKK : Keeps (· = tb) W1 w4 := ((hK3.trans hK4 (fun _ _ e => e)).alloc (.cells #[.int .i64 0, .int .i64 1, .int .i64 255] 3)).trans hK5 (fun _ _ e => e)
  have hb4 : Below w.heap.size w w4 := hb2.trans (hKK.below hb2.size (by intro i hi e; omega))
  have hX4 := hX1.keeps hKK (by omega)
  have hR4 : TreeRow w4 w.heap.size (.slice (some ⟨w1.heap.size, 0, none⟩) 1 1) (flatPre hid k b s 0) := by
    obtain ⟨_, ta, tl, tc, tat, hH, _⟩ := hT2
    exact hR1.other hH (by decide) (by decide) hKK
  clear hR1 hX1 hT2 hT3 hT4 hT4' hT5 hK3 hK4 hK5 hKK hb2 ht4 hsm
  have hwX : w.heap.size ≤ w1.heap.size + 1 := by omega
  generalize w1.heap.size + 1 = X at *
  generalize w1.heap.size = N1 at *
  clear hs1 htl htX hB
  go_wp2_with fail
  go_loopg [11] (k) (fun f y wr => FlatRel hid k X b s w f y wr)
  case atStart => exact ⟨0, _, by omega, by omega, rfl, hX4, hR4, hb4⟩
  case round =>
    obtain ⟨j, v, hjk, hf, rfl, hX, hR, hbr⟩ := hrel
    clear hX4 hR4 hb4
    have bx := hX.cell 0
    have bl := hX.lt
    by_cases hlt : (j : Int) + 1 ≤ (k : Int)
    · have hP0 : PropRow ((wr.alloc (.cells #[.string sRanges, .string ⟨#[]⟩] 48)).alloc (.cells #[.int .i64 j, .string sB, .slice (some ⟨wr.heap.size, 0, none⟩) 1 1] 42)) wr.heap.size (.slice (some ⟨wr.heap.size, 0, none⟩) 1 1) [⟨sRanges, ByteArray.empty⟩] :=
        ⟨(row_built (n := 1) rfl (Nat.le_refl _) rfl (by omega)).alloc _, by intro p hp; simp at hp; subst hp; exact ⟨by decide, by decide⟩⟩
      have hN0 := Holds.newAt (w := wr.alloc (.cells #[.string sRanges, .string ⟨#[]⟩] 48)) (B := wr.heap.size + 1) (by simp) #[.int .i64 j, .string sB, .slice (some ⟨wr.heap.size, 0, none⟩) 1 1] 42
      have hb0 : Below wr.heap.size wr ((wr.alloc (.cells #[.string sRanges, .string ⟨#[]⟩] 48)).alloc (.cells #[.int .i64 j, .string sB, .slice (some ⟨wr.heap.size, 0, none⟩) 1 1] 42)) := ((Below.refl _ _).alloc (Nat.le_refl _) _).alloc (by simp) _
      go_upto_region 10 with fail
      go_cut [46] (fun t wx => t = .bool (hid && decide (j = 0)) ∧ (wr.alloc (.cells #[.string sRanges, .string ⟨#[]⟩] 48)).alloc (.cells #[.int .i64 j, .string sB, .slice (some ⟨wr.heap.size, 0, none⟩) 1 1] 42) = wx)
      case first =>
        clear hP0 hN0 hb0
        cases hid
        · go_wp2_with fail
          go_meet
          exact ⟨rfl, rfl⟩
        · by_cases hj : j = 0
          · subst hj
            go_wp2_with fail
            go_meet
            exact ⟨rfl, rfl⟩
          · have h1 : ((j : Int) + 1 == 1) = false := by simp; omega
            have h2 : decide (j = 0) = false := by simpa using hj
            go_wp2_with fail
            go_meet
            exact ⟨by rw [h2]; rfl, rfl⟩
      case rest =>
        obtain ⟨rfl, hwe⟩ := hcut
        rw [hwe] at hP0 hN0 hb0
        clear hwe
        go_upto_if 46 with fail
        go_cut [12] (fun y wx => FlatMid j (wr.heap.size + 1) wr y (flatProps hid j) wx)
        case first =>
          have n2 := hN0.cell 2
          have f2 := hN0.free 2
          have l2 := hN0.lt
          by_cases hc : (hid && decide (j = 0)) = true
          · have hfp := Lib.hid (show flatProps hid j = [] from by unfold flatProps; rw [if_pos hc])
            rw [hc]
            go_wp2_with fail
            go_meet
            exact ⟨_, rfl, hN0.set 2 _, by rw [hfp.out]; exact PropRow.nil _ _, hb0.setCell (by simp) _, fun _ => rfl⟩
          · have hc : (hid && decide (j = 0)) = false := by simpa using hc
            have hfp := Lib.hid (show flatProps hid j = [⟨sRanges, ByteArray.empty⟩] from by unfold flatProps; rw [hc]; rfl)
            rw [hc]
            go_wp2_with fail
            go_meet
            exact ⟨_, rfl, hN0, by rw [hfp.out]; exact hP0, hb0, by rw [hfp.out]; intro e; cases e⟩
        case rest =>
          obtain ⟨wm, rfl⟩ : ∃ x : World, x = wc := ⟨_, rfl⟩
          obtain ⟨pv, rfl, hN, hP, hbm, hpnil⟩ := hcut
          clear hN0 hP0 hb0
          generalize hNd : wr.heap.size + 1 = Nd at *
          have hNd0 : wr.heap.size ≤ Nd := by omega
          clear hNd
          go_upto_if 50 with fail
          go_cut [12] (fun y wx => FlatMid2 j Nd wr y (nodeFlat hid k b s j).props wx)
          case first =>
            by_cases hl : j + 1 = k
            · have h1 : ((j : Int) + 1 == (k : Int)) = true := by simp; omega
              go_upto_region 13 with fail
              go_cut [12] (fun y wx => FlatMid2 j Nd wr y (flatProps hid j) wx)
              case first =>
                have n2 := hN.cell 2
                have f2 := hN.free 2
                have l2 := hN.lt
                have hE := Holds.newAt (w := wm) (B := wm.heap.size) rfl #[] 48
                have hbs := hbm.size
                obtain ⟨i0, hi, hz0, hz1, hz2⟩ := info_parts infoProp
                by_cases hfp : flatProps hid j = []
                · have hpv := hpnil hfp
                  subst hpv
                  go_wp2_with (at_builtin; refine wpList_append_own_none rfl _ _ 40 rfl wr.heap.size 48 i0 2 Try.underlying40 hi (.slice (some ⟨wm.heap.size, 0, none⟩) 0 0) 0 [] rfl (by exact made_empty rfl hbs) rfl ?_)
                  go_meet
                  refine ⟨_, rfl, (hN.set 2 _).alloc _, ?_, (hbm.setCell (p := ⟨Nd, 2, none⟩) hNd0 _).alloc (by simpa using hbs) _⟩
                  rw [hfp]
                  exact ⟨made_empty (by simp) hbs, fun _ h => by cases h⟩
                · obtain ⟨pg, pc, rfl⟩ : ∃ g c, pv = .slice (some ⟨g, 0, none⟩) (flatProps hid j).length c := by
                    rcases hP.1.2 with ⟨_, h0⟩ | ⟨g, cp, cur, e, _⟩
                    · exact absurd (List.length_eq_zero_iff.1 h0) hfp
                    · exact ⟨g, cp, e⟩
                  have hf1 := flatProps_len hid j
                  generalize flatProps hid j = ps at *
                  have HFP := Lib.hid hfp
                  have HPW := Lib.hid hP
                  have HPN := Lib.hid hpnil
                  clear hfp hP hpnil
                  have hP := HPW.out
                  clear HPW
                  go_wp2_with (at_builtin; refine wpList_append_own _ rfl _ _ 40 rfl wr.heap.size 48 i0 (.agg #[.string ⟨#[]⟩, .string ⟨#[]⟩]) 2 32 Try.underlying40 hi hz0 hz1 hz2 rfl (by decide) (.slice (some ⟨wm.heap.size, 0, none⟩) 0 0) 0 [] rfl (by exact made_empty rfl hbs) ⟨pg, 0, none⟩ ps.length pc (propCells ps) rfl (propCells_len _) ?c1 ?c2 ?c3 ?c4 ?c5 ?_)
                  case c1 => exact (World.ownsRow.alloc hP.1 _).cells (g := pg) rfl
                  case c2 => exact propCells_one _
                  case c3 => unfold maxLen; omega
                  case c4 => omega
                  case c5 => simp; omega
                  intro v' w5 hown' hgrow _
                  have hN5 := (hN.alloc (.cells #[] 48)).grown hgrow (fun e => by have : wm.heap.size = Nd := Option.some.inj e; omega)
                  have hb5 := (hbm.alloc hbs (.cells #[] 48)).grown hgrow (by simp; omega) (fun g hg => by have : wm.heap.size = g := Option.some.inj hg; omega)
                  clear hgrow n2 f2 l2
                  obtain ⟨va, vc, rfl⟩ := row_slice hown'
                  have n2 := hN5.cell 2
                  have f2 := hN5.free 2
                  have l2 := hN5.lt
                  go_wp2_with fail
                  go_meet
                  exact ⟨_, rfl, hN5.set 2 _, ⟨row_set hown' hN5 (by decide) 2 _, hP.2⟩, hb5.setCell (p := ⟨Nd, 2, none⟩) hNd0 _⟩
              case rest =>
                obtain ⟨wq, rfl⟩ : ∃ x : World, x = wc := ⟨_, rfl⟩
                obtain ⟨pv2, rfl, hN2, hP2, hb2⟩ := hcut
                clear hN hP hbm hpnil
                have n2 := hN2.cell 2
                have f2 := hN2.free 2
                have l2 := hN2.lt
                have hbs := hb2.size
                have hf1 := flatProps_len hid j
                have hrow := hP2.1
                obtain ⟨i0, hi, hz0, hz1, hz2⟩ := info_parts infoProp
                have hbb := Lib.hid (show ∀ x ∈ [b, s], 0 ≤ x ∧ x ≤ 4294967295 from by intro x hx; simp at hx; rcases hx with rfl | rfl <;> omega)
                have hpok := Lib.hid hP2.2
                clear hP2
                have hnl := Lib.hid (nodeFlat_last (hid := hid) (b := b) (s := s) hl)
                generalize flatProps hid j = ps at *
                have e1 : ps.length + 1 ≤ maxLen := by unfold maxLen; omega
                have e2 : (ps.length + 1) * 32 ≤ 140737488355328 := by omega
                have HROW := Lib.hid hrow
                clear hrow
                go_wp2_with fail
                go_region_law (first
                  | (go_simp; go_at_call 20; refine (grow_Cells [b, s] _ _ (by exact list_twoD rfl _ _ _) (by exact hbb.out) (by simp)).mono ?_; rintro e w7 ⟨rfl, hd7⟩; have hb7 : Below wq.heap.size wq w7 := ((Below.refl wq.heap.size wq).alloc (Nat.le_refl _) (.cells #[.int .i64 b, .int .i64 s] 3)).drew.trans (hd7.mono (by simp)); have hN7 := hN2.keeps (Keeps.of_fresh hb7 (fun _ => False)) (fun e => e); have k2 := hN7.cell 2; have kf := hN7.free 2; have kl := hN7.lt; have hrow7 := row_new HROW.out hb7; have hbs7 := hb7.size)
                  | (refine step_append_lies _ (by rfl) _ _ _ (by rfl) wr.heap.size 48 i0 _ 2 32 Try.underlying40 hi hz0 hz1 hz2 rfl (by omega) _ ps.length (propCells ps) (by rfl) (hrow7.alloc _) ⟨w7.heap.size, 0, none⟩ 1 1 [.string sReg, .string (valT [b, s])] (by rfl) (by rfl) (World.news_of_block (cs := #[.string sReg, .string (valT [b, s])]) (t := 48) (fr := (0, 0)) (heap_alloc_new w7 _)) (by simp [Value.oneCell']) (by omega) e1 e2 (by simp; omega) (w7.heap.size + 1) (by simp) ?_; intro gg cap2 w8 hown8 hgrow hat hlt8; have hN8 := (hN7.alloc (.cells #[.string sReg, .string (valT [b, s])] 48)).grown hgrow (owns_ne_holds hrow7 hN7 (by decide)); have m2 := hN8.cell 2; have mf := hN8.free 2; have ml := hN8.lt))
                all_goals
                  have hb8 := ((hb2.trans (hb7.mono hbs)).alloc (Nat.le_trans hbs hbs7) (.cells #[.string sReg, .string (valT [b, s])] 48)).grown hgrow (by simp; omega) (fun g hg => (HROW.out.lt g hg).1)
                  go_wp2_with fail
                  go_meet
                  refine ⟨_, rfl, hN8.set 2 _, ?_, hb8.setCell (p := ⟨Nd, 2, none⟩) hNd0 _⟩
                  rw [hnl.out]
                  refine ⟨?_, ?_⟩
                  · rw [propCells_app, List.length_append]
                    exact row_set hown8 hN8 (by decide) 2 _
                  · intro p hp
                    rcases List.mem_append.1 hp with hp | hp
                    · exact hpok.out p hp
                    · simp at hp; subst hp; exact ⟨by show sReg.size ≤ _; decide, by show (valT [b, s]).size ≤ _; rw [valT_size]; simp⟩
            · have h1 : ((j : Int) + 1 == (k : Int)) = false := by simp; omega
              go_wp2_with fail
              go_meet
              rw [nodeFlat_mid hl]
              exact ⟨_, rfl, hN, hP, hbm⟩
          case rest =>
            obtain ⟨pv3, rfl, hN3, hP3, hb3⟩ := hcut
            clear hN hP hbm hpnil
            have hX3 := hX.keeps (Keeps.of_fresh hb3 (fun _ => False)) (fun e => e)
            have hR3 := hR.new hb3
            have hsr := hbr.size
            have hb4 := hbr.trans (hb3.mono hsr)
            have hs4 := hb4.size
            have hT1 := Lib.hid (flatPre_snoc hid k b s j)
            have hTl : (flatPre hid k b s j).length = j + 1 := flatPre_len hid k b s j
            have hnd : NodeOk (nodeFlat hid k b s j) := nodeOk_mk _ _ _ (by decide) (by omega) (by omega)
            have hnp : (nodeFlat hid k b s j).parent = (j : Int) := rfl
            have hnn : (nodeFlat hid k b s j).name = sB := rfl
            generalize flatPre hid k b s j = T at *
            generalize nodeFlat hid k b s j = nd at *
            obtain ⟨pvs, g1, g2, g3, g4⟩ := hR3
            have G3 := Lib.hid g3; have G4 := Lib.hid g4; have HNP := Lib.hid hnp; have HNN := Lib.hid hnn; have HTL := Lib.hid hTl; have G1 := Lib.hid g1
            have e1 : T.length + 1 ≤ maxLen := by unfold maxLen; omega
            have e2 : (T.length + 1) * 48 ≤ 140737488355328 := by omega
            clear g3 g4 hnp hnn hTl g1 hX hR
            obtain ⟨pa, pc, hpv⟩ := row_slice hP3.1
            obtain ⟨xa, xc, rfl⟩ := row_slice g2
            have x0 := hX3.cell 0
            have xl := hX3.lt
            have m0 := hN3.cell 0
            have m1 := hN3.cell 1
            have m2 := hN3.cell 2
            have ml := hN3.lt
            obtain ⟨i0, hi, hz0, hz1, hz2⟩ := info_parts infoNd
            have HPV := Lib.hid hpv
            clear hpv
            go_wp2_with (at_builtin; refine wpList_append_own _ rfl _ _ 25 rfl w.heap.size 42 i0 (.agg #[.int .i64 0, .string ⟨#[]⟩, .slice none 0 0]) 3 48 Try.underlying25 hi hz0 hz1 hz2 rfl (by decide) _ T.length (nodeCells T pvs) rfl (by exact World.ownsRow.alloc g2 _) ⟨wc.heap.size, 0, none⟩ 1 1 [.int .i64 j, .string sB, pv3] rfl rfl ?c1 ?c2 ?c3 ?c4 ?c5 ?_)
            case c1 => exact new_cells _ _ _ _ rfl _ rfl
            case c2 =>
              intro u hu
              simp at hu
              rcases hu with rfl | rfl | rfl
              · rfl
              · rfl
              · rw [HPV.out]; rfl
            case c3 => exact e1
            case c4 => exact e2
            case c5 => simp; omega
            intro v' w6 hown' hgrow _
            have hX6 := (hX3.alloc (.cells #[.int .i64 j, .string sB, pv3] 42)).grown hgrow (owns_ne_holds g2 hX3 (by decide))
            have hb6 := (hb4.alloc hs4 (.cells #[.int .i64 j, .string sB, pv3] 42)).grown hgrow (by simp; omega) (fun g hg => (g2.lt g hg).1)
            have hal : Below wc.heap.size wc (wc.alloc (.cells #[.int .i64 j, .string sB, pv3] 42)) := (Below.refl _ _).alloc (Nat.le_refl _) _
            have hR6 : TreeRow w6 w.heap.size v' (T ++ [nd]) := TreeRow.more G1.out (World.ownsRow.alloc g2 _) (fun q hq hq2 => (G3.out q hq hq2).new hal) G4.out ((hP3.base hsr).new hal) hnd (by rw [HNP.out, HNN.out]; exact hown') hgrow
            obtain ⟨va, vc, rfl⟩ := row_slice hown'
            clear hgrow hown' x0 xl m0 m1 m2 ml
            have x0 := hX6.cell 0
            have xf := hX6.free 0
            have xl := hX6.lt
            go_wp2_with fail
            go_roundg (gk - 1)
            case measure => omega
            case rel => exact ⟨j + 1, _, by omega, by omega, by go_num, hX6.set 0 _, by rw [hT1.out]; exact hR6.set hX6 (by decide) (by decide) 0 _, hb6.setCell (p := ⟨X, 0, none⟩) hwX _⟩
    · have hjk2 : j = k := by omega
      subst hjk2
      obtain ⟨va, vc, hv⟩ : ∃ va vc, v = .slice va (j + 1) vc := by
        obtain ⟨pvs, g1, g2, _⟩ := hR
        rw [flatPre_len] at g2
        exact row_slice g2
      subst hv
      have hT : NodesIn (fun g => w.heap.size ≤ g) wr (.slice va (j + 1) vc) (tFlat hid j b s) := hR.in
      have hbs := hbr.size
      by_cases hh : (hid && decide (1 < j)) = true
      · simp at hh
        obtain ⟨hh1, hh2⟩ := hh
        subst hh1
        have htr := Lib.hid (flat_hidden j hh2 (by omega) b0 b1 s0 (by omega : s ≤ 4294967295))
        have hgt : (1 : Int) < (j : Int) := by omega
        clear hR
        go_wp2_with fail
        refine (address_Translate (fun g => w.heap.size ≤ g) _ (tFlat true j b s) j 0 _ (by exact hT)).mono ?_
        rintro e w5 ⟨rfl, hb5⟩
        have ht := htr.out
        simp only [ht]
        clear ht
        have hb6 := hbr.trans (hb5.mono hbs)
        have hs6 := hb6.size
        go_wp2_with (go_at_call 14; refine (law_awake _).mono ?_; rintro e w9 ⟨rfl, hd9⟩)
        go_ret
        exact ⟨rfl, (hb6.alloc hs6 _).trans (hd9.mono (by simp; omega))⟩
      · have htr := Lib.hid (show aTransT (tFlat hid j b s) j 0 = ((b, s), 0) from by
          cases hid
          · exact flat_shown j (by omega) (by omega) b0 b1 s0 (by omega)
          · have : j = 1 := by simp at hh; omega
            subst this
            exact flat_one b0 b1 s0 (by omega))
        have hh : (hid && decide (1 < j)) = false := by simpa using hh
        have hh3 : hid = true → ((1 : Int) < (j : Int)) = False := by
          intro h; subst h; simp at hh; simp; omega
        have HH3 := Lib.hid hh3
        clear hR hh hh3
        go_wp2_with fail
        refine (address_Translate (fun g => w.heap.size ≤ g) _ (tFlat hid j b s) j 0 _ (by exact hT)).mono ?_
        rintro e w5 ⟨rfl, hb5⟩
        have ht := htr.out
        simp only [ht]
        clear ht
        have hb6 := hbr.trans (hb5.mono hbs)
        have hs6 := hb6.size
        have hh3 := HH3.out
        cases hid
        · clear hh3
          go_wp2_with (go_at_call 14; refine (law_awake _).mono ?_; rintro e w9 ⟨rfl, hd9⟩)
          go_ret
          exact ⟨rfl, (hb6.alloc hs6 _).trans (hd9.mono (by simp; omega))⟩
        · have hj1 : (j : Int) ≤ 1 := by have := hh3 rfl; simp at this; omega
          clear hh3
          go_wp2_with (go_at_call 14; refine (law_awake _).mono ?_; rintro e w9 ⟨rfl, hd9⟩)
          go_ret
          exact ⟨rfl, (hb6.alloc hs6 _).trans (hd9.mono (by simp; omega))⟩
end Go.Proofs.Ytjfkjnakmmkkiaa
