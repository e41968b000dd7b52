/- The law TokenPlaces: its walk. -/
import Derived.Test.YtdigoicdgeebhaaMakeB
import Derived.Test.YtdigoicdgeebhaaRefL
import Derived.Test.YtdigoicdgeebhaaLawO
import Derived.Test.YtdigoicdgeebhaaPlaQ
import Derived.Test.YtdigoicdgeebhaaLawS
namespace Go.Proofs.Ytdigoicdgeebhaa
open Go.RowKit

theorem up_at (l : List Tok) (k : Nat) (h : k < l.length) (h2 : k < (l.map upT).length) : (l.map upT)[k].kind = l[k].kind ∧ (l.map upT)[k].text = l[k].text ∧ (l.map upT)[k].value = l[k].value ∧ (l.map upT)[k].line = l[k].line + 1 ∧ (l.map upT)[k].col = l[k].col := by
  rw [List.getElem_map]; exact ⟨rfl, rfl, rfl, rfl, rfl⟩
theorem asc_at (l : List Tok) (h : l.Pairwise (fun a b => Ahead (placeOf a) (placeOf b))) (k : Nat) (h0 : ¬ k = 0) (hj : k - 1 < l.length) (hk : k < l.length) : l[k - 1].line < l[k].line ∨ l[k - 1].line = l[k].line ∧ l[k - 1].col < l[k].col :=
  List.pairwise_iff_getElem.1 h (k - 1) k hj hk (by omega)

set_option maxHeartbeats 4000000 in
set_option maxRecDepth 100000 in
theorem places_walk (a : Option Addr) (len cap : Nat) (w : World) (hi : IntsIn w a len) (hlc : len ≤ cap) (hcap : cap ≤ maxLen) (hnil : a = none → len = 0 ∧ cap = 0) (h0 : Lay0 w) :
    Calls Try.prog 5 #[.slice a len cap] w fun e w' => e = .returned (.bool true) ∧ Below w.heap.size w w' := by
  go_enter Try.func5, Try.ntmps5
  go_wp2_with fail
  refine (mk_New a len cap _ hi hlc hcap hnil).mono ?_
  rintro e w1 ⟨tb, rfl, hT1, hb1⟩
  go_wp2_with fail
  refine (mk_Source _ _ 12 _ hT1 (by omega)).mono ?_
  rintro e w2 ⟨x, rfl, hx, hT2, hK2⟩
  go_wp2_with fail
  refine (mk_Source _ _ 12 _ hT2 (by omega)).mono ?_
  rintro e w3 ⟨y, rfl, hy, hT3, hK3⟩
  have htb1 := hT1.1
  have hb3 : Below w.heap.size w w3 := (hb1.trans (hK2.below hb1.size (by intro i hi e; omega))).trans (hK3.below (by have := hb1.size; have := hK2.size; omega) (by intro i hi e; omega))
  have hL3 : Lay0 w3 := h0.keeps (Keeps.of_fresh hb3 (fun _ => False)) (fun e => e)
  clear hT1 hT2 hT3 hK2 hK3 hb1 htb1
  obtain ⟨s1, ha1, hs1, hd1⟩ := adds_ex x ⟨#[10]⟩ (by rw [show (⟨#[10]⟩ : ByteArray).size = 1 from rfl]; omega)
  rw [show (⟨#[10]⟩ : ByteArray).size = 1 from rfl] at hs1
  obtain ⟨s2, ha2, hs2, hd2⟩ := adds_ex s1 y (by omega)
  obtain ⟨s3, ha3, hs3, hd3⟩ := adds_ex ⟨#[10]⟩ x (by rw [show (⟨#[10]⟩ : ByteArray).size = 1 from rfl]; omega)
  rw [show (⟨#[10]⟩ : ByteArray).size = 1 from rfl] at hs3
  unfold Adds at ha1 ha2 ha3
  have hd2' : s2.data.toList = x.data.toList ++ 10 :: y.data.toList := by rw [hd2, hd1]; simp
  have hd3' : s3.data.toList = 10 :: x.data.toList := by rw [hd3]; rfl
  have hr1 := fun wx hl => token_Read x 1 wx (by unfold maxLen; omega) hl
  have hr2 := fun wx hl => token_Read s2 1 wx (by unfold maxLen; omega) hl
  have hr3 := fun wx hl => token_Read s3 1 wx (by unfold maxLen; omega) hl
  unfold ReadPost at hr1 hr2 hr3
  have hup := readT_up x.data.toList 1 (by rw [len_of]; omega)
  have hpre := readT_pre x.data.toList y.data.toList 1
  have hasc := readT_asc x.data.toList 1
  have hline := readT_line x.data.toList 1
  rw [len_of] at hline
  have hl1 := reads_len x 1 (by omega)
  have hl2 := reads_len s2 1 (by omega)
  rw [hd2'] at hr2 hl2
  rw [hd3'] at hr3
  clear hd1 hd2 hd3 hd2' hd3'
  generalize readT x.data.toList 1 = R1 at hr1 hup hpre hasc hline hl1
  generalize readT (x.data.toList ++ 10 :: y.data.toList) 1 = R2 at hr2 hpre hl2
  generalize readT (10 :: x.data.toList) 1 = R3 at hr3 hup
  obtain ⟨l, ⟨p1, p2, p3⟩, er⟩ := R1
  obtain ⟨m, ⟨q1, q2, q3⟩, fr⟩ := R2
  obtain ⟨n, ⟨o1, o2, o3⟩, gr⟩ := R3
  simp only at hr1 hr2 hr3 hup hpre hasc hline hl1 hl2
  obtain ⟨rfl, rfl⟩ := hup
  unfold posAgg at hr1 hr2 hr3
  simp only at hr1 hr2 hr3
  have H1 := Lib.hid hr1; clear hr1
  have H2 := Lib.hid hr2; clear hr2
  have H3 := Lib.hid hr3; clear hr3
  have HP := Lib.hid hpre; clear hpre
  have HA := Lib.hid hasc; clear hasc
  have HL := Lib.hid hline; clear hline
  have hs3' := hb3.size
  go_wp2_with fail
  refine (H1.out _ hL3).mono ?_
  rintro e w4 ⟨v1, rfl, hown1, hb4⟩
  have hL4 : Lay0 w4 := hL3.keeps (Keeps.of_fresh hb4 (fun _ => False)) (fun e => e)
  have hs4 := hb4.size
  go_wp2_with fail
  refine (H2.out _ (by exact hL4.keeps ((Keeps.refl (fun _ => False) w4).alloc _) (fun e => e))).mono ?_
  rintro e w5 ⟨v2, rfl, hown2, hb5⟩
  have hK5 := ((Keeps.refl (fun _ => False) w4).alloc _).trans (Keeps.of_fresh hb5 (fun _ => False)) (fun _ _ e => e)
  have hL5 : Lay0 w5 := hL4.keeps hK5 (fun e => e)
  have hs5 := hK5.size
  go_wp2_with fail
  refine (H3.out _ (by exact hL5.keeps ((Keeps.refl (fun _ => False) w5).alloc _) (fun e => e))).mono ?_
  rintro e w6 ⟨v3, rfl, hown3, hb6⟩
  have hK6 := ((Keeps.refl (fun _ => False) w5).alloc _).trans (Keeps.of_fresh hb6 (fun _ => False)) (fun _ _ e => e)
  have hL6 : Lay0 w6 := hL5.keeps hK6 (fun e => e)
  have hs6 := hK6.size
  have hK36 : Keeps (fun _ => False) w3 w6 := ((Keeps.of_fresh hb4 (fun _ => False)).trans hK5 (fun _ _ e => e)).trans hK6 (fun _ _ e => e)
  have hb7 : Below w.heap.size w w6 := hb3.trans (hK36.below hs3' (by intro i hi e; exact e))
  have O1 := Lib.hid (ownsRow_keeps hown1 (hK5.trans hK6 (fun _ _ e => e)) (fun _ _ e => e))
  have O2 := Lib.hid (ownsRow_keeps hown2 hK6 (fun _ _ e => e))
  have O3 := Lib.hid hown3
  clear hown1 hown2 hown3 hK5 hK6 hK36 hb4 hb5 hb6 hL4 hL5 hL3 H1 H2 H3
  obtain ⟨sa, sc, e1⟩ := ownsRow_shape O1.out
  obtain ⟨ta, tc, e2⟩ := ownsRow_shape O2.out
  obtain ⟨ua, uc, e3⟩ := ownsRow_shape O3.out
  subst e1 e2 e3
  by_cases her : gr = 0
  · subst her
    have HA2 := Lib.hid (HA.out rfl); clear HA
    have hb8 := hb7.alloc hb7.size (.cells #[.int .i64 o1, .int .i64 o2, .int .i64 o3] 31)
    have hs8 := hb8.size
    go_wp2_with fail
    go_loopg [54] (l.length) (fun f z wr => ∃ k : Nat, k ≤ l.length ∧ l.length ≤ k + f ∧ z = .int .i64 k ∧ Keeps (fun _ => False) w6 wr)
    case atStart => exact ⟨0, by omega, by omega, rfl, (Keeps.refl _ _).alloc _⟩
    case round =>
      obtain ⟨k, hk, hf, rfl, hKr⟩ := hrel
      by_cases hlt : k < l.length
      · have P1 := ownsRow_keeps O1.out hKr (fun _ _ e => e)
        have P3 := ownsRow_keeps O3.out hKr (fun _ _ e => e)
        obtain ⟨g1, cap1, e1, hc1, hg1, x0, x1, x2, x3, x4, x5⟩ := tok_six P1 k hlt
        obtain ⟨g3, cap3, e3, hc3, hg3, z0, z1, z2, z3, z4, z5⟩ := tok_six P3 k (by simpa using hlt)
        obtain ⟨y0, y1, y2, y4, y5⟩ := up_at l k hlt (by simpa using hlt)
        rw [y0] at z0
        rw [y1] at z1
        rw [y2] at z2
        rw [y4] at z4
        rw [y5] at z5
        clear y0 y1 y2 y4 y5 P3
        obtain ⟨hl1', hl2'⟩ := HL.out l[k] (List.getElem_mem hlt)
        simp only [Value.slice.injEq] at e1 e3
        obtain ⟨rfl, _, rfl⟩ := e1
        obtain ⟨rfl, _, rfl⟩ := e3
        simp only [List.length_map] at hc3
        have hlen1 : decide (l.length ≤ k) = false := by simp; omega
        have hkl : (k : Int) < (l.length : Int) := by omega
        by_cases hk0 : k = 0
        · have hk1 : decide (0 < k) = false := by simp; omega
          clear hk0
          go_wp2_with fail
          simp only [List.append_eq, List.cons_append, List.nil_append]
          go_quiet (fail)
          go_wp2_with fail
          go_roundg (gk - 1)
          case measure => omega
          case rel => exact ⟨k + 1, by omega, by omega, by go_num, (hKr.alloc _).drewN _⟩
        · have hk1 : decide (0 < k) = true := by simp; omega
          have hj : k - 1 < l.length := by omega
          obtain ⟨g4, cap4, e4, hc4, hg4, w0, w1', w2', w3', w4', w5'⟩ := tok_six P1 (k - 1) hj
          simp only [Value.slice.injEq] at e4
          obtain ⟨e4, _, rfl⟩ := e4
          cases e4
          have hsub : IntKind.i64.wrap ((k : Int) - 1) = (k : Int) - 1 := IntWalk.i64_in _ (by omega)
          have hsub0 : (0 : Int) ≤ (k : Int) - 1 := by omega
          have hsub1 : ((k : Int) - 1).toNat = k - 1 := by omega
          have hpos := asc_at l HA2.out k hk0 hj hlt
          clear hk0 w0 w1' w2' w3'
          rcases hpos with hpos | ⟨hpos1, hpos2⟩
          · have hp' : decide (l[k - 1].line < l[k].line) = true := by simpa using hpos
            go_wp2_with fail
            simp only [List.append_eq, List.cons_append, List.nil_append]
            go_quiet (fail)
            go_wp2_with fail
            go_roundg (gk - 1)
            case measure => omega
            case rel => exact ⟨k + 1, by omega, by omega, by go_num, (hKr.alloc _).drewN _⟩
          · have hp' : decide (l[k - 1].line < l[k].line) = false := by simp; omega
            have hp2' : decide (l[k - 1].col < l[k].col) = true := by simpa using hpos2
            rw [hpos1] at hp' w4'
            clear hpos1
            go_wp2_with fail
            simp only [List.append_eq, List.cons_append, List.nil_append]
            go_quiet (fail)
            go_wp2_with fail
            go_roundg (gk - 1)
            case measure => omega
            case rel => exact ⟨k + 1, by omega, by omega, by go_num, (hKr.alloc _).drewN _⟩
      · have hlk : ¬ k < l.length := hlt
        have hb9 : Below w.heap.size w wr := hb7.trans (hKr.below hb7.size (fun _ _ e => e))
        have hs9 := hb9.size
        clear hb8 hs8 hlt
        by_cases hfr : fr = 0
        · have hfacts : l.length ≤ m.length ∧ ∀ j, (h1 : j < l.length) → (h2 : j < m.length) → j + 1 < l.length → m[j].kind = l[j].kind ∧ m[j].text = l[j].text ∧ m[j].value = l[j].value ∧ m[j].line = l[j].line ∧ m[j].col = l[j].col := by
            obtain ⟨T, e, rest, rfl, rfl, hne⟩ := HP.out trivial hfr
            have := List.length_pos_iff.2 hne
            refine ⟨by simp; omega, fun j h1 h2 h3 => ?_⟩
            have h4 : j < T.length := by simp at h3; omega
            rw [List.getElem_append_left h4, List.getElem_append_left h4]
            exact ⟨rfl, rfl, rfl, rfl, rfl⟩
          obtain ⟨hlm, hsame⟩ := hfacts
          have HS := Lib.hid hsame; clear hsame
          have hdm : decide (m.length < l.length) = false := by simp; omega
          clear HP HL HA2
          subst hfr
          go_wp2_with fail
          go_loopg [17] (l.length) (fun f z wr => ∃ j : Nat, j ≤ l.length ∧ l.length ≤ j + f ∧ z = .int .i64 j ∧ Keeps (fun _ => False) w6 wr)
          case atStart => exact ⟨0, by omega, by omega, rfl, hKr⟩
          case round =>
            obtain ⟨j, hj, hf2, rfl, hKj⟩ := hrel
            by_cases hj1 : j + 1 < l.length
            · have hjl : j < l.length := by omega
              have hjm : j < m.length := by omega
              have P1 := ownsRow_keeps O1.out hKj (fun _ _ e => e)
              have P2 := ownsRow_keeps O2.out hKj (fun _ _ e => e)
              obtain ⟨g1, cap1, e1, hc1, hg1, x0, x1, x2, x3, x4, x5⟩ := tok_six P1 j hjl
              obtain ⟨g2, cap2, e2, hc2, hg2, z0, z1, z2, z3, z4, z5⟩ := tok_six P2 j hjm
              obtain ⟨y0, y1, y2, y4, y5⟩ := HS.out j hjl hjm hj1
              rw [y0] at z0
              rw [y1] at z1
              rw [y2] at z2
              rw [y4] at z4
              rw [y5] at z5
              clear y0 y1 y2 y4 y5 P1 P2
              simp only [Value.slice.injEq] at e1 e2
              obtain ⟨rfl, _, rfl⟩ := e1
              obtain ⟨rfl, _, rfl⟩ := e2
              have hjb : decide (j + 1 < l.length) = true := by simpa using hj1
              go_wp2_with fail
              go_quiet (fail)
              go_wp2_with fail
              go_roundg (gk - 1)
              case measure => omega
              case rel => exact ⟨j + 1, by omega, by omega, by go_num, hKj.drewN _⟩
            · have hjb : decide (j + 1 < l.length) = false := by simpa using hj1
              have hbj : Below w.heap.size w wr := hb7.trans (hKj.below hb7.size (fun _ _ e => e))
              go_wp2_with fail
              refine (law_awake _ (by exact hL6.keeps hKj (fun e => e))).mono ?_
              rintro e w8 ⟨rfl, hb⟩
              go_wp2_with fail
              go_ret
              exact ⟨rfl, hbj.trans (hb.mono hbj.size)⟩
        · have hfr' : (fr == 0) = false := by simpa using hfr
          clear HP HL HA2 hfr
          go_wp2_with fail
          go_loopg [17] (l.length) (fun f z wr => ∃ j : Nat, j ≤ l.length ∧ z = .int .i64 j ∧ Keeps (fun _ => False) w6 wr)
          case atStart => exact ⟨0, by omega, rfl, hKr⟩
          case round =>
            obtain ⟨j, hj, rfl, hKj⟩ := hrel
            have hbj : Below w.heap.size w wr := hb7.trans (hKj.below hb7.size (fun _ _ e => e))
            by_cases hj1 : j + 1 < l.length
            · have hjb : decide (j + 1 < l.length) = true := by simpa using hj1
              go_wp2_with fail
              refine (law_awake _ (by exact hL6.keeps hKj (fun e => e))).mono ?_
              rintro e w8 ⟨rfl, hb⟩
              go_wp2_with fail
              go_ret
              exact ⟨rfl, hbj.trans (hb.mono hbj.size)⟩
            · have hjb : decide (j + 1 < l.length) = false := by simpa using hj1
              go_wp2_with fail
              refine (law_awake _ (by exact hL6.keeps hKj (fun e => e))).mono ?_
              rintro e w8 ⟨rfl, hb⟩
              go_wp2_with fail
              go_ret
              exact ⟨rfl, hbj.trans (hb.mono hbj.size)⟩
  · have her' : (gr != 0) = true := by simpa using her
    go_wp2_with fail
    refine (law_awake _ (by exact hL6.keeps ((Keeps.refl (fun _ => False) w6).alloc _) (fun e => e))).mono ?_
    rintro e w8 ⟨rfl, hb⟩
    have hb8 := hb7.alloc hb7.size (.cells #[.int .i64 o1, .int .i64 o2, .int .i64 o3] 31)
    go_wp2_with fail
    go_ret
    exact ⟨rfl, hb8.trans (hb.mono hb8.size)⟩
end Go.Proofs.Ytdigoicdgeebhaa
