/- The contract of Read of the reference of token. -/
import Derived.Test.YtdigoicdgeebhaaRefJ
import Derived.Test.YtdigoicdgeebhaaTokJ
namespace Go.Proofs.Ytdigoicdgeebhaa
open Go.RowKit

theorem nextT_sign {l : List UInt8} {c : UInt8} (hH : l.headD 0 = c) (hc : ¬ (letterB c.toNat = true ∨ (c.toNat : Int) = 95 ∨ (c.toNat : Int) = 35)) (hd : digitB c.toNat = false) (hq : ¬ (c.toNat : Int) = 34)
    (h38 : ¬ ((c.toNat : Int) = 38 ∧ 1 < l.length ∧ (letterB (l.getD 1 0).toNat = true ∨ (l.getD 1 0).toNat = 95))) (h47 : (c.toNat : Int) = 47 → slashV l = 0) : nextT l = sgT l := by
  unfold nextT; simp only [hH]; rw [if_neg hc, if_neg (by simp [hd]), if_neg hq, if_neg h38]
  by_cases h : (c.toNat : Int) = 47
  · rw [if_pos h, if_neg (slash_zero (h47 h))]; rfl
  · rw [if_neg h]; rfl

theorem ref_next (s : ByteArray) (a : Nat) (line col : Int) (w : World) (hs : s.size ≤ 16000) (h1 : a < s.size) : Calls Try.prog 31 #[.agg (rfCells s a line col)] w (NextR s a w) := by
  have hH := hd_at s a h1
  by_cases hc : letterB s[a].toNat = true ∨ (s[a].toNat : Int) = 95 ∨ (s[a].toNat : Int) = 35
  · exact rnext_name s a line col w hs h1 hc
  · cases hd : digitB s[a].toNat
    · by_cases hq : (s[a].toNat : Int) = 34
      · exact rnext_string s a line col w hs h1 hc hd hq
      · by_cases h47 : (s[a].toNat : Int) = 47
        · by_cases hsl : slashV (s.data.toList.drop a) = 0
          · exact rnext_sign s a line col w hs h1 hc hd hq (.inr (.inr (.inr ⟨by simp; omega, by simpa using h47, hsl⟩))) (nextT_sign hH hc hd hq (by rintro ⟨x, _⟩; omega) (fun _ => hsl))
          · exact rnext_word s a line col w hs h1 hc hd hq h47 hsl
        · by_cases h38 : (s[a].toNat : Int) = 38
          · by_cases hs1 : a + 1 < s.size
            · have hG := getD_drop s a 1 hs1
              by_cases hl : letterB s[a + 1].toNat = true ∨ (s[a + 1].toNat : Int) = 95
              · exact rnext_ref s a line col w hs h1 hc hd hq h38 hs1 hl
              · refine rnext_sign s a line col w hs h1 hc hd hq (.inr (.inr (.inl ⟨by simpa using h38, by simp; omega, hs1, ?_, ?_⟩))) (nextT_sign hH hc hd hq (by rintro ⟨_, _, x⟩; rw [hG] at x; apply hl; rcases x with x | x; exact .inl x; right; omega) (fun x => absurd x h47))
                · cases hx : letterB s[a + 1].toNat; rfl; exact absurd (.inl hx) hl
                · simp; intro hx; exact hl (.inr hx)
            · exact rnext_sign s a line col w hs h1 hc hd hq (.inr (.inl ⟨by simpa using h38, by simp; omega, hs1⟩)) (nextT_sign hH hc hd hq (by rintro ⟨_, x, _⟩; rw [rn_len] at x; omega) (fun x => absurd x h47))
          · exact rnext_sign s a line col w hs h1 hc hd hq (.inl ⟨by simp; omega, by simp; omega⟩) (nextT_sign hH hc hd hq (by rintro ⟨x, _⟩; omega) (fun x => absurd x h47))
    · exact rnext_digit s a line col w hs h1 hc hd

/-- The loop's relation. -/
def RfRel (s : ByteArray) (file : Int) (w : World) (R : List Tok × (Int × Int × Int) × Int) (f : Nat) (v : Value) (wr : World) : Prop :=
  ∃ (j : Nat) (l c : Int) (toks : List Tok), j ≤ s.size ∧ s.size < j + f ∧ 1 ≤ l ∧ l ≤ j + 1 ∧ 1 ≤ c ∧ c ≤ j + 1 ∧ rdA file f (s.data.toList.drop j) (l, c) toks = R ∧ toks.length ≤ 6000 ∧
    wr.ownsRow (w.heap.size + 2) 40 6 v toks.length (toksCells file toks) ∧ Holds wr (w.heap.size + 1) (rfCells s j l c) 59 ∧ Holds wr w.heap.size #[.int .i64 0, .int .i64 0, .int .i64 0] 31 ∧ Below w.heap.size w wr

set_option maxHeartbeats 8000000 in
theorem ref_Read (s : ByteArray) (file : Int) (w : World) (hs : s.size ≤ maxLen) :
    Calls Try.prog 14 #[.string s, .int .i64 file] w (ReadPost s file w) := by
  unfold maxLen at hs
  by_cases h16 : 16000 < s.size
  · have hF := Lib.hid (show readT s.data.toList file = ([], (0, 0, 0), 3) from by unfold readT; rw [len_of, if_pos h16])
    go_enter Try.func14, Try.ntmps14
    go_wp2_with fail
    exact bodyPost_ret (v := .tuple #[.slice none 0 0, .agg #[.int .i64 0, .int .i64 0, .int .i64 0], .int .i64 3]) (by simp [results, Try.results14, go_sem]) rfl ⟨_, by rw [hF.out]; rfl, by rw [hF.out]; exact World.ownsRow_nil _ _ _ _, by repeat (first | with_reducible exact Below.refl _ _ | with_reducible assumption | with_reducible refine Below.setCell ?_ (by first | omega | simp) _ | with_reducible refine Below.alloc ?_ (by first | omega | (simp; omega) | simp) _ | with_reducible refine below_drewN ?_ _ | with_reducible refine Below.drew ?_)⟩
  · have h16 : s.size ≤ 16000 := by omega
    have hF : readT s.data.toList file = rdA file (s.size + 1) s.data.toList (1, 1) [] := by unfold readT; rw [len_of, if_neg (by omega)]
    unfold ReadPost
    generalize readT s.data.toList file = R at hF
    have HF := Lib.hid hF; clear hF
    go_enter Try.func14, Try.ntmps14
    go_wp2_with fail
    go_loopg [8] (s.size + 1) (fun f v wr => RfRel s file w R f v wr)
    case atStart => exact ⟨0, 1, 1, [], by omega, by omega, by omega, by omega, by omega, by omega, HF.out.symm, by simp, World.ownsRow_nil _ _ _ _, new2 w _ (rfCells s 0 1 1) _, (Holds.new w _ _).alloc _, by repeat (first | with_reducible exact Below.refl _ _ | with_reducible assumption | with_reducible refine Below.setCell ?_ (by first | omega | simp) _ | with_reducible refine Below.alloc ?_ (by first | omega | (simp; omega) | simp) _ | with_reducible refine below_drewN ?_ _ | with_reducible refine Below.drew ?_)⟩
    case round =>
      obtain ⟨j, l, c, toks, hj, hf, hl1, hl2, hc1, hc2, hE, htl, hown, hH, hP, hbel⟩ := hrel
      obtain ⟨f, rfl⟩ : ∃ f', gk = f' + 1 := ⟨gk - 1, by omega⟩
      have hblk := ref_skip s j l c (w.heap.size + 1) wr hH hj h16 hl1 hl2 hc1 hc2
      unfold SkipPost at hblk
      have hroom := blk_room s j (s.size - j) hj
      have hbb : blk (s.data.toList.drop j).length (s.data.toList.drop j) = blk (s.size - j) (s.data.toList.drop j) := by congr 1; simp
      generalize blk (s.size - j) (s.data.toList.drop j) = B at hblk hroom hbb
      obtain ⟨bn, bx⟩ := B
      simp only at hblk hroom
      have hbd := adv_bd ((s.data.toList.drop j).take bn) (l, c) hl1 hc1
      have hbl : ((s.data.toList.drop j).take bn).length ≤ bn := by simp; omega
      have hcases := @rdA_bad file f (s.data.toList.drop j) (l, c) toks _ hbb
      have hcases2 := @rdA_full file f (s.data.toList.drop j) (l, c) toks _ hbb
      have hcases3 := @rdA_end file f (s.data.toList.drop j) (l, c) toks _ hbb
      have hcases4 := @rdA_err file f (s.data.toList.drop j) (l, c) toks _ hbb
      have hcases5 := @rdA_go file f (s.data.toList.drop j) (l, c) toks _ hbb
      simp only at hcases hcases2 hcases3 hcases4 hcases5 hbd
      rw [List.drop_drop] at hcases3 hcases4 hcases5
      rw [hE] at hcases hcases2 hcases3 hcases4 hcases5
      generalize adv ((s.data.toList.drop j).take bn) (l, c) = p1 at hblk hbd hcases hcases2 hcases3 hcases4 hcases5
      obtain ⟨l1, c1⟩ := p1
      simp only at hblk hbd hcases hcases2 hcases3 hcases4 hcases5
      obtain ⟨k1, k2, k3, k4⟩ := hbd
      have k3' : l1 ≤ (j + bn : Nat) + 1 := by omega
      have k4' : c1 ≤ (j + bn : Nat) + 1 := by omega
      clear hE k3 k4 hbl hbb
      generalize hj2 : j + bn = j2 at hblk hroom hcases3 hcases4 hcases5 k3' k4'
      have hjj : j ≤ j2 := by omega
      clear hj2
      have HC := Lib.hid hcases; clear hcases
      have HC2 := Lib.hid hcases2; clear hcases2
      have HC3 := Lib.hid hcases3; clear hcases3
      have HC4 := Lib.hid hcases4; clear hcases4
      have HC5 := Lib.hid hcases5; clear hcases5
      have HBK := Lib.hid hblk; clear hblk
      obtain ⟨ao, cap, rfl⟩ := ownsRow_shape hown
      go_wp2_with fail
      refine HBK.out.mono ?_
      rintro e w1 ⟨rfl, hH1, hK1⟩
      have hP1 := hP.keeps hK1 (by omega)
      have hb1 : Below w.heap.size w w1 := hbel.trans (hK1.below hbel.size (by intro i hi; omega))
      have hown1 := ownsRow_keeps hown hK1 (by intro g hg; have := (hown.lt g hg).1; omega)
      have hs1 := hK1.size
      have hs0 := hb1.size
      have hlt1 := hH1.lt
      have hlt0 := hP1.lt
      obtain ⟨q0, q1, q2, q3, q4, q5⟩ := tri hP1
      obtain ⟨r0, r1, r2, r3, r4, r5, r6, r7⟩ := rf_cells hH1
      cases bx with
      | true =>
        have hR := Lib.hid (HC.out rfl)
        go_wp2_with fail
        go_region
        go_wp2_with fail
        exact bodyPost_ret (v := .tuple #[.slice none 0 0, .agg #[.int .i64 file, .int .i64 l1, .int .i64 c1], .int .i64 21]) (by simp [results, Try.results14, go_sem, q0, q1, q2, hlt0]) rfl ⟨_, by rw [hR.out]; rfl, by rw [hR.out]; exact World.ownsRow_nil _ _ _ _, by repeat (first | with_reducible exact Below.refl _ _ | with_reducible assumption | with_reducible refine Below.setCell ?_ (by first | omega | simp) _ | with_reducible refine Below.alloc ?_ (by first | omega | (simp; omega) | simp) _ | with_reducible refine below_drewN ?_ _ | with_reducible refine Below.drew ?_)⟩
      | false =>
        by_cases h6 : toks.length = 6000
        · have h6' : ((toks.length : Int) == 6000) = true := by simp [h6]
          have hR := Lib.hid (HC2.out rfl h6)
          clear h6
          go_wp2_with fail
          go_region
          go_wp2_with fail
          exact bodyPost_ret (v := .tuple #[.slice none 0 0, .agg #[.int .i64 file, .int .i64 l1, .int .i64 c1], .int .i64 3]) (by simp [results, Try.results14, go_sem, q0, q1, q2, hlt0]) rfl ⟨_, by rw [hR.out]; rfl, by rw [hR.out]; exact World.ownsRow_nil _ _ _ _, by repeat (first | with_reducible exact Below.refl _ _ | with_reducible assumption | with_reducible refine Below.setCell ?_ (by first | omega | simp) _ | with_reducible refine Below.alloc ?_ (by first | omega | (simp; omega) | simp) _ | with_reducible refine below_drewN ?_ _ | with_reducible refine Below.drew ?_)⟩
        · have h6' : ((toks.length : Int) == 6000) = false := by simp; omega
          have h6b : toks.length < 6000 := by omega
          have H6 := Lib.hid h6; clear h6
          by_cases hend : j2 = s.size
          · have hend' : ((j2 : Int) == (s.size : Int)) = true := by simp; omega
            have hR := Lib.hid (HC3.out rfl H6.out (drop_end s j2 (by omega)))
            clear hend
            obtain ⟨i0, hi, hz0, hz1, hz2⟩ := info_parts infoTok
            go_wp2_with (at_builtin; refine wpList_append_own _ rfl _ _ 29 rfl (w.heap.size + 2) 40 i0 _ 6 56 Try.underlying29 hi hz0 hz1 hz2 rfl (by decide) _ _ _ rfl ((hown1.alloc _).alloc _) ⟨w1.heap.size + 1, 0, none⟩ 1 1 (tokCells file ⟨8, [], 0, l1, c1⟩) rfl rfl ?c1 ?c2 ?c3 ?c4 ?c5 ?_)
            case c1 => exact new_cells _ _ _ _ (by simp) _ rfl
            case c2 => exact tok_one _ _
            case c3 => unfold maxLen; omega
            case c4 => omega
            case c5 => simp; omega
            intro v' w3 hown' hgrow _
            have hnr : ∀ g, (Value.slice ao toks.length cap).ownBlock = some g → w.heap.size + 2 ≤ g := fun g hg => (hown1.lt g hg).1
            have hP3 : Holds w3 w.heap.size #[.int .i64 0, .int .i64 0, .int .i64 0] 31 := ((hP1.alloc _).alloc _).grown hgrow (fun e => by have := hnr _ e; omega)
            have hb3 : Below w.heap.size w w3 := ((hb1.alloc (by omega) _).alloc (by simp; omega) _).grown hgrow (by simp; omega) (fun g hg => by have := hnr g hg; omega)
            obtain ⟨p0, p1, p2, p3, p4, p5⟩ := tri hP3
            have hown2 : w3.ownsRow w.heap.size 40 6 v' (toks.length + 1) (toksCells file (toks ++ [⟨8, [], 0, l1, c1⟩])) := by rw [toksCells_snoc]; exact ownsRow_base hown' (by omega)
            have hng : ∀ g, v'.ownBlock = some g → ¬ g = w.heap.size := fun g hg => by have := (hown'.lt g hg).1; omega
            have hlt3 := hP3.lt
            clear hown' hgrow
            obtain ⟨ao', cap', rfl⟩ := ownsRow_shape hown2
            go_wp2_with fail
            exact bodyPost_ret (v := .tuple #[.slice ao' (toks.length + 1) cap', .agg #[.int .i64 0, .int .i64 0, .int .i64 0], .int .i64 0]) (by simp [results, Try.results14, go_sem, p0, p1, p2]) rfl ⟨_, by rw [hR.out]; rfl, by
              rw [hR.out]
              simp only [List.length_append, List.length_singleton]
              exact ownsRow_keeps hown2 ((((Keeps.refl (fun i => i = w.heap.size) w3).setCell (.inr rfl) _).setCell (.inr rfl) _).setCell (.inr rfl) _) hng,
              by repeat (first | with_reducible exact Below.refl _ _ | with_reducible assumption | with_reducible refine Below.setCell ?_ (by first | omega | simp) _ | with_reducible refine Below.alloc ?_ (by first | omega | (simp; omega) | simp) _ | with_reducible refine below_drewN ?_ _ | with_reducible refine Below.drew ?_)⟩
          · have hj2 : j2 < s.size := by omega
            have hend' : ((j2 : Int) == (s.size : Int)) = false := by simp; omega
            have hdn : s.data.toList.drop j2 ≠ [] := by rw [drop_cons s j2 hj2]; simp
            have hnext := fun wx => ref_next s j2 l1 c1 wx h16 hj2
            unfold NextR at hnext
            have hroom2 := nextT_room (s.data.toList.drop j2) hdn
            have hskp := fun n hn wx hh => ref_step s j2 n l1 c1 (w.heap.size + 1) wx hh hn (by omega) k1 k3' k2 k4'
            have HC4' := Lib.hid (fun h => HC4.out rfl H6.out hdn rfl h)
            have HC5' := Lib.hid (fun h => HC5.out rfl H6.out hdn rfl h)
            clear HC4 HC5 HC3 HC2 HC
            simp only [List.length_drop] at hroom2
            generalize nextT (s.data.toList.drop j2) = T at hnext hroom2 HC4' HC5'
            obtain ⟨tk, tn, te⟩ := T
            simp only at hnext hroom2 HC4' HC5'
            have HNX := Lib.hid hnext; clear hnext
            have HSK := Lib.hid hskp; clear hskp
            clear hend
            go_wp2_with fail
            refine (HNX.out _).mono ?_
            rintro e w2 ⟨tk', tn', rfl, hok, hbn⟩
            unfold tokAgg
            have hKn : Keeps (fun _ => False) _ w2 := Keeps.of_fresh hbn _
            have hH2 := (hH1.alloc _).keeps hKn (fun e => e)
            have hP2 := (hP1.alloc _).keeps hKn (fun e => e)
            have hQ2 := (Holds.new w1 _ _).keeps hKn (fun e => e)
            have hown2 := ownsRow_keeps (hown1.alloc _) hKn (fun _ _ e => e)
            have hb2 : Below w.heap.size w w2 := (hb1.alloc hs0 _).trans (hbn.mono (by simp; omega))
            have hs2 := hKn.size
            simp at hs2
            have hs02 := hb2.size
            clear q0 q1 q2 q3 q4 q5 r0 r1 r2 r3 r4 r5 r6 r7
            obtain ⟨q0, q1, q2, q3, q4, q5⟩ := tri hP2
            obtain ⟨r0, r1, r2, r3, r4, r5, r6, r7⟩ := rf_cells hH2
            obtain ⟨u0, u1, u2, u3, u4, u5⟩ := tri hQ2
            have hlt2 := hH2.lt
            have hltp := hP2.lt
            have hltq := hQ2.lt
            by_cases hte : te = 0
            · subst hte
              obtain ⟨rfl, rfl⟩ := hok rfl
              obtain ⟨t1, t2⟩ := hroom2 rfl
              have t2' : j2 + tn' ≤ s.size := by rw [len_of] at t2; omega
              have hR := Lib.hid (HC5'.out rfl)
              clear HC4' HC5' hroom2 t2 hok
              obtain ⟨i0, hi, hz0, hz1, hz2⟩ := info_parts infoTok
              go_wp2_with (at_builtin; refine wpList_append_own _ rfl _ _ 29 rfl (w.heap.size + 2) 40 i0 _ 6 56 Try.underlying29 hi hz0 hz1 hz2 rfl (by decide) _ _ _ rfl ((hown2.alloc _).alloc _) ⟨w2.heap.size + 1, 0, none⟩ 1 1 (tokCells file { tk' with line := l1, col := c1 }) rfl rfl ?c1 ?c2 ?c3 ?c4 ?c5 ?_)
              case c1 => exact new_cells _ _ _ _ (by simp) _ rfl
              case c2 => exact tok_one _ _
              case c3 => unfold maxLen; omega
              case c4 => omega
              case c5 => simp; omega
              intro v' w3 hown' hgrow _
              have hnr : ∀ g, (Value.slice ao toks.length cap).ownBlock = some g → w.heap.size + 2 ≤ g := fun g hg => (hown1.lt g hg).1
              have hP3 : Holds w3 w.heap.size #[.int .i64 0, .int .i64 0, .int .i64 0] 31 := ((hP2.alloc _).alloc _).grown hgrow (fun e => by have := hnr _ e; omega)
              have hH3 : Holds w3 (w.heap.size + 1) (rfCells s j2 l1 c1) 59 := ((hH2.alloc _).alloc _).grown hgrow (fun e => by have := hnr _ e; omega)
              have hb3 : Below w.heap.size w w3 := ((hb2.alloc hs02 _).alloc (by simp; omega) _).grown hgrow (by simp; omega) (fun g hg => by have := hnr g hg; omega)
              have hown3 : w3.ownsRow (w.heap.size + 2) 40 6 v' (toks.length + 1) (toksCells file (toks ++ [{ tk' with line := l1, col := c1 }])) := by rw [toksCells_snoc]; exact hown'
              have hng : ∀ g, v'.ownBlock = some g → ¬ g = w.heap.size + 1 := fun g hg => by have := (hown'.lt g hg).1; omega
              clear hown' hgrow
              have hlt3 := hH3.lt
              clear q0 q1 q2 q3 q4 q5 r0 r1 r2 r3 r4 r5 r6 r7 u0 u1 u2 u3 u4 u5
              go_wp2_with fail
              refine (HSK.out tn' t2' _ hH3).mono ?_
              rintro e w4 ⟨rfl, hH4, hK4⟩
              have hP4 := hP3.keeps hK4 (by omega)
              have hb4 : Below w.heap.size w w4 := hb3.trans (hK4.below hb3.size (by intro i hi; omega))
              have hown4 := ownsRow_keeps hown3 hK4 hng
              go_wp2_with fail
              go_roundg f
              case measure => omega
              case rel =>
                have hbd := adv_bd ((s.data.toList.drop j2).take tn') (l1, c1) k1 k2
                have hln : ((s.data.toList.drop j2).take tn').length ≤ tn' := by simp; omega
                have hR2 := hR.out.symm
                rw [List.drop_drop] at hR2
                exact ⟨j2 + tn', _, _, toks ++ [{ tk' with line := l1, col := c1 }], t2', by omega, hbd.1, by simp at hbd; omega, hbd.2.1, by simp at hbd; omega, hR2, by simp; omega, by simpa using hown4, hH4, hP4, hb4⟩
            · have hR := Lib.hid (HC4'.out hte)
              have hte' : (te != 0) = true := by simpa using hte
              clear HC4' HC5' hroom2 hte hok
              go_wp2_with fail
              go_region
              go_wp2_with fail
              exact bodyPost_ret (v := .tuple #[.slice none 0 0, .agg #[.int .i64 file, .int .i64 l1, .int .i64 c1], .int .i64 te]) (by simp [results, Try.results14, go_sem, q0, q1, q2, hltp]) rfl ⟨_, by rw [hR.out]; rfl, by rw [hR.out]; exact World.ownsRow_nil _ _ _ _, by repeat (first | with_reducible exact Below.refl _ _ | with_reducible assumption | with_reducible refine Below.setCell ?_ (by first | omega | simp) _ | with_reducible refine Below.alloc ?_ (by first | omega | (simp; omega) | simp) _ | with_reducible refine below_drewN ?_ _ | with_reducible refine Below.drew ?_)⟩
end Go.Proofs.Ytdigoicdgeebhaa
