/- The contract of Read of token. -/
import Derived.Test.YtdigoicdgeebhaaTokH
import Derived.Test.YtdigoicdgeebhaaTokI
import Derived.Test.YtdigoicdgeebhaaTokP
namespace Go.Proofs.Ytdigoicdgeebhaa
open Go.RowKit

/-- The cells of tokens. -/
def tokCells (file : Int) (t : Tok) : List Value := [.int .i64 t.kind, .string ⟨t.text.toArray⟩, .int .i64 t.value, .int .i64 file, .int .i64 t.line, .int .i64 t.col]
def toksCells (file : Int) (l : List Tok) : List Value := l.flatMap (tokCells file)
def posAgg (p : Int × Int × Int) : Value := .agg #[.int .i64 p.1, .int .i64 p.2.1, .int .i64 p.2.2]
theorem toksCells_snoc (file : Int) (l : List Tok) (t : Tok) : toksCells file (l ++ [t]) = toksCells file l ++ tokCells file t := by simp [toksCells]
theorem tok_one (file : Int) (t : Tok) : ∀ u ∈ tokCells file t, u.oneCell' = true := by
  intro u hu
  simp only [tokCells, List.mem_cons, List.not_mem_nil, or_false] at hu
  rcases hu with rfl | rfl | rfl | rfl | rfl | rfl <;> rfl
def ReadPost (s : ByteArray) (file : Int) (w : World) (e : Ending) (w' : World) : Prop :=
  ∃ v, e = .returned (.tuple #[v, posAgg (readT s.data.toList file).2.1, .int .i64 (readT s.data.toList file).2.2]) ∧
    w'.ownsRow w.heap.size 40 6 v (readT s.data.toList file).1.length (toksCells file (readT s.data.toList file).1) ∧ Below w.heap.size w w'

theorem ownsRow_shape {w : World} {base : Nat} {e : TypeId} {size : Nat} {v : Value} {n : Nat} {xs : List Value} (h : w.ownsRow base e size v n xs) : ∃ a cap, v = .slice a n cap := by
  rcases h.2 with ⟨rfl, rfl⟩ | ⟨g, cap, cur, rfl, _⟩
  · exact ⟨none, 0, rfl⟩
  · exact ⟨_, _, rfl⟩
theorem ownsRow_base {w : World} {base base' : Nat} {e : TypeId} {size : Nat} {v : Value} {n : Nat} {xs : List Value} (h : w.ownsRow base e size v n xs) (hb : base' ≤ base) : w.ownsRow base' e size v n xs := by
  refine ⟨h.1, ?_⟩
  rcases h.2 with hn | ⟨g, cap, cur, rfl, hg, r⟩
  · exact .inl hn
  · exact .inr ⟨g, cap, cur, rfl, by omega, r⟩
theorem tri {w : World} {b : Nat} {x0 x1 x2 : Value} {t : TypeId} (h : Holds w b #[x0, x1, x2] t) :
    w.cell? ⟨b, 0, none⟩ = some x0 ∧ w.cell? ⟨b, 1, none⟩ = some x1 ∧ w.cell? ⟨b, 2, none⟩ = some x2 ∧ w.frozen? ⟨b, 0, none⟩ = false ∧ w.frozen? ⟨b, 1, none⟩ = false ∧ w.frozen? ⟨b, 2, none⟩ = false :=
  ⟨h.cell 0, h.cell 1, h.cell 2, h.free 0, h.free 1, h.free 2⟩

section
variable {file : Int} {f : Nat} {l : List UInt8} {p : Int × Int} {acc : List Tok} {B : Nat × Bool}
theorem rdA_bad (hB : blk l.length l = B) (h : B.2 = true) : rdA file (f + 1) l p acc = ([], (file, (adv (l.take B.1) p).1, (adv (l.take B.1) p).2), 21) := by
  subst hB; simp only [rdA]; rw [if_pos h]
theorem rdA_full (hB : blk l.length l = B) (h : B.2 = false) (h2 : acc.length = 6000) : rdA file (f + 1) l p acc = ([], (file, (adv (l.take B.1) p).1, (adv (l.take B.1) p).2), 3) := by
  subst hB; simp only [rdA]; rw [if_neg (by simp [h]), if_pos h2]
theorem rdA_end (hB : blk l.length l = B) (h : B.2 = false) (h2 : acc.length ≠ 6000) (h3 : l.drop B.1 = []) : rdA file (f + 1) l p acc = (acc ++ [⟨8, [], 0, (adv (l.take B.1) p).1, (adv (l.take B.1) p).2⟩], (0, 0, 0), 0) := by
  subst hB; simp only [rdA]; rw [if_neg (by simp [h]), if_neg h2, if_pos h3]
theorem rdA_err (hB : blk l.length l = B) (h : B.2 = false) (h2 : acc.length ≠ 6000) (h3 : l.drop B.1 ≠ []) {t : Tok × Nat × Int} (ht : nextT (l.drop B.1) = t) (h4 : t.2.2 ≠ 0) : rdA file (f + 1) l p acc = ([], (file, (adv (l.take B.1) p).1, (adv (l.take B.1) p).2), t.2.2) := by
  subst hB ht; simp only [rdA]; rw [if_neg (by simp [h]), if_neg h2, if_neg h3, if_pos h4]
theorem rdA_go (hB : blk l.length l = B) (h : B.2 = false) (h2 : acc.length ≠ 6000) (h3 : l.drop B.1 ≠ []) {t : Tok × Nat × Int} (ht : nextT (l.drop B.1) = t) (h4 : t.2.2 = 0) :
    rdA file (f + 1) l p acc = rdA file f ((l.drop B.1).drop t.2.1) (adv ((l.drop B.1).take t.2.1) (adv (l.take B.1) p)) (acc ++ [{ t.1 with line := (adv (l.take B.1) p).1, col := (adv (l.take B.1) p).2 }]) := by
  subst hB ht; simp only [rdA]; rw [if_neg (by simp [h]), if_neg h2, if_neg h3, if_neg (by simp [h4])]
end

/-- The loop's relation. -/
def RRel (s : ByteArray) (file : Int) (w : World) (R : List Tok × (Int × Int × Int) × Int) (f : Nat) (v : Value) (wr : World) : Prop :=
  ∃ (j : Nat) (l c : Int) (toks : List Tok), j ≤ s.size ∧ s.size < j + f ∧ 1 ≤ l ∧ l ≤ j + 1 ∧ 1 ≤ c ∧ c ≤ j + 1 ∧ rdA file f (s.data.toList.drop j) (l, c) toks = R ∧ toks.length ≤ 6000 ∧
    wr.ownsRow (w.heap.size + 2) 40 6 v toks.length (toksCells file toks) ∧ Holds wr (w.heap.size + 1) (rdCells s j file l c) 53 ∧ Holds wr w.heap.size #[.int .i64 0, .int .i64 0, .int .i64 0] 31 ∧ Below w.heap.size w wr

theorem infoTok : (Try.prog.info? 40).map (fun i => (i.zero, i.size, i.bytes)) = some (some (.agg #[.int .i64 0, .string ⟨#[]⟩, .int .i64 0, .int .i64 0, .int .i64 0, .int .i64 0]), 6, 56) := by kernel_rfl

set_option maxHeartbeats 4000000 in
theorem token_Read (s : ByteArray) (file : Int) (w : World) (hs : s.size ≤ maxLen) (h0 : Lay0 w) :
    Calls Try.prog 13 #[.string s, .int .i64 file] w (ReadPost s file w) := by
  unfold maxLen at hs
  by_cases h16 : 16000 < s.size
  · have hF := Lib.hid (show readT s.data.toList file = ([], (0, 0, 0), 3) from by unfold readT; rw [len_of, if_pos h16])
    go_enter Try.func13, Try.ntmps13
    go_wp2_with fail
    exact bodyPost_ret (v := .tuple #[.slice none 0 0, .agg #[.int .i64 0, .int .i64 0, .int .i64 0], .int .i64 3]) (by simp [results, Try.results13, go_sem]) rfl ⟨_, by rw [hF.out]; rfl, by rw [hF.out]; exact World.ownsRow_nil _ _ _ _, (Below.refl _ _).alloc (Nat.le_refl _) _⟩
  · have h16 : s.size ≤ 16000 := by omega
    have hF : readT s.data.toList file = rdA file (s.size + 1) s.data.toList (1, 1) [] := by unfold readT; rw [len_of, if_neg (by omega)]
    unfold ReadPost
    generalize readT s.data.toList file = R at hF
    have HF := Lib.hid hF; clear hF
    go_enter Try.func13, Try.ntmps13
    go_wp2_with fail
    go_loopg [8] (s.size + 1) (fun f v wr => RRel s file w R f v wr)
    case atStart => exact ⟨0, 1, 1, [], by omega, by omega, by omega, by omega, by omega, by omega, HF.out.symm, by simp, World.ownsRow_nil _ _ _ _, by
        have := Holds.new (w.alloc (.cells #[.int .i64 0, .int .i64 0, .int .i64 0] 31)) (rdCells s 0 file 1 1) 53
        rw [show (w.alloc (.cells #[.int .i64 0, .int .i64 0, .int .i64 0] 31)).heap.size = w.heap.size + 1 from by simp] at this
        exact this, (Holds.new w _ _).alloc _, ((Below.refl _ _).alloc (Nat.le_refl _) _).alloc (by simp) _⟩
    case round =>
      obtain ⟨j, l, c, toks, hj, hf, hl1, hl2, hc1, hc2, hE, htl, hown, hH, hP, hbel⟩ := hrel
      obtain ⟨f, rfl⟩ : ∃ f', gk = f' + 1 := ⟨gk - 1, by omega⟩
      have hL0 : Lay0 wr := h0.keeps (Keeps.of_fresh hbel (fun _ => False)) (fun e => e)
      have hblk := token_blanks s j file l c (w.heap.size + 1) wr hH hj h16 hl1 hl2 hc1 hc2 hL0
      unfold BlankPost at hblk
      have hroom := blk_room s j (s.size - j) hj
      have hbb : blk (s.data.toList.drop j).length (s.data.toList.drop j) = blk (s.size - j) (s.data.toList.drop j) := by congr 1; simp
      generalize blk (s.size - j) (s.data.toList.drop j) = B at hblk hroom hbb
      obtain ⟨bn, bx⟩ := B
      simp only at hblk hroom
      have hbd := adv_bd ((s.data.toList.drop j).take bn) (l, c) hl1 hc1
      have hbl : ((s.data.toList.drop j).take bn).length ≤ bn := by simp; omega
      have hcases := @rdA_bad file f (s.data.toList.drop j) (l, c) toks _ hbb
      have hcases2 := @rdA_full file f (s.data.toList.drop j) (l, c) toks _ hbb
      have hcases3 := @rdA_end file f (s.data.toList.drop j) (l, c) toks _ hbb
      have hcases4 := @rdA_err file f (s.data.toList.drop j) (l, c) toks _ hbb
      have hcases5 := @rdA_go file f (s.data.toList.drop j) (l, c) toks _ hbb
      simp only at hcases hcases2 hcases3 hcases4 hcases5 hbd
      rw [List.drop_drop] at hcases3 hcases4 hcases5
      rw [hE] at hcases hcases2 hcases3 hcases4 hcases5
      generalize adv ((s.data.toList.drop j).take bn) (l, c) = p1 at hblk hbd hcases hcases2 hcases3 hcases4 hcases5
      obtain ⟨l1, c1⟩ := p1
      simp only at hblk hbd hcases hcases2 hcases3 hcases4 hcases5
      obtain ⟨k1, k2, k3, k4⟩ := hbd
      have k3' : l1 ≤ (j + bn : Nat) + 1 := by omega
      have k4' : c1 ≤ (j + bn : Nat) + 1 := by omega
      clear hE k3 k4 hbl hbb
      generalize hj2 : j + bn = j2 at hblk hroom hcases3 hcases4 hcases5 k3' k4'
      have hjj : j ≤ j2 := by omega
      clear hj2
      have HC := Lib.hid hcases; clear hcases
      have HC2 := Lib.hid hcases2; clear hcases2
      have HC3 := Lib.hid hcases3; clear hcases3
      have HC4 := Lib.hid hcases4; clear hcases4
      have HC5 := Lib.hid hcases5; clear hcases5
      have HBK := Lib.hid hblk; clear hblk
      obtain ⟨ao, cap, rfl⟩ := ownsRow_shape hown
      go_wp2_with fail
      refine HBK.out.mono ?_
      rintro e w1 ⟨rfl, hH1, hK1⟩
      have hP1 := hP.keeps hK1 (by omega)
      have hb1 : Below w.heap.size w w1 := hbel.trans (hK1.below hbel.size (by intro i hi; omega))
      have hown1 := ownsRow_keeps hown hK1 (by intro g hg; have := (hown.lt g hg).1; omega)
      have hs1 := hK1.size
      have hlt1 := hH1.lt
      have hrd := rd_cells hH1
      obtain ⟨q0, q1, q2, q3, q4, q5⟩ := tri hP1
      obtain ⟨r0, r1, r2, r3, r4, r5, r6, r7, r8, r9⟩ := rd_cells hH1
      clear hrd
      cases bx with
      | true =>
        have hR := Lib.hid (HC.out rfl)
        go_wp2_with fail
        go_region
        go_wp2_with fail
        exact bodyPost_ret (v := .tuple #[.slice none 0 0, .agg #[.int .i64 file, .int .i64 l1, .int .i64 c1], .int .i64 21]) (by simp [results, Try.results13, go_sem, q0, q1, q2]) rfl ⟨_, by rw [hR.out]; rfl, by rw [hR.out]; exact World.ownsRow_nil _ _ _ _, (((hb1.setCell (Nat.le_refl _) _).setCell (Nat.le_refl _) _).setCell (Nat.le_refl _) _).drew⟩
      | false =>
        by_cases h6 : toks.length = 6000
        · have h6' : ((toks.length : Int) == 6000) = true := by simp [h6]
          have hR := Lib.hid (HC2.out rfl h6)
          clear h6
          go_wp2_with fail
          go_region
          go_wp2_with fail
          exact bodyPost_ret (v := .tuple #[.slice none 0 0, .agg #[.int .i64 file, .int .i64 l1, .int .i64 c1], .int .i64 3]) (by simp [results, Try.results13, go_sem, q0, q1, q2]) rfl ⟨_, by rw [hR.out]; rfl, by rw [hR.out]; exact World.ownsRow_nil _ _ _ _, (((hb1.setCell (Nat.le_refl _) _).setCell (Nat.le_refl _) _).setCell (Nat.le_refl _) _).drew⟩
        · have h6' : ((toks.length : Int) == 6000) = false := by simp; omega
          have h6b : toks.length < 6000 := by omega
          have H6 := Lib.hid h6; clear h6
          have hrest := fun wx hh => token_rest s j2 file l1 c1 (w.heap.size + 1) wx hh hroom (by unfold maxLen; omega)
          by_cases hend : j2 = s.size
          · have hR := Lib.hid (HC3.out rfl H6.out (drop_end s j2 (by omega)))
            subst hend
            have he : s.extract s.size s.size = ByteArray.empty := empty_of _ (by simp)
            rw [he] at hrest
            have HRE := Lib.hid hrest; clear hrest he
            go_wp2_with fail
            refine (HRE.out _ hH1).mono ?_
            rintro e w2 ⟨rfl, nd, rfl⟩
            obtain ⟨i0, hi, hz0, hz1, hz2⟩ := info_parts infoTok
            go_wp2_with (at_builtin; refine wpList_append_own _ rfl _ _ 29 rfl (w.heap.size + 2) 40 i0 _ 6 56 Try.underlying29 hi hz0 hz1 hz2 rfl (by decide) _ _ _ rfl (hown1.alloc _) ⟨w1.heap.size, 0, none⟩ 1 1 (tokCells file ⟨8, [], 0, l1, c1⟩) rfl rfl ?c1 ?c2 ?c3 ?c4 ?c5 ?_)
            case c1 => exact new_cells (w1.drewN nd) _ _ _ rfl _ rfl
            case c2 => exact tok_one _ _
            case c3 => unfold maxLen; omega
            case c4 => omega
            case c5 => have := hP1.lt; simp; omega
            intro v' w3 hown' hgrow _
            have hnr : ∀ g, (Value.slice ao toks.length cap).ownBlock = some g → w.heap.size + 2 ≤ g := fun g hg => (hown1.lt g hg).1
            have hP3 : Holds w3 w.heap.size #[.int .i64 0, .int .i64 0, .int .i64 0] 31 := ((hP1.drewN nd).alloc _).grown hgrow (fun e => by have := hnr _ e; omega)
            have hb3 : Below w.heap.size w w3 := ((below_drewN hb1 nd).alloc (by simpa using hb1.size) _).grown hgrow (by have := hb1.size; simp; omega) (fun g hg => by have := hnr g hg; omega)
            obtain ⟨p0, p1, p2, p3, p4, p5⟩ := tri hP3
            have hown2 : w3.ownsRow w.heap.size 40 6 v' (toks.length + 1) (toksCells file (toks ++ [⟨8, [], 0, l1, c1⟩])) := by rw [toksCells_snoc]; exact ownsRow_base hown' (by omega)
            have hng : ∀ g, v'.ownBlock = some g → ¬ g = w.heap.size := fun g hg => by have := (hown'.lt g hg).1; omega
            clear hown' hgrow
            obtain ⟨ao', cap', rfl⟩ := ownsRow_shape hown2
            go_wp2_with fail
            exact bodyPost_ret (v := .tuple #[.slice ao' (toks.length + 1) cap', .agg #[.int .i64 0, .int .i64 0, .int .i64 0], .int .i64 0]) (by simp [results, Try.results13, go_sem, p0, p1, p2]) rfl ⟨_, by rw [hR.out]; rfl, by
              rw [hR.out]
              simp only [List.length_append, List.length_singleton]
              exact ownsRow_keeps hown2 ((((Keeps.refl (fun i => i = w.heap.size) w3).setCell (.inr rfl) _).setCell (.inr rfl) _).setCell (.inr rfl) _) hng,
              ((hb3.setCell (Nat.le_refl _) _).setCell (Nat.le_refl _) _).setCell (Nat.le_refl _) _⟩
          · have hj2 : j2 < s.size := by omega
            have hnr := drop_toList s j2
            have hsz : (s.extract j2 s.size).size = s.size - j2 := by simp
            have hdn : s.data.toList.drop j2 ≠ [] := by rw [drop_cons s j2 hj2]; simp
            have hnext := fun wx => token_next (s.extract j2 s.size) wx (by omega) (by omega)
            unfold NextPost at hnext
            rw [hnr] at hnext
            have hroom2 := nextT_room (s.data.toList.drop j2) hdn
            have hskp := fun n hn wx hh => token_skip s j2 n file l1 c1 (w.heap.size + 1) wx hh hn (by omega) k1 k3' k2 k4'
            have HC4' := Lib.hid (fun h => HC4.out rfl H6.out hdn rfl h)
            have HC5' := Lib.hid (fun h => HC5.out rfl H6.out hdn rfl h)
            clear HC4 HC5 HC3 HC2 HC
            simp only [List.length_drop] at hroom2
            generalize nextT (s.data.toList.drop j2) = T at hnext hroom2 HC4' HC5'
            generalize s.extract j2 s.size = r at hrest hsz hnext
            have hr3 : 0 < r.size := by omega
            have hne := toList_ne r hr3
            have hne2 := toList_isEmpty r hr3
            obtain ⟨tk, tn, te⟩ := T
            simp only at hnext hroom2 HC4' HC5'
            have HRE := Lib.hid hrest; clear hrest
            have HNX := Lib.hid hnext; clear hnext
            have HSZ := Lib.hid hsz; clear hsz
            have HSK := Lib.hid hskp; clear hskp
            clear hend hnr
            by_cases hte : te = 0
            · subst hte
              obtain ⟨t1, t2⟩ := hroom2 rfl
              have t2' : j2 + tn ≤ s.size := by rw [len_of] at t2; omega
              have hR := Lib.hid (HC5'.out rfl)
              clear HC4' HC5' hroom2 t2
              go_wp2_with fail
              refine (HRE.out _ hH1).mono ?_
              rintro e w2 ⟨rfl, nd, rfl⟩
              go_wp2_with fail
              refine (HRE.out _ (hH1.drewN nd)).mono ?_
              rintro e w2 ⟨rfl, nd2, rfl⟩
              go_wp2_with fail
              refine (HNX.out _).mono ?_
              rintro e w2 ⟨rfl, hbn0⟩
              have hbn : Below w1.heap.size w1 w2 := ⟨hbn0.os, hbn0.tape, hbn0.output, hbn0.size, hbn0.block⟩
              unfold tokAgg
              have hKn : Keeps (fun _ => False) w1 w2 := Keeps.of_fresh hbn _
              have hH2 := hH1.keeps hKn (fun e => e)
              have hP2 := hP1.keeps hKn (fun e => e)
              have hown2 := ownsRow_keeps hown1 hKn (fun _ _ e => e)
              have hb2 : Below w.heap.size w w2 := hb1.trans (hbn.mono hb1.size)
              have hs2 := hKn.size
              clear hbn0 r0 r1 r2 r3 r4 r5 r6 r7 r8 r9
              obtain ⟨r0, r1, r2, r3, r4, r5, r6, r7, r8, r9⟩ := rd_cells hH2
              have hlt2 := hH2.lt
              obtain ⟨i0, hi, hz0, hz1, hz2⟩ := info_parts infoTok
              go_wp2_with (at_builtin; refine wpList_append_own _ rfl _ _ 29 rfl (w.heap.size + 2) 40 i0 _ 6 56 Try.underlying29 hi hz0 hz1 hz2 rfl (by decide) _ _ _ rfl ((hown2.alloc _).alloc _) ⟨w2.heap.size + 1, 0, none⟩ 1 1 (tokCells file { tk with line := l1, col := c1 }) rfl rfl ?c1 ?c2 ?c3 ?c4 ?c5 ?_)
              case c1 => exact new_cells _ _ _ _ (by simp) _ rfl
              case c2 => exact tok_one _ _
              case c3 => unfold maxLen; omega
              case c4 => omega
              case c5 => have := hP1.lt; have := hb2.size; simp; omega
              intro v' w3 hown' hgrow _
              have hnr : ∀ g, (Value.slice ao toks.length cap).ownBlock = some g → w.heap.size + 2 ≤ g := fun g hg => (hown1.lt g hg).1
              have hP3 : Holds w3 w.heap.size #[.int .i64 0, .int .i64 0, .int .i64 0] 31 := ((hP2.alloc _).alloc _).grown hgrow (fun e => by have := hnr _ e; omega)
              have hH3 : Holds w3 (w.heap.size + 1) (rdCells s j2 file l1 c1) 53 := ((hH2.alloc _).alloc _).grown hgrow (fun e => by have := hnr _ e; omega)
              have hb3 : Below w.heap.size w w3 := ((hb2.alloc hb2.size _).alloc (by have := hb2.size; simp; omega) _).grown hgrow (by have := hb2.size; simp; omega) (fun g hg => by have := hnr g hg; omega)
              have hown3 : w3.ownsRow (w.heap.size + 2) 40 6 v' (toks.length + 1) (toksCells file (toks ++ [{ tk with line := l1, col := c1 }])) := by rw [toksCells_snoc]; exact hown'
              have hng : ∀ g, v'.ownBlock = some g → ¬ g = w.heap.size + 1 := fun g hg => by have := (hown'.lt g hg).1; omega
              clear hown' hgrow
              have hlt3 := hH3.lt
              clear r0 r1 r2 r3 r4 r5 r6 r7 r8 r9
              go_wp2_with fail
              refine (HSK.out tn t2' _ hH3).mono ?_
              rintro e w4 ⟨rfl, hH4, hK4⟩
              have hP4 := hP3.keeps hK4 (by omega)
              have hb4 : Below w.heap.size w w4 := hb3.trans (hK4.below hb3.size (by intro i hi; omega))
              have hown4 := ownsRow_keeps hown3 hK4 hng
              go_wp2_with fail
              go_roundg f
              case measure => omega
              case rel =>
                have hbd := adv_bd ((s.data.toList.drop j2).take tn) (l1, c1) k1 k2
                have hln : ((s.data.toList.drop j2).take tn).length ≤ tn := by simp; omega
                have hR2 := hR.out.symm
                rw [List.drop_drop] at hR2
                exact ⟨j2 + tn, _, _, toks ++ [{ tk with line := l1, col := c1 }], t2', by omega, hbd.1, by simp at hbd; omega, hbd.2.1, by simp at hbd; omega, hR2, by simp; omega, by simpa using hown4, hH4, hP4, hb4⟩
            · have hR := Lib.hid (HC4'.out hte)
              have hte' : (te != 0) = true := by simpa using hte
              clear HC4' HC5' hroom2 hte
              go_wp2_with fail
              refine (HRE.out _ hH1).mono ?_
              rintro e w2 ⟨rfl, nd, rfl⟩
              go_wp2_with fail
              refine (HRE.out _ (hH1.drewN nd)).mono ?_
              rintro e w2 ⟨rfl, nd2, rfl⟩
              go_wp2_with fail
              refine (HNX.out _).mono ?_
              rintro e w2 ⟨rfl, hbn0⟩
              have hbn : Below w1.heap.size w1 w2 := ⟨hbn0.os, hbn0.tape, hbn0.output, hbn0.size, hbn0.block⟩
              unfold tokAgg
              have hKn : Keeps (fun _ => False) w1 w2 := Keeps.of_fresh hbn _
              have hH2 := hH1.keeps hKn (fun e => e)
              have hP2 := hP1.keeps hKn (fun e => e)
              have hb2 : Below w.heap.size w w2 := hb1.trans (hbn.mono hb1.size)
              have hs2 := hKn.size
              clear hbn0 r0 r1 r2 r3 r4 r5 r6 r7 r8 r9 q0 q1 q2 q3 q4 q5
              obtain ⟨q0, q1, q2, q3, q4, q5⟩ := tri hP2
              obtain ⟨r0, r1, r2, r3, r4, r5, r6, r7, r8, r9⟩ := rd_cells hH2
              have hlt2 := hH2.lt
              have hltp := hP2.lt
              go_wp2_with fail
              go_region
              go_wp2_with fail
              exact bodyPost_ret (v := .tuple #[.slice none 0 0, .agg #[.int .i64 file, .int .i64 l1, .int .i64 c1], .int .i64 te]) (by simp [results, Try.results13, go_sem, q0, q1, q2, hltp]) rfl ⟨_, by rw [hR.out]; rfl, by rw [hR.out]; exact World.ownsRow_nil _ _ _ _, ((((hb2.setCell (Nat.le_refl _) _).setCell (Nat.le_refl _) _).setCell (Nat.le_refl _) _).alloc (by simpa using hb2.size) _).drew⟩
end Go.Proofs.Ytdigoicdgeebhaa
