/- The contract of translate of address. -/
import Derived.Test.YtjfkjnakmmkkiaaAdrI
import Derived.StillTailTactics
namespace Go.Proofs.Ytjfkjnakmmkkiaa
open Go.RowKit

def transF (T : List NodeT) (s : Int) : Nat → Int → Int → Option Int
  | 0, _, b => some b
  | f + 1, u, b => if u ≤ 0 then some b else
    if (windowsT T u.toNat).2.1 = true then transF T s f (parOf T u.toNat) b else
      if findW b s (windowsT T u.toNat).1 < 0 then none else
        transF T s f (parOf T u.toNat) (((windowsT T u.toNat).1.getD (findW b s (windowsT T u.toNat).1).toNat (0, 0, 0)).2.1 + (b - ((windowsT T u.toNat).1.getD (findW b s (windowsT T u.toNat).1).toNat (0, 0, 0)).1))
def transE (s : Int) (o : Option Int) : (Int × Int) × Bool := match o with
  | none => ((0, 0), false)
  | some b => ((b, s), true)
def translateT (T : List NodeT) (k : Nat) (b s : Int) : (Int × Int) × Bool := transE s (transF T s T.length (parOf T k) b)
theorem findW_lt {b s : Int} {l : List (Int × Int × Int)} (h : 0 ≤ findW b s l) : ∃ i : Nat, findW b s l = i ∧ ∃ hi : i < l.length, inWinB b s l[i] = true := by
  unfold findW at h ⊢
  cases e : l.findIdx? (inWinB b s) with
  | none => rw [e] at h; simp at h
  | some i =>
    rw [List.findIdx?_eq_some_iff_getElem] at e
    obtain ⟨hi, h1, _⟩ := e
    exact ⟨i, rfl, hi, h1⟩
def TransPost (T : List NodeT) (k : Nat) (b s : Int) (w : World) (e : Ending) (w' : World) : Prop :=
  e = .returned (.tuple #[.agg #[.int .i64 (translateT T k b s).1.1, .int .i64 (translateT T k b s).1.2], .bool (translateT T k b s).2]) ∧ Below w.heap.size w w'

set_option maxRecDepth 100000 in
set_option maxHeartbeats 4000000 in
theorem address_translate (R : Nat → Prop) (v : Value) (T : List NodeT) (k : Nat) (b s : Int) (w : World) (hT : NodesIn R w v T) (hc : checkT T = 0) (hk : k < T.length) (hb0 : 0 ≤ b) (hb1 : b ≤ 4611686018427387903) (hs0 : 0 ≤ s) (hs1 : s ≤ 4611686018427387903) :
    Calls Try.prog 44 #[.agg #[v], .int .i64 k, .agg #[.int .i64 b, .int .i64 s]] w (TransPost T k b s w) := by
  obtain ⟨a, cap, rfl, hc1, hc2⟩ := hT.shape
  have HT := Lib.hid hT; clear hT
  have HC := Lib.hid hc
  have hlen := (limits_len (check_limits hc)).2
  have HNM := Lib.hid (check_named hc)
  obtain ⟨g, o, pa, pc, rfl, hg, c0, c1, c2, hp, p1, p2, q0, q1, q2⟩ := HT.out.at k hk
  have hpar := named_par HNM.out k hk
  have hE := Lib.hid (show translateT T k b s = transE s (transF T s T.length T[k].parent b) from by unfold translateT; rw [parOf_at hk])
  have hp0 : -1 ≤ T[k].parent ∧ T[k].parent + 1 ≤ T.length := by
    by_cases h : k = 0
    · have := hpar.1 h; omega
    · have := hpar.2 (by omega); omega
  generalize T[k].parent = pp at c0 hp0 hE
  obtain ⟨hp0, hp1⟩ := hp0
  have hg1 : g < w.heap.size + 1 := by omega
  have hg2 : g < w.heap.size + 1 + 1 := by omega
  clear hc c1 c2 hp hpar q0 q1 q2
  go_enter Try.func44, Try.ntmps44
  go_wp2_with fail
  go_loopg [8] (T.length) (fun f x wr => ∃ (u b' : Int) (n : Nat), x = .int .i64 u ∧ -1 ≤ u ∧ u + 1 ≤ T.length ∧ u + 1 ≤ f ∧ u + 1 ≤ n ∧ 0 ≤ b' ∧ b' ≤ 4611686018427387903 ∧ Hid (translateT T k b s = transE s (transF T s n u b')) ∧
    Holds wr w.heap.size #[.slice (some ⟨g, o, none⟩) T.length cap] 27 ∧ Holds wr (w.heap.size + 1) #[.int .i64 b', .int .i64 s] 37 ∧ Holds wr (w.heap.size + 2) #[.int .i64 0, .int .i64 0] 37 ∧ Below w.heap.size w wr)
  case atStart =>
    refine ⟨pp, b, T.length, rfl, hp0, hp1, hp1, hp1, hb0, hb1, hE.out, ((Holds.new w _ _).alloc _).alloc _, ?_, ?_, (((Below.refl _ _).alloc (Nat.le_refl _) _).alloc (by simp) _).alloc (by simp; omega) _⟩
    · have := (Holds.new (w.alloc (.cells #[.slice (some ⟨g, o, none⟩) T.length cap] 27)) #[.int .i64 b, .int .i64 s] 37).alloc (.cells #[.int .i64 0, .int .i64 0] 37)
      rw [show (w.alloc (.cells #[.slice (some ⟨g, o, none⟩) T.length cap] 27)).heap.size = w.heap.size + 1 from by simp] at this
      exact this
    · have := Holds.new ((w.alloc (.cells #[.slice (some ⟨g, o, none⟩) T.length cap] 27)).alloc (.cells #[.int .i64 b, .int .i64 s] 37)) #[.int .i64 0, .int .i64 0] 37
      rw [show ((w.alloc (.cells #[.slice (some ⟨g, o, none⟩) T.length cap] 27)).alloc (.cells #[.int .i64 b, .int .i64 s] 37)).heap.size = w.heap.size + 2 from by simp] at this
      exact this
  case round =>
    obtain ⟨u, b', n, rfl, hu0, hu1, hf, hn, hq0, hq1, hTr, hB, hR, hZ, hb⟩ := hrel
    have hbs := hb.size
    have bx := hB.cell 0
    have blt := hB.lt
    have zlt := hZ.lt
    have z0 := hZ.cell 0
    have z1 := hZ.cell 1
    have zf0 := hZ.free 0
    have zf1 := hZ.free 1
    have r0 := hR.cell 0
    have r1 := hR.cell 1
    have rlt := hR.lt
    by_cases hup : 0 < u
    · obtain ⟨m, rfl⟩ := Int.eq_ofNat_of_zero_le (show 0 ≤ u by omega)
      have hm : m < T.length := by omega
      obtain ⟨n, rfl⟩ : ∃ n', n = n' + 1 := ⟨n - 1, by omega⟩
      have hstep : transF T s (n + 1) (m : Int) b' = if (windowsT T m).2.1 = true then transF T s n (parOf T m) b' else
          if findW b' s (windowsT T m).1 < 0 then none else
            transF T s n (parOf T m) (((windowsT T m).1.getD (findW b' s (windowsT T m).1).toNat (0, 0, 0)).2.1 + (b' - ((windowsT T m).1.getD (findW b' s (windowsT T m).1).toNat (0, 0, 0)).1)) := by
        simp only [transF, Int.toNat_natCast]; rw [if_neg (by omega)]
      obtain ⟨g2, o2, pa2, pc2, e2, _, d0, _⟩ := (HT.out.new hb).at m hm
      cases e2
      have hpm := (named_par HNM.out m hm).2 (by omega)
      rw [parOf_at hm] at hstep
      have hwn := fun wx hx => address_windows R (.slice (some ⟨g, o, none⟩) T.length cap) T m wx hx HC.out hm (by omega)
      obtain ⟨hwl, hwk⟩ := windowsT_ok T m
      unfold WindowsPost at hwn
      generalize windowsT T m = W at hwn hstep hwl hwk
      obtain ⟨wl, wb, we⟩ := W
      simp only at hwn hstep hwl hwk
      have HWN := Lib.hid hwn; clear hwn
      have HWK := Lib.hid hwk; clear hwk
      generalize T[m].parent = pm at d0 hpm hstep
      obtain ⟨hpm0, hpm1⟩ := hpm
      go_wp2_with fail
      refine (HWN.out _ (by exact HT.out.new hb)).mono ?_
      rintro e w2 ⟨lv, rfl, hown, hb2⟩
      have hb3 := hb.trans (hb2.mono hbs)
      have hK2 : Keeps (fun _ => False) wr w2 := Keeps.of_fresh hb2 _
      have hB2 := hB.keeps hK2 (fun e => e)
      have hR2 := hR.keeps hK2 (fun e => e)
      have hZ2 := hZ.keeps hK2 (fun e => e)
      have bx2 := hB2.cell 0
      have blt2 := hB2.lt
      have d2 := (hK2.cell (p := ⟨g, o + m * 3, none⟩) (World.block_lt_of_cell? wr _ d0) (fun e => e)).trans d0
      clear bx z0 z1 zf0 zf1 r0 r1 d0
      cases wb with
      | true =>
        have hT2 := Lib.hid (show translateT T k b s = transE s (transF T s n pm b') from by rw [hTr.out, hstep, if_pos rfl])
        clear hstep
        go_wp2_with fail
        go_roundg (gk - 1)
        case measure => omega
        case rel => exact ⟨pm, b', n, rfl, by omega, by omega, by omega, by omega, hq0, hq1, hT2.out, hB2, hR2, hZ2, hb3⟩
      | false =>
        have hT2 := Lib.hid (show translateT T k b s = transE s (if findW b' s wl < 0 then none else transF T s n pm ((wl.getD (findW b' s wl).toNat (0, 0, 0)).2.1 + (b' - (wl.getD (findW b' s wl).toNat (0, 0, 0)).1))) from by rw [hTr.out, hstep, if_neg (by simp)])
        clear hstep
        have hix := fun wx h1 h2 => wins_IndexFunc wr.heap.size lv wl b' s (w.heap.size + 1) wx h1 h2 hwl HWK.out hq0 hq1 hs0 hs1
        have hfl := @findW_lt b' s wl
        generalize findW b' s wl = fi at hT2 hix hfl
        have HIX := Lib.hid hix; clear hix
        have HFL := Lib.hid hfl; clear hfl
        obtain ⟨la, lc, rfl⟩ := owns_slice hown
        go_wp2_with fail
        refine (HIX.out _ (by exact hown) (by exact hR2)).mono ?_
        rintro e w3 ⟨rfl, hb4⟩
        have hb5 := hb3.trans (hb4.mono hb3.size)
        have hK3 : Keeps (fun _ => False) w2 w3 := Keeps.of_fresh hb4 _
        have hB3 := hB2.keeps hK3 (fun e => e)
        have hR3 := hR2.keeps hK3 (fun e => e)
        have hZ3 := hZ2.keeps hK3 (fun e => e)
        have bx3 := hB3.cell 0
        have blt3 := hB3.lt
        have z0 := hZ3.cell 0
        have z1 := hZ3.cell 1
        have zf0 := hZ3.free 0
        have zf1 := hZ3.free 1
        have zlt3 := hZ3.lt
        have r0 := hR3.cell 0
        have rf0 := hR3.free 0
        have rlt3 := hR3.lt
        have d3 := (hK3.cell (p := ⟨g, o + m * 3, none⟩) (World.block_lt_of_cell? w2 _ d2) (fun e => e)).trans d2
        clear bx2 d2
        by_cases hfi : fi < 0
        · have hfin := Lib.hid (show translateT T k b s = ((0, 0), false) from by rw [hT2.out, if_pos hfi]; rfl)
          go_wp2_with fail
          exact bodyPost_ret (v := .tuple #[.agg #[.int .i64 0, .int .i64 0], .bool false]) (by simp [results, Try.results44, go_sem, z0, z1]) rfl ⟨by rw [hfin.out], (hb5.setCell (by simp; omega) _).setCell (by simp; omega) _⟩
        · obtain ⟨i, hie, hil, hin⟩ := HFL.out (by omega)
          subst hie
          have hwo := HWK.out wl[i] (List.getElem_mem hil)
          obtain ⟨gw, cw, e1, q1, q2, q3, f0, f1, f2⟩ := tri_cells_at (ownsRow_keeps hown hK3 (fun _ _ e => e)) i hil
          cases e1
          have hT3 := Lib.hid (show translateT T k b s = transE s (transF T s n pm (wl[i].2.1 + (b' - wl[i].1))) from by
            rw [hT2.out, if_neg (by omega), Int.toNat_natCast, show wl.getD i (0, 0, 0) = wl[i] from by simp [List.getD, hil]])
          unfold inWinB at hin
          simp only [Bool.and_eq_true, decide_eq_true_eq] at hin
          generalize wl[i] = P at hwo f0 f1 f2 hin hT3
          obtain ⟨x0, x1, x2⟩ := P
          obtain ⟨h1, h2, h3, h4, h5⟩ := hwo
          simp only at h1 h2 h3 h4 h5 f0 f1 f2 hin hT3
          obtain ⟨hin1, hin2⟩ := hin
          have hin3 : b' - x0 ≤ x2 := by omega
          clear hin2 hT2 hfi
          have iI : (i : Int) < (wl.length : Int) := by omega
          go_wp2_with fail
          go_still_tail 15, (by kernel_rfl)
          go_wp2_with fail
          go_roundg (gk - 1)
          case measure => omega
          case rel =>
            refine ⟨pm, x1 + (b' - x0), n, rfl, by omega, by omega, by omega, by omega, by omega, by omega, hT3.out, ?_, ?_, ?_, ?_⟩
            · exact Holds.other hB3 _ _ (by simp)
            · exact Holds.set hR3 0 _
            · exact Holds.other hZ3 _ _ (by simp)
            · exact (hb5.setCell (p := ⟨w.heap.size + 1, 0, none⟩) (Nat.le_succ _) _).drew
    · have hfin := Lib.hid (show translateT T k b s = ((b', s), true) from by
        rw [hTr.out]
        cases n with
        | zero => rfl
        | succ n => simp only [transF]; rw [if_pos (by omega)]; rfl)
      go_wp2_with fail
      exact bodyPost_ret (v := .tuple #[.agg #[.int .i64 b', .int .i64 s], .bool true]) (by simp [results, Try.results44, go_sem, z0, z1]) rfl ⟨by rw [hfin.out], (hb.setCell (by simp; omega) _).setCell (by simp; omega) _⟩
end Go.Proofs.Ytjfkjnakmmkkiaa
