/- The walk of the law TreeOrder. -/
import Derived.Test.YtjfkjnakmmkkiaaGreatZ36
import Derived.Test.YtjfkjnakmmkkiaaGreatZ38
import Derived.Test.YtjfkjnakmmkkiaaGreatZ39
import Derived.Test.YtjfkjnakmmkkiaaGreatZ21
import Derived.Test.YtjfkjnakmmkkiaaGreatZ20
import Derived.Test.YtjfkjnakmmkkiaaGreatZ23
import Derived.Test.YtjfkjnakmmkkiaaGreatZ28
import Derived.Test.YtjfkjnakmmkkiaaGreatZ7
import Derived.Test.YtjfkjnakmmkkiaaGreatZ30
import Derived.Test.YtjfkjnakmmkkiaaGreatZ26
import Derived.Deep.DeepCutAuto
import Derived.Deep.CutBlock
import Derived.Deep.LoopGhost

namespace Go.Proofs.YtjfkjnakmmkkiaaGreat
open Go.RowKit

def UorR (A : List NodeT) (l : List Nat) (W : World) (Yb base : Nat) (f : Nat) (x : Value) (w : World) : Prop :=
  ∃ (r : Nat) (T : List NodeT) (vy : Value), x = .int .i64 r ∧ r ≤ A.length ∧ A.length ≤ r + f ∧ Rnd A T l r 0 ∧ Holds w Yb #[vy] 25 ∧ TreeRow w base vy T ∧ Keeps (· = Yb) W w
def UorI (A : List NodeT) (l : List Nat) (r : Nat) (W : World) (Yb base : Nat) (f : Nat) (x : Value) (w : World) : Prop :=
  ∃ (j : Nat) (T : List NodeT) (vy : Value), x = .int .i64 j ∧ j ≤ l.length ∧ l.length ≤ j + f ∧ Rnd A T l r j ∧ Holds w Yb #[vy] 25 ∧ TreeRow w base vy T ∧ Keeps (· = Yb) W w
def UorS (A : List NodeT) (l : List Nat) (W : World) (B b Yb base : Nat) (f : Nat) (x : Value) (w : World) : Prop :=
  ∃ (j : Nat) (T : List NodeT) (vy : Value), x = .int .i64 j ∧ j ≤ l.length ∧ l.length ≤ j + f ∧ Sets A T l j [] 0 ∧ Holds w Yb #[vy] 25 ∧ TreeRow w base vy T ∧ Tape B w b ∧ Keeps (fun i => i = Yb ∨ i = b) W w
def UorJ (A : List NodeT) (l : List Nat) (j : Nat) (l2 : List Nat) (W : World) (Yb base : Nat) (f : Nat) (x : Value) (w : World) : Prop :=
  ∃ (m : Nat) (T : List NodeT) (vy : Value), x = .int .i64 m ∧ m ≤ l2.length ∧ l2.length ≤ m + f ∧ Sets A T l j l2 m ∧ Holds w Yb #[vy] 25 ∧ TreeRow w base vy T ∧ Keeps (· = Yb) W w
theorem PropsIn.bound2 {R : Nat → Prop} {w : World} {v : Value} {ps : List PropT} (h : PropsIn R w v ps) : PropsIn (fun g => R g ∧ g < w.heap.size) w v ps := by
  obtain ⟨a, cap, e, h1, h2, h3⟩ := h
  refine ⟨a, cap, e, h1, h2, fun h0 => ?_⟩
  obtain ⟨g, o, ea, hR, hc⟩ := h3 h0
  exact ⟨g, o, ea, ⟨hR, World.block_lt_of_cell? w _ (hc 0 h0).1⟩, hc⟩
theorem NodesIn.bound2 {R : Nat → Prop} {w : World} {v : Value} {T : List NodeT} (h : NodesIn R w v T) : NodesIn (fun g => R g ∧ g < w.heap.size) w v T := by
  obtain ⟨a, cap, e, h1, h2, h3⟩ := h
  refine ⟨a, cap, e, h1, h2, fun h0 => ?_⟩
  obtain ⟨g, o, ea, hR, hc⟩ := h3 h0
  refine ⟨g, o, ea, ⟨hR, ?_⟩, fun k hk => ?_⟩
  · obtain ⟨pv, c0, _⟩ := hc 0 h0
    exact World.block_lt_of_cell? w _ c0
  · obtain ⟨pv, c0, c1, c2, hp, r⟩ := hc k hk
    exact ⟨pv, c0, c1, c2, hp.bound2, r⟩
theorem nat_cell {l : List Nat} {i : Nat} (h : i < l.length) : (natCells l)[i]? = some (.int .i64 (l[i] : Int)) := by simp [natCells, h]
theorem get_some {l : List Nat} {i : Nat} (h : i < l.length) : l[i]? = some l[i] := List.getElem?_eq_getElem h
theorem kid_root {A : List NodeT} (hA : checkT A = 0) {k : Nat} (hk : k < A.length) (k0 : 0 < k) : A[k].parent = (parN A k : Int) ∧ parN A k < A.length := by
  have hP := par_of_named (check_parts hA).2.1
  have hp := parN_lt hP k0 hk
  exact ⟨by rw [hp.2, parOf_at hk], by omega⟩

set_option maxRecDepth 100000 in
set_option maxHeartbeats 8000000 in
theorem treeOrder_walk (a0 : Option Addr) (len0 cap0 : Nat) (w : World) (hi : IntsIn w a0 len0) (hlc : len0 ≤ cap0) (hcap : cap0 ≤ maxLen) (hnil : a0 = none → len0 = 0 ∧ cap0 = 0) :
    Calls Tryz.prog 6 #[.slice a0 len0 cap0] w fun e w' => e = .returned (.bool true) ∧ Below w.heap.size w w' := by
  have haw := Lib.hid law03_awake
  have hnw := Lib.hid (mk_New a0 len0 cap0 w hi hlc hcap hnil)
  go_enter Tryz.func6, Tryz.ntmps6
  go_wp2_with fail
  refine hnw.out.mono ?_
  rintro e w2 ⟨b, rfl, hT2, hb3⟩
  have hbW := hT2.1
  have hbl2 := hT2.lt
  go_wp2_with fail
  refine (grow_Tree w.heap.size b 8 w2 hT2 (by omega) (by omega)).mono ?_
  rintro e w3 ⟨va, A, rfl, hA3, hAc, hAl, hT3, hK3⟩
  obtain ⟨aa, ac, rfl⟩ := tree_slice hA3
  have hAl3 : Below w3.heap.size w3 (w3.alloc (.cells #[.slice aa A.length ac] 25)) := (Below.refl _ _).alloc (Nat.le_refl _) _
  have hA4 := hA3.new hAl3
  have hZ4 := Holds.new w3 #[.slice aa A.length ac] 25
  have hT4 := hT3.new hAl3
  have hK3s := hK3.size
  have hzb : w3.heap.size ≠ b := by omega
  have hb4 : Below w.heap.size w w3 := hb3.trans (hK3.below (by have := hb3.size; omega) (fun i hi e => by omega))
  have hb5 := hb4.alloc hb4.size (.cells #[.slice aa A.length ac] 25)
  have hAN := hA4.in.mono (fun g h e => by subst e; omega : ∀ g, w2.heap.size ≤ g → g ≠ b)
  have hA0 : 0 < A.length := (limits_len (check_limits hAc)).1
  have HAc := Lib.hid hAc
  clear hnw hi hT2 hT3 hK3 hb3 hA3 hAl3 hb4 hAc
  go_upto_region 3 with fail
  generalize hW4 : w3.alloc (.cells #[.slice aa A.length ac] 25) = W4 at *
  have hW4s : W4.heap.size = w3.heap.size + 1 := by rw [← hW4]; simp
  clear hW4
  -- the tree that is built
  have hAN2 := hAN.bound2
  clear hAN
  have hs5 := hb5.size
  go_wp2_with fail
  refine (law03_root _).mono ?_
  rintro e w5 ⟨vy, rfl, hr5, hb6⟩
  obtain ⟨ya, yc, rfl⟩ := tree_slice hr5
  have hs6 := hb6.size
  have hal : Below w5.heap.size w5 (w5.alloc (.cells #[.slice ya rootT.length yc] 25)) := (Below.refl _ _).alloc (Nat.le_refl _) _
  have hb7 := hb6.trans (hal.mono hs6)
  have hbA := hb5.trans (hb7.mono hs5)
  have hY6 := Holds.new w5 #[.slice ya rootT.length yc] 25
  have hYT6 := hr5.new hal
  have hT6 := hT4.new hb7
  have hZ6 := hZ4.keeps (Keeps.of_fresh hb7 (fun _ => False)) (fun e => e)
  have hAN6 := (hAN2.new hb7)
  clear hr5 hb6 hal hb7 hb5 hT4 hZ4 hAN2
  go_upto_region 4 with fail
  generalize hW6 : w5.alloc (.cells #[.slice ya rootT.length yc] 25) = W6 at *
  have hW6s : W6.heap.size = w5.heap.size + 1 := by rw [← hW6]; simp
  clear hW6
  have x0 := hZ6.cell 0
  have xl := hZ6.lt
  go_wp2_with fail
  refine (mk_Order w.heap.size b A.length W6 hT6 (by omega)).mono ?_
  rintro e W ⟨wv, l, rfl, hPm, hrow, hT, hK⟩
  have hKs := hK.size
  have hll := hPm.1
  obtain ⟨lg, lc, rfl, hl1, hl2⟩ := hrow.form (by omega)
  have hlg := (hrow.lt lg rfl).1
  have hZ := Lib.hid (hZ6.keeps hK hzb)
  have hAN := Lib.hid (hAN6.keeps hK (fun _ h e => h.1 e))
  have hY0 := hY6.keeps hK (by omega)
  have hYT0 := hYT6.tape hT6 hK
  have hbW := Lib.hid (hbA.trans (hK.below hbA.size (fun i hi e => by omega)))
  have HT := Lib.hid hT
  have HROW := Lib.hid hrow
  have HPM := Lib.hid hPm
  have hWs : w.heap.size ≤ W.heap.size := hbW.out.size
  clear hZ6 hAN6 hY6 hYT6 hbA hT6 hT hrow hK x0 xl hPm
  generalize hYb : w5.heap.size = Yb at *
  generalize hZz : w3.heap.size = Z at *
  generalize hBs : W4.heap.size = base at *
  go_wp2_with fail
  go_loopg [7] A.length (fun f x wr => UorR A l W Yb base f x wr)
  case atStart => exact ⟨0, _, _, rfl, by omega, by omega, rnd_start HAc.out l, hY0, hYT0, Keeps.refl _ _⟩
  case round =>
    obtain ⟨r, T, vy, rfl, hr1, hr2, hR, hY, hYT, hK⟩ := hrel
    have hZr := hZ.out.keeps hK (by omega)
    have x0 := hZr.cell 0
    have xl := hZr.lt
    by_cases hlt : r < A.length
    · have hlt' : (r : Int) < (A.length : Int) := by omega
      have HR := Lib.hid hR
      have HY := Lib.hid hY
      have HYT := Lib.hid hYT
      have HK := Lib.hid hK
      clear hY0 hYT0 hR hY hYT hK
      obtain ⟨go, rfl⟩ : ∃ x : Nat, x = gk := ⟨_, rfl⟩
      obtain ⟨wo, rfl⟩ : ∃ x : World, x = wr := ⟨_, rfl⟩
      go_wp2_with fail
      go_loopg [41] l.length (fun f x wr => UorI A l r W Yb base f x wr)
      case atStart => exact ⟨0, _, _, rfl, by omega, by omega, HR.out, HY.out, HYT.out, HK.out⟩
      case round =>
        clear x0 xl hZr HY HYT HR
        obtain ⟨j, T, vy, rfl, hj1, hj2, hR, hY, hYT, hK⟩ := hrel
        by_cases hlt2 : j < l.length
        · have hlt3 : (j : Int) < (l.length : Int) := by omega
          obtain ⟨k, hkk⟩ : ∃ k, l[j] = k := ⟨_, rfl⟩
          have hkA : k < A.length := (HPM.out.2 k).1 (hkk ▸ List.getElem_mem hlt2)
          have hjk := Lib.hid (show l[j]? = some k by rw [List.getElem?_eq_getElem hlt2, hkk])
          have hc0 := (HROW.out.cellAt j (by omega)).trans (nat_cell hlt2)
          rw [hkk] at hc0
          clear hkk
          have hc1 := (hK.cell (p := ⟨lg, j, none⟩) (World.block_lt_of_cell? W _ hc0) (fun e => by have : lg = Yb := e; omega)).trans hc0
          have hZr := hZ.out.keeps hK (by omega)
          have x0 := hZr.cell 0
          have xl := hZr.lt
          have hNr := Lib.hid (hAN.out.keeps hK (fun g h e => by have := h.2; omega))
          have hPth := Lib.hid (fun wx hx => by have := ref3_Path (fun g => g ≠ b ∧ g < base) (.slice aa A.length ac) A (k : Int) wx hx; rw [path_of HAc.out hkA] at this; exact this)
          have HK := Lib.hid hK
          have HY := Lib.hid hY
          have HYT := Lib.hid hYT
          have HR := Lib.hid hR
          clear hK hY hYT hR hc0
          obtain ⟨gi, rfl⟩ : ∃ x : Nat, x = gk := ⟨_, rfl⟩
          obtain ⟨wi, rfl⟩ : ∃ x : World, x = wr := ⟨_, rfl⟩
          go_wp2_with fail
          refine (hPth.out _ (by exact hNr.out)).mono ?_
          rintro e w1 ⟨rfl, hb1⟩
          have hY1 := HY.out.keeps (Keeps.of_fresh hb1 (fun _ => False)) (fun e => e)
          have y0 := hY1.cell 0
          have yl := hY1.lt
          have hfd := Lib.hid (fun wx hx => ref3_Find (fun g => base ≤ g) vy T (pathS A k) wx hx)
          have hff := Lib.hid (has_find HAc.out HR.out.part hkA)
          clear x0 xl hc1
          generalize hF : rFindT T (pathS A k) = F at *
          obtain ⟨fi, fb⟩ := F
          clear hF
          go_wp2_with fail
          refine (hfd.out _ (by exact (HYT.out.new hb1).in)).mono ?_
          rintro e w2 ⟨rfl, hb2⟩
          have hb3 := Lib.hid (hb1.trans (hb2.mono hb1.size))
          clear hb1 hb2 hY1 y0 yl hfd
          cases fb with
          | true =>
            have hH : Has A T k := hff.out.1 rfl
            go_wp2_with fail
            go_roundg (gi - 1)
            case measure => omega
            case rel => exact ⟨j + 1, T, vy, by go_num, by omega, by omega, rnd_has HR.out hjk.out hH, HY.out.keeps (Keeps.of_fresh hb3.out (fun _ => False)) (fun e => e), HYT.out.new hb3.out, HK.out.trans (Keeps.of_fresh hb3.out _) (fun _ _ e => e)⟩
          | false =>
            have hH : ¬ Has A T k := fun h => by have := hff.out.2 h; cases this
            have k0 : 0 < k := by
              rcases Nat.eq_zero_or_pos k with e | e
              · subst e; exact absurd (rnd_root HAc.out HR.out) hH
              · exact e
            have k1 : ((k : Int) == 0) = false := by simp; omega
            obtain ⟨hpar, hpk⟩ := kid_root HAc.out hkA k0
            have hN2 := hNr.out.new hb3.out
            obtain ⟨g, o, pa, pc, rfl, hgl, q0, q1, _, _, _, _, hnm, _, _⟩ := hN2.at k hkA
            rw [hpar] at q0
            have hPt2 := Lib.hid (fun wx (hx : Below w2.heap.size w2 wx) => by have := ref3_Path (fun g => g ≠ b ∧ g < base) (.slice (some ⟨g, o, none⟩) A.length ac) A (parN A k : Int) wx (hN2.new hx); rw [path_of HAc.out hpk] at this; exact this)
            have hYT2 := HYT.out.new hb3.out
            have hEd := Lib.hid (fun wx (hx : Below w2.heap.size w2 wx) => tree_Add (fun g => base ≤ g) vy T (pathS A (parN A k)) A[k].name wx (hYT2.new hx).in hnm)
            have hZ2 := hZr.keeps (Keeps.of_fresh hb3.out (fun _ => False)) (fun e => e)
            have hY2 := HY.out.keeps (Keeps.of_fresh hb3.out (fun _ => False)) (fun e => e)
            have hK2 := HK.out.trans (Keeps.of_fresh hb3.out (· = Yb)) (fun _ _ e => e)
            have hK2s := hK2.size
            have hno := Lib.hid (fun he => rnd_not HAc.out HR.out hjk.out hkA k0 hH he)
            have hyes := Lib.hid (fun he => rnd_add HAc.out HR.out hjk.out hkA k0 hH he)
            rw [nameOf_at hkA] at hno hyes
            clear hPth hff hb3 HR HY HYT HK hNr hZr hpar
            generalize pathS A (parN A k) = pp at *
            generalize A[k].name = nm at *
            generalize addT T pp nm = E at *
            obtain ⟨T', er⟩ := E
            go_upto_region 14 with fail
            refine wp_region_any (by kernel_rfl) ?_
            refine wpAny_ops (ops' := oraOps 14) (by kernel_rfl) ?_
            refine ora_region Z Yb g o A.length ac k base (parN A k : Int) vy pp nm T' er w2 w2.drew _ rfl (by omega) hZ2 hY2 hkA hgl q0 q1 rfl rfl rfl hPt2 hEd (Below.refl w2.heap.size w2).drew ?_
            intro c w5 sv N hsb hb5 h13 hN5 h14 hT5 hNq
            obtain ⟨y13, y14, y59, y60, y61, y62, y63, y64, y65, y66, y67, y68, y69, y70, y71, y72, y73, y74, y75, y76, y77, hc⟩ := hsb.ex [13, 14, 59, 60, 61, 62, 63, 64, 65, 66, 67, 68, 69, 70, 71, 72, 73, 74, 75, 76, 77] (by kernel_rfl)
            subst hc
            simp only [List.setIfInBounds_toArray, List.set_cons_zero, List.set_cons_succ] at h13 h14 ⊢
            have e13 : y13 = .pointer (some ⟨N, 0, none⟩) := h13
            have e14 : y14 = .int .i64 er := h14
            subst e13 e14
            clear h13 h14 hsb
            have hY5 := hY2.keeps (Keeps.of_fresh hb5 (fun _ => False)) (fun e => e)
            have hYT5 := hYT2.new hb5
            have hK5 := Lib.hid (hK2.trans (Keeps.of_fresh hb5 (· = Yb)) (fun _ _ e => e))
            obtain ⟨sa, sc, rfl⟩ := tree_slice hT5
            have HY5 := Lib.hid hY5
            have HT5 := Lib.hid hT5
            have HYT5 := Lib.hid hYT5
            clear hY2 hYT2 hK2 hb5 hZ2 hPt2 hEd hN2 q0 q1 hT5 hYT5
            by_cases he : er = 0
            · have he' : (er == 0) = true := by simp [he]
              have hR2 := Lib.hid (hyes.out he)
              have n0 := hN5.cell 0
              have nl := hN5.lt
              have y0 := hY5.cell 0
              have yf := hY5.free 0
              have yl := hY5.lt
              clear hyes hno he hN5 hY5
              go_wp2_with fail
              go_roundg (gi - 1)
              case measure => omega
              case rel => exact ⟨j + 1, T', _, by go_num, by omega, by omega, hR2.out, by exact HY5.out.set 0 _, by exact HT5.out.set HY5.out (by decide) (by decide) 0 _, hK5.out.setCell (p := ⟨Yb, 0, none⟩) (Or.inr rfl) _⟩
            · have he' : (er == 0) = false := by simpa using he
              have hR2 := Lib.hid (hno.out he)
              clear hyes hno he hN5 hY5
              go_wp2_with fail
              go_roundg (gi - 1)
              case measure => omega
              case rel => exact ⟨j + 1, T, vy, by go_num, by omega, by omega, hR2.out, HY5.out, HYT5.out, hK5.out⟩
        · have hlt3 : ¬ (j : Int) < (l.length : Int) := by omega
          have hR2 := Lib.hid (rnd_next hR (by omega) (fun k hk => (HPM.out.2 k).2 hk))
          have HK := Lib.hid hK
          have HY := Lib.hid hY
          have HYT := Lib.hid hYT
          clear hR hK hY hYT
          go_wp2_with fail
          go_roundg (go - 1)
          case measure => omega
          case rel => exact ⟨r + 1, T, vy, by go_num, by omega, by omega, hR2.out, HY.out, HYT.out, HK.out⟩
    · have hlt' : ¬ (r : Int) < (A.length : Int) := by omega
      have hTe := rnd_end HAc.out hR (by omega)
      subst hTe
      have hTr := HT.out.keeps hK (fun i e => by have : i = Yb := e; omega)
      have hKo := hK.size
      have HKo := Lib.hid hK
      obtain ⟨wo, rfl⟩ : ∃ x : World, x = wr := ⟨_, rfl⟩
      clear hR hY0 hYT0 HROW hK
      go_wp2_with fail
      refine (mk_Order w.heap.size b A.length wo hTr (by omega)).mono ?_
      rintro e w5 ⟨wv, l1, rfl, hPm1, hrow1, hT5, hK5⟩
      have hll1 := hPm1.1
      have hK5s := hK5.size
      obtain ⟨lg1, lc1, rfl, _, _⟩ := hrow1.form (by omega)
      have hlg1 := (hrow1.lt lg1 rfl).1
      have hKK := (HKo.out.mono (S := fun i => i = Yb ∨ i = b) (fun i _ e => .inl e)).trans (hK5.mono (S := fun i => i = Yb ∨ i = b) (fun i _ e => .inr e)) (fun _ _ e => e)
      have hZ5 := Lib.hid (hZ.out.keeps hKK (fun e => by rcases e with e | e <;> omega))
      have hN5 := Lib.hid (hAN.out.keeps hKK (fun g h e => by have h1 : g ≠ b := h.1; have h2 : g < base := h.2; rcases e with e | e <;> omega))
      have hB5 := Lib.hid (hbW.out.trans (hKK.below hbW.out.size (fun i hi e => by rcases e with e | e <;> omega)))
      have hY5 := hY.keeps hK5 (by omega)
      have hYT5 := hYT.tape hTr hK5
      have HROW1 := Lib.hid hrow1
      have HPM1 := Lib.hid hPm1
      have hws5 : w.heap.size ≤ w5.heap.size := hB5.out.size
      clear hZ hAN hbW HT hTr HKo hK5 hrow1 hPm1 hY hYT hKK x0 xl hZr HPM
      go_wp2_with fail
      go_loopg [88] l1.length (fun f x wr => UorS A l1 w5 w.heap.size b Yb base f x wr)
      case atStart => exact ⟨0, _, _, rfl, by omega, by omega, sets_start A l1, hY5, hYT5, hT5, Keeps.refl _ _⟩
      case round =>
        clear hY5 hYT5 hT5
        obtain ⟨j, T, vy, rfl, hj1, hj2, hS, hY, hYT, hT, hK⟩ := hrel
        have hZr := hZ5.out.keeps hK (fun e => by rcases e with e | e <;> omega)
        have x0 := hZr.cell 0
        have xl := hZr.lt
        have hKs := hK.size
        have HK := Lib.hid hK
        by_cases hlt1 : j < l1.length
        · have hlt3 : (j : Int) < (l1.length : Int) := by omega
          obtain ⟨k, hkk⟩ : ∃ k, l1[j] = k := ⟨_, rfl⟩
          have hkA : k < A.length := (HPM1.out.2 k).1 (hkk ▸ List.getElem_mem hlt1)
          have hjk := Lib.hid (show l1[j]? = some k by rw [List.getElem?_eq_getElem hlt1, hkk])
          have hc0 := (HROW1.out.cellAt j (by omega)).trans (nat_cell hlt1)
          rw [hkk] at hc0
          clear hkk
          have hc1 := (hK.cell (p := ⟨lg1, j, none⟩) (World.block_lt_of_cell? w5 _ hc0) (fun e => by have e2 : lg1 = Yb ∨ lg1 = b := e; omega)).trans hc0
          have hNr := hN5.out.keeps hK (fun g h e => by have h1 : g ≠ b := h.1; have h2 : g < base := h.2; rcases e with e | e <;> omega)
          obtain ⟨g, o, pa, pc, rfl, hgl, _, _, q2, hpp, _, _, _, _, _⟩ := hNr.at k hkA
          have hfit := fit_props HAc.out k hkA
          have HS := Lib.hid hS
          have HY := Lib.hid hY
          have HYT := Lib.hid hYT
          have HT := Lib.hid hT
          have hpa : (propsOf A k).length = A[k].props.length := by rw [propsOf_at hkA]
          clear hS hY hYT hT hK hc0 hNr hpp
          obtain ⟨go, rfl⟩ : ∃ x : Nat, x = gk := ⟨_, rfl⟩
          obtain ⟨wi, rfl⟩ : ∃ x : World, x = wr := ⟨_, rfl⟩
          go_wp2_with fail
          refine (mk_Order w.heap.size b A[k].props.length wi HT.out (by omega)).mono ?_
          rintro e w6 ⟨wv2, l2, rfl, hPm2, hrow2, hT6, hK6⟩
          have hll2 := hPm2.1
          have hK6s := hK6.size
          obtain ⟨ra, rc, rfl⟩ := row_slice hrow2
          have hK56 := HK.out.trans (hK6.mono (S := fun i => i = Yb ∨ i = b) (fun i _ e => .inr e)) (fun _ _ e => e)
          have hZ6 := Lib.hid (hZ5.out.keeps hK56 (fun e => by rcases e with e | e <;> omega))
          have hN6 := Lib.hid (hN5.out.keeps hK56 (fun g h e => by have h1 : g ≠ b := h.1; have h2 : g < base := h.2; rcases e with e | e <;> omega))
          have hY6 := HY.out.keeps hK6 (by omega)
          have hYT6 := HYT.out.tape HT.out hK6
          have HK56 := Lib.hid hK56
          have HROW2 := Lib.hid hrow2
          have HPM2 := Lib.hid hPm2
          have HT6 := Lib.hid hT6
          clear hK6 hrow2 hPm2 hK56 HY HYT HT hT6 x0 xl hZr hc1 q2 HK
          go_wp2_with fail
          go_loopg [102] l2.length (fun f x wr => UorJ A l1 j l2 w6 Yb base f x wr)
          case atStart => exact ⟨0, T, vy, rfl, by omega, by omega, sets_in HS.out, hY6, hYT6, Keeps.refl _ _⟩
          case round =>
            clear hY6 hYT6 HS
            obtain ⟨m, T, vy, rfl, hm1, hm2, hS, hY, hYT, hK⟩ := hrel
            by_cases hlt2 : m < l2.length
            · have hlt4 : (m : Int) < (l2.length : Int) := by omega
              obtain ⟨rg, rc2, hre, _, _⟩ := HROW2.out.form (by omega)
              cases hre
              have hrg := (HROW2.out.lt rg rfl).1
              obtain ⟨i, hii⟩ : ∃ i, l2[m] = i := ⟨_, rfl⟩
              have hiA : i < A[k].props.length := (HPM2.out.2 i).1 (hii ▸ List.getElem_mem hlt2)
              have hmi := Lib.hid (show l2[m]? = some i by rw [List.getElem?_eq_getElem hlt2, hii])
              have hc0 := (HROW2.out.cellAt m (by omega)).trans (nat_cell hlt2)
              rw [hii] at hc0
              clear hii
              have hc1 := (hK.cell (p := ⟨rg, m, none⟩) (World.block_lt_of_cell? w6 _ hc0) (fun e => by have : rg = Yb := e; omega)).trans hc0
              have hZr := hZ6.out.keeps hK (by omega)
              have x0 := hZr.cell 0
              have xl := hZr.lt
              have hNr := hN6.out.keeps hK (fun g h e => by have := h.2; omega)
              obtain ⟨g', o', pa, pc, hge, hgl2, _, _, q2, hpp, hp1, hp2, _, _, _⟩ := hNr.at k hkA
              cases hge
              obtain ⟨pg, po, rfl, hpg, p0, p1, hns, hvs⟩ := hpp.at i hiA
              obtain ⟨Tn, hset, hS2⟩ := sets_set HAc.out hS hjk.out hmi.out hkA hiA
              have HS2 := Lib.hid hS2
              have HS := Lib.hid hS
              have HK := Lib.hid hK
              have HY := Lib.hid hY
              have HYT := Lib.hid hYT
              have hset2 := Lib.hid hset
              have hPm := Lib.hid (fun wx hx => by have := ref3_Path (fun q => q ≠ b ∧ q < base) (.slice (some ⟨g, o, none⟩) A.length ac) A (k : Int) wx hx; rw [path_of HAc.out hkA] at this; exact this)
              have hii2 : (i : Int) < (A[k].props.length : Int) := by omega
              clear hK hY hYT hS hS2 hc0 hset hpp
              have HNr := Lib.hid hNr
              clear hNr
              obtain ⟨gi, rfl⟩ : ∃ x : Nat, x = gk := ⟨_, rfl⟩
              obtain ⟨wj, rfl⟩ : ∃ x : World, x = wr := ⟨_, rfl⟩
              generalize hnmn : A[k].props[i].name = nm at *
              generalize hvln : A[k].props[i].value = vl at *
              have hal : Below wj.heap.size wj (wj.alloc (.cells #[.string nm, .string vl] 83)) := (Below.refl _ _).alloc (Nat.le_refl _) _
              have hP8 := Lib.hid (Holds.new wj #[.string nm, .string vl] 83)
              have hal2 := Lib.hid hal
              have hls : wj.heap.size + 1 = (wj.alloc (.cells #[.string nm, .string vl] 83)).heap.size := by simp
              have HZr := Lib.hid hZr
              clear hal hZr
              go_upto_region 25 with fail
              generalize hW8 : wj.alloc (.cells #[.string nm, .string vl] 83) = W8 at *
              generalize hPb : wj.heap.size = Pb at *
              have hal : Below wj.heap.size wj W8 := by rw [hPb]; exact hal2.out
              clear hW8 x0 xl hc1 q2 p0 p1
              have hZ8 := HZr.out.keeps (Keeps.of_fresh hal (fun _ => False)) (fun e => e)
              have hY8 := HY.out.keeps (Keeps.of_fresh hal (fun _ => False)) (fun e => e)
              have hYT8 := HYT.out.new hal
              have hN8 := HNr.out.new hal
              have hK8 := HK.out.trans (Keeps.of_fresh hal (· = Yb)) (fun _ _ e => e)
              have hK8s := hK8.size
              have hPt8 := Lib.hid (fun wx (hx : Below W8.heap.size W8 wx) => hPm.out wx (hN8.new hx))
              have hEd8 := Lib.hid (fun wx (hx : Below W8.heap.size W8 wx) => by have := tree_Set (fun q => base ≤ q) vy T (pathS A k) nm vl wx (hYT8.new hx).in hns hvs; rw [hset2.out] at this; exact this)
              clear hset2 hnmn hvln HZr HY HYT HNr HK hPm hal
              generalize pathS A k = pp at *
              refine wp_region_any (by kernel_rfl) ?_
              refine wpAny_ops (ops' := orbOps 25) (by kernel_rfl) ?_
              refine orb_region Z Yb Pb g o A.length ac k base vy pp nm vl Tn 0 W8 W8.drew _ rfl (by omega) hZ8 hY8 hP8.out rfl rfl rfl rfl hPt8 hEd8 (Below.refl W8.heap.size W8).drew ?_
              intro c w9 sv N hsb hb9 h20 hN9 h21 hT9 hNq
              obtain ⟨y20, y21, y115, y116, y117, y118, y119, y120, y121, y122, y123, y124, y125, y126, hc⟩ := hsb.ex [20, 21, 115, 116, 117, 118, 119, 120, 121, 122, 123, 124, 125, 126] (by kernel_rfl)
              subst hc
              simp only [List.setIfInBounds_toArray, List.set_cons_zero, List.set_cons_succ] at h20 h21 ⊢
              have e20 : y20 = .pointer (some ⟨N, 0, none⟩) := h20
              have e21 : y21 = .int .i64 0 := h21
              subst e20 e21
              clear h20 h21 hsb
              have hY9 := hY8.keeps (Keeps.of_fresh hb9 (fun _ => False)) (fun e => e)
              have hK9 := Lib.hid (hK8.trans (Keeps.of_fresh hb9 (· = Yb)) (fun _ _ e => e))
              obtain ⟨sa, sc, rfl⟩ := tree_slice hT9
              have HY9 := Lib.hid hY9
              have HT9 := Lib.hid hT9
              have n0 := hN9.cell 0
              have nl := hN9.lt
              have y0 := hY9.cell 0
              have yf := hY9.free 0
              have yl := hY9.lt
              clear hY8 hYT8 hK8 hb9 hZ8 hPt8 hEd8 hN8 hT9 hN9 hY9 hP8
              go_wp2_with fail
              go_roundg (gi - 1)
              case measure => omega
              case rel => exact ⟨m + 1, Tn, _, by go_num, by omega, by omega, HS2.out, by exact HY9.out.set 0 _, by exact HT9.out.set HY9.out (by decide) (by decide) 0 _, hK9.out.setCell (p := ⟨Yb, 0, none⟩) (Or.inr rfl) _⟩
            · have hlt4 : ¬ (m : Int) < (l2.length : Int) := by omega
              have hS3 := Lib.hid (sets_out hS hjk.out (fun i hi => (HPM2.out.2 i).2 (by rw [hpa] at hi; exact hi)) (by omega))
              have hKK := Lib.hid (HK56.out.trans (hK.mono (S := fun i => i = Yb ∨ i = b) (fun i _ e => .inl e)) (fun _ _ e => e))
              have hTT := Lib.hid (HT6.out.keeps hK (fun i e => by have : i = Yb := e; omega))
              have HY := Lib.hid hY
              have HYT := Lib.hid hYT
              clear hS hK hY hYT
              go_wp2_with fail
              go_roundg (go - 1)
              case measure => omega
              case rel => exact ⟨j + 1, T, vy, by go_num, by omega, by omega, hS3.out, HY.out, HYT.out, hTT.out, hKK.out⟩
        · have hlt3 : ¬ (j : Int) < (l1.length : Int) := by omega
          have hTA := sets_end hS (by omega) (fun k hk => (HPM1.out.2 k).2 hk)
          subst hTA
          have y0 := hY.cell 0
          have yl := hY.lt
          have hBr := Lib.hid (hB5.out.trans (hK.below hB5.out.size (fun i hi e => by rcases e with e | e <;> omega)))
          have hNr := Lib.hid (hN5.out.keeps hK (fun g h e => by have h1 : g ≠ b := h.1; have h2 : g < base := h.2; rcases e with e | e <;> omega))
          have HYT := Lib.hid hYT
          have HY := Lib.hid hY
          have HZr := Lib.hid hZr
          clear hYT hT hK hS hZr HK
          obtain ⟨wi, rfl⟩ : ∃ x : World, x = wr := ⟨_, rfl⟩
          go_wp2_with fail
          refine (ref3_Same _ _ _ _ T T wi (by exact hNr.out) (by exact HYT.out.in)).mono ?_
          rintro e n1 ⟨bb, rfl, hbb, hb1⟩
          obtain rfl : bb = true := by simpa using hbb
          have x1 := (HZr.out.keeps (Keeps.of_fresh hb1 (fun _ => False)) (fun e => e)).cell 0
          have y1 := (HY.out.keeps (Keeps.of_fresh hb1 (fun _ => False)) (fun e => e)).cell 0
          have hs1 := hb1.size
          have HB1 := Lib.hid hb1
          clear x0 y0 hb1 hbb
          go_wp2_with fail
          refine (tree_Same _ _ _ _ T T n1 (by exact hNr.out.new HB1.out) (by exact (HYT.out.new HB1.out).in)).mono ?_
          rintro e n2 ⟨bb, rfl, hbb, hb2⟩
          obtain rfl : bb = true := by simpa using hbb
          have HB2 := Lib.hid (HB1.out.trans (hb2.mono HB1.out.size))
          clear x1 y1 hb2 hbb
          go_wp2_with fail
          refine (haw.out _).mono ?_
          rintro e n3 ⟨rfl, hb3⟩
          have HB3 := Lib.hid (HB2.out.trans (hb3.mono HB2.out.size))
          clear hb3
          go_wp2_with fail
          go_ret
          exact ⟨rfl, hBr.out.trans (HB3.out.mono hBr.out.size)⟩
end Go.Proofs.YtjfkjnakmmkkiaaGreat
