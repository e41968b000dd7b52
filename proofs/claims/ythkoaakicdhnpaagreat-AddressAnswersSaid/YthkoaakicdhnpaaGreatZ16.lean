/- The contract of Overlaps of address. | Contracts of bringupgrow: with, wide; a tree of the call's own beside a tape. | The block of one tree of AddressAnswers (printed by gans.py). | Contracts of bringupgrow: Path. | Contracts of bringupgrow: Step. | Contracts of bringupgrow: the regions of Buses that draw their order. | Contracts of bringupgrow: region 14 of Buses. | Contracts of bringupgrow: region 17 of Buses. | Contracts of bringupgrow: small facts for the regions of Buses. | Contracts of bringupgrow: Value: some string of at most 100 bytes. | Region 6 of AddressAnswers (printed by gad.py). | Bent: what holds while a tree is bent, and what each change makes of it. -/
import Derived.Test.YthkoaakicdhnpaaGreatZ9
import Derived.Test.YthkoaakicdhnpaaGreatZ3
import Derived.Laws.AppendOwnNone
import Derived.ArgAppend
import Derived.Deep.DeepCutAuto
import Derived.Deep.CutBlock
import Derived.Test.YthkoaakicdhnpaaGreatZ12
import Derived.Test.YthkoaakicdhnpaaGreatZ17
import Derived.Test.YthkoaakicdhnpaaGreatZ15
import Derived.Test.YthkoaakicdhnpaaGreatZ14
import Derived.Test.YthkoaakicdhnpaaGreatZ1
import Derived.Test.YthkoaakicdhnpaaGreatZ2
import Derived.Test.YthkoaakicdhnpaaGreatZ11

namespace Go.Proofs.YthkoaakicdhnpaaGreat
open Go.RowKit

set_option maxRecDepth 100000 in
set_option maxHeartbeats 8000000 in
theorem address_Overlaps (R : Nat → Prop) (v : Value) (T : List NodeT) (w : World) (hT : NodesIn R w v T) :
    Calls Tryz.prog 16 #[.agg #[v]] w (OverPost T w) := by
  obtain ⟨a, cap, rfl, hc1, hc2⟩ := hT.shape
  have HT := Lib.hid hT; clear hT
  have hck := fun wx hx => address_Check R (.slice a T.length cap) T wx hx
  have hE := Lib.hid (show overlapsT T = if (aCheckT T).2 ≠ 0 then ([], (aCheckT T).2) else (hitsF T (foundT T), 0) from rfl)
  have hok := Lib.hid (@aCheck_ok T)
  have hb0 : Below w.heap.size w (w.alloc (.cells #[.slice a T.length cap] 25)) := (Below.refl w.heap.size w).alloc (Nat.le_refl _) _
  have hB0 := Holds.new w #[.slice a T.length cap] 25
  generalize aCheckT T = C at hck hE hok
  obtain ⟨ci, c⟩ := C
  simp only at hck
  have HCK := Lib.hid hck; clear hck
  by_cases hc : c = 0
  · subst hc
    have HC0 := Lib.hid (hok.out rfl)
    have hE2 := Lib.hid (show overlapsT T = (hitsF T (foundT T), 0) from by rw [hE.out, if_neg (by simp)])
    have hlen := (limits_len (check_limits HC0.out)).2
    obtain ⟨hfl, hfo⟩ := foundT_ok T
    have HFO := Lib.hid hfo; clear hfo
    have HHL := Lib.hid (hitsF_len T _ (foundT T) (Nat.le_refl _))
    have hfl2 : (foundT T).length ≤ 30720 := by omega
    clear hok hE hfl
    go_enter Tryz.func16, Tryz.ntmps16
    go_wp2_with fail
    refine (HCK.out _ (by exact HT.out.new hb0)).mono ?_
    rintro e w1 ⟨rfl, hb1⟩
    have hb2 := hb0.trans (hb1.mono (by simp))
    have hB1 := hB0.keeps (Keeps.of_fresh hb1 (fun _ => False)) (fun e => e)
    have bx1 := hB1.cell 0
    have blt1 := hB1.lt
    have hs2 := hb2.size
    go_wp2_with fail
    go_loopg [6, 33] (T.length) (fun f x y wr => ∃ (i : Nat) (l : List ((Int × Int) × Int × Int)), y = .int .i64 i ∧ i ≤ T.length ∧ T.length ≤ i + f ∧ wr.ownsRow w1.heap.size 93 4 x l.length (quadCells l) ∧
      Hid (foundT T = l ++ foundF T (T.length - i) i) ∧ Below w1.heap.size w1 wr)
    case atStart => exact ⟨0, [], rfl, by omega, by omega, World.ownsRow_nil _ _ _ _, by show _ = _; rfl, Below.refl _ _⟩
    case round =>
      obtain ⟨i, l, rfl, hi, hf, hown, hG, hb⟩ := hrel
      obtain ⟨oa, oc, rfl⟩ := owns_slice hown
      have hbs := hb.size
      have hB := hB1.keeps (Keeps.of_fresh hb (fun _ => False)) (fun e => e)
      have bx := hB.cell 0
      have blt := hB.lt
      have hbw := hb2.trans (hb.mono hs2)
      obtain ⟨wo, rfl⟩ : ∃ x : World, x = wr := ⟨_, rfl⟩
      obtain ⟨go, rfl⟩ : ∃ x : Nat, x = gk := ⟨_, rfl⟩
      clear bx1 blt1
      by_cases hlt : i < T.length
      · have hrg := fun wx hx => address_regions R (.slice a T.length cap) T i wx hx HC0.out hlt
        have hRK := Lib.hid (regionsT_ok T i)
        have hrl := regionsT_len T i
        have hst := Lib.hid (show foundF T (T.length - i) i = foundRow T i 0 (regionsT T i).1 ++ foundF T (T.length - (i + 1)) (i + 1) from by
          rw [show T.length - i = (T.length - (i + 1)) + 1 from by omega]; rfl)
        unfold RegionsPost at hrg
        generalize regionsT T i = C at hrg hRK hrl hst
        obtain ⟨rl, er⟩ := C
        simp only at hrg hrl
        have HRG := Lib.hid hrg; clear hrg
        go_wp2_with fail
        refine (HRG.out _ (by exact HT.out.new hbw)).mono ?_
        rintro e w2 ⟨rv, rfl, hownR, hb3⟩
        obtain ⟨ra, rc, rfl⟩ := owns_slice hownR
        have hown2 := row_new hown hb3
        have hb4 := hb.trans (hb3.mono hbs)
        clear bx blt hB hbw
        go_wp2_with fail
        go_loopg [6, 44] (rl.length) (fun f x y wq => ∃ (k : Nat) (l2 : List ((Int × Int) × Int × Int)), y = .int .i64 k ∧ k ≤ rl.length ∧ rl.length ≤ k + f ∧ wq.ownsRow w1.heap.size 93 4 x l2.length (quadCells l2) ∧
          Hid (foundT T = (l2 ++ foundRow T i k (rl.drop k)) ++ foundF T (T.length - (i + 1)) (i + 1)) ∧ wq.ownsRow wo.heap.size 56 2 (.slice ra rl.length rc) rl.length (pairCells rl) ∧ Below w1.heap.size w1 wq)
        case atStart =>
          refine ⟨0, l, rfl, by omega, by omega, hown2, ?_, hownR, hb4⟩
          show _ = _
          rw [hG.out, hst.out, List.drop_zero, List.append_assoc]
        case round =>
          obtain ⟨k, l2, rfl, hk, hfk, hown3, hG3, hR3, hb5⟩ := hrel
          obtain ⟨qa, qc, rfl⟩ := owns_slice hown3
          have hbs5 := hb5.size
          have hB5 := hB1.keeps (Keeps.of_fresh hb5 (fun _ => False)) (fun e => e)
          have bx := hB5.cell 0
          have blt := hB5.lt
          have hbw5 := hb2.trans (hb5.mono hs2)
          by_cases hkl : k < rl.length
          · obtain ⟨gR, cR, e1, hcR, hgR, _, d0, d1⟩ := pair_cells_at hR3 k hkl
            cases e1
            have hst2 := Lib.hid (show foundRow T i k (rl.drop k) = placeT T i k rl[k] ++ foundRow T i (k + 1) (rl.drop (k + 1)) from by rw [List.drop_eq_getElem_cons hkl]; rfl)
            have hro := hRK.out rl[k] (List.getElem_mem hkl)
            have hl2 : l2.length + (placeT T i k rl[k]).length ≤ 30720 := by
              have := congrArg List.length hG3.out
              rw [hst2.out] at this
              simp at this
              omega
            generalize rl[k] = p at d0 d1 hst2 hro hl2
            obtain ⟨pb, ps⟩ := p
            obtain ⟨r0, r1, r2, r3, r4⟩ := hro
            have htr := fun wx hx => address_translate R (.slice a T.length cap) T i pb ps wx hx HC0.out hlt r0 r1 r2 r3
            have hpl := Lib.hid (show placeT T i k (pb, ps) = if (translateT T i pb ps).2 = true then [(((i : Int), (k : Int)), (translateT T i pb ps).1)] else [] from rfl)
            unfold TransPost at htr
            rw [hpl.out] at hl2
            generalize translateT T i pb ps = X at htr hpl hl2
            obtain ⟨⟨x1, x2⟩, xb⟩ := X
            simp only at htr hl2
            have HTR := Lib.hid htr; clear htr
            clear r0 r1 r2 r3 r4
            have hba : Below w1.heap.size w1 (wr.alloc (.cells #[.int .i64 pb, .int .i64 ps] 56)) := hb5.alloc hbs5 _
            have hBa := hB5.alloc (.cells #[.int .i64 pb, .int .i64 ps] 56)
            cases xb with
            | true =>
              simp only [if_true, List.length_singleton] at hl2
              have hP := Lib.hid (show foundRow T i k (rl.drop k) = [(((i : Int), (k : Int)), (x1, x2))] ++ foundRow T i (k + 1) (rl.drop (k + 1)) from by rw [hst2.out, hpl.out, if_pos rfl])
              clear hst2 hpl
              obtain ⟨i0, hi0, hz0, hz1, hz2⟩ := info_parts infoFound
              go_wp2_with fail
              refine (HTR.out _ (by exact HT.out.new (hb2.trans (hba.mono hs2)))).mono ?_
              rintro e w3 ⟨rfl, hb6⟩
              have hb7 := hba.trans (hb6.mono (by simp; omega))
              have hown4 := row_new (hown3.alloc (.cells #[.int .i64 pb, .int .i64 ps] 56)) hb6
              have hR4 := row_new (hR3.alloc (.cells #[.int .i64 pb, .int .i64 ps] 56)) hb6
              have hs7 := hb7.size
              clear d0 d1
              go_wp2_with (at_builtin; refine wpList_append_own _ rfl (.tmp 57) (.tmp 63) 87 rfl w1.heap.size 93 i0 (.agg #[.int .i64 0, .int .i64 0, .int .i64 0, .int .i64 0]) 4 32 Tryz.underlying87 hi0 hz0 hz1 hz2 rfl (by decide) (.slice qa l2.length qc) l2.length (quadCells l2) rfl (by exact (hown4.alloc _).alloc _) ⟨w3.heap.size + 1, 0, none⟩ 1 1 [.int .i64 i, .int .i64 k, .int .i64 x1, .int .i64 x2] rfl rfl ?c1 ?c2 ?c3 ?c4 ?c5 ?_)
              case c1 => exact (row_built (w := w3.alloc (.cells #[.int .i64 x1, .int .i64 x2] 56)) (base := 0) (n := 1) (size := 4) (cs := #[.int .i64 i, .int .i64 k, .int .i64 x1, .int .i64 x2]) rfl (Nat.zero_le _) rfl (by omega)).cells (g := w3.heap.size + 1) (by simp [Value.ownBlock])
              case c2 => intro u hu; simp at hu; rcases hu with rfl | rfl | rfl | rfl <;> rfl
              case c3 => unfold maxLen; omega
              case c4 => omega
              case c5 => simp; omega
              intro v' w6 hown' hgrow _
              have hb8 := ((hb7.alloc hs7 (.cells #[.int .i64 x1, .int .i64 x2] 56)).alloc (by simp; omega) (.cells #[.int .i64 i, .int .i64 k, .int .i64 x1, .int .i64 x2] 93)).grown hgrow (by simp; omega) (fun q hq => (hown4.lt q hq).1)
              have hR5 := ((hR4.alloc (.cells #[.int .i64 x1, .int .i64 x2] 56)).alloc (.cells #[.int .i64 i, .int .i64 k, .int .i64 x1, .int .i64 x2] 93)).kept hgrow (rows_apart hR4 hown4 (by decide))
              clear hgrow
              go_wp2_with fail
              go_roundg (gk - 1)
              case measure => omega
              case rel =>
                refine ⟨k + 1, l2 ++ [(((i : Int), (k : Int)), (x1, x2))], by go_num, by omega, by omega, by rw [quadCells_snoc, List.length_append]; exact hown', ?_, hR5, hb8⟩
                show _ = _
                rw [hG3.out, hP.out]; simp
            | false =>
              have hP := Lib.hid (show foundRow T i k (rl.drop k) = foundRow T i (k + 1) (rl.drop (k + 1)) from by rw [hst2.out, hpl.out, if_neg (by simp)]; rfl)
              clear hst2 hpl
              go_wp2_with fail
              refine (HTR.out _ (by exact HT.out.new (hb2.trans (hba.mono hs2)))).mono ?_
              rintro e w3 ⟨rfl, hb6⟩
              have hb7 := hba.trans (hb6.mono (by simp; omega))
              have hown4 := row_new (hown3.alloc (.cells #[.int .i64 pb, .int .i64 ps] 56)) hb6
              have hR4 := row_new (hR3.alloc (.cells #[.int .i64 pb, .int .i64 ps] 56)) hb6
              clear d0 d1
              go_wp2_with fail
              go_roundg (gk - 1)
              case measure => omega
              case rel =>
                refine ⟨k + 1, l2, by go_num, by omega, by omega, hown4.alloc _, ?_, hR4.alloc _, hb7.alloc hb7.size _⟩
                show _ = _
                rw [hG3.out, hP.out]
          · have hP := Lib.hid (show foundT T = l2 ++ foundF T (T.length - (i + 1)) (i + 1) from by
              rw [hG3.out, List.drop_eq_nil_of_le (by omega)]; simp [foundRow])
            go_wp2_with fail
            go_roundg (go - 1)
            case measure => omega
            case rel => exact ⟨i + 1, l2, by go_num, by omega, by omega, hown3, hP, hb5⟩
      · have hF := Lib.hid (show foundT T = l from by rw [hG.out, show T.length - i = 0 from by omega]; simp [foundF])
        have hll : l.length ≤ 30720 := by rw [← hF.out]; exact hfl2
        have HEND := Lib.hid (show overlapsT T = (hitsF T l, 0) from by rw [hE2.out, hF.out])
        have hhl := HHL.out
        rw [hF.out] at hhl
        have HHL2 := Lib.hid (show (hitsF T l).length ≤ 943718400 from Nat.le_trans hhl (Nat.le_trans (Nat.mul_le_mul hll hll) (by decide)))
        have HFO2 : Hid (∀ x ∈ l, FoundOk T.length x) := by show _; rw [← hF.out]; exact HFO.out
        clear hhl HHL HFO hE2 hG
        have HOWN := Lib.hid hown
        clear bx blt hown
        go_wp2_with fail
        go_loopg [14, 69] (l.length) (fun f x y wr => ∃ (i : Nat) (out : List ((Int × Int) × Int × Int)), y = .int .i64 i ∧ i ≤ l.length ∧ l.length ≤ i + f ∧ wr.ownsRow wo.heap.size 96 4 x out.length (quadCells out) ∧
          Hid (hitsF T l = out ++ hitsF T (l.drop i)) ∧ Below wo.heap.size wo wr)
        case atStart => exact ⟨0, [], rfl, by omega, by omega, World.ownsRow_nil _ _ _ _, by show _ = _; rw [List.drop_zero]; rfl, Below.refl _ _⟩
        case round =>
          obtain ⟨j, out, rfl, hj, hfj, hown2, hG2, hc2'⟩ := hrel
          obtain ⟨wp, rfl⟩ : ∃ x : World, x = wr := ⟨_, rfl⟩
          obtain ⟨gp, rfl⟩ : ∃ x : Nat, x = gk := ⟨_, rfl⟩
          obtain ⟨oa2, oc2, rfl⟩ := owns_slice hown2
          have hbs2 := hc2'.size
          by_cases hjl : j < l.length
          · obtain ⟨gl, cl, e1, hcl, hgl, _, d0, d1, d2, d3⟩ := quad_cells_at HOWN.out j hjl
            cases e1
            have f0 := cell_new d0 hgl hc2'
            have f1 := cell_new d1 hgl hc2'
            have f2 := cell_new d2 hgl hc2'
            have f3 := cell_new d3 hgl hc2'
            have hX := HFO2.out l[j] (List.getElem_mem hjl)
            have hst : Hid (hitsF T (l.drop j) = hitRow T l[j] (l.drop (j + 1)) ++ hitsF T (l.drop (j + 1))) := by show _ = _; rw [List.drop_eq_getElem_cons hjl]; rfl
            generalize l[j] = X at f0 f1 f2 f3 hX hst
            obtain ⟨⟨xn, xk⟩, xb, xs⟩ := X
            obtain ⟨n0, n1, r0, r1, r2, r3, r4⟩ := hX
            simp only at n0 n1 r0 r1 r2 r3 r4 f0 f1 f2 f3
            clear d0 d1 d2 d3
            have hjI : (j : Int) + 1 ≤ (l.length : Int) := by omega
            have hbX : Below wo.heap.size wo (wp.alloc (.cells #[.int .i64 xn, .int .i64 xk, .int .i64 xb, .int .i64 xs] 93)) := hc2'.alloc hbs2 _
            have hX0 := Holds.new wp #[.int .i64 xn, .int .i64 xk, .int .i64 xb, .int .i64 xs] 93
            have hownX := hown2.alloc (.cells #[.int .i64 xn, .int .i64 xk, .int .i64 xb, .int .i64 xs] 93)
            by_cases hcj : j + 1 = oc
            · have hlj : l.length = j + 1 := by omega
              have hF3 : Hid (hitsF T l = out ++ hitsF T (l.drop (j + 1))) := by
                show _ = _
                rw [hG2.out, hst.out, List.drop_eq_nil_of_le (by omega : l.length ≤ j + 1)]; simp [hitRow]
              go_wp2_with fail
              go_loopg [14, 79] 0 (fun _ x y wr => x = .slice oa2 out.length oc2 ∧ y = .int .i64 0 ∧ wp.alloc (.cells #[.int .i64 xn, .int .i64 xk, .int .i64 xb, .int .i64 xs] 93) = wr)
              case atStart => exact ⟨rfl, rfl, rfl⟩
              case round =>
                obtain ⟨rfl, rfl, rfl⟩ := hrel
                go_wp2_with fail
                go_roundg (gp - 1)
                case measure => omega
                case rel => exact ⟨j + 1, out, by go_num, by omega, by omega, hownX, hF3, hbX⟩
            · have HST := hst
              go_wp2_with fail
              go_loopg [14, 79] (l.length) (fun f x y wr => ∃ (q : Nat) (o2 : List ((Int × Int) × Int × Int)), y = .int .i64 q ∧ q ≤ l.length - (j + 1) ∧ l.length ≤ q + f ∧ wr.ownsRow wo.heap.size 96 4 x o2.length (quadCells o2) ∧
                Hid (hitsF T l = (o2 ++ hitRow T ((xn, xk), (xb, xs)) (l.drop (j + 1 + q))) ++ hitsF T (l.drop (j + 1))) ∧ Holds wr wp.heap.size #[.int .i64 xn, .int .i64 xk, .int .i64 xb, .int .i64 xs] 93 ∧ Below wo.heap.size wo wr)
              case atStart =>
                refine ⟨0, out, rfl, by omega, by omega, hownX, ?_, hX0, hbX⟩
                show _ = _
                rw [hG2.out, HST.out, Nat.add_zero, List.append_assoc]
              case round =>
                obtain ⟨q, o2, rfl, hq, hfq, hown5, hG5, hX5, hb5⟩ := hrel
                obtain ⟨oa5, oc5, rfl⟩ := owns_slice hown5
                have hs5 := hb5.size
                have x0 := hX5.cell 0
                have x1 := hX5.cell 1
                have x2 := hX5.cell 2
                have x3 := hX5.cell 3
                have xlt := hX5.lt
                have hol : o2.length ≤ 943718400 := by
                  have := congrArg List.length hG5.out
                  simp at this
                  have h2 := HHL2.out
                  omega
                by_cases hql : j + 1 + q < l.length
                · have hqI : (q : Int) < ((l.length - (j + 1) : Nat) : Int) := by omega
                  have hqN : q < l.length - (j + 1) := by omega
                  obtain ⟨gl', cl', e1, hcl', hgl', _, d0, d1, d2, d3⟩ := quad_cells_at HOWN.out (j + 1 + q) hql
                  cases e1
                  have a1 : (j + 1 + q) * 4 = (j + 1) * 4 + q * 4 := by omega
                  rw [a1] at d0 d1 d2 d3
                  have y0 := cell_new d0 hgl' hb5
                  have y1 := cell_new d1 hgl' hb5
                  have y2 := cell_new d2 hgl' hb5
                  have y3 := cell_new d3 hgl' hb5
                  have hY := HFO2.out l[j + 1 + q] (List.getElem_mem hql)
                  have hst2 : Hid (hitRow T ((xn, xk), (xb, xs)) (l.drop (j + 1 + q)) = (if hitB T ((xn, xk), (xb, xs)) l[j + 1 + q] = true then [((xn, xk), l[j + 1 + q].1)] else []) ++ hitRow T ((xn, xk), (xb, xs)) (l.drop (j + 1 + (q + 1)))) := by
                    show _ = _
                    rw [List.drop_eq_getElem_cons hql]; rfl
                  generalize l[j + 1 + q] = Y at y0 y1 y2 y3 hY hst2
                  obtain ⟨⟨yn, yk⟩, yb, ys⟩ := Y
                  obtain ⟨m0, m1, t0, t1, t2, t3, t4⟩ := hY
                  simp only at m0 m1 t0 t1 t2 t3 t4 y0 y1 y2 y3
                  clear d0 d1 d2 d3 a1
                  have hbY : Below wo.heap.size wo (wr.alloc (.cells #[.int .i64 yn, .int .i64 yk, .int .i64 yb, .int .i64 ys] 93)) := hb5.alloc hs5 _
                  have hY0 := Holds.new wr #[.int .i64 yn, .int .i64 yk, .int .i64 yb, .int .i64 ys] 93
                  go_upto_region 24 with fail
                  have z0 := (hX5.alloc (.cells #[.int .i64 yn, .int .i64 yk, .int .i64 yb, .int .i64 ys] 93)).cell 2
                  have z1 := (hX5.alloc (.cells #[.int .i64 yn, .int .i64 yk, .int .i64 yb, .int .i64 ys] 93)).cell 3
                  have zlt := (hX5.alloc (.cells #[.int .i64 yn, .int .i64 yk, .int .i64 yb, .int .i64 ys] 93)).lt
                  have z2 := hY0.cell 2
                  have z3 := hY0.cell 3
                  have zlt2 := hY0.lt
                  have hown6 := hown5.alloc (.cells #[.int .i64 yn, .int .i64 yk, .int .i64 yb, .int .i64 ys] 93)
                  have hX6 := hX5.alloc (.cells #[.int .i64 yn, .int .i64 yk, .int .i64 yb, .int .i64 ys] 93)
                  have hY6 : Holds (wr.alloc (.cells #[.int .i64 yn, .int .i64 yk, .int .i64 yb, .int .i64 ys] 93)) wr.heap.size #[.int .i64 yn, .int .i64 yk, .int .i64 yb, .int .i64 ys] 93 := hY0
                  generalize hwY : wr.alloc (.cells #[.int .i64 yn, .int .i64 yk, .int .i64 yb, .int .i64 ys] 93) = wy at *
                  generalize wr.heap.size = By at *
                  clear hY0 hX5 hown5 hb5 hs5 x0 x1 x2 x3 xlt hwY
                  have hsY := hbY.size
                  go_cut [19, 20] (fun y z wx => ∃ g1 g2 : Nat, y = .pointer (some ⟨g1, 0, none⟩) ∧ z = .pointer (some ⟨g2, 0, none⟩) ∧ Holds wx g1 #[.int .i64 xb, .int .i64 xs] 56 ∧ Holds wx g2 #[.int .i64 yb, .int .i64 ys] 56 ∧ Below wy.heap.size wy wx)
                  case first =>
                    go_region
                    all_goals
                      go_wp2_with fail
                      go_meet
                      exact ⟨_, _, rfl, rfl, by first | exact ((Holds.new _ _ _).alloc _).drew | exact (Holds.newAt (by simp) _ _).drew, by first | exact ((Holds.new _ _ _).alloc _).drew | exact (Holds.newAt (by simp) _ _).drew, (((Below.refl _ _).alloc (Nat.le_refl _) _).alloc (by simp) _).drew⟩
                  case rest =>
                    obtain ⟨g1, g2, rfl, rfl, hg1, hg2, hbm⟩ := hcut
                    obtain ⟨wm, rfl⟩ : ∃ x : World, x = wc := ⟨_, rfl⟩
                    have u0 := hg1.cell 0
                    have u1 := hg1.cell 1
                    have v0 := hg2.cell 0
                    have v1 := hg2.cell 1
                    have ult := hg1.lt
                    have vlt := hg2.lt
                    have hbm2 := hbY.trans (hbm.mono hsY)
                    have hsm := hbm2.size
                    have hX7 := hX6.keeps (Keeps.of_fresh hbm (fun _ => False)) (fun e => e)
                    have hY7 := hY6.keeps (Keeps.of_fresh hbm (fun _ => False)) (fun e => e)
                    have hown7 := row_new hown6 hbm
                    have hB7 := hB1.keeps (Keeps.of_fresh (hb.trans (hbm2.mono hbs)) (fun _ => False)) (fun e => e)
                    have bx := hB7.cell 0
                    have blt := hB7.lt
                    have x0 := hX7.cell 0
                    have x1 := hX7.cell 1
                    have y0 := hY7.cell 0
                    have y1 := hY7.cell 1
                    have xlt := hX7.lt
                    have ylt := hY7.lt
                    clear z0 z1 z2 z3 zlt zlt2 hown6 hX6 hY6 hbY hsY hbm
                    have hhit : hitB T ((xn, xk), (xb, xs)) ((yn, yk), (yb, ys)) = (commonB (xb, xs) (yb, ys) && !aboveT T xn yn) := rfl
                    have hcom : commonB (xb, xs) (yb, ys) = decide (max xb yb < min (xb + xs) (yb + ys)) := rfl
                    by_cases hcm : max xb yb < min (xb + xs) (yb + ys)
                    · have hd : decide (max xb yb < min (xb + xs) (yb + ys)) = true := decide_eq_true hcm
                      rw [hcom, hd, Bool.true_and] at hhit
                      have hab := address_above R (.slice a T.length cap) T xn yn wm (by exact HT.out.new (hb2.trans ((hb.trans (hbm2.mono hbs)).mono hs2))) HC0.out n0 m0 m1
                      generalize aboveT T xn yn = ab at hab hhit
                      go_wp2_with fail
                      refine hab.mono ?_
                      rintro e w8 ⟨rfl, hb8⟩
                      clear hab
                      have hbm3 := hbm2.trans (hb8.mono hsm)
                      have hX8 := hX7.keeps (Keeps.of_fresh hb8 (fun _ => False)) (fun e => e)
                      have hY8 := hY7.keeps (Keeps.of_fresh hb8 (fun _ => False)) (fun e => e)
                      have hown8 := row_new hown7 hb8
                      have x0 := hX8.cell 0
                      have x1 := hX8.cell 1
                      have y0 := hY8.cell 0
                      have y1 := hY8.cell 1
                      have xlt := hX8.lt
                      have ylt := hY8.lt
                      have hs8 := hbm3.size
                      cases ab with
                      | true =>
                        have hF3 : Hid (hitsF T l = (o2 ++ hitRow T ((xn, xk), (xb, xs)) (l.drop (j + 1 + (q + 1)))) ++ hitsF T (l.drop (j + 1))) := by
                          show _ = _
                          rw [hG5.out, hst2.out, hhit, if_neg (by simp)]; rfl
                        go_wp2_with fail
                        go_roundg (gk - 1)
                        case measure => omega
                        case rel => exact ⟨q + 1, o2, by go_num, by omega, by omega, hown8, hF3, hX8, hbm3⟩
                      | false =>
                        have hF3 : Hid (hitsF T l = ((o2 ++ [((xn, xk), (yn, yk))]) ++ hitRow T ((xn, xk), (xb, xs)) (l.drop (j + 1 + (q + 1)))) ++ hitsF T (l.drop (j + 1))) := by
                          show _ = _
                          rw [hG5.out, hst2.out, hhit, if_pos (by simp)]; simp
                        obtain ⟨i0, hi0, hz0, hz1, hz2⟩ := info_parts infoOver
                        have hne := owns_ne_holds hown8 hX8 (by decide)
                        go_wp2_with (at_builtin; refine wpList_append_own _ rfl (.tmp 116) (.tmp 122) 43 rfl wo.heap.size 96 i0 (.agg #[.int .i64 0, .int .i64 0, .int .i64 0, .int .i64 0]) 4 32 Tryz.underlying43 hi0 hz0 hz1 hz2 rfl (by decide) (.slice oa5 o2.length oc5) o2.length (quadCells o2) rfl (by exact hown8.alloc _) ⟨w8.heap.size, 0, none⟩ 1 1 [.int .i64 xn, .int .i64 xk, .int .i64 yn, .int .i64 yk] rfl rfl ?g1 ?g2 ?g3 ?g4 ?g5 ?_)
                        case g1 => exact (row_built (w := w8) (base := 0) (n := 1) (size := 4) (cs := #[.int .i64 xn, .int .i64 xk, .int .i64 yn, .int .i64 yk]) rfl (Nat.zero_le _) rfl (by omega)).cells (g := w8.heap.size) rfl
                        case g2 => intro u hu; simp at hu; rcases hu with rfl | rfl | rfl | rfl <;> rfl
                        case g3 => unfold maxLen; omega
                        case g4 => omega
                        case g5 => simp; omega
                        intro v' w9 hown' hgrow _
                        have hb9 := (hbm3.alloc hs8 (.cells #[.int .i64 xn, .int .i64 xk, .int .i64 yn, .int .i64 yk] 96)).grown hgrow (by simp; omega) (fun q hq => (hown8.lt q hq).1)
                        have hX9 := (hX8.alloc (.cells #[.int .i64 xn, .int .i64 xk, .int .i64 yn, .int .i64 yk] 96)).grown hgrow hne
                        clear hgrow
                        go_wp2_with fail
                        go_roundg (gk - 1)
                        case measure => omega
                        case rel => exact ⟨q + 1, o2 ++ [((xn, xk), (yn, yk))], by go_num, by omega, by omega, by rw [quadCells_snoc, List.length_append]; exact hown', hF3, hX9, hb9⟩
                    · have hd : decide (max xb yb < min (xb + xs) (yb + ys)) = false := decide_eq_false hcm
                      rw [hcom, hd, Bool.false_and] at hhit
                      have hF3 : Hid (hitsF T l = (o2 ++ hitRow T ((xn, xk), (xb, xs)) (l.drop (j + 1 + (q + 1)))) ++ hitsF T (l.drop (j + 1))) := by
                        show _ = _
                        rw [hG5.out, hst2.out, hhit, if_neg (by simp)]; rfl
                      go_wp2_with fail
                      go_roundg (gk - 1)
                      case measure => omega
                      case rel => exact ⟨q + 1, o2, by go_num, by omega, by omega, hown7, hF3, hX7, hbm2⟩
                · have hF3 : Hid (hitsF T l = o2 ++ hitsF T (l.drop (j + 1))) := by
                    show _ = _
                    rw [hG5.out, List.drop_eq_nil_of_le (by omega : l.length ≤ j + 1 + q)]; simp [hitRow]
                  have hqI : ¬ (q : Int) < ((l.length - (j + 1) : Nat) : Int) := by omega
                  go_wp2_with fail
                  go_roundg (gp - 1)
                  case measure => omega
                  case rel => exact ⟨j + 1, o2, by go_num, by omega, by omega, hown5, hF3, hb5⟩
          · have hfin := Lib.hid (show overlapsT T = (out, 0) from by rw [HEND.out, hG2.out, List.drop_eq_nil_of_le (by omega)]; simp [hitsF])
            go_wp2_with fail
            go_ret2
            exact ⟨_, by rw [hfin.out]; rfl, by rw [hfin.out]; exact row_base hown2 (Nat.le_trans hs2 hbs), hb2.trans ((hb.mono hs2).trans (hc2'.mono (Nat.le_trans hs2 hbs)))⟩
  · have hcb : (c != 0) = true := by simpa using hc
    have hF := Lib.hid (show overlapsT T = ([], c) from by rw [hE.out, if_pos hc])
    clear hc hok hE
    go_enter Tryz.func16, Tryz.ntmps16
    go_wp2_with fail
    refine (HCK.out _ (by exact HT.out.new hb0)).mono ?_
    rintro e w1 ⟨rfl, hb1⟩
    go_wp2_with fail
    go_ret2
    exact ⟨.slice none 0 0, by rw [hF.out]; rfl, by rw [hF.out]; exact World.ownsRow_nil _ _ _ _, hb0.trans (hb1.mono (by simp))⟩
end Go.Proofs.YthkoaakicdhnpaaGreat

namespace Go.Proofs.YthkoaakicdhnpaaGreat
open Go.RowKit

theorem Tape.holds {B b : Nat} {w : World} (h : Tape B w b) : ∃ cs, Holds w b cs 67 := by
  obtain ⟨_, _, _, _, _, hH, _⟩ := h; exact ⟨_, hH⟩
theorem TreeRow.tape {B b base : Nat} {w w' : World} {v : Value} {T : List NodeT} (h : TreeRow w base v T) (ht : Tape B w b) (k : Keeps (· = b) w w') : TreeRow w' base v T := by
  obtain ⟨cs, hH⟩ := ht.holds
  exact h.other hH (by decide) (by decide) k
theorem Tape.new {B b : Nat} {w w' : World} (h : Tape B w b) (k : Below w.heap.size w w') : Tape B w' b := h.keeps (Keeps.of_fresh k (fun _ => False)) (fun _ e => e.elim)
def withT (T : List NodeT) (s name value : ByteArray) : List NodeT := if (setT T s name value).2 ≠ 0 then T else (setT T s name value).1
theorem TreeRow.slice {w : World} {base : Nat} {v : Value} {T : List NodeT} (h : TreeRow w base v T) : ∃ a c, v = .slice a T.length c := by
  obtain ⟨_, _, g2, _⟩ := h; exact row_slice g2

set_option maxHeartbeats 2000000 in
theorem grow_with (base : Nat) (v : Value) (T : List NodeT) (s name value : ByteArray) (w : World) (hT : TreeRow w base v T) (hbase : base ≤ w.heap.size) (hns : name.size ≤ 9223372036854775807) (hvs : value.size ≤ 9223372036854775807) :
    Calls Tryz.prog 28 #[.agg #[v], .string s, .string name, .string value] w fun e w' => ∃ v', e = .returned (.agg #[v']) ∧ TreeRow w' base v' (withT T s name value) ∧ Below w.heap.size w w' := by
  obtain ⟨a, cap, rfl⟩ := hT.slice
  have HT := Lib.hid hT; clear hT
  have hset := fun wx hx => ref3_Set (fun g => base ≤ g) (.slice a T.length cap) T s name value wx hx hns hvs
  have hwt := Lib.hid (show withT T s name value = if (setT T s name value).2 ≠ 0 then T else (setT T s name value).1 from rfl)
  unfold EditPost at hset
  have hb0 : Below w.heap.size w ((w.alloc (.cells #[.slice a T.length cap] 25)).alloc (.cells #[.slice none 0 0] 25)) := ((Below.refl _ _).alloc (Nat.le_refl _) _).alloc (by simp) _
  have hX0 := (Holds.new w #[.slice a T.length cap] 25).alloc (.cells #[.slice none 0 0] 25)
  have hZ0 := Holds.newAt (w := w.alloc (.cells #[.slice a T.length cap] 25)) (B := w.heap.size + 1) (by simp) #[.slice none 0 0] 25
  generalize setT T s name value = E at *
  obtain ⟨T', er⟩ := E
  simp only at hset hwt
  have HSET := Lib.hid hset
  clear hset
  by_cases h0 : er = 0
  · subst h0
    have hw2 := Lib.hid (show withT T s name value = T' from by rw [hwt.out, if_neg (by simp)])
    go_enter Tryz.func28, Tryz.ntmps28
    go_wp2_with fail
    refine (HSET.out _ (by exact (HT.out.new hb0).in)).mono ?_
    rintro e w1 ⟨sv, rfl, hR, hb1⟩
    obtain ⟨sa, sc, rfl⟩ := hR.slice
    have hZ1 := hZ0.keeps (Keeps.of_fresh hb1 (fun _ => False)) (fun e => e)
    have hb2 := hb0.trans (hb1.mono (by simp; omega))
    have hs2 := hb2.size
    have hR2 := ((hR.set hZ1 (by decide) (by decide) 0 (.slice sa T'.length sc)).base (show base ≤ _ by simp; omega)).new ((Below.refl _ _).alloc (Nat.le_refl _) (.cells #[.slice sa T'.length sc] 25))
    have hb3 := (hb2.setCell (p := ⟨w.heap.size + 1, 0, none⟩) (by simp) (.slice sa T'.length sc)).alloc (by simpa using hs2) (.cells #[.slice sa T'.length sc] 25)
    have q0 : ((w1.setCell ⟨w.heap.size + 1, 0, none⟩ (.slice sa T'.length sc)).alloc (.cells #[.slice sa T'.length sc] 25)).cell? ⟨w.heap.size + 1, 0, none⟩ = some (.slice sa T'.length sc) := ((hZ1.set 0 _).alloc _).cell 0
    have z0 := hZ1.cell 0
    have zf := hZ1.free 0
    have zl := hZ1.lt
    clear hb0 hX0 hZ0 hb1 hR
    go_wp2_with fail
    exact bodyPost_ret (v := .agg #[.slice sa T'.length sc]) (by simp [results, Tryz.results28, go_sem, q0]) rfl ⟨_, rfl, by rw [hw2.out]; exact hR2, hb3⟩
  · have hw2 := Lib.hid (show withT T s name value = T from by rw [hwt.out, if_pos h0])
    have h0' : (er != 0) = true := by simpa using h0
    clear h0
    go_enter Tryz.func28, Tryz.ntmps28
    go_wp2_with fail
    refine (HSET.out _ (by exact (HT.out.new hb0).in)).mono ?_
    rintro e w1 ⟨sv, rfl, hR, hb1⟩
    obtain ⟨sa, sc, rfl⟩ := hR.slice
    have hZ1 := hZ0.keeps (Keeps.of_fresh hb1 (fun _ => False)) (fun e => e)
    have hX1 := hX0.keeps (Keeps.of_fresh hb1 (fun _ => False)) (fun e => e)
    have hb2 := hb0.trans (hb1.mono (by simp; omega))
    have hs2 := hb2.size
    have hR2 := ((HT.out.new hb2).set hZ1 (by decide) (by decide) 0 (.slice a T.length cap)).new ((Below.refl _ _).alloc (Nat.le_refl _) (.cells #[.slice sa T'.length sc] 25))
    have hb3 := (hb2.setCell (p := ⟨w.heap.size + 1, 0, none⟩) (by simp) (.slice a T.length cap)).alloc (by simpa using hs2) (.cells #[.slice sa T'.length sc] 25)
    have q0 : ((w1.setCell ⟨w.heap.size + 1, 0, none⟩ (.slice a T.length cap)).alloc (.cells #[.slice sa T'.length sc] 25)).cell? ⟨w.heap.size + 1, 0, none⟩ = some (.slice a T.length cap) := ((hZ1.set 0 _).alloc _).cell 0
    have z0 := hZ1.cell 0
    have zf := hZ1.free 0
    have zl := hZ1.lt
    have x0 := hX1.cell 0
    have xl := hX1.lt
    clear hb0 hX0 hZ0 hb1 hR
    go_wp2_with fail
    exact bodyPost_ret (v := .agg #[.slice a T.length cap]) (by simp [results, Tryz.results28, go_sem, q0]) rfl ⟨_, rfl, by rw [hw2.out]; exact hR2, hb3⟩

set_option maxHeartbeats 1000000 in
theorem grow_wide (n cells : Int) (w : World) (h0 : 0 ≤ n) (h1 : n ≤ 4611686018427387903) (hc : cells = 2 ∨ n ≤ 4294967295) :
    Calls Tryz.prog 29 #[.int .i64 n, .int .i64 cells] w fun e w' => e = .returned (.string ⟨(growT (if cells = 2 then [n / 4294967296, n % 4294967296] else [n])).toArray⟩) ∧ Below w.heap.size w w' := by
  by_cases h2 : cells = 2
  · subst h2
    rw [if_pos rfl]
    have hand := and_cell n h0 h1
    have hbd := Lib.hid (show ∀ x ∈ [n / 4294967296, n % 4294967296], 0 ≤ x ∧ x ≤ 4294967295 from by intro x hx; simp at hx; rcases hx with rfl | rfl <;> omega)
    go_enter Tryz.func29, Tryz.ntmps29
    go_wp2_with fail
    refine (grow_Cells _ _ _ (list_two w _ _ _) (by exact hbd.out) (by simp)).mono ?_
    rintro e w1 ⟨rfl, hb⟩
    go_wp2_with fail
    go_ret
    exact ⟨rfl, ((Below.refl w.heap.size w).alloc (Nat.le_refl _) _).trans (hb.mono (by simp))⟩
  · have hcb : (cells == 2) = false := by simpa using h2
    rw [if_neg h2]
    have hn1 : n ≤ 4294967295 := by omega
    have hbd := Lib.hid (show ∀ x ∈ [n], 0 ≤ x ∧ x ≤ 4294967295 from by intro x hx; simp at hx; subst hx; omega)
    clear hc h2
    go_enter Tryz.func29, Tryz.ntmps29
    go_wp2_with fail
    refine (grow_Cells _ _ _ (list_one w _ _) (by exact hbd.out) (by simp)).mono ?_
    rintro e w1 ⟨rfl, hb⟩
    go_wp2_with fail
    go_ret
    exact ⟨rfl, ((Below.refl w.heap.size w).alloc (Nat.le_refl _) _).trans (hb.mono (by simp))⟩
end Go.Proofs.YthkoaakicdhnpaaGreat

namespace Go.Proofs.YthkoaakicdhnpaaGreat
open Go.RowKit

theorem over_len (T : List NodeT) : (overlapsT T).1.length ≤ 943718400 := by
  unfold overlapsT
  split
  · simp
  · rename_i h
    have hc := aCheck_ok (T := T) (by simpa using h)
    have hlen := (limits_len (check_limits hc)).2
    have h1 := hitsF_len T _ (foundT T) (Nat.le_refl _)
    have h2 := (foundT_ok T).1
    have h3 : (foundT T).length ≤ 30720 := by omega
    exact Nat.le_trans h1 (Nat.le_trans (Nat.mul_le_mul h3 h3) (by decide))

set_option maxRecDepth 100000 in
set_option maxHeartbeats 8000000 in
theorem ans_tree {Q : Exit → Act → World → Prop} (B b Lb i yc : Nat) (node index : Int) (ya : Option Addr) (Y : List NodeT) (w : World)
    (hT : Tape B w b) (hN : NodesIn (fun g => g ≠ b) w (.slice ya Y.length yc) Y) (hci : w.cell? ⟨Lb, i, none⟩ = some (.slice ya Y.length yc)) (hi4 : i < 4)
    {u0 u1 u4 u5 u6 u7 u8 u10 u11 u12 u13 u14 u15 u16 u17 u18 u19 u20 u21 u22 u23 u24 u25 u26 u27 u28 u29 u30 u31 u32 u33 u34 u35 u36 u37 u38 u39 u40 u41 u42 u43 u44 u45 u46 u47 u48 u49 u50 u51 u52 u53 u54 u55 u56 u57 u58 u59 u60 u61 u62 u63 u64 u65 u66 u67 u68 u69 u70 u71 u72 u73 u74 u75 u76 u77 u78 u79 u80 u81 u82 u83 u84 u85 u86 u88 u90 u91 u92 u93 u94 u95 u96 u97 u98 u99 u100 u101 u102 u103 u104 u105 u106 u107 u108 u109 u110 u111 u112 u113 u114 u115 u116 u117 u118 u119 u120 u121 u122 u123 u124 u125 u126 u127 u128 u129 u130 u131 u132 u133 u134 u135 u136 u137 u138 u139 u140 u141 u142 u143 u144 u145 u146 u147 u148 u149 u150 u151 u152 u153 u154 u155 u156 u157 u158 u159 u160 u161 u162 u163 u164 u165 u166 u167 u168 u169 u170 u171 u172 u173 u174 u175 u176 u177 u178 u179 u180 u181 u182 u183 u184 u185 u186 u187 u188 u189 u190 u191 u192 u193 u194 u195 u196 u197 u198 u199 u200 u201 u202 u203 u204 u205 u206 u207 u208 u209 u210 u211 u212 u213 u214 u215 u216 u217 u218 u219 u220 u221 u222 u223 u224 u225 u226 u227 u228 u229 u230 u231 u232 u233 : Value}
    (hQ : Hid (∀ (x8 x15 x16 x17 x18 x19 x20 x21 x22 x23 x25 x26 x27 x28 x29 x30 x31 x32 x33 x34 x35 x36 x37 x38 x39 x91 x92 x93 x94 x95 x96 x97 x98 x99 x100 x101 x102 x103 x104 x105 x106 x107 x108 x109 x110 x111 x112 x113 x114 x115 x116 x117 x118 x119 x120 x121 x122 x123 x124 x125 x126 x127 x128 x129 x130 x131 x132 x133 x134 x135 x136 x137 x138 x139 x140 x141 x142 x143 x144 x145 x146 x147 x148 x149 x150 x151 x152 x153 x154 x155 x156 x157 x158 x159 x160 x161 x162 x163 x164 x165 x166 x167 x168 x169 x170 x171 x172 x173 x174 x175 x176 x177 x178 x179 x180 x181 x182 x183 x184 x185 x186 x187 x188 x189 x190 x191 x192 x193 x194 x195 x196 x197 x198 x199 x200 x201 x202 x203 x204 x205 x206 x207 x208 x209 x210 x211 x212 x213 x214 x215 x216 x217 x218 x219 x220 x221 x222 x223 x224 x225 x226 x227 x228 x229 x230 x231 : Value) (wx : World), Tape B wx b ∧ Keeps (fun i => i = b) w wx → Q .normal ⟨#[u0, u1, .int .i64 node, .int .i64 index, u4, u5, u6, u7, x8, .pointer (some ⟨b, 0, none⟩), u10, u11, u12, u13, u14, x15, x16, x17, x18, x19, x20, x21, x22, x23, u24, x25, x26, x27, x28, x29, x30, x31, x32, x33, x34, x35, x36, x37, x38, x39, u40, u41, u42, u43, u44, u45, u46, u47, u48, u49, u50, u51, u52, u53, u54, u55, u56, u57, u58, u59, u60, u61, u62, u63, u64, u65, u66, u67, u68, u69, u70, u71, u72, u73, u74, u75, u76, u77, u78, u79, u80, u81, u82, u83, u84, u85, u86, .slice (some ⟨Lb, 0, none⟩) 4 4, u88, .int .i64 i, u90, x91, x92, x93, x94, x95, x96, x97, x98, x99, x100, x101, x102, x103, x104, x105, x106, x107, x108, x109, x110, x111, x112, x113, x114, x115, x116, x117, x118, x119, x120, x121, x122, x123, x124, x125, x126, x127, x128, x129, x130, x131, x132, x133, x134, x135, x136, x137, x138, x139, x140, x141, x142, x143, x144, x145, x146, x147, x148, x149, x150, x151, x152, x153, x154, x155, x156, x157, x158, x159, x160, x161, x162, x163, x164, x165, x166, x167, x168, x169, x170, x171, x172, x173, x174, x175, x176, x177, x178, x179, x180, x181, x182, x183, x184, x185, x186, x187, x188, x189, x190, x191, x192, x193, x194, x195, x196, x197, x198, x199, x200, x201, x202, x203, x204, x205, x206, x207, x208, x209, x210, x211, x212, x213, x214, x215, x216, x217, x218, x219, x220, x221, x222, x223, x224, x225, x226, x227, x228, x229, x230, x231, u232, u233], []⟩ wx)) :
    (ansBlk 1).wp Tryz.prog Q ⟨#[u0, u1, .int .i64 node, .int .i64 index, u4, u5, u6, u7, u8, .pointer (some ⟨b, 0, none⟩), u10, u11, u12, u13, u14, u15, u16, u17, u18, u19, u20, u21, u22, u23, u24, u25, u26, u27, u28, u29, u30, u31, u32, u33, u34, u35, u36, u37, u38, u39, u40, u41, u42, u43, u44, u45, u46, u47, u48, u49, u50, u51, u52, u53, u54, u55, u56, u57, u58, u59, u60, u61, u62, u63, u64, u65, u66, u67, u68, u69, u70, u71, u72, u73, u74, u75, u76, u77, u78, u79, u80, u81, u82, u83, u84, u85, u86, .slice (some ⟨Lb, 0, none⟩) 4 4, u88, .int .i64 i, u90, u91, u92, u93, u94, u95, u96, u97, u98, u99, u100, u101, u102, u103, u104, u105, u106, u107, u108, u109, u110, u111, u112, u113, u114, u115, u116, u117, u118, u119, u120, u121, u122, u123, u124, u125, u126, u127, u128, u129, u130, u131, u132, u133, u134, u135, u136, u137, u138, u139, u140, u141, u142, u143, u144, u145, u146, u147, u148, u149, u150, u151, u152, u153, u154, u155, u156, u157, u158, u159, u160, u161, u162, u163, u164, u165, u166, u167, u168, u169, u170, u171, u172, u173, u174, u175, u176, u177, u178, u179, u180, u181, u182, u183, u184, u185, u186, u187, u188, u189, u190, u191, u192, u193, u194, u195, u196, u197, u198, u199, u200, u201, u202, u203, u204, u205, u206, u207, u208, u209, u210, u211, u212, u213, u214, u215, u216, u217, u218, u219, u220, u221, u222, u223, u224, u225, u226, u227, u228, u229, u230, u231, u232, u233], []⟩ w := by
  simp only [ansBlk, blkOf, Tryz.f3, Option.getD_some, reduceIte, Nat.reduceEqDiff]
  have hi : (i : Int) < 4 := by omega
  have hbl := hT.lt
  have hlb := World.block_lt_of_cell? w _ hci
  have hv0 : Below w.heap.size w (w.alloc (.cells #[.slice ya Y.length yc] 25)) := (Below.refl w.heap.size w).alloc (Nat.le_refl _) _
  have hN0 := hN.new hv0
  have hY0 := Holds.new w #[.slice ya Y.length yc] 25
  have y0 := hY0.cell 0
  have yl := hY0.lt
  have k1 := Lib.hid (fun wx hx => address_Check (fun g => g ≠ b) (.slice ya Y.length yc) Y wx hx)
  have k2 := Lib.hid (fun wx hx => ref11_Check (fun g => g ≠ b) (.slice ya Y.length yc) Y wx hx)
  have k3 := fun wx hx => address_Overlaps (fun g => g ≠ b) (.slice ya Y.length yc) Y wx hx
  have k4 := fun wx hx => ref11_Overlaps (fun g => g ≠ b) (.slice ya Y.length yc) Y wx hx
  unfold OverPost at k3 k4
  have hol := over_len Y
  generalize aCheckT Y = C at *
  obtain ⟨q0, q1⟩ := C
  generalize overlapsT Y = D at *
  obtain ⟨ol, oe⟩ := D
  simp only at k1 k2 k3 k4 hol
  have K3 := Lib.hid k3
  have K4 := Lib.hid k4
  clear k3 k4
  go_wp2_with fail
  refine (k1.out _ (by exact hN0)).mono ?_
  rintro e v1 ⟨rfl, hk1⟩
  have hv1 := hv0.trans (hk1.mono (by simp))
  have hN1 := hN.new hv1
  have hY1 := hY0.keeps (Keeps.of_fresh hk1 (fun _ => False)) (fun e => e)
  clear y0 yl
  have y0 := hY1.cell 0
  have yl := hY1.lt
  go_wp2_with fail
  refine (k2.out _ (by exact hN1)).mono ?_
  rintro e v2 ⟨rfl, hk2⟩
  have hv2 := hv1.trans (hk2.mono hv1.size)
  have hN2 := hN.new hv2
  have hY2 := hY1.keeps (Keeps.of_fresh hk2 (fun _ => False)) (fun e => e)
  clear y0 yl
  have y0 := hY2.cell 0
  have yl := hY2.lt
  go_wp2_with fail
  refine (K3.out _ (by exact hN2)).mono ?_
  rintro e v3 ⟨p, rfl, hp3, hk3⟩
  obtain ⟨pa, pc, rfl⟩ := owns_slice hp3
  have hv3 := hv2.trans (hk3.mono hv2.size)
  have hN3 := hN.new hv3
  have hY3 := hY2.keeps (Keeps.of_fresh hk3 (fun _ => False)) (fun e => e)
  clear y0 yl
  have y0 := hY3.cell 0
  have yl := hY3.lt
  go_wp2_with fail
  refine (K4.out _ (by exact hN3)).mono ?_
  rintro e v4 ⟨q, rfl, hq4, hk4⟩
  obtain ⟨qa, qc, rfl⟩ := owns_slice hq4
  have hp4 := row_new hp3 hk4
  have hv4 := hv3.trans (hk4.mono hv3.size)
  have hN4 := hN.new hv4
  have hY4 := hY3.keeps (Keeps.of_fresh hk4 (fun _ => False)) (fun e => e)
  clear y0 yl
  have y0 := hY4.cell 0
  have yl := hY4.lt
  clear y0 yl
  go_wp2_with fail
  refine (same_Overlaps _ _ _ _ ol _ (by exact hp4) (by exact hq4) (by omega)).mono ?_
  rintro e v5 ⟨rfl, hk5⟩
  have hv5 := hv4.trans (hk5.mono hv4.size)
  have hY5 := hY4.keeps (Keeps.of_fresh hk5 (fun _ => False)) (fun e => e)
  have hT5 := hT.new hv5
  have hN5 := hN.new hv5
  have hK5 := Keeps.of_fresh hv5 (fun i => i = b)
  have hYb : w.heap.size ≠ b := by omega
  clear hN1 hN2 hN3 hN4 hY0 hY1 hY2 hY3 hY4 hk1 hk2 hk3 hk4 hk5 hv0 hv1 hv2 hv3 hv4 hp3 hp4 hq4 hci
  go_wp2_with fail
  refine (mk_Range B b (-1) 9 _ (by exact hT5) (by omega) (by omega) (by omega)).mono ?_
  rintro e v6 ⟨r1, rfl, _, _, hT6, hk6⟩
  have hN6 := hN5.keeps hk6 (fun _ h e => h e)
  have hY6 := hY5.keeps hk6 hYb
  have hK6 := hK5.trans hk6 (fun _ _ e => e)
  clear hT5 hN5 hY5 hK5 hk6
  go_wp2_with fail
  refine (mk_Range B b (-1) 2 _ (by exact hT6) (by omega) (by omega) (by omega)).mono ?_
  rintro e v7 ⟨r2, rfl, _, _, hT7, hk7⟩
  have hN7 := hN6.keeps hk7 (fun _ h e => h e)
  have hY7 := hY6.keeps hk7 hYb
  have hK7 := hK6.trans hk7 (fun _ _ e => e)
  clear hT6 hN6 hY6 hK6 hk7
  go_wp2_with fail
  refine (mk_Range B b 0 8 _ (by exact hT7) (by omega) (by omega) (by omega)).mono ?_
  rintro e v8 ⟨r3, rfl, _, _, hT8, hk8⟩
  have hN8 := hN7.keeps hk8 (fun _ h e => h e)
  have hY8 := hY7.keeps hk8 hYb
  have hK8 := hK7.trans hk8 (fun _ _ e => e)
  clear hT7 hN7 hY7 hK7 hk8
  have hbA : Below v8.heap.size v8 (v8.alloc (.cells #[.int .i64 node, .int .i64 index, .int .i64 r1, .int .i64 r2, .int .i64 r3, .int .i64 0] 47)) := (Below.refl v8.heap.size v8).alloc (Nat.le_refl _) _
  have hR : Holds (v8.alloc (.cells #[.int .i64 node, .int .i64 index, .int .i64 r1, .int .i64 r2, .int .i64 r3, .int .i64 0] 47)) v8.heap.size (([node, index, r1, r2, r3, 0] : List Int).map (Value.int .i64)).toArray 47 := Holds.new _ _ _
  have hN9 := hN8.new hbA
  have hY9 := hY8.keeps (Keeps.of_fresh hbA (fun _ => False)) (fun e => e)
  have hT9 := hT8.new hbA
  have hK9 := hK8.trans (Keeps.of_fresh hbA (fun i => i = b)) (fun _ _ e => e)
  clear hN8 hY8 hT8 hK8
  go_wp2_with fail
  obtain ⟨v9, hv9⟩ : ∃ x : World, x = v8.alloc (.cells #[.int .i64 node, .int .i64 index, .int .i64 r1, .int .i64 r2, .int .i64 r3, .int .i64 0] 47) := ⟨_, rfl⟩
  rw [← hv9] at hR hN9 hY9 hT9 hK9 ⊢
  clear hv9 hbA
  go_loopg [145] 3 (fun f x wr => ∃ j : Nat, x = .int .i64 j ∧ j ≤ 3 ∧ 3 ≤ j + f ∧ Below v9.heap.size v9 wr)
  case atStart => exact ⟨0, rfl, by omega, by omega, Below.refl _ _⟩
  case round =>
    obtain ⟨j, rfl, hj, hf, hb⟩ := hrel
    by_cases hlt : j < 3
    · have hjI : (j : Int) < 3 := by omega
      go_upto_block 3 with fail
      refine wp_code (c' := ansBlk 3) (by kernel_rfl) ?_
      refine ans_in (fun g => g ≠ b) w.heap.size v8.heap.size j yc ya Y [node, index, r1, r2, r3, 0] wr (hN9.new hb) (hY9.keeps (Keeps.of_fresh hb (fun _ => False)) (fun e => e)) (hR.keeps (Keeps.of_fresh hb (fun _ => False)) (fun e => e)) rfl hlt ?_
      refine Lib.hid ?_
      rintro x8 x25 x26 x27 x28 x29 x30 x31 x32 x33 x34 x35 x36 x37 x38 x39 x147 x148 x149 x150 x151 x152 x153 x154 x155 x156 x157 x158 x159 x160 x161 x162 x163 x164 x165 x166 x167 x168 x169 x170 x171 x172 x173 x174 x175 x176 x177 x178 x179 x180 x181 x182 x183 x184 x185 x186 x187 x188 x189 x190 x191 x192 x193 x194 x195 x196 x197 x198 x199 x200 x201 x202 x203 x204 x205 x206 x207 x208 x209 x210 x211 x212 x213 x214 x215 x216 x217 x218 x219 x220 x221 x222 x223 x224 x225 x226 x227 x228 x229 x230 wx hbx
      go_wp2_with fail
      go_roundg (gk - 1)
      case measure => omega
      case rel => exact ⟨j + 1, by go_num, by omega, by omega, hb.trans (hbx.mono hb.size)⟩
    · have hjI : ¬ (j : Int) < 3 := by omega
      go_wp2_with fail
      exact hQ.out _ _ _ _ _ _ _ _ _ _ _ _ _ _ _ _ _ _ _ _ _ _ _ _ _ _ _ _ _ _ _ _ _ _ _ _ _ _ _ _ _ _ _ _ _ _ _ _ _ _ _ _ _ _ _ _ _ _ _ _ _ _ _ _ _ _ _ _ _ _ _ _ _ _ _ _ _ _ _ _ _ _ _ _ _ _ _ _ _ _ _ _ _ _ _ _ _ _ _ _ _ _ _ _ _ _ _ _ _ _ _ _ _ _ _ _ _ _ _ _ _ _ _ _ _ _ _ _ _ _ _ _ _ _ _ _ _ _ _ _ _ _ _ _ _ _ _ _ _ _ _ _ _ _ _ _ _ _ _ _ _ _ _ _ _ _ _  ⟨hT9.new hb, hK9.trans (Keeps.of_fresh hb (fun i => i = b)) (fun _ _ e => e)⟩
end Go.Proofs.YthkoaakicdhnpaaGreat

namespace Go.Proofs.YthkoaakicdhnpaaGreat
open Go.RowKit

def lPath : List ByteArray := [⟨#[]⟩, ⟨#[47, 113]⟩, ⟨#[47, 47]⟩, ⟨#[97]⟩, ⟨#[47, 97, 47]⟩]
set_option maxHeartbeats 4000000 in
set_option maxRecDepth 100000 in
theorem grow_Path (B b base : Nat) (v : Value) (T : List NodeT) (w : World) (h : Tape B w b) (hT : TreeRow w base v T) (h1 : 0 < T.length) (h2 : T.length ≤ 1000) :
    Calls Tryz.prog 55 #[.pointer (some ⟨b, 0, none⟩), .agg #[v]] w fun e w' => ∃ s, e = .returned (.string s) ∧ Tape B w' b ∧ Keeps (· = b) w w' := by
  obtain ⟨a, cap, rfl⟩ := hT.slice
  have hlt := h.lt
  have HT := Lib.hid hT; clear hT
  have hb0 : Below w.heap.size w (w.alloc (.cells #[.slice a T.length cap] 25)) := (Below.refl _ _).alloc (Nat.le_refl _) _
  have hX0 := Holds.new w #[.slice a T.length cap] 25
  go_enter Tryz.func55, Tryz.ntmps55
  go_wp2_with fail
  refine (mk_N B b 30 _ (h.new hb0) (by omega) (by omega)).mono ?_
  rintro e w1 ⟨r, rfl, r0, r1, hT1, hK1⟩
  have hX1 := hX0.keeps hK1 (by omega)
  have hR1 := (HT.out.new hb0).tape (h.new hb0) hK1
  have hK : Keeps (· = b) w w1 := (Keeps.of_fresh hb0 (fun i => i = b)).trans hK1 (fun _ _ e => e)
  by_cases hr : r = 29
  · have hr' : (r == 29) = true := by simp [hr]
    clear hr
    go_wp2_with fail
    refine (mk_N B b 5 _ (hT1.new ((Below.refl _ _).alloc (Nat.le_refl _) _)) (by omega) (by omega)).mono ?_
    rintro e w2 ⟨q, rfl, q0, q1, hT2, hK2⟩
    obtain ⟨q, rfl⟩ := Int.eq_ofNat_of_zero_le q0
    have hlt1 := hT1.lt
    have hH := (Holds.new w1 (lPath.map Value.string).toArray 9).keeps hK2 (by omega)
    obtain ⟨s, hs1, _⟩ := pick_one lPath q (by have : lPath.length = 5 := rfl; omega)
    have hc : w2.cell? ⟨w1.heap.size, q, none⟩ = some (.string s) := (hH.cell q).trans (by simp [hs1])
    have hKf : Keeps (fun i => i = b) w w2 := (hK.alloc _).trans hK2 (fun _ _ e => e)
    go_wp2_with fail
    go_ret
    exact ⟨s, rfl, hT2, hKf⟩
  · have hr' : (r == 29) = false := by simpa using hr
    clear hr
    have x0 := hX1.cell 0
    have xl := hX1.lt
    have hxb : w.heap.size ≠ b := by omega
    have hT1d : Tape B w1.drew b := hT1.keeps ((Keeps.refl (fun _ => False) w1).drew) (fun _ e => e.elim)
    have hpth := Lib.hid (fun (wx : World) (node : Int) (hx : NodesIn (fun g => base ≤ g) wx (.slice a T.length cap) T) => ref3_Path (fun g => base ≤ g) (.slice a T.length cap) T node wx hx)
    have HR1 := Lib.hid hR1
    clear hR1
    go_wp2_with fail
    go_region_with (first
      | (go_at_call 8; refine (mk_N B b T.length _ (by exact hT1d) (by omega) (by omega)).mono ?_; rintro e w2 ⟨q, rfl, q0, q1, hT2, hK2⟩; have hK2' : Keeps (· = b) w1 w2 := ((Keeps.refl (fun i => i = b) w1).drew).trans hK2 (fun _ _ e => e); have hX2 := hX1.keeps hK2' hxb; have k0 := hX2.cell 0; have kl := hX2.lt; have hR2 := HR1.out.tape hT1 hK2')
      | (go_at_call 10; refine (hpth.out _ q (by exact hR2.in)).mono ?_; rintro e w3 ⟨rfl, hb3⟩; have hT3 := hT2.new hb3; have hKf := (hK.trans hK2' (fun _ _ e => e)).trans (Keeps.of_fresh hb3 (fun i => i = b)) (fun _ _ e => e)))
    all_goals
      go_wp2_with fail
      go_ret
      exact ⟨_, rfl, hT3, hKf⟩
end Go.Proofs.YthkoaakicdhnpaaGreat

namespace Go.Proofs.YthkoaakicdhnpaaGreat
open Go.RowKit

/-- What a step adds: nothing, or a node. -/
def Stepped (T T' : List NodeT) (er : Int) : Prop := er = 0 → ∃ s nm, (addT T s nm).2 = 0 ∧ T' = (addT T s nm).1
def StF (b base : Nat) (v : Value) (T : List NodeT) (sv : Value) (er : Int) (T' : List NodeT) (N : Nat) (j : Nat) (u : Value) (w : World) : Prop :=
  if j = 0 ∨ j = 2 then u = .agg #[v]
  else if j = 1 ∨ j = 4 then u = .pointer (some ⟨b, 0, none⟩)
  else if j = 3 then ∃ s, u = .string s
  else if j = 5 then ∃ s, u = .string s ∧ s ∈ lName
  else if j = 6 ∨ j = 7 then u = .tuple #[.agg #[sv], .int .i64 er] ∧ TreeRow w base sv T' ∧ Stepped T T' er
  else if j = 8 then u = .agg #[sv]
  else if j = 10 then u = .pointer (some ⟨N, 0, none⟩) ∧ N ≠ b ∧ ∃ x, Holds w N #[x] 25
  else if j = 11 then Holds w N #[sv] 25
  else u = .int .i64 er
def StS (B b base : Nat) (v : Value) (T : List NodeT) (X : Nat) (W w : World) : Prop := Tape B w b ∧ TreeRow w base v T ∧ Holds w X #[v] 25 ∧ Holds w (X + 1) #[.slice none 0 0] 25 ∧ Keeps (· = b) W w
theorem StF.keeps {B b base : Nat} {v : Value} {T : List NodeT} {sv : Value} {er : Int} {T' : List NodeT} {N j : Nat} {u : Value} {w w' : World} (h : StF b base v T sv er T' N j u w) (hT : Tape B w b) (k : Keeps (· = b) w w') (hN : N ≠ b) : StF b base v T sv er T' N j u w' := by
  unfold StF at *
  split at h
  · rename_i hc; rw [if_pos hc]; exact h
  · rename_i h1; rw [if_neg h1]
    split at h
    · rename_i hc; rw [if_pos hc]; exact h
    · rename_i h2; rw [if_neg h2]
      split at h
      · rename_i hc; rw [if_pos hc]; exact h
      · rename_i h3; rw [if_neg h3]
        split at h
        · rename_i hc; rw [if_pos hc]; exact h
        · rename_i h4; rw [if_neg h4]
          split at h
          · rename_i hc; rw [if_pos hc]; exact ⟨h.1, h.2.1.tape hT k, h.2.2⟩
          · rename_i h5; rw [if_neg h5]
            split at h
            · rename_i hc; rw [if_pos hc]; exact h
            · rename_i h6; rw [if_neg h6]
              split at h
              · rename_i hc; rw [if_pos hc]
                obtain ⟨e, e2, x, hH⟩ := h
                exact ⟨e, e2, x, hH.keeps k e2⟩
              · rename_i h7; rw [if_neg h7]
                split at h
                · rename_i hc; rw [if_pos hc]; exact Holds.keeps h k hN
                · rename_i h8; rw [if_neg h8]; exact h

theorem StS.keeps {B b base : Nat} {v : Value} {T : List NodeT} {X : Nat} {W w w' : World} (h : StS B b base v T X W w) (h1 : X ≠ b) (h2 : X + 1 ≠ b) (k : Keeps (· = b) w w') : Tape B w' b → StS B b base v T X W w' := fun ht =>
  ⟨ht, h.2.1.tape h.1 k, h.2.2.1.keeps k h1, h.2.2.2.1.keeps k h2, h.2.2.2.2.trans k (fun _ _ e => e)⟩
theorem lName_sz : ∀ s ∈ lName, s.size ≤ 20 := by decide
theorem StF.ghost {b base : Nat} {v : Value} {T : List NodeT} {sv : Value} {er : Int} {T' : List NodeT} {N j : Nat} {u : Value} {w : World} {sv2 : Value} {er2 : Int} {T2 : List NodeT} (h : StF b base v T sv er T' N j u w) (hj : j < 6 ∨ j = 10) : StF b base v T sv2 er2 T2 N j u w := by
  rcases (show j = 0 ∨ j = 1 ∨ j = 2 ∨ j = 3 ∨ j = 4 ∨ j = 5 ∨ j = 10 from by omega) with rfl | rfl | rfl | rfl | rfl | rfl | rfl <;> exact h
theorem StF.ghostN {b base : Nat} {v : Value} {T : List NodeT} {sv : Value} {er : Int} {T' : List NodeT} {N j : Nat} {u : Value} {w : World} {N2 : Nat} (h : StF b base v T sv er T' N j u w) (hj : j < 13) (h1 : j ≠ 10) (h2 : j ≠ 11) : StF b base v T sv er T' N2 j u w := by
  rcases (show j = 0 ∨ j = 1 ∨ j = 2 ∨ j = 3 ∨ j = 4 ∨ j = 5 ∨ j = 6 ∨ j = 7 ∨ j = 8 ∨ j = 9 ∨ j = 12 from by omega) with rfl | rfl | rfl | rfl | rfl | rfl | rfl | rfl | rfl | rfl | rfl <;> exact h
theorem StF.store {b base : Nat} {v : Value} {T : List NodeT} {sv : Value} {er : Int} {T' : List NodeT} {N j : Nat} {u x : Value} {w : World} (h : StF b base v T sv er T' N j u w) (hH : Holds w N #[x] 25) : StF b base v T sv er T' N j u (w.setCell ⟨N, 0, none⟩ sv) := by
  unfold StF at *
  split at h
  · rename_i hc; rw [if_pos hc]; exact h
  · rename_i h1; rw [if_neg h1]
    split at h
    · rename_i hc; rw [if_pos hc]; exact h
    · rename_i h2; rw [if_neg h2]
      split at h
      · rename_i hc; rw [if_pos hc]; exact h
      · rename_i h3; rw [if_neg h3]
        split at h
        · rename_i hc; rw [if_pos hc]; exact h
        · rename_i h4; rw [if_neg h4]
          split at h
          · rename_i hc; rw [if_pos hc]; exact ⟨h.1, h.2.1.set hH (by decide) (by decide) 0 sv, h.2.2⟩
          · rename_i h5; rw [if_neg h5]
            split at h
            · rename_i hc; rw [if_pos hc]; exact h
            · rename_i h6; rw [if_neg h6]
              split at h
              · rename_i hc; rw [if_pos hc]
                exact ⟨h.1, h.2.1, _, hH.set 0 sv⟩
              · rename_i h7; rw [if_neg h7]
                split at h
                · rename_i hc; rw [if_pos hc]; exact hH.set 0 sv
                · rename_i h8; rw [if_neg h8]; exact h
theorem StS.store {B b base : Nat} {v : Value} {T : List NodeT} {X N : Nat} {x sv : Value} {W w : World} (h : StS B b base v T X W w) (hH : Holds w N #[x] 25) (h1 : X + 2 ≤ N) (hX : X = W.heap.size) (hb : b < X) (hB : B ≤ X) : StS B b base v T X W (w.setCell ⟨N, 0, none⟩ sv) := by
  have k : Keeps (· = N) w (w.setCell ⟨N, 0, none⟩ sv) := (Keeps.refl (· = N) w).setCell (p := ⟨N, 0, none⟩) (Or.inr rfl) sv
  refine ⟨h.1.keeps k (fun i e => by subst e; omega), h.2.1.set hH (by decide) (by decide) 0 sv, h.2.2.1.keeps k (by omega), h.2.2.2.1.keeps k (by omega), h.2.2.2.2.trans k (fun i hi e => by omega)⟩
theorem StS.fin {B b base : Nat} {v : Value} {T : List NodeT} {X : Nat} {W w : World} (h : StS B b base v T X W w) (hX : X = W.heap.size) (hb : b < X) (hB : B ≤ X) (y : Value) :
    Tape B (w.setCell ⟨X + 1, 0, none⟩ y) b ∧ Keeps (· = b) W (w.setCell ⟨X + 1, 0, none⟩ y) ∧ Holds (w.setCell ⟨X + 1, 0, none⟩ y) (X + 1) #[y] 25 ∧ ∀ v' T', TreeRow w base v' T' → TreeRow (w.setCell ⟨X + 1, 0, none⟩ y) base v' T' := by
  have k : Keeps (· = X + 1) w (w.setCell ⟨X + 1, 0, none⟩ y) := (Keeps.refl (· = X + 1) w).setCell (p := ⟨X + 1, 0, none⟩) (Or.inr rfl) y
  exact ⟨h.1.keeps k (fun i e => by subst e; omega), h.2.2.2.2.trans k (fun i hi e => by omega), h.2.2.2.1.set 0 y, fun v' T' hr => hr.set h.2.2.2.1 (by decide) (by decide) 0 y⟩
set_option maxHeartbeats 4000000 in
set_option maxRecDepth 100000 in
theorem grow_Step (B b base : Nat) (v : Value) (T : List NodeT) (w : World) (h : Tape B w b) (hT : TreeRow w base v T) (h1 : 0 < T.length) (h2 : T.length ≤ 1000) (hbase : base ≤ w.heap.size) :
    Calls Tryz.prog 27 #[.pointer (some ⟨b, 0, none⟩), .agg #[v]] w fun e w' => ∃ v' T', e = .returned (.agg #[v']) ∧ TreeRow w' base v' T' ∧ (T' = T ∨ Stepped T T' 0) ∧ Tape B w' b ∧ Keeps (· = b) w w' := by
  obtain ⟨a, cap, rfl⟩ := hT.slice
  have hlt := h.lt
  have hBw : B ≤ w.heap.size := Nat.le_trans h.1 (Nat.le_of_lt hlt)
  have hb0 : Below w.heap.size w ((w.alloc (.cells #[.slice a T.length cap] 25)).alloc (.cells #[.slice none 0 0] 25)) := ((Below.refl _ _).alloc (Nat.le_refl _) _).alloc (by simp) _
  have hX0 := (Holds.new w #[.slice a T.length cap] 25).alloc (.cells #[.slice none 0 0] 25)
  have hZ0 := Holds.newAt (w := w.alloc (.cells #[.slice a T.length cap] 25)) (B := w.heap.size + 1) (by simp) #[.slice none 0 0] 25
  have hR0 := hT.new hb0
  have hT0 := h.new hb0
  have hXb : w.heap.size ≠ b := by omega
  have hXb1 : w.heap.size + 1 ≠ b := by omega
  have HR := Lib.hid hR0
  clear hT hR0
  go_enter Tryz.func27, Tryz.ntmps27
  go_wp2_with fail
  have hS0 : StS B b base (.slice a T.length cap) T w.heap.size w ((w.alloc (.cells #[.slice a T.length cap] 25)).alloc (.cells #[.slice none 0 0] 25)).drew :=
    ⟨hT0.keeps ((Keeps.refl (fun _ => False) _).drew) (fun _ e => e.elim), HR.out, hX0, hZ0, (Keeps.of_fresh hb0 (fun i => i = b)).drew⟩
  generalize (w.alloc (.cells #[.slice a T.length cap] 25)).alloc (.cells #[.slice none 0 0] 25) = W0 at *
  refine wp_region_any (by kernel_rfl) ?_
  refine wpAny_inv2 (fun l c wx => ∃ sv er T' N, RInv _ _ (StF b base (.slice a T.length cap) T sv er T' N) (StS B b base (.slice a T.length cap) T w.heap.size w) l c wx ∧ w.heap.size + 2 ≤ N) (by kernel_rfl) ?hend ?hstep _ _ _ _ (by rfl) (by decide) ⟨.slice none 0 0, 0, [], w.heap.size + 2, RInv.start hS0, by omega⟩
  case hstep =>
    intro l c wx hI i o ho hl hall K' hK'
    obtain ⟨sv, er, T', N, hI, hNq⟩ := hI
    have hNb : N ≠ b := by omega
    have hi13 : i < 13 := (Array.getElem?_eq_some_iff.1 ho).1
    have hSx := hI.2.1
    have HSX := Lib.hid hSx
    have hX := hSx.2.2.1.cell 0
    have hXl := hSx.2.2.1.lt
    have hic : i = 0 ∨ i = 1 ∨ i = 2 ∨ i = 3 ∨ i = 4 ∨ i = 5 ∨ i = 6 ∨ i = 7 ∨ i = 8 ∨ i = 9 ∨ i = 10 ∨ i = 11 ∨ i = 12 := by omega
    clear hSx
    rcases hic with rfl | rfl | rfl | rfl | rfl | rfl | rfl | rfl | rfl | rfl | rfl | rfl | rfl
    all_goals cases ho
    all_goals have s3 := hI.slot 3 (by kernel_rfl)
    all_goals have s0 := hI.slot 0 (by kernel_rfl)
    all_goals simp only [Array.getD_eq_getD_getElem?] at s3 s0
    · go_simp
      exact hK' _ _ ⟨sv, er, T', N, hI.step (by kernel_rfl) 0 8 rfl (Nat.le_of_ble_eq_true (by kernel_rfl)) _ _ rfl hall HSX.out (fun _ _ h => h) rfl, hNq⟩
    · go_simp
      exact hK' _ _ ⟨sv, er, T', N, hI.step (by kernel_rfl) 1 9 rfl (Nat.le_of_ble_eq_true (by kernel_rfl)) _ _ rfl hall HSX.out (fun _ _ h => h) rfl, hNq⟩
    · go_simp
      exact hK' _ _ ⟨sv, er, T', N, hI.step (by kernel_rfl) 2 10 rfl (Nat.le_of_ble_eq_true (by kernel_rfl)) _ _ rfl hall HSX.out (fun _ _ h => h) rfl, hNq⟩
    · have e1 : c.tmps.getD 9 undef = .pointer (some ⟨b, 0, none⟩) := hI.fact 1 9 rfl (listed hall 1 (by kernel_rfl))
      simp only [Array.getD_eq_getD_getElem?] at e1
      have e2 : c.tmps.getD 10 undef = .agg #[.slice a T.length cap] := hI.fact 2 10 rfl (listed hall 2 (by kernel_rfl))
      simp only [Array.getD_eq_getD_getElem?] at e2
      go_simp
      refine (grow_Path B b base _ T wx HSX.out.1 HSX.out.2.1 h1 h2).mono ?_
      rintro e w2 ⟨s, rfl, ht2, k2⟩
      go_simp
      have hS2 := StS.keeps HSX.out hXb hXb1 k2 ht2
      exact hK' _ _ ⟨sv, er, T', N, hI.step (by kernel_rfl) 3 11 rfl (Nat.le_of_ble_eq_true (by kernel_rfl)) _ _ rfl hall hS2 (fun _ _ h => StF.keeps h HSX.out.1 k2 hNb) ⟨s, rfl⟩, hNq⟩
    · go_simp
      exact hK' _ _ ⟨sv, er, T', N, hI.step (by kernel_rfl) 4 12 rfl (Nat.le_of_ble_eq_true (by kernel_rfl)) _ _ rfl hall HSX.out (fun _ _ h => h) rfl, hNq⟩
    · have e4 : c.tmps.getD 12 undef = .pointer (some ⟨b, 0, none⟩) := hI.fact 4 12 rfl (listed hall 4 (by kernel_rfl))
      simp only [Array.getD_eq_getD_getElem?] at e4
      go_simp
      refine (mk_Name B b wx HSX.out.1).mono ?_
      rintro e w2 ⟨s, rfl, hs, ht2, k2⟩
      go_simp
      have hS2 := StS.keeps HSX.out hXb hXb1 k2 ht2
      exact hK' _ _ ⟨sv, er, T', N, hI.step (by kernel_rfl) 5 13 rfl (Nat.le_of_ble_eq_true (by kernel_rfl)) _ _ rfl hall hS2 (fun _ _ h => StF.keeps h HSX.out.1 k2 hNb) ⟨s, rfl, hs⟩, hNq⟩
    · have e0 : c.tmps.getD 8 undef = .agg #[.slice a T.length cap] := hI.fact 0 8 rfl (listed hall 0 (by kernel_rfl))
      simp only [Array.getD_eq_getD_getElem?] at e0
      obtain ⟨s, e3⟩ : ∃ s, c.tmps.getD 11 undef = .string s := hI.fact 3 11 rfl (listed hall 3 (by kernel_rfl))
      simp only [Array.getD_eq_getD_getElem?] at e3
      obtain ⟨nm, e5, hnm⟩ : ∃ s, c.tmps.getD 13 undef = .string s ∧ s ∈ lName := hI.fact 5 13 rfl (listed hall 5 (by kernel_rfl))
      simp only [Array.getD_eq_getD_getElem?] at e5
      have hnz : nm.size ≤ 9223372036854775807 := by have := lName_sz nm hnm; omega
      go_simp
      refine (ref3_Add _ _ T s nm wx HSX.out.2.1.in hnz).mono ?_
      rintro e w2 ⟨v2, rfl, hr2, hb2⟩
      go_simp
      have k2 := Keeps.of_fresh hb2 (fun i => i = b)
      have hS2 := StS.keeps HSX.out hXb hXb1 k2 (HSX.out.1.new hb2)
      have hr3 := hr2.base (Nat.le_trans hbase HSX.out.2.2.2.2.size)
      have hst : Stepped T (addT T s nm).1 (addT T s nm).2 := fun e => ⟨s, nm, e, rfl⟩
      have u7 := hI.2.2.1.2.unlisted hl (j := 7) (by kernel_rfl)
      have u8 := hI.2.2.1.2.unlisted u7 (j := 8) (by kernel_rfl)
      have u9 := hI.2.2.1.2.unlisted u7 (j := 9) (by kernel_rfl)
      have u11 := hI.2.2.1.2.unlisted u8 (j := 11) (by kernel_rfl)
      have u12 := hI.2.2.1.2.unlisted u9 (j := 12) (by kernel_rfl)
      have hJ := hI.other (F' := StF b base (.slice a T.length cap) T v2 (addT T s nm).2 (addT T s nm).1 N) (fun j hj u hF => hF.ghost (by
        have q1 : j < 13 := hI.lt hj
        have q2 := yes_no hj hl
        have q3 := yes_no hj u7
        have q4 := yes_no hj u8
        have q5 := yes_no hj u9
        have q6 := yes_no hj u11
        have q7 := yes_no hj u12
        omega))
      exact hK' _ _ ⟨v2, (addT T s nm).2, (addT T s nm).1, N, hJ.step (by kernel_rfl) 6 14 rfl (Nat.le_of_ble_eq_true (by kernel_rfl)) _ _ rfl hall hS2 (fun _ _ h => StF.keeps h HSX.out.1 k2 hNb) ⟨rfl, hr3, hst⟩, hNq⟩
    · obtain ⟨e6, hr6, hs6⟩ : c.tmps.getD 14 undef = .tuple #[.agg #[sv], .int .i64 er] ∧ TreeRow wx base sv T' ∧ Stepped T T' er := hI.fact 6 14 rfl (listed hall 6 (by kernel_rfl))
      simp only [Array.getD_eq_getD_getElem?] at e6
      go_simp
      exact hK' _ _ ⟨sv, er, T', N, hI.step (by kernel_rfl) 7 7 rfl (Nat.le_of_ble_eq_true (by kernel_rfl)) _ _ rfl hall HSX.out (fun _ _ h => h) ⟨rfl, hr6, hs6⟩, hNq⟩
    · obtain ⟨e7, hr7, hs7⟩ : c.tmps.getD 7 undef = .tuple #[.agg #[sv], .int .i64 er] ∧ TreeRow wx base sv T' ∧ Stepped T T' er := hI.fact 7 7 rfl (listed hall 7 (by kernel_rfl))
      simp only [Array.getD_eq_getD_getElem?] at e7
      go_simp
      exact hK' _ _ ⟨sv, er, T', N, hI.step (by kernel_rfl) 8 15 rfl (Nat.le_of_ble_eq_true (by kernel_rfl)) _ _ rfl hall HSX.out (fun _ _ h => h) rfl, hNq⟩
    · obtain ⟨e7, hr7, hs7⟩ : c.tmps.getD 7 undef = .tuple #[.agg #[sv], .int .i64 er] ∧ TreeRow wx base sv T' ∧ Stepped T T' er := hI.fact 7 7 rfl (listed hall 7 (by kernel_rfl))
      simp only [Array.getD_eq_getD_getElem?] at e7
      go_simp
      exact hK' _ _ ⟨sv, er, T', N, hI.step (by kernel_rfl) 9 16 rfl (Nat.le_of_ble_eq_true (by kernel_rfl)) _ _ rfl hall HSX.out (fun _ _ h => h) rfl, hNq⟩
    · go_simp
      have hb2 : Below wx.heap.size wx (wx.alloc (.cells #[.slice none 0 0] 25)) := (Below.refl _ _).alloc (Nat.le_refl _) _
      have k2 := Keeps.of_fresh hb2 (fun i => i = b)
      have hS2 := StS.keeps HSX.out hXb hXb1 k2 (HSX.out.1.new hb2)
      have u11 := hI.2.2.1.2.unlisted hl (j := 11) (by kernel_rfl)
      have hNn : wx.heap.size ≠ b := by have := HSX.out.1.lt; omega
      have hNm : w.heap.size + 2 ≤ wx.heap.size := HSX.out.2.2.2.1.lt
      have hJ := hI.other (F' := StF b base (.slice a T.length cap) T sv er T' wx.heap.size) (fun j hj u hF => hF.ghostN (hI.lt hj) (yes_no hj hl) (yes_no hj u11))
      exact hK' _ _ ⟨sv, er, T', wx.heap.size, hJ.step (by kernel_rfl) 10 5 rfl (Nat.le_of_ble_eq_true (by kernel_rfl)) _ _ rfl hall hS2 (fun _ _ h => StF.keeps h HSX.out.1 k2 hNn) ⟨rfl, hNn, _, Holds.new _ _ _⟩, hNm⟩
    · obtain ⟨e10, _, x, hHN⟩ : c.tmps.getD 5 undef = .pointer (some ⟨N, 0, none⟩) ∧ N ≠ b ∧ ∃ x, Holds wx N #[x] 25 := hI.fact 10 5 rfl (listed hall 10 (by kernel_rfl))
      simp only [Array.getD_eq_getD_getElem?] at e10
      have e8 : c.tmps.getD 15 undef = .agg #[sv] := hI.fact 8 15 rfl (listed hall 8 (by kernel_rfl))
      simp only [Array.getD_eq_getD_getElem?] at e8
      obtain ⟨e7, hr7, hs7⟩ : c.tmps.getD 7 undef = .tuple #[.agg #[sv], .int .i64 er] ∧ TreeRow wx base sv T' ∧ Stepped T T' er := hI.fact 7 7 rfl (listed hall 7 (by kernel_rfl))
      obtain ⟨a2, c2, rfl⟩ := hr7.slice
      have n0 : wx.cell? ⟨N, 0, none⟩ = some x := hHN.cell 0
      have n1 : wx.frozen? ⟨N, 0, none⟩ = false := hHN.free 0
      go_simp
      exact hK' _ _ ⟨.slice a2 T'.length c2, er, T', N, hI.stepN 11 rfl _ rfl hall (HSX.out.store hHN hNq rfl hlt hBw) (fun _ _ h => h.store hHN) (hHN.set 0 _), hNq⟩
    · have e9 : c.tmps.getD 16 undef = .int .i64 er := hI.fact 9 16 rfl (listed hall 9 (by kernel_rfl))
      simp only [Array.getD_eq_getD_getElem?] at e9
      go_simp
      exact hK' _ _ ⟨sv, er, T', N, hI.step (by kernel_rfl) 12 6 rfl (Nat.le_of_ble_eq_true (by kernel_rfl)) _ _ rfl hall HSX.out (fun _ _ h => h) rfl, hNq⟩
  case hend =>
    rintro l c wx ⟨sv, er, T', N, hI, hNb⟩ hl
    obtain ⟨e10, _, x, hHN⟩ : c.tmps.getD 5 undef = .pointer (some ⟨N, 0, none⟩) ∧ N ≠ b ∧ ∃ x, Holds wx N #[x] 25 := hI.fact 10 5 rfl (hl 10 (by decide))
    have hH : Holds wx N #[sv] 25 := hI.2.2.2 11 (by decide) (hl 11 (by decide))
    obtain ⟨e7, hr7, hs7⟩ : c.tmps.getD 7 undef = .tuple #[.agg #[sv], .int .i64 er] ∧ TreeRow wx base sv T' ∧ Stepped T T' er := hI.fact 7 7 rfl (hl 7 (by decide))
    have e12 : c.tmps.getD 6 undef = .int .i64 er := hI.fact 12 6 rfl (hl 12 (by decide))
    have s0 := hI.slot 0 (by kernel_rfl)
    have s1 := hI.slot 1 (by kernel_rfl)
    have s3 := hI.slot 3 (by kernel_rfl)
    have s4 := hI.slot 4 (by kernel_rfl)
    have hsz : c.tmps.size = 21 := hI.1.1
    have hdf := hI.1.2.1
    have hS := hI.2.1
    obtain ⟨a2, c2, rfl⟩ := hr7.slice
    have hX := hS.2.2.1.cell 0
    have hZ := hS.2.2.2.1.cell 0
    have hN0 := hH.cell 0
    obtain ⟨ct, cd⟩ := c
    have hfr : ct = #[ct.getD 0 undef, ct.getD 1 undef, ct.getD 2 undef, ct.getD 3 undef, ct.getD 4 undef, ct.getD 5 undef, ct.getD 6 undef, ct.getD 7 undef, ct.getD 8 undef, ct.getD 9 undef, ct.getD 10 undef, ct.getD 11 undef, ct.getD 12 undef, ct.getD 13 undef, ct.getD 14 undef, ct.getD 15 undef, ct.getD 16 undef, ct.getD 17 undef, ct.getD 18 undef, ct.getD 19 undef, ct.getD 20 undef] := frame_list ct 21 hsz
    simp only at s0 s1 s3 s4 e10 e12 hdf
    rw [s0, s1, s3, s4, e10, e12] at hfr
    clear e7 hsz s0 s1 s3 s4 e10 e12 hI
    generalize ct.getD 2 undef = u2 at hfr
    generalize ct.getD 7 undef = u7 at hfr
    generalize ct.getD 8 undef = u8 at hfr
    generalize ct.getD 9 undef = u9 at hfr
    generalize ct.getD 10 undef = u10 at hfr
    generalize ct.getD 11 undef = u11 at hfr
    generalize ct.getD 12 undef = u12 at hfr
    generalize ct.getD 13 undef = u13 at hfr
    generalize ct.getD 14 undef = u14 at hfr
    generalize ct.getD 15 undef = u15 at hfr
    generalize ct.getD 16 undef = u16 at hfr
    generalize ct.getD 17 undef = u17 at hfr
    generalize ct.getD 18 undef = u18 at hfr
    generalize ct.getD 19 undef = u19 at hfr
    generalize ct.getD 20 undef = u20 at hfr
    subst hfr
    have hZf := hS.2.2.2.1.free 0
    by_cases he : er = 0
    · have hne : (er != 0) = false := by simpa using he
      subst he
      obtain ⟨f1, f2, f3, f4⟩ := hS.fin rfl hlt hBw (.slice a2 T'.length c2)
      go_simp
      go_wp2_with fail
      have q0 := f3.cell 0
      exact bodyPost_ret (v := .agg #[.slice a2 T'.length c2]) (by simp [results, Tryz.results27, go_sem, q0]) rfl ⟨_, _, rfl, f4 _ _ hr7, Or.inr hs7, f1, f2⟩
    · have hne : (er != 0) = true := by simpa using he
      obtain ⟨f1, f2, f3, f4⟩ := hS.fin rfl hlt hBw (.slice a T.length cap)
      have hrT := hS.2.1
      go_simp
      go_wp2_with fail
      have q0 := f3.cell 0
      exact bodyPost_ret (v := .agg #[.slice a T.length cap]) (by simp [results, Tryz.results27, go_sem, q0]) rfl ⟨_, _, rfl, f4 _ _ hrT, Or.inl rfl, f1, f2⟩
end Go.Proofs.YthkoaakicdhnpaaGreat

namespace Go.Proofs.YthkoaakicdhnpaaGreat
open Go.RowKit

noncomputable def busOps (n : Nat) : Array Oper := (regOps (Tryz.f7.body.getD .skip) n).getD #[]
theorem bus14 : inRow2 .any (busOps 14) = true := by kernel_rfl
theorem bus14a : apartB (busOps 14) = true := by kernel_rfl
theorem bus14n : (busOps 14).size = 10 := by kernel_rfl

/-- A tree as it is built here: well shaped, with few properties at each node. -/
def ShapeB (T : List NodeT) : Prop := 0 < T.length ∧ Shape T ∧ ∀ n ∈ T, n.props.length ≤ 24
theorem limits_props {T : List NodeT} (h : limitsT T = true) : ∀ n ∈ T, n.props.length ≤ 24 := by
  intro n hn
  unfold limitsT at h
  simp only [Bool.and_eq_true, List.all_eq_true] at h
  have := h.2 n hn
  unfold fitB at this
  simp only [Bool.and_eq_true, decide_eq_true_eq] at this
  exact this.1
theorem shapeB_set {T : List NodeT} (h : ShapeB T) (s name value : ByteArray) (he : (setT T s name value).2 = 0) : ShapeB (setT T s name value).1 ∧ (setT T s name value).1.length = T.length := by
  obtain ⟨h1, h2⟩ := shape_set h.2.1 s name value he
  refine ⟨⟨h1.1, h1, ?_⟩, h2⟩
  unfold setT at he ⊢
  split at he
  · rename_i hb; exact absurd he hb
  · rename_i hb
    rw [if_neg hb]
    split at he
    · simp at he
    · rename_i hb2
      rw [if_neg hb2]
      split at he
      · simp at he
      · rename_i hb3
        rw [if_neg hb3]
        exact limits_props (by simpa using hb3)
theorem props_le {T : List NodeT} {m : Nat} (h : ∀ n ∈ T, n.props.length ≤ m) (k : Nat) : (propsOf T k).length ≤ m := by
  unfold propsOf
  split
  · rename_i n hn; exact h n (List.mem_of_getElem? hn)
  · simp
theorem shapeB_add {T : List NodeT} (h : ShapeB T) (s name : ByteArray) (he : (addT T s name).2 = 0) : ShapeB (addT T s name).1 ∧ (addT T s name).1.length = T.length + 1 := by
  obtain ⟨h1, h2⟩ := shape_add h.2.1 s name he
  refine ⟨⟨h1.1, h1, ?_⟩, h2⟩
  unfold addT at he ⊢
  split at he
  · rename_i hb; exact absurd he hb
  · rename_i hb
    rw [if_neg hb]
    split at he
    · simp at he
    · rename_i hb2
      rw [if_neg hb2]
      split at he
      · simp at he
      · rename_i hb3
        rw [if_neg hb3]
        split at he
        · simp at he
        · rename_i hb4
          rw [if_neg hb4]
          split at he
          · simp at he
          · rename_i hb5
            rw [if_neg hb5]
            intro n hn
            unfold sortedT at hn
            obtain ⟨k, _, rfl⟩ := List.mem_map.1 hn
            refine props_le (fun q hq => ?_) k
            rcases List.mem_append.1 hq with hq | hq
            · exact h.2.2 q hq
            · rw [List.mem_singleton] at hq; subst hq; simp
/-- Facts that hold on when the tape and the tree's variable change. -/
def Stable (B b Z : Nat) (F : Value → World → Prop) : Prop :=
  ∀ u w w', Tape B w b → (∃ v, Holds w Z #[v] 25) → Keeps (fun i => i = b ∨ i = Z) w w' → F u w → F u w'
def TreeV (base n : Nat) (u : Value) (w : World) : Prop := ∃ v T, u = .agg #[v] ∧ TreeRow w base v T ∧ ShapeB T ∧ T.length = n
def StrV (K : Nat) (u : Value) (_ : World) : Prop := ∃ s, u = .string s ∧ s.size ≤ K
def NumV (p : Int → Prop) (u : Value) (_ : World) : Prop := ∃ x, u = .int .i64 x ∧ p x
def RowV (p : List Int → Prop) (u : Value) (w : World) : Prop := ∃ N l, u = .slice (some ⟨N, 0, none⟩) l.length l.length ∧ Holds w N (l.map (Value.int .i64)).toArray 3 ∧ p l
theorem Stable.const {B b Z : Nat} {p : Value → Prop} : Stable B b Z (fun u _ => p u) := fun _ _ _ _ _ _ h => h
theorem Stable.str {B b Z K : Nat} : Stable B b Z (StrV K) := fun _ _ _ _ _ _ h => h
theorem Stable.num {B b Z : Nat} {p : Int → Prop} : Stable B b Z (NumV p) := fun _ _ _ _ _ _ h => h
theorem Stable.tree {B b Z base n : Nat} : Stable B b Z (TreeV base n) := by
  rintro u w w' ht ⟨z, hz⟩ k ⟨v, T, e, hr, hs, hl⟩
  obtain ⟨cs, hH⟩ := ht.holds
  refine ⟨v, T, e, hr.keeps k ?_, hs, hl⟩
  rintro g (rfl | rfl)
  · exact Or.inr ⟨_, _, hH, by decide, by decide⟩
  · exact Or.inr ⟨_, _, hz, by decide, by decide⟩
theorem Stable.row {B b Z : Nat} {p : List Int → Prop} : Stable B b Z (RowV p) := by
  rintro u w w' ht ⟨z, hz⟩ k ⟨N, l, e, hr, hp⟩
  obtain ⟨cs, hH⟩ := ht.holds
  refine ⟨N, l, e, hr.keeps k ?_, hp⟩
  rintro (rfl | rfl)
  · have := hr.symm.trans hH
    injection this with this; injection this with _ this; exact absurd this (by decide)
  · have := hr.symm.trans hz
    injection this with this; injection this with _ this; exact absurd this (by decide)
end Go.Proofs.YthkoaakicdhnpaaGreat

namespace Go.Proofs.YthkoaakicdhnpaaGreat
open Go.RowKit

def RowAt (g : Nat) (p : List Int → Prop) (w : World) : Prop := ∃ l : List Int, Holds w g (l.map (Value.int .i64)).toArray 3 ∧ p l
def Ones (n : Nat) (l : List Int) : Prop := l.length = n ∧ ∀ x ∈ l, x = 0 ∨ x = 1 ∨ x = 2
/-- The world in which Buses goes on. -/
def BusS (B b base Z n gA gS : Nat) (W w : World) : Prop :=
  Tape B w b ∧ (∃ v T, Holds w Z #[v] 25 ∧ TreeRow w base v T ∧ ShapeB T ∧ T.length = n) ∧ RowAt gA (Ones n) w ∧ RowAt gS (Ones n) w ∧ Keeps (fun i => i = b ∨ i = Z) W w
theorem RowAt.stable {B b Z g : Nat} {p : List Int → Prop} {w w' : World} (h : RowAt g p w) (ht : Tape B w b) (hz : ∃ v, Holds w Z #[v] 25) (k : Keeps (fun i => i = b ∨ i = Z) w w') : RowAt g p w' := by
  obtain ⟨l, hl, hp⟩ := h
  obtain ⟨N, l', e, h2, hp2⟩ := Stable.row (B := B) (b := b) (Z := Z) (p := p) (.slice (some ⟨g, 0, none⟩) l.length l.length) w w' ht hz k ⟨g, l, rfl, hl, hp⟩
  injection e with e1 e2 e3
  injection e1 with e1; injection e1 with e1
  subst e1
  exact ⟨l', h2, hp2⟩
theorem BusS.call {B b base Z n gA gS : Nat} {W w w' : World} (h : BusS B b base Z n gA gS W w) (hne : Z ≠ b) (k : Keeps (· = b) w w') (ht : Tape B w' b) : BusS B b base Z n gA gS W w' := by
  obtain ⟨h1, ⟨v, T, hZ, hr, hs, hl⟩, hA, hS, hk⟩ := h
  have k2 : Keeps (fun i => i = b ∨ i = Z) w w' := k.mono (fun _ _ e => Or.inl e)
  exact ⟨ht, ⟨v, T, hZ.keeps k hne, hr.tape h1 k, hs, hl⟩, hA.stable h1 ⟨_, hZ⟩ k2, hS.stable h1 ⟨_, hZ⟩ k2, hk.trans k2 (fun _ _ e => e)⟩
theorem BusS.store {B b base Z n gA gS : Nat} {W w : World} {v : Value} {T : List NodeT} (h : BusS B b base Z n gA gS W w) (hne : Z ≠ b) (hB : B ≤ Z) (hr : TreeRow w base v T) (hs : ShapeB T) (hl : T.length = n) : BusS B b base Z n gA gS W (w.setCell ⟨Z, 0, none⟩ v) := by
  obtain ⟨h1, ⟨v0, T0, hZ, _, _, _⟩, hA, hS, hk⟩ := h
  have k1 : Keeps (· = Z) w (w.setCell ⟨Z, 0, none⟩ v) := (Keeps.refl (· = Z) w).setCell (p := ⟨Z, 0, none⟩) (Or.inr rfl) v
  have k2 : Keeps (fun i => i = b ∨ i = Z) w (w.setCell ⟨Z, 0, none⟩ v) := k1.mono (fun _ _ e => Or.inr e)
  exact ⟨h1.keeps k1 (fun i e => by subst e; exact ⟨hB, hne⟩), ⟨v, T, hZ.set 0 v, hr.set hZ (by decide) (by decide) 0 v, hs, hl⟩, hA.stable h1 ⟨_, hZ⟩ k2, hS.stable h1 ⟨_, hZ⟩ k2, hk.trans k2 (fun _ _ e => e)⟩
theorem shape_with {T : List NodeT} (h : ShapeB T) (s name value : ByteArray) : ShapeB (withT T s name value) := by
  unfold withT
  split
  · exact h
  · rename_i he; exact (shapeB_set h s name value (by simpa using he)).1
theorem len_with {T : List NodeT} (h : ShapeB T) (s name value : ByteArray) : (withT T s name value).length = T.length := by
  unfold withT
  split
  · rfl
  · rename_i he; exact (shapeB_set h s name value (by simpa using he)).2
def F14 (base n gA k : Nat) (s : ByteArray) (j : Nat) : Value → World → Prop := match j with
  | 0 => TreeV base n
  | 1 => fun u _ => u = .string s
  | 2 => fun u _ => u = .slice (some ⟨gA, 0, none⟩) n n
  | 3 => fun u _ => u = .int .i64 k
  | 4 => fun u _ => u = .pointer (some ⟨gA, k, none⟩)
  | 5 => NumV fun x => x = 0 ∨ x = 1 ∨ x = 2
  | 6 => RowV fun l => ∃ x, l = [x] ∧ (x = 0 ∨ x = 1 ∨ x = 2)
  | 7 => StrV 100
  | 8 => TreeV base n
  | _ => fun _ _ => True
theorem F14.stable {B b Z base n gA k : Nat} {s : ByteArray} (j : Nat) : Stable B b Z (F14 base n gA k s j) := by
  unfold F14
  split
  · exact Stable.tree
  · exact Stable.const
  · exact Stable.const
  · exact Stable.const
  · exact Stable.const
  · exact Stable.num
  · exact Stable.row
  · exact Stable.str
  · exact Stable.tree
  · exact Stable.const

set_option maxHeartbeats 4000000 in
set_option maxRecDepth 100000 in
theorem bus_region14 {Q : Exit → Act → World → Prop} (B b base Z n gA gS k : Nat) (s : ByteArray) (W w : World) (A : Act) (hsz : A.tmps.size = 203) (hZb : Z ≠ b) (hWb : base ≤ W.heap.size) (hZB : B ≤ Z) (hk : k < n) (_ : n ≤ 1000)
    (a5 : A.tmps.getD 5 undef = .pointer (some ⟨Z, 0, none⟩)) (a7 : A.tmps.getD 7 undef = .slice (some ⟨gA, 0, none⟩) n n) (a9 : A.tmps.getD 9 undef = .int .i64 k) (a10 : A.tmps.getD 10 undef = .string s)
    (hS : BusS B b base Z n gA gS W w) (hQ : ∀ c w', SameBut (busOps 14) A c → BusS B b base Z n gA gS W w' → Q .normal c w') :
    wpAny Tryz.prog .any (busOps 14) Q (busOps 14).size (Array.replicate (busOps 14).size false) A w := by
  refine wpAny_inv2 (fun l c wx => RInv (busOps 14) A (F14 base n gA k s) (BusS B b base Z n gA gS W) l c wx) bus14 (fun l c wx hI _ => hQ c wx hI.1 hI.2.1) ?hstep _ _ _ _ (by simp) (by simp) (RInv.start hS)
  intro l c wx hI i o ho hl hall K' hK'
  have hi13 : i < 10 := by rw [← bus14n]; exact (Array.getElem?_eq_some_iff.1 ho).1
  simp only [busOps, regOps, Tryz.f7, Option.getD_some, reduceIte, Nat.reduceEqDiff] at ho
  have hSx := hI.2.1
  have HSX := Lib.hid hSx
  obtain ⟨hT, ⟨v, T, hZ, hr, hs, hlen⟩, ⟨lA, hA, hA1, hA2⟩, _, hkW⟩ := hSx
  obtain ⟨ta, tc, rfl⟩ := hr.slice
  have HL := Lib.hid hlen
  have HA1 := Lib.hid hA1
  clear hlen hA1
  have hX := hZ.cell 0
  have hXf := hZ.free 0
  have hbx : base ≤ wx.heap.size := Nat.le_trans hWb hkW.size
  have s5 := (hI.slot 5 (by kernel_rfl)).trans a5
  have s7 := (hI.slot 7 (by kernel_rfl)).trans a7
  have s9 := (hI.slot 9 (by kernel_rfl)).trans a9
  have s10 := (hI.slot 10 (by kernel_rfl)).trans a10
  simp only [Array.getD_eq_getD_getElem?] at s5 s7 s9 s10
  have hic : i = 0 ∨ i = 1 ∨ i = 2 ∨ i = 3 ∨ i = 4 ∨ i = 5 ∨ i = 6 ∨ i = 7 ∨ i = 8 ∨ i = 9 := by omega
  rcases hic with rfl | rfl | rfl | rfl | rfl | rfl | rfl | rfl | rfl | rfl
  all_goals cases ho
  · go_simp
    exact hK' _ _ (hI.step bus14a 0 62 rfl (by rw [hsz]; decide) _ _ rfl hall HSX.out (fun _ _ h => h) ⟨_, T, rfl, hr, hs, HL.out⟩)
  · go_simp
    exact hK' _ _ (hI.step bus14a 1 63 rfl (by rw [hsz]; decide) _ _ rfl hall HSX.out (fun _ _ h => h) rfl)
  · go_simp
    exact hK' _ _ (hI.step bus14a 2 64 rfl (by rw [hsz]; decide) _ _ rfl hall HSX.out (fun _ _ h => h) rfl)
  · go_simp
    exact hK' _ _ (hI.step bus14a 3 65 rfl (by rw [hsz]; decide) _ _ rfl hall HSX.out (fun _ _ h => h) rfl)
  · have e2 : c.tmps.getD 64 undef = .slice (some ⟨gA, 0, none⟩) n n := hI.fact 2 64 rfl (listed hall 2 (by kernel_rfl))
    have e3 : c.tmps.getD 65 undef = .int .i64 k := hI.fact 3 65 rfl (listed hall 3 (by kernel_rfl))
    simp only [Array.getD_eq_getD_getElem?] at e2 e3
    go_simp
    exact hK' _ _ (hI.step bus14a 4 66 rfl (by rw [hsz]; decide) _ _ rfl hall HSX.out (fun _ _ h => h) rfl)
  · have e4 : c.tmps.getD 66 undef = .pointer (some ⟨gA, k, none⟩) := hI.fact 4 66 rfl (listed hall 4 (by kernel_rfl))
    simp only [Array.getD_eq_getD_getElem?] at e4
    have hkl : k < lA.length := by rw [HA1.out]; exact hk
    have hc : wx.cell? ⟨gA, k, none⟩ = some (.int .i64 (lA[k]'hkl)) := by rw [hA.cell k]; simp [hkl]
    go_simp
    exact hK' _ _ (hI.step bus14a 5 67 rfl (by rw [hsz]; decide) _ _ rfl hall HSX.out (fun _ _ h => h) ⟨_, rfl, hA2 _ (List.getElem_mem hkl)⟩)
  · obtain ⟨x, e5, hx⟩ : NumV (fun x => x = 0 ∨ x = 1 ∨ x = 2) (c.tmps.getD 67 undef) wx := hI.fact 5 67 rfl (listed hall 5 (by kernel_rfl))
    simp only [Array.getD_eq_getD_getElem?] at e5
    go_simp
    have hb2 : Below wx.heap.size wx (wx.alloc (.cells #[.int .i64 x] 3)) := (Below.refl _ _).alloc (Nat.le_refl _) _
    have hS2 := BusS.call HSX.out hZb (Keeps.of_fresh hb2 _) (hT.new hb2)
    exact hK' _ _ (hI.step bus14a 6 68 rfl (by rw [hsz]; decide) _ _ rfl hall hS2 (fun j u h => F14.stable j u _ _ hT ⟨_, hZ⟩ (Keeps.of_fresh hb2 _) h) ⟨_, [x], rfl, Holds.new _ _ _, x, rfl, hx⟩)
  · obtain ⟨N, l, e6, hN, x, rfl, hx⟩ : RowV (fun l => ∃ x, l = [x] ∧ (x = 0 ∨ x = 1 ∨ x = 2)) (c.tmps.getD 68 undef) wx := hI.fact 6 68 rfl (listed hall 6 (by kernel_rfl))
    simp only [Array.getD_eq_getD_getElem?] at e6
    have hls : ListAt wx.heap.size wx (.slice (some ⟨N, 0, none⟩) [x].length [x].length) [x] := ⟨_, _, rfl, Nat.le_refl _, by simp, fun _ => ⟨N, 0, rfl, hN.lt, fun i hi => by
      obtain rfl : i = 0 := by simp at hi; exact hi
      exact hN.cell 0⟩⟩
    go_simp
    refine (grow_Cells [x] _ wx hls (by intro y hy; simp at hy; omega) (by simp)).mono ?_
    rintro e w2 ⟨rfl, hb2⟩
    go_simp
    have hS2 := BusS.call HSX.out hZb (Keeps.of_fresh hb2 _) (hT.new hb2)
    exact hK' _ _ (hI.step bus14a 7 69 rfl (by rw [hsz]; decide) _ _ rfl hall hS2 (fun j u h => F14.stable j u _ _ hT ⟨_, hZ⟩ (Keeps.of_fresh hb2 _) h) ⟨_, rfl, by rcases hx with rfl | rfl | rfl <;> decide⟩)
  · obtain ⟨v0, T0, e0, hr0, hs0, hl0⟩ : TreeV base n (c.tmps.getD 62 undef) wx := hI.fact 0 62 rfl (listed hall 0 (by kernel_rfl))
    have e1 : c.tmps.getD 63 undef = .string s := hI.fact 1 63 rfl (listed hall 1 (by kernel_rfl))
    obtain ⟨y, e7, hy⟩ : StrV 100 (c.tmps.getD 69 undef) wx := hI.fact 7 69 rfl (listed hall 7 (by kernel_rfl))
    simp only [Array.getD_eq_getD_getElem?] at e0 e1 e7
    have HL0 := Lib.hid hl0
    clear hl0
    go_simp
    refine (grow_with base v0 T0 s _ y wx hr0 hbx (by decide) (by omega)).mono ?_
    rintro e w2 ⟨v2, rfl, hr2, hb2⟩
    go_simp
    have hS2 := BusS.call HSX.out hZb (Keeps.of_fresh hb2 _) (hT.new hb2)
    exact hK' _ _ (hI.step bus14a 8 70 rfl (by rw [hsz]; decide) _ _ rfl hall hS2 (fun j u h => F14.stable j u _ _ hT ⟨_, hZ⟩ (Keeps.of_fresh hb2 _) h) ⟨_, _, rfl, hr2, shape_with hs0 _ _ _, (len_with hs0 _ _ _).trans HL0.out⟩)
  · obtain ⟨v0, T0, e8, hr0, hs0, hl0⟩ : TreeV base n (c.tmps.getD 70 undef) wx := hI.fact 8 70 rfl (listed hall 8 (by kernel_rfl))
    simp only [Array.getD_eq_getD_getElem?] at e8
    obtain ⟨a2, c2, rfl⟩ := hr0.slice
    have HL0 := Lib.hid hl0
    clear hl0
    go_simp
    have k2 : Keeps (fun i => i = b ∨ i = Z) wx (wx.setCell ⟨Z, 0, none⟩ (.slice a2 T0.length c2)) := (Keeps.refl _ wx).setCell (p := ⟨Z, 0, none⟩) (Or.inr (Or.inr rfl)) _
    have hS2 := BusS.store HSX.out hZb hZB hr0 hs0 HL0.out
    exact hK' _ _ (hI.stepN 9 rfl _ rfl hall hS2 (fun j u h => F14.stable j u _ _ hT ⟨_, hZ⟩ k2 h) trivial)
end Go.Proofs.YthkoaakicdhnpaaGreat

namespace Go.Proofs.YthkoaakicdhnpaaGreat
open Go.RowKit
theorem bus17 : inRow2 .any (busOps 17) = true := by kernel_rfl
theorem bus17a : apartB (busOps 17) = true := by kernel_rfl
theorem bus17n : (busOps 17).size = 10 := by kernel_rfl
def F17 (base n gS k : Nat) (s : ByteArray) (j : Nat) : Value → World → Prop := match j with
  | 0 => TreeV base n
  | 1 => fun u _ => u = .string s
  | 2 => fun u _ => u = .slice (some ⟨gS, 0, none⟩) n n
  | 3 => fun u _ => u = .int .i64 k
  | 4 => fun u _ => u = .pointer (some ⟨gS, k, none⟩)
  | 5 => NumV fun x => x = 0 ∨ x = 1 ∨ x = 2
  | 6 => RowV fun l => ∃ x, l = [x] ∧ (x = 0 ∨ x = 1 ∨ x = 2)
  | 7 => StrV 100
  | 8 => TreeV base n
  | _ => fun _ _ => True
theorem F17.stable {B b Z base n gS k : Nat} {s : ByteArray} (j : Nat) : Stable B b Z (F17 base n gS k s j) := by
  unfold F17
  split
  · exact Stable.tree
  · exact Stable.const
  · exact Stable.const
  · exact Stable.const
  · exact Stable.const
  · exact Stable.num
  · exact Stable.row
  · exact Stable.str
  · exact Stable.tree
  · exact Stable.const

set_option maxHeartbeats 4000000 in
set_option maxRecDepth 100000 in
theorem bus_region17 {Q : Exit → Act → World → Prop} (B b base Z n gA gS k : Nat) (s : ByteArray) (W w : World) (A : Act) (hsz : A.tmps.size = 203) (hZb : Z ≠ b) (hWb : base ≤ W.heap.size) (hZB : B ≤ Z) (hk : k < n) (_hn : n ≤ 1000)
    (a5 : A.tmps.getD 5 undef = .pointer (some ⟨Z, 0, none⟩)) (a8 : A.tmps.getD 8 undef = .slice (some ⟨gS, 0, none⟩) n n) (a9 : A.tmps.getD 9 undef = .int .i64 k) (a10 : A.tmps.getD 10 undef = .string s)
    (hS : BusS B b base Z n gA gS W w) (hQ : ∀ c w', SameBut (busOps 17) A c → BusS B b base Z n gA gS W w' → Q .normal c w') :
    wpAny Tryz.prog .any (busOps 17) Q (busOps 17).size (Array.replicate (busOps 17).size false) A w := by
  refine wpAny_inv2 (fun l c wx => RInv (busOps 17) A (F17 base n gS k s) (BusS B b base Z n gA gS W) l c wx) bus17 (fun l c wx hI _ => hQ c wx hI.1 hI.2.1) ?hstep _ _ _ _ (by simp) (by simp) (RInv.start hS)
  intro l c wx hI i o ho hl hall K' hK'
  have hi13 : i < 10 := by rw [← bus17n]; exact (Array.getElem?_eq_some_iff.1 ho).1
  simp only [busOps, regOps, Tryz.f7, Option.getD_some, reduceIte, Nat.reduceEqDiff] at ho
  have hSx := hI.2.1
  have HSX := Lib.hid hSx
  obtain ⟨hT, ⟨v, T, hZ, hr, hs, hlen⟩, _, ⟨lA, hA, hA1, hA2⟩, hkW⟩ := hSx
  obtain ⟨ta, tc, rfl⟩ := hr.slice
  have HL := Lib.hid hlen
  have HA1 := Lib.hid hA1
  clear hlen hA1
  have hX := hZ.cell 0
  have hXf := hZ.free 0
  have hbx : base ≤ wx.heap.size := Nat.le_trans hWb hkW.size
  have s5 := (hI.slot 5 (by kernel_rfl)).trans a5
  have s8 := (hI.slot 8 (by kernel_rfl)).trans a8
  have s9 := (hI.slot 9 (by kernel_rfl)).trans a9
  have s10 := (hI.slot 10 (by kernel_rfl)).trans a10
  simp only [Array.getD_eq_getD_getElem?] at s5 s8 s9 s10
  have hic : i = 0 ∨ i = 1 ∨ i = 2 ∨ i = 3 ∨ i = 4 ∨ i = 5 ∨ i = 6 ∨ i = 7 ∨ i = 8 ∨ i = 9 := by omega
  rcases hic with rfl | rfl | rfl | rfl | rfl | rfl | rfl | rfl | rfl | rfl
  all_goals cases ho
  · go_simp
    exact hK' _ _ (hI.step bus17a 0 79 rfl (by rw [hsz]; decide) _ _ rfl hall HSX.out (fun _ _ h => h) ⟨_, T, rfl, hr, hs, HL.out⟩)
  · go_simp
    exact hK' _ _ (hI.step bus17a 1 80 rfl (by rw [hsz]; decide) _ _ rfl hall HSX.out (fun _ _ h => h) rfl)
  · go_simp
    exact hK' _ _ (hI.step bus17a 2 81 rfl (by rw [hsz]; decide) _ _ rfl hall HSX.out (fun _ _ h => h) rfl)
  · go_simp
    exact hK' _ _ (hI.step bus17a 3 82 rfl (by rw [hsz]; decide) _ _ rfl hall HSX.out (fun _ _ h => h) rfl)
  · have e2 : c.tmps.getD 81 undef = .slice (some ⟨gS, 0, none⟩) n n := hI.fact 2 81 rfl (listed hall 2 (by kernel_rfl))
    have e3 : c.tmps.getD 82 undef = .int .i64 k := hI.fact 3 82 rfl (listed hall 3 (by kernel_rfl))
    simp only [Array.getD_eq_getD_getElem?] at e2 e3
    go_simp
    exact hK' _ _ (hI.step bus17a 4 83 rfl (by rw [hsz]; decide) _ _ rfl hall HSX.out (fun _ _ h => h) rfl)
  · have e4 : c.tmps.getD 83 undef = .pointer (some ⟨gS, k, none⟩) := hI.fact 4 83 rfl (listed hall 4 (by kernel_rfl))
    simp only [Array.getD_eq_getD_getElem?] at e4
    have hkl : k < lA.length := by rw [HA1.out]; exact hk
    have hc : wx.cell? ⟨gS, k, none⟩ = some (.int .i64 (lA[k]'hkl)) := by rw [hA.cell k]; simp [hkl]
    go_simp
    exact hK' _ _ (hI.step bus17a 5 84 rfl (by rw [hsz]; decide) _ _ rfl hall HSX.out (fun _ _ h => h) ⟨_, rfl, hA2 _ (List.getElem_mem hkl)⟩)
  · obtain ⟨x, e5, hx⟩ : NumV (fun x => x = 0 ∨ x = 1 ∨ x = 2) (c.tmps.getD 84 undef) wx := hI.fact 5 84 rfl (listed hall 5 (by kernel_rfl))
    simp only [Array.getD_eq_getD_getElem?] at e5
    go_simp
    have hb2 : Below wx.heap.size wx (wx.alloc (.cells #[.int .i64 x] 3)) := (Below.refl _ _).alloc (Nat.le_refl _) _
    have hS2 := BusS.call HSX.out hZb (Keeps.of_fresh hb2 _) (hT.new hb2)
    exact hK' _ _ (hI.step bus17a 6 85 rfl (by rw [hsz]; decide) _ _ rfl hall hS2 (fun j u h => F17.stable j u _ _ hT ⟨_, hZ⟩ (Keeps.of_fresh hb2 _) h) ⟨_, [x], rfl, Holds.new _ _ _, x, rfl, hx⟩)
  · obtain ⟨N, l, e6, hN, x, rfl, hx⟩ : RowV (fun l => ∃ x, l = [x] ∧ (x = 0 ∨ x = 1 ∨ x = 2)) (c.tmps.getD 85 undef) wx := hI.fact 6 85 rfl (listed hall 6 (by kernel_rfl))
    simp only [Array.getD_eq_getD_getElem?] at e6
    have hls : ListAt wx.heap.size wx (.slice (some ⟨N, 0, none⟩) [x].length [x].length) [x] := ⟨_, _, rfl, Nat.le_refl _, by simp, fun _ => ⟨N, 0, rfl, hN.lt, fun i hi => by
      obtain rfl : i = 0 := by simp at hi; exact hi
      exact hN.cell 0⟩⟩
    go_simp
    refine (grow_Cells [x] _ wx hls (by intro y hy; simp at hy; omega) (by simp)).mono ?_
    rintro e w2 ⟨rfl, hb2⟩
    go_simp
    have hS2 := BusS.call HSX.out hZb (Keeps.of_fresh hb2 _) (hT.new hb2)
    exact hK' _ _ (hI.step bus17a 7 86 rfl (by rw [hsz]; decide) _ _ rfl hall hS2 (fun j u h => F17.stable j u _ _ hT ⟨_, hZ⟩ (Keeps.of_fresh hb2 _) h) ⟨_, rfl, by rcases hx with rfl | rfl | rfl <;> decide⟩)
  · obtain ⟨v0, T0, e0, hr0, hs0, hl0⟩ : TreeV base n (c.tmps.getD 79 undef) wx := hI.fact 0 79 rfl (listed hall 0 (by kernel_rfl))
    have e1 : c.tmps.getD 80 undef = .string s := hI.fact 1 80 rfl (listed hall 1 (by kernel_rfl))
    obtain ⟨y, e7, hy⟩ : StrV 100 (c.tmps.getD 86 undef) wx := hI.fact 7 86 rfl (listed hall 7 (by kernel_rfl))
    simp only [Array.getD_eq_getD_getElem?] at e0 e1 e7
    have HL0 := Lib.hid hl0
    clear hl0
    go_simp
    refine (grow_with base v0 T0 s _ y wx hr0 hbx (by decide) (by omega)).mono ?_
    rintro e w2 ⟨v2, rfl, hr2, hb2⟩
    go_simp
    have hS2 := BusS.call HSX.out hZb (Keeps.of_fresh hb2 _) (hT.new hb2)
    exact hK' _ _ (hI.step bus17a 8 87 rfl (by rw [hsz]; decide) _ _ rfl hall hS2 (fun j u h => F17.stable j u _ _ hT ⟨_, hZ⟩ (Keeps.of_fresh hb2 _) h) ⟨_, _, rfl, hr2, shape_with hs0 _ _ _, (len_with hs0 _ _ _).trans HL0.out⟩)
  · obtain ⟨v0, T0, e8, hr0, hs0, hl0⟩ : TreeV base n (c.tmps.getD 87 undef) wx := hI.fact 8 87 rfl (listed hall 8 (by kernel_rfl))
    simp only [Array.getD_eq_getD_getElem?] at e8
    obtain ⟨a2, c2, rfl⟩ := hr0.slice
    have HL0 := Lib.hid hl0
    clear hl0
    go_simp
    have k2 : Keeps (fun i => i = b ∨ i = Z) wx (wx.setCell ⟨Z, 0, none⟩ (.slice a2 T0.length c2)) := (Keeps.refl _ wx).setCell (p := ⟨Z, 0, none⟩) (Or.inr (Or.inr rfl)) _
    have hS2 := BusS.store HSX.out hZb hZB hr0 hs0 HL0.out
    exact hK' _ _ (hI.stepN 9 rfl _ rfl hall hS2 (fun j u h => F17.stable j u _ _ hT ⟨_, hZ⟩ k2 h) trivial)
end Go.Proofs.YthkoaakicdhnpaaGreat

namespace Go.Proofs.YthkoaakicdhnpaaGreat
open Go.RowKit

theorem row_ne_tape {B b N : Nat} {w : World} {l : List Int} (h : Holds w N (l.map (Value.int .i64)).toArray 3) (ht : Tape B w b) : N ≠ b := by
  rintro rfl
  obtain ⟨cs, hH⟩ := ht.holds
  have := h.symm.trans hH
  injection this with this; injection this with _ this; exact absurd this (by decide)
theorem wide_size (n cells : Int) : (⟨(growT (if cells = 2 then [n / 4294967296, n % 4294967296] else [n])).toArray⟩ : ByteArray).size ≤ 8 := by
  split <;> simp [growT, bytes4, ByteArray.size]
def AddsG (a b c : ByteArray) : Prop := ∀ wx : World, (Op.stringOp .add a b).run Tryz.prog wx = .ok (.string c) wx
theorem addsG_ex (a b : ByteArray) (h : a.size + b.size ≤ 9223372036854775807) : ∃ c, AddsG a b c ∧ c.size = a.size + b.size := by
  exact ⟨a ++ b, fun wx => run_string_add_sum wx a b h, ByteArray.size_append⟩
theorem row_at {N : Nat} {w : World} {l : List Int} (h : Holds w N (l.map (Value.int .i64)).toArray 3) (i : Nat) (hi : i < l.length) : w.cell? ⟨N, 0 + i, none⟩ = some (.int .i64 l[i]) := by
  rw [Nat.zero_add, h.cell i]; simp [hi]
end Go.Proofs.YthkoaakicdhnpaaGreat

namespace Go.Proofs.YthkoaakicdhnpaaGreat
open Go.RowKit

theorem row_tape {B b base : Nat} {w w' : World} {e : TypeId} {size : Nat} {v : Value} {n : Nat} {xs : List Value} (h : w.ownsRow base e size v n xs) (ht : Tape B w b) (hne : 67 ≠ e) (k : Keeps (· = b) w w') : w'.ownsRow base e size v n xs := by
  obtain ⟨cs, hH⟩ := ht.holds
  exact row_other h hH hne k
theorem owns_len2 {w : World} {base : Nat} {e : TypeId} {size : Nat} {a : Option Addr} {n c : Nat} {xs : List Value} (h : w.ownsRow base e size (.slice a n c) n xs) : n ≤ c ∧ c ≤ 9223372036854775807 := by
  rcases h.2 with ⟨e, rfl⟩ | ⟨g, cap, cur, e, _, _, h2, h3, _⟩
  · cases e; omega
  · cases e; unfold maxLen at h3; omega
theorem growT_len (l : List Int) : (⟨(growT l).toArray⟩ : ByteArray).size = 4 * l.length := by
  show (growT l).toArray.size = _
  simp only [List.size_toArray]
  induction l with
  | nil => rfl
  | cons x l ih =>
    show (bytes4 x ++ growT l).length = _
    rw [List.length_append, ih, show (bytes4 x).length = 4 from rfl, List.length_cons]; omega
theorem list_row {w : World} {base : Nat} {e : TypeId} {v : Value} {l : List Int} (h : w.ownsRow base e 1 v l.length (intCells l)) : ListAt w.heap.size w v l := by
  obtain ⟨a, c, rfl⟩ := row_slice h
  have hl := owns_len2 h
  refine ⟨a, c, rfl, hl.1, hl.2, fun h0 => ?_⟩
  obtain ⟨g, c', e, -, hg⟩ := h.form h0
  simp only [Value.slice.injEq] at e
  obtain ⟨rfl, -, rfl⟩ := e
  refine ⟨g, 0, rfl, hg, fun i hi => ?_⟩
  rw [Nat.zero_add, h.cellAt i (by omega)]
  simp [intCells, hi]
theorem u8_backV (v : Int) (h0 : 0 ≤ v) (h1 : v ≤ 255) : ((v.toNat.toUInt8).toNat : Int) = v := by simp [Nat.toUInt8]; omega
theorem byteCells_snocV (acc : List UInt8) (v : Int) (h0 : 0 ≤ v) (h1 : v ≤ 255) : Lib.byteCells acc ++ [.int .u8 v] = Lib.byteCells (acc ++ [v.toNat.toUInt8]) := by
  unfold Lib.byteCells; rw [List.map_append, List.map_singleton, u8_backV v h0 h1]
def ValPost (B b : Nat) (w : World) (e : Ending) (w' : World) : Prop := ∃ s : ByteArray, e = .returned (.string s) ∧ s.size ≤ 100 ∧ Tape B w' b ∧ Keeps (· = b) w w'
def lVals : List ByteArray := [⟨#[97, 0]⟩, ⟨#[111, 107, 97, 121, 0]⟩, ⟨#[102, 105, 114, 115, 116, 0, 115, 101, 99, 111, 110, 100, 0]⟩, ⟨#[119, 105, 116, 104, 32, 34, 113, 117, 111, 116, 101, 34, 32, 97, 110, 100, 32, 92, 0]⟩, ⟨#[116, 97, 98, 9, 0]⟩, ⟨#[97, 98, 0, 0]⟩]
theorem lVals_sz : ∀ s ∈ lVals, s.size ≤ 100 := by decide

set_option maxRecDepth 100000 in
set_option maxHeartbeats 4000000 in
theorem grow_Value (B b : Nat) (w : World) (h : Tape B w b) :
    Calls Tryz.prog 12 #[.pointer (some ⟨b, 0, none⟩)] w (ValPost B b w) := by
  have hlt := h.lt
  have hBw : B ≤ w.heap.size := Nat.le_trans h.1 (Nat.le_of_lt hlt)
  go_enter Tryz.func12, Tryz.ntmps12
  go_wp2_with fail
  refine (mk_N B b 7 _ h (by omega) (by omega)).mono ?_
  rintro e w1 ⟨r, rfl, r0, r1, hT1, hK1⟩
  have hs1 := hK1.size
  by_cases h0 : r = 0
  · have h0' : (r == 0) = true := by simp [h0]
    clear h0
    go_wp2_with fail
    go_ret
    exact ⟨_, rfl, by decide, hT1, hK1⟩
  · have h0' : (r == 0) = false := by simpa using h0
    have hr12 : (r = 1 ∨ r = 2) ∨ ¬ (r = 1 ∨ r = 2) := by omega
    clear h0
    rcases hr12 with h12 | h12
    · have hnum := Lib.hid (fun wx hx => mk_Number B b wx hx)
      rcases h12 with rfl | rfl
      all_goals
        go_wp2_with fail
        refine (mk_Range B b 1 3 _ hT1 (by omega) (by omega) (by omega)).mono ?_
        rintro e w2 ⟨q, rfl, q0, q1, hT2, hK2⟩
        have hKK := hK1.trans hK2 (fun _ _ e => e)
        clear hT1 hK1 hK2
        go_wp2_with fail
        go_loopg [3, 4] 3 (fun f x y wr => ∃ (l : List Int) (c : Int), y = .int .i64 c ∧ 0 ≤ c ∧ c.toNat ≤ f ∧ (l.length : Int) + c ≤ 3 ∧ Hid (∀ z ∈ l, 0 ≤ z ∧ z ≤ 4294967295) ∧ wr.ownsRow w.heap.size 3 1 x l.length (intCells l) ∧ Tape B wr b ∧ Keeps (· = b) w wr)
        case atStart => exact ⟨[], q, rfl, by omega, by omega, by simp; omega, (fun z hz => by cases hz), World.ownsRow_nil _ _ _ _, hT2, hKK⟩
        case round =>
          clear hT2 hKK
          obtain ⟨l, c, rfl, hc0, hcf, hlc, hlb, hown, hT, hK⟩ := hrel
          by_cases hc : 0 < c
          · obtain ⟨ra, rc, rfl⟩ := row_slice hown
            have HLB := hlb
            have HOWN := Lib.hid hown
            clear hown hlb
            go_wp2_with fail
            refine (hnum.out _ (by exact hT)).mono ?_
            rintro e w3 ⟨x, rfl, x0, x1, hT3, hK3⟩
            have hown3 := row_tape HOWN.out hT (by decide) hK3
            have hKK := hK.trans hK3 (fun _ _ e => e)
            have hs3 := hKK.size
            have hb3 : Below w3.heap.size w3 (w3.alloc (.cells #[.int .i64 x] 3)) := (Below.refl _ _).alloc (Nat.le_refl _) _
            have hT4 := hT3.new hb3
            have hown4 := Lib.hid (row_new hown3 hb3)
            obtain ⟨i0, hi, hz0, hz1, hz2⟩ := info_parts infoInt
            clear hT hK hK3 hown3 HOWN
            go_wp2_with (at_builtin; refine wpList_append_own _ rfl _ _ 22 rfl w.heap.size 3 i0 (.int .i64 0) 1 8 Tryz.underlying22 hi hz0 hz1 hz2 rfl (by decide) _ l.length (intCells l) rfl (by exact hown4.out) ⟨w3.heap.size, 0, none⟩ 1 1 [.int .i64 x] rfl rfl ?c1 ?c2 ?c3 ?c4 ?c5 ?_)
            case c1 => exact new_cells _ _ _ _ rfl _ rfl
            case c2 => intro u hu; simp at hu; rcases hu with rfl; rfl
            case c3 => unfold maxLen; omega
            case c4 => omega
            case c5 => simp; omega
            intro v' w5 hown' hgrow _
            obtain ⟨ra', rc', rfl⟩ := row_slice hown'
            have hT5 : Tape B w5 b := hT4.keeps (Keeps.of_grown hgrow (S := fun i => (Value.slice ra l.length rc).ownBlock = some i) (fun _ e => e)) (fun i e => by
              obtain ⟨cs, hH⟩ := hT4.holds
              exact ⟨by have := (hown4.out.lt i e).1; omega, fun e2 => by subst e2; exact owns_ne_holds hown4.out hH (by decide) e⟩)
            have hK5 : Keeps (· = b) w w5 := (hKK.trans (Keeps.of_fresh hb3 (fun i => i = b)) (fun _ _ e => e)).grown hgrow (fun i e => .inl (hown4.out.lt i e).1)
            have HF := Lib.hid (show w5.ownsRow w.heap.size 3 1 (.slice ra' (l.length + 1) rc') (l ++ [x]).length (intCells (l ++ [x])) from by
              rw [List.length_append, List.length_singleton]; unfold intCells; rw [List.map_append]; exact hown')
            clear hown' hgrow hown4 hT4 hKK hb3
            go_wp2_with fail
            go_roundg (c - 1).toNat
            case measure => omega
            case rel =>
              refine ⟨l ++ [x], c - 1, rfl, by omega, by omega, by simp; omega, ?_, HF.out, hT5, hK5⟩
              intro z hz
              rcases List.mem_append.1 hz with hz | hz
              · exact HLB.out z hz
              · simp at hz; subst hz; exact ⟨x0, x1⟩
          · have hcz : ¬ c > 0 := by omega
            have hlr := Lib.hid (list_row hown)
            have HLB := hlb
            clear hown hlb
            go_wp2_with fail
            refine (grow_Cells l _ _ hlr.out HLB.out (by omega)).mono ?_
            rintro e w3 ⟨rfl, hb3⟩
            have hsz := growT_len l
            have hT3 := hT.new hb3
            have hK3 := hK.trans (Keeps.of_fresh hb3 (fun i => i = b)) (fun _ _ e => e)
            go_wp2_with fail
            go_ret
            exact ⟨_, rfl, by omega, hT3, hK3⟩
    · have e1 : (r == 1) = false := by simp; omega
      have e2 : (r == 2) = false := by simp; omega
      clear h12
      by_cases h3 : r = 3
      · have e3 : (r == 3) = true := by simp [h3]
        clear h3
        go_wp2_with fail
        refine (mk_N B b 6 _ (hT1.new ((Below.refl _ _).alloc (Nat.le_refl _) _)) (by omega) (by omega)).mono ?_
        rintro e w2 ⟨q, rfl, q0, q1, hT2, hK2⟩
        obtain ⟨q, rfl⟩ := Int.eq_ofNat_of_zero_le q0
        have hlt1 := hT1.lt
        have hH := (Holds.new w1 (lVals.map Value.string).toArray 9).keeps hK2 (by omega)
        obtain ⟨s, hs1, hs2⟩ := pick_one lVals q (by have : lVals.length = 6 := rfl; omega)
        have hc : w2.cell? ⟨w1.heap.size, q, none⟩ = some (.string s) := (hH.cell q).trans (by simp [hs1])
        have hKf : Keeps (fun i => i = b) w w2 := (hK1.alloc _).trans hK2 (fun _ _ e => e)
        have hsz := lVals_sz s hs2
        go_wp2_with fail
        go_ret
        exact ⟨s, rfl, hsz, hT2, hKf⟩
      · have e3 : (r == 3) = false := by simp; omega
        by_cases h4 : r = 4
        · have e4 : (r == 4) = true := by simp [h4]
          clear h3 h4
          go_wp2_with fail
          go_ret
          exact ⟨_, rfl, by decide, hT1, hK1⟩
        · have e4 : (r == 4) = false := by simp; omega
          clear h3 h4
          go_wp2_with fail
          refine (mk_N B b 9 _ hT1 (by omega) (by omega)).mono ?_
          rintro e w2 ⟨q, rfl, q0, q1, hT2, hK2⟩
          have hKK := hK1.trans hK2 (fun _ _ e => e)
          clear hT1 hK1 hK2
          go_wp2_with fail
          go_loopg [5, 6] 9 (fun f x y wr => ∃ (l : List UInt8) (c : Int), y = .int .i64 c ∧ 0 ≤ c ∧ c.toNat ≤ f ∧ (l.length : Int) + c ≤ 9 ∧ wr.ownsRow w.heap.size 5 1 x l.length (Lib.byteCells l) ∧ Tape B wr b ∧ Keeps (· = b) w wr)
          case atStart => exact ⟨[], q, rfl, by omega, by omega, by simp; omega, World.ownsRow_nil _ _ _ _, hT2, hKK⟩
          case round =>
            clear hT2 hKK
            obtain ⟨l, c, rfl, hc0, hcf, hlc, hown, hT, hK⟩ := hrel
            by_cases hc : 0 < c
            · obtain ⟨ra, rc, rfl⟩ := row_slice hown
              have HOWN := Lib.hid hown
              clear hown
              go_wp2_with fail
              refine (mk_N B b 256 _ (by exact hT) (by omega) (by omega)).mono ?_
              rintro e w3 ⟨x, rfl, x0, x1, hT3, hK3⟩
              have hlt := hT3.lt
              have hl1 := hK3.size
              have hb4 : Below w3.heap.size w3 (w3.alloc (.cells #[.int .i64 0, .int .i64 1, .int .i64 65, .int .i64 255, .int .i64 x] 3)) := (Below.refl _ _).alloc (Nat.le_refl _) _
              have hT4 := hT3.new hb4
              have hH := Holds.new w3 (([0, 1, 65, 255, x] : List Int).map (Value.int .i64)).toArray 3
              have hc' : ∀ (i : Nat) (h : i < ([0, 1, 65, 255, x] : List Int).length), (w3.alloc (.cells #[.int .i64 0, .int .i64 1, .int .i64 65, .int .i64 255, .int .i64 x] 3)).cell? ⟨w3.heap.size, 0 + i, none⟩ = some (.int .i64 ([0, 1, 65, 255, x] : List Int)[i]) := by
                intro i hi
                rw [Nat.zero_add]
                exact (hH.cell i).trans (row_ints_at _ i hi)
              have hp := Lib.hid (mk_Pick B b w3.heap.size 0 5 [0, 1, 65, 255, x] _ hT4 (by simp) (by simp) (by omega) hc')
              have hown3 := Lib.hid (row_new (row_tape HOWN.out hT (by decide) hK3) hb4)
              have hKK := (hK.trans hK3 (fun _ _ e => e)).trans (Keeps.of_fresh hb4 (fun i => i = b)) (fun _ _ e => e)
              clear hT3 hH hc' hT hK hK3 HOWN hl1
              go_wp2_with fail
              refine (hp.out).mono ?_
              rintro e w4 ⟨r, rfl, hr, hT5, hK5⟩
              have hr2 : 0 ≤ r ∧ r ≤ 255 := by simp at hr; omega
              have hown4 := Lib.hid (row_tape hown3.out hT4 (by decide) hK5)
              have hKK2 := hKK.trans hK5 (fun _ _ e => e)
              have hlt5 := hT5.lt
              have hb6 : Below w4.heap.size w4 (w4.alloc (.cells #[.int .u8 r] 5)) := (Below.refl _ _).alloc (Nat.le_refl _) _
              have hT6 := hT5.new hb6
              have hown6 := Lib.hid (row_new hown4.out hb6)
              obtain ⟨i0, hi, hz0, hz1, hz2⟩ := info_parts infoByte
              have hr0 := hr2.1
              have hr1 := hr2.2
              have hs7 := hKK2.size
              clear hT4 hown3 hr hKK hK5 hp hb4 hT5 hown4
              go_wp2_with (at_builtin; refine wpList_append_own _ rfl _ _ 77 rfl w.heap.size 5 i0 (.int .u8 0) 1 1 Tryz.underlying77 hi hz0 hz1 hz2 rfl (by decide) _ l.length (Lib.byteCells l) rfl (by exact hown6.out) ⟨w4.heap.size, 0, none⟩ 1 1 [.int .u8 r] rfl rfl ?c1 ?c2 ?c3 ?c4 ?c5 ?_)
              case c1 => exact new_cells _ _ _ _ rfl _ rfl
              case c2 => intro u hu; simp at hu; rcases hu with rfl; rfl
              case c3 => unfold maxLen; omega
              case c4 => omega
              case c5 => simp; omega
              intro v' w7 hown' hgrow _
              obtain ⟨ra', rc', rfl⟩ := row_slice hown'
              have hT7 : Tape B w7 b := hT6.keeps (Keeps.of_grown hgrow (S := fun i => (Value.slice ra l.length rc).ownBlock = some i) (fun _ e => e)) (fun i e => by
                obtain ⟨cs, hH⟩ := hT6.holds
                exact ⟨by have := (hown6.out.lt i e).1; omega, fun e2 => by subst e2; exact owns_ne_holds hown6.out hH (by decide) e⟩)
              have hK7 : Keeps (· = b) w w7 := (hKK2.trans (Keeps.of_fresh hb6 (fun i => i = b)) (fun _ _ e => e)).grown hgrow (fun i e => .inl (hown6.out.lt i e).1)
              have HF := Lib.hid (show w7.ownsRow w.heap.size 5 1 (.slice ra' (l.length + 1) rc') (l ++ [r.toNat.toUInt8]).length (Lib.byteCells (l ++ [r.toNat.toUInt8])) from by
                rw [← byteCells_snocV l r hr0 hr1, List.length_append, List.length_singleton]; exact hown')
              clear hown' hgrow hown6 hT6 hKK2 hb6
              go_wp2_with fail
              go_roundg (c - 1).toNat
              case measure => omega
              case rel =>
                exact ⟨l ++ [r.toNat.toUInt8], c - 1, rfl, by omega, by omega, by simp; omega, HF.out, hT7, hK7⟩
            · have hcz : ¬ c > 0 := by omega
              have hcv := bytes_conv hown
              obtain ⟨ra, rc, rfl⟩ := row_slice hown
              go_wp2_with fail
              go_ret
              exact ⟨_, rfl, by show l.toArray.size ≤ 100; simp; omega, hT, hK⟩
end Go.Proofs.YthkoaakicdhnpaaGreat

namespace Go.Proofs.YthkoaakicdhnpaaGreat
open Go.RowKit

def RowS (n : Nat) (u : Value) (w : World) : Prop := ∃ (N : Nat) (L : List ByteArray), u = .slice (some ⟨N, 0, none⟩) L.length L.length ∧ Holds w N (L.map Value.string).toArray 9 ∧ L.length = n ∧ ∀ s ∈ L, s.size ≤ 1000
def PtrS (u : Value) (w : World) : Prop := ∃ (N : Nat) (L : List ByteArray) (z : Nat), u = .pointer (some ⟨N, z, none⟩) ∧ Holds w N (L.map Value.string).toArray 9 ∧ z < L.length ∧ ∀ s ∈ L, s.size ≤ 1000
def TreeE (base : Nat) (u : Value) (w : World) : Prop := ∃ v T er, u = .tuple #[.agg #[v], .int .i64 er] ∧ TreeRow w base v T
def TreeA (base : Nat) (u : Value) (w : World) : Prop := ∃ v T, u = .agg #[v] ∧ TreeRow w base v T
theorem ne_block {w : World} {N M : Nat} {cs ds : Array Value} {t s : TypeId} (h : Holds w N cs t) (h2 : Holds w M ds s) (hne : t ≠ s) : N ≠ M := by
  rintro rfl
  have := h.symm.trans h2
  injection this with this; injection this with _ this; exact hne this
theorem row_list {w : World} {N : Nat} {l : List Int} (h : Holds w N (l.map (Value.int .i64)).toArray 3) (hl : l.length ≤ 1000 := by decide) : ListAt w.heap.size w (.slice (some ⟨N, 0, none⟩) l.length l.length) l :=
  ⟨_, _, rfl, Nat.le_refl _, by omega, fun _ => ⟨N, 0, rfl, h.lt, fun i hi => row_at h i hi⟩⟩

noncomputable def adsOps (n : Nat) : Array Oper := (regOps (Tryz.f3.body.getD .skip) n).getD #[]
theorem adsR : inRow2 .any (adsOps 6) = true := by kernel_rfl
theorem adsRa : apartB (adsOps 6) = true := by kernel_rfl
theorem adsRn : (adsOps 6).size = 31 := by kernel_rfl
def AdF (base k b : Nat) (xa : Option Addr) (xc : Nat) (X : List NodeT) (N : Nat) (j : Nat) : Value → World → Prop := match j with
  | 0 => fun u _ => u = .agg #[.slice xa X.length xc]
  | 1 => fun u _ => u = .agg #[.slice xa X.length xc]
  | 2 => fun u _ => u = .int .i64 k
  | 3 => fun u _ => ∃ p, u = .string p
  | 4 => RowS 4
  | 5 => fun u _ => u = .pointer (some ⟨b, 0, none⟩)
  | 6 => NumV fun x => 0 ≤ x ∧ x < 4
  | 7 => PtrS
  | 8 => StrV 1000
  | 9 => RowV fun l => l = [2]
  | 10 => StrV 1000
  | 11 => RowV fun l => l = [1, 2]
  | 12 => StrV 1000
  | 13 => RowV fun l => l = [1073741824, 5, 7]
  | 14 => StrV 1000
  | 15 => fun u _ => u = .pointer (some ⟨b, 0, none⟩)
  | 16 => StrV 1000
  | 17 => RowV fun l => l = [4294967295, 1, 2, 3, 4, 5]
  | 18 => StrV 1000
  | 19 => RowS 6
  | 20 => fun u _ => u = .pointer (some ⟨b, 0, none⟩)
  | 21 => NumV fun x => 0 ≤ x ∧ x < 6
  | 22 => PtrS
  | 23 => StrV 1000
  | 24 => TreeE base
  | 25 => TreeE base
  | 26 => TreeA base
  | 27 => fun u _ => ∃ er, u = .int .i64 er
  | 28 => fun u w => u = .pointer (some ⟨N, 0, none⟩) ∧ ∃ x, Holds w N #[x] 25
  | 29 => fun _ w => ∃ v T, Holds w N #[v] 25 ∧ TreeRow w base v T
  | 30 => fun u _ => ∃ er, u = .int .i64 er
  | _ => fun _ _ => True
section
variable {base k b B : Nat} {xa : Option Addr} {xc : Nat} {X : List NodeT} {N : Nat} {w w' : World} {j : Nat} {u : Value}
theorem AdF.call (h : AdF base k b xa xc X N j u w) (ht : Tape B w b) (kk : Keeps (fun i => i = b) w w') : AdF base k b xa xc X N j u w' := by
  obtain ⟨cs, hH⟩ := ht.holds
  unfold AdF at *
  split at h
  all_goals first
    | exact h
    | (obtain ⟨M, L, e, hL, r⟩ := h; exact ⟨M, L, e, hL.keeps kk (ne_block hL hH (by decide)), r⟩)
    | (obtain ⟨M, L, z, e, hL, r⟩ := h; exact ⟨M, L, z, e, hL.keeps kk (ne_block hL hH (by decide)), r⟩)
    | (obtain ⟨v, T, er, e, hr⟩ := h; exact ⟨v, T, er, e, hr.tape ht kk⟩)
    | (obtain ⟨v, T, e, hr⟩ := h; exact ⟨v, T, e, hr.tape ht kk⟩)
    | (obtain ⟨e, x, hx⟩ := h; exact ⟨e, x, hx.keeps kk (ne_block hx hH (by decide))⟩)
    | (obtain ⟨v, T, hx, hr⟩ := h; exact ⟨v, T, hx.keeps kk (ne_block hx hH (by decide)), hr.tape ht kk⟩)
theorem AdF.new (h : AdF base k b xa xc X N j u w) (kb : Below w.heap.size w w') : AdF base k b xa xc X N j u w' := by
  have kk := Keeps.of_fresh kb (fun _ => False)
  unfold AdF at *
  split at h
  all_goals first
    | exact h
    | (obtain ⟨M, L, e, hL, r⟩ := h; exact ⟨M, L, e, hL.keeps kk (fun e => e), r⟩)
    | (obtain ⟨M, L, z, e, hL, r⟩ := h; exact ⟨M, L, z, e, hL.keeps kk (fun e => e), r⟩)
    | (obtain ⟨v, T, er, e, hr⟩ := h; exact ⟨v, T, er, e, hr.new kb⟩)
    | (obtain ⟨v, T, e, hr⟩ := h; exact ⟨v, T, e, hr.new kb⟩)
    | (obtain ⟨e, x, hx⟩ := h; exact ⟨e, x, hx.keeps kk (fun e => e)⟩)
    | (obtain ⟨v, T, hx, hr⟩ := h; exact ⟨v, T, hx.keeps kk (fun e => e), hr.new kb⟩)
theorem AdF.store {x v2 : Value} {T2 : List NodeT} (h : AdF base k b xa xc X N j u w) (hH : Holds w N #[x] 25) (hr2 : TreeRow w base v2 T2) : AdF base k b xa xc X N j u (w.setCell ⟨N, 0, none⟩ v2) := by
  unfold AdF at *
  split at h
  all_goals first
    | exact h
    | (obtain ⟨M, L, e, hL, r⟩ := h; exact ⟨M, L, e, hL.other _ _ (ne_block hL hH (by decide)), r⟩)
    | (obtain ⟨M, L, z, e, hL, r⟩ := h; exact ⟨M, L, z, e, hL.other _ _ (ne_block hL hH (by decide)), r⟩)
    | (obtain ⟨v, T, er, e, hr⟩ := h; exact ⟨v, T, er, e, hr.set hH (by decide) (by decide) 0 v2⟩)
    | (obtain ⟨v, T, e, hr⟩ := h; exact ⟨v, T, e, hr.set hH (by decide) (by decide) 0 v2⟩)
    | (obtain ⟨e, y, hy⟩ := h; exact ⟨e, _, hy.set 0 v2⟩)
    | exact ⟨v2, T2, hH.set 0 v2, hr2.set hH (by decide) (by decide) 0 v2⟩
theorem AdF.ghost {N2 : Nat} (h : AdF base k b xa xc X N j u w) (h28 : j ≠ 28) (h29 : j ≠ 29) : AdF base k b xa xc X N2 j u w := by
  unfold AdF at *
  split at h
  all_goals first
    | exact absurd rfl h28
    | exact absurd rfl h29
    | exact h
end

set_option maxHeartbeats 4000000 in
set_option maxRecDepth 100000 in
theorem ads_region {Q : Exit → Act → World → Prop} (B b base k Xb : Nat) (xa : Option Addr) (xc : Nat) (X : List NodeT) (W w : World) (Ac : Act) (hsz : Ac.tmps.size = 234) (hbase : base ≤ W.heap.size) (hbW : b < W.heap.size) (hBW : B ≤ W.heap.size)
    (hXW : Holds W Xb #[.slice xa X.length xc] 25) (hxb : Xb ≠ b) (hXN : NodesIn (fun g => g ≠ b) W (.slice xa X.length xc) X)
    (a10 : Ac.tmps.getD 10 undef = .pointer (some ⟨Xb, 0, none⟩)) (a11 : Ac.tmps.getD 11 undef = .int .i64 k) (a9 : Ac.tmps.getD 9 undef = .pointer (some ⟨b, 0, none⟩))
    (hS : Tape B w b ∧ Keeps (fun i => i = b) W w)
    (hQ : ∀ c w' N v T er, SameBut (adsOps 6) Ac c → Tape B w' b → Keeps (fun i => i = b) W w' → c.tmps.getD 12 undef = .pointer (some ⟨N, 0, none⟩) → c.tmps.getD 13 undef = .int .i64 er → W.heap.size ≤ N → Holds w' N #[v] 25 → TreeRow w' base v T → Q .normal c w') :
    wpAny Tryz.prog .any (adsOps 6) Q (adsOps 6).size (Array.replicate (adsOps 6).size false) Ac w := by
  refine wpAny_inv2 (fun l c wx => ∃ N, RInv (adsOps 6) Ac (AdF base k b xa xc X N) (fun wx => Tape B wx b ∧ Keeps (fun i => i = b) W wx) l c wx ∧ W.heap.size ≤ N) adsR ?hend ?hstep _ _ _ _ (by simp) (by simp) ⟨W.heap.size, RInv.start hS, Nat.le_refl _⟩
  case hend =>
    rintro l c wx ⟨N, hI, hNq⟩ hl
    have hh : ∀ k, k < 31 → l.getD k false = true := fun k hk => hl k (by rw [adsRn]; exact hk)
    obtain ⟨e28, _⟩ : c.tmps.getD 12 undef = .pointer (some ⟨N, 0, none⟩) ∧ ∃ x, Holds wx N #[x] 25 := hI.fact 28 12 rfl (hh 28 (by decide))
    obtain ⟨er, e30⟩ : ∃ er, c.tmps.getD 13 undef = .int .i64 er := hI.fact 30 13 rfl (hh 30 (by decide))
    obtain ⟨v, T, hx, hr⟩ : ∃ v T, Holds wx N #[v] 25 ∧ TreeRow wx base v T := hI.2.2.2 29 (by rw [adsRn]; decide) (hh 29 (by decide))
    exact hQ c wx N v T er hI.1 hI.2.1.1 hI.2.1.2 e28 e30 hNq hx hr
  rintro l c wx ⟨N, hI, hNq⟩ i' op ho hl hall K' hK'
  have hi : i' < 31 := by rw [← adsRn]; exact (Array.getElem?_eq_some_iff.1 ho).1
  simp only [adsOps, regOps, Tryz.f3, Option.getD_some, reduceIte, Nat.reduceEqDiff] at ho
  have hS := hI.2.1
  have s10 := (hI.slot 10 (by kernel_rfl)).trans a10
  have s11 := (hI.slot 11 (by kernel_rfl)).trans a11
  have s9 := (hI.slot 9 (by kernel_rfl)).trans a9
  simp only [Array.getD_eq_getD_getElem?] at s10 s11 s9
  have hic : i' = 0 ∨ i' = 1 ∨ i' = 2 ∨ i' = 3 ∨ i' = 4 ∨ i' = 5 ∨ i' = 6 ∨ i' = 7 ∨ i' = 8 ∨ i' = 9 ∨ i' = 10 ∨ i' = 11 ∨ i' = 12 ∨ i' = 13 ∨ i' = 14 ∨ i' = 15 ∨ i' = 16 ∨ i' = 17 ∨ i' = 18 ∨ i' = 19 ∨ i' = 20 ∨ i' = 21 ∨ i' = 22 ∨ i' = 23 ∨ i' = 24 ∨ i' = 25 ∨ i' = 26 ∨ i' = 27 ∨ i' = 28 ∨ i' = 29 ∨ i' = 30 := by omega
  rcases hic with rfl | rfl | rfl | rfl | rfl | rfl | rfl | rfl | rfl | rfl | rfl | rfl | rfl | rfl | rfl | rfl | rfl | rfl | rfl | rfl | rfl | rfl | rfl | rfl | rfl | rfl | rfl | rfl | rfl | rfl | rfl
  all_goals cases ho
  · have c0 := (hXW.keeps hS.2 hxb).cell 0
    have cl := (hXW.keeps hS.2 hxb).lt
    go_simp
    exact hK' _ _ ⟨N, hI.step adsRa 0 54 rfl (by rw [hsz]; decide) _ _ rfl hall hS (fun _ _ h => h) rfl, hNq⟩
  · have c0 := (hXW.keeps hS.2 hxb).cell 0
    have cl := (hXW.keeps hS.2 hxb).lt
    go_simp
    exact hK' _ _ ⟨N, hI.step adsRa 1 55 rfl (by rw [hsz]; decide) _ _ rfl hall hS (fun _ _ h => h) rfl, hNq⟩
  · go_simp
    exact hK' _ _ ⟨N, hI.step adsRa 2 56 rfl (by rw [hsz]; decide) _ _ rfl hall hS (fun _ _ h => h) rfl, hNq⟩
  · have e1 : c.tmps.getD 55 undef = .agg #[.slice xa X.length xc] := hI.fact 1 55 rfl (listed hall 1 (by kernel_rfl))
    simp only [Array.getD_eq_getD_getElem?] at e1
    have e2 : c.tmps.getD 56 undef = .int .i64 k := hI.fact 2 56 rfl (listed hall 2 (by kernel_rfl))
    simp only [Array.getD_eq_getD_getElem?] at e2
    go_simp
    refine (ref3_Path _ (.slice xa X.length xc) X k wx (hXN.keeps hS.2 (fun _ h e => h e))).mono ?_
    rintro e w2 ⟨rfl, hb2⟩
    go_simp
    have hS2 : Tape B w2 b ∧ Keeps (fun i => i = b) W w2 := ⟨hS.1.new hb2, hS.2.trans (Keeps.of_fresh hb2 _) (fun _ _ e => e)⟩
    exact hK' _ _ ⟨N, hI.step adsRa 3 57 rfl (by rw [hsz]; decide) _ _ rfl hall hS2 (fun _ _ h => AdF.new h hb2) ⟨_, rfl⟩, hNq⟩
  · go_simp
    have hb2 : Below wx.heap.size wx (wx.alloc (.cells #[.string ⟨#[114, 101, 103]⟩, .string ⟨#[114, 97, 110, 103, 101, 115]⟩, .string ⟨#[35, 97, 100, 100, 114, 101, 115, 115, 45, 99, 101, 108, 108, 115]⟩, .string ⟨#[35, 115, 105, 122, 101, 45, 99, 101, 108, 108, 115]⟩] 9)) := (Below.refl _ _).alloc (Nat.le_refl _) _
    have hS2 : Tape B (wx.alloc (.cells #[.string ⟨#[114, 101, 103]⟩, .string ⟨#[114, 97, 110, 103, 101, 115]⟩, .string ⟨#[35, 97, 100, 100, 114, 101, 115, 115, 45, 99, 101, 108, 108, 115]⟩, .string ⟨#[35, 115, 105, 122, 101, 45, 99, 101, 108, 108, 115]⟩] 9)) b ∧ Keeps (fun i => i = b) W (wx.alloc (.cells #[.string ⟨#[114, 101, 103]⟩, .string ⟨#[114, 97, 110, 103, 101, 115]⟩, .string ⟨#[35, 97, 100, 100, 114, 101, 115, 115, 45, 99, 101, 108, 108, 115]⟩, .string ⟨#[35, 115, 105, 122, 101, 45, 99, 101, 108, 108, 115]⟩] 9)) := ⟨hS.1.new hb2, hS.2.trans (Keeps.of_fresh hb2 _) (fun _ _ e => e)⟩
    exact hK' _ _ ⟨N, hI.step adsRa 4 58 rfl (by rw [hsz]; decide) _ _ rfl hall hS2 (fun _ _ h => AdF.new h hb2) ⟨wx.heap.size, [⟨#[114, 101, 103]⟩, ⟨#[114, 97, 110, 103, 101, 115]⟩, ⟨#[35, 97, 100, 100, 114, 101, 115, 115, 45, 99, 101, 108, 108, 115]⟩, ⟨#[35, 115, 105, 122, 101, 45, 99, 101, 108, 108, 115]⟩], rfl, Holds.new _ _ _, rfl, by decide⟩, hNq⟩
  · go_simp
    exact hK' _ _ ⟨N, hI.step adsRa 5 59 rfl (by rw [hsz]; decide) _ _ rfl hall hS (fun _ _ h => h) rfl, hNq⟩
  · have e5 : c.tmps.getD 59 undef = .pointer (some ⟨b, 0, none⟩) := hI.fact 5 59 rfl (listed hall 5 (by kernel_rfl))
    simp only [Array.getD_eq_getD_getElem?] at e5
    go_simp
    refine (mk_N B b 4 wx hS.1 (by omega) (by omega)).mono ?_
    rintro e w2 ⟨r, rfl, h0, h1, ht2, k2⟩
    go_simp
    have hS2 : Tape B w2 b ∧ Keeps (fun i => i = b) W w2 := ⟨ht2, hS.2.trans k2 (fun _ _ e => e)⟩
    exact hK' _ _ ⟨N, hI.step adsRa 6 60 rfl (by rw [hsz]; decide) _ _ rfl hall hS2 (fun _ _ h => AdF.call h hS.1 k2) ⟨r, rfl, h0, h1⟩, hNq⟩
  · obtain ⟨M4, L4, e4, hL4, hl4, hs4⟩ : RowS 4 (c.tmps.getD 58 undef) wx := hI.fact 4 58 rfl (listed hall 4 (by kernel_rfl))
    simp only [Array.getD_eq_getD_getElem?] at e4
    obtain ⟨z6, e6, a6, b6⟩ : NumV (fun x => 0 ≤ x ∧ x < 4) (c.tmps.getD 60 undef) wx := hI.fact 6 60 rfl (listed hall 6 (by kernel_rfl))
    simp only [Array.getD_eq_getD_getElem?] at e6
    obtain ⟨z, rfl⟩ := Int.eq_ofNat_of_zero_le a6
    have hzl : z < L4.length := by omega
    have hzi : (z : Int) < (L4.length : Int) := by omega
    have hl0 := Lib.hid hl4
    clear hl4
    go_simp
    exact hK' _ _ ⟨N, hI.step adsRa 7 61 rfl (by rw [hsz]; decide) _ _ rfl hall hS (fun _ _ h => h) ⟨M4, L4, z, rfl, hL4, hzl, hs4⟩, hNq⟩
  · obtain ⟨M7, L7, z7, e7, hL7, hz7, hs7⟩ : PtrS (c.tmps.getD 61 undef) wx := hI.fact 7 61 rfl (listed hall 7 (by kernel_rfl))
    simp only [Array.getD_eq_getD_getElem?] at e7
    have hc : wx.cell? ⟨M7, z7, none⟩ = some (.string L7[z7]) := by rw [hL7.cell z7]; simp [hz7]
    have hlt := hL7.lt
    go_simp
    exact hK' _ _ ⟨N, hI.step adsRa 8 62 rfl (by rw [hsz]; decide) _ _ rfl hall hS (fun _ _ h => h) ⟨_, rfl, hs7 _ (List.getElem_mem hz7)⟩, hNq⟩
  · go_simp
    have hb2 : Below wx.heap.size wx (wx.alloc (.cells #[.int .i64 2] 3)) := (Below.refl _ _).alloc (Nat.le_refl _) _
    have hS2 : Tape B (wx.alloc (.cells #[.int .i64 2] 3)) b ∧ Keeps (fun i => i = b) W (wx.alloc (.cells #[.int .i64 2] 3)) := ⟨hS.1.new hb2, hS.2.trans (Keeps.of_fresh hb2 _) (fun _ _ e => e)⟩
    exact hK' _ _ ⟨N, hI.step adsRa 9 63 rfl (by rw [hsz]; decide) _ _ rfl hall hS2 (fun _ _ h => AdF.new h hb2) ⟨wx.heap.size, [2], rfl, Holds.new _ _ _, rfl⟩, hNq⟩
  · obtain ⟨M9, l9, e9, hL9, pl9⟩ : RowV (fun l => l = [2]) (c.tmps.getD 63 undef) wx := hI.fact 9 63 rfl (listed hall 9 (by kernel_rfl))
    subst pl9
    simp only [Array.getD_eq_getD_getElem?] at e9
    go_simp
    refine (grow_Cells [2] _ wx (row_list hL9) (by decide) (by decide)).mono ?_
    rintro e w2 ⟨rfl, hb2⟩
    go_simp
    have hS2 : Tape B w2 b ∧ Keeps (fun i => i = b) W w2 := ⟨hS.1.new hb2, hS.2.trans (Keeps.of_fresh hb2 _) (fun _ _ e => e)⟩
    exact hK' _ _ ⟨N, hI.step adsRa 10 64 rfl (by rw [hsz]; decide) _ _ rfl hall hS2 (fun _ _ h => AdF.new h hb2) ⟨_, rfl, by decide⟩, hNq⟩
  · go_simp
    have hb2 : Below wx.heap.size wx (wx.alloc (.cells #[.int .i64 1, .int .i64 2] 3)) := (Below.refl _ _).alloc (Nat.le_refl _) _
    have hS2 : Tape B (wx.alloc (.cells #[.int .i64 1, .int .i64 2] 3)) b ∧ Keeps (fun i => i = b) W (wx.alloc (.cells #[.int .i64 1, .int .i64 2] 3)) := ⟨hS.1.new hb2, hS.2.trans (Keeps.of_fresh hb2 _) (fun _ _ e => e)⟩
    exact hK' _ _ ⟨N, hI.step adsRa 11 65 rfl (by rw [hsz]; decide) _ _ rfl hall hS2 (fun _ _ h => AdF.new h hb2) ⟨wx.heap.size, [1, 2], rfl, Holds.new _ _ _, rfl⟩, hNq⟩
  · obtain ⟨M11, l11, e11, hL11, pl11⟩ : RowV (fun l => l = [1, 2]) (c.tmps.getD 65 undef) wx := hI.fact 11 65 rfl (listed hall 11 (by kernel_rfl))
    subst pl11
    simp only [Array.getD_eq_getD_getElem?] at e11
    go_simp
    refine (grow_Cells [1, 2] _ wx (row_list hL11) (by decide) (by decide)).mono ?_
    rintro e w2 ⟨rfl, hb2⟩
    go_simp
    have hS2 : Tape B w2 b ∧ Keeps (fun i => i = b) W w2 := ⟨hS.1.new hb2, hS.2.trans (Keeps.of_fresh hb2 _) (fun _ _ e => e)⟩
    exact hK' _ _ ⟨N, hI.step adsRa 12 66 rfl (by rw [hsz]; decide) _ _ rfl hall hS2 (fun _ _ h => AdF.new h hb2) ⟨_, rfl, by decide⟩, hNq⟩
  · go_simp
    have hb2 : Below wx.heap.size wx (wx.alloc (.cells #[.int .i64 1073741824, .int .i64 5, .int .i64 7] 3)) := (Below.refl _ _).alloc (Nat.le_refl _) _
    have hS2 : Tape B (wx.alloc (.cells #[.int .i64 1073741824, .int .i64 5, .int .i64 7] 3)) b ∧ Keeps (fun i => i = b) W (wx.alloc (.cells #[.int .i64 1073741824, .int .i64 5, .int .i64 7] 3)) := ⟨hS.1.new hb2, hS.2.trans (Keeps.of_fresh hb2 _) (fun _ _ e => e)⟩
    exact hK' _ _ ⟨N, hI.step adsRa 13 67 rfl (by rw [hsz]; decide) _ _ rfl hall hS2 (fun _ _ h => AdF.new h hb2) ⟨wx.heap.size, [1073741824, 5, 7], rfl, Holds.new _ _ _, rfl⟩, hNq⟩
  · obtain ⟨M13, l13, e13, hL13, pl13⟩ : RowV (fun l => l = [1073741824, 5, 7]) (c.tmps.getD 67 undef) wx := hI.fact 13 67 rfl (listed hall 13 (by kernel_rfl))
    subst pl13
    simp only [Array.getD_eq_getD_getElem?] at e13
    go_simp
    refine (grow_Cells [1073741824, 5, 7] _ wx (row_list hL13) (by decide) (by decide)).mono ?_
    rintro e w2 ⟨rfl, hb2⟩
    go_simp
    have hS2 : Tape B w2 b ∧ Keeps (fun i => i = b) W w2 := ⟨hS.1.new hb2, hS.2.trans (Keeps.of_fresh hb2 _) (fun _ _ e => e)⟩
    exact hK' _ _ ⟨N, hI.step adsRa 14 68 rfl (by rw [hsz]; decide) _ _ rfl hall hS2 (fun _ _ h => AdF.new h hb2) ⟨_, rfl, by decide⟩, hNq⟩
  · go_simp
    exact hK' _ _ ⟨N, hI.step adsRa 15 69 rfl (by rw [hsz]; decide) _ _ rfl hall hS (fun _ _ h => h) rfl, hNq⟩
  · have e15 : c.tmps.getD 69 undef = .pointer (some ⟨b, 0, none⟩) := hI.fact 15 69 rfl (listed hall 15 (by kernel_rfl))
    simp only [Array.getD_eq_getD_getElem?] at e15
    go_simp
    refine (grow_Value B b wx hS.1).mono ?_
    rintro e w2 ⟨s, rfl, hs, ht2, k2⟩
    go_simp
    have hS2 : Tape B w2 b ∧ Keeps (fun i => i = b) W w2 := ⟨ht2, hS.2.trans k2 (fun _ _ e => e)⟩
    exact hK' _ _ ⟨N, hI.step adsRa 16 70 rfl (by rw [hsz]; decide) _ _ rfl hall hS2 (fun _ _ h => AdF.call h hS.1 k2) ⟨s, rfl, by omega⟩, hNq⟩
  · go_simp
    have hb2 : Below wx.heap.size wx (wx.alloc (.cells #[.int .i64 4294967295, .int .i64 1, .int .i64 2, .int .i64 3, .int .i64 4, .int .i64 5] 3)) := (Below.refl _ _).alloc (Nat.le_refl _) _
    have hS2 : Tape B (wx.alloc (.cells #[.int .i64 4294967295, .int .i64 1, .int .i64 2, .int .i64 3, .int .i64 4, .int .i64 5] 3)) b ∧ Keeps (fun i => i = b) W (wx.alloc (.cells #[.int .i64 4294967295, .int .i64 1, .int .i64 2, .int .i64 3, .int .i64 4, .int .i64 5] 3)) := ⟨hS.1.new hb2, hS.2.trans (Keeps.of_fresh hb2 _) (fun _ _ e => e)⟩
    exact hK' _ _ ⟨N, hI.step adsRa 17 71 rfl (by rw [hsz]; decide) _ _ rfl hall hS2 (fun _ _ h => AdF.new h hb2) ⟨wx.heap.size, [4294967295, 1, 2, 3, 4, 5], rfl, Holds.new _ _ _, rfl⟩, hNq⟩
  · obtain ⟨M17, l17, e17, hL17, pl17⟩ : RowV (fun l => l = [4294967295, 1, 2, 3, 4, 5]) (c.tmps.getD 71 undef) wx := hI.fact 17 71 rfl (listed hall 17 (by kernel_rfl))
    subst pl17
    simp only [Array.getD_eq_getD_getElem?] at e17
    go_simp
    refine (grow_Cells [4294967295, 1, 2, 3, 4, 5] _ wx (row_list hL17) (by decide) (by decide)).mono ?_
    rintro e w2 ⟨rfl, hb2⟩
    go_simp
    have hS2 : Tape B w2 b ∧ Keeps (fun i => i = b) W w2 := ⟨hS.1.new hb2, hS.2.trans (Keeps.of_fresh hb2 _) (fun _ _ e => e)⟩
    exact hK' _ _ ⟨N, hI.step adsRa 18 72 rfl (by rw [hsz]; decide) _ _ rfl hall hS2 (fun _ _ h => AdF.new h hb2) ⟨_, rfl, by decide⟩, hNq⟩
  · obtain ⟨s10, e10, hs10⟩ : StrV 1000 (c.tmps.getD 64 undef) wx := hI.fact 10 64 rfl (listed hall 10 (by kernel_rfl))
    simp only [Array.getD_eq_getD_getElem?] at e10
    obtain ⟨s12, e12, hs12⟩ : StrV 1000 (c.tmps.getD 66 undef) wx := hI.fact 12 66 rfl (listed hall 12 (by kernel_rfl))
    simp only [Array.getD_eq_getD_getElem?] at e12
    obtain ⟨s14, e14, hs14⟩ : StrV 1000 (c.tmps.getD 68 undef) wx := hI.fact 14 68 rfl (listed hall 14 (by kernel_rfl))
    simp only [Array.getD_eq_getD_getElem?] at e14
    obtain ⟨s16, e16, hs16⟩ : StrV 1000 (c.tmps.getD 70 undef) wx := hI.fact 16 70 rfl (listed hall 16 (by kernel_rfl))
    simp only [Array.getD_eq_getD_getElem?] at e16
    obtain ⟨s18, e18, hs18⟩ : StrV 1000 (c.tmps.getD 72 undef) wx := hI.fact 18 72 rfl (listed hall 18 (by kernel_rfl))
    simp only [Array.getD_eq_getD_getElem?] at e18
    go_simp
    have hb2 : Below wx.heap.size wx (wx.alloc (.cells #[.string ⟨#[]⟩, .string s10, .string s12, .string s14, .string s16, .string s18] 9)) := (Below.refl _ _).alloc (Nat.le_refl _) _
    have hS2 : Tape B (wx.alloc (.cells #[.string ⟨#[]⟩, .string s10, .string s12, .string s14, .string s16, .string s18] 9)) b ∧ Keeps (fun i => i = b) W (wx.alloc (.cells #[.string ⟨#[]⟩, .string s10, .string s12, .string s14, .string s16, .string s18] 9)) := ⟨hS.1.new hb2, hS.2.trans (Keeps.of_fresh hb2 _) (fun _ _ e => e)⟩
    exact hK' _ _ ⟨N, hI.step adsRa 19 73 rfl (by rw [hsz]; decide) _ _ rfl hall hS2 (fun _ _ h => AdF.new h hb2) ⟨wx.heap.size, [⟨#[]⟩, s10, s12, s14, s16, s18], rfl, Holds.new _ _ _, rfl, by intro s hs; simp at hs; rcases hs with rfl | rfl | rfl | rfl | rfl | rfl; decide; all_goals assumption⟩, hNq⟩
  · go_simp
    exact hK' _ _ ⟨N, hI.step adsRa 20 74 rfl (by rw [hsz]; decide) _ _ rfl hall hS (fun _ _ h => h) rfl, hNq⟩
  · have e20 : c.tmps.getD 74 undef = .pointer (some ⟨b, 0, none⟩) := hI.fact 20 74 rfl (listed hall 20 (by kernel_rfl))
    simp only [Array.getD_eq_getD_getElem?] at e20
    go_simp
    refine (mk_N B b 6 wx hS.1 (by omega) (by omega)).mono ?_
    rintro e w2 ⟨r, rfl, h0, h1, ht2, k2⟩
    go_simp
    have hS2 : Tape B w2 b ∧ Keeps (fun i => i = b) W w2 := ⟨ht2, hS.2.trans k2 (fun _ _ e => e)⟩
    exact hK' _ _ ⟨N, hI.step adsRa 21 75 rfl (by rw [hsz]; decide) _ _ rfl hall hS2 (fun _ _ h => AdF.call h hS.1 k2) ⟨r, rfl, h0, h1⟩, hNq⟩
  · obtain ⟨M19, L19, e19, hL19, hl19, hs19⟩ : RowS 6 (c.tmps.getD 73 undef) wx := hI.fact 19 73 rfl (listed hall 19 (by kernel_rfl))
    simp only [Array.getD_eq_getD_getElem?] at e19
    obtain ⟨z21, e21, a21, b21⟩ : NumV (fun x => 0 ≤ x ∧ x < 6) (c.tmps.getD 75 undef) wx := hI.fact 21 75 rfl (listed hall 21 (by kernel_rfl))
    simp only [Array.getD_eq_getD_getElem?] at e21
    obtain ⟨z, rfl⟩ := Int.eq_ofNat_of_zero_le a21
    have hzl : z < L19.length := by omega
    have hzi : (z : Int) < (L19.length : Int) := by omega
    have hl0 := Lib.hid hl19
    clear hl19
    go_simp
    exact hK' _ _ ⟨N, hI.step adsRa 22 76 rfl (by rw [hsz]; decide) _ _ rfl hall hS (fun _ _ h => h) ⟨M19, L19, z, rfl, hL19, hzl, hs19⟩, hNq⟩
  · obtain ⟨M22, L22, z22, e22, hL22, hz22, hs22⟩ : PtrS (c.tmps.getD 76 undef) wx := hI.fact 22 76 rfl (listed hall 22 (by kernel_rfl))
    simp only [Array.getD_eq_getD_getElem?] at e22
    have hc : wx.cell? ⟨M22, z22, none⟩ = some (.string L22[z22]) := by rw [hL22.cell z22]; simp [hz22]
    have hlt := hL22.lt
    go_simp
    exact hK' _ _ ⟨N, hI.step adsRa 23 77 rfl (by rw [hsz]; decide) _ _ rfl hall hS (fun _ _ h => h) ⟨_, rfl, hs22 _ (List.getElem_mem hz22)⟩, hNq⟩
  · have e0 : c.tmps.getD 54 undef = .agg #[.slice xa X.length xc] := hI.fact 0 54 rfl (listed hall 0 (by kernel_rfl))
    simp only [Array.getD_eq_getD_getElem?] at e0
    obtain ⟨p, e3⟩ : ∃ p, c.tmps.getD 57 undef = .string p := hI.fact 3 57 rfl (listed hall 3 (by kernel_rfl))
    simp only [Array.getD_eq_getD_getElem?] at e3
    obtain ⟨s8, e8, hs8⟩ : StrV 1000 (c.tmps.getD 62 undef) wx := hI.fact 8 62 rfl (listed hall 8 (by kernel_rfl))
    simp only [Array.getD_eq_getD_getElem?] at e8
    obtain ⟨s23, e23, hs23⟩ : StrV 1000 (c.tmps.getD 77 undef) wx := hI.fact 23 77 rfl (listed hall 23 (by kernel_rfl))
    simp only [Array.getD_eq_getD_getElem?] at e23
    go_simp
    refine (ref3_Set (fun g => g ≠ b) (.slice xa X.length xc) X p s8 s23 wx (hXN.keeps hS.2 (fun _ h e => h e)) (by omega) (by omega)).mono ?_
    rintro e w2 ⟨v2, rfl, hr2, hb2⟩
    go_simp
    have hS2 : Tape B w2 b ∧ Keeps (fun i => i = b) W w2 := ⟨hS.1.new hb2, hS.2.trans (Keeps.of_fresh hb2 _) (fun _ _ e => e)⟩
    have hr3 := hr2.base (Nat.le_trans hbase hS.2.size)
    exact hK' _ _ ⟨N, hI.step adsRa 24 78 rfl (by rw [hsz]; decide) _ _ rfl hall hS2 (fun _ _ h => AdF.new h hb2) ⟨_, _, _, rfl, hr3⟩, hNq⟩
  · obtain ⟨v24, T24, er24, e24, hr24⟩ : TreeE base (c.tmps.getD 78 undef) wx := hI.fact 24 78 rfl (listed hall 24 (by kernel_rfl))
    obtain ⟨ta24, tc24, rfl⟩ := hr24.slice
    simp only [Array.getD_eq_getD_getElem?] at e24
    go_simp
    exact hK' _ _ ⟨N, hI.step adsRa 25 53 rfl (by rw [hsz]; decide) _ _ rfl hall hS (fun _ _ h => h) ⟨_, _, _, rfl, hr24⟩, hNq⟩
  · obtain ⟨v25, T25, er25, e25, hr25⟩ : TreeE base (c.tmps.getD 53 undef) wx := hI.fact 25 53 rfl (listed hall 25 (by kernel_rfl))
    obtain ⟨ta25, tc25, rfl⟩ := hr25.slice
    simp only [Array.getD_eq_getD_getElem?] at e25
    go_simp
    exact hK' _ _ ⟨N, hI.step adsRa 26 79 rfl (by rw [hsz]; decide) _ _ rfl hall hS (fun _ _ h => h) ⟨_, _, rfl, hr25⟩, hNq⟩
  · obtain ⟨v25, T25, er25, e25, hr25⟩ : TreeE base (c.tmps.getD 53 undef) wx := hI.fact 25 53 rfl (listed hall 25 (by kernel_rfl))
    obtain ⟨ta25, tc25, rfl⟩ := hr25.slice
    simp only [Array.getD_eq_getD_getElem?] at e25
    go_simp
    exact hK' _ _ ⟨N, hI.step adsRa 27 80 rfl (by rw [hsz]; decide) _ _ rfl hall hS (fun _ _ h => h) ⟨_, rfl⟩, hNq⟩
  · go_simp
    have hb2 : Below wx.heap.size wx (wx.alloc (.cells #[.slice none 0 0] 25)) := (Below.refl _ _).alloc (Nat.le_refl _) _
    have hS2 : Tape B (wx.alloc (.cells #[.slice none 0 0] 25)) b ∧ Keeps (fun i => i = b) W (wx.alloc (.cells #[.slice none 0 0] 25)) := ⟨hS.1.new hb2, hS.2.trans (Keeps.of_fresh hb2 _) (fun _ _ e => e)⟩
    have u29 := hI.2.2.1.2.unlisted hl (j := 29) (by kernel_rfl)
    have hNn : W.heap.size ≤ wx.heap.size := hS.2.size
    have hJ := hI.other (F' := AdF base k b xa xc X wx.heap.size) (fun j hj u hF => hF.ghost (yes_no hj hl) (yes_no hj u29))
    exact hK' _ _ ⟨wx.heap.size, hJ.step adsRa 28 12 rfl (by rw [hsz]; decide) _ _ rfl hall hS2 (fun _ _ h => AdF.new h hb2) ⟨rfl, _, Holds.new _ _ _⟩, hNn⟩
  · obtain ⟨e28, x28, hH28⟩ : c.tmps.getD 12 undef = .pointer (some ⟨N, 0, none⟩) ∧ ∃ x, Holds wx N #[x] 25 := hI.fact 28 12 rfl (listed hall 28 (by kernel_rfl))
    simp only [Array.getD_eq_getD_getElem?] at e28
    obtain ⟨v26, T26, e26, hr26⟩ : TreeA base (c.tmps.getD 79 undef) wx := hI.fact 26 79 rfl (listed hall 26 (by kernel_rfl))
    obtain ⟨ta26, tc26, rfl⟩ := hr26.slice
    simp only [Array.getD_eq_getD_getElem?] at e26
    have n0 := hH28.cell 0
    have nf := hH28.free 0
    have nlt := hH28.lt
    have hbN : N ≠ b := by have := hbW; omega
    go_simp
    have hS2 : Tape B (wx.setCell ⟨N, 0, none⟩ (.slice ta26 T26.length tc26)) b ∧ Keeps (fun i => i = b) W (wx.setCell ⟨N, 0, none⟩ (.slice ta26 T26.length tc26)) := ⟨hS.1.keeps (S := fun i => i = N) ((Keeps.refl (fun i => i = N) wx).setCell (p := ⟨N, 0, none⟩) (.inr rfl) _) (fun i e => by subst e; have := hS.1.1; exact ⟨by have := hBW; omega, hbN⟩), hS.2.setCell (p := ⟨N, 0, none⟩) (.inl hNq) _⟩
    exact hK' _ _ ⟨N, hI.stepN 29 rfl _ rfl hall hS2 (fun _ _ h => h.store hH28 hr26) ⟨_, _, hH28.set 0 _, hr26.set hH28 (by decide) (by decide) 0 _⟩, hNq⟩
  · obtain ⟨er27, e27⟩ : ∃ er, c.tmps.getD 80 undef = .int .i64 er := hI.fact 27 80 rfl (listed hall 27 (by kernel_rfl))
    simp only [Array.getD_eq_getD_getElem?] at e27
    go_simp
    exact hK' _ _ ⟨N, hI.step adsRa 30 13 rfl (by rw [hsz]; decide) _ _ rfl hall hS (fun _ _ h => h) ⟨_, rfl⟩, hNq⟩
end Go.Proofs.YthkoaakicdhnpaaGreat

namespace Go.Proofs.YthkoaakicdhnpaaGreat
open Go.RowKit

/-- A copied tree in the variable Z, its rows apart; the result variable; the tape. -/
def BentS (B b Z Rb : Nat) (v : Value) (T : List NodeT) (W w : World) : Prop :=
  Tape B w b ∧ Holds w Z #[v] 25 ∧ Holds w Rb #[.slice none 0 0] 25 ∧ TreeS w W.heap.size v T ∧ Keeps (fun i => i = b) W w ∧ b < W.heap.size ∧ W.heap.size ≤ Z ∧ Rb ≠ Z
/-- What Bent leaves in its variable. -/
def BentE (B b Z Rb N M : Nat) (W w : World) : Prop :=
  ∃ a c T', Holds w Z #[.slice a T'.length c] 25 ∧ Holds w Rb #[.slice none 0 0] 25 ∧ TreeRow w W.heap.size (.slice a T'.length c) T' ∧ T'.length ≤ N ∧ (∀ n ∈ T', n.props.length ≤ M) ∧ Tape B w b ∧ Keeps (fun i => i = b) W w
section
variable {B b Z Rb N M : Nat} {v : Value} {T : List NodeT} {W w w' : World}
theorem BentS.new (h : BentS B b Z Rb v T W w) (k : Below w.heap.size w w') : BentS B b Z Rb v T W w' := by
  obtain ⟨h1, h2, h3, h4, h5, h6⟩ := h
  have kk := Keeps.of_fresh k (fun _ => False)
  exact ⟨h1.new k, h2.keeps kk (fun e => e), h3.keeps kk (fun e => e), h4.new k, h5.trans (Keeps.of_fresh k _) (fun _ _ e => e), h6⟩
theorem BentS.call (h : BentS B b Z Rb v T W w) (hT : Tape B w' b) (k : Keeps (fun i => i = b) w w') : BentS B b Z Rb v T W w' := by
  obtain ⟨h1, h2, h3, h4, h5, h6⟩ := h
  obtain ⟨cs, hb⟩ := h1.holds
  refine ⟨hT, h2.keeps k (fun e => holds_ne h2 hb (by decide) e), h3.keeps k (fun e => holds_ne h3 hb (by decide) e), h4.keeps k (fun g e => .inr ⟨cs, 67, by subst e; exact hb, by decide, by decide⟩), h5.trans k (fun _ _ e => e), h6⟩
theorem BentS.drew (h : BentS B b Z Rb v T W w) : BentS B b Z Rb v T W w.drew := h.call (h.1.keeps ((Keeps.refl (fun _ => False) w).drew) (fun _ e => e.elim)) ((Keeps.refl _ w).drew)
theorem BentS.ends (h : BentS B b Z Rb v T W w) (hN : T.length ≤ N) (hM : ∀ n ∈ T, n.props.length ≤ M) : BentE B b Z Rb N M W w := by
  obtain ⟨h1, h2, h3, h4, h5, _⟩ := h
  obtain ⟨a, c, rfl⟩ := h4.row.slice
  exact ⟨a, c, T, h2, h3, h4.row, hN, hM, h1, h5⟩
end
theorem holds_row {w : World} {base b g n cap s : Nat} {e t : TypeId} {xs : List Value} {cs : Array Value} (hH : Holds w b cs t) (h : w.ownsRow base e s (.slice (some ⟨g, 0, none⟩) n cap) n xs) (hne : t ≠ e) : b ≠ g := fun x => owns_ne_holds h hH hne (by rw [x]; rfl)
/-- Any change of one cell of the nodes' row and of nothing else old. -/
theorem BentS.cell {B b Z Rb N M g cap k : Nat} {T T' : List NodeT} {W w : World} (h : BentS B b Z Rb (.slice (some ⟨g, 0, none⟩) T.length cap) T W w) (x : Value) (hl : T'.length = T.length) (hN : T.length ≤ N) (hM : ∀ n ∈ T', n.props.length ≤ M)
    (hr : TreeRow (w.setCell ⟨g, k, none⟩ x) W.heap.size (.slice (some ⟨g, 0, none⟩) T.length cap) T') : BentE B b Z Rb N M W (w.setCell ⟨g, k, none⟩ x) := by
  obtain ⟨h1, h2, h3, h4, h5, h6, h7, h8⟩ := h
  obtain ⟨_, pvs, q1, q2, q3, q4, q5⟩ := h4
  have hgW : W.heap.size ≤ g := (q2.lt g rfl).1
  have hBb := h1.1
  refine ⟨some ⟨g, 0, none⟩, cap, T', by rw [hl]; exact h2.other _ _ (holds_row h2 q2 (by decide)), h3.other _ _ (holds_row h3 q2 (by decide)), by rw [hl]; exact hr, by omega, hM, ?_, h5.setCell (p := ⟨g, k, none⟩) (.inl hgW) _⟩
  exact h1.keeps ((Keeps.refl (fun i => i = g) w).setCell (p := ⟨g, k, none⟩) (.inr rfl) x) (fun i e => by subst e; omega)
theorem nodeCells_set0 : ∀ (T : List NodeT) (pvs : List Value) (k : Nat) (hk : k < T.length) (x : Int), pvs.length = T.length →
    nodeCells (T.set k ⟨x, T[k].name, T[k].props⟩) pvs = (nodeCells T pvs).set (k * 3) (.int .i64 x)
  | n :: T, p :: pvs, 0, _, _, _ => rfl
  | n :: T, p :: pvs, k + 1, hk, x, h => by
    have := nodeCells_set0 T pvs k (by simpa using hk) x (by simpa using h)
    rw [show (k + 1) * 3 = k * 3 + 1 + 1 + 1 from by omega]
    simp only [List.set_cons_succ, nodeCells, List.getElem_cons_succ]
    rw [this]
theorem nodeCells_set1 : ∀ (T : List NodeT) (pvs : List Value) (k : Nat) (hk : k < T.length) (x : ByteArray), pvs.length = T.length →
    nodeCells (T.set k ⟨T[k].parent, x, T[k].props⟩) pvs = (nodeCells T pvs).set (k * 3 + 1) (.string x)
  | n :: T, p :: pvs, 0, _, _, _ => rfl
  | n :: T, p :: pvs, k + 1, hk, x, h => by
    have := nodeCells_set1 T pvs k (by simpa using hk) x (by simpa using h)
    rw [show (k + 1) * 3 + 1 = k * 3 + 1 + 1 + 1 + 1 from by omega]
    simp only [List.set_cons_succ, nodeCells, List.getElem_cons_succ]
    rw [this]
theorem nodeCells_take : ∀ (T : List NodeT) (pvs : List Value) (k : Nat), pvs.length = T.length → nodeCells (T.take k) (pvs.take k) = (nodeCells T pvs).take (k * 3)
  | [], [], k, _ => by simp [nodeCells]
  | n :: T, p :: pvs, 0, _ => by simp [nodeCells]
  | n :: T, p :: pvs, k + 1, h => by
    have := nodeCells_take T pvs k (by simpa using h)
    rw [show (k + 1) * 3 = k * 3 + 1 + 1 + 1 from by omega]
    simp only [List.take_succ_cons, nodeCells]
    rw [this]
/-- A node's number or name replaced. -/
theorem TreeRow.put01 {w : World} {base g n cap : Nat} {T : List NodeT} (h : TreeRow w base (.slice (some ⟨g, 0, none⟩) n cap) T) (k : Nat) (hk : k < T.length) (nd : NodeT) (hok : NodeOk nd) (hp : nd.props = T[k].props) (o : Nat) (x : Value)
    (hc : ∀ pvs : List Value, pvs.length = T.length → nodeCells (T.set k nd) pvs = (nodeCells T pvs).set o x) : TreeRow (w.setCell ⟨g, o, none⟩ x) base (.slice (some ⟨g, 0, none⟩) n cap) (T.set k nd) := by
  obtain ⟨pvs, h1, h2, h3, h4⟩ := h
  have hn : n = T.length := by
    rcases h2.2 with ⟨e, _⟩ | ⟨_, _, _, e, _⟩
    · cases e
    · cases e; rfl
  subst hn
  obtain ⟨s1, s2⟩ := h2.stored o x
  refine ⟨pvs, by simpa using h1, ?_, ?_, ?_⟩
  · rw [hc pvs h1, List.length_set]; exact s1
  · intro j hj hj2
    by_cases e : j = k
    · subst e
      simp only [List.getElem_set_self]
      rw [hp]
      exact (h3 j hk hj2).apart h2 s2 (by decide)
    · rw [List.getElem_set_ne (fun x => e x.symm)]
      exact (h3 j (by simpa using hj) hj2).apart h2 s2 (by decide)
  · intro m hm
    rcases List.mem_or_eq_of_mem_set hm with hm | rfl
    · exact h4 m hm
    · exact hok
theorem set_props {T : List NodeT} {M k : Nat} {nd : NodeT} (h : ∀ n ∈ T, n.props.length ≤ M) (h2 : nd.props.length ≤ M) : ∀ n ∈ T.set k nd, n.props.length ≤ M := fun n hn => by
  rcases List.mem_or_eq_of_mem_set hn with hm | rfl
  · exact h n hm
  · exact h2
theorem BentS.parent {B b Z Rb N M g cap k : Nat} {T : List NodeT} {W w : World} (h : BentS B b Z Rb (.slice (some ⟨g, 0, none⟩) T.length cap) T W w) (hk : k < T.length) (hN : T.length ≤ N) (hM : ∀ n ∈ T, n.props.length ≤ M) (x : Int) (hx : -9223372036854775808 ≤ x ∧ x ≤ 9223372036854775807) :
    BentE B b Z Rb N M W (w.setCell ⟨g, k * 3, none⟩ (.int .i64 x)) := by
  have hr := h.2.2.2.1.row
  obtain ⟨_, _, _, _, h4⟩ := id hr
  have hok := h4 T[k] (List.getElem_mem hk)
  exact h.cell _ (T' := T.set k ⟨x, T[k].name, T[k].props⟩) (by simp) hN (set_props hM (hM T[k] (List.getElem_mem hk))) (hr.put01 k hk ⟨x, T[k].name, T[k].props⟩ ⟨hok.1, hx.1, hx.2⟩ rfl _ _ (fun pvs hl => nodeCells_set0 T pvs k hk x hl))
theorem BentS.name {B b Z Rb N M g cap k : Nat} {T : List NodeT} {W w : World} (h : BentS B b Z Rb (.slice (some ⟨g, 0, none⟩) T.length cap) T W w) (hk : k < T.length) (hN : T.length ≤ N) (hM : ∀ n ∈ T, n.props.length ≤ M) (x : ByteArray) (hx : x.size ≤ 9223372036854775807) :
    BentE B b Z Rb N M W (w.setCell ⟨g, k * 3 + 1, none⟩ (.string x)) := by
  have hr := h.2.2.2.1.row
  obtain ⟨_, _, _, _, h4⟩ := id hr
  have hok := h4 T[k] (List.getElem_mem hk)
  exact h.cell _ (T' := T.set k ⟨T[k].parent, x, T[k].props⟩) (by simp) hN (set_props hM (hM T[k] (List.getElem_mem hk))) (hr.put01 k hk ⟨T[k].parent, x, T[k].props⟩ ⟨hx, hok.2.1, hok.2.2⟩ rfl _ _ (fun pvs hl => nodeCells_set1 T pvs k hk x hl))
/-- A property more at a node: what the walk needs ahead of the append, and what holds behind the store. -/
theorem BentS.prop {B b Z Rb N M g cap k : Nat} {T : List NodeT} {W w : World} (h : BentS B b Z Rb (.slice (some ⟨g, 0, none⟩) T.length cap) T W w) (hk : k < T.length) (hN : T.length ≤ N) (hM : ∀ n ∈ T, n.props.length + 1 ≤ M) :
    ∃ pa pc, w.cell? ⟨g, k * 3 + 2, none⟩ = some (.slice pa T[k].props.length pc) ∧ w.frozen? ⟨g, k * 3 + 2, none⟩ = false ∧ g < w.heap.size ∧ PropRow w W.heap.size (.slice pa T[k].props.length pc) T[k].props ∧
      ∀ (w' : World) (rv : Value) (qs : List PropT), PropRow w' W.heap.size rv qs → qs.length ≤ M → Keeps (fun b => (Value.slice pa T[k].props.length pc).ownBlock = some b) w w' →
        w'.cell? ⟨g, k * 3 + 2, none⟩ = some (.slice pa T[k].props.length pc) ∧ w'.frozen? ⟨g, k * 3 + 2, none⟩ = false ∧ g < w'.heap.size ∧ BentE B b Z Rb N M W (w'.setCell ⟨g, k * 3 + 2, none⟩ rv) := by
  obtain ⟨h1, h2, h3, h4, h5, h6, h7, h8⟩ := h
  obtain ⟨pv, p0, hpr, hpg, hgl, hcell, hput⟩ := h4.put k hk
  obtain ⟨pa, pc, rfl⟩ := row_slice hpr.1
  have hfree := (hcell w (Keeps.refl _ w)).2
  refine ⟨pa, pc, p0, hfree, hgl, hpr, fun w' rv qs hq hql kk => ?_⟩
  obtain ⟨k1, k2⟩ := hcell w' kk
  have hgW : W.heap.size ≤ g := by
    obtain ⟨_, pvs, q1, q2, q3, q4, q5⟩ := h4
    exact (q2.lt g rfl).1
  have hgn : ∃ cs, Holds w g cs 63 := by
    obtain ⟨_, pvs, q1, q2, q3, q4, q5⟩ := h4
    exact (row_own_holds q2 rfl).2
  obtain ⟨cn, hcn⟩ := hgn
  have hZg := holds_ne h2 hcn (by decide)
  have hRg := holds_ne h3 hcn (by decide)
  have hown : ∀ i, (Value.slice pa T[k].props.length pc).ownBlock = some i → W.heap.size ≤ i ∧ ∃ cur, Holds w i cur 65 := fun i e => owned_holds hpr.1 e
  have hZp : (Value.slice pa T[k].props.length pc).ownBlock ≠ some Z := fun e => owns_ne_holds hpr.1 h2 (by decide) e
  have hRp : (Value.slice pa T[k].props.length pc).ownBlock ≠ some Rb := fun e => owns_ne_holds hpr.1 h3 (by decide) e
  have hBb := h1.1
  have ht := hput w' rv qs hq kk
  refine ⟨k1, k2, Nat.lt_of_lt_of_le hgl kk.size, some ⟨g, 0, none⟩, cap, T.set k ⟨T[k].parent, T[k].name, qs⟩, ?_, ?_, ?_, by simpa using hN, ?_, ?_, ?_⟩
  · rw [List.length_set]; exact (h2.keeps kk hZp).other _ _ hZg
  · exact (h3.keeps kk hRp).other _ _ hRg
  · rw [List.length_set]; exact ht
  · exact set_props (fun n hn => by have := hM n hn; omega) hql
  · have t1 := h1.keeps kk (fun i e => by have := (hown i e).1; omega)
    exact t1.keeps ((Keeps.refl (fun i => i = g) w').setCell (p := ⟨g, k * 3 + 2, none⟩) (.inr rfl) rv) (fun i e => by subst e; omega)
  · exact (h5.trans kk (fun i hi e => by have := (hown i e).1; omega)).setCell (p := ⟨g, k * 3 + 2, none⟩) (.inl hgW) rv
theorem rows_same {w : World} {base base' : Nat} {e e' : TypeId} {size : Nat} {v : Value} {n : Nat} {xs ys : List Value} (h : w.ownsRow base e size v n xs) (k : w.ownsRow base' e' size v n ys) : xs = ys := by
  rcases h.2 with ⟨rfl, h0⟩ | ⟨g, cap, cur, rfl, _, hh, _, _, _, ht⟩
  · have e1 := h.1
    have e2 := k.1
    rw [h0] at e1 e2
    simp only [Nat.zero_mul] at e1 e2
    rw [List.length_eq_zero_iff.1 e1, List.length_eq_zero_iff.1 e2]
  · rcases k.2 with ⟨hc, _⟩ | ⟨g', cap', cur', hc, _, hh', _, _, _, ht'⟩
    · cases hc
    · cases hc
      rw [hh] at hh'
      cases hh'
      rw [← ht, ← ht']
/-- A node more: behind the append and the store into the variable. -/
theorem BentS.node {B b Z Rb N M g cap : Nat} {T : List NodeT} {W w w3 w' : World} {cs : Array Value} {v' pv : Value} {nd : NodeT} (h : BentS B b Z Rb (.slice (some ⟨g, 0, none⟩) T.length cap) T W w) (h3w : w3 = w.alloc (.cells cs 63)) (hN : T.length + 1 ≤ N) (hM : ∀ n ∈ T, n.props.length ≤ M) (hMd : nd.props.length ≤ M)
    (hp : PropRow w W.heap.size pv nd.props) (hn : NodeOk nd)
    {xs : List Value} (hxs : w.ownsRow W.heap.size 63 3 (.slice (some ⟨g, 0, none⟩) T.length cap) T.length xs) (hown : w'.ownsRow W.heap.size 63 3 v' (T.length + 1) (xs ++ [.int .i64 nd.parent, .string nd.name, pv])) (hg : w3.grownBy w' (some g)) :
    Z < w'.heap.size ∧ w'.frozen? ⟨Z, 0, none⟩ = false ∧ w'.cell? ⟨Z, 0, none⟩ = some (.slice (some ⟨g, 0, none⟩) T.length cap) ∧ BentE B b Z Rb N M W (w'.setCell ⟨Z, 0, none⟩ v') := by
  obtain ⟨h1, h2, h3, h4, h5, h6, h7, h8⟩ := h
  obtain ⟨_, pvs, q1, q2, q3, q4, q5⟩ := h4
  have hb : Below w.heap.size w w3 := by rw [h3w]; exact (Below.refl _ _).alloc (Nat.le_refl _) _
  have kb := Keeps.of_fresh hb (fun _ => False)
  have q2' := row_new q2 hb
  have hg' : w3.grownBy w' (Value.slice (some ⟨g, 0, none⟩) T.length cap).ownBlock := hg
  have g2 := (h2.keeps kb (fun e => e)).grown hg' (owns_ne_holds q2 h2 (by decide))
  have g3 := (h3.keeps kb (fun e => e)).grown hg' (owns_ne_holds q2 h3 (by decide))
  have hgW : W.heap.size ≤ g := (q2.lt g rfl).1
  have hR : TreeRow w' W.heap.size v' (T ++ [nd]) := TreeRow.more q1 q2' (fun j a c => (q3 j a c).new hb) q4 (hp.new hb) hn (by rw [rows_same q2 hxs]; exact hown) hg'
  obtain ⟨a, c, rfl⟩ := hR.slice
  have hR' := hR.set g2 (by decide) (by decide) 0 (.slice a (T ++ [nd]).length c)
  have hBb := h1.1
  have hK : Keeps (fun i => i = b) W w' := by
    have k0 := h5.trans (Keeps.of_fresh hb (fun i => i = b)) (fun _ _ e => e)
    exact k0.trans (Keeps.of_grown hg' (S := fun i => i = g) (fun i e => (Option.some.inj e).symm)) (fun i hi e => by omega)
  have hT' : Tape B w' b := (h1.new hb).keeps (Keeps.of_grown hg' (S := fun i => i = g) (fun i e => (Option.some.inj e).symm)) (fun i e => by subst e; omega)
  refine ⟨g2.lt, g2.free 0, g2.cell 0, a, c, T ++ [nd], g2.set 0 _, ?_, hR', by simpa using hN, ?_, ?_, ?_⟩
  · exact g3.other _ _ h8
  · intro n hn
    rcases List.mem_append.1 hn with hn | hn
    · exact hM n hn
    · simp at hn; subst hn; exact hMd
  · exact hT'.keeps ((Keeps.refl (fun i => i = Z) w').setCell (p := ⟨Z, 0, none⟩) (.inr rfl) _) (fun i e => by subst e; omega)
  · exact hK.setCell (p := ⟨Z, 0, none⟩) (.inl h7) _
/-- The nodes ahead of one. -/
theorem BentS.cut {B b Z Rb N M g cap k : Nat} {T : List NodeT} {W w : World} (h : BentS B b Z Rb (.slice (some ⟨g, 0, none⟩) T.length cap) T W w) (hk : k ≤ T.length) (hN : T.length ≤ N) (hM : ∀ n ∈ T, n.props.length ≤ M) :
    BentE B b Z Rb N M W (w.setCell ⟨Z, 0, none⟩ (.slice (some ⟨g, 0, none⟩) k cap)) := by
  obtain ⟨h1, h2, h3, h4, h5, h6, h7, h8⟩ := h
  obtain ⟨_, pvs, q1, q2, q3, q4, q5⟩ := h4
  have hBb := h1.1
  have hl := nodeCells_len T pvs q1
  have hct : nodeCells (T.take k) (pvs.take k) = (nodeCells T pvs).take (k * 3) := nodeCells_take T pvs k q1
  have htk : (T.take k).length = k := by simp; omega
  have hR : TreeRow w W.heap.size (.slice (some ⟨g, 0, none⟩) k cap) (T.take k) := by
    refine ⟨pvs.take k, by simp; omega, ?_, fun j a c => ?_, fun n hn => q4 n (List.mem_of_mem_take hn)⟩
    · rw [hct, htk]
      rcases q2.2 with ⟨e, _⟩ | ⟨g', cap', cur, e, hb, hh, hc, hm, hs, ht⟩
      · cases e
      · cases e
        refine ⟨by rw [List.length_take, hl]; omega, .inr ⟨g, cap, cur, rfl, hb, hh, by omega, hm, hs, ?_⟩⟩
        rw [← ht, List.take_take]; congr 1; omega
    · simp only [List.getElem_take]; exact q3 j (by simp at a; omega) (by simp at c; omega)
  refine ⟨some ⟨g, 0, none⟩, cap, T.take k, by rw [htk]; exact h2.set 0 _, h3.other _ _ h8, by rw [htk]; exact hR.set h2 (by decide) (by decide) 0 _, by omega, fun n hn => hM n (List.mem_of_mem_take hn), ?_, h5.setCell (p := ⟨Z, 0, none⟩) (.inl h7) _⟩
  exact h1.keeps ((Keeps.refl (fun i => i = Z) w).setCell (p := ⟨Z, 0, none⟩) (.inr rfl) _) (fun i e => by subst e; omega)
theorem nodeCells_same : ∀ (T : List NodeT) (pvs : List Value) (k : Nat) (hk : k < T.length) (qs : List PropT), pvs.length = T.length → nodeCells (T.set k ⟨T[k].parent, T[k].name, qs⟩) pvs = nodeCells T pvs
  | n :: T, p :: pvs, 0, _, _, _ => rfl
  | n :: T, p :: pvs, k + 1, hk, qs, h => by
    have := nodeCells_same T pvs k (by simpa using hk) qs (by simpa using h)
    simp only [List.set_cons_succ, nodeCells, List.getElem_cons_succ]
    rw [this]
/-- A node's row of properties changed in place. -/
theorem BentS.row {B b Z Rb N M g cap k : Nat} {T : List NodeT} {W w : World} (h : BentS B b Z Rb (.slice (some ⟨g, 0, none⟩) T.length cap) T W w) (hk : k < T.length) (hN : T.length ≤ N) (hM : ∀ n ∈ T, n.props.length ≤ M) :
    ∃ pa pc, w.cell? ⟨g, k * 3 + 2, none⟩ = some (.slice pa T[k].props.length pc) ∧ g < w.heap.size ∧ PropRow w W.heap.size (.slice pa T[k].props.length pc) T[k].props ∧
      ∀ (w' : World) (qs : List PropT), PropRow w' W.heap.size (.slice pa T[k].props.length pc) qs → qs.length ≤ M → Keeps (fun b => (Value.slice pa T[k].props.length pc).ownBlock = some b) w w' → BentE B b Z Rb N M W w' := by
  obtain ⟨h1, h2, h3, h4, h5, h6, h7, h8⟩ := h
  obtain ⟨pv, p0, hpr, hpg, hgl, hcell, hput⟩ := h4.put k hk
  obtain ⟨pa, pc, rfl⟩ := row_slice hpr.1
  refine ⟨pa, pc, p0, hgl, hpr, fun w' qs hq hql kk => ?_⟩
  obtain ⟨_, pvs, q1, q2, q3, q4, q5⟩ := h4
  have hown : ∀ i, (Value.slice pa T[k].props.length pc).ownBlock = some i → W.heap.size ≤ i ∧ ∃ cur, Holds w i cur 65 := fun i e => owned_holds hpr.1 e
  have hBb := h1.1
  have e2 : pvs[k]'(by omega) = .slice pa T[k].props.length pc := by
    obtain ⟨_, _, a2⟩ := nodeCells_at T pvs k hk (by omega) q1
    have := (q2.cellAt (k * 3 + 2) (by omega)).trans a2
    rw [p0] at this
    exact (Option.some.inj this).symm
  refine ⟨some ⟨g, 0, none⟩, cap, T.set k ⟨T[k].parent, T[k].name, qs⟩, ?_, h3.keeps kk (fun e => owns_ne_holds hpr.1 h3 (by decide) e), ?_, by simpa using hN, set_props hM hql, ?_, ?_⟩
  · rw [List.length_set]; exact h2.keeps kk (fun e => owns_ne_holds hpr.1 h2 (by decide) e)
  · rw [List.length_set]
    refine ⟨pvs, by simpa using q1, ?_, fun j a c => ?_, fun m hm => ?_⟩
    · rw [nodeCells_same T pvs k hk qs q1, List.length_set]
      exact ownsRow_keeps q2 kk (fun i e x => hpg (x.trans e.symm))
    · by_cases e : j = k
      · subst e
        simp only [List.getElem_set_self]
        rw [e2]; exact hq
      · rw [List.getElem_set_ne (fun x => e x.symm)]
        have ha : j < T.length := by simpa using a
        exact ⟨ownsRow_keeps (q3 j ha c).1 kk (fun i hi x => by
          rw [← e2] at x
          exact q5.1 j k c (by omega) e i hi x), (q3 j ha c).2⟩
    · rcases List.mem_or_eq_of_mem_set hm with hm | rfl
      · exact q4 m hm
      · exact q4 T[k] (List.getElem_mem hk)
  · exact h1.keeps kk (fun i e => by have := (hown i e).1; omega)
  · exact h5.trans kk (fun i hi e => by have := (hown i e).1; omega)
/-- The region with a number. -/
def regCd : Code → Nat → Option Code
  | .region i ops d, n => if i = n then some (.region i ops d) else none
  | .seq a b, n => match regCd a n with
    | some x => some x
    | none => regCd b n
  | .cond _ a b, n => match regCd a n with
    | some x => some x
    | none => regCd b n
  | .block _ b, n => regCd b n
  | .loop b, n => regCd b n
  | .scope b, n => regCd b n
  | .rangeFunc _ _ a b, n => match regCd a n with
    | some x => some x
    | none => regCd b n
  | _, _ => none
/-- A statement that only ends normally. -/
theorem wp_only {P : Program} {c : Code} {Q : Exit → Act → World → Prop} {a : Act} {w : World} (h : c.wp P (Exit.then (Q .normal) (fun _ _ _ => False)) a w) : c.wp P Q a w := by
  refine wp_mono h (fun e a w hq => ?_)
  cases e with
  | normal => exact hq
  | _ => exact hq.elim
noncomputable def bentR (n : Nat) : Code := (regCd (Tryz.f13.body.getD .skip) n).getD .skip
end Go.Proofs.YthkoaakicdhnpaaGreat
