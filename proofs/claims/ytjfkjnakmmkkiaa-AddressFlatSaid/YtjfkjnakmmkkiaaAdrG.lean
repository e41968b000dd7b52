/- The contract of windows of address. -/
import Derived.Test.YtjfkjnakmmkkiaaAdrF
namespace Go.Proofs.Ytjfkjnakmmkkiaa
open Go.RowKit

def nmRanges : ByteArray := ⟨#[114, 97, 110, 103, 101, 115]⟩
def winF : List (List Int) → Option (List (Int × Int × Int))
  | [] => some []
  | r :: rs => if fitsB (r.getD 0 0) (r.getD 2 0) = true ∧ fitsB (r.getD 1 0) (r.getD 2 0) = true then (winF rs).map ((r.getD 0 0, r.getD 1 0, r.getD 2 0) :: ·) else none
def winE (o : Option (List (Int × Int × Int))) : List (Int × Int × Int) × Bool × Int := match o with
  | none => ([], false, 2)
  | some l => (l, false, 0)
def windowsT (T : List NodeT) (k : Nat) : List (Int × Int × Int) × Bool × Int :=
  let v := valueT T k nmRanges
  if v.2 = false ∨ v.1.size = 0 then ([], v.2, 0) else
    let c := pairT T k
    if c.2.2 ≠ 0 then ([], false, c.2.2) else
      let u := pairT T (parOf T k)
      if u.2.2 ≠ 0 then ([], false, u.2.2) else
        let r := rowsT v.1 [c.1, u.1, c.2.1]
        if r.2 ≠ 0 then ([], false, r.2) else winE (winF r.1)
def triCells (l : List (Int × Int × Int)) : List Value := l.flatMap fun p => [.int .i64 p.1, .int .i64 p.2.1, .int .i64 p.2.2]
theorem triCells_snoc (l : List (Int × Int × Int)) (p : Int × Int × Int) : triCells (l ++ [p]) = triCells l ++ [.int .i64 p.1, .int .i64 p.2.1, .int .i64 p.2.2] := by simp [triCells]
def WindowsPost (T : List NodeT) (k : Nat) (w : World) (e : Ending) (w' : World) : Prop :=
  ∃ v, e = .returned (.tuple #[v, .bool (windowsT T k).2.1, .int .i64 (windowsT T k).2.2]) ∧ w'.ownsRow w.heap.size 123 3 v (windowsT T k).1.length (triCells (windowsT T k).1) ∧ Below w.heap.size w w'
theorem infoWin : (Try.prog.info? 123).map (fun i => (i.zero, i.size, i.bytes)) = some (some (.agg #[.int .i64 0, .int .i64 0, .int .i64 0]), 3, 24) := by kernel_rfl

set_option maxRecDepth 100000 in
set_option maxHeartbeats 8000000 in
theorem address_windows (R : Nat → Prop) (v : Value) (T : List NodeT) (k : Nat) (w : World) (hT : NodesIn R w v T) (hc : checkT T = 0) (hk : k < T.length) (hk1 : 0 < k) :
    Calls Try.prog 42 #[.agg #[v], .int .i64 k] w (WindowsPost T k w) := by
  obtain ⟨a, cap, rfl, hc1, hc2⟩ := hT.shape
  have HT := Lib.hid hT; clear hT
  obtain ⟨g, o, pa, pc, rfl, hg, c0, c1, c2, hp, p1, p2, b0, b1, b2⟩ := HT.out.at k hk
  have hnm := check_named hc
  obtain ⟨hp0, hp1⟩ := (named_par hnm k hk).2 hk1
  have hlen := (limits_len (check_limits hc)).2
  have hE := Lib.hid (show windowsT T k = (if (valueT T k nmRanges).2 = false ∨ (valueT T k nmRanges).1.size = 0 then ([], (valueT T k nmRanges).2, 0) else
    if (pairT T k).2.2 ≠ 0 then ([], false, (pairT T k).2.2) else if (pairT T T[k].parent).2.2 ≠ 0 then ([], false, (pairT T T[k].parent).2.2) else
      if (rowsT (valueT T k nmRanges).1 [(pairT T k).1, (pairT T T[k].parent).1, (pairT T k).2.1]).2 ≠ 0 then ([], false, (rowsT (valueT T k nmRanges).1 [(pairT T k).1, (pairT T T[k].parent).1, (pairT T k).2.1]).2)
      else winE (winF (rowsT (valueT T k nmRanges).1 [(pairT T k).1, (pairT T T[k].parent).1, (pairT T k).2.1]).1)) from by unfold windowsT; rw [parOf_at hk])
  have hcl := fun wx hx => address_cells R (.slice (some ⟨g, o, none⟩) T.length cap) T T[k].parent wx hx
  have hck := fun wx hx => address_cells R (.slice (some ⟨g, o, none⟩) T.length cap) T k wx hx
  have hpb := pairT_bd T T[k].parent
  have hpk := pairT_bd T k
  have hvl := fun wx hx => tree_Value R (.slice (some ⟨g, o, none⟩) T.length cap) T k nmRanges wx hx
  have hvs := valueT_size T k nmRanges
  unfold ValuePost at hvl
  generalize valueT T k nmRanges = V at hE hvl hvs
  obtain ⟨vs, vb⟩ := V
  simp only at hvl hvs
  generalize pairT T T[k].parent = C at hE hcl hpb
  obtain ⟨uc, usc, ue⟩ := C
  generalize pairT T (k : Int) = D at hE hck hpk
  obtain ⟨ac, sc, ec⟩ := D
  simp only at hcl hpb hck hpk
  have HCL := Lib.hid hcl; clear hcl
  have HCK := Lib.hid hck; clear hck
  unfold nmRanges at hvl
  have HVL := Lib.hid hvl; clear hvl
  generalize T[k].parent = pp at c0 b1 b2 hp0 hp1 HCL
  have HP := Lib.hid hp; clear hp hc hnm c1 c2
  have hb0 : Below w.heap.size w (w.alloc (.cells #[.slice (some ⟨g, o, none⟩) T.length cap] 27)) := (Below.refl w.heap.size w).alloc (Nat.le_refl _) _
  have hB0 := Holds.new w #[.slice (some ⟨g, o, none⟩) T.length cap] 27
  cases vb with
  | false =>
    have hF := Lib.hid (show windowsT T k = ([], false, 0) from by rw [hE.out, if_pos (.inl rfl)])
    go_enter Try.func42, Try.ntmps42
    go_wp2_with fail
    refine (HVL.out _ (by exact HT.out.new hb0)).mono ?_
    rintro e w1 ⟨rfl, hb1⟩
    go_wp2_with fail
    go_ret3
    exact ⟨.slice none 0 0, by rw [hF.out]; rfl, by rw [hF.out]; exact World.ownsRow_nil _ _ _ _, hb0.trans (hb1.mono (by simp))⟩
  | true =>
    by_cases hz : vs.size = 0
    · have hF := Lib.hid (show windowsT T k = ([], true, 0) from by rw [hE.out, if_pos (.inr hz)])
      have vne : vs.toList = [] := (toList_nil_size vs).2 hz
      clear hz
      go_enter Try.func42, Try.ntmps42
      go_wp2_with fail
      refine (HVL.out _ (by exact HT.out.new hb0)).mono ?_
      rintro e w1 ⟨rfl, hb1⟩
      go_wp2_with fail
      go_ret3
      exact ⟨.slice none 0 0, by rw [hF.out]; rfl, by rw [hF.out]; exact World.ownsRow_nil _ _ _ _, hb0.trans (hb1.mono (by simp))⟩
    · have vne : ¬ vs.toList = [] := fun e => hz ((toList_nil_size vs).1 e)
      have vne2 : vs.toList.isEmpty = false := by simpa using vne
      have hE1 := Lib.hid (show windowsT T k = if ec ≠ 0 then ([], false, ec) else if ue ≠ 0 then ([], false, ue) else
        if (rowsT vs [ac, uc, sc]).2 ≠ 0 then ([], false, (rowsT vs [ac, uc, sc]).2) else winE (winF (rowsT vs [ac, uc, sc]).1) from by rw [hE.out, if_neg (by rintro (h | h); cases h; exact hz h)])
      clear hz hE
      go_enter Try.func42, Try.ntmps42
      go_wp2_with fail
      refine (HVL.out _ (by exact HT.out.new hb0)).mono ?_
      rintro e w1 ⟨rfl, hb1⟩
      have hb2 := hb0.trans (hb1.mono (by simp))
      have hB1 := hB0.keeps (Keeps.of_fresh hb1 (fun _ => False)) (fun e => e)
      have hbs2 := hb2.size
      have bx1 := hB1.cell 0
      have blt1 := hB1.lt
      go_wp2_with fail
      refine (HCK.out _ (by exact HT.out.new hb2)).mono ?_
      rintro e w2 ⟨rfl, hb3⟩
      have hb4 := hb2.trans (hb3.mono hbs2)
      have hbs4 := hb4.size
      have hB2 := hB1.keeps (Keeps.of_fresh hb3 (fun _ => False)) (fun e => e)
      by_cases hec : ec = 0
      · subst hec
        obtain ⟨ha, hs⟩ := hpk rfl
        have HE1 := Lib.hid (show windowsT T k = if ue ≠ 0 then ([], false, ue) else if (rowsT vs [ac, uc, sc]).2 ≠ 0 then ([], false, (rowsT vs [ac, uc, sc]).2) else winE (winF (rowsT vs [ac, uc, sc]).1) from by rw [hE1.out, if_neg (by simp)])
        clear hE1 bx1 blt1
        have ik0 : (0 : Int) ≤ (k : Int) := by omega
        have ik1 : (k : Int) < (T.length : Int) := by omega
        have blt2 := hB2.lt
        go_wp2_with fail
        go_region_held3 (fun wx => wx.cell? ⟨w.heap.size, 0, none⟩ = some (.slice (some ⟨g, o, none⟩) T.length cap) ∧ wx.cell? ⟨g, o + k * 3, none⟩ = some (.int .i64 pp) ∧ Below w.heap.size w wx)
          (first
          | exact ⟨hB2.drew.cell 0, cell_new c0 hg hb4.drew, hb4.drew⟩
          | (go_split_ands; exact ⟨cell_new (by assumption) (by simp; omega) hbc, cell_new (by assumption) (by simp; omega) hbc, hb4.drew.trans (hbc.mono (by simp; omega))⟩)
          | go_keep)
          ((go_at_call 40; refine (HCL.out _ (by exact HT.out.new hb4.drew)).mono ?_; rintro e wc ⟨rfl, hbc⟩))
        rename_i hS
        obtain ⟨bx, _, hbx⟩ := hS
        have hbxs := hbx.size
        clear c0 ik0 ik1
        by_cases hue : ue = 0
        · subst hue
          obtain ⟨hu, _⟩ := hpb rfl
          have hrw := fun (wx : World) hw => address_rows vs [ac, uc, sc] wx.heap.size 3 (wx.alloc (.cells #[.int .i64 ac, .int .i64 uc, .int .i64 sc] 3)) hw (by simp; omega) (by simp) (by simp) (by simp) (by omega) (by omega)
          have hspec := rowsT_spec vs [ac, uc, sc]
          have hE2 := HE1.out
          rw [if_neg (by simp)] at hE2
          clear HE1
          unfold RowsPost at hrw
          generalize rowsT vs [ac, uc, sc] = RW at hE2 hrw hspec
          obtain ⟨rows, er⟩ := RW
          simp only at hE2 hrw hspec
          have HE2 := Lib.hid hE2; clear hE2
          have HRW := Lib.hid hrw; clear hrw
          have HSP := Lib.hid hspec; clear hspec
          clear ha hs hu hpb hpk
          go_wp2_with fail
          refine (HRW.out _ ?_).mono ?_
          · intro i hi
            have h2 : i = 0 ∨ i = 1 ∨ i = 2 := by simp at hi; omega
            rcases h2 with rfl | rfl | rfl
            · exact (Holds.new _ #[.int .i64 ac, .int .i64 uc, .int .i64 sc] 3).cell 0
            · exact (Holds.new _ #[.int .i64 ac, .int .i64 uc, .int .i64 sc] 3).cell 1
            · exact (Holds.new _ #[.int .i64 ac, .int .i64 uc, .int .i64 sc] 3).cell 2
          rintro e w4 ⟨rv, rfl, hRA, hb5⟩
          have hb6 : Below w.heap.size w w4 := (hbx.alloc hbxs _).trans (hb5.mono (by simp; omega))
          have hs6 := hb6.size
          by_cases her : er = 0
          · subst her
            obtain ⟨hsp1, hsp2⟩ := HSP.out
            have hF := Lib.hid (show windowsT T k = winE (winF rows) from by rw [HE2.out, if_neg (by simp)])
            have hrl : rows.length ≤ 1000 := by omega
            have HSP2 := Lib.hid hsp2; clear hsp2
            obtain ⟨ra, rc, rfl⟩ : ∃ ra rc, rv = .slice ra rows.length rc := by obtain ⟨rvs, h, _⟩ := hRA; exact owns_slice h
            have HRA := Lib.hid hRA; clear hRA
            clear bx
            go_wp2_with fail
            go_loopg [4, 68] (rows.length) (fun f x y wr => ∃ (j : Nat) (l : List (Int × Int × Int)), y = .int .i64 j ∧ j ≤ rows.length ∧ rows.length ≤ j + f ∧ Hid (l.length = j) ∧ wr.ownsRow w4.heap.size 123 3 x l.length (triCells l) ∧
              Hid (winF rows = (winF (rows.drop j)).map (l ++ ·)) ∧ Below w4.heap.size w4 wr)
            case atStart => exact ⟨0, [], rfl, by omega, by omega, rfl, World.ownsRow_nil _ _ _ _, by show _ = _; rw [List.drop_zero]; cases winF rows <;> rfl, Below.refl _ _⟩
            case round =>
              obtain ⟨j, l, rfl, hj, hf, hlj, hown, hG, hbw⟩ := hrel
              obtain ⟨oa, oc, rfl⟩ := owns_slice hown
              have hbws := hbw.size
              by_cases hjl : j < rows.length
              · obtain ⟨hr2, hrb⟩ := HSP2.out rows[j] (List.getElem_mem hjl)
                simp only [List.length_cons, List.length_nil] at hr2
                obtain ⟨gr, cr, gj, cj, e1, q1, q2, q3, d0, q4, q5⟩ := rows_at HRA.out j hjl (by omega)
                cases e1
                have d1 := q5 0 (by omega)
                have d2 := q5 1 (by omega)
                have d3 := q5 2 (by omega)
                have f0 := cell_new d0 q2 hbw
                have f1 := cell_new d1 q3 hbw
                have f2 := cell_new d2 q3 hbw
                have f3 := cell_new d3 q3 hbw
                have hb0' := hrb rows[j][0] (List.getElem_mem _)
                have hb1' := hrb rows[j][1] (List.getElem_mem _)
                have hb2' := hrb rows[j][2] (List.getElem_mem _)
                have hst : winF (rows.drop j) = if fitsB rows[j][0] rows[j][2] = true ∧ fitsB rows[j][1] rows[j][2] = true then (winF (rows.drop (j + 1))).map ((rows[j][0], rows[j][1], rows[j][2]) :: ·) else none := by
                  rw [List.drop_eq_getElem_cons hjl]
                  simp only [winF]
                  rw [show rows[j].getD 0 0 = rows[j][0] from by simp [List.getD, hr2], show rows[j].getD 1 0 = rows[j][1] from by simp [List.getD, hr2], show rows[j].getD 2 0 = rows[j][2] from by simp [List.getD, hr2]]
                rw [hr2] at f0 q4
                clear d0 q5 hrb
                have D1 := Lib.hid d1; clear d1
                have D2 := Lib.hid d2; clear d2
                have D3 := Lib.hid d3; clear d3
                generalize rows[j][0] = y0 at f1 hb0' hst D1
                generalize rows[j][1] = y1 at f2 hb1' hst D2
                generalize rows[j][2] = y2 at f3 hb2' hst D3
                obtain ⟨y00, y01⟩ := hb0'
                obtain ⟨y10, y11⟩ := hb1'
                obtain ⟨y20, y21⟩ := hb2'
                have HST := Lib.hid hst; clear hst
                obtain ⟨i0, hi, hz0, hz1, hz2⟩ := info_parts infoWin
                have hlj' := hlj.out
                have b1 : l.length + 1 ≤ maxLen := by unfold maxLen; omega
                have b2 : (l.length + 1) * 24 ≤ 140737488355328 := by omega
                clear hlj'
                cases hfb : fitsB y0 y2 with
                | false =>
                  have hE3 := Lib.hid (show windowsT T k = ([], false, 2) from by rw [hF.out, hG.out, HST.out, if_neg (by rw [hfb]; simp)]; rfl)
                  go_wp2_with fail
                  go_quiet ((go_at_call 79; exact Calls.quiet_of_same ((address_fits _ _ _ (by assumption) (by assumption)).mono fun _ _ ⟨a, b⟩ => ⟨a, b.symm⟩)))
                  go_wp2_with fail
                  go_ret3
                  exact ⟨.slice none 0 0, by rw [hE3.out]; rfl, by rw [hE3.out]; exact World.ownsRow_nil _ _ _ _, below_draws (hb6.trans (hbw.mono hs6)) _⟩
                | true =>
                  cases hfc : fitsB y1 y2 with
                  | false =>
                    have hE3 := Lib.hid (show windowsT T k = ([], false, 2) from by rw [hF.out, hG.out, HST.out, if_neg (by rw [hfc]; simp)]; rfl)
                    go_wp2_with fail
                    go_quiet ((go_at_call 79; exact Calls.quiet_of_same ((address_fits _ _ _ (by assumption) (by assumption)).mono fun _ _ ⟨a, b⟩ => ⟨a, b.symm⟩)))
                    go_wp2_with fail
                    go_ret3
                    exact ⟨.slice none 0 0, by rw [hE3.out]; rfl, by rw [hE3.out]; exact World.ownsRow_nil _ _ _ _, below_draws (hb6.trans (hbw.mono hs6)) _⟩
                  | true =>
                    have hG2 : Hid (winF rows = (winF (rows.drop (j + 1))).map ((l ++ [(y0, y1, y2)]) ++ ·)) := by
                      show _ = _
                      rw [hG.out, HST.out, if_pos ⟨hfb, hfc⟩, Option.map_map]
                      congr 1
                      funext z
                      simp
                    go_wp2_with fail
                    go_quiet ((go_at_call 79; exact Calls.quiet_of_same ((address_fits _ _ _ (by assumption) (by assumption)).mono fun _ _ ⟨a, b⟩ => ⟨a, b.symm⟩)))
                    clear hfb hfc
                    have hownq : (wr.drewN nq).ownsRow w4.heap.size 123 3 (.slice oa l.length oc) l.length (triCells l) := hown
                    have hbq : Below w4.heap.size w4 (wr.drewN nq) := below_draws hbw nq
                    go_wp2_with fail
                    go_region_held3 (fun wx => wx.cell? ⟨gj, 0, none⟩ = some (.int .i64 y0) ∧ wx.cell? ⟨gj, 1, none⟩ = some (.int .i64 y1) ∧ wx.cell? ⟨gj, 2, none⟩ = some (.int .i64 y2) ∧ Below w4.heap.size w4 wx)
                      (first
                      | exact ⟨f1, f2, f3, hbq.drew⟩
                      | exact ⟨cell_new D1.out q3 (hbq.drew.alloc hbws _), cell_new D2.out q3 (hbq.drew.alloc hbws _), cell_new D3.out q3 (hbq.drew.alloc hbws _), hbq.drew.alloc hbws _⟩
                      | (exact ⟨cell_new D1.out q3 ((hbq.drew.alloc hbws _).grown hgrow (by simp; omega) (fun g hg => (hownq.lt g hg).1)), cell_new D2.out q3 ((hbq.drew.alloc hbws _).grown hgrow (by simp; omega) (fun g hg => (hownq.lt g hg).1)), cell_new D3.out q3 ((hbq.drew.alloc hbws _).grown hgrow (by simp; omega) (fun g hg => (hownq.lt g hg).1)), (hbq.drew.alloc hbws _).grown hgrow (by simp; omega) (fun g hg => (hownq.lt g hg).1)⟩))
                      ((refine step_append_lies _ (by rfl) _ _ _ (by rfl) w4.heap.size 123 i0 _ 3 24 Try.underlying85 hi hz0 hz1 hz2 rfl (by omega) _ l.length (triCells l) (by rfl) ((hownq.alloc _).drew) ⟨wr.heap.size, 0, none⟩ 1 1 [.int .i64 y0, .int .i64 y1, .int .i64 y2] (by rfl) (by rfl) (World.news_of_block (cs := #[.int .i64 y0, .int .i64 y1, .int .i64 y2]) (t := 123) (fr := (0, 0)) (heap_alloc_new (wr.drewN nq) _)) (by simp [Value.oneCell']) (by omega) b1 b2 (by simp; omega) (wr.heap.size + 1) (by simp) ?_; intro gg cap2 w5 hown1 hgrow hat hlt))
                    all_goals
                      rename_i hS
                      obtain ⟨_, _, _, hb7⟩ := hS
                      clear hgrow hat
                      go_wp2_with fail
                      go_roundg (gk - 1)
                      case measure => omega
                      case rel => exact ⟨j + 1, l ++ [(y0, y1, y2)], by go_num, by omega, by omega, by have := hlj.out; show _ = _; simp; omega, by rw [triCells_snoc]; simpa using hown1, hG2, hb7⟩
              · have hfin := Lib.hid (show windowsT T k = (l, false, 0) from by rw [hF.out, hG.out, List.drop_eq_nil_of_le (by omega)]; simp [winF, winE])
                go_wp2_with fail
                go_ret3
                exact ⟨_, by rw [hfin.out]; rfl, by rw [hfin.out]; exact ownsRow_base' hown hs6, hb6.trans (hbw.mono hs6)⟩
          · have herb : (er != 0) = true := by simpa using her
            have hF := Lib.hid (show windowsT T k = ([], false, er) from by rw [HE2.out, if_pos her])
            clear her
            go_wp2_with fail
            go_ret3
            exact ⟨.slice none 0 0, by rw [hF.out]; rfl, by rw [hF.out]; exact World.ownsRow_nil _ _ _ _, hb6⟩
        · have hueb : (ue != 0) = true := by simpa using hue
          have hF := Lib.hid (show windowsT T k = ([], false, ue) from by rw [HE1.out, if_pos hue])
          clear hue
          go_wp2_with fail
          go_ret3
          exact ⟨.slice none 0 0, by rw [hF.out]; rfl, by rw [hF.out]; exact World.ownsRow_nil _ _ _ _, hbx⟩
      · have hecb : (ec != 0) = true := by simpa using hec
        have hF := Lib.hid (show windowsT T k = ([], false, ec) from by rw [hE1.out, if_pos hec])
        clear hec
        go_wp2_with fail
        go_ret3
        exact ⟨.slice none 0 0, by rw [hF.out]; rfl, by rw [hF.out]; exact World.ownsRow_nil _ _ _ _, hb4⟩
end Go.Proofs.Ytjfkjnakmmkkiaa
