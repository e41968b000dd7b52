/- The contract of rows of address. -/
import Derived.Test.YtjfkjnakmmkkiaaAdrC
namespace Go.Proofs.Ytjfkjnakmmkkiaa
open Go.RowKit

def RowsPost (v : ByteArray) (ws : List Int) (w : World) (e : Ending) (w' : World) : Prop :=
  ∃ rv, e = .returned (.tuple #[rv, .int .i64 (rowsT v ws).2]) ∧ RowsAt w' w.heap.size rv (rowsT v ws).1 ∧ Below w.heap.size w w'
theorem ownsRow_base' {w : World} {base base' : Nat} {e : TypeId} {size : Nat} {v : Value} {n : Nat} {xs : List Value} (h : w.ownsRow base e size v n xs) (hb : base' ≤ base) : w.ownsRow base' e size v n xs := by
  refine ⟨h.1, ?_⟩
  rcases h.2 with hn | ⟨g, cap, cur, rfl, hg, r⟩
  · exact .inl hn
  · exact .inr ⟨g, cap, cur, rfl, by omega, r⟩
theorem rowsAt_nil (w : World) (B : Nat) : RowsAt w B (.slice none 0 0) [] := ⟨[], World.ownsRow_nil _ _ _ _, rfl, fun i h => by simp at h⟩
theorem sum_pos {ws : List Int} (h : ∀ x ∈ ws, x = 1 ∨ x = 2) : (ws.length : Int) ≤ sumT ws ∧ sumT ws ≤ 2 * ws.length := by
  induction ws with
  | nil => simp [sumT]
  | cons x ws ih =>
    have := ih (fun y hy => h y (by simp [hy]))
    have hx := h x (by simp)
    rw [sumT_cons]
    simp only [List.length_cons]
    omega

set_option maxRecDepth 100000 in
set_option maxHeartbeats 4000000 in
theorem address_rows (v : ByteArray) (ws : List Int) (gw cw : Nat) (w : World) (hw : ∀ (i : Nat) (h : i < ws.length), w.cell? ⟨gw, i, none⟩ = some (.int .i64 ws[i])) (hws : ∀ x ∈ ws, x = 1 ∨ x = 2) (hn1 : 1 ≤ ws.length) (hn2 : ws.length ≤ 3)
    (hcw : ws.length ≤ cw) (hcw2 : cw ≤ 1000) (hv : v.size ≤ 1000) :
    Calls Try.prog 78 #[.string v, .slice (some ⟨gw, 0, none⟩) ws.length cw] w (RowsPost v ws w) := by
  have hsum := sum_pos hws
  have hgw : gw < w.heap.size := World.block_lt_of_cell? w _ (hw 0 hn1)
  have HW := Lib.hid hw; clear hw
  have HWS := Lib.hid hws; clear hws
  go_enter Try.func78, Try.ntmps78
  go_wp2_with fail
  go_loopg [6, 18] (ws.length) (fun f x y wr => ∃ (k : Nat) (s : Int), x = .int .i64 s ∧ y = .int .i64 k ∧ k ≤ ws.length ∧ ws.length ≤ k + f ∧ Hid (s = sumT (ws.take k)) ∧ 0 ≤ s ∧ s ≤ 2 * k ∧ w = wr)
  case atStart => exact ⟨0, 0, rfl, rfl, by omega, by omega, by simp [Hid, sumT], by omega, by omega, rfl⟩
  case round =>
    obtain ⟨k, s, rfl, rfl, hk, hf, hS, hs0, hs1, rfl⟩ := hrel
    by_cases hlt : k < ws.length
    · have hck := HW.out k hlt
      have hwk := HWS.out ws[k] (List.getElem_mem hlt)
      have hsn := Lib.hid (show sumT (ws.take (k + 1)) = sumT (ws.take k) + ws[k] from by rw [List.take_succ_eq_append_getElem hlt, sumT_snoc])
      generalize ws[k] = q at hck hwk hsn
      have hq0 : 1 ≤ q := by omega
      have hq1 : q ≤ 2 := by omega
      clear hwk
      go_wp2_with fail
      go_roundg (gk - 1)
      case measure => omega
      case rel => exact ⟨k + 1, s + q, rfl, by go_num, by omega, by omega, by show _ = _; rw [hsn.out, ← hS.out], by omega, by omega, rfl⟩
    · have hsE : s = sumT ws := by rw [hS.out, List.take_of_length_le (by omega)]
      have hs2 : 1 ≤ s := by omega
      have hs3 : s ≤ 6 := by omega
      have HSE := Lib.hid hsE
      clear hsE hS
      by_cases hmod : (v.size : Int) % (4 * s) = 0
      · have hmb : (((v.size : Int) % (4 * s)) != 0) = false := by rw [bne_eq_false_iff_eq]; exact hmod
        have hv4 : v.size % 4 = 0 := by
          have h1 : (4 * s) ∣ (v.size : Int) := Int.dvd_of_emod_eq_zero hmod
          have h2 : (4 : Int) ∣ (v.size : Int) := Int.dvd_trans ⟨s, rfl⟩ h1
          omega
        have hlen := cellsT_eq v hv4
        have hdiv : ∃ m : Int, ((cellsT v).length : Int) = s * m := by
          obtain ⟨m, hm⟩ := Int.dvd_of_emod_eq_zero hmod
          refine ⟨m, ?_⟩
          have : (v.size : Int) = 4 * ((cellsT v).length : Int) := by omega
          rw [this, Int.mul_assoc] at hm
          omega
        have hbd := cellsT_bd v
        have hR := Lib.hid (show rowsT v ws = rowsE (rowsF ws (cellsT v).length (cellsT v)) from by unfold rowsT; rw [if_neg (by rw [← HSE.out, hmod]; simp)])
        have hpc := fun wx => print_Cells v wx (by omega) (by omega)
        unfold CellsPost at hpc
        generalize cellsT v = L at hlen hdiv hbd hR hpc
        generalize cellsOkB v = ok at hpc
        have HPC := Lib.hid hpc; clear hpc
        have HBD := Lib.hid hbd; clear hbd
        have HDIV := Lib.hid hdiv; clear hdiv
        go_wp2_with fail
        refine (HPC.out _).mono ?_
        rintro e w1 ⟨lv, rfl, hown, hb1⟩
        have hL0 : ListAt w1.heap.size w1 lv L := by
          obtain ⟨la, lc, rfl⟩ := owns_slice hown
          by_cases hL : 0 < L.length
          · obtain ⟨g, cap, e1, hcap, hg1, hg2, hcell⟩ := ints_at hown hL
            cases e1
            have hm : lc ≤ 9223372036854775807 := by
              rcases hown.2 with ⟨h, _⟩ | ⟨g', cap', cur, e, _, _, _, hmx, _⟩
              · cases h
              · cases e; exact hmx
            exact ⟨_, lc, rfl, hcap, hm, fun _ => ⟨g, 0, rfl, hg2, fun i hi => by rw [Nat.zero_add]; exact hcell i hi⟩⟩
          · rcases hown.2 with ⟨h, _⟩ | ⟨g', cap', cur, e, _, _, hmc, hmx, _⟩
            · simp only [Value.slice.injEq] at h
              obtain ⟨rfl, h1, rfl⟩ := h
              exact ⟨none, 0, rfl, by omega, by omega, fun h => absurd h hL⟩
            · cases e; exact ⟨_, lc, rfl, hmc, hmx, fun h => absurd h hL⟩
        have hb1s := hb1.size
        clear hown
        obtain ⟨la, lc, rfl⟩ : ∃ la lc, lv = .slice la L.length lc := by obtain ⟨a, c, e, _⟩ := hL0; exact ⟨a, c, e⟩
        have HL0 := Lib.hid hL0; clear hL0
        have hLl : L.length ≤ 1000 := by omega
        have HLEN := Lib.hid hlen; clear hlen
        clear hmod hmb
        go_wp2_with fail
        go_loopg [9, 11] (L.length) (fun f x y wr => ∃ (l : List Int) (rs : List (List Int)) (fl : Nat), ListAt w1.heap.size wr x l ∧ Hid (∀ q ∈ l, 0 ≤ q ∧ q ≤ 4294967295) ∧ Hid (∃ m : Int, (l.length : Int) = s * m) ∧ RowsAt wr w1.heap.size y rs ∧
          Hid (rowsF ws L.length L = (rowsF ws fl l).map (rs ++ ·)) ∧ l.length ≤ fl ∧ l.length ≤ f ∧ rs.length + l.length ≤ L.length ∧ Below w1.heap.size w1 wr)
        case atStart => exact ⟨L, [], L.length, HL0.out, HBD.out, HDIV.out, rowsAt_nil _ _, by show _ = _; cases rowsF ws L.length L <;> rfl, by omega, by omega, by simp, Below.refl _ _⟩
        case round =>
          obtain ⟨go, rfl⟩ : ∃ x : Nat, x = gk := ⟨_, rfl⟩
          obtain ⟨wo, rfl⟩ : ∃ x : World, x = wr := ⟨_, rfl⟩
          obtain ⟨l, rs, fl, hL, hQ, hM, hRS, hRF, hfl, hfg, hrl, hbw⟩ := hrel
          obtain ⟨la', lc', rfl, hl1, hl2, hl3⟩ := hL
          have hbws := hbw.size
          obtain ⟨rvs, hown, hrl1, hrl2⟩ := hRS
          obtain ⟨oa, oc, rfl⟩ := owns_slice hown
          have HL3 := Lib.hid hl3; clear hl3
          have HRL := Lib.hid hrl2; clear hrl2
          by_cases hz : 0 < l.length
          · obtain ⟨fl, rfl⟩ : ∃ f', fl = f' + 1 := ⟨fl - 1, by omega⟩
            have hne : l ≠ [] := by intro e; rw [e] at hz; simp at hz
            have hmS : s ≤ l.length := by
              obtain ⟨m, hm⟩ := hM.out
              have h1 : 1 ≤ m := by
                by_cases h : 0 < m
                · omega
                · have h : m ≤ 0 := by omega
                  have := Int.mul_le_mul_of_nonneg_left h hs0
                  omega
              have := Int.mul_le_mul_of_nonneg_left h1 hs0
              omega
            have hRF2 := Lib.hid (show rowsF ws L.length L = ((rowF ws l).bind fun q => (rowsF ws fl q.2).map (q.1 :: ·)).map (rs ++ ·) from by rw [hRF.out]; simp only [rowsF]; rw [if_neg hne])
            have hLa : ListAt w1.heap.size wo (.slice la' l.length lc') l := ⟨la', lc', rfl, hl1, hl2, HL3.out⟩
            have HLA := Lib.hid hLa; clear hLa hRF
            have hOut := Lib.hid hown
            clear hown
            go_wp2_with fail
            go_loopg [9, 12, 42] (ws.length) (fun f x y z wx => ∃ (k : Nat) (l' row : List Int), z = .int .i64 k ∧ k ≤ ws.length ∧ ws.length ≤ k + f ∧ ListAt w1.heap.size wx x l' ∧ row.length = k ∧ wx.ownsRow wo.heap.size 3 1 y row.length (intCells row) ∧
              Hid (rowF ws l = (rowF (ws.drop k) l').map fun q => (row ++ q.1, q.2)) ∧ Hid ((l'.length : Int) = l.length - s + sumT (ws.drop k)) ∧ Hid (∀ q ∈ l', 0 ≤ q ∧ q ≤ 4294967295) ∧ l'.length + k ≤ l.length ∧ Below wo.heap.size wo wx)
            case atStart => exact ⟨0, l, [], rfl, by omega, by omega, HLA.out, rfl, World.ownsRow_nil _ _ _ _, by show _ = _; simp, by show _ = _; rw [List.drop_zero, ← HSE.out]; omega, hQ, by omega, Below.refl _ _⟩
            case round =>
              obtain ⟨k, l', row, rfl, hk2, hf2, hL', hrow, hownR, hF, hLen, hQ', hlk, hbx⟩ := hrel
              obtain ⟨la2, lc2, rfl, hm1, hm2, hm3⟩ := hL'
              have HRW := Lib.hid hrow; clear hrow
              have hbxs := hbx.size
              by_cases hlt2 : k < ws.length
              · have hck : wr.cell? ⟨gw, k, none⟩ = some (.int .i64 ws[k]) := (((hb1.trans (hbw.mono hb1s)).trans (hbx.mono (by omega))).cell (p := ⟨gw, k, none⟩) hgw).trans (HW.out k hlt2)
                have hwk := HWS.out ws[k] (List.getElem_mem hlt2)
                have hss := Lib.hid (show sumT (ws.drop k) = ws[k] + sumT (ws.drop (k + 1)) ∧ 0 ≤ sumT (ws.drop (k + 1)) from by
                  constructor
                  · rw [List.drop_eq_getElem_cons hlt2, sumT_cons]
                  · have := (sum_pos (ws := ws.drop (k + 1)) (fun y hy => HWS.out y (List.mem_of_mem_drop hy))).1; omega)
                obtain ⟨i0, hi, hz0, hz1, hz2⟩ := info_parts infoInt
                have b1 : row.length + 1 ≤ maxLen := by have := HRW.out; unfold maxLen; omega
                have b2 : (row.length + 1) * 8 ≤ 140737488355328 := by have := HRW.out; omega
                generalize hqe' : ws[k] = q at hck hwk hss
                have hqe := Lib.hid hqe'
                clear hqe'
                rcases hwk with hq | hq
                · subst hq
                  have hstep := Lib.hid (show rowF (ws.drop k) l' = (rowF (ws.drop (k + 1)) (l'.drop 1)).map fun z => (l'.headD 0 :: z.1, z.2) from by rw [List.drop_eq_getElem_cons hlt2, hqe.out]; rfl)
                  have hln : 1 ≤ l'.length := by have := hLen.out; have := hss.out; omega
                  obtain ⟨g, o, rfl, hg, hcell⟩ := hm3 (by omega)
                  have c0 := hcell 0 (by omega)
                  rw [Nat.add_zero] at c0
                  have hh := Lib.hid (show l'.headD 0 = l'[0] from by cases l' with
                    | nil => simp at hln
                    | cons a b => rfl)
                  have HCELL := Lib.hid hcell; clear hcell
                  rw [← hh.out] at c0
                  generalize l'.headD 0 = n0 at c0 hstep
                  have i1 : (1 : Int) ≤ (l'.length : Int) := by omega
                  have i2 : (l'.length : Int) ≤ (lc2 : Int) := by omega
                  by_cases hcp : lc2 = 1
                  · subst hcp
                    go_wp2_with fail
                    go_region_held3 (fun wx => Below wo.heap.size wo wx) (first | exact hbx.drew | exact hbx.drew.alloc hbxs _ | exact (hbx.drew.alloc hbxs _).grown hgrow (by simp; omega) (fun g hg => (hownR.lt g hg).1))
                      ((refine step_append_lies _ (by rfl) _ _ _ (by rfl) wo.heap.size 3 i0 _ 1 8 Try.underlying22 hi hz0 hz1 hz2 rfl (by omega) _ row.length (intCells row) (by rfl) ((hownR.alloc _).drew) ⟨wr.heap.size, 0, none⟩ 1 1 [.int .i64 n0] (by rfl) (by rfl) (World.news_of_block (cs := #[.int .i64 n0]) (t := 3) (fr := (0, 0)) (heap_alloc_new wr _)) (by simp [Value.oneCell']) (by omega) b1 b2 (by simp; omega) (wr.heap.size + 1) (by simp) ?_; intro gg cap w2 hown1 hgrow hat hlt))
                    all_goals
                      rename_i hSb
                      have hb6 : Below w1.heap.size wr w2 := ((Below.refl _ wr).alloc (by omega) (.cells #[.int .i64 n0] 3)).drew.grown hgrow (by simp; omega) (fun g hg => by have := (hownR.lt g hg).1; omega)
                      clear hgrow hat
                      go_wp2_with fail
                      go_roundg (gk - 1)
                      case measure => omega
                      case rel =>
                        refine ⟨k + 1, l'.drop 1, row ++ [n0], by go_num, by omega, by omega, ListAt.keeps ⟨_, 0, by first | (rw [List.length_drop]; done) | (rw [List.length_drop]; congr 1; omega), by rw [List.length_drop]; omega, by omega, ?_⟩ hb6, by have := HRW.out; simp; omega, by simpa [intCells] using hown1, ?_, ?_, fun z hz => hQ' z (List.mem_of_mem_drop hz), by simp; omega, hSb⟩
                        · exact fun h0 => absurd h0 (by simp; omega)
                        · show _ = _
                          rw [hF.out, hstep.out, Option.map_map]
                          congr 1
                          funext z
                          simp
                        · show _ = _
                          rw [List.length_drop]
                          have := hLen.out
                          have := hss.out
                          omega
                  · have i3 : (2 : Int) ≤ (lc2 : Int) := by omega
                    go_wp2_with fail
                    go_region_held3 (fun wx => Below wo.heap.size wo wx) (first | exact hbx.drew | exact hbx.drew.alloc hbxs _ | exact (hbx.drew.alloc hbxs _).grown hgrow (by simp; omega) (fun g hg => (hownR.lt g hg).1))
                      ((refine step_append_lies _ (by rfl) _ _ _ (by rfl) wo.heap.size 3 i0 _ 1 8 Try.underlying22 hi hz0 hz1 hz2 rfl (by omega) _ row.length (intCells row) (by rfl) ((hownR.alloc _).drew) ⟨wr.heap.size, 0, none⟩ 1 1 [.int .i64 n0] (by rfl) (by rfl) (World.news_of_block (cs := #[.int .i64 n0]) (t := 3) (fr := (0, 0)) (heap_alloc_new wr _)) (by simp [Value.oneCell']) (by omega) b1 b2 (by simp; omega) (wr.heap.size + 1) (by simp) ?_; intro gg cap w2 hown1 hgrow hat hlt))
                    all_goals
                      rename_i hSb
                      have hb6 : Below w1.heap.size wr w2 := ((Below.refl _ wr).alloc (by omega) (.cells #[.int .i64 n0] 3)).drew.grown hgrow (by simp; omega) (fun g hg => by have := (hownR.lt g hg).1; omega)
                      clear hgrow hat
                      go_wp2_with fail
                      go_roundg (gk - 1)
                      case measure => omega
                      case rel =>
                        refine ⟨k + 1, l'.drop 1, row ++ [n0], by go_num, by omega, by omega, ListAt.keeps ⟨_, lc2 - 1, by first | (rw [List.length_drop]; done) | (rw [List.length_drop]; congr 1; omega), by rw [List.length_drop]; omega, by omega, ?_⟩ hb6, by have := HRW.out; simp; omega, by simpa [intCells] using hown1, ?_, ?_, fun z hz => hQ' z (List.mem_of_mem_drop hz), by simp; omega, hSb⟩
                        · exact fun h0 => ⟨g, o + 1, rfl, hg, fun i hi => by have := HCELL.out (i + 1) (by simp at hi; omega); rw [show o + (i + 1) = o + 1 + i from by omega] at this; simpa [List.getElem_drop, Nat.add_comm] using this⟩
                        · show _ = _
                          rw [hF.out, hstep.out, Option.map_map]
                          congr 1
                          funext z
                          simp
                        · show _ = _
                          rw [List.length_drop]
                          have := hLen.out
                          have := hss.out
                          omega
                · subst hq
                  have hln : 2 ≤ l'.length := by have := hLen.out; have := hss.out; omega
                  obtain ⟨g, o, rfl, hg, hcell⟩ := hm3 (by omega)
                  have c0 := hcell 0 (by omega)
                  have c1 := hcell 1 (by omega)
                  rw [Nat.add_zero] at c0
                  have hh : l'.headD 0 = l'[0] := by cases l' with
                    | nil => simp at hln
                    | cons a b => rfl
                  have hh1 : l'.getD 1 0 = l'[1] := by simp [List.getD, List.getElem?_eq_getElem (show 1 < l'.length by omega)]
                  have hq0 := hQ' l'[0] (List.getElem_mem _)
                  have hq1 := hQ' l'[1] (List.getElem_mem _)
                  have hst : rowF (ws.drop k) l' = if 1073741823 < l'.headD 0 then none else (rowF (ws.drop (k + 1)) (l'.drop 2)).map fun z => ((l'.headD 0 * 4294967296 + l'.getD 1 0) :: z.1, z.2) := by
                    rw [List.drop_eq_getElem_cons hlt2, hqe.out]; rfl
                  rw [hh, hh1] at hst
                  have HCELL := Lib.hid hcell; clear hcell
                  clear hh hh1
                  generalize l'[0] = n0 at c0 hst hq0
                  generalize l'[1] = n1 at c1 hst hq1
                  obtain ⟨n00, n01⟩ := hq0
                  obtain ⟨n10, n11⟩ := hq1
                  have i1 : (2 : Int) ≤ (l'.length : Int) := by omega
                  have i2 : (l'.length : Int) ≤ (lc2 : Int) := by omega
                  by_cases hbig : 1073741823 < n0
                  · rw [if_pos hbig] at hst
                    have hE := Lib.hid (show rowsT v ws = ([], 2) from by rw [hR.out, hRF2.out, hF.out, hst]; rfl)
                    clear hst
                    go_wp2_with fail
                    go_ret2
                    exact ⟨.slice none 0 0, by rw [hE.out]; rfl, by rw [hE.out]; exact rowsAt_nil _ _, (hb1.trans (hbw.mono hb1s)).trans (hbx.mono (by omega))⟩
                  · rw [if_neg hbig] at hst
                    have hstep := Lib.hid hst
                    clear hst
                    have hsmall : n0 ≤ 1073741823 := by omega
                    obtain ⟨hshl, hor⟩ := or_wide n0 n1 n00 hsmall n10 n11
                    clear hbig
                    by_cases hcp : lc2 = 2
                    · subst hcp
                      go_wp2_with fail
                      go_region_held3 (fun wx => Below wo.heap.size wo wx) (first | exact hbx.drew | exact hbx.drew.alloc hbxs _ | exact (hbx.drew.alloc hbxs _).grown hgrow (by simp; omega) (fun g hg => (hownR.lt g hg).1))
                        ((refine step_append_lies _ (by rfl) _ _ _ (by rfl) wo.heap.size 3 i0 _ 1 8 Try.underlying22 hi hz0 hz1 hz2 rfl (by omega) _ row.length (intCells row) (by rfl) ((hownR.alloc _).drew) ⟨wr.heap.size, 0, none⟩ 1 1 [.int .i64 (n0 * 4294967296 + n1)] (by rfl) (by rfl) (World.news_of_block (cs := #[.int .i64 (n0 * 4294967296 + n1)]) (t := 3) (fr := (0, 0)) (heap_alloc_new wr _)) (by simp [Value.oneCell']) (by omega) b1 b2 (by simp; omega) (wr.heap.size + 1) (by simp) ?_; intro gg cap w2 hown1 hgrow hat hlt))
                      all_goals
                        rename_i hSb
                        have hb6 : Below w1.heap.size wr w2 := ((Below.refl _ wr).alloc (by omega) (.cells #[.int .i64 (n0 * 4294967296 + n1)] 3)).drew.grown hgrow (by simp; omega) (fun g hg => by have := (hownR.lt g hg).1; omega)
                        clear hgrow hat
                        go_wp2_with fail
                        go_roundg (gk - 1)
                        case measure => omega
                        case rel =>
                          refine ⟨k + 1, l'.drop 2, row ++ [n0 * 4294967296 + n1], by go_num, by omega, by omega, ListAt.keeps ⟨_, 0, by first | (rw [List.length_drop]; done) | (rw [List.length_drop]; congr 1; omega), by rw [List.length_drop]; omega, by omega, ?_⟩ hb6, by have := HRW.out; simp; omega, by simpa [intCells] using hown1, ?_, ?_, fun z hz => hQ' z (List.mem_of_mem_drop hz), by simp; omega, hSb⟩
                          · exact fun h0 => absurd h0 (by simp; omega)
                          · show _ = _
                            rw [hF.out, hstep.out, Option.map_map]
                            congr 1
                            funext z
                            simp
                          · show _ = _
                            rw [List.length_drop]
                            have := hLen.out
                            have := hss.out
                            omega
                    · have i3 : (3 : Int) ≤ (lc2 : Int) := by omega
                      go_wp2_with fail
                      go_region_held3 (fun wx => Below wo.heap.size wo wx) (first | exact hbx.drew | exact hbx.drew.alloc hbxs _ | exact (hbx.drew.alloc hbxs _).grown hgrow (by simp; omega) (fun g hg => (hownR.lt g hg).1))
                        ((refine step_append_lies _ (by rfl) _ _ _ (by rfl) wo.heap.size 3 i0 _ 1 8 Try.underlying22 hi hz0 hz1 hz2 rfl (by omega) _ row.length (intCells row) (by rfl) ((hownR.alloc _).drew) ⟨wr.heap.size, 0, none⟩ 1 1 [.int .i64 (n0 * 4294967296 + n1)] (by rfl) (by rfl) (World.news_of_block (cs := #[.int .i64 (n0 * 4294967296 + n1)]) (t := 3) (fr := (0, 0)) (heap_alloc_new wr _)) (by simp [Value.oneCell']) (by omega) b1 b2 (by simp; omega) (wr.heap.size + 1) (by simp) ?_; intro gg cap w2 hown1 hgrow hat hlt))
                      all_goals
                        rename_i hSb
                        have hb6 : Below w1.heap.size wr w2 := ((Below.refl _ wr).alloc (by omega) (.cells #[.int .i64 (n0 * 4294967296 + n1)] 3)).drew.grown hgrow (by simp; omega) (fun g hg => by have := (hownR.lt g hg).1; omega)
                        clear hgrow hat
                        go_wp2_with fail
                        go_roundg (gk - 1)
                        case measure => omega
                        case rel =>
                          refine ⟨k + 1, l'.drop 2, row ++ [n0 * 4294967296 + n1], by go_num, by omega, by omega, ListAt.keeps ⟨_, lc2 - 2, by first | (rw [List.length_drop]; done) | (rw [List.length_drop]; congr 1; omega), by rw [List.length_drop]; omega, by omega, ?_⟩ hb6, by have := HRW.out; simp; omega, by simpa [intCells] using hown1, ?_, ?_, fun z hz => hQ' z (List.mem_of_mem_drop hz), by simp; omega, hSb⟩
                          · exact fun h0 => ⟨g, o + 2, rfl, hg, fun i hi => by have := HCELL.out (i + 2) (by simp at hi; omega); rw [show o + (i + 2) = o + 2 + i from by omega] at this; simpa [List.getElem_drop, Nat.add_comm] using this⟩
                          · show _ = _
                            rw [hF.out, hstep.out, Option.map_map]
                            congr 1
                            funext z
                            simp
                          · show _ = _
                            rw [List.length_drop]
                            have := hLen.out
                            have := hss.out
                            omega
              · have hkE : k = ws.length := by omega
                have hFE := Lib.hid (show rowF ws l = some (row, l') from by rw [hF.out, hkE, List.drop_length]; simp [rowF])
                have hRF3 : Hid (rowsF ws L.length L = (rowsF ws fl l').map ((rs ++ [row]) ++ ·)) := by
                  show _ = _
                  rw [hRF2.out, hFE.out]
                  simp only [Option.bind_some, Option.map_map]
                  congr 1
                  funext y
                  simp
                have hLE := Lib.hid (show (l'.length : Int) = l.length - s from by rw [hLen.out, hkE, List.drop_length]; simp [sumT])
                clear hF hLen hkE
                obtain ⟨ra, rc, rfl⟩ := owns_slice hownR
                have HR := Lib.hid hownR
                clear hownR
                have hOx := ownsRow_keeps hOut.out (Keeps.of_fresh hbx (fun _ => False)) (fun _ _ e => e)
                have hrs : rs.length ≤ 1000 := by omega
                obtain ⟨i0, hi, hz0, hz1, hz2⟩ := info_parts infoRow
                have hOy := Lib.hid hOx
                go_wp2_with (at_builtin; refine wpList_append_own _ rfl _ _ 118 rfl w1.heap.size 22 i0 _ 1 24 Try.underlying118 hi hz0 hz1 hz2 rfl (by decide) _ _ _ rfl (hOx.alloc _) ⟨wr.heap.size, 0, none⟩ 1 1 [.slice ra row.length rc] rfl rfl ?c1 ?c2 ?c3 ?c4 ?c5 ?_)
                case c1 => exact new_cells wr #[.slice ra row.length rc] 22 _ rfl [.slice ra row.length rc] rfl
                case c2 => simp [Value.oneCell']
                case c3 => unfold maxLen; omega
                case c4 => omega
                case c5 => simp; omega
                intro v' w3 hown' hgrow _
                have hKw : Keeps (fun _ => False) wo (wr.alloc (.cells #[.slice ra row.length rc] 22)) := (Keeps.of_fresh hbx (fun _ => False)).alloc _
                have hOz := hOx.alloc (.cells #[.slice ra row.length rc] 22)
                have hRz := HR.out.alloc (.cells #[.slice ra row.length rc] 22)
                have hrows : RowsAt w3 w1.heap.size v' (rs ++ [row]) := by
                  refine ⟨rvs ++ [.slice ra row.length rc], by simpa using hown', by simp [hrl1], ?_⟩
                  intro i hi1 hi2
                  by_cases hir : i < rs.length
                  · have e1 : (rs ++ [row])[i] = rs[i] := List.getElem_append_left hir
                    have e2 : (rvs ++ [Value.slice ra row.length rc])[i] = rvs[i]'(by omega) := List.getElem_append_left (by omega)
                    rw [e1, e2]
                    have h1 := ownsRow_keeps (HRL.out i hir (by omega)) hKw (fun _ _ e => e)
                    exact h1.kept hgrow (owns_apart h1 hOz (by decide))
                  · have hie : i = rs.length := by simp at hi1; omega
                    subst hie
                    have e1 : (rs ++ [row])[rs.length] = row := by simp
                    have e2 : (rvs ++ [Value.slice ra row.length rc])[rs.length] = .slice ra row.length rc := by
                      have : rs.length = rvs.length := hrl1.symm
                      simp [this]
                    rw [e1, e2]
                    exact ownsRow_base' (hRz.kept hgrow (owns_apart hRz hOz (by decide))) hbws
                have hb4 : Below w1.heap.size w1 w3 := ((hbw.trans (hbx.mono hbws)).alloc (by omega) _).grown hgrow (by simp; omega) (fun g hg => (hOz.lt g hg).1)
                have hb5 : Below w1.heap.size wr w3 := ((Below.refl _ wr).alloc (by omega) _).grown hgrow (by simp; omega) (fun g hg => (hOz.lt g hg).1)
                clear hOx hOz hRz hKw hgrow hown'
                go_wp2_with fail
                go_roundg (go - 1)
                case measure => omega
                case rel =>
                  refine ⟨l', rs ++ [row], fl, ListAt.keeps ⟨la2, lc2, rfl, hm1, hm2, hm3⟩ hb5, hQ', ?_, hrows, hRF3, by have := hLE.out; omega, by have := hLE.out; omega, by have := hLE.out; simp; omega, hb4⟩
                  · obtain ⟨m, hm⟩ := hM.out
                    refine ⟨m - 1, ?_⟩
                    rw [hLE.out, hm, Int.mul_sub]; omega
          · have hE := Lib.hid (show rowsT v ws = (rs, 0) from by
              have hl0 : l = [] := List.length_eq_zero_iff.1 (by omega)
              rw [hR.out, hRF.out, hl0]
              cases fl <;> simp [rowsF, rowsE])
            go_wp2_with fail
            go_ret2
            refine ⟨_, by rw [hE.out]; rfl, ?_, hb1.trans (hbw.mono hb1s)⟩
            rw [hE.out]
            exact ⟨rvs, ownsRow_base' hown hb1s, hrl1, fun i h h2 => ownsRow_base' (HRL.out i h h2) hb1s⟩
      · have hmb : (((v.size : Int) % (4 * s)) != 0) = true := by rw [bne_iff_ne]; exact hmod
        have hR := Lib.hid (show rowsT v ws = ([], 26) from by unfold rowsT; rw [if_pos (by rw [← HSE.out]; exact hmod)])
        clear hmod
        go_wp2_with fail
        go_ret2
        exact ⟨.slice none 0 0, by rw [hR.out]; rfl, by rw [hR.out]; exact rowsAt_nil _ _, Below.refl _ _⟩
end Go.Proofs.Ytjfkjnakmmkkiaa
