/- Contracts of address: fits, regions. | The contract of regions of address. | The contract of windows of address. | Contracts of address: begin, Regions, Cells, Check. | Contracts of address: where a window is found. | The contract of translate of address. | The contract of Translate of address. | The contract of above of address. | Overlaps of addresses, in plain Lean: the translated regions with their places, and the pairs that have a common address. | Contracts of bringuplaw11: sameRegions, sameOverlaps, of equal lists. | The drawn region of regions of bringupref11 (printed by gr11.py rregions). | The drawn region of ranges of bringupref11 (printed by gr11.py rranges). | Addresses of a tree whose addresses are right, in plain Lean. -/
import Derived.Test.YthkoaakicdhnpaaGreatZ8
import Derived.StillTailTactics
import Derived.Test.YthkoaakicdhnpaaGreatZ3
import Derived.BigRegion
import Derived.Test.YthkoaakicdhnpaaGreatZ2

namespace Go.Proofs.YthkoaakicdhnpaaGreat
open Go.RowKit

def fitsB (b s : Int) : Bool := decide (s ≤ 4611686018427387903 - b)

set_option maxHeartbeats 400000 in
theorem address_fits (b s : Int) (w : World) (hb0 : 0 ≤ b) (hb1 : b ≤ 4611686018427387903) :
    Calls Tryz.prog 70 #[.int .i64 b, .int .i64 s] w fun e w' => e = .returned (.bool (fitsB b s)) ∧ w = w' := by
  go_enter Tryz.func70, Tryz.ntmps70
  go_wp2_with fail
  go_ret
  exact ⟨ret_bool (by unfold fitsB; rfl), rfl⟩

def nmReg : ByteArray := ⟨#[114, 101, 103]⟩
def regF : List (List Int) → Option (List (Int × Int))
  | [] => some []
  | r :: rs => if fitsB (r.getD 0 0) (r.getD 1 0) = true then (regF rs).map ((r.getD 0 0, r.getD 1 0) :: ·) else none
def regE (o : Option (List (Int × Int))) : List (Int × Int) × Int := match o with
  | none => ([], 2)
  | some l => (l, 0)
def regionsT (T : List NodeT) (k : Nat) : List (Int × Int) × Int :=
  if k = 0 then ([], 0) else
    let c := pairT T (parOf T k)
    if c.2.2 ≠ 0 then ([], c.2.2) else
      let r := rowsT (valueT T k nmReg).1 [c.1, c.2.1]
      if r.2 ≠ 0 then ([], r.2) else regE (regF r.1)
theorem countV_bd (v : ByteArray × Bool) (h : (countV v).2 = true) : (countV v).1 = 1 ∨ (countV v).1 = 2 := by
  unfold countV at h ⊢
  split
  · exact .inl rfl
  · rename_i h1
    rw [if_neg h1] at h
    split
    · rename_i h2; rw [if_pos h2] at h; cases h
    · rename_i h2
      simp only [not_or] at h2
      obtain ⟨_, _, h3, h4⟩ := h2
      simp only
      omega
theorem pairT_bd (T : List NodeT) (node : Int) (h : (pairT T node).2.2 = 0) : ((pairT T node).1 = 1 ∨ (pairT T node).1 = 2) ∧ ((pairT T node).2.1 = 1 ∨ (pairT T node).2.1 = 2) := by
  unfold pairT at h ⊢
  by_cases c : (countT T node nmAC).2 = false ∨ (countT T node nmSC).2 = false
  · rw [if_pos c] at h; simp at h
  · rw [if_neg c]
    simp only [not_or, Bool.not_eq_false] at c
    exact ⟨countV_bd _ c.1, countV_bd _ c.2⟩
theorem rowF_spec : ∀ (ws l : List Int) (q : List Int × List Int), (∀ x ∈ l, 0 ≤ x ∧ x ≤ 4294967295) → rowF ws l = some q → q.1.length = ws.length ∧ (∀ x ∈ q.1, 0 ≤ x ∧ x ≤ 4611686018427387903) ∧ ∀ x ∈ q.2, 0 ≤ x ∧ x ≤ 4294967295 := by
  intro ws
  induction ws with
  | nil => intro l q hl h; simp [rowF] at h; subst h; exact ⟨rfl, by simp, hl⟩
  | cons w ws ih =>
    intro l q hl h
    have hd : 0 ≤ l.headD 0 ∧ l.headD 0 ≤ 4294967295 := by
      cases l with
      | nil => simp
      | cons a b => exact hl a (by simp)
    have hg : 0 ≤ l.getD 1 0 ∧ l.getD 1 0 ≤ 4294967295 := by
      match l with
      | [] => simp
      | [_] => simp
      | a :: b :: r => exact hl b (by simp)
    simp only [rowF] at h
    by_cases hw : w = 2
    · rw [if_pos hw] at h
      by_cases hb : 1073741823 < l.headD 0
      · rw [if_pos hb] at h; cases h
      · rw [if_neg hb, Option.map_eq_some_iff] at h
        obtain ⟨p, hp, rfl⟩ := h
        obtain ⟨h1, h2, h3⟩ := ih _ _ (fun x hx => hl x (List.mem_of_mem_drop hx)) hp
        refine ⟨by simp [h1], ?_, h3⟩
        intro x hx
        rcases List.mem_cons.1 hx with rfl | hx
        · omega
        · exact h2 x hx
    · rw [if_neg hw, Option.map_eq_some_iff] at h
      obtain ⟨p, hp, rfl⟩ := h
      obtain ⟨h1, h2, h3⟩ := ih _ _ (fun x hx => hl x (List.mem_of_mem_drop hx)) hp
      refine ⟨by simp [h1], ?_, h3⟩
      intro x hx
      rcases List.mem_cons.1 hx with rfl | hx
      · omega
      · exact h2 x hx
theorem rowsF_spec (ws : List Int) : ∀ (f : Nat) (l : List Int) (rs : List (List Int)), (∀ x ∈ l, 0 ≤ x ∧ x ≤ 4294967295) → rowsF ws f l = some rs → rs.length ≤ f ∧ ∀ r ∈ rs, r.length = ws.length ∧ ∀ x ∈ r, 0 ≤ x ∧ x ≤ 4611686018427387903 := by
  intro f
  induction f with
  | zero => intro l rs _ h; simp [rowsF] at h; subst h; simp
  | succ f ih =>
    intro l rs hl h
    simp only [rowsF] at h
    by_cases hz : l = []
    · rw [if_pos hz] at h; simp at h; subst h; simp
    · rw [if_neg hz, Option.bind_eq_some_iff] at h
      obtain ⟨q, hq, h⟩ := h
      rw [Option.map_eq_some_iff] at h
      obtain ⟨rs', hrs, rfl⟩ := h
      obtain ⟨h1, h2, h3⟩ := rowF_spec ws l q hl hq
      obtain ⟨h4, h5⟩ := ih q.2 rs' h3 hrs
      refine ⟨by simp; omega, ?_⟩
      intro r hr
      rcases List.mem_cons.1 hr with rfl | hr
      · exact ⟨h1, h2⟩
      · exact h5 r hr
theorem rowsT_spec (v : ByteArray) (ws : List Int) : (rowsT v ws).1.length ≤ v.size ∧ ∀ r ∈ (rowsT v ws).1, r.length = ws.length ∧ ∀ x ∈ r, 0 ≤ x ∧ x ≤ 4611686018427387903 := by
  unfold rowsT
  split
  · simp
  · cases h : rowsF ws (cellsT v).length (cellsT v) with
    | none => simp [rowsE]
    | some rs =>
      obtain ⟨h1, h2⟩ := rowsF_spec ws _ _ rs (cellsT_bd v) h
      have := cellsT_len v
      exact ⟨by simp only [rowsE]; omega, h2⟩
end Go.Proofs.YthkoaakicdhnpaaGreat

namespace Go.Proofs.YthkoaakicdhnpaaGreat
open Go.RowKit

def pairCells (l : List (Int × Int)) : List Value := l.flatMap fun p => [.int .i64 p.1, .int .i64 p.2]
theorem pairCells_snoc (l : List (Int × Int)) (p : Int × Int) : pairCells (l ++ [p]) = pairCells l ++ [.int .i64 p.1, .int .i64 p.2] := by simp [pairCells]
def RegionsPost (T : List NodeT) (k : Nat) (w : World) (e : Ending) (w' : World) : Prop :=
  ∃ v, e = .returned (.tuple #[v, .int .i64 (regionsT T k).2]) ∧ w'.ownsRow w.heap.size 56 2 v (regionsT T k).1.length (pairCells (regionsT T k).1) ∧ Below w.heap.size w w'
theorem infoReg : (Tryz.prog.info? 56).map (fun i => (i.zero, i.size, i.bytes)) = some (some (.agg #[.int .i64 0, .int .i64 0]), 2, 16) := by kernel_rfl
theorem cell_new {w w' : World} {B : Nat} {g o : Nat} {x : Value} (h : w.cell? ⟨g, o, none⟩ = some x) (hg : g < B) (k : Below B w w') : w'.cell? ⟨g, o, none⟩ = some x := (k.cell (p := ⟨g, o, none⟩) hg).trans h

theorem rows_at {w : World} {B : Nat} {v : Value} {rs : List (List Int)} (h : RowsAt w B v rs) (j : Nat) (hj : j < rs.length) (h2 : 0 < rs[j].length) :
    ∃ g cap gj cj, v = .slice (some ⟨g, 0, none⟩) rs.length cap ∧ rs.length ≤ cap ∧ g < w.heap.size ∧ gj < w.heap.size ∧ w.cell? ⟨g, j, none⟩ = some (.slice (some ⟨gj, 0, none⟩) rs[j].length cj) ∧ rs[j].length ≤ cj ∧
      ∀ (i : Nat) (hi : i < rs[j].length), w.cell? ⟨gj, i, none⟩ = some (.int .i64 rs[j][i]) := by
  obtain ⟨rvs, h3, h4, h5⟩ := h
  obtain ⟨gj, cj, e1, q1, _, q2, q3⟩ := ints_at (h5 j hj (by omega)) h2
  rcases h3.2 with ⟨_, h0⟩ | ⟨g, cap, cur, rfl, hb, hh, hcap, hr⟩
  · omega
  · refine ⟨g, cap, gj, cj, rfl, hcap, lt_of_block hh, q2, ?_, q1, q3⟩
    have hc := h3.cells (g := g) rfl j rvs[j] (by simp [h4, hj])
    have hadd : (⟨g, 0, none⟩ : Addr).add j = ⟨g, j, none⟩ := by unfold Addr.add; split <;> simp_all
    rw [hadd] at hc
    rw [hc, e1]
theorem pair_row {r : List Int} (h : r.length = 2) : r = [r.getD 0 0, r.getD 1 0] := by
  match r, h with
  | [a, b], _ => rfl

set_option maxRecDepth 100000 in
set_option maxHeartbeats 4000000 in
theorem address_regions (R : Nat → Prop) (v : Value) (T : List NodeT) (k : Nat) (w : World) (hT : NodesIn R w v T) (hc : checkT T = 0) (hk : k < T.length) :
    Calls Tryz.prog 44 #[.agg #[v], .int .i64 k] w (RegionsPost T k w) := by
  obtain ⟨a, cap, rfl, hc1, hc2⟩ := hT.shape
  have HT := Lib.hid hT; clear hT
  by_cases hk0 : k = 0
  · have hkb : ((k : Int) == 0) = true := by simp [hk0]
    have hE := Lib.hid (show regionsT T k = ([], 0) from by unfold regionsT; rw [if_pos hk0])
    clear hk0 hc
    go_enter Tryz.func44, Tryz.ntmps44
    go_wp2_with fail
    go_ret2
    exact ⟨.slice none 0 0, by rw [hE.out]; rfl, by rw [hE.out]; exact World.ownsRow_nil _ _ _ _, (Below.refl _ _).alloc (Nat.le_refl _) _⟩
  · have hkb : ((k : Int) == 0) = false := by simp; omega
    obtain ⟨g, o, pa, pc, rfl, hg, c0, c1, c2, hp, p1, p2, b0, b1, b2⟩ := HT.out.at k hk
    have hnm := check_named hc
    obtain ⟨hp0, hp1⟩ := (named_par hnm k hk).2 (by omega)
    have hlen := (limits_len (check_limits hc)).2
    have hE := Lib.hid (show regionsT T k = (if (pairT T T[k].parent).2.2 ≠ 0 then ([], (pairT T T[k].parent).2.2) else
      if (rowsT (valueT T k nmReg).1 [(pairT T T[k].parent).1, (pairT T T[k].parent).2.1]).2 ≠ 0 then ([], (rowsT (valueT T k nmReg).1 [(pairT T T[k].parent).1, (pairT T T[k].parent).2.1]).2)
      else regE (regF (rowsT (valueT T k nmReg).1 [(pairT T T[k].parent).1, (pairT T T[k].parent).2.1]).1)) from by unfold regionsT; rw [if_neg hk0, parOf_at hk])
    have hcl := fun wx hx => address_cells R (.slice (some ⟨g, o, none⟩) T.length cap) T T[k].parent wx hx
    have hpb := pairT_bd T T[k].parent
    have hvl := fun wx hx => tree_Value R (.slice (some ⟨g, o, none⟩) T.length cap) T k nmReg wx hx
    have hvs := valueT_size T k nmReg
    unfold ValuePost at hvl
    generalize valueT T k nmReg = V at hE hvl hvs
    obtain ⟨vs, vb⟩ := V
    simp only at hvl hvs
    generalize pairT T T[k].parent = C at hE hcl hpb
    obtain ⟨ac, sc, ec⟩ := C
    simp only at hcl hpb
    have HCL := Lib.hid hcl; clear hcl
    unfold nmReg at hvl
    have HVL := Lib.hid hvl; clear hvl
    generalize T[k].parent = pp at c0 b1 b2 hp0 hp1 HCL
    have HP := Lib.hid hp; clear hp hc hk0 hnm c1 c2
    go_enter Tryz.func44, Tryz.ntmps44
    go_wp2_with fail
    have ik0 : (0 : Int) ≤ (k : Int) := by omega
    have ik1 : (k : Int) < (T.length : Int) := by omega
    go_region_held3 (fun wx => wx.cell? ⟨w.heap.size, 0, none⟩ = some (.slice (some ⟨g, o, none⟩) T.length cap) ∧ wx.cell? ⟨g, o + k * 3, none⟩ = some (.int .i64 pp) ∧ Below w.heap.size w wx)
      (first
      | exact ⟨(Holds.new w #[.slice (some ⟨g, o, none⟩) T.length cap] 25).drew.cell 0, cell_new c0 hg (((Below.refl _ _).alloc (Nat.le_refl _) _).drew), ((Below.refl _ _).alloc (Nat.le_refl _) _).drew⟩
      | (go_split_ands; exact ⟨cell_new (by assumption) (by simp) hbc, cell_new (by assumption) (by simp; omega) hbc, ((Below.refl w.heap.size w).alloc (Nat.le_refl _) _).drew.trans (hbc.mono (by simp))⟩)
      | go_keep)
      ((go_at_call 43; refine (HCL.out _ (by exact HT.out.new (((Below.refl w.heap.size w).alloc (Nat.le_refl _) _).drew))).mono ?_; rintro e wc ⟨rfl, hbc⟩))
    rename_i hS
    obtain ⟨bx, _, hbx⟩ := hS
    have hbxs := hbx.size
    clear c0 ik0 ik1
    by_cases hec : ec = 0
    · subst hec
      obtain ⟨ha, hs⟩ := hpb rfl
      have hrw := fun (wx : World) hw => address_rows vs [ac, sc] wx.heap.size 2 (wx.alloc (.cells #[.int .i64 ac, .int .i64 sc] 3)) hw (by simp; omega) (by simp) (by simp) (by simp) (by omega) (by omega)
      have hspec := rowsT_spec vs [ac, sc]
      have hE2 := hE.out
      rw [if_neg (by simp)] at hE2
      clear hE
      unfold RowsPost at hrw
      generalize rowsT vs [ac, sc] = RW at hE2 hrw hspec
      obtain ⟨rows, er⟩ := RW
      simp only at hE2 hrw hspec
      have HE2 := Lib.hid hE2; clear hE2
      have HRW := Lib.hid hrw; clear hrw
      have HSP := Lib.hid hspec; clear hspec
      clear ha hs hpb
      go_wp2_with fail
      refine (HVL.out _ (by exact HT.out.new hbx)).mono ?_
      rintro e w3 ⟨rfl, hb3⟩
      have hb4 : Below w.heap.size w w3 := hbx.trans (hb3.mono hbxs)
      have hs4 := hb4.size
      go_wp2_with fail
      refine (HRW.out w3 ?_).mono ?_
      · intro i hi
        have h2 : i = 0 ∨ i = 1 := by simp at hi; omega
        rcases h2 with rfl | rfl
        · exact (Holds.new w3 #[.int .i64 ac, .int .i64 sc] 3).cell 0
        · exact (Holds.new w3 #[.int .i64 ac, .int .i64 sc] 3).cell 1
      rintro e w4 ⟨rv, rfl, hRA, hb5⟩
      have hb6 : Below w.heap.size w w4 := (hb4.alloc hs4 _).trans (hb5.mono (by simp; omega))
      have hs6 := hb6.size
      by_cases her : er = 0
      · subst her
        obtain ⟨hsp1, hsp2⟩ := HSP.out
        have hF := Lib.hid (show regionsT T k = regE (regF rows) from by rw [HE2.out, if_neg (by simp)])
        have hrl : rows.length ≤ 1000 := by omega
        have HSP2 := Lib.hid hsp2; clear hsp2
        obtain ⟨ra, rc, rfl⟩ : ∃ ra rc, rv = .slice ra rows.length rc := by obtain ⟨rvs, h, _⟩ := hRA; exact owns_slice h
        have HRA := Lib.hid hRA; clear hRA
        clear bx
        go_wp2_with fail
        go_loopg [12, 51] (rows.length) (fun f x y wr => ∃ (j : Nat) (l : List (Int × Int)), y = .int .i64 j ∧ j ≤ rows.length ∧ rows.length ≤ j + f ∧ Hid (l.length = j) ∧ wr.ownsRow w4.heap.size 56 2 x l.length (pairCells l) ∧
          Hid (regF rows = (regF (rows.drop j)).map (l ++ ·)) ∧ Below w4.heap.size w4 wr)
        case atStart => exact ⟨0, [], rfl, by omega, by omega, rfl, World.ownsRow_nil _ _ _ _, by show _ = _; rw [List.drop_zero]; cases regF rows <;> rfl, Below.refl _ _⟩
        case round =>
          obtain ⟨j, l, rfl, hj, hf, hlj, hown, hG, hbw⟩ := hrel
          obtain ⟨oa, oc, rfl⟩ := owns_slice hown
          have hbws := hbw.size
          by_cases hjl : j < rows.length
          · obtain ⟨hr2, hrb⟩ := HSP2.out rows[j] (List.getElem_mem hjl)
            simp only [List.length_cons, List.length_nil] at hr2
            obtain ⟨gr, cr, gj, cj, e1, q1, q2, q3, d0, q4, q5⟩ := rows_at HRA.out j hjl (by omega)
            cases e1
            have d1 := q5 0 (by omega)
            have d2 := q5 1 (by omega)
            have f0 := cell_new d0 q2 hbw
            have f1 := cell_new d1 q3 hbw
            have f2 := cell_new d2 q3 hbw
            have hb0' := hrb rows[j][0] (List.getElem_mem _)
            have hb1' := hrb rows[j][1] (List.getElem_mem _)
            have hst : regF (rows.drop j) = if fitsB rows[j][0] rows[j][1] = true then (regF (rows.drop (j + 1))).map ((rows[j][0], rows[j][1]) :: ·) else none := by
              rw [List.drop_eq_getElem_cons hjl]
              simp only [regF]
              rw [show rows[j].getD 0 0 = rows[j][0] from by simp [List.getD, hr2], show rows[j].getD 1 0 = rows[j][1] from by simp [List.getD, hr2]]
            rw [hr2] at f0 q4
            clear d0 q5 hrb
            have D1 := Lib.hid d1; clear d1
            have D2 := Lib.hid d2; clear d2
            generalize rows[j][0] = y0 at f1 hb0' hst D1
            generalize rows[j][1] = y1 at f2 hb1' hst D2
            obtain ⟨y00, y01⟩ := hb0'
            obtain ⟨y10, y11⟩ := hb1'
            have hft := fun wx => address_fits y0 y1 wx y00 y01
            have HST := Lib.hid hst; clear hst
            obtain ⟨i0, hi, hz0, hz1, hz2⟩ := info_parts infoReg
            have hlj' := hlj.out
            have b1 : l.length + 1 ≤ maxLen := by unfold maxLen; omega
            have b2 : (l.length + 1) * 16 ≤ 140737488355328 := by omega
            clear hlj'
            cases hfb : fitsB y0 y1 with
            | false =>
              rw [hfb] at hft
              have HFT := Lib.hid hft; clear hft
              have hE3 := Lib.hid (show regionsT T k = ([], 2) from by rw [hF.out, hG.out, HST.out, hfb]; rfl)
              clear hfb
              go_wp2_with fail
              go_quiet ((go_at_call 70; exact Calls.quiet_of_same ((HFT.out _).mono fun _ _ ⟨a, b⟩ => ⟨a, b.symm⟩)))
              go_wp2_with fail
              go_ret2
              exact ⟨.slice none 0 0, by rw [hE3.out]; rfl, by rw [hE3.out]; exact World.ownsRow_nil _ _ _ _, below_draws (hb6.trans (hbw.mono hs6)) _⟩
            | true =>
              rw [hfb] at hft
              have HFT := Lib.hid hft; clear hft
              have hG2 : Hid (regF rows = (regF (rows.drop (j + 1))).map ((l ++ [(y0, y1)]) ++ ·)) := by
                show _ = _
                rw [hG.out, HST.out, hfb, if_pos rfl, Option.map_map]
                congr 1
                funext z
                simp
              clear hfb
              go_wp2_with fail
              go_quiet ((go_at_call 70; exact Calls.quiet_of_same ((HFT.out _).mono fun _ _ ⟨a, b⟩ => ⟨a, b.symm⟩)))
              have hownq : (wr.drewN nq).ownsRow w4.heap.size 56 2 (.slice oa l.length oc) l.length (pairCells l) := hown
              have hbq : Below w4.heap.size w4 (wr.drewN nq) := below_draws hbw nq
              go_wp2_with fail
              go_region_held3 (fun wx => wx.cell? ⟨gj, 0, none⟩ = some (.int .i64 y0) ∧ wx.cell? ⟨gj, 1, none⟩ = some (.int .i64 y1) ∧ Below w4.heap.size w4 wx)
                (first
                | exact ⟨f1, f2, hbq.drew⟩
                | exact ⟨cell_new D1.out q3 (hbq.drew.alloc hbws _), cell_new D2.out q3 (hbq.drew.alloc hbws _), hbq.drew.alloc hbws _⟩
                | (exact ⟨cell_new D1.out q3 ((hbq.drew.alloc hbws _).grown hgrow (by simp; omega) (fun g hg => (hownq.lt g hg).1)), cell_new D2.out q3 ((hbq.drew.alloc hbws _).grown hgrow (by simp; omega) (fun g hg => (hownq.lt g hg).1)), (hbq.drew.alloc hbws _).grown hgrow (by simp; omega) (fun g hg => (hownq.lt g hg).1)⟩))
                ((refine step_append_lies _ (by rfl) _ _ _ (by rfl) w4.heap.size 56 i0 _ 2 16 Tryz.underlying52 hi hz0 hz1 hz2 rfl (by omega) _ l.length (pairCells l) (by rfl) ((hownq.alloc _).drew) ⟨wr.heap.size, 0, none⟩ 1 1 [.int .i64 y0, .int .i64 y1] (by rfl) (by rfl) (World.news_of_block (cs := #[.int .i64 y0, .int .i64 y1]) (t := 56) (fr := (0, 0)) (heap_alloc_new (wr.drewN nq) _)) (by simp [Value.oneCell']) (by omega) b1 b2 (by simp; omega) (wr.heap.size + 1) (by simp) ?_; intro gg cap2 w5 hown1 hgrow hat hlt))
              all_goals
                rename_i hS
                obtain ⟨_, _, hb7⟩ := hS
                clear hgrow hat
                go_wp2_with fail
                go_roundg (gk - 1)
                case measure => omega
                case rel => exact ⟨j + 1, l ++ [(y0, y1)], by go_num, by omega, by omega, by have := hlj.out; show _ = _; simp; omega, by rw [pairCells_snoc]; simpa using hown1, hG2, hb7⟩
          · have hfin := Lib.hid (show regionsT T k = (l, 0) from by rw [hF.out, hG.out, List.drop_eq_nil_of_le (by omega)]; simp [regF, regE])
            go_wp2_with fail
            go_ret2
            exact ⟨_, by rw [hfin.out]; rfl, by rw [hfin.out]; exact ownsRow_base' hown hs6, hb6.trans (hbw.mono hs6)⟩
      · have herb : (er != 0) = true := by simpa using her
        have hF := Lib.hid (show regionsT T k = ([], er) from by rw [HE2.out, if_pos her])
        clear her
        go_wp2_with fail
        go_ret2
        exact ⟨.slice none 0 0, by rw [hF.out]; rfl, by rw [hF.out]; exact World.ownsRow_nil _ _ _ _, hb6⟩
    · have hecb : (ec != 0) = true := by simpa using hec
      have hF := Lib.hid (show regionsT T k = ([], ec) from by rw [hE.out, if_pos hec])
      clear hec
      go_wp2_with fail
      go_ret2
      exact ⟨.slice none 0 0, by rw [hF.out]; rfl, by rw [hF.out]; exact World.ownsRow_nil _ _ _ _, hbx⟩
end Go.Proofs.YthkoaakicdhnpaaGreat

namespace Go.Proofs.YthkoaakicdhnpaaGreat
open Go.RowKit

def nmRanges : ByteArray := ⟨#[114, 97, 110, 103, 101, 115]⟩
def winF : List (List Int) → Option (List (Int × Int × Int))
  | [] => some []
  | r :: rs => if fitsB (r.getD 0 0) (r.getD 2 0) = true ∧ fitsB (r.getD 1 0) (r.getD 2 0) = true then (winF rs).map ((r.getD 0 0, r.getD 1 0, r.getD 2 0) :: ·) else none
def winE (o : Option (List (Int × Int × Int))) : List (Int × Int × Int) × Bool × Int := match o with
  | none => ([], false, 2)
  | some l => (l, false, 0)
def windowsT (T : List NodeT) (k : Nat) : List (Int × Int × Int) × Bool × Int :=
  let v := valueT T k nmRanges
  if v.2 = false ∨ v.1.size = 0 then ([], v.2, 0) else
    let c := pairT T k
    if c.2.2 ≠ 0 then ([], false, c.2.2) else
      let u := pairT T (parOf T k)
      if u.2.2 ≠ 0 then ([], false, u.2.2) else
        let r := rowsT v.1 [c.1, u.1, c.2.1]
        if r.2 ≠ 0 then ([], false, r.2) else winE (winF r.1)
def triCells (l : List (Int × Int × Int)) : List Value := l.flatMap fun p => [.int .i64 p.1, .int .i64 p.2.1, .int .i64 p.2.2]
theorem triCells_snoc (l : List (Int × Int × Int)) (p : Int × Int × Int) : triCells (l ++ [p]) = triCells l ++ [.int .i64 p.1, .int .i64 p.2.1, .int .i64 p.2.2] := by simp [triCells]
def WindowsPost (T : List NodeT) (k : Nat) (w : World) (e : Ending) (w' : World) : Prop :=
  ∃ v, e = .returned (.tuple #[v, .bool (windowsT T k).2.1, .int .i64 (windowsT T k).2.2]) ∧ w'.ownsRow w.heap.size 118 3 v (windowsT T k).1.length (triCells (windowsT T k).1) ∧ Below w.heap.size w w'
theorem infoWin : (Tryz.prog.info? 118).map (fun i => (i.zero, i.size, i.bytes)) = some (some (.agg #[.int .i64 0, .int .i64 0, .int .i64 0]), 3, 24) := by kernel_rfl

set_option maxRecDepth 100000 in
set_option maxHeartbeats 8000000 in
theorem address_windows (R : Nat → Prop) (v : Value) (T : List NodeT) (k : Nat) (w : World) (hT : NodesIn R w v T) (hc : checkT T = 0) (hk : k < T.length) (hk1 : 0 < k) :
    Calls Tryz.prog 45 #[.agg #[v], .int .i64 k] w (WindowsPost T k w) := by
  obtain ⟨a, cap, rfl, hc1, hc2⟩ := hT.shape
  have HT := Lib.hid hT; clear hT
  obtain ⟨g, o, pa, pc, rfl, hg, c0, c1, c2, hp, p1, p2, b0, b1, b2⟩ := HT.out.at k hk
  have hnm := check_named hc
  obtain ⟨hp0, hp1⟩ := (named_par hnm k hk).2 hk1
  have hlen := (limits_len (check_limits hc)).2
  have hE := Lib.hid (show windowsT T k = (if (valueT T k nmRanges).2 = false ∨ (valueT T k nmRanges).1.size = 0 then ([], (valueT T k nmRanges).2, 0) else
    if (pairT T k).2.2 ≠ 0 then ([], false, (pairT T k).2.2) else if (pairT T T[k].parent).2.2 ≠ 0 then ([], false, (pairT T T[k].parent).2.2) else
      if (rowsT (valueT T k nmRanges).1 [(pairT T k).1, (pairT T T[k].parent).1, (pairT T k).2.1]).2 ≠ 0 then ([], false, (rowsT (valueT T k nmRanges).1 [(pairT T k).1, (pairT T T[k].parent).1, (pairT T k).2.1]).2)
      else winE (winF (rowsT (valueT T k nmRanges).1 [(pairT T k).1, (pairT T T[k].parent).1, (pairT T k).2.1]).1)) from by unfold windowsT; rw [parOf_at hk])
  have hcl := fun wx hx => address_cells R (.slice (some ⟨g, o, none⟩) T.length cap) T T[k].parent wx hx
  have hck := fun wx hx => address_cells R (.slice (some ⟨g, o, none⟩) T.length cap) T k wx hx
  have hpb := pairT_bd T T[k].parent
  have hpk := pairT_bd T k
  have hvl := fun wx hx => tree_Value R (.slice (some ⟨g, o, none⟩) T.length cap) T k nmRanges wx hx
  have hvs := valueT_size T k nmRanges
  unfold ValuePost at hvl
  generalize valueT T k nmRanges = V at hE hvl hvs
  obtain ⟨vs, vb⟩ := V
  simp only at hvl hvs
  generalize pairT T T[k].parent = C at hE hcl hpb
  obtain ⟨uc, usc, ue⟩ := C
  generalize pairT T (k : Int) = D at hE hck hpk
  obtain ⟨ac, sc, ec⟩ := D
  simp only at hcl hpb hck hpk
  have HCL := Lib.hid hcl; clear hcl
  have HCK := Lib.hid hck; clear hck
  unfold nmRanges at hvl
  have HVL := Lib.hid hvl; clear hvl
  generalize T[k].parent = pp at c0 b1 b2 hp0 hp1 HCL
  have HP := Lib.hid hp; clear hp hc hnm c1 c2
  have hb0 : Below w.heap.size w (w.alloc (.cells #[.slice (some ⟨g, o, none⟩) T.length cap] 25)) := (Below.refl w.heap.size w).alloc (Nat.le_refl _) _
  have hB0 := Holds.new w #[.slice (some ⟨g, o, none⟩) T.length cap] 25
  cases vb with
  | false =>
    have hF := Lib.hid (show windowsT T k = ([], false, 0) from by rw [hE.out, if_pos (.inl rfl)])
    go_enter Tryz.func45, Tryz.ntmps45
    go_wp2_with fail
    refine (HVL.out _ (by exact HT.out.new hb0)).mono ?_
    rintro e w1 ⟨rfl, hb1⟩
    go_wp2_with fail
    go_ret3
    exact ⟨.slice none 0 0, by rw [hF.out]; rfl, by rw [hF.out]; exact World.ownsRow_nil _ _ _ _, hb0.trans (hb1.mono (by simp))⟩
  | true =>
    by_cases hz : vs.size = 0
    · have hF := Lib.hid (show windowsT T k = ([], true, 0) from by rw [hE.out, if_pos (.inr hz)])
      have vne : vs.toList = [] := (toList_nil_size vs).2 hz
      clear hz
      go_enter Tryz.func45, Tryz.ntmps45
      go_wp2_with fail
      refine (HVL.out _ (by exact HT.out.new hb0)).mono ?_
      rintro e w1 ⟨rfl, hb1⟩
      go_wp2_with fail
      go_ret3
      exact ⟨.slice none 0 0, by rw [hF.out]; rfl, by rw [hF.out]; exact World.ownsRow_nil _ _ _ _, hb0.trans (hb1.mono (by simp))⟩
    · have vne : ¬ vs.toList = [] := fun e => hz ((toList_nil_size vs).1 e)
      have vne2 : vs.toList.isEmpty = false := by simpa using vne
      have hE1 := Lib.hid (show windowsT T k = if ec ≠ 0 then ([], false, ec) else if ue ≠ 0 then ([], false, ue) else
        if (rowsT vs [ac, uc, sc]).2 ≠ 0 then ([], false, (rowsT vs [ac, uc, sc]).2) else winE (winF (rowsT vs [ac, uc, sc]).1) from by rw [hE.out, if_neg (by rintro (h | h); cases h; exact hz h)])
      clear hz hE
      go_enter Tryz.func45, Tryz.ntmps45
      go_wp2_with fail
      refine (HVL.out _ (by exact HT.out.new hb0)).mono ?_
      rintro e w1 ⟨rfl, hb1⟩
      have hb2 := hb0.trans (hb1.mono (by simp))
      have hB1 := hB0.keeps (Keeps.of_fresh hb1 (fun _ => False)) (fun e => e)
      have hbs2 := hb2.size
      have bx1 := hB1.cell 0
      have blt1 := hB1.lt
      go_wp2_with fail
      refine (HCK.out _ (by exact HT.out.new hb2)).mono ?_
      rintro e w2 ⟨rfl, hb3⟩
      have hb4 := hb2.trans (hb3.mono hbs2)
      have hbs4 := hb4.size
      have hB2 := hB1.keeps (Keeps.of_fresh hb3 (fun _ => False)) (fun e => e)
      by_cases hec : ec = 0
      · subst hec
        obtain ⟨ha, hs⟩ := hpk rfl
        have HE1 := Lib.hid (show windowsT T k = if ue ≠ 0 then ([], false, ue) else if (rowsT vs [ac, uc, sc]).2 ≠ 0 then ([], false, (rowsT vs [ac, uc, sc]).2) else winE (winF (rowsT vs [ac, uc, sc]).1) from by rw [hE1.out, if_neg (by simp)])
        clear hE1 bx1 blt1
        have ik0 : (0 : Int) ≤ (k : Int) := by omega
        have ik1 : (k : Int) < (T.length : Int) := by omega
        have blt2 := hB2.lt
        go_wp2_with fail
        go_region_held3 (fun wx => wx.cell? ⟨w.heap.size, 0, none⟩ = some (.slice (some ⟨g, o, none⟩) T.length cap) ∧ wx.cell? ⟨g, o + k * 3, none⟩ = some (.int .i64 pp) ∧ Below w.heap.size w wx)
          (first
          | exact ⟨hB2.drew.cell 0, cell_new c0 hg hb4.drew, hb4.drew⟩
          | (go_split_ands; exact ⟨cell_new (by assumption) (by simp; omega) hbc, cell_new (by assumption) (by simp; omega) hbc, hb4.drew.trans (hbc.mono (by simp; omega))⟩)
          | go_keep)
          ((go_at_call 43; refine (HCL.out _ (by exact HT.out.new hb4.drew)).mono ?_; rintro e wc ⟨rfl, hbc⟩))
        rename_i hS
        obtain ⟨bx, _, hbx⟩ := hS
        have hbxs := hbx.size
        clear c0 ik0 ik1
        by_cases hue : ue = 0
        · subst hue
          obtain ⟨hu, _⟩ := hpb rfl
          have hrw := fun (wx : World) hw => address_rows vs [ac, uc, sc] wx.heap.size 3 (wx.alloc (.cells #[.int .i64 ac, .int .i64 uc, .int .i64 sc] 3)) hw (by simp; omega) (by simp) (by simp) (by simp) (by omega) (by omega)
          have hspec := rowsT_spec vs [ac, uc, sc]
          have hE2 := HE1.out
          rw [if_neg (by simp)] at hE2
          clear HE1
          unfold RowsPost at hrw
          generalize rowsT vs [ac, uc, sc] = RW at hE2 hrw hspec
          obtain ⟨rows, er⟩ := RW
          simp only at hE2 hrw hspec
          have HE2 := Lib.hid hE2; clear hE2
          have HRW := Lib.hid hrw; clear hrw
          have HSP := Lib.hid hspec; clear hspec
          clear ha hs hu hpb hpk
          go_wp2_with fail
          refine (HRW.out _ ?_).mono ?_
          · intro i hi
            have h2 : i = 0 ∨ i = 1 ∨ i = 2 := by simp at hi; omega
            rcases h2 with rfl | rfl | rfl
            · exact (Holds.new _ #[.int .i64 ac, .int .i64 uc, .int .i64 sc] 3).cell 0
            · exact (Holds.new _ #[.int .i64 ac, .int .i64 uc, .int .i64 sc] 3).cell 1
            · exact (Holds.new _ #[.int .i64 ac, .int .i64 uc, .int .i64 sc] 3).cell 2
          rintro e w4 ⟨rv, rfl, hRA, hb5⟩
          have hb6 : Below w.heap.size w w4 := (hbx.alloc hbxs _).trans (hb5.mono (by simp; omega))
          have hs6 := hb6.size
          by_cases her : er = 0
          · subst her
            obtain ⟨hsp1, hsp2⟩ := HSP.out
            have hF := Lib.hid (show windowsT T k = winE (winF rows) from by rw [HE2.out, if_neg (by simp)])
            have hrl : rows.length ≤ 1000 := by omega
            have HSP2 := Lib.hid hsp2; clear hsp2
            obtain ⟨ra, rc, rfl⟩ : ∃ ra rc, rv = .slice ra rows.length rc := by obtain ⟨rvs, h, _⟩ := hRA; exact owns_slice h
            have HRA := Lib.hid hRA; clear hRA
            clear bx
            go_wp2_with fail
            go_loopg [4, 68] (rows.length) (fun f x y wr => ∃ (j : Nat) (l : List (Int × Int × Int)), y = .int .i64 j ∧ j ≤ rows.length ∧ rows.length ≤ j + f ∧ Hid (l.length = j) ∧ wr.ownsRow w4.heap.size 118 3 x l.length (triCells l) ∧
              Hid (winF rows = (winF (rows.drop j)).map (l ++ ·)) ∧ Below w4.heap.size w4 wr)
            case atStart => exact ⟨0, [], rfl, by omega, by omega, rfl, World.ownsRow_nil _ _ _ _, by show _ = _; rw [List.drop_zero]; cases winF rows <;> rfl, Below.refl _ _⟩
            case round =>
              obtain ⟨j, l, rfl, hj, hf, hlj, hown, hG, hbw⟩ := hrel
              obtain ⟨oa, oc, rfl⟩ := owns_slice hown
              have hbws := hbw.size
              by_cases hjl : j < rows.length
              · obtain ⟨hr2, hrb⟩ := HSP2.out rows[j] (List.getElem_mem hjl)
                simp only [List.length_cons, List.length_nil] at hr2
                obtain ⟨gr, cr, gj, cj, e1, q1, q2, q3, d0, q4, q5⟩ := rows_at HRA.out j hjl (by omega)
                cases e1
                have d1 := q5 0 (by omega)
                have d2 := q5 1 (by omega)
                have d3 := q5 2 (by omega)
                have f0 := cell_new d0 q2 hbw
                have f1 := cell_new d1 q3 hbw
                have f2 := cell_new d2 q3 hbw
                have f3 := cell_new d3 q3 hbw
                have hb0' := hrb rows[j][0] (List.getElem_mem _)
                have hb1' := hrb rows[j][1] (List.getElem_mem _)
                have hb2' := hrb rows[j][2] (List.getElem_mem _)
                have hst : winF (rows.drop j) = if fitsB rows[j][0] rows[j][2] = true ∧ fitsB rows[j][1] rows[j][2] = true then (winF (rows.drop (j + 1))).map ((rows[j][0], rows[j][1], rows[j][2]) :: ·) else none := by
                  rw [List.drop_eq_getElem_cons hjl]
                  simp only [winF]
                  rw [show rows[j].getD 0 0 = rows[j][0] from by simp [List.getD, hr2], show rows[j].getD 1 0 = rows[j][1] from by simp [List.getD, hr2], show rows[j].getD 2 0 = rows[j][2] from by simp [List.getD, hr2]]
                rw [hr2] at f0 q4
                clear d0 q5 hrb
                have D1 := Lib.hid d1; clear d1
                have D2 := Lib.hid d2; clear d2
                have D3 := Lib.hid d3; clear d3
                generalize rows[j][0] = y0 at f1 hb0' hst D1
                generalize rows[j][1] = y1 at f2 hb1' hst D2
                generalize rows[j][2] = y2 at f3 hb2' hst D3
                obtain ⟨y00, y01⟩ := hb0'
                obtain ⟨y10, y11⟩ := hb1'
                obtain ⟨y20, y21⟩ := hb2'
                have HST := Lib.hid hst; clear hst
                obtain ⟨i0, hi, hz0, hz1, hz2⟩ := info_parts infoWin
                have hlj' := hlj.out
                have b1 : l.length + 1 ≤ maxLen := by unfold maxLen; omega
                have b2 : (l.length + 1) * 24 ≤ 140737488355328 := by omega
                clear hlj'
                cases hfb : fitsB y0 y2 with
                | false =>
                  have hE3 := Lib.hid (show windowsT T k = ([], false, 2) from by rw [hF.out, hG.out, HST.out, if_neg (by rw [hfb]; simp)]; rfl)
                  go_wp2_with fail
                  go_quiet ((go_at_call 70; exact Calls.quiet_of_same ((address_fits _ _ _ (by assumption) (by assumption)).mono fun _ _ ⟨a, b⟩ => ⟨a, b.symm⟩)))
                  go_wp2_with fail
                  go_ret3
                  exact ⟨.slice none 0 0, by rw [hE3.out]; rfl, by rw [hE3.out]; exact World.ownsRow_nil _ _ _ _, below_draws (hb6.trans (hbw.mono hs6)) _⟩
                | true =>
                  cases hfc : fitsB y1 y2 with
                  | false =>
                    have hE3 := Lib.hid (show windowsT T k = ([], false, 2) from by rw [hF.out, hG.out, HST.out, if_neg (by rw [hfc]; simp)]; rfl)
                    go_wp2_with fail
                    go_quiet ((go_at_call 70; exact Calls.quiet_of_same ((address_fits _ _ _ (by assumption) (by assumption)).mono fun _ _ ⟨a, b⟩ => ⟨a, b.symm⟩)))
                    go_wp2_with fail
                    go_ret3
                    exact ⟨.slice none 0 0, by rw [hE3.out]; rfl, by rw [hE3.out]; exact World.ownsRow_nil _ _ _ _, below_draws (hb6.trans (hbw.mono hs6)) _⟩
                  | true =>
                    have hG2 : Hid (winF rows = (winF (rows.drop (j + 1))).map ((l ++ [(y0, y1, y2)]) ++ ·)) := by
                      show _ = _
                      rw [hG.out, HST.out, if_pos ⟨hfb, hfc⟩, Option.map_map]
                      congr 1
                      funext z
                      simp
                    go_wp2_with fail
                    go_quiet ((go_at_call 70; exact Calls.quiet_of_same ((address_fits _ _ _ (by assumption) (by assumption)).mono fun _ _ ⟨a, b⟩ => ⟨a, b.symm⟩)))
                    clear hfb hfc
                    have hownq : (wr.drewN nq).ownsRow w4.heap.size 118 3 (.slice oa l.length oc) l.length (triCells l) := hown
                    have hbq : Below w4.heap.size w4 (wr.drewN nq) := below_draws hbw nq
                    go_wp2_with fail
                    go_region_held3 (fun wx => wx.cell? ⟨gj, 0, none⟩ = some (.int .i64 y0) ∧ wx.cell? ⟨gj, 1, none⟩ = some (.int .i64 y1) ∧ wx.cell? ⟨gj, 2, none⟩ = some (.int .i64 y2) ∧ Below w4.heap.size w4 wx)
                      (first
                      | exact ⟨f1, f2, f3, hbq.drew⟩
                      | exact ⟨cell_new D1.out q3 (hbq.drew.alloc hbws _), cell_new D2.out q3 (hbq.drew.alloc hbws _), cell_new D3.out q3 (hbq.drew.alloc hbws _), hbq.drew.alloc hbws _⟩
                      | (exact ⟨cell_new D1.out q3 ((hbq.drew.alloc hbws _).grown hgrow (by simp; omega) (fun g hg => (hownq.lt g hg).1)), cell_new D2.out q3 ((hbq.drew.alloc hbws _).grown hgrow (by simp; omega) (fun g hg => (hownq.lt g hg).1)), cell_new D3.out q3 ((hbq.drew.alloc hbws _).grown hgrow (by simp; omega) (fun g hg => (hownq.lt g hg).1)), (hbq.drew.alloc hbws _).grown hgrow (by simp; omega) (fun g hg => (hownq.lt g hg).1)⟩))
                      ((refine step_append_lies _ (by rfl) _ _ _ (by rfl) w4.heap.size 118 i0 _ 3 24 Tryz.underlying81 hi hz0 hz1 hz2 rfl (by omega) _ l.length (triCells l) (by rfl) ((hownq.alloc _).drew) ⟨wr.heap.size, 0, none⟩ 1 1 [.int .i64 y0, .int .i64 y1, .int .i64 y2] (by rfl) (by rfl) (World.news_of_block (cs := #[.int .i64 y0, .int .i64 y1, .int .i64 y2]) (t := 118) (fr := (0, 0)) (heap_alloc_new (wr.drewN nq) _)) (by simp [Value.oneCell']) (by omega) b1 b2 (by simp; omega) (wr.heap.size + 1) (by simp) ?_; intro gg cap2 w5 hown1 hgrow hat hlt))
                    all_goals
                      rename_i hS
                      obtain ⟨_, _, _, hb7⟩ := hS
                      clear hgrow hat
                      go_wp2_with fail
                      go_roundg (gk - 1)
                      case measure => omega
                      case rel => exact ⟨j + 1, l ++ [(y0, y1, y2)], by go_num, by omega, by omega, by have := hlj.out; show _ = _; simp; omega, by rw [triCells_snoc]; simpa using hown1, hG2, hb7⟩
              · have hfin := Lib.hid (show windowsT T k = (l, false, 0) from by rw [hF.out, hG.out, List.drop_eq_nil_of_le (by omega)]; simp [winF, winE])
                go_wp2_with fail
                go_ret3
                exact ⟨_, by rw [hfin.out]; rfl, by rw [hfin.out]; exact ownsRow_base' hown hs6, hb6.trans (hbw.mono hs6)⟩
          · have herb : (er != 0) = true := by simpa using her
            have hF := Lib.hid (show windowsT T k = ([], false, er) from by rw [HE2.out, if_pos her])
            clear her
            go_wp2_with fail
            go_ret3
            exact ⟨.slice none 0 0, by rw [hF.out]; rfl, by rw [hF.out]; exact World.ownsRow_nil _ _ _ _, hb6⟩
        · have hueb : (ue != 0) = true := by simpa using hue
          have hF := Lib.hid (show windowsT T k = ([], false, ue) from by rw [HE1.out, if_pos hue])
          clear hue
          go_wp2_with fail
          go_ret3
          exact ⟨.slice none 0 0, by rw [hF.out]; rfl, by rw [hF.out]; exact World.ownsRow_nil _ _ _ _, hbx⟩
      · have hecb : (ec != 0) = true := by simpa using hec
        have hF := Lib.hid (show windowsT T k = ([], false, ec) from by rw [hE1.out, if_pos hec])
        clear hec
        go_wp2_with fail
        go_ret3
        exact ⟨.slice none 0 0, by rw [hF.out]; rfl, by rw [hF.out]; exact World.ownsRow_nil _ _ _ _, hb4⟩
end Go.Proofs.YthkoaakicdhnpaaGreat

namespace Go.Proofs.YthkoaakicdhnpaaGreat
open Go.RowKit

def beginT (T : List NodeT) (node : Int) : Int := if checkT T ≠ 0 then checkT T else if node < 0 ∨ T.length ≤ node then 4 else 0

set_option maxHeartbeats 2000000 in
theorem address_begin (R : Nat → Prop) (v : Value) (T : List NodeT) (node : Int) (w : World) (hT : NodesIn R w v T) :
    Calls Tryz.prog 52 #[.agg #[v], .int .i64 node] w fun e w' => e = .returned (.int .i64 (beginT T node)) ∧ Below w.heap.size w w' := by
  obtain ⟨a, cap, rfl, hc1, hc2⟩ := hT.shape
  have HT := Lib.hid hT; clear hT
  have hck := fun wx hx => tree_Check R (.slice a T.length cap) T wx hx
  have hE := Lib.hid (show beginT T node = if checkT T ≠ 0 then checkT T else if node < 0 ∨ T.length ≤ node then 4 else 0 from rfl)
  have hb0 : Below w.heap.size w (w.alloc (.cells #[.slice a T.length cap] 25)) := (Below.refl w.heap.size w).alloc (Nat.le_refl _) _
  have hB0 := Holds.new w #[.slice a T.length cap] 25
  generalize checkT T = c at hck hE
  have HCK := Lib.hid hck; clear hck
  by_cases hc : c = 0
  · subst hc
    by_cases hn : node < 0
    · have hF := Lib.hid (show beginT T node = 4 from by rw [hE.out, if_neg (by simp), if_pos (.inl hn)])
      go_enter Tryz.func52, Tryz.ntmps52
      go_wp2_with fail
      refine (HCK.out _ (by exact HT.out.new hb0)).mono ?_
      rintro e w1 ⟨rfl, hb1⟩
      go_wp2_with fail
      go_ret
      exact ⟨ret_int (by rw [hF.out]), hb0.trans (hb1.mono (by simp))⟩
    · have hn' : 0 ≤ node := by omega
      by_cases hbig : (T.length : Int) ≤ node
      · have hF := Lib.hid (show beginT T node = 4 from by rw [hE.out, if_neg (by simp), if_pos (.inr hbig)])
        go_enter Tryz.func52, Tryz.ntmps52
        go_wp2_with fail
        refine (HCK.out _ (by exact HT.out.new hb0)).mono ?_
        rintro e w1 ⟨rfl, hb1⟩
        have hB1 := hB0.keeps (Keeps.of_fresh hb1 (fun _ => False)) (fun e => e)
        have bx := hB1.cell 0
        have blt := hB1.lt
        go_wp2_with fail
        go_ret
        exact ⟨ret_int (by rw [hF.out]), hb0.trans (hb1.mono (by simp))⟩
      · have hF := Lib.hid (show beginT T node = 0 from by rw [hE.out, if_neg (by simp), if_neg (by rintro (h | h); exact hn h; exact hbig h)])
        have hbig' : node < (T.length : Int) := by omega
        go_enter Tryz.func52, Tryz.ntmps52
        go_wp2_with fail
        refine (HCK.out _ (by exact HT.out.new hb0)).mono ?_
        rintro e w1 ⟨rfl, hb1⟩
        have hB1 := hB0.keeps (Keeps.of_fresh hb1 (fun _ => False)) (fun e => e)
        have bx := hB1.cell 0
        have blt := hB1.lt
        go_wp2_with fail
        go_ret
        exact ⟨ret_int (by rw [hF.out]), hb0.trans (hb1.mono (by simp))⟩
  · have hcb : (c != 0) = true := by simpa using hc
    have hF := Lib.hid (show beginT T node = c from by rw [hE.out, if_pos hc])
    clear hc
    go_enter Tryz.func52, Tryz.ntmps52
    go_wp2_with fail
    refine (HCK.out _ (by exact HT.out.new hb0)).mono ?_
    rintro e w1 ⟨rfl, hb1⟩
    go_wp2_with fail
    go_ret
    exact ⟨ret_int (by rw [hF.out]), hb0.trans (hb1.mono (by simp))⟩

theorem begin_ok {T : List NodeT} {node : Int} (h : beginT T node = 0) : checkT T = 0 ∧ 0 ≤ node ∧ node < T.length := by
  unfold beginT at h
  by_cases hc : checkT T ≠ 0
  · rw [if_pos hc] at h; exact absurd h hc
  · rw [if_neg hc] at h
    by_cases hn : node < 0 ∨ T.length ≤ node
    · rw [if_pos hn] at h; cases h
    · simp only [not_or] at hn
      exact ⟨Decidable.byContradiction hc, by omega, by omega⟩
def aRegionsT (T : List NodeT) (node : Int) : List (Int × Int) × Int := if beginT T node ≠ 0 then ([], beginT T node) else regionsT T node.toNat
def ARegionsPost (T : List NodeT) (node : Int) (w : World) (e : Ending) (w' : World) : Prop :=
  ∃ v, e = .returned (.tuple #[v, .int .i64 (aRegionsT T node).2]) ∧ w'.ownsRow w.heap.size 56 2 v (aRegionsT T node).1.length (pairCells (aRegionsT T node).1) ∧ Below w.heap.size w w'

set_option maxHeartbeats 2000000 in
theorem address_Regions (R : Nat → Prop) (v : Value) (T : List NodeT) (node : Int) (w : World) (hT : NodesIn R w v T) :
    Calls Tryz.prog 22 #[.agg #[v], .int .i64 node] w (ARegionsPost T node w) := by
  obtain ⟨a, cap, rfl, hc1, hc2⟩ := hT.shape
  have HT := Lib.hid hT; clear hT
  have hbg := fun wx hx => address_begin R (.slice a T.length cap) T node wx hx
  have hE := Lib.hid (show aRegionsT T node = if beginT T node ≠ 0 then ([], beginT T node) else regionsT T node.toNat from rfl)
  have hb0 : Below w.heap.size w (w.alloc (.cells #[.slice a T.length cap] 25)) := (Below.refl w.heap.size w).alloc (Nat.le_refl _) _
  have hB0 := Holds.new w #[.slice a T.length cap] 25
  by_cases hc : beginT T node = 0
  · obtain ⟨h1, h2, h3⟩ := begin_ok hc
    obtain ⟨k, rfl⟩ := Int.eq_ofNat_of_zero_le h2
    have hrg := fun wx hx => address_regions R (.slice a T.length cap) T k wx hx h1 (by omega)
    unfold RegionsPost at hrg
    have hE2 := Lib.hid (show aRegionsT T k = regionsT T k from by rw [hE.out, if_neg (by rw [hc]; simp), Int.toNat_natCast])
    rw [hc] at hbg
    have HBG := Lib.hid hbg; clear hbg
    clear hE hc h1
    generalize regionsT T k = C at hrg hE2
    obtain ⟨l, er⟩ := C
    simp only at hrg
    have HRG := Lib.hid hrg; clear hrg
    go_enter Tryz.func22, Tryz.ntmps22
    go_wp2_with fail
    refine (HBG.out _ (by exact HT.out.new hb0)).mono ?_
    rintro e w1 ⟨rfl, hb1⟩
    have hb2 := hb0.trans (hb1.mono (by simp))
    have hB1 := hB0.keeps (Keeps.of_fresh hb1 (fun _ => False)) (fun e => e)
    have bx := hB1.cell 0
    have blt := hB1.lt
    go_wp2_with fail
    refine (HRG.out _ (by exact HT.out.new hb2)).mono ?_
    rintro e w2 ⟨rv, rfl, hown, hb3⟩
    obtain ⟨ra, rc, rfl⟩ := owns_slice hown
    have hs2 := hb2.size
    go_wp2_with fail
    go_ret2
    exact ⟨_, by rw [hE2.out]; rfl, by rw [hE2.out]; exact ownsRow_base' hown hs2, hb2.trans (hb3.mono hs2)⟩
  · have hcb : (beginT T node != 0) = true := by simpa using hc
    have hE2 := Lib.hid (show aRegionsT T node = ([], beginT T node) from by rw [hE.out, if_pos hc])
    clear hE hc
    generalize beginT T node = c at hbg hE2 hcb
    have HBG := Lib.hid hbg; clear hbg
    go_enter Tryz.func22, Tryz.ntmps22
    go_wp2_with fail
    refine (HBG.out _ (by exact HT.out.new hb0)).mono ?_
    rintro e w1 ⟨rfl, hb1⟩
    go_wp2_with fail
    go_ret2
    exact ⟨.slice none 0 0, by rw [hE2.out]; rfl, by rw [hE2.out]; exact World.ownsRow_nil _ _ _ _, hb0.trans (hb1.mono (by simp))⟩

def aCellsT (T : List NodeT) (node : Int) : Int × Int × Int := if beginT T node ≠ 0 then (0, 0, beginT T node) else pairT T node

set_option maxHeartbeats 2000000 in
theorem address_Cells (R : Nat → Prop) (v : Value) (T : List NodeT) (node : Int) (w : World) (hT : NodesIn R w v T) :
    Calls Tryz.prog 20 #[.agg #[v], .int .i64 node] w fun e w' => e = .returned (.tuple #[.int .i64 (aCellsT T node).1, .int .i64 (aCellsT T node).2.1, .int .i64 (aCellsT T node).2.2]) ∧ Below w.heap.size w w' := by
  obtain ⟨a, cap, rfl, hc1, hc2⟩ := hT.shape
  have HT := Lib.hid hT; clear hT
  have hbg := fun wx hx => address_begin R (.slice a T.length cap) T node wx hx
  have hpr := fun wx hx => address_cells R (.slice a T.length cap) T node wx hx
  have hE := Lib.hid (show aCellsT T node = if beginT T node ≠ 0 then (0, 0, beginT T node) else pairT T node from rfl)
  have hb0 : Below w.heap.size w (w.alloc (.cells #[.slice a T.length cap] 25)) := (Below.refl w.heap.size w).alloc (Nat.le_refl _) _
  have hB0 := Holds.new w #[.slice a T.length cap] 25
  generalize pairT T node = C at hpr hE
  obtain ⟨x1, x2, x3⟩ := C
  simp only at hpr
  have HPR := Lib.hid hpr; clear hpr
  generalize beginT T node = c at hbg hE
  have HBG := Lib.hid hbg; clear hbg
  by_cases hc : c = 0
  · subst hc
    have hE2 := Lib.hid (show aCellsT T node = (x1, x2, x3) from by rw [hE.out, if_neg (by simp)])
    clear hE
    go_enter Tryz.func20, Tryz.ntmps20
    go_wp2_with fail
    refine (HBG.out _ (by exact HT.out.new hb0)).mono ?_
    rintro e w1 ⟨rfl, hb1⟩
    have hb2 := hb0.trans (hb1.mono (by simp))
    have hB1 := hB0.keeps (Keeps.of_fresh hb1 (fun _ => False)) (fun e => e)
    have bx := hB1.cell 0
    have blt := hB1.lt
    go_wp2_with fail
    refine (HPR.out _ (by exact HT.out.new hb2)).mono ?_
    rintro e w2 ⟨rfl, hb3⟩
    go_wp2_with fail
    go_ret3
    exact ⟨by rw [hE2.out]; rfl, hb2.trans (hb3.mono hb2.size)⟩
  · have hcb : (c != 0) = true := by simpa using hc
    have hE2 := Lib.hid (show aCellsT T node = (0, 0, c) from by rw [hE.out, if_pos hc])
    clear hE hc
    go_enter Tryz.func20, Tryz.ntmps20
    go_wp2_with fail
    refine (HBG.out _ (by exact HT.out.new hb0)).mono ?_
    rintro e w1 ⟨rfl, hb1⟩
    go_wp2_with fail
    go_ret3
    exact ⟨by rw [hE2.out]; rfl, hb0.trans (hb1.mono (by simp))⟩

/-- The first error of a node's addresses. -/
def nodeErr (T : List NodeT) (k : Nat) : Int :=
  if (pairT T k).2.2 ≠ 0 then (pairT T k).2.2 else if (regionsT T k).2 ≠ 0 then (regionsT T k).2 else if k = 0 then 0 else (windowsT T k).2.2
def aCheckF (T : List NodeT) : Nat → Nat → Int × Int
  | 0, _ => (0, 0)
  | f + 1, k => if nodeErr T k ≠ 0 then ((k : Int), nodeErr T k) else aCheckF T f (k + 1)
def aCheckT (T : List NodeT) : Int × Int := if checkT T ≠ 0 then (0, checkT T) else aCheckF T T.length 0

set_option maxHeartbeats 4000000 in
theorem address_Check (R : Nat → Prop) (v : Value) (T : List NodeT) (w : World) (hT : NodesIn R w v T) :
    Calls Tryz.prog 14 #[.agg #[v]] w fun e w' => e = .returned (.tuple #[.int .i64 (aCheckT T).1, .int .i64 (aCheckT T).2]) ∧ Below w.heap.size w w' := by
  obtain ⟨a, cap, rfl, hc1, hc2⟩ := hT.shape
  have HT := Lib.hid hT; clear hT
  have hck := fun wx hx => tree_Check R (.slice a T.length cap) T wx hx
  have hE := Lib.hid (show aCheckT T = if checkT T ≠ 0 then (0, checkT T) else aCheckF T T.length 0 from rfl)
  have hb0 : Below w.heap.size w (w.alloc (.cells #[.slice a T.length cap] 25)) := (Below.refl w.heap.size w).alloc (Nat.le_refl _) _
  have hB0 := Holds.new w #[.slice a T.length cap] 25
  by_cases hc : checkT T = 0
  · have hE2 := Lib.hid (show aCheckT T = aCheckF T T.length 0 from by rw [hE.out, if_neg (by rw [hc]; simp)])
    rw [hc] at hck
    have HCK := Lib.hid hck; clear hck
    have HC := Lib.hid hc
    have hlen := (limits_len (check_limits hc)).2
    clear hE hc
    go_enter Tryz.func14, Tryz.ntmps14
    go_wp2_with fail
    refine (HCK.out _ (by exact HT.out.new hb0)).mono ?_
    rintro e w1 ⟨rfl, hb1⟩
    have hb2 := hb0.trans (hb1.mono (by simp))
    have hB1 := hB0.keeps (Keeps.of_fresh hb1 (fun _ => False)) (fun e => e)
    have bx1 := hB1.cell 0
    have blt1 := hB1.lt
    go_wp2_with fail
    go_loopg [22] (T.length) (fun f x wr => ∃ k : Nat, x = .int .i64 k ∧ k ≤ T.length ∧ T.length ≤ k + f ∧ Hid (aCheckT T = aCheckF T (T.length - k) k) ∧ Below w.heap.size w wr ∧ Holds wr w.heap.size #[.slice a T.length cap] 25)
    case atStart => exact ⟨0, rfl, by omega, by omega, hE2.out, hb2, hB1⟩
    case round =>
      obtain ⟨k, rfl, hk, hf, hA, hb, hB⟩ := hrel
      have hbs := hb.size
      have bx := hB.cell 0
      have blt := hB.lt
      by_cases hlt : k < T.length
      · have hstep := Lib.hid (show aCheckF T (T.length - k) k = if nodeErr T k ≠ 0 then ((k : Int), nodeErr T k) else aCheckF T (T.length - (k + 1)) (k + 1) from by
          rw [show T.length - k = (T.length - (k + 1)) + 1 from by omega]; rfl)
        have hpr := fun wx hx => address_cells R (.slice a T.length cap) T k wx hx
        have hrg := fun wx hx => address_regions R (.slice a T.length cap) T k wx hx HC.out hlt
        have hwn := fun wx hx => address_windows R (.slice a T.length cap) T k wx hx HC.out hlt
        have hne := Lib.hid (show nodeErr T k = if (pairT T k).2.2 ≠ 0 then (pairT T k).2.2 else if (regionsT T k).2 ≠ 0 then (regionsT T k).2 else if k = 0 then 0 else (windowsT T k).2.2 from rfl)
        unfold RegionsPost at hrg
        unfold WindowsPost at hwn
        generalize pairT T (k : Int) = C at hpr hne
        obtain ⟨x1, x2, x3⟩ := C
        generalize regionsT T k = D at hrg hne
        obtain ⟨rl, re⟩ := D
        generalize windowsT T k = F at hwn hne
        obtain ⟨wl, wb, we⟩ := F
        simp only at hpr hrg hwn
        have HPR := Lib.hid hpr; clear hpr
        have HRG := Lib.hid hrg; clear hrg
        have HWN := Lib.hid hwn; clear hwn
        by_cases h3 : x3 = 0
        · subst h3
          by_cases hre : re = 0
          · subst hre
            by_cases hk0 : k = 0
            · have hN := Lib.hid (show nodeErr T k = 0 from by rw [hne.out, if_neg (by simp), if_neg (by simp), if_pos hk0])
              have hkb : ((k : Int) == 0) = true := by simp [hk0]
              clear hne hk0
              go_wp2_with fail
              refine (HPR.out _ (by exact HT.out.new hb)).mono ?_
              rintro e w2 ⟨rfl, hb3⟩
              have hb4 := hb.trans (hb3.mono hbs)
              have hB4 := hB.keeps (Keeps.of_fresh hb3 (fun _ => False)) (fun e => e)
              have bx4 := hB4.cell 0
              have blt4 := hB4.lt
              go_wp2_with fail
              refine (HRG.out _ (by exact HT.out.new hb4)).mono ?_
              rintro e w3 ⟨rv, rfl, hown, hb5⟩
              have hb6 := hb4.trans (hb5.mono hb4.size)
              have hB6 := hB4.keeps (Keeps.of_fresh hb5 (fun _ => False)) (fun e => e)
              go_wp2_with fail
              go_roundg (gk - 1)
              case measure => omega
              case rel => exact ⟨k + 1, by go_num, by omega, by omega, by show _ = _; rw [hA.out, hstep.out, hN.out, if_neg (by simp)], hb6, hB6⟩
            · have hkb : ((k : Int) == 0) = false := by simp; omega
              have hN := Lib.hid (show nodeErr T k = we from by rw [hne.out, if_neg (by simp), if_neg (by simp), if_neg hk0])
              have hk1 : 0 < k := by omega
              clear hne hk0
              by_cases hwe : we = 0
              · subst hwe
                go_wp2_with fail
                refine (HPR.out _ (by exact HT.out.new hb)).mono ?_
                rintro e w2 ⟨rfl, hb3⟩
                have hb4 := hb.trans (hb3.mono hbs)
                have hB4 := hB.keeps (Keeps.of_fresh hb3 (fun _ => False)) (fun e => e)
                have bx4 := hB4.cell 0
                have blt4 := hB4.lt
                go_wp2_with fail
                refine (HRG.out _ (by exact HT.out.new hb4)).mono ?_
                rintro e w3 ⟨rv, rfl, hown, hb5⟩
                have hb6 := hb4.trans (hb5.mono hb4.size)
                have hB6 := hB4.keeps (Keeps.of_fresh hb5 (fun _ => False)) (fun e => e)
                have bx6 := hB6.cell 0
                have blt6 := hB6.lt
                go_wp2_with fail
                refine (HWN.out _ (by exact HT.out.new hb6) hk1).mono ?_
                rintro e w4 ⟨rv2, rfl, hown2, hb7⟩
                have hb8 := hb6.trans (hb7.mono hb6.size)
                have hB8 := hB6.keeps (Keeps.of_fresh hb7 (fun _ => False)) (fun e => e)
                go_wp2_with fail
                go_roundg (gk - 1)
                case measure => omega
                case rel => exact ⟨k + 1, by go_num, by omega, by omega, by show _ = _; rw [hA.out, hstep.out, hN.out, if_neg (by simp)], hb8, hB8⟩
              · have hweb : (we != 0) = true := by simpa using hwe
                have hfin := Lib.hid (show aCheckT T = ((k : Int), we) from by rw [hA.out, hstep.out, hN.out, if_pos hwe])
                clear hwe
                go_wp2_with fail
                refine (HPR.out _ (by exact HT.out.new hb)).mono ?_
                rintro e w2 ⟨rfl, hb3⟩
                have hb4 := hb.trans (hb3.mono hbs)
                have hB4 := hB.keeps (Keeps.of_fresh hb3 (fun _ => False)) (fun e => e)
                have bx4 := hB4.cell 0
                have blt4 := hB4.lt
                go_wp2_with fail
                refine (HRG.out _ (by exact HT.out.new hb4)).mono ?_
                rintro e w3 ⟨rv, rfl, hown, hb5⟩
                have hb6 := hb4.trans (hb5.mono hb4.size)
                have hB6 := hB4.keeps (Keeps.of_fresh hb5 (fun _ => False)) (fun e => e)
                have bx6 := hB6.cell 0
                have blt6 := hB6.lt
                go_wp2_with fail
                refine (HWN.out _ (by exact HT.out.new hb6) hk1).mono ?_
                rintro e w4 ⟨rv2, rfl, hown2, hb7⟩
                go_wp2_with fail
                go_ret2
                exact ⟨by rw [hfin.out]; rfl, hb6.trans (hb7.mono hb6.size)⟩
          · have hreb : (re != 0) = true := by simpa using hre
            have hN := Lib.hid (show nodeErr T k = re from by rw [hne.out, if_neg (by simp), if_pos hre])
            have hfin := Lib.hid (show aCheckT T = ((k : Int), re) from by rw [hA.out, hstep.out, hN.out, if_pos hre])
            clear hne hre
            go_wp2_with fail
            refine (HPR.out _ (by exact HT.out.new hb)).mono ?_
            rintro e w2 ⟨rfl, hb3⟩
            have hb4 := hb.trans (hb3.mono hbs)
            have hB4 := hB.keeps (Keeps.of_fresh hb3 (fun _ => False)) (fun e => e)
            have bx4 := hB4.cell 0
            have blt4 := hB4.lt
            go_wp2_with fail
            refine (HRG.out _ (by exact HT.out.new hb4)).mono ?_
            rintro e w3 ⟨rv, rfl, hown, hb5⟩
            go_wp2_with fail
            go_ret2
            exact ⟨by rw [hfin.out]; rfl, hb4.trans (hb5.mono hb4.size)⟩
        · have h3b : (x3 != 0) = true := by simpa using h3
          have hN := Lib.hid (show nodeErr T k = x3 from by rw [hne.out, if_pos h3])
          have hfin := Lib.hid (show aCheckT T = ((k : Int), x3) from by rw [hA.out, hstep.out, hN.out, if_pos h3])
          clear hne h3
          go_wp2_with fail
          refine (HPR.out _ (by exact HT.out.new hb)).mono ?_
          rintro e w2 ⟨rfl, hb3⟩
          go_wp2_with fail
          go_ret2
          exact ⟨by rw [hfin.out]; rfl, hb.trans (hb3.mono hbs)⟩
      · have hfin := Lib.hid (show aCheckT T = (0, 0) from by rw [hA.out, show T.length - k = 0 from by omega]; rfl)
        go_wp2_with fail
        go_ret2
        exact ⟨by rw [hfin.out]; rfl, hb⟩
  · have hcb : (checkT T != 0) = true := by simpa using hc
    have hE2 := Lib.hid (show aCheckT T = (0, checkT T) from by rw [hE.out, if_pos hc])
    clear hE hc
    generalize checkT T = c at hck hE2 hcb
    have HCK := Lib.hid hck; clear hck
    go_enter Tryz.func14, Tryz.ntmps14
    go_wp2_with fail
    refine (HCK.out _ (by exact HT.out.new hb0)).mono ?_
    rintro e w1 ⟨rfl, hb1⟩
    go_wp2_with fail
    go_ret2
    exact ⟨by rw [hE2.out]; rfl, hb0.trans (hb1.mono (by simp))⟩
end Go.Proofs.YthkoaakicdhnpaaGreat

namespace Go.Proofs.YthkoaakicdhnpaaGreat
open Go.RowKit

def inWinB (b s : Int) (p : Int × Int × Int) : Bool := decide (p.1 ≤ b) && decide (b - p.1 ≤ p.2.2 - max s 1)
def findW (b s : Int) (l : List (Int × Int × Int)) : Int := match l.findIdx? (inWinB b s) with
  | some i => i
  | none => -1
def WinOk (p : Int × Int × Int) : Prop := 0 ≤ p.1 ∧ 0 ≤ p.2.1 ∧ 0 ≤ p.2.2 ∧ p.1 + p.2.2 ≤ 4611686018427387903 ∧ p.2.1 + p.2.2 ≤ 4611686018427387903
theorem winF_ok : ∀ (rs : List (List Int)) (l : List (Int × Int × Int)), (∀ r ∈ rs, r.length = 3 ∧ ∀ x ∈ r, 0 ≤ x ∧ x ≤ 4611686018427387903) → winF rs = some l → l.length = rs.length ∧ ∀ p ∈ l, WinOk p := by
  intro rs
  induction rs with
  | nil => intro l _ h; simp [winF] at h; subst h; simp
  | cons r rs ih =>
    intro l hr h
    simp only [winF] at h
    by_cases c : fitsB (r.getD 0 0) (r.getD 2 0) = true ∧ fitsB (r.getD 1 0) (r.getD 2 0) = true
    · rw [if_pos c, Option.map_eq_some_iff] at h
      obtain ⟨l', hl, rfl⟩ := h
      obtain ⟨h1, h2⟩ := ih l' (fun q hq => hr q (by simp [hq])) hl
      refine ⟨by simp [h1], ?_⟩
      intro p hp
      rcases List.mem_cons.1 hp with rfl | hp
      · obtain ⟨hl3, hb⟩ := hr r (by simp)
        match r, hl3 with
        | [x, y, z], _ =>
          have bx := hb x (by simp)
          have bY := hb y (by simp)
          have bz := hb z (by simp)
          obtain ⟨c1, c2⟩ := c
          unfold fitsB at c1 c2
          simp at c1 c2
          unfold WinOk
          simp only [List.getD, List.getElem?_cons_zero, List.getElem?_cons_succ, Option.getD_some]
          omega
      · exact h2 p hp
    · rw [if_neg c] at h; cases h
theorem windowsT_ok (T : List NodeT) (k : Nat) : (windowsT T k).1.length ≤ 1000 ∧ ∀ p ∈ (windowsT T k).1, WinOk p := by
  have hvs := valueT_size T k nmRanges
  unfold windowsT
  simp only
  split
  · simp
  · split
    · simp
    · split
      · simp
      · split
        · simp
        · have hsp := rowsT_spec (valueT T k nmRanges).1 [(pairT T k).1, (pairT T (parOf T k)).1, (pairT T k).2.1]
          generalize rowsT (valueT T k nmRanges).1 [(pairT T k).1, (pairT T (parOf T k)).1, (pairT T k).2.1] = R at hsp
          obtain ⟨h1, h2⟩ := hsp
          cases h : winF R.1 with
          | none => simp [winE]
          | some l =>
            obtain ⟨h3, h4⟩ := winF_ok R.1 l h2 h
            simp only [winE]
            exact ⟨by omega, h4⟩
theorem tri_cells_at {w : World} {base : Nat} {T : TypeId} {v : Value} {l : List (Int × Int × Int)} (h : w.ownsRow base T 3 v l.length (triCells l)) (k : Nat) (hk : k < l.length) :
    ∃ g cap, v = .slice (some ⟨g, 0, none⟩) l.length cap ∧ l.length ≤ cap ∧ g < w.heap.size ∧ base ≤ g ∧ w.cell? ⟨g, k * 3, none⟩ = some (.int .i64 l[k].1) ∧ w.cell? ⟨g, k * 3 + 1, none⟩ = some (.int .i64 l[k].2.1) ∧ w.cell? ⟨g, k * 3 + 2, none⟩ = some (.int .i64 l[k].2.2) := by
  rcases h.2 with ⟨_, h0⟩ | ⟨g, cap, cur, rfl, hb, hh, hcap, hr⟩
  · omega
  · have key : ∀ (l : List (Int × Int × Int)) (k : Nat) (hk : k < l.length) (j : Nat), j < 3 → (triCells l)[k * 3 + j]? = [Value.int .i64 l[k].1, .int .i64 l[k].2.1, .int .i64 l[k].2.2][j]? := by
      intro l
      induction l with
      | nil => intro k hk; simp at hk
      | cons a l ih =>
        intro k hk j hj
        rw [show triCells (a :: l) = [.int .i64 a.1, .int .i64 a.2.1, .int .i64 a.2.2] ++ triCells l from by simp [triCells]]
        cases k with
        | zero => rw [List.getElem?_append_left (by simp; omega)]; simp
        | succ k =>
          rw [List.getElem?_append_right (by simp; omega)]
          have := ih k (by simpa using hk) j hj
          rw [show (k + 1) * 3 + j - [Value.int .i64 a.1, .int .i64 a.2.1, .int .i64 a.2.2].length = k * 3 + j from by simp; omega]
          simpa using this
    have cc : ∀ j, j < 3 → ∀ u, [Value.int .i64 l[k].1, .int .i64 l[k].2.1, .int .i64 l[k].2.2][j]? = some u → w.cell? ⟨g, k * 3 + j, none⟩ = some u := by
      intro j hj u hu
      have hc := h.cells (g := g) rfl (k * 3 + j) u (by rw [key l k hk j hj]; exact hu)
      have hadd : (⟨g, 0, none⟩ : Addr).add (k * 3 + j) = ⟨g, k * 3 + j, none⟩ := by unfold Addr.add; split <;> simp_all
      rwa [hadd] at hc
    exact ⟨g, cap, rfl, hcap, lt_of_block hh, hb, cc 0 (by omega) _ rfl, cc 1 (by omega) _ rfl, cc 2 (by omega) _ rfl⟩

set_option maxHeartbeats 1000000 in
theorem address_inWin (p : Int × Int × Int) (b s : Int) (rb : Nat) (w : World) (hR : Holds w rb #[.int .i64 b, .int .i64 s] 56) (hp : WinOk p) (hb0 : 0 ≤ b) (hb1 : b ≤ 4611686018427387903) (hs0 : 0 ≤ s) (hs1 : s ≤ 4611686018427387903) :
    Calls Tryz.prog 74 #[.agg #[.int .i64 p.1, .int .i64 p.2.1, .int .i64 p.2.2], .pointer (some ⟨rb, 0, none⟩)] w fun e w' => e = .returned (.bool (inWinB b s p)) ∧ Below w.heap.size w w' := by
  obtain ⟨h1, h2, h3, h4, h5⟩ := hp
  have c0 := hR.cell 0
  have c1 := hR.cell 1
  have hlt := hR.lt
  have hI := Lib.hid (show inWinB b s p = (decide (p.1 ≤ b) && decide (b - p.1 ≤ p.2.2 - max s 1)) from rfl)
  by_cases hc : p.1 ≤ b
  · have hcd := Lib.hid (show decide (p.1 ≤ b) = true from by simpa using hc)
    go_enter Tryz.func74, Tryz.ntmps74
    go_wp2_with fail
    go_ret
    exact ⟨ret_bool (by rw [hI.out, hcd.out]; simp), (Below.refl _ _).alloc (Nat.le_refl _) _⟩
  · have hc' : b < p.1 := by omega
    have hcd := Lib.hid (show decide (p.1 ≤ b) = false from by simpa using hc')
    go_enter Tryz.func74, Tryz.ntmps74
    go_wp2_with fail
    go_ret
    exact ⟨ret_bool (by rw [hI.out, hcd.out]; rfl), (Below.refl _ _).alloc (Nat.le_refl _) _⟩

theorem enters_inWin : ∀ args w, (callFunc 74 args).run Tryz.prog w = .ok (.enter 74 args) w := enters_of Tryz.func74 (by kernel_rfl) rfl

set_option maxHeartbeats 1000000 in
theorem wins_IndexFunc (B : Nat) (v : Value) (l : List (Int × Int × Int)) (b s : Int) (rb : Nat) (w : World) (hown : w.ownsRow B 118 3 v l.length (triCells l)) (hR : Holds w rb #[.int .i64 b, .int .i64 s] 56)
    (hl : l.length ≤ 1000) (hp : ∀ p ∈ l, WinOk p) (hb0 : 0 ≤ b) (hb1 : b ≤ 4611686018427387903) (hs0 : 0 ≤ s) (hs1 : s ≤ 4611686018427387903) :
    Calls Tryz.prog 73 #[v, .func (.func 74) #[] #[.pointer (some ⟨rb, 0, none⟩)]] w
      fun e w' => e = .returned (.int .i64 (findW b s l)) ∧ Below w.heap.size w w' := by
  obtain ⟨a, cap, rfl⟩ := owns_slice hown
  have HO := Lib.hid hown; clear hown
  have HR := Lib.hid hR; clear hR
  have HPP := Lib.hid hp; clear hp
  have eg := enters_inWin
  go_enter Tryz.func73, Tryz.ntmps73
  go_wp2_with fail
  go_loopg [8] (l.length) (fun f x wr => ∃ k : Nat, x = .int .i64 k ∧ k ≤ l.length ∧ l.length ≤ k + f ∧ Hid (∀ i (h : i < l.length), i < k → inWinB b s l[i] = false) ∧ Below w.heap.size w wr)
  case atStart => exact ⟨0, rfl, by omega, by omega, fun i h h2 => absurd h2 (by omega), Below.refl _ _⟩
  case round =>
    obtain ⟨k, rfl, hk, hf, hN, hb⟩ := hrel
    have hbs := hb.size
    by_cases hlt : k < l.length
    · have hKw : Keeps (fun _ => False) w wr := Keeps.of_fresh hb _
      obtain ⟨g, cp, e1, hcp, hg, _, c0, c1, c2⟩ := tri_cells_at (ownsRow_keeps HO.out hKw (fun _ _ e => e)) k hlt
      cases e1
      have hin := fun wx hx => address_inWin l[k] b s rb wx hx (HPP.out l[k] (List.getElem_mem hlt)) hb0 hb1 hs0 hs1
      have hR1 := HR.out.keeps hKw (fun e => e)
      cases hy : inWinB b s l[k] with
      | true =>
        rw [hy] at hin
        have HIN := Lib.hid hin; clear hin
        have hfin := Lib.hid (show findW b s l = k from by
          unfold findW
          have : l.findIdx? (inWinB b s) = some k := by
            rw [List.findIdx?_eq_some_iff_getElem]
            exact ⟨hlt, hy, fun j hj => by have := hN.out j (by omega) hj; rw [this]; simp⟩
          rw [this])
        clear hy hKw
        go_wp2_with fail
        refine (HIN.out _ (by exact hR1)).mono ?_
        rintro e w' ⟨rfl, hb'⟩
        go_wp2_with fail
        go_ret
        exact ⟨ret_int (by rw [hfin.out]), hb.trans (hb'.mono hbs)⟩
      | false =>
        rw [hy] at hin
        have HIN := Lib.hid hin; clear hin
        have HY := Lib.hid hy
        clear hy hKw
        go_wp2_with fail
        refine (HIN.out _ (by exact hR1)).mono ?_
        rintro e w' ⟨rfl, hb'⟩
        go_wp2_with fail
        go_roundg (gk - 1)
        case measure => omega
        case rel =>
          refine ⟨k + 1, by go_num, by omega, by omega, ?_, hb.trans (hb'.mono hbs)⟩
          intro i hi hik
          by_cases e : i = k
          · subst e; exact HY.out
          · exact hN.out i hi (by omega)
    · have hfin := Lib.hid (show findW b s l = -1 from by
        unfold findW
        have : l.findIdx? (inWinB b s) = none := by
          rw [List.findIdx?_eq_none_iff]
          intro x hx
          obtain ⟨i, hi, e⟩ := List.getElem_of_mem hx
          rw [← e]; exact hN.out i hi (by omega)
        rw [this])
      go_wp2_with fail
      go_ret
      exact ⟨ret_int (by rw [hfin.out]), hb⟩
end Go.Proofs.YthkoaakicdhnpaaGreat

namespace Go.Proofs.YthkoaakicdhnpaaGreat
open Go.RowKit

def transF (T : List NodeT) (s : Int) : Nat → Int → Int → Option Int
  | 0, _, b => some b
  | f + 1, u, b => if u ≤ 0 then some b else
    if (windowsT T u.toNat).2.1 = true then transF T s f (parOf T u.toNat) b else
      if findW b s (windowsT T u.toNat).1 < 0 then none else
        transF T s f (parOf T u.toNat) (((windowsT T u.toNat).1.getD (findW b s (windowsT T u.toNat).1).toNat (0, 0, 0)).2.1 + (b - ((windowsT T u.toNat).1.getD (findW b s (windowsT T u.toNat).1).toNat (0, 0, 0)).1))
def transE (s : Int) (o : Option Int) : (Int × Int) × Bool := match o with
  | none => ((0, 0), false)
  | some b => ((b, s), true)
def translateT (T : List NodeT) (k : Nat) (b s : Int) : (Int × Int) × Bool := transE s (transF T s T.length (parOf T k) b)
theorem findW_lt {b s : Int} {l : List (Int × Int × Int)} (h : 0 ≤ findW b s l) : ∃ i : Nat, findW b s l = i ∧ ∃ hi : i < l.length, inWinB b s l[i] = true := by
  unfold findW at h ⊢
  cases e : l.findIdx? (inWinB b s) with
  | none => rw [e] at h; simp at h
  | some i =>
    rw [List.findIdx?_eq_some_iff_getElem] at e
    obtain ⟨hi, h1, _⟩ := e
    exact ⟨i, rfl, hi, h1⟩
def TransPost (T : List NodeT) (k : Nat) (b s : Int) (w : World) (e : Ending) (w' : World) : Prop :=
  e = .returned (.tuple #[.agg #[.int .i64 (translateT T k b s).1.1, .int .i64 (translateT T k b s).1.2], .bool (translateT T k b s).2]) ∧ Below w.heap.size w w'

set_option maxRecDepth 100000 in
set_option maxHeartbeats 4000000 in
theorem address_translate (R : Nat → Prop) (v : Value) (T : List NodeT) (k : Nat) (b s : Int) (w : World) (hT : NodesIn R w v T) (hc : checkT T = 0) (hk : k < T.length) (hb0 : 0 ≤ b) (hb1 : b ≤ 4611686018427387903) (hs0 : 0 ≤ s) (hs1 : s ≤ 4611686018427387903) :
    Calls Tryz.prog 48 #[.agg #[v], .int .i64 k, .agg #[.int .i64 b, .int .i64 s]] w (TransPost T k b s w) := by
  obtain ⟨a, cap, rfl, hc1, hc2⟩ := hT.shape
  have HT := Lib.hid hT; clear hT
  have HC := Lib.hid hc
  have hlen := (limits_len (check_limits hc)).2
  have HNM := Lib.hid (check_named hc)
  obtain ⟨g, o, pa, pc, rfl, hg, c0, c1, c2, hp, p1, p2, q0, q1, q2⟩ := HT.out.at k hk
  have hpar := named_par HNM.out k hk
  have hE := Lib.hid (show translateT T k b s = transE s (transF T s T.length T[k].parent b) from by unfold translateT; rw [parOf_at hk])
  have hp0 : -1 ≤ T[k].parent ∧ T[k].parent + 1 ≤ T.length := by
    by_cases h : k = 0
    · have := hpar.1 h; omega
    · have := hpar.2 (by omega); omega
  generalize T[k].parent = pp at c0 hp0 hE
  obtain ⟨hp0, hp1⟩ := hp0
  have hg1 : g < w.heap.size + 1 := by omega
  have hg2 : g < w.heap.size + 1 + 1 := by omega
  clear hc c1 c2 hp hpar q0 q1 q2
  go_enter Tryz.func48, Tryz.ntmps48
  go_wp2_with fail
  go_loopg [8] (T.length) (fun f x wr => ∃ (u b' : Int) (n : Nat), x = .int .i64 u ∧ -1 ≤ u ∧ u + 1 ≤ T.length ∧ u + 1 ≤ f ∧ u + 1 ≤ n ∧ 0 ≤ b' ∧ b' ≤ 4611686018427387903 ∧ Hid (translateT T k b s = transE s (transF T s n u b')) ∧
    Holds wr w.heap.size #[.slice (some ⟨g, o, none⟩) T.length cap] 25 ∧ Holds wr (w.heap.size + 1) #[.int .i64 b', .int .i64 s] 56 ∧ Holds wr (w.heap.size + 2) #[.int .i64 0, .int .i64 0] 56 ∧ Below w.heap.size w wr)
  case atStart =>
    refine ⟨pp, b, T.length, rfl, hp0, hp1, hp1, hp1, hb0, hb1, hE.out, ((Holds.new w _ _).alloc _).alloc _, ?_, ?_, (((Below.refl _ _).alloc (Nat.le_refl _) _).alloc (by simp) _).alloc (by simp; omega) _⟩
    · have := (Holds.new (w.alloc (.cells #[.slice (some ⟨g, o, none⟩) T.length cap] 25)) #[.int .i64 b, .int .i64 s] 56).alloc (.cells #[.int .i64 0, .int .i64 0] 56)
      rw [show (w.alloc (.cells #[.slice (some ⟨g, o, none⟩) T.length cap] 25)).heap.size = w.heap.size + 1 from by simp] at this
      exact this
    · have := Holds.new ((w.alloc (.cells #[.slice (some ⟨g, o, none⟩) T.length cap] 25)).alloc (.cells #[.int .i64 b, .int .i64 s] 56)) #[.int .i64 0, .int .i64 0] 56
      rw [show ((w.alloc (.cells #[.slice (some ⟨g, o, none⟩) T.length cap] 25)).alloc (.cells #[.int .i64 b, .int .i64 s] 56)).heap.size = w.heap.size + 2 from by simp] at this
      exact this
  case round =>
    obtain ⟨u, b', n, rfl, hu0, hu1, hf, hn, hq0, hq1, hTr, hB, hR, hZ, hb⟩ := hrel
    have hbs := hb.size
    have bx := hB.cell 0
    have blt := hB.lt
    have zlt := hZ.lt
    have z0 := hZ.cell 0
    have z1 := hZ.cell 1
    have zf0 := hZ.free 0
    have zf1 := hZ.free 1
    have r0 := hR.cell 0
    have r1 := hR.cell 1
    have rlt := hR.lt
    by_cases hup : 0 < u
    · obtain ⟨m, rfl⟩ := Int.eq_ofNat_of_zero_le (show 0 ≤ u by omega)
      have hm : m < T.length := by omega
      obtain ⟨n, rfl⟩ : ∃ n', n = n' + 1 := ⟨n - 1, by omega⟩
      have hstep : transF T s (n + 1) (m : Int) b' = if (windowsT T m).2.1 = true then transF T s n (parOf T m) b' else
          if findW b' s (windowsT T m).1 < 0 then none else
            transF T s n (parOf T m) (((windowsT T m).1.getD (findW b' s (windowsT T m).1).toNat (0, 0, 0)).2.1 + (b' - ((windowsT T m).1.getD (findW b' s (windowsT T m).1).toNat (0, 0, 0)).1)) := by
        simp only [transF, Int.toNat_natCast]; rw [if_neg (by omega)]
      obtain ⟨g2, o2, pa2, pc2, e2, _, d0, _⟩ := (HT.out.new hb).at m hm
      cases e2
      have hpm := (named_par HNM.out m hm).2 (by omega)
      rw [parOf_at hm] at hstep
      have hwn := fun wx hx => address_windows R (.slice (some ⟨g, o, none⟩) T.length cap) T m wx hx HC.out hm (by omega)
      obtain ⟨hwl, hwk⟩ := windowsT_ok T m
      unfold WindowsPost at hwn
      generalize windowsT T m = W at hwn hstep hwl hwk
      obtain ⟨wl, wb, we⟩ := W
      simp only at hwn hstep hwl hwk
      have HWN := Lib.hid hwn; clear hwn
      have HWK := Lib.hid hwk; clear hwk
      generalize T[m].parent = pm at d0 hpm hstep
      obtain ⟨hpm0, hpm1⟩ := hpm
      go_wp2_with fail
      refine (HWN.out _ (by exact HT.out.new hb)).mono ?_
      rintro e w2 ⟨lv, rfl, hown, hb2⟩
      have hb3 := hb.trans (hb2.mono hbs)
      have hK2 : Keeps (fun _ => False) wr w2 := Keeps.of_fresh hb2 _
      have hB2 := hB.keeps hK2 (fun e => e)
      have hR2 := hR.keeps hK2 (fun e => e)
      have hZ2 := hZ.keeps hK2 (fun e => e)
      have bx2 := hB2.cell 0
      have blt2 := hB2.lt
      have d2 := (hK2.cell (p := ⟨g, o + m * 3, none⟩) (World.block_lt_of_cell? wr _ d0) (fun e => e)).trans d0
      clear bx z0 z1 zf0 zf1 r0 r1 d0
      cases wb with
      | true =>
        have hT2 := Lib.hid (show translateT T k b s = transE s (transF T s n pm b') from by rw [hTr.out, hstep, if_pos rfl])
        clear hstep
        go_wp2_with fail
        go_roundg (gk - 1)
        case measure => omega
        case rel => exact ⟨pm, b', n, rfl, by omega, by omega, by omega, by omega, hq0, hq1, hT2.out, hB2, hR2, hZ2, hb3⟩
      | false =>
        have hT2 := Lib.hid (show translateT T k b s = transE s (if findW b' s wl < 0 then none else transF T s n pm ((wl.getD (findW b' s wl).toNat (0, 0, 0)).2.1 + (b' - (wl.getD (findW b' s wl).toNat (0, 0, 0)).1))) from by rw [hTr.out, hstep, if_neg (by simp)])
        clear hstep
        have hix := fun wx h1 h2 => wins_IndexFunc wr.heap.size lv wl b' s (w.heap.size + 1) wx h1 h2 hwl HWK.out hq0 hq1 hs0 hs1
        have hfl := @findW_lt b' s wl
        generalize findW b' s wl = fi at hT2 hix hfl
        have HIX := Lib.hid hix; clear hix
        have HFL := Lib.hid hfl; clear hfl
        obtain ⟨la, lc, rfl⟩ := owns_slice hown
        go_wp2_with fail
        refine (HIX.out _ (by exact hown) (by exact hR2)).mono ?_
        rintro e w3 ⟨rfl, hb4⟩
        have hb5 := hb3.trans (hb4.mono hb3.size)
        have hK3 : Keeps (fun _ => False) w2 w3 := Keeps.of_fresh hb4 _
        have hB3 := hB2.keeps hK3 (fun e => e)
        have hR3 := hR2.keeps hK3 (fun e => e)
        have hZ3 := hZ2.keeps hK3 (fun e => e)
        have bx3 := hB3.cell 0
        have blt3 := hB3.lt
        have z0 := hZ3.cell 0
        have z1 := hZ3.cell 1
        have zf0 := hZ3.free 0
        have zf1 := hZ3.free 1
        have zlt3 := hZ3.lt
        have r0 := hR3.cell 0
        have rf0 := hR3.free 0
        have rlt3 := hR3.lt
        have d3 := (hK3.cell (p := ⟨g, o + m * 3, none⟩) (World.block_lt_of_cell? w2 _ d2) (fun e => e)).trans d2
        clear bx2 d2
        by_cases hfi : fi < 0
        · have hfin := Lib.hid (show translateT T k b s = ((0, 0), false) from by rw [hT2.out, if_pos hfi]; rfl)
          go_wp2_with fail
          exact bodyPost_ret (v := .tuple #[.agg #[.int .i64 0, .int .i64 0], .bool false]) (by simp [results, Tryz.results48, go_sem, z0, z1]) rfl ⟨by rw [hfin.out], (hb5.setCell (by simp; omega) _).setCell (by simp; omega) _⟩
        · obtain ⟨i, hie, hil, hin⟩ := HFL.out (by omega)
          subst hie
          have hwo := HWK.out wl[i] (List.getElem_mem hil)
          obtain ⟨gw, cw, e1, q1, q2, q3, f0, f1, f2⟩ := tri_cells_at (ownsRow_keeps hown hK3 (fun _ _ e => e)) i hil
          cases e1
          have hT3 := Lib.hid (show translateT T k b s = transE s (transF T s n pm (wl[i].2.1 + (b' - wl[i].1))) from by
            rw [hT2.out, if_neg (by omega), Int.toNat_natCast, show wl.getD i (0, 0, 0) = wl[i] from by simp [List.getD, hil]])
          unfold inWinB at hin
          simp only [Bool.and_eq_true, decide_eq_true_eq] at hin
          generalize wl[i] = P at hwo f0 f1 f2 hin hT3
          obtain ⟨x0, x1, x2⟩ := P
          obtain ⟨h1, h2, h3, h4, h5⟩ := hwo
          simp only at h1 h2 h3 h4 h5 f0 f1 f2 hin hT3
          obtain ⟨hin1, hin2⟩ := hin
          have hin3 : b' - x0 ≤ x2 := by omega
          clear hin2 hT2 hfi
          have iI : (i : Int) < (wl.length : Int) := by omega
          go_wp2_with fail
          go_still_tail 15, (by kernel_rfl)
          go_wp2_with fail
          go_roundg (gk - 1)
          case measure => omega
          case rel =>
            refine ⟨pm, x1 + (b' - x0), n, rfl, by omega, by omega, by omega, by omega, by omega, by omega, hT3.out, ?_, ?_, ?_, ?_⟩
            · exact Holds.other hB3 _ _ (by simp)
            · exact Holds.set hR3 0 _
            · exact Holds.other hZ3 _ _ (by simp)
            · exact (hb5.setCell (p := ⟨w.heap.size + 1, 0, none⟩) (Nat.le_succ _) _).drew
    · have hfin := Lib.hid (show translateT T k b s = ((b', s), true) from by
        rw [hTr.out]
        cases n with
        | zero => rfl
        | succ n => simp only [transF]; rw [if_pos (by omega)]; rfl)
      go_wp2_with fail
      exact bodyPost_ret (v := .tuple #[.agg #[.int .i64 b', .int .i64 s], .bool true]) (by simp [results, Tryz.results48, go_sem, z0, z1]) rfl ⟨by rw [hfin.out], (hb.setCell (by simp; omega) _).setCell (by simp; omega) _⟩
end Go.Proofs.YthkoaakicdhnpaaGreat

namespace Go.Proofs.YthkoaakicdhnpaaGreat
open Go.RowKit

def RegOk (p : Int × Int) : Prop := 0 ≤ p.1 ∧ p.1 ≤ 4611686018427387903 ∧ 0 ≤ p.2 ∧ p.2 ≤ 4611686018427387903 ∧ p.1 + p.2 ≤ 4611686018427387903
theorem regF_ok : ∀ (rs : List (List Int)) (l : List (Int × Int)), (∀ r ∈ rs, r.length = 2 ∧ ∀ x ∈ r, 0 ≤ x ∧ x ≤ 4611686018427387903) → regF rs = some l → ∀ p ∈ l, RegOk p := by
  intro rs
  induction rs with
  | nil => intro l _ h; simp only [regF, Option.some.injEq] at h; subst h; intro p hp; simp at hp
  | cons r rs ih =>
    intro l hr h
    simp only [regF] at h
    split at h
    · rename_i hf
      cases e : regF rs with
      | none => rw [e] at h; simp at h
      | some l2 =>
        rw [e] at h
        simp only [Option.map_some, Option.some.injEq] at h
        subst h
        intro p hp
        rcases List.mem_cons.1 hp with rfl | hp
        · obtain ⟨hl, hx⟩ := hr r List.mem_cons_self
          match r, hl with
          | [x, y], _ =>
            have hx1 := hx x (by simp)
            have hx2 := hx y (by simp)
            simp only [fitsB, List.getD_cons_zero, List.getD_cons_succ, decide_eq_true_eq] at hf
            simp only [RegOk, List.getD_cons_zero, List.getD_cons_succ]
            omega
        · exact ih l2 (fun r hr' => hr r (List.mem_cons_of_mem _ hr')) e p hp
    · simp at h
theorem regionsT_ok (T : List NodeT) (k : Nat) : ∀ p ∈ (regionsT T k).1, RegOk p := by
  unfold regionsT
  split
  · intro p hp; simp at hp
  · simp only
    split
    · intro p hp; simp at hp
    · split
      · intro p hp; simp at hp
      · intro p hp
        have hs := (rowsT_spec (valueT T k nmReg).1 [(pairT T (parOf T k)).1, (pairT T (parOf T k)).2.1]).2
        cases e : regF (rowsT (valueT T k nmReg).1 [(pairT T (parOf T k)).1, (pairT T (parOf T k)).2.1]).1 with
        | none => rw [e] at hp; simp [regE] at hp
        | some l => rw [e] at hp; exact regF_ok _ l (fun r hr => by simpa using hs r hr) e p hp
theorem aCheck_ok {T : List NodeT} (h : (aCheckT T).2 = 0) : checkT T = 0 := by
  unfold aCheckT at h
  split at h
  · exact h
  · rename_i h2; simpa using h2
theorem pair_cells_at {w : World} {base : Nat} {T : TypeId} {v : Value} {l : List (Int × Int)} (h : w.ownsRow base T 2 v l.length (pairCells l)) (k : Nat) (hk : k < l.length) :
    ∃ g cap, v = .slice (some ⟨g, 0, none⟩) l.length cap ∧ l.length ≤ cap ∧ g < w.heap.size ∧ base ≤ g ∧ w.cell? ⟨g, k * 2, none⟩ = some (.int .i64 l[k].1) ∧ w.cell? ⟨g, k * 2 + 1, none⟩ = some (.int .i64 l[k].2) := by
  rcases h.2 with ⟨_, h0⟩ | ⟨g, cap, cur, rfl, hb, hh, hcap, hr⟩
  · omega
  · have key : ∀ (l : List (Int × Int)) (k : Nat) (hk : k < l.length) (j : Nat), j < 2 → (pairCells l)[k * 2 + j]? = [Value.int .i64 l[k].1, .int .i64 l[k].2][j]? := by
      intro l
      induction l with
      | nil => intro k hk; simp at hk
      | cons a l ih =>
        intro k hk j hj
        rw [show pairCells (a :: l) = [.int .i64 a.1, .int .i64 a.2] ++ pairCells l from by simp [pairCells]]
        cases k with
        | zero => rw [List.getElem?_append_left (by simp; omega)]; simp
        | succ k =>
          rw [List.getElem?_append_right (by simp; omega)]
          have := ih k (by simpa using hk) j hj
          rw [show (k + 1) * 2 + j - [Value.int .i64 a.1, .int .i64 a.2].length = k * 2 + j from by simp; omega]
          simpa using this
    have cc : ∀ j, j < 2 → ∀ u, [Value.int .i64 l[k].1, .int .i64 l[k].2][j]? = some u → w.cell? ⟨g, k * 2 + j, none⟩ = some u := by
      intro j hj u hu
      have hc := h.cells (g := g) rfl (k * 2 + j) u (by rw [key l k hk j hj]; exact hu)
      have hadd : (⟨g, 0, none⟩ : Addr).add (k * 2 + j) = ⟨g, k * 2 + j, none⟩ := by unfold Addr.add; split <;> simp_all
      rwa [hadd] at hc
    exact ⟨g, cap, rfl, hcap, lt_of_block hh, hb, cc 0 (by omega) _ rfl, cc 1 (by omega) _ rfl⟩

theorem new_held {w wc : World} {x y : Value} {t : TypeId} (h : Below (w.alloc (.cells #[x, y] t)).drew.heap.size (w.alloc (.cells #[x, y] t)).drew wc) :
    wc.cell? ⟨w.heap.size, 0, none⟩ = some x ∧ wc.cell? ⟨w.heap.size, 1, none⟩ = some y ∧ wc.frozen? ⟨w.heap.size, 0, none⟩ = false ∧ wc.frozen? ⟨w.heap.size, 1, none⟩ = false ∧ w.heap.size < wc.heap.size := by
  have hzn := (Holds.new w #[x, y] t).drew.keeps (Keeps.of_fresh h (fun _ => False)) (fun e => e)
  exact ⟨hzn.cell 0, hzn.cell 1, hzn.free 0, hzn.free 1, hzn.lt⟩

def atRegion (T : List NodeT) (k : Nat) (p : Int × Int) : (Int × Int) × Int := if (translateT T k p.1 p.2).2 = true then ((translateT T k p.1 p.2).1, 0) else ((0, 0), 27)
def aTransT (T : List NodeT) (node index : Int) : (Int × Int) × Int :=
  if (aCheckT T).2 ≠ 0 then ((0, 0), (aCheckT T).2) else if node < 0 ∨ T.length ≤ node then ((0, 0), 4) else
    if index < 0 ∨ (regionsT T node.toNat).1.length ≤ index then ((0, 0), 4) else atRegion T node.toNat ((regionsT T node.toNat).1.getD index.toNat (0, 0))
def ATransPost (T : List NodeT) (node index : Int) (w : World) (e : Ending) (w' : World) : Prop :=
  e = .returned (.tuple #[.agg #[.int .i64 (aTransT T node index).1.1, .int .i64 (aTransT T node index).1.2], .int .i64 (aTransT T node index).2]) ∧ Below w.heap.size w w'

set_option maxHeartbeats 4000000 in
theorem address_Translate (R : Nat → Prop) (v : Value) (T : List NodeT) (node index : Int) (w : World) (hT : NodesIn R w v T) :
    Calls Tryz.prog 24 #[.agg #[v], .int .i64 node, .int .i64 index] w (ATransPost T node index w) := by
  obtain ⟨a, cap, rfl, hc1, hc2⟩ := hT.shape
  have HT := Lib.hid hT; clear hT
  have hck := fun wx hx => address_Check R (.slice a T.length cap) T wx hx
  have hE := Lib.hid (show aTransT T node index = if (aCheckT T).2 ≠ 0 then ((0, 0), (aCheckT T).2) else if node < 0 ∨ T.length ≤ node then ((0, 0), 4) else
    if index < 0 ∨ (regionsT T node.toNat).1.length ≤ index then ((0, 0), 4) else atRegion T node.toNat ((regionsT T node.toNat).1.getD index.toNat (0, 0)) from rfl)
  have hok := Lib.hid (@aCheck_ok T)
  have hb0 : Below w.heap.size w ((w.alloc (.cells #[.slice a T.length cap] 25)).alloc (.cells #[.int .i64 0, .int .i64 0] 56)) := ((Below.refl w.heap.size w).alloc (Nat.le_refl _) _).alloc (by simp) _
  have hB0 := (Holds.new w #[.slice a T.length cap] 25).alloc (.cells #[.int .i64 0, .int .i64 0] 56)
  have hZ0 := Holds.new (w.alloc (.cells #[.slice a T.length cap] 25)) #[.int .i64 0, .int .i64 0] 56
  rw [show (w.alloc (.cells #[.slice a T.length cap] 25)).heap.size = w.heap.size + 1 from by simp] at hZ0
  generalize aCheckT T = C at hck hE hok
  obtain ⟨ci, c⟩ := C
  simp only at hck
  have HCK := Lib.hid hck; clear hck
  by_cases hc : c = 0
  · subst hc
    have hc0 := hok.out rfl
    clear hok
    by_cases hn : node < 0
    · have hF := Lib.hid (show aTransT T node index = ((0, 0), 4) from by rw [hE.out, if_neg (by simp), if_pos (.inl hn)])
      clear hE
      go_enter Tryz.func24, Tryz.ntmps24
      go_wp2_with fail
      refine (HCK.out _ (by exact HT.out.new hb0)).mono ?_
      rintro e w1 ⟨rfl, hb1⟩
      have hb2 := hb0.trans (hb1.mono (by simp; omega))
      have hB1 := hB0.keeps (Keeps.of_fresh hb1 (fun _ => False)) (fun e => e)
      have hZ1 := hZ0.keeps (Keeps.of_fresh hb1 (fun _ => False)) (fun e => e)
      have bx := hB1.cell 0
      have blt := hB1.lt
      have z0 := hZ1.cell 0
      have z1 := hZ1.cell 1
      have zf0 := hZ1.free 0
      have zf1 := hZ1.free 1
      have zlt := hZ1.lt
      go_wp2_with fail
      exact bodyPost_ret (v := .tuple #[.agg #[.int .i64 0, .int .i64 0], .int .i64 4]) (by simp [results, Tryz.results24, go_sem, z0, z1]) rfl ⟨by rw [hF.out], (hb2.setCell (by simp) _).setCell (by simp) _⟩
    · have hn' : 0 ≤ node := by omega
      by_cases hbig : (T.length : Int) ≤ node
      · have hF := Lib.hid (show aTransT T node index = ((0, 0), 4) from by rw [hE.out, if_neg (by simp), if_pos (.inr hbig)])
        clear hE
        go_enter Tryz.func24, Tryz.ntmps24
        go_wp2_with fail
        refine (HCK.out _ (by exact HT.out.new hb0)).mono ?_
        rintro e w1 ⟨rfl, hb1⟩
        have hb2 := hb0.trans (hb1.mono (by simp; omega))
        have hB1 := hB0.keeps (Keeps.of_fresh hb1 (fun _ => False)) (fun e => e)
        have hZ1 := hZ0.keeps (Keeps.of_fresh hb1 (fun _ => False)) (fun e => e)
        have bx := hB1.cell 0
        have blt := hB1.lt
        have z0 := hZ1.cell 0
        have z1 := hZ1.cell 1
        have zf0 := hZ1.free 0
        have zf1 := hZ1.free 1
        have zlt := hZ1.lt
        go_wp2_with fail
        exact bodyPost_ret (v := .tuple #[.agg #[.int .i64 0, .int .i64 0], .int .i64 4]) (by simp [results, Tryz.results24, go_sem, z0, z1]) rfl ⟨by rw [hF.out], (hb2.setCell (by simp) _).setCell (by simp) _⟩
      · obtain ⟨k, rfl⟩ := Int.eq_ofNat_of_zero_le hn'
        have hk : k < T.length := by omega
        have hE2 := Lib.hid (show aTransT T k index = if index < 0 ∨ (regionsT T k).1.length ≤ index then ((0, 0), 4) else atRegion T k ((regionsT T k).1.getD index.toNat (0, 0)) from by
          rw [hE.out, if_neg (by simp), if_neg (by rintro (h | h); exact hn h; exact hbig h), Int.toNat_natCast])
        have hbig' : (k : Int) < (T.length : Int) := by omega
        clear hE hn hbig
        have hrg := fun wx hx => address_regions R (.slice a T.length cap) T k wx hx hc0 hk
        have hRK := Lib.hid (regionsT_ok T k)
        unfold RegionsPost at hrg
        generalize regionsT T k = C at hrg hE2 hRK
        obtain ⟨l, er⟩ := C
        simp only at hrg
        have HRG := Lib.hid hrg; clear hrg
        by_cases hi : index < 0
        · have hF := Lib.hid (show aTransT T k index = ((0, 0), 4) from by rw [hE2.out, if_pos (.inl hi)])
          clear hE2
          go_enter Tryz.func24, Tryz.ntmps24
          go_wp2_with fail
          refine (HCK.out _ (by exact HT.out.new hb0)).mono ?_
          rintro e w1 ⟨rfl, hb1⟩
          have hb2 := hb0.trans (hb1.mono (by simp; omega))
          have hB1 := hB0.keeps (Keeps.of_fresh hb1 (fun _ => False)) (fun e => e)
          have hZ1 := hZ0.keeps (Keeps.of_fresh hb1 (fun _ => False)) (fun e => e)
          have bx := hB1.cell 0
          have blt := hB1.lt
          have z0 := hZ1.cell 0
          have z1 := hZ1.cell 1
          have zf0 := hZ1.free 0
          have zf1 := hZ1.free 1
          have zlt := hZ1.lt
          go_wp2_with fail
          refine (HRG.out _ (by exact HT.out.new hb2)).mono ?_
          rintro e w2 ⟨rv, rfl, hown, hb3⟩
          obtain ⟨ra, rc, rfl⟩ := owns_slice hown
          have hb4 := hb2.trans (hb3.mono hb2.size)
          have hB2 := hB1.keeps (Keeps.of_fresh hb3 (fun _ => False)) (fun e => e)
          have hZ2 := hZ1.keeps (Keeps.of_fresh hb3 (fun _ => False)) (fun e => e)
          clear bx blt z0 z1 zf0 zf1 zlt
          have bx := hB2.cell 0
          have blt := hB2.lt
          have z0 := hZ2.cell 0
          have z1 := hZ2.cell 1
          have zf0 := hZ2.free 0
          have zf1 := hZ2.free 1
          have zlt := hZ2.lt
          go_wp2_with fail
          exact bodyPost_ret (v := .tuple #[.agg #[.int .i64 0, .int .i64 0], .int .i64 4]) (by simp [results, Tryz.results24, go_sem, z0, z1]) rfl ⟨by rw [hF.out], (hb4.setCell (by simp) _).setCell (by simp) _⟩
        · have hi' : 0 ≤ index := by omega
          by_cases hbi : (l.length : Int) ≤ index
          · have hF := Lib.hid (show aTransT T k index = ((0, 0), 4) from by rw [hE2.out, if_pos (.inr hbi)])
            clear hE2
            go_enter Tryz.func24, Tryz.ntmps24
            go_wp2_with fail
            refine (HCK.out _ (by exact HT.out.new hb0)).mono ?_
            rintro e w1 ⟨rfl, hb1⟩
            have hb2 := hb0.trans (hb1.mono (by simp; omega))
            have hB1 := hB0.keeps (Keeps.of_fresh hb1 (fun _ => False)) (fun e => e)
            have hZ1 := hZ0.keeps (Keeps.of_fresh hb1 (fun _ => False)) (fun e => e)
            have bx := hB1.cell 0
            have blt := hB1.lt
            have z0 := hZ1.cell 0
            have z1 := hZ1.cell 1
            have zf0 := hZ1.free 0
            have zf1 := hZ1.free 1
            have zlt := hZ1.lt
            go_wp2_with fail
            refine (HRG.out _ (by exact HT.out.new hb2)).mono ?_
            rintro e w2 ⟨rv, rfl, hown, hb3⟩
            obtain ⟨ra, rc, rfl⟩ := owns_slice hown
            have hb4 := hb2.trans (hb3.mono hb2.size)
            have hB2 := hB1.keeps (Keeps.of_fresh hb3 (fun _ => False)) (fun e => e)
            have hZ2 := hZ1.keeps (Keeps.of_fresh hb3 (fun _ => False)) (fun e => e)
            clear bx blt z0 z1 zf0 zf1 zlt
            have bx := hB2.cell 0
            have blt := hB2.lt
            have z0 := hZ2.cell 0
            have z1 := hZ2.cell 1
            have zf0 := hZ2.free 0
            have zf1 := hZ2.free 1
            have zlt := hZ2.lt
            go_wp2_with fail
            exact bodyPost_ret (v := .tuple #[.agg #[.int .i64 0, .int .i64 0], .int .i64 4]) (by simp [results, Tryz.results24, go_sem, z0, z1]) rfl ⟨by rw [hF.out], (hb4.setCell (by simp) _).setCell (by simp) _⟩
          · obtain ⟨j, rfl⟩ := Int.eq_ofNat_of_zero_le hi'
            have hj : j < l.length := by omega
            have hE3 := Lib.hid (show aTransT T k j = atRegion T k l[j] from by
              rw [hE2.out, if_neg (by rintro (h | h); exact hi h; exact hbi h), Int.toNat_natCast]
              simp [List.getD, hj])
            have hbi' : (j : Int) < (l.length : Int) := by omega
            clear hE2 hi hbi
            go_enter Tryz.func24, Tryz.ntmps24
            go_wp2_with fail
            refine (HCK.out _ (by exact HT.out.new hb0)).mono ?_
            rintro e w1 ⟨rfl, hb1⟩
            have hb2 := hb0.trans (hb1.mono (by simp; omega))
            have hB1 := hB0.keeps (Keeps.of_fresh hb1 (fun _ => False)) (fun e => e)
            have hZ1 := hZ0.keeps (Keeps.of_fresh hb1 (fun _ => False)) (fun e => e)
            have bx := hB1.cell 0
            have blt := hB1.lt
            have z0 := hZ1.cell 0
            have z1 := hZ1.cell 1
            have zf0 := hZ1.free 0
            have zf1 := hZ1.free 1
            have zlt := hZ1.lt
            go_wp2_with fail
            refine (HRG.out _ (by exact HT.out.new hb2)).mono ?_
            rintro e w2 ⟨rv, rfl, hown, hb3⟩
            obtain ⟨ra, rc, rfl⟩ := owns_slice hown
            have hb4 := hb2.trans (hb3.mono hb2.size)
            have hB2 := hB1.keeps (Keeps.of_fresh hb3 (fun _ => False)) (fun e => e)
            have hZ2 := hZ1.keeps (Keeps.of_fresh hb3 (fun _ => False)) (fun e => e)
            clear bx blt z0 z1 zf0 zf1 zlt
            have bx := hB2.cell 0
            have blt := hB2.lt
            have z0 := hZ2.cell 0
            have z1 := hZ2.cell 1
            have zf0 := hZ2.free 0
            have zf1 := hZ2.free 1
            have zlt := hZ2.lt
            go_wp2_with fail
            have hrk := hRK.out l[j] (List.getElem_mem hj)
            obtain ⟨gl, cl, e1, q1, q2, q3, f0, f1⟩ := pair_cells_at hown j hj
            cases e1
            generalize l[j] = P at hrk f0 f1 hE3
            obtain ⟨b, sz⟩ := P
            obtain ⟨h1, h2, h3, h4, h5⟩ := hrk
            simp only at h1 h2 h3 h4 h5 f0 f1
            have htr := fun wx hx => address_translate R (.slice a T.length cap) T k b sz wx hx hc0 hk h1 h2 h3 h4
            unfold TransPost at htr
            have hE4 := Lib.hid (show aTransT T k j = if (translateT T k b sz).2 = true then ((translateT T k b sz).1, 0) else ((0, 0), 27) from by rw [hE3.out]; rfl)
            clear hE3
            generalize translateT T k b sz = D at htr hE4
            obtain ⟨⟨d0, d1⟩, ok⟩ := D
            simp only at htr
            have HTR := Lib.hid htr; clear htr
            have n1 := World.new_ne w2 _ bx
            have n2 := World.new_ne w2 _ f0
            go_region_held3 (fun wx => wx.cell? ⟨w.heap.size, 0, none⟩ = some (.slice a T.length cap) ∧ wx.cell? ⟨gl, j * 2, none⟩ = some (.int .i64 b) ∧ wx.cell? ⟨gl, j * 2 + 1, none⟩ = some (.int .i64 sz) ∧ Below w2.heap.size w2 wx)
              (first
              | exact ⟨by assumption, by assumption, by assumption, (Below.refl _ _).drew⟩
              | exact ⟨k0, k1, k2, kb⟩
              | exact ⟨by go_keep, by go_keep, by go_keep, kb.alloc hbs _⟩
              | exact ⟨by go_keep, by go_keep, by go_keep, (kb.setCell (Nat.le_refl _) _).setCell (Nat.le_refl _) _⟩
              | (refine ⟨by go_keep, by go_keep, by go_keep, ?_⟩; go_split_ands; rename_i hbw; first | exact hbw.alloc hbw.size _ | exact hbw.setCell (Nat.le_refl _) _ | exact hbw.setCell (by assumption) _)
              | go_keep)
              ((go_at_call 48; obtain ⟨s0, s1, s2, hbw⟩ := ‹World.cell? _ _ = _ ∧ _ ∧ _ ∧ Below _ _ _›; refine (HTR.out _ (by exact HT.out.new (hb4.trans (hbw.mono hb4.size)))).mono ?_; rintro e wc ⟨rfl, hbc⟩; have hbs := Nat.le_trans hbw.size hbc.size; have k0 := cell_new s0 (Nat.lt_of_lt_of_le blt hbw.size) hbc; have k1 := cell_new s1 (Nat.lt_of_lt_of_le q2 hbw.size) hbc; have k2 := cell_new s2 (Nat.lt_of_lt_of_le q2 hbw.size) hbc; have kb := hbw.trans (hbc.mono hbw.size); try (have hzn : wc.cell? ⟨w2.heap.size, 0, none⟩ = some (.int .i64 0) ∧ wc.cell? ⟨w2.heap.size, 1, none⟩ = some (.int .i64 0) ∧ wc.frozen? ⟨w2.heap.size, 0, none⟩ = false ∧ wc.frozen? ⟨w2.heap.size, 1, none⟩ = false ∧ w2.heap.size < wc.heap.size := new_held hbc; obtain ⟨g0, g1, gf0, gf1, glt⟩ := hzn)))
            all_goals
              rename_i hS
              obtain ⟨_, _, _, hbx⟩ := hS
              have hb5 := hb4.trans (hbx.mono hb4.size)
              have hZ3 := hZ2.keeps (Keeps.of_fresh hbx (fun _ => False)) (fun e => e)
              clear z0 z1 zf0 zf1 zlt
              have z0 := hZ3.cell 0
              have z1 := hZ3.cell 1
              have zf0 := hZ3.free 0
              have zf1 := hZ3.free 1
              have zlt := hZ3.lt
              cases ok with
              | true =>
                have hF := Lib.hid (show aTransT T k j = ((d0, d1), 0) from by rw [hE4.out]; rfl)
                clear hE4
                go_wp2_with fail
                exact bodyPost_ret (v := .tuple #[.agg #[.int .i64 d0, .int .i64 d1], .int .i64 0]) (by simp [results, Tryz.results24, go_sem, z0, z1]) rfl ⟨by rw [hF.out], (hb5.setCell (by simp) _).setCell (by simp) _⟩
              | false =>
                have hF := Lib.hid (show aTransT T k j = ((0, 0), 27) from by rw [hE4.out]; rfl)
                clear hE4
                go_wp2_with fail
                exact bodyPost_ret (v := .tuple #[.agg #[.int .i64 0, .int .i64 0], .int .i64 27]) (by simp [results, Tryz.results24, go_sem, z0, z1]) rfl ⟨by rw [hF.out], (hb5.setCell (by simp) _).setCell (by simp) _⟩
  · have hcb : (c != 0) = true := by simpa using hc
    have hE2 := Lib.hid (show aTransT T node index = ((0, 0), c) from by rw [hE.out, if_pos hc])
    clear hE hc hok
    go_enter Tryz.func24, Tryz.ntmps24
    go_wp2_with fail
    refine (HCK.out _ (by exact HT.out.new hb0)).mono ?_
    rintro e w1 ⟨rfl, hb1⟩
    have hb2 := hb0.trans (hb1.mono (by simp; omega))
    have hB1 := hB0.keeps (Keeps.of_fresh hb1 (fun _ => False)) (fun e => e)
    have hZ1 := hZ0.keeps (Keeps.of_fresh hb1 (fun _ => False)) (fun e => e)
    have bx := hB1.cell 0
    have blt := hB1.lt
    have z0 := hZ1.cell 0
    have z1 := hZ1.cell 1
    have zf0 := hZ1.free 0
    have zf1 := hZ1.free 1
    have zlt := hZ1.lt
    go_wp2_with fail
    exact bodyPost_ret (v := .tuple #[.agg #[.int .i64 0, .int .i64 0], .int .i64 c]) (by simp [results, Tryz.results24, go_sem, z0, z1]) rfl ⟨by rw [hE2.out], (hb2.setCell (by simp) _).setCell (by simp) _⟩
end Go.Proofs.YthkoaakicdhnpaaGreat

namespace Go.Proofs.YthkoaakicdhnpaaGreat
open Go.RowKit

/-- Is a the node b, or above it? The walk up from b. -/
def aboveF (T : List NodeT) (a : Int) : Nat → Int → Bool
  | 0, b => a == b
  | f + 1, b => if a < b then aboveF T a f (parOf T b.toNat) else a == b
def aboveT (T : List NodeT) (a b : Int) : Bool := aboveF T a T.length b

set_option maxRecDepth 100000 in
set_option maxHeartbeats 2000000 in
theorem address_above (R : Nat → Prop) (v : Value) (T : List NodeT) (a b : Int) (w : World) (hT : NodesIn R w v T) (hc : checkT T = 0) (ha : 0 ≤ a) (hb0 : 0 ≤ b) (hb1 : b < T.length) :
    Calls Tryz.prog 49 #[.agg #[v], .int .i64 a, .int .i64 b] w fun e w' => e = .returned (.bool (aboveT T a b)) ∧ Below w.heap.size w w' := by
  obtain ⟨va, cap, rfl, hc1, hc2⟩ := hT.shape
  have HT := Lib.hid hT; clear hT
  have HNM := Lib.hid (check_named hc)
  have hlen := (limits_len (check_limits hc)).2
  clear hc
  go_enter Tryz.func49, Tryz.ntmps49
  go_wp2_with fail
  go_loopg [2] (T.length) (fun f x wr => ∃ (u : Int) (n : Nat), x = .int .i64 u ∧ 0 ≤ u ∧ u < T.length ∧ u ≤ f ∧ u ≤ n ∧ Hid (aboveT T a b = aboveF T a n u) ∧
    Holds wr w.heap.size #[.slice va T.length cap] 25 ∧ Below w.heap.size w wr)
  case atStart => exact ⟨b, T.length, rfl, hb0, hb1, by omega, by omega, rfl, Holds.new _ _ _, (Below.refl _ _).alloc (Nat.le_refl _) _⟩
  case round =>
    obtain ⟨u, n, rfl, hu0, hu1, hf, hn, hA, hB, hb⟩ := hrel
    have bx := hB.cell 0
    have blt := hB.lt
    by_cases hup : a < u
    · obtain ⟨m, rfl⟩ := Int.eq_ofNat_of_zero_le hu0
      have hm : m < T.length := by omega
      obtain ⟨n, rfl⟩ : ∃ n', n = n' + 1 := ⟨n - 1, by omega⟩
      obtain ⟨g, o, pa, pc, rfl, hg, c0, c1, c2, hp, p1, p2, q0, q1, q2⟩ := (HT.out.new hb).at m hm
      have hpar := (named_par HNM.out m hm).2 (by omega)
      have hS := Lib.hid (show aboveT T a b = aboveF T a n T[m].parent from by
        rw [hA.out]; simp only [aboveF]; rw [if_pos hup, Int.toNat_natCast, parOf_at hm])
      generalize T[m].parent = pp at c0 hpar hS
      obtain ⟨hp0, hp1⟩ := hpar
      clear c1 c2 hp q0 q1 q2
      go_wp2_with fail
      go_roundg (gk - 1)
      case measure => omega
      case rel => exact ⟨pp, n, rfl, by omega, by omega, by omega, by omega, hS, hB, hb⟩
    · have hfin := Lib.hid (show aboveT T a b = (a == u) from by
        rw [hA.out]
        cases n with
        | zero => rfl
        | succ n => simp only [aboveF]; rw [if_neg hup])
      go_wp2_with fail
      go_ret
      exact ⟨by rw [hfin.out]; rfl, hb⟩
end Go.Proofs.YthkoaakicdhnpaaGreat

namespace Go.Proofs.YthkoaakicdhnpaaGreat
open Go.RowKit

def placeT (T : List NodeT) (i k : Nat) (p : Int × Int) : List ((Int × Int) × Int × Int) := if (translateT T i p.1 p.2).2 = true then [(((i : Int), (k : Int)), (translateT T i p.1 p.2).1)] else []
def foundRow (T : List NodeT) (i : Nat) : Nat → List (Int × Int) → List ((Int × Int) × Int × Int)
  | _, [] => []
  | k, p :: r => placeT T i k p ++ foundRow T i (k + 1) r
def foundF (T : List NodeT) : Nat → Nat → List ((Int × Int) × Int × Int)
  | 0, _ => []
  | f + 1, i => foundRow T i 0 (regionsT T i).1 ++ foundF T f (i + 1)
def foundT (T : List NodeT) : List ((Int × Int) × Int × Int) := foundF T T.length 0
def commonB (x y : Int × Int) : Bool := decide (max x.1 y.1 < min (x.1 + x.2) (y.1 + y.2))
def hitB (T : List NodeT) (x y : (Int × Int) × Int × Int) : Bool := commonB x.2 y.2 && !aboveT T x.1.1 y.1.1
def hitRow (T : List NodeT) (x : (Int × Int) × Int × Int) : List ((Int × Int) × Int × Int) → List ((Int × Int) × Int × Int)
  | [] => []
  | y :: r => (if hitB T x y = true then [(x.1, y.1)] else []) ++ hitRow T x r
def hitsF (T : List NodeT) : List ((Int × Int) × Int × Int) → List ((Int × Int) × Int × Int)
  | [] => []
  | x :: r => hitRow T x r ++ hitsF T r
def overlapsT (T : List NodeT) : List ((Int × Int) × Int × Int) × Int := if (aCheckT T).2 ≠ 0 then ([], (aCheckT T).2) else (hitsF T (foundT T), 0)
def quadCells (l : List ((Int × Int) × Int × Int)) : List Value := l.flatMap fun p => [.int .i64 p.1.1, .int .i64 p.1.2, .int .i64 p.2.1, .int .i64 p.2.2]
theorem quadCells_snoc (l : List ((Int × Int) × Int × Int)) (p : (Int × Int) × Int × Int) : quadCells (l ++ [p]) = quadCells l ++ [.int .i64 p.1.1, .int .i64 p.1.2, .int .i64 p.2.1, .int .i64 p.2.2] := by simp [quadCells]
theorem quad_cells_at {w : World} {base : Nat} {T : TypeId} {v : Value} {l : List ((Int × Int) × Int × Int)} (h : w.ownsRow base T 4 v l.length (quadCells l)) (k : Nat) (hk : k < l.length) :
    ∃ g cap, v = .slice (some ⟨g, 0, none⟩) l.length cap ∧ l.length ≤ cap ∧ g < w.heap.size ∧ base ≤ g ∧ w.cell? ⟨g, k * 4, none⟩ = some (.int .i64 l[k].1.1) ∧ w.cell? ⟨g, k * 4 + 1, none⟩ = some (.int .i64 l[k].1.2) ∧
      w.cell? ⟨g, k * 4 + 2, none⟩ = some (.int .i64 l[k].2.1) ∧ w.cell? ⟨g, k * 4 + 3, none⟩ = some (.int .i64 l[k].2.2) := by
  rcases h.2 with ⟨_, h0⟩ | ⟨g, cap, cur, rfl, hb, hh, hcap, hr⟩
  · omega
  · have key : ∀ (l : List ((Int × Int) × Int × Int)) (k : Nat) (hk : k < l.length) (j : Nat), j < 4 → (quadCells l)[k * 4 + j]? = [Value.int .i64 l[k].1.1, .int .i64 l[k].1.2, .int .i64 l[k].2.1, .int .i64 l[k].2.2][j]? := by
      intro l
      induction l with
      | nil => intro k hk; simp at hk
      | cons a l ih =>
        intro k hk j hj
        rw [show quadCells (a :: l) = [.int .i64 a.1.1, .int .i64 a.1.2, .int .i64 a.2.1, .int .i64 a.2.2] ++ quadCells l from by simp [quadCells]]
        cases k with
        | zero => rw [List.getElem?_append_left (by simp; omega)]; simp
        | succ k =>
          rw [List.getElem?_append_right (by simp; omega)]
          have := ih k (by simpa using hk) j hj
          rw [show (k + 1) * 4 + j - [Value.int .i64 a.1.1, .int .i64 a.1.2, .int .i64 a.2.1, .int .i64 a.2.2].length = k * 4 + j from by simp; omega]
          simpa using this
    have cc : ∀ j, j < 4 → ∀ u, [Value.int .i64 l[k].1.1, .int .i64 l[k].1.2, .int .i64 l[k].2.1, .int .i64 l[k].2.2][j]? = some u → w.cell? ⟨g, k * 4 + j, none⟩ = some u := by
      intro j hj u hu
      have hc := h.cells (g := g) rfl (k * 4 + j) u (by rw [key l k hk j hj]; exact hu)
      have hadd : (⟨g, 0, none⟩ : Addr).add (k * 4 + j) = ⟨g, k * 4 + j, none⟩ := by unfold Addr.add; split <;> simp_all
      rwa [hadd] at hc
    exact ⟨g, cap, rfl, hcap, lt_of_block hh, hb, cc 0 (by omega) _ rfl, cc 1 (by omega) _ rfl, cc 2 (by omega) _ rfl, cc 3 (by omega) _ rfl⟩
theorem transF_ok (T : List NodeT) (s : Int) (hs0 : 0 ≤ s) : ∀ (f : Nat) (u b r : Int), 0 ≤ b → b + s ≤ 4611686018427387903 → transF T s f u b = some r → 0 ≤ r ∧ r + s ≤ 4611686018427387903 := by
  intro f
  induction f with
  | zero => intro u b r h0 h1 h; simp only [transF] at h; cases h; exact ⟨h0, h1⟩
  | succ f ih =>
    intro u b r h0 h1 h
    simp only [transF] at h
    by_cases hu : u ≤ 0
    · rw [if_pos hu] at h; cases h; exact ⟨h0, h1⟩
    · rw [if_neg hu] at h
      by_cases ha : (windowsT T u.toNat).2.1 = true
      · rw [if_pos ha] at h; exact ih _ _ _ h0 h1 h
      · rw [if_neg ha] at h
        by_cases hf : findW b s (windowsT T u.toNat).1 < 0
        · rw [if_pos hf] at h; cases h
        · rw [if_neg hf] at h
          obtain ⟨i, hi, hlt, hin⟩ := findW_lt (Int.not_lt.1 hf)
          have hok := (windowsT_ok T u.toNat).2 _ (List.getElem_mem hlt)
          have hg : (windowsT T u.toNat).1.getD i (0, 0, 0) = (windowsT T u.toNat).1[i] := by simp [List.getD, hlt]
          rw [hi, Int.toNat_natCast, hg] at h
          generalize (windowsT T u.toNat).1[i] = p at h hok hin
          obtain ⟨h2, h3, h4, h5, h6⟩ := hok
          unfold inWinB at hin
          simp only [Bool.and_eq_true, decide_eq_true_eq] at hin
          exact ih _ _ _ (by omega) (by omega) h
theorem translateT_ok (T : List NodeT) (k : Nat) (b s : Int) (hr : RegOk (b, s)) (h : (translateT T k b s).2 = true) : RegOk (translateT T k b s).1 := by
  unfold translateT at h ⊢
  cases e : transF T s T.length (parOf T k) b with
  | none => rw [e] at h; cases h
  | some r =>
    obtain ⟨h1, h2, h3, h4, h5⟩ := hr
    obtain ⟨h6, h7⟩ := transF_ok T s h3 _ _ _ _ h1 h5 e
    exact ⟨h6, by show r ≤ _; omega, h3, h4, h7⟩
theorem translateT_not (T : List NodeT) (k : Nat) (b s : Int) (h : (translateT T k b s).2 = false) : (translateT T k b s).1 = (0, 0) := by
  unfold translateT at h ⊢
  cases e : transF T s T.length (parOf T k) b with
  | none => rfl
  | some r => rw [e] at h; cases h
theorem regF_len : ∀ (rs : List (List Int)) (l : List (Int × Int)), regF rs = some l → l.length = rs.length := by
  intro rs
  induction rs with
  | nil => intro l h; simp only [regF] at h; cases h; rfl
  | cons r rs ih =>
    intro l h
    simp only [regF] at h
    split at h
    · rw [Option.map_eq_some_iff] at h
      obtain ⟨q, hq, rfl⟩ := h
      simp [ih q hq]
    · cases h
theorem regionsT_len (T : List NodeT) (k : Nat) : (regionsT T k).1.length ≤ 256 := by
  unfold regionsT
  split
  · simp
  · simp only
    split
    · simp
    · split
      · simp
      · have h1 := (rowsT_spec (valueT T k nmReg).1 [(pairT T (parOf T k)).1, (pairT T (parOf T k)).2.1]).1
        have h2 := valueT_size T k nmReg
        cases e : regF (rowsT (valueT T k nmReg).1 [(pairT T (parOf T k)).1, (pairT T (parOf T k)).2.1]).1 with
        | none => simp [regE]
        | some l => have := regF_len _ _ e; simp only [regE]; omega
def FoundOk (n : Nat) (x : (Int × Int) × Int × Int) : Prop := 0 ≤ x.1.1 ∧ x.1.1 < n ∧ RegOk x.2
theorem placeT_ok (T : List NodeT) (i k : Nat) (p : Int × Int) (hi : i < T.length) (hp : RegOk p) : (placeT T i k p).length ≤ 1 ∧ ∀ x ∈ placeT T i k p, FoundOk T.length x := by
  unfold placeT
  split
  · rename_i h
    refine ⟨by simp, fun x hx => ?_⟩
    rw [List.mem_singleton] at hx
    subst hx
    exact ⟨by show (0 : Int) ≤ (i : Int); omega, by show (i : Int) < _; omega, translateT_ok T i p.1 p.2 hp h⟩
  · simp
theorem foundRow_ok (T : List NodeT) (i : Nat) (hi : i < T.length) : ∀ (l : List (Int × Int)) (k : Nat), (∀ p ∈ l, RegOk p) → (foundRow T i k l).length ≤ l.length ∧ ∀ x ∈ foundRow T i k l, FoundOk T.length x := by
  intro l
  induction l with
  | nil => intro k _; simp [foundRow]
  | cons p r ih =>
    intro k h
    obtain ⟨h1, h2⟩ := placeT_ok T i k p hi (h p (by simp))
    obtain ⟨h3, h4⟩ := ih (k + 1) (fun q hq => h q (by simp [hq]))
    simp only [foundRow]
    refine ⟨by simp; omega, fun x hx => ?_⟩
    rcases List.mem_append.1 hx with hx | hx
    · exact h2 x hx
    · exact h4 x hx
theorem foundF_ok (T : List NodeT) : ∀ (f i : Nat), i + f ≤ T.length → (foundF T f i).length ≤ f * 256 ∧ ∀ x ∈ foundF T f i, FoundOk T.length x := by
  intro f
  induction f with
  | zero => intro i _; simp [foundF]
  | succ f ih =>
    intro i h
    obtain ⟨h1, h2⟩ := foundRow_ok T i (by omega) (regionsT T i).1 0 (regionsT_ok T i)
    have h0 := regionsT_len T i
    obtain ⟨h3, h4⟩ := ih (i + 1) (by omega)
    simp only [foundF]
    refine ⟨by simp; omega, fun x hx => ?_⟩
    rcases List.mem_append.1 hx with hx | hx
    · exact h2 x hx
    · exact h4 x hx
theorem foundT_ok (T : List NodeT) : (foundT T).length ≤ T.length * 256 ∧ ∀ x ∈ foundT T, FoundOk T.length x := foundF_ok T T.length 0 (by omega)
theorem hitRow_len (T : List NodeT) (x : (Int × Int) × Int × Int) : ∀ l, (hitRow T x l).length ≤ l.length := by
  intro l
  induction l with
  | nil => simp [hitRow]
  | cons y r ih => simp only [hitRow]; split <;> simp <;> omega
theorem hitsF_len (T : List NodeT) (n : Nat) : ∀ l, l.length ≤ n → (hitsF T l).length ≤ l.length * n := by
  intro l
  induction l with
  | nil => simp [hitsF]
  | cons x r ih =>
    intro h
    have h1 := hitRow_len T x r
    have h2 := ih (by simp at h; omega)
    simp only [hitsF, List.length_append, List.length_cons]
    simp only [List.length_cons] at h
    rw [Nat.succ_mul]
    omega

theorem infoFound : (Tryz.prog.info? 93).map (fun i => (i.zero, i.size, i.bytes)) = some (some (.agg #[.int .i64 0, .int .i64 0, .int .i64 0, .int .i64 0]), 4, 32) := by kernel_rfl

theorem infoOver : (Tryz.prog.info? 96).map (fun i => (i.zero, i.size, i.bytes)) = some (some (.agg #[.int .i64 0, .int .i64 0, .int .i64 0, .int .i64 0]), 4, 32) := by kernel_rfl

theorem infoPlace : (Tryz.prog.info? 91).map (fun i => (i.zero, i.size, i.bytes)) = some (some (.agg #[.int .i64 0, .int .i64 0]), 2, 16) := by kernel_rfl

theorem infoTri : (Tryz.prog.info? 122).map (fun i => (i.zero, i.size, i.bytes)) = some (some (.agg #[.int .i64 0, .int .i64 0, .int .i64 0]), 3, 24) := by kernel_rfl

def OverPost (T : List NodeT) (w : World) (e : Ending) (w' : World) : Prop :=
  ∃ v, e = .returned (.tuple #[v, .int .i64 (overlapsT T).2]) ∧ w'.ownsRow w.heap.size 96 4 v (overlapsT T).1.length (quadCells (overlapsT T).1) ∧ Below w.heap.size w w'
end Go.Proofs.YthkoaakicdhnpaaGreat

namespace Go.Proofs.YthkoaakicdhnpaaGreat
open Go.RowKit

set_option maxRecDepth 100000 in
set_option maxHeartbeats 4000000 in
theorem same_Regions (B1 B2 : Nat) (v1 v2 : Value) (l : List (Int × Int)) (w : World) (h1 : w.ownsRow B1 56 2 v1 l.length (pairCells l)) (h2 : w.ownsRow B2 56 2 v2 l.length (pairCells l)) (hl : l.length ≤ 1000000000) :
    Calls Tryz.prog 26 #[v1, v2] w fun e w' => e = .returned (.bool true) ∧ Below w.heap.size w w' := by
  obtain ⟨a1, c1, rfl⟩ := owns_slice h1
  obtain ⟨a2, c2, rfl⟩ := owns_slice h2
  have H1 := Lib.hid h1
  have H2 := Lib.hid h2
  clear h1 h2
  go_enter Tryz.func26, Tryz.ntmps26
  go_wp2_with fail
  go_loopg [13] (l.length) (fun f x wr => ∃ j : Nat, x = .int .i64 j ∧ j ≤ l.length ∧ l.length ≤ j + f ∧ Below w.heap.size w wr)
  case atStart => exact ⟨0, rfl, by omega, by omega, Below.refl _ _⟩
  case round =>
    obtain ⟨j, rfl, hj, hf, hb⟩ := hrel
    by_cases hlt : j < l.length
    · have hjI : (j : Int) < (l.length : Int) := by omega
      obtain ⟨g1, d1, e1, hd1, hg1, _, x0, x1⟩ := pair_cells_at (row_new H1.out hb) j hlt
      obtain ⟨g2, d2, e2, hd2, hg2, _, y0, y1⟩ := pair_cells_at (row_new H2.out hb) j hlt
      cases e1
      cases e2
      generalize l[j] = P at *
      go_wp2_with fail
      go_region
      go_wp2_with fail
      go_roundg (gk - 1)
      case measure => omega
      case rel => exact ⟨j + 1, by go_num, by omega, by omega, hb.drew⟩
    · have hjI : ¬ (j : Int) < (l.length : Int) := by omega
      go_wp2_with fail
      go_ret
      exact ⟨rfl, hb⟩

set_option maxRecDepth 100000 in
set_option maxHeartbeats 4000000 in
theorem same_Overlaps (B1 B2 : Nat) (v1 v2 : Value) (l : List ((Int × Int) × Int × Int)) (w : World) (h1 : w.ownsRow B1 96 4 v1 l.length (quadCells l)) (h2 : w.ownsRow B2 96 4 v2 l.length (quadCells l)) (hl : l.length ≤ 1000000000) :
    Calls Tryz.prog 18 #[v1, v2] w fun e w' => e = .returned (.bool true) ∧ Below w.heap.size w w' := by
  obtain ⟨a1, c1, rfl⟩ := owns_slice h1
  obtain ⟨a2, c2, rfl⟩ := owns_slice h2
  have H1 := Lib.hid h1
  have H2 := Lib.hid h2
  clear h1 h2
  go_enter Tryz.func18, Tryz.ntmps18
  go_wp2_with fail
  go_loopg [13] (l.length) (fun f x wr => ∃ j : Nat, x = .int .i64 j ∧ j ≤ l.length ∧ l.length ≤ j + f ∧ Below w.heap.size w wr)
  case atStart => exact ⟨0, rfl, by omega, by omega, Below.refl _ _⟩
  case round =>
    obtain ⟨j, rfl, hj, hf, hb⟩ := hrel
    by_cases hlt : j < l.length
    · have hjI : (j : Int) < (l.length : Int) := by omega
      obtain ⟨g1, d1, e1, hd1, hg1, _, x0, x1, x2, x3⟩ := quad_cells_at (row_new H1.out hb) j hlt
      obtain ⟨g2, d2, e2, hd2, hg2, _, y0, y1, y2, y3⟩ := quad_cells_at (row_new H2.out hb) j hlt
      cases e1
      cases e2
      generalize l[j] = P at *
      go_wp2_with fail
      go_region
      go_wp2_with fail
      go_roundg (gk - 1)
      case measure => omega
      case rel => exact ⟨j + 1, by go_num, by omega, by omega, hb.drew⟩
    · have hjI : ¬ (j : Int) < (l.length : Int) := by omega
      go_wp2_with fail
      go_ret
      exact ⟨rfl, hb⟩

end Go.Proofs.YthkoaakicdhnpaaGreat

namespace Go.Proofs.YthkoaakicdhnpaaGreat
open Go.RowKit

noncomputable def rrgOps : Array Oper := (regOps (Tryz.f46.body.getD .skip) 17).getD #[]
theorem rrgR : inRow2 .any rrgOps = true := by kernel_rfl
theorem rrgRa : apartB rrgOps = true := by kernel_rfl
theorem rrgRn : rrgOps.size = 14 := by kernel_rfl
def RrgF (g n cap i : Nat) (b s : Int) (base m : Nat) (xs : List Value) (v : Value) (j : Nat) : Value → World → Prop := match j with
  | 0 => fun u _ => u = v
  | 1 => fun u _ => u = .slice (some ⟨g, 0, none⟩) n cap
  | 2 => fun u _ => u = .int .i64 i
  | 3 => fun u _ => u = .pointer (some ⟨g, i, none⟩)
  | 4 => fun u _ => u = .int .i64 b
  | 5 => fun u _ => u = .slice (some ⟨g, 0, none⟩) n cap
  | 6 => fun u _ => u = .int .i64 i
  | 7 => fun u _ => u = .int .i64 ((i + 1 : Nat) : Int)
  | 8 => fun u _ => u = .pointer (some ⟨g, i + 1, none⟩)
  | 9 => fun u _ => u = .int .i64 s
  | 10 => fun u _ => u = .agg #[.int .i64 b, .int .i64 s]
  | 11 => fun u w => ∃ N, u = .slice (some ⟨N, 0, none⟩) 1 1 ∧ Holds w N ([.int .i64 b, .int .i64 s] : List Value).toArray 56 ∧ (v : Value).ownBlock ≠ some N
  | 12 => fun u w => ∃ g' c', u = (.slice (some ⟨g', 0, none⟩) (m + 1) c') ∧ w.ownsRow base 56 2 (.slice (some ⟨g', 0, none⟩) (m + 1) c') (m + 1) (xs ++ ([.int .i64 b, .int .i64 s] : List Value))
  | 13 => fun u w => ∃ g' c', u = (.slice (some ⟨g', 0, none⟩) (m + 1) c') ∧ w.ownsRow base 56 2 (.slice (some ⟨g', 0, none⟩) (m + 1) c') (m + 1) (xs ++ ([.int .i64 b, .int .i64 s] : List Value))
  | _ => fun _ _ => True
def RrgX (_ _ _ _ : Nat) (_ _ : Int) (base m : Nat) (xs : List Value) (v : Value) (l : Array Bool) (w : World) : Prop := (l.getD 12 false = false → w.ownsRow base 56 2 (v) m (xs))
section
variable {g n cap i : Nat} {b s : Int} {base m : Nat} {xs : List Value} {v : Value} {w w' : World} {j : Nat} {u : Value}
theorem RrgF.new (h : RrgF g n cap i b s base m xs v j u w) (kb : Below w.heap.size w w') : RrgF g n cap i b s base m xs v j u w' := by
  unfold RrgF at *
  have kk := Keeps.of_fresh kb (fun _ => False)
  split at h
  all_goals first
    | exact h
    | (obtain ⟨N, e, hN, r⟩ := h; exact ⟨N, e, hN.keeps kk (fun e => e), r⟩)
    | (obtain ⟨g', c', e, hr⟩ := h; exact ⟨g', c', e, row_new hr kb⟩)
theorem RrgF.grow0 (h : RrgF g n cap i b s base m xs v j u w) (_ : w.ownsRow base 56 2 (v) m (xs)) (k : w.grownBy w' (v : Value).ownBlock) (h10 : j ≠ 12) (h12 : j ≠ 13) : RrgF g n cap i b s base m xs v j u w' := by
  unfold RrgF at *
  split at h
  all_goals first
    | exact absurd rfl h10
    | exact absurd rfl h12
    | exact h
    | (obtain ⟨N, e, hN, r⟩ := h; exact ⟨N, e, hN.grown k (r), r⟩)
end

set_option maxHeartbeats 4000000 in
set_option maxRecDepth 100000 in
theorem rrg_region {Q : Exit → Act → World → Prop} (g n cap i : Nat) (b s : Int) (base m : Nat) (xs : List Value) (v : Value) (B0 : Nat) (W w : World) (A : Act) (hsz : A.tmps.size = 84) (hB0 : B0 ≤ W.heap.size) (hrb0 : B0 ≤ base) (hbase0 : base ≤ W.heap.size) (hn0 : m ≤ 1000000) (hin : i + 1 < n) (hn : n ≤ 1000000) (hgB : g < B0) (h0 : W.cell? ⟨g, i, none⟩ = some (.int .i64 b)) (h1 : W.cell? ⟨g, i + 1, none⟩ = some (.int .i64 s))
    (a12 : A.tmps.getD 12 undef = .slice (some ⟨g, 0, none⟩) n cap) (a14 : A.tmps.getD 14 undef = .int .i64 i) (a13 : A.tmps.getD 13 undef = v)
    (hS : Below B0 W w) (hR0 : w.ownsRow base 56 2 (v) m (xs))
    (hQ : ∀ c w' v0, SameBut rrgOps A c → Below B0 W w' → c.tmps.getD 13 undef = v0 → w'.ownsRow base 56 2 v0 (m + 1) (xs ++ ([.int .i64 b, .int .i64 s] : List Value)) → Q .normal c w') :
    wpAny Tryz.prog .any rrgOps Q rrgOps.size (Array.replicate rrgOps.size false) A w := by
  refine wpAny_inv2 (fun l c wx => RInv rrgOps A (RrgF g n cap i b s base m xs v) (fun wx => Below B0 W wx) l c wx ∧ Fresh rrgOps A l c ∧ RrgX g n cap i b s base m xs v l wx) rrgR ?hend ?hstep _ _ _ _ (by simp) (by simp) ⟨RInv.start hS, fun _ _ _ _ => rfl, fun _ => hR0⟩
  case hend =>
    intro l c wx hI hl
    have hh : ∀ k, k < 14 → l.getD k false = true := fun k hk => hl k (by rw [rrgRn]; exact hk)
    obtain ⟨g0, c0, h0, r0⟩ : ∃ g' c', c.tmps.getD 13 undef = (.slice (some ⟨g', 0, none⟩) (m + 1) c') ∧ wx.ownsRow base 56 2 (.slice (some ⟨g', 0, none⟩) (m + 1) c') (m + 1) (xs ++ ([.int .i64 b, .int .i64 s] : List Value)) := hI.1.fact 13 13 rfl (hh 13 (by decide))
    exact hQ c wx _ hI.1.1 hI.1.2.1 h0 r0 
  intro l c wx hI i' op ho hl hall K' hK'
  have hi13 : i' < 14 := by rw [← rrgRn]; exact (Array.getElem?_eq_some_iff.1 ho).1
  simp only [rrgOps, regOps, Tryz.f46, Option.getD_some, reduceIte, Nat.reduceEqDiff] at ho
  have hS := hI.1.2.1
  have hBs : B0 ≤ wx.heap.size := Nat.le_trans hB0 hS.size
  have hWs : W.heap.size ≤ wx.heap.size := hS.size
  have s12 := (hI.1.slot 12 (by kernel_rfl)).trans a12
  have s14 := (hI.1.slot 14 (by kernel_rfl)).trans a14
  simp only [Array.getD_eq_getD_getElem?] at s12 s14
  have q0 : i < n := by omega
  have u1 : (0 : Int) ≤ (i : Int) + 1 := by omega
  have v1 : (i : Int) + 1 < (n : Int) := by omega
  have n1 : ((i : Int) + 1).toNat = i + 1 := by omega
  have w1 : IntKind.i64.wrap ((i : Int) + 1) = ((i + 1 : Nat) : Int) := by rw [show ((i + 1 : Nat) : Int) = (i : Int) + 1 from by omega]; exact IntWalk.i64_in _ (by omega)
  have hic : i' = 0 ∨ i' = 1 ∨ i' = 2 ∨ i' = 3 ∨ i' = 4 ∨ i' = 5 ∨ i' = 6 ∨ i' = 7 ∨ i' = 8 ∨ i' = 9 ∨ i' = 10 ∨ i' = 11 ∨ i' = 12 ∨ i' = 13 := by omega
  rcases hic with rfl | rfl | rfl | rfl | rfl | rfl | rfl | rfl | rfl | rfl | rfl | rfl | rfl | rfl
  all_goals cases ho
  · have so := (hI.2.1 13 13 rfl (hI.1.2.2.1.2.unlisted (hI.1.2.2.1.2.unlisted hl (j := 12) (by kernel_rfl)) (j := 13) (by kernel_rfl))).trans a13
    simp only [Array.getD_eq_getD_getElem?] at so
    go_simp
    exact hK' _ _ ⟨hI.1.stepL rrgRa 0 70 rfl (by rw [hsz]; decide) _ _ rfl hall hS (fun _ _ _ h => h) rfl, hI.2.1.put rrgRa 0 70 rfl (by rw [hI.1.1.1, hsz]; decide) _ (by rw [hI.1.2.2.1.1]; exact dst_lt (show dstOf rrgOps 0 = some 70 from rfl)), (fun e => hI.2.2 (listed_set e))⟩
  · go_simp
    exact hK' _ _ ⟨hI.1.stepL rrgRa 1 71 rfl (by rw [hsz]; decide) _ _ rfl hall hS (fun _ _ _ h => h) rfl, hI.2.1.put rrgRa 1 71 rfl (by rw [hI.1.1.1, hsz]; decide) _ (by rw [hI.1.2.2.1.1]; exact dst_lt (show dstOf rrgOps 1 = some 71 from rfl)), (fun e => hI.2.2 (listed_set e))⟩
  · go_simp
    exact hK' _ _ ⟨hI.1.stepL rrgRa 2 72 rfl (by rw [hsz]; decide) _ _ rfl hall hS (fun _ _ _ h => h) rfl, hI.2.1.put rrgRa 2 72 rfl (by rw [hI.1.1.1, hsz]; decide) _ (by rw [hI.1.2.2.1.1]; exact dst_lt (show dstOf rrgOps 2 = some 72 from rfl)), (fun e => hI.2.2 (listed_set e))⟩
  · have e1 : c.tmps.getD 71 undef = .slice (some ⟨g, 0, none⟩) n cap := hI.1.fact 1 71 rfl (listed hall 1 (by kernel_rfl))
    have f1 := e1
    simp only [Array.getD_eq_getD_getElem?] at e1
    have e2 : c.tmps.getD 72 undef = .int .i64 i := hI.1.fact 2 72 rfl (listed hall 2 (by kernel_rfl))
    have f2 := e2
    simp only [Array.getD_eq_getD_getElem?] at e2
    go_simp
    exact hK' _ _ ⟨hI.1.stepL rrgRa 3 73 rfl (by rw [hsz]; decide) _ _ rfl hall hS (fun _ _ _ h => h) rfl, hI.2.1.put rrgRa 3 73 rfl (by rw [hI.1.1.1, hsz]; decide) _ (by rw [hI.1.2.2.1.1]; exact dst_lt (show dstOf rrgOps 3 = some 73 from rfl)), (fun e => hI.2.2 (listed_set e))⟩
  · have e3 : c.tmps.getD 73 undef = .pointer (some ⟨g, i, none⟩) := hI.1.fact 3 73 rfl (listed hall 3 (by kernel_rfl))
    have f3 := e3
    simp only [Array.getD_eq_getD_getElem?] at e3
    have x0 := (hS.cell (p := ⟨g, i, none⟩) hgB).trans h0
    go_simp
    exact hK' _ _ ⟨hI.1.stepL rrgRa 4 74 rfl (by rw [hsz]; decide) _ _ rfl hall hS (fun _ _ _ h => h) rfl, hI.2.1.put rrgRa 4 74 rfl (by rw [hI.1.1.1, hsz]; decide) _ (by rw [hI.1.2.2.1.1]; exact dst_lt (show dstOf rrgOps 4 = some 74 from rfl)), (fun e => hI.2.2 (listed_set e))⟩
  · go_simp
    exact hK' _ _ ⟨hI.1.stepL rrgRa 5 75 rfl (by rw [hsz]; decide) _ _ rfl hall hS (fun _ _ _ h => h) rfl, hI.2.1.put rrgRa 5 75 rfl (by rw [hI.1.1.1, hsz]; decide) _ (by rw [hI.1.2.2.1.1]; exact dst_lt (show dstOf rrgOps 5 = some 75 from rfl)), (fun e => hI.2.2 (listed_set e))⟩
  · go_simp
    exact hK' _ _ ⟨hI.1.stepL rrgRa 6 76 rfl (by rw [hsz]; decide) _ _ rfl hall hS (fun _ _ _ h => h) rfl, hI.2.1.put rrgRa 6 76 rfl (by rw [hI.1.1.1, hsz]; decide) _ (by rw [hI.1.2.2.1.1]; exact dst_lt (show dstOf rrgOps 6 = some 76 from rfl)), (fun e => hI.2.2 (listed_set e))⟩
  · have e6 : c.tmps.getD 76 undef = .int .i64 i := hI.1.fact 6 76 rfl (listed hall 6 (by kernel_rfl))
    have f6 := e6
    simp only [Array.getD_eq_getD_getElem?] at e6
    go_simp
    exact hK' _ _ ⟨hI.1.stepL rrgRa 7 77 rfl (by rw [hsz]; decide) _ _ rfl hall hS (fun _ _ _ h => h) rfl, hI.2.1.put rrgRa 7 77 rfl (by rw [hI.1.1.1, hsz]; decide) _ (by rw [hI.1.2.2.1.1]; exact dst_lt (show dstOf rrgOps 7 = some 77 from rfl)), (fun e => hI.2.2 (listed_set e))⟩
  · have e5 : c.tmps.getD 75 undef = .slice (some ⟨g, 0, none⟩) n cap := hI.1.fact 5 75 rfl (listed hall 5 (by kernel_rfl))
    have f5 := e5
    simp only [Array.getD_eq_getD_getElem?] at e5
    have e7 : c.tmps.getD 77 undef = .int .i64 ((i + 1 : Nat) : Int) := hI.1.fact 7 77 rfl (listed hall 7 (by kernel_rfl))
    have f7 := e7
    simp only [Array.getD_eq_getD_getElem?] at e7
    go_simp
    exact hK' _ _ ⟨hI.1.stepL rrgRa 8 78 rfl (by rw [hsz]; decide) _ _ rfl hall hS (fun _ _ _ h => h) rfl, hI.2.1.put rrgRa 8 78 rfl (by rw [hI.1.1.1, hsz]; decide) _ (by rw [hI.1.2.2.1.1]; exact dst_lt (show dstOf rrgOps 8 = some 78 from rfl)), (fun e => hI.2.2 (listed_set e))⟩
  · have e8 : c.tmps.getD 78 undef = .pointer (some ⟨g, i + 1, none⟩) := hI.1.fact 8 78 rfl (listed hall 8 (by kernel_rfl))
    have f8 := e8
    simp only [Array.getD_eq_getD_getElem?] at e8
    have x1 := (hS.cell (p := ⟨g, i + 1, none⟩) hgB).trans h1
    go_simp
    exact hK' _ _ ⟨hI.1.stepL rrgRa 9 79 rfl (by rw [hsz]; decide) _ _ rfl hall hS (fun _ _ _ h => h) rfl, hI.2.1.put rrgRa 9 79 rfl (by rw [hI.1.1.1, hsz]; decide) _ (by rw [hI.1.2.2.1.1]; exact dst_lt (show dstOf rrgOps 9 = some 79 from rfl)), (fun e => hI.2.2 (listed_set e))⟩
  · have e4 : c.tmps.getD 74 undef = .int .i64 b := hI.1.fact 4 74 rfl (listed hall 4 (by kernel_rfl))
    have f4 := e4
    simp only [Array.getD_eq_getD_getElem?] at e4
    have e9 : c.tmps.getD 79 undef = .int .i64 s := hI.1.fact 9 79 rfl (listed hall 9 (by kernel_rfl))
    have f9 := e9
    simp only [Array.getD_eq_getD_getElem?] at e9
    go_simp
    exact hK' _ _ ⟨hI.1.stepL rrgRa 10 80 rfl (by rw [hsz]; decide) _ _ rfl hall hS (fun _ _ _ h => h) rfl, hI.2.1.put rrgRa 10 80 rfl (by rw [hI.1.1.1, hsz]; decide) _ (by rw [hI.1.2.2.1.1]; exact dst_lt (show dstOf rrgOps 10 = some 80 from rfl)), (fun e => hI.2.2 (listed_set e))⟩
  · have e10 : c.tmps.getD 80 undef = .agg #[.int .i64 b, .int .i64 s] := hI.1.fact 10 80 rfl (listed hall 10 (by kernel_rfl))
    have f10 := e10
    simp only [Array.getD_eq_getD_getElem?] at e10
    have uA0 := hI.1.2.2.1.2.unlisted hl (j := 12) (by kernel_rfl)
    go_simp
    have hb2 : Below wx.heap.size wx (wx.alloc (.cells ([.int .i64 b, .int .i64 s] : List Value).toArray 56)) := (Below.refl _ _).alloc (Nat.le_refl _) _
    have hS2 := hS.alloc hBs (.cells ([.int .i64 b, .int .i64 s] : List Value).toArray 56)
    exact hK' _ _ ⟨hI.1.stepL rrgRa 11 81 rfl (by rw [hsz]; decide) _ _ rfl hall hS2 (fun j _ u h => RrgF.new h hb2) ⟨_, rfl, Holds.new _ _ _, fun e => Nat.lt_irrefl _ ((hI.2.2 uA0).lt _ e).2⟩, hI.2.1.put rrgRa 11 81 rfl (by rw [hI.1.1.1, hsz]; decide) _ (by rw [hI.1.2.2.1.1]; exact dst_lt (show dstOf rrgOps 11 = some 81 from rfl)), (fun e => row_new (hI.2.2 (listed_set e)) hb2)⟩
  · have e0 : c.tmps.getD 70 undef = v := hI.1.fact 0 70 rfl (listed hall 0 (by kernel_rfl))
    have f0 := e0
    simp only [Array.getD_eq_getD_getElem?] at e0
    obtain ⟨N, e9, hN, hNo⟩ : ∃ N, c.tmps.getD 81 undef = .slice (some ⟨N, 0, none⟩) 1 1 ∧ Holds wx N ([.int .i64 b, .int .i64 s] : List Value).toArray 56 ∧ (v : Value).ownBlock ≠ some N := hI.1.fact 11 81 rfl (listed hall 11 (by kernel_rfl))
    have g2 := hI.2.2 hl
    have uS := hI.1.2.2.1.2.unlisted hl (j := 13) (by kernel_rfl)
    obtain ⟨i0, hi, hz0, hz1, hz2⟩ := info_parts infoReg
    refine step_append_lies _ (by rfl) _ _ _ (by rfl) base 56 i0 _ 2 16 Tryz.underlying52 hi hz0 hz1 hz2 rfl (by omega) (v) m (xs) (by exact f0) g2 ⟨N, 0, none⟩ 1 1 ([.int .i64 b, .int .i64 s]) (by exact e9) (by rfl) (World.news_of_block (cs := ([.int .i64 b, .int .i64 s] : List Value).toArray) (t := 56) (fr := (0, 0)) hN) (by simp [Value.oneCell']) (by omega) (by unfold maxLen; omega) (by omega) (Nat.le_trans hbase0 hWs) wx.heap.size rfl ?_
    intro gg cap2 w8 hown8 hgrow hat hlt8
    have hS2 := hS.grown hgrow hBs (fun q hq => Nat.le_trans hrb0 (g2.lt q hq).1)
    exact hK' _ _ ⟨hI.1.stepL rrgRa 12 82 rfl (by rw [hsz]; decide) _ _ rfl hall hS2 (fun j hj u h => RrgF.grow0 h g2 hgrow (yes_no hj hl) (yes_no hj uS)) ⟨gg, cap2, rfl, hown8⟩, hI.2.1.put rrgRa 12 82 rfl (by rw [hI.1.1.1, hsz]; decide) _ (by rw [hI.1.2.2.1.1]; exact dst_lt (show dstOf rrgOps 12 = some 82 from rfl)), (fun h => absurd rfl (listed_at h (by rw [hI.1.2.2.1.1, rrgRn]; decide)))⟩
  · obtain ⟨g', c', e10, hr⟩ : ∃ g' c', c.tmps.getD 82 undef = (.slice (some ⟨g', 0, none⟩) (m + 1) c') ∧ wx.ownsRow base 56 2 (.slice (some ⟨g', 0, none⟩) (m + 1) c') (m + 1) (xs ++ ([.int .i64 b, .int .i64 s] : List Value)) := hI.1.fact 12 82 rfl (listed hall 12 (by kernel_rfl))
    simp only [Array.getD_eq_getD_getElem?] at e10
    go_simp
    exact hK' _ _ ⟨hI.1.stepL rrgRa 13 13 rfl (by rw [hsz]; decide) _ _ rfl hall hS (fun _ _ _ h => h) ⟨g', c', rfl, hr⟩, hI.2.1.put rrgRa 13 13 rfl (by rw [hI.1.1.1, hsz]; decide) _ (by rw [hI.1.2.2.1.1]; exact dst_lt (show dstOf rrgOps 13 = some 13 from rfl)), (fun e => hI.2.2 (listed_set e))⟩
end Go.Proofs.YthkoaakicdhnpaaGreat

namespace Go.Proofs.YthkoaakicdhnpaaGreat
open Go.RowKit

noncomputable def rraOps : Array Oper := (regOps (Tryz.f47.body.getD .skip) 15).getD #[]
theorem rraR : inRow2 .any rraOps = true := by kernel_rfl
theorem rraRa : apartB rraOps = true := by kernel_rfl
theorem rraRn : rraOps.size = 19 := by kernel_rfl
def RraF (g n cap i : Nat) (a b s : Int) (base m : Nat) (xs : List Value) (v : Value) (j : Nat) : Value → World → Prop := match j with
  | 0 => fun u _ => u = v
  | 1 => fun u _ => u = .slice (some ⟨g, 0, none⟩) n cap
  | 2 => fun u _ => u = .int .i64 i
  | 3 => fun u _ => u = .pointer (some ⟨g, i, none⟩)
  | 4 => fun u _ => u = .int .i64 a
  | 5 => fun u _ => u = .slice (some ⟨g, 0, none⟩) n cap
  | 6 => fun u _ => u = .int .i64 i
  | 7 => fun u _ => u = .int .i64 ((i + 1 : Nat) : Int)
  | 8 => fun u _ => u = .pointer (some ⟨g, i + 1, none⟩)
  | 9 => fun u _ => u = .int .i64 b
  | 10 => fun u _ => u = .slice (some ⟨g, 0, none⟩) n cap
  | 11 => fun u _ => u = .int .i64 i
  | 12 => fun u _ => u = .int .i64 ((i + 2 : Nat) : Int)
  | 13 => fun u _ => u = .pointer (some ⟨g, i + 2, none⟩)
  | 14 => fun u _ => u = .int .i64 s
  | 15 => fun u _ => u = .agg #[.int .i64 a, .int .i64 b, .int .i64 s]
  | 16 => fun u w => ∃ N, u = .slice (some ⟨N, 0, none⟩) 1 1 ∧ Holds w N ([.int .i64 a, .int .i64 b, .int .i64 s] : List Value).toArray 122 ∧ (v : Value).ownBlock ≠ some N
  | 17 => fun u w => ∃ g' c', u = (.slice (some ⟨g', 0, none⟩) (m + 1) c') ∧ w.ownsRow base 122 3 (.slice (some ⟨g', 0, none⟩) (m + 1) c') (m + 1) (xs ++ ([.int .i64 a, .int .i64 b, .int .i64 s] : List Value))
  | 18 => fun u w => ∃ g' c', u = (.slice (some ⟨g', 0, none⟩) (m + 1) c') ∧ w.ownsRow base 122 3 (.slice (some ⟨g', 0, none⟩) (m + 1) c') (m + 1) (xs ++ ([.int .i64 a, .int .i64 b, .int .i64 s] : List Value))
  | _ => fun _ _ => True
def RraX (_ _ _ _ : Nat) (_ _ _ : Int) (base m : Nat) (xs : List Value) (v : Value) (l : Array Bool) (w : World) : Prop := (l.getD 17 false = false → w.ownsRow base 122 3 (v) m (xs))
section
variable {g n cap i : Nat} {a b s : Int} {base m : Nat} {xs : List Value} {v : Value} {w w' : World} {j : Nat} {u : Value}
theorem RraF.new (h : RraF g n cap i a b s base m xs v j u w) (kb : Below w.heap.size w w') : RraF g n cap i a b s base m xs v j u w' := by
  unfold RraF at *
  have kk := Keeps.of_fresh kb (fun _ => False)
  split at h
  all_goals first
    | exact h
    | (obtain ⟨N, e, hN, r⟩ := h; exact ⟨N, e, hN.keeps kk (fun e => e), r⟩)
    | (obtain ⟨g', c', e, hr⟩ := h; exact ⟨g', c', e, row_new hr kb⟩)
theorem RraF.grow0 (h : RraF g n cap i a b s base m xs v j u w) (_ : w.ownsRow base 122 3 (v) m (xs)) (k : w.grownBy w' (v : Value).ownBlock) (h10 : j ≠ 17) (h12 : j ≠ 18) : RraF g n cap i a b s base m xs v j u w' := by
  unfold RraF at *
  split at h
  all_goals first
    | exact absurd rfl h10
    | exact absurd rfl h12
    | exact h
    | (obtain ⟨N, e, hN, r⟩ := h; exact ⟨N, e, hN.grown k (r), r⟩)
end

set_option maxHeartbeats 4000000 in
set_option maxRecDepth 100000 in
theorem rra_region {Q : Exit → Act → World → Prop} (g n cap i : Nat) (a b s : Int) (base m : Nat) (xs : List Value) (v : Value) (B0 : Nat) (W w : World) (A : Act) (hsz : A.tmps.size = 114) (hB0 : B0 ≤ W.heap.size) (hrb0 : B0 ≤ base) (hbase0 : base ≤ W.heap.size) (hn0 : m ≤ 1000000) (hin : i + 2 < n) (hn : n ≤ 1000000) (hgB : g < B0) (h0 : W.cell? ⟨g, i, none⟩ = some (.int .i64 a)) (h1 : W.cell? ⟨g, i + 1, none⟩ = some (.int .i64 b)) (h2 : W.cell? ⟨g, i + 2, none⟩ = some (.int .i64 s))
    (a14 : A.tmps.getD 14 undef = .slice (some ⟨g, 0, none⟩) n cap) (a17 : A.tmps.getD 17 undef = .int .i64 i) (a16 : A.tmps.getD 16 undef = v)
    (hS : Below B0 W w) (hR0 : w.ownsRow base 122 3 (v) m (xs))
    (hQ : ∀ c w' v0, SameBut rraOps A c → Below B0 W w' → c.tmps.getD 16 undef = v0 → w'.ownsRow base 122 3 v0 (m + 1) (xs ++ ([.int .i64 a, .int .i64 b, .int .i64 s] : List Value)) → Q .normal c w') :
    wpAny Tryz.prog .any rraOps Q rraOps.size (Array.replicate rraOps.size false) A w := by
  refine wpAny_inv2 (fun l c wx => RInv rraOps A (RraF g n cap i a b s base m xs v) (fun wx => Below B0 W wx) l c wx ∧ Fresh rraOps A l c ∧ RraX g n cap i a b s base m xs v l wx) rraR ?hend ?hstep _ _ _ _ (by simp) (by simp) ⟨RInv.start hS, fun _ _ _ _ => rfl, fun _ => hR0⟩
  case hend =>
    intro l c wx hI hl
    have hh : ∀ k, k < 19 → l.getD k false = true := fun k hk => hl k (by rw [rraRn]; exact hk)
    obtain ⟨g0, c0, h0, r0⟩ : ∃ g' c', c.tmps.getD 16 undef = (.slice (some ⟨g', 0, none⟩) (m + 1) c') ∧ wx.ownsRow base 122 3 (.slice (some ⟨g', 0, none⟩) (m + 1) c') (m + 1) (xs ++ ([.int .i64 a, .int .i64 b, .int .i64 s] : List Value)) := hI.1.fact 18 16 rfl (hh 18 (by decide))
    exact hQ c wx _ hI.1.1 hI.1.2.1 h0 r0 
  intro l c wx hI i' op ho hl hall K' hK'
  have hi13 : i' < 19 := by rw [← rraRn]; exact (Array.getElem?_eq_some_iff.1 ho).1
  simp only [rraOps, regOps, Tryz.f47, Option.getD_some, reduceIte, Nat.reduceEqDiff] at ho
  have hS := hI.1.2.1
  have hBs : B0 ≤ wx.heap.size := Nat.le_trans hB0 hS.size
  have hWs : W.heap.size ≤ wx.heap.size := hS.size
  have s14 := (hI.1.slot 14 (by kernel_rfl)).trans a14
  have s17 := (hI.1.slot 17 (by kernel_rfl)).trans a17
  simp only [Array.getD_eq_getD_getElem?] at s14 s17
  have q0 : i < n := by omega
  have u1 : (0 : Int) ≤ (i : Int) + 1 := by omega
  have v1 : (i : Int) + 1 < (n : Int) := by omega
  have n1 : ((i : Int) + 1).toNat = i + 1 := by omega
  have u2 : (0 : Int) ≤ (i : Int) + 2 := by omega
  have v2 : (i : Int) + 2 < (n : Int) := by omega
  have n2 : ((i : Int) + 2).toNat = i + 2 := by omega
  have w1 : IntKind.i64.wrap ((i : Int) + 1) = ((i + 1 : Nat) : Int) := by rw [show ((i + 1 : Nat) : Int) = (i : Int) + 1 from by omega]; exact IntWalk.i64_in _ (by omega)
  have w2 : IntKind.i64.wrap ((i : Int) + 2) = ((i + 2 : Nat) : Int) := by rw [show ((i + 2 : Nat) : Int) = (i : Int) + 2 from by omega]; exact IntWalk.i64_in _ (by omega)
  have hic : i' = 0 ∨ i' = 1 ∨ i' = 2 ∨ i' = 3 ∨ i' = 4 ∨ i' = 5 ∨ i' = 6 ∨ i' = 7 ∨ i' = 8 ∨ i' = 9 ∨ i' = 10 ∨ i' = 11 ∨ i' = 12 ∨ i' = 13 ∨ i' = 14 ∨ i' = 15 ∨ i' = 16 ∨ i' = 17 ∨ i' = 18 := by omega
  rcases hic with rfl | rfl | rfl | rfl | rfl | rfl | rfl | rfl | rfl | rfl | rfl | rfl | rfl | rfl | rfl | rfl | rfl | rfl | rfl
  all_goals cases ho
  · have so := (hI.2.1 18 16 rfl (hI.1.2.2.1.2.unlisted (hI.1.2.2.1.2.unlisted hl (j := 17) (by kernel_rfl)) (j := 18) (by kernel_rfl))).trans a16
    simp only [Array.getD_eq_getD_getElem?] at so
    go_simp
    exact hK' _ _ ⟨hI.1.stepL rraRa 0 95 rfl (by rw [hsz]; decide) _ _ rfl hall hS (fun _ _ _ h => h) rfl, hI.2.1.put rraRa 0 95 rfl (by rw [hI.1.1.1, hsz]; decide) _ (by rw [hI.1.2.2.1.1]; exact dst_lt (show dstOf rraOps 0 = some 95 from rfl)), (fun e => hI.2.2 (listed_set e))⟩
  · go_simp
    exact hK' _ _ ⟨hI.1.stepL rraRa 1 96 rfl (by rw [hsz]; decide) _ _ rfl hall hS (fun _ _ _ h => h) rfl, hI.2.1.put rraRa 1 96 rfl (by rw [hI.1.1.1, hsz]; decide) _ (by rw [hI.1.2.2.1.1]; exact dst_lt (show dstOf rraOps 1 = some 96 from rfl)), (fun e => hI.2.2 (listed_set e))⟩
  · go_simp
    exact hK' _ _ ⟨hI.1.stepL rraRa 2 97 rfl (by rw [hsz]; decide) _ _ rfl hall hS (fun _ _ _ h => h) rfl, hI.2.1.put rraRa 2 97 rfl (by rw [hI.1.1.1, hsz]; decide) _ (by rw [hI.1.2.2.1.1]; exact dst_lt (show dstOf rraOps 2 = some 97 from rfl)), (fun e => hI.2.2 (listed_set e))⟩
  · have e1 : c.tmps.getD 96 undef = .slice (some ⟨g, 0, none⟩) n cap := hI.1.fact 1 96 rfl (listed hall 1 (by kernel_rfl))
    have f1 := e1
    simp only [Array.getD_eq_getD_getElem?] at e1
    have e2 : c.tmps.getD 97 undef = .int .i64 i := hI.1.fact 2 97 rfl (listed hall 2 (by kernel_rfl))
    have f2 := e2
    simp only [Array.getD_eq_getD_getElem?] at e2
    go_simp
    exact hK' _ _ ⟨hI.1.stepL rraRa 3 98 rfl (by rw [hsz]; decide) _ _ rfl hall hS (fun _ _ _ h => h) rfl, hI.2.1.put rraRa 3 98 rfl (by rw [hI.1.1.1, hsz]; decide) _ (by rw [hI.1.2.2.1.1]; exact dst_lt (show dstOf rraOps 3 = some 98 from rfl)), (fun e => hI.2.2 (listed_set e))⟩
  · have e3 : c.tmps.getD 98 undef = .pointer (some ⟨g, i, none⟩) := hI.1.fact 3 98 rfl (listed hall 3 (by kernel_rfl))
    have f3 := e3
    simp only [Array.getD_eq_getD_getElem?] at e3
    have x0 := (hS.cell (p := ⟨g, i, none⟩) hgB).trans h0
    go_simp
    exact hK' _ _ ⟨hI.1.stepL rraRa 4 99 rfl (by rw [hsz]; decide) _ _ rfl hall hS (fun _ _ _ h => h) rfl, hI.2.1.put rraRa 4 99 rfl (by rw [hI.1.1.1, hsz]; decide) _ (by rw [hI.1.2.2.1.1]; exact dst_lt (show dstOf rraOps 4 = some 99 from rfl)), (fun e => hI.2.2 (listed_set e))⟩
  · go_simp
    exact hK' _ _ ⟨hI.1.stepL rraRa 5 100 rfl (by rw [hsz]; decide) _ _ rfl hall hS (fun _ _ _ h => h) rfl, hI.2.1.put rraRa 5 100 rfl (by rw [hI.1.1.1, hsz]; decide) _ (by rw [hI.1.2.2.1.1]; exact dst_lt (show dstOf rraOps 5 = some 100 from rfl)), (fun e => hI.2.2 (listed_set e))⟩
  · go_simp
    exact hK' _ _ ⟨hI.1.stepL rraRa 6 101 rfl (by rw [hsz]; decide) _ _ rfl hall hS (fun _ _ _ h => h) rfl, hI.2.1.put rraRa 6 101 rfl (by rw [hI.1.1.1, hsz]; decide) _ (by rw [hI.1.2.2.1.1]; exact dst_lt (show dstOf rraOps 6 = some 101 from rfl)), (fun e => hI.2.2 (listed_set e))⟩
  · have e6 : c.tmps.getD 101 undef = .int .i64 i := hI.1.fact 6 101 rfl (listed hall 6 (by kernel_rfl))
    have f6 := e6
    simp only [Array.getD_eq_getD_getElem?] at e6
    go_simp
    exact hK' _ _ ⟨hI.1.stepL rraRa 7 102 rfl (by rw [hsz]; decide) _ _ rfl hall hS (fun _ _ _ h => h) rfl, hI.2.1.put rraRa 7 102 rfl (by rw [hI.1.1.1, hsz]; decide) _ (by rw [hI.1.2.2.1.1]; exact dst_lt (show dstOf rraOps 7 = some 102 from rfl)), (fun e => hI.2.2 (listed_set e))⟩
  · have e5 : c.tmps.getD 100 undef = .slice (some ⟨g, 0, none⟩) n cap := hI.1.fact 5 100 rfl (listed hall 5 (by kernel_rfl))
    have f5 := e5
    simp only [Array.getD_eq_getD_getElem?] at e5
    have e7 : c.tmps.getD 102 undef = .int .i64 ((i + 1 : Nat) : Int) := hI.1.fact 7 102 rfl (listed hall 7 (by kernel_rfl))
    have f7 := e7
    simp only [Array.getD_eq_getD_getElem?] at e7
    go_simp
    exact hK' _ _ ⟨hI.1.stepL rraRa 8 103 rfl (by rw [hsz]; decide) _ _ rfl hall hS (fun _ _ _ h => h) rfl, hI.2.1.put rraRa 8 103 rfl (by rw [hI.1.1.1, hsz]; decide) _ (by rw [hI.1.2.2.1.1]; exact dst_lt (show dstOf rraOps 8 = some 103 from rfl)), (fun e => hI.2.2 (listed_set e))⟩
  · have e8 : c.tmps.getD 103 undef = .pointer (some ⟨g, i + 1, none⟩) := hI.1.fact 8 103 rfl (listed hall 8 (by kernel_rfl))
    have f8 := e8
    simp only [Array.getD_eq_getD_getElem?] at e8
    have x1 := (hS.cell (p := ⟨g, i + 1, none⟩) hgB).trans h1
    go_simp
    exact hK' _ _ ⟨hI.1.stepL rraRa 9 104 rfl (by rw [hsz]; decide) _ _ rfl hall hS (fun _ _ _ h => h) rfl, hI.2.1.put rraRa 9 104 rfl (by rw [hI.1.1.1, hsz]; decide) _ (by rw [hI.1.2.2.1.1]; exact dst_lt (show dstOf rraOps 9 = some 104 from rfl)), (fun e => hI.2.2 (listed_set e))⟩
  · go_simp
    exact hK' _ _ ⟨hI.1.stepL rraRa 10 105 rfl (by rw [hsz]; decide) _ _ rfl hall hS (fun _ _ _ h => h) rfl, hI.2.1.put rraRa 10 105 rfl (by rw [hI.1.1.1, hsz]; decide) _ (by rw [hI.1.2.2.1.1]; exact dst_lt (show dstOf rraOps 10 = some 105 from rfl)), (fun e => hI.2.2 (listed_set e))⟩
  · go_simp
    exact hK' _ _ ⟨hI.1.stepL rraRa 11 106 rfl (by rw [hsz]; decide) _ _ rfl hall hS (fun _ _ _ h => h) rfl, hI.2.1.put rraRa 11 106 rfl (by rw [hI.1.1.1, hsz]; decide) _ (by rw [hI.1.2.2.1.1]; exact dst_lt (show dstOf rraOps 11 = some 106 from rfl)), (fun e => hI.2.2 (listed_set e))⟩
  · have e11 : c.tmps.getD 106 undef = .int .i64 i := hI.1.fact 11 106 rfl (listed hall 11 (by kernel_rfl))
    have f11 := e11
    simp only [Array.getD_eq_getD_getElem?] at e11
    go_simp
    exact hK' _ _ ⟨hI.1.stepL rraRa 12 107 rfl (by rw [hsz]; decide) _ _ rfl hall hS (fun _ _ _ h => h) rfl, hI.2.1.put rraRa 12 107 rfl (by rw [hI.1.1.1, hsz]; decide) _ (by rw [hI.1.2.2.1.1]; exact dst_lt (show dstOf rraOps 12 = some 107 from rfl)), (fun e => hI.2.2 (listed_set e))⟩
  · have e10 : c.tmps.getD 105 undef = .slice (some ⟨g, 0, none⟩) n cap := hI.1.fact 10 105 rfl (listed hall 10 (by kernel_rfl))
    have f10 := e10
    simp only [Array.getD_eq_getD_getElem?] at e10
    have e12 : c.tmps.getD 107 undef = .int .i64 ((i + 2 : Nat) : Int) := hI.1.fact 12 107 rfl (listed hall 12 (by kernel_rfl))
    have f12 := e12
    simp only [Array.getD_eq_getD_getElem?] at e12
    go_simp
    exact hK' _ _ ⟨hI.1.stepL rraRa 13 108 rfl (by rw [hsz]; decide) _ _ rfl hall hS (fun _ _ _ h => h) rfl, hI.2.1.put rraRa 13 108 rfl (by rw [hI.1.1.1, hsz]; decide) _ (by rw [hI.1.2.2.1.1]; exact dst_lt (show dstOf rraOps 13 = some 108 from rfl)), (fun e => hI.2.2 (listed_set e))⟩
  · have e13 : c.tmps.getD 108 undef = .pointer (some ⟨g, i + 2, none⟩) := hI.1.fact 13 108 rfl (listed hall 13 (by kernel_rfl))
    have f13 := e13
    simp only [Array.getD_eq_getD_getElem?] at e13
    have x2 := (hS.cell (p := ⟨g, i + 2, none⟩) hgB).trans h2
    go_simp
    exact hK' _ _ ⟨hI.1.stepL rraRa 14 109 rfl (by rw [hsz]; decide) _ _ rfl hall hS (fun _ _ _ h => h) rfl, hI.2.1.put rraRa 14 109 rfl (by rw [hI.1.1.1, hsz]; decide) _ (by rw [hI.1.2.2.1.1]; exact dst_lt (show dstOf rraOps 14 = some 109 from rfl)), (fun e => hI.2.2 (listed_set e))⟩
  · have e4 : c.tmps.getD 99 undef = .int .i64 a := hI.1.fact 4 99 rfl (listed hall 4 (by kernel_rfl))
    have f4 := e4
    simp only [Array.getD_eq_getD_getElem?] at e4
    have e9 : c.tmps.getD 104 undef = .int .i64 b := hI.1.fact 9 104 rfl (listed hall 9 (by kernel_rfl))
    have f9 := e9
    simp only [Array.getD_eq_getD_getElem?] at e9
    have e14 : c.tmps.getD 109 undef = .int .i64 s := hI.1.fact 14 109 rfl (listed hall 14 (by kernel_rfl))
    have f14 := e14
    simp only [Array.getD_eq_getD_getElem?] at e14
    go_simp
    exact hK' _ _ ⟨hI.1.stepL rraRa 15 110 rfl (by rw [hsz]; decide) _ _ rfl hall hS (fun _ _ _ h => h) rfl, hI.2.1.put rraRa 15 110 rfl (by rw [hI.1.1.1, hsz]; decide) _ (by rw [hI.1.2.2.1.1]; exact dst_lt (show dstOf rraOps 15 = some 110 from rfl)), (fun e => hI.2.2 (listed_set e))⟩
  · have e15 : c.tmps.getD 110 undef = .agg #[.int .i64 a, .int .i64 b, .int .i64 s] := hI.1.fact 15 110 rfl (listed hall 15 (by kernel_rfl))
    have f15 := e15
    simp only [Array.getD_eq_getD_getElem?] at e15
    have uA0 := hI.1.2.2.1.2.unlisted hl (j := 17) (by kernel_rfl)
    go_simp
    have hb2 : Below wx.heap.size wx (wx.alloc (.cells ([.int .i64 a, .int .i64 b, .int .i64 s] : List Value).toArray 122)) := (Below.refl _ _).alloc (Nat.le_refl _) _
    have hS2 := hS.alloc hBs (.cells ([.int .i64 a, .int .i64 b, .int .i64 s] : List Value).toArray 122)
    exact hK' _ _ ⟨hI.1.stepL rraRa 16 111 rfl (by rw [hsz]; decide) _ _ rfl hall hS2 (fun j _ u h => RraF.new h hb2) ⟨_, rfl, Holds.new _ _ _, fun e => Nat.lt_irrefl _ ((hI.2.2 uA0).lt _ e).2⟩, hI.2.1.put rraRa 16 111 rfl (by rw [hI.1.1.1, hsz]; decide) _ (by rw [hI.1.2.2.1.1]; exact dst_lt (show dstOf rraOps 16 = some 111 from rfl)), (fun e => row_new (hI.2.2 (listed_set e)) hb2)⟩
  · have e0 : c.tmps.getD 95 undef = v := hI.1.fact 0 95 rfl (listed hall 0 (by kernel_rfl))
    have f0 := e0
    simp only [Array.getD_eq_getD_getElem?] at e0
    obtain ⟨N, e9, hN, hNo⟩ : ∃ N, c.tmps.getD 111 undef = .slice (some ⟨N, 0, none⟩) 1 1 ∧ Holds wx N ([.int .i64 a, .int .i64 b, .int .i64 s] : List Value).toArray 122 ∧ (v : Value).ownBlock ≠ some N := hI.1.fact 16 111 rfl (listed hall 16 (by kernel_rfl))
    have g2 := hI.2.2 hl
    have uS := hI.1.2.2.1.2.unlisted hl (j := 18) (by kernel_rfl)
    obtain ⟨i0, hi, hz0, hz1, hz2⟩ := info_parts infoTri
    refine step_append_lies _ (by rfl) _ _ _ (by rfl) base 122 i0 _ 3 24 Tryz.underlying84 hi hz0 hz1 hz2 rfl (by omega) (v) m (xs) (by exact f0) g2 ⟨N, 0, none⟩ 1 1 ([.int .i64 a, .int .i64 b, .int .i64 s]) (by exact e9) (by rfl) (World.news_of_block (cs := ([.int .i64 a, .int .i64 b, .int .i64 s] : List Value).toArray) (t := 122) (fr := (0, 0)) hN) (by simp [Value.oneCell']) (by omega) (by unfold maxLen; omega) (by omega) (Nat.le_trans hbase0 hWs) wx.heap.size rfl ?_
    intro gg cap2 w8 hown8 hgrow hat hlt8
    have hS2 := hS.grown hgrow hBs (fun q hq => Nat.le_trans hrb0 (g2.lt q hq).1)
    exact hK' _ _ ⟨hI.1.stepL rraRa 17 112 rfl (by rw [hsz]; decide) _ _ rfl hall hS2 (fun j hj u h => RraF.grow0 h g2 hgrow (yes_no hj hl) (yes_no hj uS)) ⟨gg, cap2, rfl, hown8⟩, hI.2.1.put rraRa 17 112 rfl (by rw [hI.1.1.1, hsz]; decide) _ (by rw [hI.1.2.2.1.1]; exact dst_lt (show dstOf rraOps 17 = some 112 from rfl)), (fun h => absurd rfl (listed_at h (by rw [hI.1.2.2.1.1, rraRn]; decide)))⟩
  · obtain ⟨g', c', e10, hr⟩ : ∃ g' c', c.tmps.getD 112 undef = (.slice (some ⟨g', 0, none⟩) (m + 1) c') ∧ wx.ownsRow base 122 3 (.slice (some ⟨g', 0, none⟩) (m + 1) c') (m + 1) (xs ++ ([.int .i64 a, .int .i64 b, .int .i64 s] : List Value)) := hI.1.fact 17 112 rfl (listed hall 17 (by kernel_rfl))
    simp only [Array.getD_eq_getD_getElem?] at e10
    go_simp
    exact hK' _ _ ⟨hI.1.stepL rraRa 18 16 rfl (by rw [hsz]; decide) _ _ rfl hall hS (fun _ _ _ h => h) ⟨g', c', rfl, hr⟩, hI.2.1.put rraRa 18 16 rfl (by rw [hI.1.1.1, hsz]; decide) _ (by rw [hI.1.2.2.1.1]; exact dst_lt (show dstOf rraOps 18 = some 16 from rfl)), (fun e => hI.2.2 (listed_set e))⟩
end Go.Proofs.YthkoaakicdhnpaaGreat

namespace Go.Proofs.YthkoaakicdhnpaaGreat
open Go.RowKit

theorem checkF_all (T : List NodeT) : ∀ (f k : Nat), (aCheckF T f k).2 = 0 → ∀ j, k ≤ j → j < k + f → nodeErr T j = 0 := by
  intro f
  induction f with
  | zero => intro k _ j h1 h2; omega
  | succ f ih =>
    intro k h j h1 h2
    unfold aCheckF at h
    by_cases he : nodeErr T k ≠ 0
    · rw [if_pos he] at h; exact absurd h he
    · rw [if_neg he] at h
      by_cases e : j = k
      · subst e; simpa using he
      · exact ih (k + 1) h j (by omega) (by omega)
theorem check_all {T : List NodeT} (h : (aCheckT T).2 = 0) (j : Nat) (hj : j < T.length) : nodeErr T j = 0 := by
  have h1 := aCheck_ok h
  unfold aCheckT at h
  rw [if_neg (by simpa using h1)] at h
  exact checkF_all T T.length 0 h j (Nat.zero_le _) (by omega)
theorem begin_in {T : List NodeT} (h : (aCheckT T).2 = 0) (j : Nat) (hj : j < T.length) : beginT T j = 0 := by
  unfold beginT
  rw [if_neg (by simpa using aCheck_ok h), if_neg (by omega)]
theorem aRegions_in {T : List NodeT} (h : (aCheckT T).2 = 0) (j : Nat) (hj : j < T.length) : aRegionsT T j = ((regionsT T j).1, 0) := by
  have h1 := check_all h j hj
  have h2 : (regionsT T j).2 = 0 := by
    unfold nodeErr at h1
    by_cases a : (pairT T j).2.2 ≠ 0
    · rw [if_pos a] at h1; exact absurd h1 a
    · rw [if_neg a] at h1
      by_cases b : (regionsT T j).2 ≠ 0
      · rw [if_pos b] at h1; exact absurd h1 b
      · simpa using b
  unfold aRegionsT
  rw [if_neg (by simp [begin_in h j hj]), Int.toNat_natCast]
  exact Prod.ext rfl h2
theorem aTrans_in {T : List NodeT} (h : (aCheckT T).2 = 0) (j k : Nat) (hj : j < T.length) (hk : k < (regionsT T j).1.length) : aTransT T j k = atRegion T j ((regionsT T j).1[k]) := by
  unfold aTransT
  rw [if_neg (by simpa using h), if_neg (by omega), if_neg (by rw [Int.toNat_natCast]; omega), Int.toNat_natCast, Int.toNat_natCast]
  simp [hk]
theorem atRegion_err (T : List NodeT) (j : Nat) (p : Int × Int) (h : (atRegion T j p).2 ≠ 0) : (atRegion T j p).2 = 27 := by
  unfold atRegion at *
  split at h
  · exact absurd rfl h
  · rename_i h2; rw [if_neg h2]
theorem atRegion_size (T : List NodeT) (j : Nat) (p : Int × Int) (h : (atRegion T j p).2 = 0) : (atRegion T j p).1.2 = p.2 := by
  unfold atRegion at *
  split at h
  · rename_i h2
    rw [if_pos h2]
    unfold translateT at *
    cases e : transF T p.2 T.length (parOf T j) p.1 with
    | none => rw [e] at h2; simp [transE] at h2
    | some b => simp [transE]
  · cases h
theorem atRegion_top (T : List NodeT) (j : Nat) (p : Int × Int) (h : parOf T j = 0) (h0 : 0 < T.length) : atRegion T j p = (p, 0) := by
  obtain ⟨n, hn⟩ : ∃ n, T.length = n + 1 := ⟨T.length - 1, by omega⟩
  have : translateT T j p.1 p.2 = (p, true) := by
    unfold translateT
    rw [h, hn]
    simp [transF, transE]
  unfold atRegion
  rw [this]; simp

theorem owns_len {w : World} {base : Nat} {e : TypeId} {size : Nat} {v : Value} {n : Nat} {xs : List Value} (h : w.ownsRow base e size v n xs) : n ≤ 9223372036854775807 := by
  rcases h.2 with ⟨_, rfl⟩ | ⟨g, cap, cur, rfl, _, _, h2, h3, _⟩
  · exact Nat.zero_le _
  · unfold maxLen at h3; omega
end Go.Proofs.YthkoaakicdhnpaaGreat
