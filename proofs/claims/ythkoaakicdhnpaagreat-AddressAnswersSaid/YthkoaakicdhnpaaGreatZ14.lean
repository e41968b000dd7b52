/- Contracts of bringupref11: count, Cells. | Contracts of bringupref11: numbers. | Contracts of bringupref11: regions, Regions. | Contracts of bringupref11: ranges. | Contracts of bringupref11: Check. | Contracts of bringupref11: translate. | Contracts of bringupref11: below, Overlaps. | Contracts of bringupref11: Translate (printed by g11t.py). | The inner block of AddressAnswers: all functions at one node (printed by gans.py). -/
import Derived.Test.YthkoaakicdhnpaaGreatZ10
import Derived.Test.YthkoaakicdhnpaaGreatZ8
import Derived.Test.YthkoaakicdhnpaaGreatZ12
import Derived.Test.YthkoaakicdhnpaaGreatZ11
import Derived.Test.YthkoaakicdhnpaaGreatZ13
import Derived.Test.YthkoaakicdhnpaaGreatZ9
import Derived.Laws.AppendOwnNone
import Derived.ArgAppend
import Derived.BigQuiet
import Derived.Test.YthkoaakicdhnpaaGreatZ15
import Derived.Test.YthkoaakicdhnpaaGreatZ3
import Derived.Test.YthkoaakicdhnpaaGreatZ2
import Derived.Deep.LoopGhost

namespace Go.Proofs.YthkoaakicdhnpaaGreat
open Go.RowKit

set_option maxRecDepth 100000 in
set_option maxHeartbeats 2000000 in
theorem ref11_count (R : Nat → Prop) (pr : Int) (nm : ByteArray) (v : Value) (ps : List PropT) (x : ByteArray) (w : World) (hP : PropsIn R w v ps) (hsz : (ofT ps x).1.size ≤ 256) :
    Calls Tryz.prog 53 #[.agg #[.int .i64 pr, .string nm, v], .string x] w fun e w' => e = .returned (.int .i64 (countV (ofT ps x)).1) ∧ Below w.heap.size w w' := by
  obtain ⟨a, cap, rfl, hc1, hc2⟩ := hP.shape
  have HP := Lib.hid hP; clear hP
  have hb0 : Below w.heap.size w (w.alloc (.cells #[.int .i64 pr, .string nm, .slice a ps.length cap] 63)) := (Below.refl _ _).alloc (Nat.le_refl _) _
  have hof := fun wx hx => ref3_Of R pr nm (.slice a ps.length cap) ps x wx hx
  generalize ofT ps x = V at hof hsz ⊢
  obtain ⟨vs, vb⟩ := V
  simp only at hof hsz
  have HOF := Lib.hid hof; clear hof
  cases vb with
  | false =>
    have hC := Lib.hid (show (countV (vs, false)).1 = 1 from rfl)
    go_enter Tryz.func53, Tryz.ntmps53
    go_wp2_with fail
    refine (HOF.out _ (by exact HP.out.new hb0)).mono ?_
    rintro e w1 ⟨rfl, hb1⟩
    go_wp2_with fail
    go_ret
    exact ⟨by rw [hC.out]; rfl, hb0.trans (hb1.mono (by simp))⟩
  | true =>
    have hpc := fun wx => ref7_Cells vs wx (by omega)
    unfold CellsPost at hpc
    have hcd2 := Lib.hid (show countV (vs, true) = if cellsOkB vs = false ∨ (cellsT vs).length ≠ 1 ∨ (cellsT vs).headD 0 < 1 ∨ 2 < (cellsT vs).headD 0 then (0, false) else ((cellsT vs).headD 0, true) from rfl)
    have hbig : (cellsT vs).length ≤ 1000 := by have := cellsT_len vs; omega
    have hkb : cellsOkB vs = false → cellsT vs = [] := by intro h; unfold cellsT; rw [h]; rfl
    generalize countV (vs, true) = CV at hcd2 ⊢
    generalize cellsT vs = l at hpc hcd2 hbig hkb
    generalize cellsOkB vs = ok at hpc hcd2 hkb
    have HPC := Lib.hid hpc; clear hpc
    have HKB := Lib.hid hkb; clear hkb
    go_enter Tryz.func53, Tryz.ntmps53
    go_wp2_with fail
    refine (HOF.out _ (by exact HP.out.new hb0)).mono ?_
    rintro e w1 ⟨rfl, hb1⟩
    have hb2 := hb0.trans (hb1.mono (by simp))
    go_wp2_with fail
    refine (HPC.out _).mono ?_
    rintro e w2 ⟨lv, rfl, hown, hb3⟩
    have hb4 : Below w.heap.size w w2 := hb2.trans (hb3.mono hb2.size)
    obtain ⟨la, lc, rfl⟩ := owns_slice hown
    by_cases h1 : l.length = 1
    · have hok : ok = true := by
        cases ok with
        | true => rfl
        | false => rw [HKB.out rfl] at h1; cases h1
      subst hok
      obtain ⟨g, cp, e1, hcp, hg1, hg2, hcell⟩ := ints_at hown (by omega)
      cases e1
      have c0 := hcell 0 (by omega)
      clear hcell
      obtain ⟨q, rfl⟩ : ∃ q, l = [q] := List.length_eq_one_iff.1 h1
      simp only [List.getElem_cons_zero] at c0
      simp only [List.length_cons, List.length_nil] at hcp
      clear h1 hown hbig
      by_cases hlo : q < 1
      · have hC := Lib.hid (show CV = (0, false) from by rw [hcd2.out, if_pos (.inr (.inr (.inl (by simpa using hlo))))])
        go_wp2_with fail
        go_ret
        exact ⟨by rw [hC.out]; rfl, hb4⟩
      · have hlo' : 1 ≤ q := by omega
        by_cases hhi : 2 < q
        · have hC := Lib.hid (show CV = (0, false) from by rw [hcd2.out, if_pos (.inr (.inr (.inr (by simpa using hhi))))])
          go_wp2_with fail
          go_ret
          exact ⟨by rw [hC.out]; rfl, hb4⟩
        · have hhi' : q ≤ 2 := by omega
          have hC := Lib.hid (show CV = (q, true) from by
            rw [hcd2.out, if_neg (by rintro (h | h | h | h); cases h; exact h rfl; simp at h; omega; simp at h; omega)]; rfl)
          go_wp2_with fail
          go_ret
          exact ⟨by rw [hC.out]; rfl, hb4⟩
    · have hlb : ((l.length : Int) != 1) = true := by rw [bne_iff_ne]; omega
      have hC := Lib.hid (show CV = (0, false) from by rw [hcd2.out, if_pos (.inr (.inl h1))])
      clear h1
      go_wp2_with fail
      go_ret
      exact ⟨by rw [hC.out]; rfl, hb4⟩
theorem countV_zero (v : ByteArray × Bool) : (countV v).2 = false ↔ (countV v).1 = 0 := by
  unfold countV
  split
  · simp
  · split
    · simp
    · rename_i h
      simp only [Bool.true_eq_false, false_iff]
      intro e
      exact h (.inr (.inr (.inl (by omega))))
theorem of_size {T : List NodeT} (hc : checkT T = 0) {k : Nat} (hk : k < T.length) (x : ByteArray) : (ofT T[k].props x).1.size ≤ 256 := by
  rw [← value_of hc hk]; exact valueT_size T (k : Int) x
theorem pair_of {T : List NodeT} (hc : checkT T = 0) {k : Nat} (hk : k < T.length) : pairT T (k : Int) = if (countV (ofT T[k].props nmAC)).1 = 0 ∨ (countV (ofT T[k].props nmSC)).1 = 0 then (0, 0, 26) else ((countV (ofT T[k].props nmAC)).1, (countV (ofT T[k].props nmSC)).1, 0) := by
  unfold pairT countT
  rw [value_of hc hk, value_of hc hk]
  simp only [countV_zero]

set_option maxRecDepth 100000 in
set_option maxHeartbeats 2000000 in
theorem ref11_Cells (R : Nat → Prop) (v : Value) (T : List NodeT) (node : Int) (w : World) (hT : NodesIn R w v T) :
    Calls Tryz.prog 21 #[.agg #[v], .int .i64 node] w fun e w' => e = .returned (.tuple #[.int .i64 (aCellsT T node).1, .int .i64 (aCellsT T node).2.1, .int .i64 (aCellsT T node).2.2]) ∧ Below w.heap.size w w' := by
  obtain ⟨a, cap, rfl, hc1, hc2⟩ := hT.shape
  have HT := Lib.hid hT; clear hT
  have hck := fun wx hx => ref3_Check R (.slice a T.length cap) T wx hx
  have hE := Lib.hid (show aCellsT T node = if beginT T node ≠ 0 then (0, 0, beginT T node) else pairT T node from rfl)
  have hb0 : Below w.heap.size w (w.alloc (.cells #[.slice a T.length cap] 25)) := (Below.refl w.heap.size w).alloc (Nat.le_refl _) _
  have hB0 := Holds.new w #[.slice a T.length cap] 25
  by_cases hc : checkT T = 0
  · rw [hc] at hck
    have HCK := Lib.hid hck; clear hck
    have HC := Lib.hid hc
    have hlen := (limits_len (check_limits hc)).2
    by_cases hn : 0 ≤ node ∧ node < T.length
    · obtain ⟨k, rfl⟩ := Int.eq_ofNat_of_zero_le hn.1
      have hk : k < T.length := by omega
      have hn1 : ¬ (k : Int) < 0 := by omega
      have hn2 : ¬ (T.length : Int) ≤ (k : Int) := by omega
      have hE2 := Lib.hid (show aCellsT T (k : Int) = if (countV (ofT T[k].props nmAC)).1 = 0 ∨ (countV (ofT T[k].props nmSC)).1 = 0 then (0, 0, 26) else ((countV (ofT T[k].props nmAC)).1, (countV (ofT T[k].props nmSC)).1, 0) from by
        rw [hE.out, if_neg (by unfold beginT; rw [if_neg (by rw [hc]; simp), if_neg (by omega)]; simp), pair_of hc hk])
      have hs1 := of_size hc hk nmAC
      have hs2 := of_size hc hk nmSC
      clear hE hc hn
      go_enter Tryz.func21, Tryz.ntmps21
      go_wp2_with fail
      refine (HCK.out _ (by exact HT.out.new hb0)).mono ?_
      rintro e w1 ⟨rfl, hb1⟩
      have hb2 := hb0.trans (hb1.mono (by simp))
      have hB1 := hB0.keeps (Keeps.of_fresh hb1 (fun _ => False)) (fun e => e)
      have bx := hB1.cell 0
      have blt := hB1.lt
      have hN1 := HT.out.new hb2
      obtain ⟨g, o, pa, pc, rfl, hg, c0, c1, c2, hp, p1, p2, b0, b1, b2⟩ := hN1.at k hk
      have h1 := Lib.hid (fun wx (hx : Below w1.heap.size w1 wx) => ref11_count R T[k].parent T[k].name _ T[k].props nmAC wx (hp.new hx) hs1)
      have h2 := Lib.hid (fun wx (hx : Below w1.heap.size w1 wx) => ref11_count R T[k].parent T[k].name _ T[k].props nmSC wx (hp.new hx) hs2)
      generalize (countV (ofT T[k].props nmAC)).1 = r1 at *
      generalize (countV (ofT T[k].props nmSC)).1 = r2 at *
      generalize T[k].parent = par at *
      generalize T[k].name = nm at *
      have HB := Lib.hid hb2
      go_upto_region 6 with fail
      refine wp_region_any (by kernel_rfl) ?_
      refine wpAny_ops (ops' := rceOps) (by kernel_rfl) ?_
      refine rce_region w.heap.size g o T.length cap k par nm pa _ pc r1 r2 w1.heap.size w1 w1.drew _ rfl (Nat.le_refl _) hk blt hg bx c0 c1 c2 h1 h2 rfl rfl (Below.refl w1.heap.size w1).drew ?_
      intro c w5 hsb hb5 h8 h9
      obtain ⟨y8, y9, y24, y25, y26, y27, y28, y29, y30, y31, y32, y33, y34, y35, hcc⟩ := hsb.ex [8, 9, 24, 25, 26, 27, 28, 29, 30, 31, 32, 33, 34, 35] (by kernel_rfl)
      subst hcc
      simp only [List.setIfInBounds_toArray, List.set_cons_zero, List.set_cons_succ] at h8 h9 ⊢
      have e8 : y8 = .int .i64 r1 := h8
      have e9 : y9 = .int .i64 r2 := h9
      subst e8 e9
      have hb6 := Lib.hid (HB.out.trans (hb5.mono HB.out.size))
      clear h8 h9 hsb hb5 bx hp c0 c1 c2 hN1
      by_cases z1 : r1 = 0
      · have z1' : (r1 == 0) = true := by simp [z1]
        have hF := Lib.hid (show aCellsT T (k : Int) = (0, 0, 26) from by rw [hE2.out, if_pos (.inl z1)])
        clear z1 hE2
        go_wp2_with fail
        go_ret3
        exact ⟨by rw [hF.out]; rfl, hb6.out⟩
      · have z1' : (r1 == 0) = false := by simpa using z1
        by_cases z2 : r2 = 0
        · have z2' : (r2 == 0) = true := by simp [z2]
          have hF := Lib.hid (show aCellsT T (k : Int) = (0, 0, 26) from by rw [hE2.out, if_pos (.inr z2)])
          clear z1 z2 hE2
          go_wp2_with fail
          go_ret3
          exact ⟨by rw [hF.out]; rfl, hb6.out⟩
        · have z2' : (r2 == 0) = false := by simpa using z2
          have hF := Lib.hid (show aCellsT T (k : Int) = (r1, r2, 0) from by rw [hE2.out, if_neg (by rintro (h | h) <;> contradiction)])
          clear z1 z2 hE2
          go_wp2_with fail
          go_ret3
          exact ⟨by rw [hF.out]; rfl, hb6.out⟩
    · have hF := Lib.hid (show aCellsT T node = (0, 0, 4) from by
        have : beginT T node = 4 := by unfold beginT; rw [if_neg (by rw [hc]; simp), if_pos (by omega)]
        rw [hE.out, this]; rfl)
      clear hE hc
      go_enter Tryz.func21, Tryz.ntmps21
      go_wp2_with fail
      refine (HCK.out _ (by exact HT.out.new hb0)).mono ?_
      rintro e w1 ⟨rfl, hb1⟩
      have hb2 := hb0.trans (hb1.mono (by simp))
      have hB1 := hB0.keeps (Keeps.of_fresh hb1 (fun _ => False)) (fun e => e)
      have bx := hB1.cell 0
      have blt := hB1.lt
      by_cases hn0 : node < 0
      · go_wp2_with fail
        go_ret3
        exact ⟨by rw [hF.out]; rfl, hb2⟩
      · have hn1 : (T.length : Int) ≤ node := by omega
        go_wp2_with fail
        go_ret3
        exact ⟨by rw [hF.out]; rfl, hb2⟩
  · have hcb : (checkT T != 0) = true := by simpa using hc
    have hF := Lib.hid (show aCellsT T node = (0, 0, checkT T) from by
      have : beginT T node = checkT T := by unfold beginT; rw [if_pos hc]
      rw [hE.out, this, if_pos hc])
    clear hE hc
    generalize checkT T = c at hck hF hcb
    have HCK := Lib.hid hck; clear hck
    go_enter Tryz.func21, Tryz.ntmps21
    go_wp2_with fail
    refine (HCK.out _ (by exact HT.out.new hb0)).mono ?_
    rintro e w1 ⟨rfl, hb1⟩
    go_wp2_with fail
    go_ret3
    exact ⟨by rw [hF.out]; rfl, hb0.trans (hb1.mono (by simp))⟩
end Go.Proofs.YthkoaakicdhnpaaGreat

namespace Go.Proofs.YthkoaakicdhnpaaGreat
open Go.RowKit

/-- What is still to come: the widths left of this row, the cells left. -/
def remG (ws us l : List Int) (f : Nat) : Option (List Int) := (rowF us l).bind fun q => (rowsF ws f q.2).map fun rs => q.1 ++ rs.flatten
def remH (ws : List Int) (p : Nat) (l : List Int) (f : Nat) : Option (List Int) := if p = 0 then (rowsF ws f l).map List.flatten else remG ws (ws.drop p) l f
def remS (ws : List Int) (p : Nat) : Int := if p = 0 then 0 else sumT (ws.drop p)
theorem remG_nil (ws l : List Int) (f : Nat) : remG ws [] l f = (rowsF ws f l).map List.flatten := by
  unfold remG
  simp only [rowF, Option.bind_some, List.nil_append]
theorem remG_cons (ws : List Int) (u : Int) (t l : List Int) (f : Nat) : remG ws (u :: t) l f = if u = 2 then (if 1073741823 < l.headD 0 then none else (remG ws t (l.drop 2) f).map ((l.headD 0 * 4294967296 + l.getD 1 0) :: ·)) else (remG ws t (l.drop 1) f).map (l.headD 0 :: ·) := by
  unfold remG
  simp only [rowF]
  split
  · split
    · rfl
    · cases rowF t (l.drop 2) with
      | none => rfl
      | some q => simp only [Option.map_some, Option.bind_some, Option.map_map]; rfl
  · cases rowF t (l.drop 1) with
    | none => rfl
    | some q => simp only [Option.map_some, Option.bind_some, Option.map_map]; rfl
theorem rows_step (ws l : List Int) (f : Nat) (h : l ≠ []) : (rowsF ws (f + 1) l).map List.flatten = remG ws ws l f := by
  unfold remG
  simp only [rowsF]
  rw [if_neg h]
  cases rowF ws l with
  | none => rfl
  | some q => simp only [Option.bind_some, Option.map_map]; rfl
theorem rows_nil (ws : List Int) (f : Nat) : rowsF ws f [] = some [] := by cases f <;> rfl
/-- One number more. -/
theorem rem_step {ws : List Int} (hws : ∀ x ∈ ws, x = 1 ∨ x = 2) {p : Nat} (hp : p < ws.length) {l : List Int} {m f : Nat} (hl : l ≠ []) (hlen : (l.length : Int) = remS ws p + sumT ws * m) (hf : m ≤ f) :
    ∃ m' f', m' ≤ f' ∧ ((ws[p] = 1 → remH ws p l f = (remH ws ((p + 1) % ws.length) (l.drop 1) f').map (l.headD 0 :: ·) ∧ ((l.drop 1).length : Int) = remS ws ((p + 1) % ws.length) + sumT ws * (m' : Nat)) ∧
      (ws[p] = 2 → 2 ≤ l.length ∧ (1073741823 < l.headD 0 → remH ws p l f = none) ∧ (l.headD 0 ≤ 1073741823 → remH ws p l f = (remH ws ((p + 1) % ws.length) (l.drop 2) f').map ((l.headD 0 * 4294967296 + l.getD 1 0) :: ·) ∧ ((l.drop 2).length : Int) = remS ws ((p + 1) % ws.length) + sumT ws * (m' : Nat)))) := by
  have hl0 : 0 < l.length := List.length_pos_iff.2 hl
  -- in the middle of a row in any case
  obtain ⟨m', f', hm, hG, hS⟩ : ∃ m' f', m' ≤ f' ∧ remH ws p l f = remG ws (ws.drop p) l f' ∧ (l.length : Int) = sumT (ws.drop p) + sumT ws * (m' : Nat) := by
    by_cases h0 : p = 0
    · subst h0
      have hm1 : 1 ≤ m := by
        rcases Nat.eq_zero_or_pos m with e | e
        · exfalso; subst e; unfold remS at hlen; rw [if_pos rfl] at hlen; simp at hlen; exact hl hlen
        · exact e
      obtain ⟨f, rfl⟩ : ∃ x, f = x + 1 := ⟨f - 1, by omega⟩
      refine ⟨m - 1, f, by omega, ?_, ?_⟩
      · unfold remH; rw [if_pos rfl, List.drop_zero]; exact rows_step ws l f hl
      · rw [hlen, List.drop_zero]
        unfold remS; rw [if_pos rfl]
        rw [show ((m - 1 : Nat) : Int) = (m : Int) - 1 from by omega, Int.mul_sub]; omega
    · exact ⟨m, f, hf, by unfold remH; rw [if_neg h0], by rw [hlen]; unfold remS; rw [if_neg h0]⟩
  have hd : ws.drop p = ws[p] :: ws.drop (p + 1) := List.drop_eq_getElem_cons hp
  rw [hd, sumT_cons] at hS
  have htl : 0 ≤ sumT (ws.drop (p + 1)) := by
    have := sum_pos (ws := ws.drop (p + 1)) (fun x hx => hws x (List.mem_of_mem_drop hx)); omega
  have hall : 0 ≤ sumT ws * (m' : Int) := Int.mul_nonneg (by have := sum_pos hws; omega) (by omega)
  have hnext : ∀ r f, remG ws (ws.drop (p + 1)) r f = remH ws ((p + 1) % ws.length) r f := by
    intro r f
    by_cases e : p + 1 = ws.length
    · rw [e, Nat.mod_self, List.drop_of_length_le (Nat.le_refl _), remG_nil]; unfold remH; rw [if_pos rfl]
    · rw [Nat.mod_eq_of_lt (by omega)]; unfold remH; rw [if_neg (by omega)]
  have hnS : sumT (ws.drop (p + 1)) = remS ws ((p + 1) % ws.length) := by
    by_cases e : p + 1 = ws.length
    · rw [e, Nat.mod_self, List.drop_of_length_le (Nat.le_refl _)]; unfold remS; rw [if_pos rfl]; rfl
    · rw [Nat.mod_eq_of_lt (by omega)]; unfold remS; rw [if_neg (by omega)]
  refine ⟨m', f', hm, fun e => ?_, fun e => ?_⟩
  · rw [hG, hd, remG_cons, if_neg (by omega), hnext]
    refine ⟨rfl, ?_⟩
    rw [← hnS, List.length_drop, show ((l.length - 1 : Nat) : Int) = (l.length : Int) - 1 from by omega, hS, e]; omega
  · have h2 : 2 ≤ l.length := by
      rw [e] at hS; omega
    refine ⟨h2, fun hgt => ?_, fun hle => ?_⟩
    · rw [hG, hd, remG_cons, if_pos e, if_pos hgt]
    · rw [hG, hd, remG_cons, if_pos e, if_neg (by omega), hnext]
      refine ⟨rfl, ?_⟩
      rw [← hnS, List.length_drop, show ((l.length - 2 : Nat) : Int) = (l.length : Int) - 2 from by omega, hS, e]; omega
def NumsPost (v : ByteArray) (ws : List Int) (w : World) (e : Ending) (w' : World) : Prop :=
  ∃ rv, e = .returned (.tuple #[rv, .int .i64 (rowsT v ws).2]) ∧ w'.ownsRow w.heap.size 3 1 rv (rowsT v ws).1.flatten.length (intCells (rowsT v ws).1.flatten) ∧ Below w.heap.size w w'
theorem intCells_snoc (l : List Int) (x : Int) : intCells (l ++ [x]) = intCells l ++ [.int .i64 x] := by simp [intCells]

set_option maxRecDepth 100000 in
set_option maxHeartbeats 4000000 in
theorem ref11_numbers (v : ByteArray) (ws : List Int) (gw cw : Nat) (w : World) (hw : ∀ (i : Nat) (h : i < ws.length), w.cell? ⟨gw, i, none⟩ = some (.int .i64 ws[i])) (hws : ∀ x ∈ ws, x = 1 ∨ x = 2) (hn1 : 1 ≤ ws.length) (hn2 : ws.length ≤ 3)
    (hcw : ws.length ≤ cw) (hcw2 : cw ≤ 1000) (hv : v.size ≤ 1000) :
    Calls Tryz.prog 72 #[.string v, .slice (some ⟨gw, 0, none⟩) ws.length cw] w (NumsPost v ws w) := by
  have hsum := sum_pos hws
  have hgw : gw < w.heap.size := World.block_lt_of_cell? w _ (hw 0 hn1)
  have HW := Lib.hid hw; clear hw
  have HWS := Lib.hid hws; clear hws
  go_enter Tryz.func72, Tryz.ntmps72
  go_wp2_with fail
  go_loopg [6, 17] (ws.length) (fun f x y wr => ∃ (k : Nat) (s : Int), x = .int .i64 s ∧ y = .int .i64 k ∧ k ≤ ws.length ∧ ws.length ≤ k + f ∧ Hid (s = 4 * sumT (ws.take k)) ∧ 0 ≤ s ∧ s ≤ 8 * k ∧ w = wr)
  case atStart => exact ⟨0, 0, rfl, rfl, by omega, by omega, by simp [Hid, sumT], by omega, by omega, rfl⟩
  case round =>
    obtain ⟨k, s, rfl, rfl, hk, hf, hS, hs0, hs1, rfl⟩ := hrel
    by_cases hlt : k < ws.length
    · have hck := HW.out k hlt
      have hwk := HWS.out ws[k] (List.getElem_mem hlt)
      have hsn := Lib.hid (show sumT (ws.take (k + 1)) = sumT (ws.take k) + ws[k] from by rw [List.take_succ_eq_append_getElem hlt, sumT_snoc])
      generalize ws[k] = q at hck hwk hsn
      have hq0 : 1 ≤ q := by omega
      have hq1 : q ≤ 2 := by omega
      clear hwk
      go_wp2_with fail
      go_roundg (gk - 1)
      case measure => omega
      case rel => exact ⟨k + 1, s + 4 * q, rfl, by go_num, by omega, by omega, by show _ = _; rw [hsn.out]; have := hS.out; omega, by omega, by omega, rfl⟩
    · have hsE : s = 4 * sumT ws := by rw [hS.out, List.take_of_length_le (by omega)]
      have hs2 : 4 ≤ s := by omega
      have hs3 : s ≤ 24 := by omega
      have HSE := Lib.hid hsE
      clear hsE hS
      by_cases hmod : (v.size : Int) % s = 0
      · have hmb : (((v.size : Int) % s) != 0) = false := by rw [bne_eq_false_iff_eq]; exact hmod
        have hmod4 : (v.size : Int) % (4 * sumT ws) = 0 := by rw [← HSE.out]; exact hmod
        have hv4 : v.size % 4 = 0 := by
          have h1 : (4 * sumT ws) ∣ (v.size : Int) := Int.dvd_of_emod_eq_zero hmod4
          have h2 : (4 : Int) ∣ (v.size : Int) := Int.dvd_trans ⟨sumT ws, rfl⟩ h1
          omega
        have hlen := cellsT_eq v hv4
        have hdiv : ∃ m : Nat, ((cellsT v).length : Int) = sumT ws * m := by
          obtain ⟨m, hm⟩ := Int.dvd_of_emod_eq_zero hmod4
          have h3 : (v.size : Int) = 4 * ((cellsT v).length : Int) := by omega
          rw [h3, Int.mul_assoc] at hm
          have h4 : ((cellsT v).length : Int) = sumT ws * m := by omega
          refine ⟨m.toNat, ?_⟩
          rw [h4]
          by_cases hm0 : 0 ≤ m
          · rw [Int.toNat_of_nonneg hm0]
          · exfalso
            have : sumT ws * m < 0 := Int.mul_neg_of_pos_of_neg (by omega) (by omega)
            omega
        have hbd := cellsT_bd v
        have hR := Lib.hid (show rowsT v ws = rowsE (rowsF ws (cellsT v).length (cellsT v)) from by unfold rowsT; rw [if_neg (by rw [hmod4]; simp)])
        have hpc := fun wx => ref7_Cells v wx (by omega)
        unfold CellsPost at hpc
        generalize cellsT v = L at hlen hdiv hbd hR hpc
        generalize cellsOkB v = ok at hpc
        have HPC := Lib.hid hpc; clear hpc
        have hLl : L.length ≤ 1000 := by omega
        obtain ⟨m0, hm0⟩ := hdiv
        have hm0L : m0 ≤ L.length := by
          have : (1 : Int) * (m0 : Int) ≤ sumT ws * (m0 : Int) := Int.mul_le_mul_of_nonneg_right (by omega) (by omega)
          omega
        have HM0 := Lib.hid hm0
        have HBD := Lib.hid hbd
        have hwl0 : ((ws.length : Int) == 0) = false := by rw [beq_eq_false_iff_ne]; omega
        clear hm0 hbd hmod4 hmod hs0 hs1 hk hf hv4 hlen
        go_wp2_with fail
        refine (HPC.out _).mono ?_
        rintro e w2 ⟨lv, rfl, hown, hb2⟩
        obtain ⟨la, lc, rfl⟩ := owns_slice hown
        have hs2w := hb2.size
        have HOWN := Lib.hid hown; clear hown
        clear hmb HPC
        go_wp2_with fail
        go_loopg [12, 13, 9] (L.length) (fun f x y z wr => ∃ (k i m g : Nat) (out : List Int), x = .int .i64 k ∧ y = .int .i64 i ∧ i ≤ k ∧ k ≤ L.length ∧ L.length ≤ k + f ∧ wr.ownsRow w2.heap.size 3 1 z out.length (intCells out) ∧ Hid (out.length = i) ∧
          Hid ((rowsF ws L.length L).map List.flatten = (remH ws (i % ws.length) (L.drop k) g).map (out ++ ·)) ∧ Hid (((L.drop k).length : Int) = remS ws (i % ws.length) + sumT ws * m) ∧ m ≤ g ∧ Below w2.heap.size w2 wr)
        case atStart =>
          refine ⟨0, 0, m0, L.length, [], rfl, rfl, by omega, by omega, by omega, World.ownsRow_nil _ _ _ _, Lib.hid rfl, ?_, ?_, hm0L, Below.refl _ _⟩
          · show _ = _
            rw [Nat.zero_mod, List.drop_zero]; unfold remH; rw [if_pos rfl]; cases rowsF ws L.length L <;> simp
          · show _ = _
            rw [Nat.zero_mod, List.drop_zero]; unfold remS; rw [if_pos rfl]; have := HM0.out; omega
        case round =>
          obtain ⟨k, i, m, g, out, rfl, rfl, hik, hk1, hk2, hown, hoi, hG, hSS, hmg, hb⟩ := hrel
          obtain ⟨oa, oc, rfl⟩ := owns_slice hown
          have hbs := hb.size
          by_cases hlt : k < L.length
          · have hlt' : (k : Int) < (L.length : Int) := by omega
            obtain ⟨lg, lc', e1, _, hlg1, hlg2, hcell⟩ := ints_at HOWN.out (by omega)
            cases e1
            have hp : i % ws.length < ws.length := Nat.mod_lt _ (by omega)
            have hmodI : (i : Int) % (ws.length : Int) = ((i % ws.length : Nat) : Int) := (Int.natCast_emod i ws.length).symm
            have hne : L.drop k ≠ [] := fun e => by have := congrArg List.length e; simp at this; omega
            have hstep := rem_step HWS.out hp hne hSS.out hmg
            have hmod1 : (i % ws.length + 1) % ws.length = (i + 1) % ws.length := by rw [Nat.add_mod i 1, Nat.add_mod (i % ws.length) 1, Nat.mod_mod]
            rw [hmod1] at hstep
            obtain ⟨m', g', hmg', hst1, hst2⟩ := hstep
            have hd0 : (L.drop k).headD 0 = L[k] := by rw [List.drop_eq_getElem_cons hlt]; rfl
            have hd1 : (L.drop k).drop 1 = L.drop (k + 1) := by rw [List.drop_drop]
            have hd2 : (L.drop k).drop 2 = L.drop (k + 2) := by rw [List.drop_drop]
            rw [hd0, hd1] at hst1
            rw [hd0, hd2] at hst2
            have hc0 := (hb.cell (p := ⟨lg, k, none⟩) hlg2).trans (hcell k hlt)
            have hcw0 := ((hb2.cell (p := ⟨gw, i % ws.length, none⟩) hgw).trans (HW.out _ hp))
            have hcw1 := (hb.cell (p := ⟨gw, i % ws.length, none⟩) (by show gw < _; omega)).trans hcw0
            have hbk := HBD.out L[k] (List.getElem_mem hlt)
            have hwk := HWS.out ws[i % ws.length] (List.getElem_mem hp)
            have HST1 := Lib.hid hst1
            have HST2 := Lib.hid hst2
            have hpI : (i : Int) % (ws.length : Int) < (ws.length : Int) := by rw [hmodI]; omega
            have hp0I : 0 ≤ (i : Int) % (ws.length : Int) := by rw [hmodI]; omega
            have hmodN : ((i : Int) % (ws.length : Int)).toNat = i % ws.length := by rw [hmodI, Int.toNat_natCast]
            clear hmodI
            obtain ⟨i0, hi, hz0, hz1, hz2⟩ := info_parts infoInt
            have hol : out.length ≤ 1000 := by have := hoi.out; omega
            have HW2 := Lib.hid (fun (h2 : k + 1 < L.length) => (hb.cell (p := ⟨lg, k + 1, none⟩) hlg2).trans (hcell (k + 1) h2))
            clear hst1 hst2 hcell hcw0 hne hmod1 hd0 hd1 hd2
            generalize hwi : ws[i % ws.length] = wi at *
            generalize hLk : L[k] = x at *
            obtain ⟨hx0, hx1⟩ := hbk
            by_cases h2 : wi = 2
            · subst h2
              obtain ⟨hl2, hgt, hle⟩ := HST2.out rfl
              have hk2' : k + 1 < L.length := by have : (L.drop k).length = L.length - k := List.length_drop; omega
              by_cases hxg : 1073741823 < x
              · have hfin := Lib.hid (show rowsT v ws = ([], 2) from by
                  have h5 := hG.out
                  rw [hgt hxg] at h5
                  rw [hR.out]
                  cases h6 : rowsF ws L.length L with
                  | none => rfl
                  | some q => rw [h6] at h5; cases h5)
                clear hgt hle hl2 hwk
                go_wp2_with fail
                go_ret2
                exact ⟨.slice none 0 0, by rw [hfin.out]; rfl, by rw [hfin.out]; exact World.ownsRow_nil _ _ _ _, hb2.trans (hb.mono hs2w)⟩
              · have hxg' : x ≤ 1073741823 := by omega
                have hc2 := HW2.out hk2'
                have hby := HBD.out L[k + 1] (List.getElem_mem hk2')
                have hg1 : (L.drop k).getD 1 0 = L[k + 1] := by simp [List.getD, List.getElem?_drop, hk2']
                obtain ⟨hle1, hle2⟩ := hle hxg'
                rw [hg1] at hle1
                generalize hLk1 : L[k + 1] = y at *
                obtain ⟨hy0, hy1⟩ := hby
                obtain ⟨hor0, hor1⟩ := or_wide x y hx0 hxg' hy0 hy1
                have hG2 : Hid ((rowsF ws L.length L).map List.flatten = (remH ws ((i + 1) % ws.length) (L.drop (k + 2)) g').map ((out ++ [x * 4294967296 + y]) ++ ·)) := by
                  show _ = _
                  rw [hG.out, hle1, Option.map_map]
                  congr 1
                  funext z
                  simp
                have HLE2 := Lib.hid hle2
                have hk1I : (k : Int) + 1 < (L.length : Int) := by omega
                have hrow : x * 4294967296 + y ≤ 4611686018427387903 := by omega
                clear hgt hle hl2 hwk hle1 hle2 hg1 hG
                go_wp2_with (at_builtin; refine wpList_append_own _ rfl (.tmp 67) (.tmp 69) 22 rfl w2.heap.size 3 i0 (.int .i64 0) 1 8 Tryz.underlying22 hi hz0 hz1 hz2 rfl (by decide) (.slice oa out.length oc) out.length (intCells out) rfl (by exact hown.alloc _) ⟨wr.heap.size, 0, none⟩ 1 1 [.int .i64 (x * 4294967296 + y)] rfl rfl ?c1 ?c2 ?c3 ?c4 ?c5 ?_)
                case c2 => rfl
                case c3 => unfold maxLen; omega
                case c4 => omega
                case c5 => omega
                intro v' w6 hown' hgrow _
                have hb6 := (hb.alloc hbs (.cells #[.int .i64 (x * 4294967296 + y)] 3)).grown hgrow (by simp; omega) (fun q hq => (hown.lt q hq).1)
                clear hgrow
                go_wp2_with fail
                go_roundg (gk - 2)
                case measure => omega
                case rel => exact ⟨k + 2, i + 1, m', g', out ++ [x * 4294967296 + y], by go_num, by go_num, by omega, by omega, by omega, by rw [intCells_snoc, List.length_append]; exact hown', Lib.hid (by rw [List.length_append, hoi.out]; rfl), hG2, HLE2, hmg', hb6⟩
            · have h1 : wi = 1 := by omega
              subst h1
              obtain ⟨hst, hsl⟩ := HST1.out rfl
              have hG2 : Hid ((rowsF ws L.length L).map List.flatten = (remH ws ((i + 1) % ws.length) (L.drop (k + 1)) g').map ((out ++ [x]) ++ ·)) := by
                show _ = _
                rw [hG.out, hst, Option.map_map]
                congr 1
                funext z
                simp
              have HSL := Lib.hid hsl
              clear hst hsl hG h2 hwk
              go_wp2_with (at_builtin; refine wpList_append_own _ rfl (.tmp 67) (.tmp 69) 22 rfl w2.heap.size 3 i0 (.int .i64 0) 1 8 Tryz.underlying22 hi hz0 hz1 hz2 rfl (by decide) (.slice oa out.length oc) out.length (intCells out) rfl (by exact hown.alloc _) ⟨wr.heap.size, 0, none⟩ 1 1 [.int .i64 x] rfl rfl ?d1 ?d2 ?d3 ?d4 ?d5 ?_)
              case d2 => rfl
              case d3 => unfold maxLen; omega
              case d4 => omega
              case d5 => omega
              intro v' w6 hown' hgrow _
              have hb6 := (hb.alloc hbs (.cells #[.int .i64 x] 3)).grown hgrow (by simp; omega) (fun q hq => (hown.lt q hq).1)
              clear hgrow
              go_wp2_with fail
              go_roundg (gk - 1)
              case measure => omega
              case rel => exact ⟨k + 1, i + 1, m', g', out ++ [x], by go_num, by go_num, by omega, by omega, by omega, by rw [intCells_snoc, List.length_append]; exact hown', Lib.hid (by rw [List.length_append, hoi.out]; rfl), hG2, HSL, hmg', hb6⟩
          · have hlt' : ¬ (k : Int) < (L.length : Int) := by omega
            have hfin := Lib.hid (show (rowsT v ws).2 = 0 ∧ (rowsT v ws).1.flatten = out from by
              have h5 := hG.out
              have h7 := hSS.out
              have hdn : L.drop k = [] := List.drop_eq_nil_of_le (by omega)
              have hi0 : i % ws.length = 0 := by
                by_cases e : i % ws.length = 0
                · exact e
                · exfalso
                  rw [hdn] at h7
                  unfold remS at h7
                  rw [if_neg e] at h7
                  have hp := Nat.mod_lt i (show 0 < ws.length by omega)
                  have hq := sum_pos (ws := ws.drop (i % ws.length)) (fun x hx => HWS.out x (List.mem_of_mem_drop hx))
                  rw [List.length_drop] at hq
                  have : 0 ≤ sumT ws * (m : Int) := Int.mul_nonneg (by omega) (by omega)
                  simp at h7
                  omega
              rw [hi0, hdn] at h5
              unfold remH at h5
              rw [if_pos rfl, rows_nil] at h5
              rw [hR.out]
              cases h6 : rowsF ws L.length L with
              | none => rw [h6] at h5; cases h5
              | some q =>
                rw [h6] at h5
                simp at h5
                exact ⟨rfl, by rw [← h5]; rfl⟩)
            go_wp2_with fail
            go_ret2
            exact ⟨_, by rw [hfin.out.1]; rfl, by rw [hfin.out.2]; exact ownsRow_base' hown hs2w, hb2.trans (hb.mono hs2w)⟩
      · have hmb : (((v.size : Int) % s) != 0) = true := by rw [bne_iff_ne]; exact hmod
        have hfin := Lib.hid (show rowsT v ws = ([], 26) from by unfold rowsT; rw [if_pos (by rw [← HSE.out]; exact hmod)])
        clear hmod
        go_wp2_with fail
        go_ret2
        exact ⟨.slice none 0 0, by rw [hfin.out]; rfl, by rw [hfin.out]; exact World.ownsRow_nil _ _ _ _, Below.refl _ _⟩
end Go.Proofs.YthkoaakicdhnpaaGreat

namespace Go.Proofs.YthkoaakicdhnpaaGreat
open Go.RowKit

theorem flat_get {m : Nat} : ∀ (rs : List (List Int)), (∀ r ∈ rs, r.length = m) → ∀ (j i : Nat) (hj : j < rs.length), i < m → rs.flatten[j * m + i]? = rs[j][i]? := by
  intro rs
  induction rs with
  | nil => intro _ j i hj; simp at hj
  | cons r rs ih =>
    intro h j i hj hi
    have hr := h r (by simp)
    rw [List.flatten_cons]
    cases j with
    | zero => rw [List.getElem?_append_left (by omega)]; simp
    | succ j =>
      rw [List.getElem?_append_right (by rw [Nat.succ_mul]; omega)]
      have := ih (fun q hq => h q (by simp [hq])) j i (by simpa using hj) hi
      rw [show (j + 1) * m + i - r.length = j * m + i from by rw [Nat.succ_mul]; omega]
      simpa using this
theorem flat_len {m : Nat} : ∀ (rs : List (List Int)), (∀ r ∈ rs, r.length = m) → rs.flatten.length = rs.length * m := by
  intro rs
  induction rs with
  | nil => intro _; simp
  | cons r rs ih =>
    intro h
    rw [List.flatten_cons, List.length_append, ih (fun q hq => h q (by simp [hq])), h r (by simp), List.length_cons, Nat.succ_mul]; omega

set_option maxRecDepth 100000 in
set_option maxHeartbeats 4000000 in
theorem ref11_regions (R : Nat → Prop) (v : Value) (T : List NodeT) (k : Nat) (w : World) (hT : NodesIn R w v T) (hc : checkT T = 0) (hk : k < T.length) :
    Calls Tryz.prog 46 #[.agg #[v], .int .i64 k] w (RegionsPost T k w) := by
  obtain ⟨a, cap, rfl, hc1, hc2⟩ := hT.shape
  have HT := Lib.hid hT; clear hT
  by_cases hk0 : k = 0
  · have hkb : ((k : Int) == 0) = true := by simp [hk0]
    have hE := Lib.hid (show regionsT T k = ([], 0) from by unfold regionsT; rw [if_pos hk0])
    clear hk0 hc
    go_enter Tryz.func46, Tryz.ntmps46
    go_wp2_with fail
    go_ret2
    exact ⟨.slice none 0 0, by rw [hE.out]; rfl, by rw [hE.out]; exact World.ownsRow_nil _ _ _ _, (Below.refl _ _).alloc (Nat.le_refl _) _⟩
  · have hkb : ((k : Int) == 0) = false := by simp; omega
    obtain ⟨g, o, pa, pc, rfl, hg, c0, c1, c2, hp, p1, p2, b0, b1, b2⟩ := HT.out.at k hk
    have hnm := check_named hc
    obtain ⟨hp0, hp1⟩ := (named_par hnm k hk).2 (by omega)
    have hlen := (limits_len (check_limits hc)).2
    have hE := Lib.hid (show regionsT T k = (if (pairT T T[k].parent).2.2 ≠ 0 then ([], (pairT T T[k].parent).2.2) else
      if (rowsT (ofT T[k].props nmReg).1 [(pairT T T[k].parent).1, (pairT T T[k].parent).2.1]).2 ≠ 0 then ([], (rowsT (ofT T[k].props nmReg).1 [(pairT T T[k].parent).1, (pairT T T[k].parent).2.1]).2)
      else regE (regF (rowsT (ofT T[k].props nmReg).1 [(pairT T T[k].parent).1, (pairT T T[k].parent).2.1]).1)) from by unfold regionsT; rw [if_neg hk0, parOf_at hk, value_of hc hk])
    have hcl := fun wx hx => ref11_Cells R (.slice (some ⟨g, o, none⟩) T.length cap) T T[k].parent wx hx
    have hbg : beginT T T[k].parent = 0 := by
      unfold beginT; rw [if_neg (by rw [hc]; simp), if_neg (by omega)]
    have hcE : aCellsT T T[k].parent = pairT T T[k].parent := by unfold aCellsT; rw [if_neg (by rw [hbg]; simp)]
    rw [hcE] at hcl
    have hpb := pairT_bd T T[k].parent
    have hvs := of_size hc hk nmReg
    have hof := fun (wx : World) hx => ref3_Of R (T[k]'hk).parent (T[k]'hk).name (.slice pa (T[k]'hk).props.length pc) (T[k]'hk).props nmReg wx hx
    generalize ofT T[k].props nmReg = V at hE hof hvs
    obtain ⟨vs, vb⟩ := V
    simp only at hof hvs
    generalize pairT T T[k].parent = C at hE hcl hpb hcE
    obtain ⟨ac, sc, ec⟩ := C
    simp only at hcl hpb
    have HCL := Lib.hid hcl; clear hcl
    unfold nmReg at hof
    have HOF := Lib.hid hof; clear hof
    generalize T[k].parent = pp at c0 b1 b2 hp0 hp1 HCL HOF hE hbg hcE
    generalize T[k].name = nm at c1 HOF
    have HP := Lib.hid hp; clear hp hc hk0 hnm hbg hcE
    have hkI : (k : Int) < (T.length : Int) := by omega
    go_enter Tryz.func46, Tryz.ntmps46
    have hb0 : Below w.heap.size w (w.alloc (.cells #[.slice (some ⟨g, o, none⟩) T.length cap] 25)) := (Below.refl w.heap.size w).alloc (Nat.le_refl _) _
    have hB0 := Holds.new w #[.slice (some ⟨g, o, none⟩) T.length cap] 25
    go_wp2_with fail
    refine (HCL.out _ (by exact HT.out.new hb0)).mono ?_
    rintro e w1 ⟨rfl, hb1⟩
    have hb2 := hb0.trans (hb1.mono (by simp))
    have hB1 := hB0.keeps (Keeps.of_fresh hb1 (fun _ => False)) (fun e => e)
    have bx := hB1.cell 0
    have blt := hB1.lt
    have hs2 := hb2.size
    by_cases hec : ec = 0
    · subst hec
      obtain ⟨ha, hs⟩ := hpb rfl
      have hrw := fun (wx : World) hw => ref11_numbers vs [ac, sc] wx.heap.size 2 (wx.alloc (.cells #[.int .i64 ac, .int .i64 sc] 3)) hw (by simp; omega) (by simp) (by simp) (by simp) (by omega) (by omega)
      have hspec := rowsT_spec vs [ac, sc]
      have hE2 := hE.out
      rw [if_neg (by simp)] at hE2
      clear hE
      unfold NumsPost at hrw
      generalize rowsT vs [ac, sc] = RW at hE2 hrw hspec
      obtain ⟨rows, er⟩ := RW
      simp only at hE2 hrw hspec
      have HE2 := Lib.hid hE2; clear hE2
      have HRW := Lib.hid hrw; clear hrw
      obtain ⟨hsp1, hsp2⟩ := hspec
      have hsp3 : ∀ r ∈ rows, r.length = 2 := fun r hr => (hsp2 r hr).1
      have hfl := flat_len rows hsp3
      have hfg := Lib.hid (flat_get rows hsp3)
      have HSP2 := Lib.hid hsp2; clear hsp2 hsp3
      generalize rows.flatten = FL at HRW hfl hfg
      have HFL := Lib.hid hfl; clear hfl
      have d0 := cell_new c0 hg hb2
      have d1 := cell_new c1 hg hb2
      have d2 := cell_new c2 hg hb2
      clear ha hs hpb c0 c1 c2
      go_wp2_with fail
      refine (HOF.out _ (by exact HP.out.new hb2)).mono ?_
      rintro e w3 ⟨rfl, hb3⟩
      have hb4 : Below w.heap.size w w3 := hb2.trans (hb3.mono hs2)
      have hs4 := hb4.size
      clear d0 d1 d2
      go_wp2_with fail
      refine (HRW.out w3 ?_).mono ?_
      · intro i hi
        have h2 : i = 0 ∨ i = 1 := by simp at hi; omega
        rcases h2 with rfl | rfl
        · exact (Holds.new w3 #[.int .i64 ac, .int .i64 sc] 3).cell 0
        · exact (Holds.new w3 #[.int .i64 ac, .int .i64 sc] 3).cell 1
      rintro e w4 ⟨rv, rfl, hRA, hb5⟩
      have hb6 : Below w.heap.size w w4 := (hb4.alloc hs4 _).trans (hb5.mono (by simp; omega))
      have hs6 := hb6.size
      by_cases her : er = 0
      · subst her
        have hF := Lib.hid (show regionsT T k = regE (regF rows) from by rw [HE2.out, if_neg (by simp)])
        have hrl : rows.length ≤ 1000 := by omega
        obtain ⟨ra, rc, rfl⟩ := owns_slice hRA
        have HRA := Lib.hid hRA; clear hRA
        clear bx blt
        go_wp2_with fail
        go_loopg [13, 14] (rows.length) (fun f x y wr => ∃ (j i : Nat) (l : List (Int × Int)), y = .int .i64 i ∧ i = j * 2 ∧ j ≤ rows.length ∧ rows.length ≤ j + f ∧ Hid (l.length = j) ∧ wr.ownsRow w4.heap.size 56 2 x l.length (pairCells l) ∧
          Hid (regF rows = (regF (rows.drop j)).map (l ++ ·)) ∧ Below w4.heap.size w4 wr)
        case atStart => exact ⟨0, 0, [], rfl, rfl, by omega, by omega, rfl, World.ownsRow_nil _ _ _ _, by show _ = _; rw [List.drop_zero]; cases regF rows <;> rfl, Below.refl _ _⟩
        case round =>
          obtain ⟨j, i, l, rfl, hij, hj, hf, hlj, hown, hG, hbw⟩ := hrel
          have hbws := hbw.size
          have hfl := HFL.out
          by_cases hjl : j < rows.length
          · have hiI : (i : Int) < (FL.length : Int) := by omega
            have hi1 : i + 1 < FL.length := by omega
            obtain ⟨hr2, hrb⟩ := HSP2.out rows[j] (List.getElem_mem hjl)
            simp only [List.length_cons, List.length_nil] at hr2
            obtain ⟨gr, cr, e1, q1, q2, q3, hcell⟩ := ints_at HRA.out (by omega)
            cases e1
            have d1 := hcell i (by omega)
            have d2 := hcell (i + 1) hi1
            have k1 : FL[i] = rows[j][0] := by
              have := hfg.out j 0 hjl (by omega)
              rw [Nat.add_zero, ← hij, List.getElem?_eq_getElem (by omega), List.getElem?_eq_getElem (by omega)] at this
              exact Option.some.inj this
            have k2 : FL[i + 1] = rows[j][1] := by
              have := hfg.out j 1 hjl (by omega)
              rw [← hij, List.getElem?_eq_getElem (by omega), List.getElem?_eq_getElem (by omega)] at this
              exact Option.some.inj this
            rw [k1] at d1
            rw [k2] at d2
            have hb0' := hrb rows[j][0] (List.getElem_mem _)
            have hb1' := hrb rows[j][1] (List.getElem_mem _)
            have hst : regF (rows.drop j) = if fitsB rows[j][0] rows[j][1] = true then (regF (rows.drop (j + 1))).map ((rows[j][0], rows[j][1]) :: ·) else none := by
              rw [List.drop_eq_getElem_cons hjl]
              simp only [regF]
              rw [show rows[j].getD 0 0 = rows[j][0] from by simp [List.getD, hr2], show rows[j].getD 1 0 = rows[j][1] from by simp [List.getD, hr2]]
            clear hrb hcell k1 k2
            generalize rows[j][0] = y0 at d1 hb0' hst
            generalize rows[j][1] = y1 at d2 hb1' hst
            obtain ⟨y00, y01⟩ := hb0'
            obtain ⟨y10, y11⟩ := hb1'
            have HST := Lib.hid hst; clear hst
            have f1 := cell_new d1 q3 hbw
            have f2 := cell_new d2 q3 hbw
            have hij2 : (i : Int) + 1 < (FL.length : Int) := by omega
            have HIJ := Lib.hid hij
            have hil : i ≤ 2000 := by omega
            have hin : i < FL.length := by omega
            have hfl3 : FL.length ≤ 2000 := by omega
            clear hij hfl
            have hlb : l.length ≤ 1000 := by have := hlj.out; omega
            by_cases hfb : 4611686018427387903 - y0 < y1
            · have hE3 := Lib.hid (show regionsT T k = ([], 2) from by rw [hF.out, hG.out, HST.out, if_neg (by unfold fitsB; simp; omega)]; rfl)
              obtain ⟨oa, oc, rfl⟩ := owns_slice hown
              go_wp2_with fail
              go_region
              go_wp2_with fail
              go_ret2
              exact ⟨.slice none 0 0, by rw [hE3.out]; rfl, by rw [hE3.out]; exact World.ownsRow_nil _ _ _ _, (hb6.trans (hbw.mono hs6)).drew⟩
            · have hfb' : ¬ (y1 > 4611686018427387903 - y0) := hfb
              have hG2 : Hid (regF rows = (regF (rows.drop (j + 1))).map ((l ++ [(y0, y1)]) ++ ·)) := by
                show _ = _
                rw [hG.out, HST.out, if_pos (by unfold fitsB; simp; omega), Option.map_map]
                congr 1
                funext z
                simp
              clear hfb
              obtain ⟨oa, oc, rfl⟩ := owns_slice hown
              go_wp2_with fail
              go_region
              have hownq : wr.drew.ownsRow w4.heap.size 56 2 (.slice oa l.length oc) l.length (pairCells l) := hown
              have hbq := hbw.drew
              go_upto_region 17 with fail
              refine wp_region_any (by kernel_rfl) ?_
              refine wpAny_ops (ops' := rrgOps) (by kernel_rfl) ?_
              refine rrg_region gr FL.length rc i y0 y1 w4.heap.size l.length (pairCells l) (.slice oa l.length oc) w4.heap.size w4 _ _ rfl (Nat.le_refl _) (Nat.le_refl _) (Nat.le_refl _) (by omega) hi1 (by omega) q3 d1 d2 rfl rfl rfl hbq.drew hownq ?_
              intro c w5 v0 hsb hb7 h13 hown5
              obtain ⟨y13, y70, y71, y72, y73, y74, y75, y76, y77, y78, y79, y80, y81, y82, hcc⟩ := hsb.ex [13, 70, 71, 72, 73, 74, 75, 76, 77, 78, 79, 80, 81, 82] (by kernel_rfl)
              subst hcc
              simp only [List.setIfInBounds_toArray, List.set_cons_zero, List.set_cons_succ] at h13 ⊢
              have e13 : y13 = v0 := h13
              subst e13
              clear hsb h13 hown hownq hbq
              go_wp2_with fail
              go_roundg (gk - 1)
              case measure => omega
              case rel => exact ⟨j + 1, i + 2, l ++ [(y0, y1)], by go_num, by have := HIJ.out; omega, by omega, by omega, by show _ = _; have := hlj.out; simp; omega, by rw [pairCells_snoc]; simpa using hown5, hG2, hb7⟩
          · have hfin := Lib.hid (show regionsT T k = (l, 0) from by rw [hF.out, hG.out, List.drop_eq_nil_of_le (by omega)]; simp [regF, regE])
            have hiI : ¬ (i : Int) < (FL.length : Int) := by omega
            clear hij hfl
            obtain ⟨oa, oc, rfl⟩ := owns_slice hown
            go_wp2_with fail
            go_ret2
            exact ⟨_, by rw [hfin.out]; rfl, by rw [hfin.out]; exact ownsRow_base' hown hs6, hb6.trans (hbw.mono hs6)⟩
      · have herb : (er != 0) = true := by simpa using her
        have hF := Lib.hid (show regionsT T k = ([], er) from by rw [HE2.out, if_pos her])
        clear her
        go_wp2_with fail
        go_ret2
        exact ⟨.slice none 0 0, by rw [hF.out]; rfl, by rw [hF.out]; exact World.ownsRow_nil _ _ _ _, hb6⟩
    · have hecb : (ec != 0) = true := by simpa using hec
      have hF := Lib.hid (show regionsT T k = ([], ec) from by rw [hE.out, if_pos hec])
      clear hec
      go_wp2_with fail
      go_ret2
      exact ⟨.slice none 0 0, by rw [hF.out]; rfl, by rw [hF.out]; exact World.ownsRow_nil _ _ _ _, hb2⟩

set_option maxRecDepth 100000 in
set_option maxHeartbeats 4000000 in
theorem ref11_Regions (R : Nat → Prop) (v : Value) (T : List NodeT) (node : Int) (w : World) (hT : NodesIn R w v T) :
    Calls Tryz.prog 23 #[.agg #[v], .int .i64 node] w (ARegionsPost T node w) := by
  obtain ⟨a, cap, rfl, hc1, hc2⟩ := hT.shape
  have HT := Lib.hid hT; clear hT
  have hck := fun wx hx => ref3_Check R (.slice a T.length cap) T wx hx
  have hE := Lib.hid (show aRegionsT T node = if beginT T node ≠ 0 then ([], beginT T node) else regionsT T node.toNat from rfl)
  have hbe := Lib.hid (show beginT T node = if checkT T ≠ 0 then checkT T else if node < 0 ∨ T.length ≤ node then 4 else 0 from rfl)
  have hb0 : Below w.heap.size w (w.alloc (.cells #[.slice a T.length cap] 25)) := (Below.refl w.heap.size w).alloc (Nat.le_refl _) _
  have hB0 := Holds.new w #[.slice a T.length cap] 25
  by_cases hc : checkT T = 0
  · rw [hc] at hck
    have HCK := Lib.hid hck; clear hck
    by_cases hn0 : node < 0
    · have hF := Lib.hid (show aRegionsT T node = ([], 4) from by rw [hE.out, show beginT T node = 4 from by rw [hbe.out, if_neg (by rw [hc]; simp), if_pos (.inl hn0)], if_pos (by simp)])
      clear hE hbe hc
      go_enter Tryz.func23, Tryz.ntmps23
      go_wp2_with fail
      refine (HCK.out _ (by exact HT.out.new hb0)).mono ?_
      rintro e w1 ⟨rfl, hb1⟩
      go_wp2_with fail
      go_ret2
      exact ⟨.slice none 0 0, by rw [hF.out]; rfl, by rw [hF.out]; exact World.ownsRow_nil _ _ _ _, hb0.trans (hb1.mono (by simp))⟩
    · by_cases hn1 : (T.length : Int) ≤ node
      · have hF := Lib.hid (show aRegionsT T node = ([], 4) from by rw [hE.out, show beginT T node = 4 from by rw [hbe.out, if_neg (by rw [hc]; simp), if_pos (.inr hn1)], if_pos (by simp)])
        clear hE hbe hc
        go_enter Tryz.func23, Tryz.ntmps23
        go_wp2_with fail
        refine (HCK.out _ (by exact HT.out.new hb0)).mono ?_
        rintro e w1 ⟨rfl, hb1⟩
        have hB1 := hB0.keeps (Keeps.of_fresh hb1 (fun _ => False)) (fun e => e)
        have bx := hB1.cell 0
        have blt := hB1.lt
        go_wp2_with fail
        go_ret2
        exact ⟨.slice none 0 0, by rw [hF.out]; rfl, by rw [hF.out]; exact World.ownsRow_nil _ _ _ _, hb0.trans (hb1.mono (by simp))⟩
      · obtain ⟨k, rfl⟩ := Int.eq_ofNat_of_zero_le (Int.not_lt.1 hn0)
        have hk : k < T.length := by omega
        have hrg := fun wx hx => ref11_regions R (.slice a T.length cap) T k wx hx hc hk
        unfold RegionsPost at hrg
        have hE2 := Lib.hid (show aRegionsT T k = regionsT T k from by rw [hE.out, show beginT T k = 0 from by rw [hbe.out, if_neg (by rw [hc]; simp), if_neg (by omega)], if_neg (by simp), Int.toNat_natCast])
        clear hE hbe hc
        generalize regionsT T k = C at hrg hE2
        obtain ⟨l, er⟩ := C
        simp only at hrg
        have HRG := Lib.hid hrg; clear hrg
        go_enter Tryz.func23, Tryz.ntmps23
        go_wp2_with fail
        refine (HCK.out _ (by exact HT.out.new hb0)).mono ?_
        rintro e w1 ⟨rfl, hb1⟩
        have hb2 := hb0.trans (hb1.mono (by simp))
        have hB1 := hB0.keeps (Keeps.of_fresh hb1 (fun _ => False)) (fun e => e)
        have bx := hB1.cell 0
        have blt := hB1.lt
        go_wp2_with fail
        refine (HRG.out _ (by exact HT.out.new hb2)).mono ?_
        rintro e w2 ⟨rv, rfl, hown, hb3⟩
        obtain ⟨ra, rc, rfl⟩ := owns_slice hown
        have hs2 := hb2.size
        go_wp2_with fail
        go_ret2
        exact ⟨_, by rw [hE2.out]; rfl, by rw [hE2.out]; exact ownsRow_base' hown hs2, hb2.trans (hb3.mono hs2)⟩
  · have hcb : (checkT T != 0) = true := by simpa using hc
    have hF := Lib.hid (show aRegionsT T node = ([], checkT T) from by rw [hE.out, show beginT T node = checkT T from by rw [hbe.out, if_pos hc], if_pos hc])
    clear hE hbe hc
    generalize checkT T = c at hck hF hcb
    have HCK := Lib.hid hck; clear hck
    go_enter Tryz.func23, Tryz.ntmps23
    go_wp2_with fail
    refine (HCK.out _ (by exact HT.out.new hb0)).mono ?_
    rintro e w1 ⟨rfl, hb1⟩
    go_wp2_with fail
    go_ret2
    exact ⟨.slice none 0 0, by rw [hF.out]; rfl, by rw [hF.out]; exact World.ownsRow_nil _ _ _ _, hb0.trans (hb1.mono (by simp))⟩
end Go.Proofs.YthkoaakicdhnpaaGreat

namespace Go.Proofs.YthkoaakicdhnpaaGreat
open Go.RowKit

def rangesT (T : List NodeT) (k : Nat) : List (Int × Int × Int) × Int := if k = 0 then ([], 0) else ((windowsT T k).1, (windowsT T k).2.2)
def RangesPost (T : List NodeT) (k : Nat) (w : World) (e : Ending) (w' : World) : Prop :=
  ∃ v, e = .returned (.tuple #[v, .int .i64 (rangesT T k).2]) ∧ w'.ownsRow w.heap.size 122 3 v (rangesT T k).1.length (triCells (rangesT T k).1) ∧ Below w.heap.size w w'
theorem rowsT_nil (v : ByteArray) (h : v.size = 0) (ws : List Int) : rowsT v ws = ([], 0) := by
  unfold rowsT
  rw [if_neg (by rw [h]; simp)]
  have : cellsT v = [] := List.length_eq_zero_iff.1 (by have := cellsT_len v; omega)
  rw [this, rows_nil]; rfl
/-- The ranges of a node that has some, as rows of numbers. -/
theorem ranges_rows {T : List NodeT} (hc : checkT T = 0) {k : Nat} (hk : k < T.length) (h0 : k ≠ 0) (h1 : (pairT T k).2.2 = 0) (h2 : (pairT T T[k].parent).2.2 = 0) (hv : (ofT T[k].props nmRanges).2 = true) :
    rangesT T k = (let r := rowsT (ofT T[k].props nmRanges).1 [(pairT T k).1, (pairT T T[k].parent).1, (pairT T k).2.1]; if r.2 ≠ 0 then ([], r.2) else ((winE (winF r.1)).1, (winE (winF r.1)).2.2)) := by
  unfold rangesT
  rw [if_neg h0]
  unfold windowsT
  rw [value_of hc hk, parOf_at hk]
  by_cases hz : (ofT T[k].props nmRanges).1.size = 0
  · rw [rowsT_nil _ hz]
    simp only
    rw [if_pos (.inr hz)]
    simp [winF, winE]
  · simp only
    rw [if_neg (by rintro (h | h); exact absurd (hv.symm.trans h) (by decide); exact hz h), if_neg (by rw [h1]; simp), if_neg (by rw [h2]; simp)]
    by_cases hr : (rowsT (ofT T[k].props nmRanges).1 [(pairT T k).1, (pairT T T[k].parent).1, (pairT T k).2.1]).2 ≠ 0
    · rw [if_pos hr, if_pos hr]
    · rw [if_neg hr, if_neg hr]

set_option maxRecDepth 100000 in
set_option maxHeartbeats 4000000 in
theorem ref11_ranges (R : Nat → Prop) (v : Value) (T : List NodeT) (k : Nat) (w : World) (hT : NodesIn R w v T) (hc : checkT T = 0) (hk : k < T.length) (hpk : (pairT T k).2.2 = 0) (hpp : k ≠ 0 → (pairT T (parOf T k)).2.2 = 0) :
    Calls Tryz.prog 47 #[.agg #[v], .int .i64 k] w (RangesPost T k w) := by
  obtain ⟨a, cap, rfl, hc1, hc2⟩ := hT.shape
  have HT := Lib.hid hT; clear hT
  obtain ⟨g, o, pa, pc, rfl, hg, c0, c1, c2, hp, p1, p2, b0, b1, b2⟩ := HT.out.at k hk
  have hnm := check_named hc
  have hlen := (limits_len (check_limits hc)).2
  have hof := fun (wx : World) hx => ref3_Of R (T[k]'hk).parent (T[k]'hk).name (.slice pa (T[k]'hk).props.length pc) (T[k]'hk).props nmRanges wx hx
  have hvs := of_size hc hk nmRanges
  have hkI : (k : Int) < (T.length : Int) := by omega
  have hb0 : Below w.heap.size w (w.alloc (.cells #[.slice (some ⟨g, o, none⟩) T.length cap] 25)) := (Below.refl w.heap.size w).alloc (Nat.le_refl _) _
  have hB0 := Holds.new w #[.slice (some ⟨g, o, none⟩) T.length cap] 25
  have d0 := cell_new c0 hg hb0
  have d1 := cell_new c1 hg hb0
  have d2 := cell_new c2 hg hb0
  have hrr := Lib.hid (fun h0 h2 hv => ranges_rows hc hk h0 hpk h2 hv)
  have hno := Lib.hid (show k = 0 ∨ (ofT T[k].props nmRanges).2 = false → rangesT T k = ([], 0) from by
    intro h
    unfold rangesT
    split
    · rfl
    · rename_i h0
      unfold windowsT
      rw [value_of hc hk]
      rw [if_pos (.inl (h.resolve_left h0))])
  by_cases hk0 : k = 0
  · have hE := Lib.hid (hno.out (.inl hk0))
    have hkb : ((k : Int) == 0) = true := by simp [hk0]
    have HP := Lib.hid hp
    clear hc hk0 hpk hpp hrr hno hnm hp b0 b1 b2
    generalize ofT T[k].props nmRanges = V at hof hvs
    obtain ⟨vs, vb⟩ := V
    simp only at hof hvs
    unfold nmRanges at hof
    have HOF := Lib.hid hof; clear hof
    generalize T[k].parent = pp at *
    generalize T[k].name = nm at *
    cases vb with
    | true =>
      go_enter Tryz.func47, Tryz.ntmps47
      go_wp2_with fail
      refine (HOF.out _ (by exact HP.out.new hb0)).mono ?_
      rintro e w1 ⟨rfl, hb1⟩
      go_wp2_with fail
      go_ret2
      exact ⟨.slice none 0 0, by rw [hE.out]; rfl, by rw [hE.out]; exact World.ownsRow_nil _ _ _ _, hb0.trans (hb1.mono (by simp))⟩
    | false =>
      go_enter Tryz.func47, Tryz.ntmps47
      go_wp2_with fail
      refine (HOF.out _ (by exact HP.out.new hb0)).mono ?_
      rintro e w1 ⟨rfl, hb1⟩
      go_wp2_with fail
      go_ret2
      exact ⟨.slice none 0 0, by rw [hE.out]; rfl, by rw [hE.out]; exact World.ownsRow_nil _ _ _ _, hb0.trans (hb1.mono (by simp))⟩
  · have hkb : ((k : Int) == 0) = false := by simp; omega
    obtain ⟨hp0, hp1⟩ := (named_par hnm k hk).2 (by omega)
    have hpp2 := hpp hk0
    rw [parOf_at hk] at hpp2
    have hrr2 := Lib.hid (fun hv => hrr.out hk0 hpp2 hv)
    clear hrr hpp
    generalize ofT T[k].props nmRanges = V at hof hvs hrr2 hno
    obtain ⟨vs, vb⟩ := V
    simp only at hof hvs hrr2 hno
    unfold nmRanges at hof
    have HOF := Lib.hid hof; clear hof
    have HP := Lib.hid hp; clear hp
    cases vb with
    | false =>
      have hE := Lib.hid (hno.out (.inr rfl))
      clear hno hrr2 hc hk0 hpk hpp2 hnm b0 b1 b2
      generalize T[k].parent = pp at *
      generalize T[k].name = nm at *
      go_enter Tryz.func47, Tryz.ntmps47
      go_wp2_with fail
      refine (HOF.out _ (by exact HP.out.new hb0)).mono ?_
      rintro e w1 ⟨rfl, hb1⟩
      go_wp2_with fail
      go_ret2
      exact ⟨.slice none 0 0, by rw [hE.out]; rfl, by rw [hE.out]; exact World.ownsRow_nil _ _ _ _, hb0.trans (hb1.mono (by simp))⟩
    | true =>
      have hrr3 := hrr2.out rfl
      clear hno hrr2
      have hbg : ∀ u : Int, 0 ≤ u → u < T.length → aCellsT T u = pairT T u := by
        intro u h0 h1
        have : beginT T u = 0 := by unfold beginT; rw [if_neg (by rw [hc]; simp), if_neg (by omega)]
        unfold aCellsT; rw [if_neg (by rw [this]; simp)]
      have hcl := fun wx hx => ref11_Cells R (.slice (some ⟨g, o, none⟩) T.length cap) T k wx hx
      have hcp := fun wx hx => ref11_Cells R (.slice (some ⟨g, o, none⟩) T.length cap) T T[k].parent wx hx
      rw [hbg k (by omega) hkI] at hcl
      rw [hbg T[k].parent hp0 (by omega)] at hcp
      have hpd := pairT_bd T k
      have hpe := pairT_bd T T[k].parent
      generalize pairT T (k : Int) = C at hcl hpd hpk hrr3
      generalize pairT T T[k].parent = D at hcp hpe hpp2 hrr3
      obtain ⟨ac, sc, ec⟩ := C
      obtain ⟨bc, tc, fc⟩ := D
      simp only at hcl hcp hpk hpp2 hpd hpe hrr3
      subst hpk hpp2
      obtain ⟨ha, hs⟩ := hpd rfl
      obtain ⟨hbb, _⟩ := hpe rfl
      have HCL := Lib.hid hcl; clear hcl
      have HCP := Lib.hid hcp; clear hcp
      have hrw := fun (wx : World) hw => ref11_numbers vs [ac, bc, sc] wx.heap.size 3 (wx.alloc (.cells #[.int .i64 ac, .int .i64 bc, .int .i64 sc] 3)) hw (by simp; omega) (by simp) (by simp) (by simp) (by omega) (by omega)
      obtain ⟨hsp1, hsp2⟩ := rowsT_spec vs [ac, bc, sc]
      unfold NumsPost at hrw
      generalize rowsT vs [ac, bc, sc] = RW at hrr3 hrw hsp1 hsp2
      obtain ⟨rows, er⟩ := RW
      simp only at hrr3 hrw hsp1 hsp2
      have HRR := Lib.hid hrr3; clear hrr3
      have HRW := Lib.hid hrw; clear hrw
      have hsp3 : ∀ r ∈ rows, r.length = 3 := fun r hr => (hsp2 r hr).1
      have hfl := flat_len rows hsp3
      have hfg := Lib.hid (flat_get rows hsp3)
      have HSP2 := Lib.hid hsp2; clear hsp2 hsp3
      generalize rows.flatten = FL at HRW hfl hfg
      have HFL := Lib.hid hfl; clear hfl
      clear ha hs hpd hpe hbb hc hk0 hnm hbg b0 b1 b2 hp0 hp1
      generalize T[k].parent = pp at *
      generalize T[k].name = nm at *
      go_enter Tryz.func47, Tryz.ntmps47
      go_wp2_with fail
      refine (HOF.out _ (by exact HP.out.new hb0)).mono ?_
      rintro e w1 ⟨rfl, hb1⟩
      have hb2 := hb0.trans (hb1.mono (by simp))
      have hB1 := hB0.keeps (Keeps.of_fresh hb1 (fun _ => False)) (fun e => e)
      have bx := hB1.cell 0
      have blt := hB1.lt
      have hs2 := hb2.size
      clear d0 d1 d2
      go_wp2_with fail
      refine (HCL.out _ (by exact HT.out.new hb2)).mono ?_
      rintro e w2 ⟨rfl, hb3⟩
      have hb4 := hb2.trans (hb3.mono hs2)
      have hB2 := hB1.keeps (Keeps.of_fresh hb3 (fun _ => False)) (fun e => e)
      clear bx blt
      have bx := hB2.cell 0
      have blt := hB2.lt
      have hs4 := hb4.size
      have e0 := cell_new c0 hg hb4
      go_upto_region 5 with fail
      refine wp_region_any (by kernel_rfl) ?_
      refine wpAny_ops (ops' := rrcOps) (by kernel_rfl) ?_
      refine rrc_region w.heap.size g o T.length cap k pp bc tc 0 w2.heap.size w2 w2.drew _ rfl (Nat.le_refl _) hk blt (by omega) bx e0 (Lib.hid (fun wx hx => HCP.out wx (HT.out.new (hb4.trans (hx.mono hs4))))) rfl rfl (Below.refl w2.heap.size w2).drew ?_
      intro c w5 hsb hb5 h11 h12 h13
      obtain ⟨y11, y12, y13, y40, y41, y42, y43, y44, y45, y46, y47, y48, y49, y50, y51, hcc⟩ := hsb.ex [11, 12, 13, 40, 41, 42, 43, 44, 45, 46, 47, 48, 49, 50, 51] (by kernel_rfl)
      subst hcc
      simp only [List.setIfInBounds_toArray, List.set_cons_zero, List.set_cons_succ] at h11 h12 h13 ⊢
      have e11 : y11 = .int .i64 bc := h11
      have e12 : y12 = .int .i64 tc := h12
      have e13 : y13 = .int .i64 0 := h13
      subst e11 e12 e13
      have hb6 := hb4.trans (hb5.mono hs4)
      have hs6 := hb6.size
      clear h11 h12 h13 hsb bx blt e0
      go_wp2_with fail
      refine (HRW.out w5 ?_).mono ?_
      · intro i hi
        have h2 : i = 0 ∨ i = 1 ∨ i = 2 := by simp at hi; omega
        rcases h2 with rfl | rfl | rfl
        · exact (Holds.new w5 #[.int .i64 ac, .int .i64 bc, .int .i64 sc] 3).cell 0
        · exact (Holds.new w5 #[.int .i64 ac, .int .i64 bc, .int .i64 sc] 3).cell 1
        · exact (Holds.new w5 #[.int .i64 ac, .int .i64 bc, .int .i64 sc] 3).cell 2
      rintro e w4 ⟨rv, rfl, hRA, hb7⟩
      have hb8 : Below w.heap.size w w4 := (hb6.alloc hs6 _).trans (hb7.mono (by simp; omega))
      have hs8 := hb8.size
      by_cases her : er = 0
      · subst her
        have hF := Lib.hid (show rangesT T k = ((winE (winF rows)).1, (winE (winF rows)).2.2) from by rw [HRR.out]; simp)
        have hrl : rows.length ≤ 1000 := by omega
        obtain ⟨ra, rc, rfl⟩ := owns_slice hRA
        have HRA := Lib.hid hRA; clear hRA
        go_wp2_with fail
        go_loopg [16, 17] (rows.length) (fun f x y wr => ∃ (j i : Nat) (l : List (Int × Int × Int)), y = .int .i64 i ∧ i = j * 3 ∧ j ≤ rows.length ∧ rows.length ≤ j + f ∧ Hid (l.length = j) ∧ wr.ownsRow w4.heap.size 122 3 x l.length (triCells l) ∧
          Hid (winF rows = (winF (rows.drop j)).map (l ++ ·)) ∧ Below w4.heap.size w4 wr)
        case atStart => exact ⟨0, 0, [], rfl, rfl, by omega, by omega, rfl, World.ownsRow_nil _ _ _ _, by show _ = _; rw [List.drop_zero]; cases winF rows <;> rfl, Below.refl _ _⟩
        case round =>
          obtain ⟨j, i, l, rfl, hij, hj, hf, hlj, hown, hG, hbw⟩ := hrel
          have hbws := hbw.size
          have hfl := HFL.out
          by_cases hjl : j < rows.length
          · have hiI : (i : Int) < (FL.length : Int) := by omega
            have hi2 : i + 2 < FL.length := by omega
            obtain ⟨hr2, hrb⟩ := HSP2.out rows[j] (List.getElem_mem hjl)
            simp only [List.length_cons, List.length_nil] at hr2
            obtain ⟨gr, cr, e1, q1, q2, q3, hcell⟩ := ints_at HRA.out (by omega)
            cases e1
            have d0 := hcell i (by omega)
            have d1 := hcell (i + 1) (by omega)
            have d2 := hcell (i + 2) hi2
            have k0 : FL[i] = rows[j][0] := by
              have := hfg.out j 0 hjl (by omega)
              rw [Nat.add_zero, ← hij, List.getElem?_eq_getElem (by omega), List.getElem?_eq_getElem (by omega)] at this
              exact Option.some.inj this
            have k1 : FL[i + 1] = rows[j][1] := by
              have := hfg.out j 1 hjl (by omega)
              rw [← hij, List.getElem?_eq_getElem (by omega), List.getElem?_eq_getElem (by omega)] at this
              exact Option.some.inj this
            have k2 : FL[i + 2] = rows[j][2] := by
              have := hfg.out j 2 hjl (by omega)
              rw [← hij, List.getElem?_eq_getElem (by omega), List.getElem?_eq_getElem (by omega)] at this
              exact Option.some.inj this
            rw [k0] at d0
            rw [k1] at d1
            rw [k2] at d2
            have hb0' := hrb rows[j][0] (List.getElem_mem _)
            have hb1' := hrb rows[j][1] (List.getElem_mem _)
            have hb2' := hrb rows[j][2] (List.getElem_mem _)
            have hst : winF (rows.drop j) = if fitsB rows[j][0] rows[j][2] = true ∧ fitsB rows[j][1] rows[j][2] = true then (winF (rows.drop (j + 1))).map ((rows[j][0], rows[j][1], rows[j][2]) :: ·) else none := by
              rw [List.drop_eq_getElem_cons hjl]
              simp only [winF]
              rw [show rows[j].getD 0 0 = rows[j][0] from by simp [List.getD, hr2], show rows[j].getD 1 0 = rows[j][1] from by simp [List.getD, hr2], show rows[j].getD 2 0 = rows[j][2] from by simp [List.getD, hr2]]
            clear hrb hcell k0 k1 k2
            generalize rows[j][0] = y0 at d0 hb0' hst
            generalize rows[j][1] = y1 at d1 hb1' hst
            generalize rows[j][2] = y2 at d2 hb2' hst
            obtain ⟨y00, y01⟩ := hb0'
            obtain ⟨y10, y11⟩ := hb1'
            obtain ⟨y20, y21⟩ := hb2'
            have HST := Lib.hid hst; clear hst
            have f0 := cell_new d0 q3 hbw
            have f1 := cell_new d1 q3 hbw
            have f2 := cell_new d2 q3 hbw
            have hiI1 : (i : Int) + 1 < (FL.length : Int) := by omega
            have hiI2 : (i : Int) + 2 < (FL.length : Int) := by omega
            have HIJ := Lib.hid hij
            have hil : i ≤ 3000 := by omega
            have hin : i < FL.length := by omega
            have hfl3 : FL.length ≤ 3000 := by omega
            clear hij hfl
            have hlb : l.length ≤ 1000 := by have := hlj.out; omega
            obtain ⟨oa, oc, rfl⟩ := owns_slice hown
            by_cases hfa : 4611686018427387903 - y0 < y2
            · have hE3 := Lib.hid (show rangesT T k = ([], 2) from by rw [hF.out, hG.out, HST.out, if_neg (by unfold fitsB; simp; omega)]; rfl)
              have hd : decide (4611686018427387903 - y0 < y2) = true := by simpa using hfa
              clear hfa
              go_wp2_with fail
              go_region
              go_wp2_with fail
              go_ret2
              exact ⟨.slice none 0 0, by rw [hE3.out]; rfl, by rw [hE3.out]; exact World.ownsRow_nil _ _ _ _, (hb8.trans (hbw.mono hs8)).drew⟩
            · have hd : decide (4611686018427387903 - y0 < y2) = false := by simpa using hfa
              by_cases hfb : 4611686018427387903 - y1 < y2
              · have hE3 := Lib.hid (show rangesT T k = ([], 2) from by rw [hF.out, hG.out, HST.out, if_neg (by unfold fitsB; simp; omega)]; rfl)
                clear hfa
                go_wp2_with fail
                go_region
                go_wp2_with fail
                go_ret2
                exact ⟨.slice none 0 0, by rw [hE3.out]; rfl, by rw [hE3.out]; exact World.ownsRow_nil _ _ _ _, (hb8.trans (hbw.mono hs8)).drew⟩
              · have hG2 : Hid (winF rows = (winF (rows.drop (j + 1))).map ((l ++ [(y0, y1, y2)]) ++ ·)) := by
                  show _ = _
                  rw [hG.out, HST.out, if_pos (by unfold fitsB; simp; omega), Option.map_map]
                  congr 1
                  funext z
                  simp
                clear hfa
                go_wp2_with fail
                go_region
                have hownq : wr.drew.ownsRow w4.heap.size 122 3 (.slice oa l.length oc) l.length (triCells l) := hown
                have hbq := hbw.drew
                go_upto_region 15 with fail
                refine wp_region_any (by kernel_rfl) ?_
                refine wpAny_ops (ops' := rraOps) (by kernel_rfl) ?_
                refine rra_region gr FL.length rc i y0 y1 y2 w4.heap.size l.length (triCells l) (.slice oa l.length oc) w4.heap.size w4 _ _ rfl (Nat.le_refl _) (Nat.le_refl _) (Nat.le_refl _) (by omega) hi2 (by omega) q3 d0 d1 d2 rfl rfl rfl hbq.drew hownq ?_
                intro c w6 v0 hsb hb9 h16 hown6
                obtain ⟨y16, y95, y96, y97, y98, y99, y100, y101, y102, y103, y104, y105, y106, y107, y108, y109, y110, y111, y112, hcc⟩ := hsb.ex [16, 95, 96, 97, 98, 99, 100, 101, 102, 103, 104, 105, 106, 107, 108, 109, 110, 111, 112] (by kernel_rfl)
                subst hcc
                simp only [List.setIfInBounds_toArray, List.set_cons_zero, List.set_cons_succ] at h16 ⊢
                have e16 : y16 = v0 := h16
                subst e16
                clear hsb h16 hown hownq hbq
                go_wp2_with fail
                go_roundg (gk - 1)
                case measure => omega
                case rel => exact ⟨j + 1, i + 3, l ++ [(y0, y1, y2)], by go_num, by have := HIJ.out; omega, by omega, by omega, by show _ = _; have := hlj.out; simp; omega, by rw [triCells_snoc]; simpa using hown6, hG2, hb9⟩
          · have hfin := Lib.hid (show rangesT T k = (l, 0) from by rw [hF.out, hG.out, List.drop_eq_nil_of_le (by omega)]; simp [winF, winE])
            have hiI : ¬ (i : Int) < (FL.length : Int) := by omega
            clear hij hfl
            obtain ⟨oa, oc, rfl⟩ := owns_slice hown
            go_wp2_with fail
            go_ret2
            exact ⟨_, by rw [hfin.out]; rfl, by rw [hfin.out]; exact ownsRow_base' hown hs8, hb8.trans (hbw.mono hs8)⟩
      · have herb : (er != 0) = true := by simpa using her
        have hF := Lib.hid (show rangesT T k = ([], er) from by rw [HRR.out, if_pos her])
        clear her
        go_wp2_with fail
        go_ret2
        exact ⟨.slice none 0 0, by rw [hF.out]; rfl, by rw [hF.out]; exact World.ownsRow_nil _ _ _ _, hb8⟩
end Go.Proofs.YthkoaakicdhnpaaGreat

namespace Go.Proofs.YthkoaakicdhnpaaGreat
open Go.RowKit

theorem node_err (T : List NodeT) (k : Nat) : nodeErr T k = if (pairT T k).2.2 ≠ 0 then (pairT T k).2.2 else if (regionsT T k).2 ≠ 0 then (regionsT T k).2 else (rangesT T k).2 := by
  unfold nodeErr rangesT
  by_cases h : k = 0
  · rw [if_pos h, if_pos h]
  · rw [if_neg h, if_neg h]
theorem err_pair {T : List NodeT} {k : Nat} (h : nodeErr T k = 0) : (pairT T k).2.2 = 0 := by
  unfold nodeErr at h
  by_cases a : (pairT T k).2.2 ≠ 0
  · rw [if_pos a] at h; exact absurd h a
  · simpa using a

set_option maxRecDepth 100000 in
set_option maxHeartbeats 4000000 in
theorem ref11_Check (R : Nat → Prop) (v : Value) (T : List NodeT) (w : World) (hT : NodesIn R w v T) :
    Calls Tryz.prog 15 #[.agg #[v]] w fun e w' => e = .returned (.tuple #[.int .i64 (aCheckT T).1, .int .i64 (aCheckT T).2]) ∧ Below w.heap.size w w' := by
  obtain ⟨a, cap, rfl, hc1, hc2⟩ := hT.shape
  have HT := Lib.hid hT; clear hT
  have hck := fun wx hx => ref3_Check R (.slice a T.length cap) T wx hx
  have hE := Lib.hid (show aCheckT T = if checkT T ≠ 0 then (0, checkT T) else aCheckF T T.length 0 from rfl)
  have hb0 : Below w.heap.size w (w.alloc (.cells #[.slice a T.length cap] 25)) := (Below.refl w.heap.size w).alloc (Nat.le_refl _) _
  have hB0 := Holds.new w #[.slice a T.length cap] 25
  by_cases hc : checkT T = 0
  · have hE2 := Lib.hid (show aCheckT T = aCheckF T T.length 0 from by rw [hE.out, if_neg (by rw [hc]; simp)])
    rw [hc] at hck
    have HCK := Lib.hid hck; clear hck
    have HC := Lib.hid hc
    have HNM := Lib.hid (check_named hc)
    have hlen := (limits_len (check_limits hc)).2
    clear hE hc
    go_enter Tryz.func15, Tryz.ntmps15
    go_wp2_with fail
    refine (HCK.out _ (by exact HT.out.new hb0)).mono ?_
    rintro e w1 ⟨rfl, hb1⟩
    have hb2 := hb0.trans (hb1.mono (by simp))
    have hB1 := hB0.keeps (Keeps.of_fresh hb1 (fun _ => False)) (fun e => e)
    have bx1 := hB1.cell 0
    have blt1 := hB1.lt
    go_wp2_with fail
    go_loopg [21] (T.length) (fun f x wr => ∃ k : Nat, x = .int .i64 k ∧ k ≤ T.length ∧ T.length ≤ k + f ∧ Hid (aCheckT T = aCheckF T (T.length - k) k) ∧ Hid (∀ j, j < k → nodeErr T j = 0) ∧ Below w.heap.size w wr ∧ Holds wr w.heap.size #[.slice a T.length cap] 25)
    case atStart => exact ⟨0, rfl, by omega, by omega, hE2.out, Lib.hid (fun j h => absurd h (Nat.not_lt_zero j)), hb2, hB1⟩
    case round =>
      obtain ⟨k, rfl, hk, hf, hA, hAll, hb, hB⟩ := hrel
      have hbs := hb.size
      have bx := hB.cell 0
      have blt := hB.lt
      by_cases hlt : k < T.length
      · have hstep := Lib.hid (show aCheckF T (T.length - k) k = if nodeErr T k ≠ 0 then ((k : Int), nodeErr T k) else aCheckF T (T.length - (k + 1)) (k + 1) from by
          rw [show T.length - k = (T.length - (k + 1)) + 1 from by omega]; rfl)
        have hbg : aCellsT T (k : Int) = pairT T k := by
          have : beginT T k = 0 := by unfold beginT; rw [if_neg (by rw [HC.out]; simp), if_neg (by omega)]
          unfold aCellsT; rw [if_neg (by rw [this]; simp)]
        have hpr := fun wx hx => ref11_Cells R (.slice a T.length cap) T k wx hx
        rw [hbg] at hpr
        have hrg := fun wx hx => ref11_regions R (.slice a T.length cap) T k wx hx HC.out hlt
        have hwn := fun wx hx (h1 : (pairT T k).2.2 = 0) => ref11_ranges R (.slice a T.length cap) T k wx hx HC.out hlt h1 (fun h0 => by
          obtain ⟨h2, h3⟩ := (named_par HNM.out k hlt).2 (by omega)
          obtain ⟨u, hu⟩ := Int.eq_ofNat_of_zero_le h2
          rw [parOf_at hlt, hu]
          exact err_pair (hAll.out u (by omega)))
        have hne := Lib.hid (node_err T k)
        have hnx : Hid (nodeErr T k = 0 → ∀ j, j < k + 1 → nodeErr T j = 0) := by
          show _ → _
          intro h j hj
          by_cases e : j = k
          · rw [e]; exact h
          · exact hAll.out j (by omega)
        unfold RegionsPost at hrg
        unfold RangesPost at hwn
        generalize pairT T (k : Int) = C at hpr hne hwn
        obtain ⟨x1, x2, x3⟩ := C
        generalize regionsT T k = D at hrg hne
        obtain ⟨rl, re⟩ := D
        generalize rangesT T k = F at hwn hne
        obtain ⟨wl, we⟩ := F
        simp only at hpr hrg hwn
        have HPR := Lib.hid hpr; clear hpr
        have HRG := Lib.hid hrg; clear hrg
        have HWN := Lib.hid hwn; clear hwn
        clear hbg
        have hkI : (k : Int) < (T.length : Int) := by omega
        by_cases h3 : x3 = 0
        · subst h3
          go_wp2_with fail
          refine (HPR.out _ (by exact HT.out.new hb)).mono ?_
          rintro e w2 ⟨rfl, hb3⟩
          have hb4 := hb.trans (hb3.mono hbs)
          have hB4 := hB.keeps (Keeps.of_fresh hb3 (fun _ => False)) (fun e => e)
          clear bx blt
          have bx4 := hB4.cell 0
          have blt4 := hB4.lt
          by_cases hre : re = 0
          · subst hre
            have hN := Lib.hid (show nodeErr T k = we from by rw [hne.out, if_neg (by simp), if_neg (by simp)])
            go_wp2_with fail
            refine (HRG.out _ (by exact HT.out.new hb4)).mono ?_
            rintro e w3 ⟨rv, rfl, hown, hb5⟩
            have hb6 := hb4.trans (hb5.mono hb4.size)
            have hB6 := hB4.keeps (Keeps.of_fresh hb5 (fun _ => False)) (fun e => e)
            clear bx4 blt4
            have bx6 := hB6.cell 0
            have blt6 := hB6.lt
            obtain ⟨ra, rc, rfl⟩ := owns_slice hown
            by_cases hwe : we = 0
            · subst hwe
              go_wp2_with fail
              refine (HWN.out _ (by exact HT.out.new hb6) trivial).mono ?_
              rintro e w4 ⟨rv2, rfl, hown2, hb7⟩
              have hb8 := hb6.trans (hb7.mono hb6.size)
              have hB8 := hB6.keeps (Keeps.of_fresh hb7 (fun _ => False)) (fun e => e)
              go_wp2_with fail
              go_roundg (gk - 1)
              case measure => omega
              case rel => exact ⟨k + 1, by go_num, by omega, by omega, by show _ = _; rw [hA.out, hstep.out, hN.out, if_neg (by simp)], hnx.out hN.out, hb8, hB8⟩
            · have hweb : (we != 0) = true := by simpa using hwe
              have hfin := Lib.hid (show aCheckT T = ((k : Int), we) from by rw [hA.out, hstep.out, hN.out, if_pos hwe])
              clear hwe
              go_wp2_with fail
              refine (HWN.out _ (by exact HT.out.new hb6) trivial).mono ?_
              rintro e w4 ⟨rv2, rfl, hown2, hb7⟩
              go_wp2_with fail
              go_ret2
              exact ⟨by rw [hfin.out]; rfl, hb6.trans (hb7.mono hb6.size)⟩
          · have hreb : (re != 0) = true := by simpa using hre
            have hfin := Lib.hid (show aCheckT T = ((k : Int), re) from by rw [hA.out, hstep.out, hne.out, if_neg (show ¬ ((0 : Int) ≠ 0) from by simp), if_pos hre, if_pos hre])
            clear hre
            go_wp2_with fail
            refine (HRG.out _ (by exact HT.out.new hb4)).mono ?_
            rintro e w3 ⟨rv, rfl, hown, hb5⟩
            obtain ⟨ra, rc, rfl⟩ := owns_slice hown
            go_wp2_with fail
            go_ret2
            exact ⟨by rw [hfin.out]; rfl, hb4.trans (hb5.mono hb4.size)⟩
        · have h3b : (x3 != 0) = true := by simpa using h3
          have hfin := Lib.hid (show aCheckT T = ((k : Int), x3) from by rw [hA.out, hstep.out, hne.out, if_pos h3, if_pos h3])
          clear h3
          go_wp2_with fail
          refine (HPR.out _ (by exact HT.out.new hb)).mono ?_
          rintro e w2 ⟨rfl, hb3⟩
          go_wp2_with fail
          go_ret2
          exact ⟨by rw [hfin.out]; rfl, hb.trans (hb3.mono hbs)⟩
      · have hfin := Lib.hid (show aCheckT T = (0, 0) from by rw [hA.out, show T.length - k = 0 from by omega]; rfl)
        go_wp2_with fail
        go_ret2
        exact ⟨by rw [hfin.out]; rfl, hb⟩
  · have hcb : (checkT T != 0) = true := by simpa using hc
    have hF := Lib.hid (show aCheckT T = (0, checkT T) from by rw [hE.out, if_pos hc])
    clear hE hc
    generalize checkT T = c at hck hF hcb
    have HCK := Lib.hid hck; clear hck
    go_enter Tryz.func15, Tryz.ntmps15
    go_wp2_with fail
    refine (HCK.out _ (by exact HT.out.new hb0)).mono ?_
    rintro e w1 ⟨rfl, hb1⟩
    go_wp2_with fail
    go_ret2
    exact ⟨by rw [hF.out]; rfl, hb0.trans (hb1.mono (by simp))⟩
end Go.Proofs.YthkoaakicdhnpaaGreat

namespace Go.Proofs.YthkoaakicdhnpaaGreat
open Go.RowKit

def ParOk (T : List NodeT) : Prop := ∀ m : Nat, 0 < m → m < T.length → 0 ≤ parOf T m ∧ parOf T m < m
theorem par_ok {T : List NodeT} (hc : checkT T = 0) : ParOk T := fun m h1 h2 => by
  rw [parOf_at h2]; have := (named_par (check_named hc) m h2).2 h1; omega
theorem trans_fuel {T : List NodeT} (hn : ParOk T) (s : Int) : ∀ (u f g : Nat) (b : Int), u < T.length → u ≤ f → u ≤ g → transF T s f u b = transF T s g u b := by
  intro u
  induction u using Nat.strongRecOn with
  | _ u ih =>
    intro f g b h1 hf hg
    by_cases h0 : u = 0
    · subst h0
      cases f <;> cases g <;> simp [transF]
    · obtain ⟨f, rfl⟩ : ∃ x, f = x + 1 := ⟨f - 1, by omega⟩
      obtain ⟨g, rfl⟩ : ∃ x, g = x + 1 := ⟨g - 1, by omega⟩
      simp only [transF]
      have hu0 : ¬ ((u : Int) ≤ 0) := by omega
      rw [if_neg hu0, if_neg hu0, Int.toNat_natCast]
      have hp := hn u (by omega) h1
      obtain ⟨p, hpp⟩ := Int.eq_ofNat_of_zero_le hp.1
      rw [hpp] at hp ⊢
      rw [ih p (by omega) f g b (by omega) (by omega) (by omega)]
      split
      · rfl
      · split
        · rfl
        · exact ih p (by omega) f g _ (by omega) (by omega) (by omega)
theorem trans_step {T : List NodeT} (hn : ParOk T) {k p : Nat} (hp : parOf T k = p) (h0 : 0 < p) (hl : p < T.length) (b s : Int) :
    ((windowsT T p).2.1 = true → translateT T k b s = translateT T p b s) ∧
    ((windowsT T p).2.1 = false → findW b s (windowsT T p).1 < 0 → translateT T k b s = ((0, 0), false)) ∧
    ((windowsT T p).2.1 = false → ∀ j (hj : j < (windowsT T p).1.length), findW b s (windowsT T p).1 = j → translateT T k b s = translateT T p ((windowsT T p).1[j].2.1 + (b - (windowsT T p).1[j].1)) s) := by
  obtain ⟨f, hf⟩ : ∃ x, T.length = x + 1 := ⟨T.length - 1, by omega⟩
  have hq := hn p h0 hl
  obtain ⟨u, hu⟩ := Int.eq_ofNat_of_zero_le hq.1
  have e1 : transF T s T.length (p : Int) b = (if (windowsT T p).2.1 = true then transF T s f (parOf T p) b else if findW b s (windowsT T p).1 < 0 then none else
      transF T s f (parOf T p) (((windowsT T p).1.getD (findW b s (windowsT T p).1).toNat (0, 0, 0)).2.1 + (b - ((windowsT T p).1.getD (findW b s (windowsT T p).1).toNat (0, 0, 0)).1))) := by
    rw [hf]
    simp only [transF]
    rw [if_neg (by omega), Int.toNat_natCast]
  have e2 : ∀ x, transF T s f (parOf T p) x = transF T s T.length (parOf T p) x := fun x => by
    rw [hu]; exact trans_fuel hn s u f T.length x (by omega) (by omega) (by omega)
  have e3 : translateT T k b s = transE s (transF T s T.length (p : Int) b) := by unfold translateT; rw [hp]
  refine ⟨fun h => ?_, fun h h2 => ?_, fun h j hj h2 => ?_⟩
  · rw [e3, e1, if_pos h, e2]; rfl
  · rw [e3, e1, if_neg (by rw [h]; simp), if_pos h2]; rfl
  · rw [e3, e1, if_neg (by rw [h]; simp), h2, if_neg (by omega), e2, Int.toNat_natCast]
    have : (windowsT T p).1.getD j (0, 0, 0) = (windowsT T p).1[j] := by simp [List.getD, hj]
    rw [this]; rfl
theorem trans_top {T : List NodeT} {k : Nat} (h : parOf T k = 0) (b s : Int) : translateT T k b s = ((b, s), true) := by
  unfold translateT
  rw [h]
  cases T.length <;> simp [transF, transE]
theorem win_shape {T : List NodeT} (hc : checkT T = 0) {k : Nat} (hk : k < T.length) :
    ((ofT T[k].props nmRanges).2 = false → windowsT T k = ([], false, 0)) ∧ ((ofT T[k].props nmRanges).2 = true → (ofT T[k].props nmRanges).1.size = 0 → windowsT T k = ([], true, 0)) ∧
    ((ofT T[k].props nmRanges).2 = true → (ofT T[k].props nmRanges).1.size ≠ 0 → (windowsT T k).2.1 = false) := by
  unfold windowsT
  rw [value_of hc hk]
  refine ⟨fun h => ?_, fun h h2 => ?_, fun h h2 => ?_⟩
  · rw [if_pos (.inl h), h]
  · rw [if_pos (.inr h2), h]
  · simp only
    rw [if_neg (by rintro (e | e); rw [h] at e; cases e; exact h2 e)]
    split
    · rfl
    · split
      · rfl
      · split
        · rfl
        · unfold winE; split <;> rfl
theorem find_none {b s : Int} {l : List (Int × Int × Int)} (h : ∀ i (h : i < l.length), inWinB b s l[i] = false) : findW b s l < 0 := by
  unfold findW
  rw [List.findIdx?_eq_none_iff.2 (fun x hx => by obtain ⟨i, hi, rfl⟩ := List.getElem_of_mem hx; exact h i hi)]
  decide
theorem find_first {b s : Int} {l : List (Int × Int × Int)} {j : Nat} (hj : j < l.length) (h : ∀ i (h : i < l.length), i < j → inWinB b s l[i] = false) (hy : inWinB b s l[j] = true) : findW b s l = j := by
  unfold findW
  have : l.findIdx? (inWinB b s) = some j := by
    rw [List.findIdx?_eq_some_iff_getElem]
    exact ⟨hj, hy, fun i hi => by rw [h i (by omega) hi]; simp⟩
  rw [this]
theorem empty_eq (vs : ByteArray) : (vs.size = 0 → vs.toList = []) ∧ (vs.size ≠ 0 → ¬ vs.toList = []) := ⟨fun h => (toList_nil_size vs).2 h, fun h e => h ((toList_nil_size vs).1 e)⟩

set_option maxRecDepth 100000 in
set_option maxHeartbeats 8000000 in
theorem ref11_translate (R : Nat → Prop) (v : Value) (T : List NodeT) (hch : (aCheckT T).2 = 0) : ∀ (k : Nat) (b s : Int) (w : World), 0 < k → k < T.length → NodesIn R w v T → RegOk (b, s) →
    Calls Tryz.prog 50 #[.agg #[v], .int .i64 k, .agg #[.int .i64 b, .int .i64 s]] w (TransPost T k b s w) := by
  intro k
  induction k using Nat.strongRecOn with
  | _ k ih =>
  intro b s w hk0 hk hT hrok
  have hc := aCheck_ok hch
  have hpok := par_ok hc
  obtain ⟨a, cap, rfl, hc1, hc2⟩ := hT.shape
  have HT := Lib.hid hT; clear hT
  have hlen := (limits_len (check_limits hc)).2
  obtain ⟨g, o, pa, pc, rfl, hg, c0, c1, c2, hp, p1, p2, q0, q1, q2⟩ := HT.out.at k hk
  have hpar := hpok k hk0 hk
  rw [parOf_at hk] at hpar
  have hparE : parOf T k = T[k].parent := parOf_at hk
  have hkI : (k : Int) < (T.length : Int) := by omega
  obtain ⟨p, hpe⟩ := Int.eq_ofNat_of_zero_le hpar.1
  rw [hpe] at hpar hparE c0
  have hplt : p < k := by omega
  have hpT : p < T.length := by omega
  obtain ⟨r0, r1, r2, r3, r4⟩ := hrok
  simp only at r0 r1 r2 r3 r4
  -- the memory at the beginning: the tree, the region, the result
  have hb0 : Below w.heap.size w (((w.alloc (.cells #[.slice (some ⟨g, o, none⟩) T.length cap] 25)).alloc (.cells #[.int .i64 b, .int .i64 s] 56)).alloc (.cells #[.int .i64 0, .int .i64 0] 56)) :=
    (((Below.refl w.heap.size w).alloc (Nat.le_refl _) _).alloc (by simp) _).alloc (by simp; omega) _
  have hB0 := ((Holds.new w #[.slice (some ⟨g, o, none⟩) T.length cap] 25).alloc (.cells #[.int .i64 b, .int .i64 s] 56)).alloc (.cells #[.int .i64 0, .int .i64 0] 56)
  have hR0 : Holds (((w.alloc (.cells #[.slice (some ⟨g, o, none⟩) T.length cap] 25)).alloc (.cells #[.int .i64 b, .int .i64 s] 56)).alloc (.cells #[.int .i64 0, .int .i64 0] 56)) (w.heap.size + 1) #[.int .i64 b, .int .i64 s] 56 :=
    (Holds.newAt (w := w.alloc (.cells #[.slice (some ⟨g, o, none⟩) T.length cap] 25)) (B := w.heap.size + 1) (by simp) #[.int .i64 b, .int .i64 s] 56).alloc _
  have hZ0 : Holds (((w.alloc (.cells #[.slice (some ⟨g, o, none⟩) T.length cap] 25)).alloc (.cells #[.int .i64 b, .int .i64 s] 56)).alloc (.cells #[.int .i64 0, .int .i64 0] 56)) (w.heap.size + 2) #[.int .i64 0, .int .i64 0] 56 :=
    Holds.newAt (by simp) #[.int .i64 0, .int .i64 0] 56
  by_cases hp0 : p = 0
  · subst hp0
    have hfin := Lib.hid (trans_top hparE b s)
    have bx := hB0.cell 0
    have blt := hB0.lt
    have x0 := hR0.cell 0
    have x1 := hR0.cell 1
    have xlt := hR0.lt
    have z0 := hZ0.cell 0
    have z1 := hZ0.cell 1
    have zf0 := hZ0.free 0
    have zf1 := hZ0.free 1
    have zlt := hZ0.lt
    have d0 := cell_new c0 hg hb0
    clear ih hch hc hpok hpar hparE hplt hpT hpe hk0 c0 c1 c2 hp
    go_enter Tryz.func50, Tryz.ntmps50
    go_wp2_with fail
    exact bodyPost_ret (v := .tuple #[.agg #[.int .i64 b, .int .i64 s], .bool true]) (by simp [results, Tryz.results50, go_sem]) rfl ⟨by rw [hfin.out], (((Below.refl w.heap.size w).alloc (Nat.le_refl _) _).alloc (by simp) _).alloc (by simp; omega) _⟩
  · have hp1 : 0 < p := by omega
    obtain ⟨t1, t2, t3⟩ := trans_step hpok hparE hp1 hpT b s
    obtain ⟨v1, v2, v3⟩ := win_shape hc hpT
    obtain ⟨g', o', qa, qc, e2, hg', d0, d1, d2, hpr, m1, m2, n0, n1, n2⟩ := HT.out.at p hpT
    cases e2
    have hof := fun (wx : World) hx => ref3_Of R (T[p]'hpT).parent (T[p]'hpT).name (.slice qa (T[p]'hpT).props.length qc) (T[p]'hpT).props nmRanges wx hx
    have hrg := fun wx hx => ref11_ranges R (.slice (some ⟨g, o, none⟩) T.length cap) T p wx hx hc hpT (err_pair (check_all hch p hpT)) (fun _ => by
      have h := hpok p hp1 hpT
      obtain ⟨u, hu⟩ := Int.eq_ofNat_of_zero_le h.1
      rw [hu] at h ⊢
      exact err_pair (check_all hch u (by omega)))
    have hre : rangesT T p = ((windowsT T p).1, (windowsT T p).2.2) := by unfold rangesT; rw [if_neg hp0]
    have hrn := fun (b' : Int) wx hx => ih p hplt b' s wx hp1 hpT hx
    unfold RangesPost at hrg
    rw [hre] at hrg
    simp only at hrg
    have hwo := windowsT_ok T p
    unfold TransPost at hrn
    have hpI0 : (0 : Int) < (p : Int) := by omega
    have hpI : (p : Int) < (T.length : Int) := by omega
    have HPR := Lib.hid hpr
    have HRN := Lib.hid hrn
    clear hrn hpr ih hch hpok hparE hplt hpe hk0 c1 c2 hp q0 q1 q2 n0 n1 n2 hre hpar p1 p2
    generalize ofT (T[p]'hpT).props nmRanges = V at hof v1 v2 v3
    obtain ⟨vs, vb⟩ := V
    simp only at hof v1 v2 v3
    unfold nmRanges at hof
    have HOF := Lib.hid hof
    clear hof
    generalize T[p].parent = pp at *
    generalize T[p].name = nm at *
    have f0 := cell_new c0 hg hb0
    have f1 := cell_new d0 hg' hb0
    have f2 := cell_new d1 hg' hb0
    have f3 := cell_new d2 hg' hb0
    have bx := hB0.cell 0
    have blt := hB0.lt
    cases vb with
    | false =>
      have hW := v1 rfl
      have hfin := Lib.hid (t2 (by rw [hW]) (by rw [hW]; exact find_none (fun i h => by simp at h)))
      clear t1 t2 t3 v1 v2 v3 hrg hwo hW HRN
      go_enter Tryz.func50, Tryz.ntmps50
      go_wp2_with fail
      refine (HOF.out _ (by exact HPR.out.new hb0)).mono ?_
      rintro e w2 ⟨rfl, hb1⟩
      have hZ1 := hZ0.keeps (Keeps.of_fresh hb1 (fun _ => False)) (fun e => e)
      have z0 := hZ1.cell 0
      have z1 := hZ1.cell 1
      have zf0 := hZ1.free 0
      have zf1 := hZ1.free 1
      have zlt := hZ1.lt
      have hb2 := hb0.trans (hb1.mono (by simp; omega))
      go_wp2_with fail
      exact bodyPost_ret (v := .tuple #[.agg #[.int .i64 0, .int .i64 0], .bool false]) (by simp [results, Tryz.results50, go_sem, z0, z1]) rfl ⟨by rw [hfin.out], (hb2.setCell (by simp; omega) _).setCell (by simp; omega) _⟩
    | true =>
      by_cases hz : vs.size = 0
      · have hW := v2 rfl hz
        have hfin := Lib.hid (t1 (by rw [hW]))
        have vne := (empty_eq vs).1 hz
        have hrn := HRN.out b
        generalize translateT T p b s = X at hrn hfin
        obtain ⟨⟨x1, x2⟩, xb⟩ := X
        simp only at hrn
        have HRB := Lib.hid hrn
        clear t1 t2 t3 v1 v2 v3 hrg hwo hW HRN hz hrn
        go_enter Tryz.func50, Tryz.ntmps50
        go_wp2_with fail
        refine (HOF.out _ (by exact HPR.out.new hb0)).mono ?_
        rintro e w2 ⟨rfl, hb1⟩
        have hb2 := hb0.trans (hb1.mono (by simp; omega))
        have hB1 := hB0.keeps (Keeps.of_fresh hb1 (fun _ => False)) (fun e => e)
        have hR1 := hR0.keeps (Keeps.of_fresh hb1 (fun _ => False)) (fun e => e)
        have hZ1 := hZ0.keeps (Keeps.of_fresh hb1 (fun _ => False)) (fun e => e)
        clear bx blt
        have bx := hB1.cell 0
        have blt := hB1.lt
        have x0 := hR1.cell 0
        have x1' := hR1.cell 1
        have xlt := hR1.lt
        go_wp2_with fail
        refine (HRB.out _ (by exact HT.out.new hb2) ⟨r0, r1, r2, r3, r4⟩).mono ?_
        rintro e w3 ⟨rfl, hb3⟩
        have hZ3 := hZ1.keeps (Keeps.of_fresh hb3 (fun _ => False)) (fun e => e)
        have z0 := hZ3.cell 0
        have z1 := hZ3.cell 1
        have zf0 := hZ3.free 0
        have zf1 := hZ3.free 1
        have zlt := hZ3.lt
        have hb4 := hb2.trans (hb3.mono hb2.size)
        go_wp2_with fail
        exact bodyPost_ret (v := .tuple #[.agg #[.int .i64 x1, .int .i64 x2], .bool xb]) (by simp [results, Tryz.results50, go_sem, z0, z1]) rfl ⟨by rw [hfin.out], (hb4.setCell (by simp; omega) _).setCell (by simp; omega) _⟩
      · have hW := v3 rfl hz
        have vne := (empty_eq vs).2 hz
        have vne2 : vs.toList.isEmpty = false := by simpa using vne
        have t2' := Lib.hid (t2 hW)
        have t3' := Lib.hid (t3 hW)
        clear t1 t2 t3 v1 v2 v3 hz hW
        generalize windowsT T p = WV at t2' t3' hrg hwo
        obtain ⟨l, wb, we⟩ := WV
        simp only at t2' t3' hrg hwo
        obtain ⟨hll, hwok⟩ := hwo
        have HRG := Lib.hid hrg
        have HWO := Lib.hid hwok
        clear hrg hwok
        go_enter Tryz.func50, Tryz.ntmps50
        go_wp2_with fail
        refine (HOF.out _ (by exact HPR.out.new hb0)).mono ?_
        rintro e w2 ⟨rfl, hb1⟩
        have hb2 := hb0.trans (hb1.mono (by simp; omega))
        have hB1 := hB0.keeps (Keeps.of_fresh hb1 (fun _ => False)) (fun e => e)
        have hR1 := hR0.keeps (Keeps.of_fresh hb1 (fun _ => False)) (fun e => e)
        have hZ1 := hZ0.keeps (Keeps.of_fresh hb1 (fun _ => False)) (fun e => e)
        clear bx blt
        have bx := hB1.cell 0
        have blt := hB1.lt
        have hs2 := hb2.size
        go_wp2_with fail
        refine (HRG.out _ (by exact HT.out.new hb2)).mono ?_
        rintro e w3 ⟨rv, rfl, hown, hb3⟩
        obtain ⟨ra, rc, rfl⟩ := owns_slice hown
        have hB3 := hB1.keeps (Keeps.of_fresh hb3 (fun _ => False)) (fun e => e)
        have hR3 := hR1.keeps (Keeps.of_fresh hb3 (fun _ => False)) (fun e => e)
        have hZ3 := hZ1.keeps (Keeps.of_fresh hb3 (fun _ => False)) (fun e => e)
        have hb4 := hb2.trans (hb3.mono hs2)
        have hs4 := hb4.size
        have HO := Lib.hid hown
        clear bx blt hB0 hR0 hZ0 hB1 hR1 hZ1 f0 f1 f2 f3 hown
        go_wp2_with fail
        go_loopg [54] (l.length) (fun f x wr => ∃ j : Nat, x = .int .i64 j ∧ j ≤ l.length ∧ l.length ≤ j + f ∧ Hid (∀ i (h : i < l.length), i < j → inWinB b s l[i] = false) ∧ Below w3.heap.size w3 wr)
        case atStart => exact ⟨0, rfl, by omega, by omega, Lib.hid (fun i _ h => absurd h (Nat.not_lt_zero i)), Below.refl _ _⟩
        case round =>
          obtain ⟨j, rfl, hj, hf, hN, hb⟩ := hrel
          have hB5 := hB3.keeps (Keeps.of_fresh hb (fun _ => False)) (fun e => e)
          have hR5 := hR3.keeps (Keeps.of_fresh hb (fun _ => False)) (fun e => e)
          have hZ5 := hZ3.keeps (Keeps.of_fresh hb (fun _ => False)) (fun e => e)
          have hb6 := hb4.trans (hb.mono hs4)
          have x0 := hR5.cell 0
          have x1' := hR5.cell 1
          have xlt := hR5.lt
          by_cases hlt : j < l.length
          · obtain ⟨gw, cw, e1, hcw, hgw, _, k0, k1, k2⟩ := tri_cells_at (row_new HO.out hb) j hlt
            cases e1
            obtain ⟨y0, y1, y2, y3, y4⟩ := HWO.out l[j] (List.getElem_mem hlt)
            have hyw : inWinB b s l[j] = (decide (l[j].1 ≤ b) && decide (b - l[j].1 ≤ l[j].2.2 - max s 1)) := rfl
            have HT3 := Lib.hid (t3'.out j hlt)
            have hff := Lib.hid (find_first (b := b) (s := s) hlt (fun i h h2 => hN.out i h h2))
            have hNn : Hid (inWinB b s l[j] = false → ∀ i (h : i < l.length), i < j + 1 → inWinB b s l[i] = false) := by
              show _ → _
              intro h i hi h2
              by_cases e : i = j
              · subst e; exact h
              · exact hN.out i hi (by omega)
            generalize hYb : inWinB b s l[j] = yb at hyw hff hNn
            clear hYb
            generalize l[j] = Y at *
            obtain ⟨a1, a2, a3⟩ := Y
            simp only at k0 k1 k2 y0 y1 y2 y3 y4 hyw HT3
            have bx := hB5.cell 0
            have blt := hB5.lt
            by_cases hin1 : a1 ≤ b
            · by_cases hin2 : b - a1 ≤ a3 - max s 1
              · have hyb : yb = true := by rw [hyw, decide_eq_true hin1, decide_eq_true hin2]; rfl
                clear hyw
                subst hyb
                have hfin := Lib.hid (HT3.out (hff.out rfl))
                have hrn := HRN.out (a2 + (b - a1))
                have hin3 : b - a1 + max s 1 ≤ a3 := by omega
                have hro : RegOk (a2 + (b - a1), s) := ⟨by show (0 : Int) ≤ _; omega, by show _ ≤ (4611686018427387903 : Int); omega, r2, r3, by show _ ≤ (4611686018427387903 : Int); omega⟩
                generalize translateT T p (a2 + (b - a1)) s = X at hrn hfin
                obtain ⟨⟨x1, x2⟩, xb⟩ := X
                simp only at hrn
                have HRB := Lib.hid hrn
                have hbN := hb6.alloc hb6.size (.cells #[.int .i64 a1, .int .i64 a2, .int .i64 a3] 122)
                have hZN := hZ5.alloc (.cells #[.int .i64 a1, .int .i64 a2, .int .i64 a3] 122)
                clear hrn HRN t2' HWO hN hNn hff HT3
                go_wp2_with fail
                rw [show b - a1 + a2 = a2 + (b - a1) from by omega]
                refine (HRB.out _ (by exact HT.out.new hbN) hro).mono ?_
                rintro e w6 ⟨rfl, hb7⟩
                have hZ7 := hZN.keeps (Keeps.of_fresh hb7 (fun _ => False)) (fun e => e)
                have z0 := hZ7.cell 0
                have z1 := hZ7.cell 1
                have zf0 := hZ7.free 0
                have zf1 := hZ7.free 1
                have zlt := hZ7.lt
                have hb8 := hbN.trans (hb7.mono hbN.size)
                go_wp2_with fail
                exact bodyPost_ret (v := .tuple #[.agg #[.int .i64 x1, .int .i64 x2], .bool xb]) (by simp [results, Tryz.results50, go_sem, z0, z1]) rfl ⟨by rw [hfin.out], (hb8.setCell (by simp; omega) _).setCell (by simp; omega) _⟩
              · have hyb : yb = false := by rw [hyw, decide_eq_true hin1, decide_eq_false hin2]; rfl
                clear hyw
                subst hyb
                have hin3 : ¬ (b - a1 + max s 1 ≤ a3) := by omega
                go_wp2_with fail
                go_roundg (gk - 1)
                case measure => omega
                case rel => exact ⟨j + 1, by go_num, by omega, by omega, Lib.hid (hNn.out trivial), hb.alloc hb.size _⟩
            · have hyb : yb = false := by rw [hyw, decide_eq_false hin1]; rfl
              clear hyw
              subst hyb
              go_wp2_with fail
              go_roundg (gk - 1)
              case measure => omega
              case rel => exact ⟨j + 1, by go_num, by omega, by omega, Lib.hid (hNn.out trivial), hb.alloc hb.size _⟩
          · have hfin := Lib.hid (t2'.out (find_none (fun i h => hN.out i h (by omega))))
            have z0 := hZ5.cell 0
            have z1 := hZ5.cell 1
            have zf0 := hZ5.free 0
            have zf1 := hZ5.free 1
            have zlt := hZ5.lt
            go_wp2_with fail
            exact bodyPost_ret (v := .tuple #[.agg #[.int .i64 0, .int .i64 0], .bool false]) (by simp [results, Tryz.results50, go_sem, z0, z1]) rfl ⟨by rw [hfin.out], (hb6.setCell (by simp; omega) _).setCell (by simp; omega) _⟩
end Go.Proofs.YthkoaakicdhnpaaGreat

namespace Go.Proofs.YthkoaakicdhnpaaGreat
open Go.RowKit

set_option maxRecDepth 100000 in
set_option maxHeartbeats 2000000 in
theorem ref11_below (R : Nat → Prop) (v : Value) (T : List NodeT) (a b : Int) (w : World) (hT : NodesIn R w v T) (hc : checkT T = 0) (ha : 0 ≤ a) (hb0 : 0 ≤ b) (hb1 : b < T.length) :
    Calls Tryz.prog 51 #[.agg #[v], .int .i64 b, .int .i64 a] w fun e w' => e = .returned (.bool (aboveT T a b)) ∧ Below w.heap.size w w' := by
  obtain ⟨va, cap, rfl, hc1, hc2⟩ := hT.shape
  have HT := Lib.hid hT; clear hT
  have HNM := Lib.hid (check_named hc)
  have hlen := (limits_len (check_limits hc)).2
  clear hc
  go_enter Tryz.func51, Tryz.ntmps51
  go_wp2_with fail
  go_loopg [1] (T.length) (fun f x wr => ∃ (u : Int) (n : Nat), x = .int .i64 u ∧ 0 ≤ u ∧ u < T.length ∧ u ≤ f ∧ u ≤ n ∧ Hid (aboveT T a b = aboveF T a n u) ∧
    Holds wr w.heap.size #[.slice va T.length cap] 25 ∧ Below w.heap.size w wr)
  case atStart => exact ⟨b, T.length, rfl, hb0, hb1, by omega, by omega, rfl, Holds.new _ _ _, (Below.refl _ _).alloc (Nat.le_refl _) _⟩
  case round =>
    obtain ⟨u, n, rfl, hu0, hu1, hf, hn, hA, hB, hb⟩ := hrel
    have bx := hB.cell 0
    have blt := hB.lt
    by_cases hup : a < u
    · obtain ⟨m, rfl⟩ := Int.eq_ofNat_of_zero_le hu0
      have hm : m < T.length := by omega
      obtain ⟨n, rfl⟩ : ∃ n', n = n' + 1 := ⟨n - 1, by omega⟩
      obtain ⟨g, o, pa, pc, rfl, hg, c0, c1, c2, hp, p1, p2, q0, q1, q2⟩ := (HT.out.new hb).at m hm
      have hpar := (named_par HNM.out m hm).2 (by omega)
      have hS := Lib.hid (show aboveT T a b = aboveF T a n T[m].parent from by
        rw [hA.out]; simp only [aboveF]; rw [if_pos hup, Int.toNat_natCast, parOf_at hm])
      generalize T[m].parent = pp at c0 hpar hS
      obtain ⟨hp0, hp1⟩ := hpar
      clear c1 c2 hp q0 q1 q2
      go_wp2_with fail
      go_roundg (gk - 1)
      case measure => omega
      case rel => exact ⟨pp, n, rfl, by omega, by omega, by omega, by omega, hS, hB, hb⟩
    · have hfin := Lib.hid (show aboveT T a b = (u == a) from by
        rw [hA.out, Bool.beq_comm]
        cases n with
        | zero => rfl
        | succ n => simp only [aboveF]; rw [if_neg hup])
      go_wp2_with fail
      go_ret
      exact ⟨by rw [hfin.out]; rfl, hb⟩

theorem quad_fst (l : List ((Int × Int) × Int × Int)) (p : (Int × Int) × Int × Int) : pairCells ((l ++ [p]).map (·.1)) = pairCells (l.map (·.1)) ++ [.int .i64 p.1.1, .int .i64 p.1.2] := by simp [pairCells]
theorem quad_snd (l : List ((Int × Int) × Int × Int)) (p : (Int × Int) × Int × Int) : pairCells ((l ++ [p]).map (·.2)) = pairCells (l.map (·.2)) ++ [.int .i64 p.2.1, .int .i64 p.2.2] := by simp [pairCells]
theorem apart_sym {a b : Value} (h : a.ownBlock ≠ b.ownBlock) : a.ownBlock = none ∨ a.ownBlock ≠ b.ownBlock := .inr h
/-- A row of later making does not lie in an older one's block. -/
theorem row_later {w w' : World} {b1 : Nat} {e1 e2 : TypeId} {s1 s2 : Nat} {v1 v2 : Value} {n1 n2 : Nat} {x1 x2 : List Value} (h1 : w'.ownsRow w.heap.size e1 s1 v1 n1 x1) (h2 : w.ownsRow b1 e2 s2 v2 n2 x2) : v1.ownBlock = none ∨ v1.ownBlock ≠ v2.ownBlock := by
  rcases h1.2 with ⟨rfl, _⟩ | ⟨g, c, cur, rfl, hg, _⟩
  · exact .inl rfl
  · refine .inr fun e => ?_
    have := (h2.lt g (by rw [← e]; rfl)).2
    omega

set_option maxRecDepth 100000 in
set_option maxHeartbeats 8000000 in
theorem ref11_Overlaps (R : Nat → Prop) (v : Value) (T : List NodeT) (w : World) (hT : NodesIn R w v T) :
    Calls Tryz.prog 17 #[.agg #[v]] w (OverPost T w) := by
  obtain ⟨a, cap, rfl, hc1, hc2⟩ := hT.shape
  have HT := Lib.hid hT; clear hT
  have hck := fun wx hx => ref11_Check R (.slice a T.length cap) T wx hx
  have hE := Lib.hid (show overlapsT T = if (aCheckT T).2 ≠ 0 then ([], (aCheckT T).2) else (hitsF T (foundT T), 0) from rfl)
  have hb0 : Below w.heap.size w (w.alloc (.cells #[.slice a T.length cap] 25)) := (Below.refl w.heap.size w).alloc (Nat.le_refl _) _
  have hB0 := Holds.new w #[.slice a T.length cap] 25
  generalize hCC : aCheckT T = C at hck hE
  have HCC := Lib.hid hCC; clear hCC
  obtain ⟨ci, c⟩ := C
  simp only at hck
  have HCK := Lib.hid hck; clear hck
  by_cases hc : c = 0
  · subst hc
    have HCH := Lib.hid (show (aCheckT T).2 = 0 from by rw [HCC.out])
    have HC0 := Lib.hid (aCheck_ok HCH.out)
    have hE2 := Lib.hid (show overlapsT T = (hitsF T (foundT T), 0) from by rw [hE.out, if_neg (by simp)])
    have hlen := (limits_len (check_limits HC0.out)).2
    obtain ⟨hfl, hfo⟩ := foundT_ok T
    have HFO := Lib.hid hfo; clear hfo
    have HHL := Lib.hid (hitsF_len T _ (foundT T) (Nat.le_refl _))
    have hfl2 : (foundT T).length ≤ 30720 := by omega
    clear hE hfl
    go_enter Tryz.func17, Tryz.ntmps17
    go_wp2_with fail
    refine (HCK.out _ (by exact HT.out.new hb0)).mono ?_
    rintro e w1 ⟨rfl, hb1⟩
    have hb2 := hb0.trans (hb1.mono (by simp))
    have hB1 := hB0.keeps (Keeps.of_fresh hb1 (fun _ => False)) (fun e => e)
    have bx1 := hB1.cell 0
    have blt1 := hB1.lt
    have hs2 := hb2.size
    go_wp2_with fail
    go_loopg [6, 7, 31] (T.length) (fun f x y z wr => ∃ (i : Nat) (l : List ((Int × Int) × Int × Int)), z = .int .i64 i ∧ i ≤ T.length ∧ T.length ≤ i + f ∧ wr.ownsRow w1.heap.size 91 2 x l.length (pairCells (l.map (·.1))) ∧ wr.ownsRow w1.heap.size 56 2 y l.length (pairCells (l.map (·.2))) ∧
      Hid (foundT T = l ++ foundF T (T.length - i) i) ∧ Below w1.heap.size w1 wr)
    case atStart => exact ⟨0, [], rfl, by omega, by omega, World.ownsRow_nil _ _ _ _, World.ownsRow_nil _ _ _ _, by show _ = _; rfl, Below.refl _ _⟩
    case round =>
      obtain ⟨i, l, rfl, hi, hf, hownP, hownA, hG, hb⟩ := hrel
      obtain ⟨pa, pc, rfl⟩ := owns_slice hownP
      obtain ⟨oa, oc, rfl⟩ := owns_slice hownA
      have hbs := hb.size
      have hB := hB1.keeps (Keeps.of_fresh hb (fun _ => False)) (fun e => e)
      have bx := hB.cell 0
      have blt := hB.lt
      have hbw := hb2.trans (hb.mono hs2)
      obtain ⟨wo, rfl⟩ : ∃ x : World, x = wr := ⟨_, rfl⟩
      obtain ⟨go, rfl⟩ : ∃ x : Nat, x = gk := ⟨_, rfl⟩
      clear bx1 blt1
      by_cases hlt : i < T.length
      · have hrg := fun wx hx => ref11_regions R (.slice a T.length cap) T i wx hx HC0.out hlt
        have hRK := Lib.hid (regionsT_ok T i)
        have hrl := regionsT_len T i
        have hr0 := Lib.hid (show i = 0 → (regionsT T i).1 = [] from fun h => by unfold regionsT; rw [if_pos h])
        have hst := Lib.hid (show foundF T (T.length - i) i = foundRow T i 0 (regionsT T i).1 ++ foundF T (T.length - (i + 1)) (i + 1) from by
          rw [show T.length - i = (T.length - (i + 1)) + 1 from by omega]; rfl)
        unfold RegionsPost at hrg
        generalize regionsT T i = C at hrg hRK hrl hst hr0
        obtain ⟨rl, er⟩ := C
        simp only at hrg hrl
        have HRG := Lib.hid hrg; clear hrg
        go_wp2_with fail
        refine (HRG.out _ (by exact HT.out.new hbw)).mono ?_
        rintro e w2 ⟨rv, rfl, hownR, hb3⟩
        obtain ⟨ra, rc, rfl⟩ := owns_slice hownR
        have hap0 := row_later hownR hownA
        have hap1 := row_later hownR hownP
        have hownP2 := row_new hownP hb3
        have hownA2 := row_new hownA hb3
        have hb4 := hb.trans (hb3.mono hbs)
        clear bx blt hB hbw hownP hownA
        go_wp2_with fail
        go_loopg [6, 7, 42] (rl.length) (fun f x y z wq => ∃ (k : Nat) (l2 : List ((Int × Int) × Int × Int)), z = .int .i64 k ∧ k ≤ rl.length ∧ rl.length ≤ k + f ∧ wq.ownsRow w1.heap.size 91 2 x l2.length (pairCells (l2.map (·.1))) ∧ wq.ownsRow w1.heap.size 56 2 y l2.length (pairCells (l2.map (·.2))) ∧
          ((.slice ra rl.length rc : Value).ownBlock = none ∨ (.slice ra rl.length rc : Value).ownBlock ≠ x.ownBlock) ∧ ((.slice ra rl.length rc : Value).ownBlock = none ∨ (.slice ra rl.length rc : Value).ownBlock ≠ y.ownBlock) ∧
          Hid (foundT T = (l2 ++ foundRow T i k (rl.drop k)) ++ foundF T (T.length - (i + 1)) (i + 1)) ∧ wq.ownsRow wo.heap.size 56 2 (.slice ra rl.length rc) rl.length (pairCells rl) ∧ Below w1.heap.size w1 wq)
        case atStart =>
          refine ⟨0, l, rfl, by omega, by omega, hownP2, hownA2, hap1, hap0, ?_, hownR, hb4⟩
          show _ = _
          rw [hG.out, hst.out, List.drop_zero, List.append_assoc]
        case round =>
          obtain ⟨k, l2, rfl, hk, hfk, hownP3, hownA3, hapP, hapA, hG3, hR3, hb5⟩ := hrel
          obtain ⟨pa3, pc3, rfl⟩ := owns_slice hownP3
          obtain ⟨qa, qc, rfl⟩ := owns_slice hownA3
          have hbs5 := hb5.size
          have hB5 := hB1.keeps (Keeps.of_fresh hb5 (fun _ => False)) (fun e => e)
          have bx := hB5.cell 0
          have blt := hB5.lt
          have hbw5 := hb2.trans (hb5.mono hs2)
          by_cases hkl : k < rl.length
          · obtain ⟨gR, cR, e1, hcR, hgR, _, d0, d1⟩ := pair_cells_at hR3 k hkl
            cases e1
            have hi0 : 0 < i := by
              rcases Nat.eq_zero_or_pos i with e | e
              · have := hr0.out e; rw [this] at hkl; simp at hkl
              · exact e
            have hst2 := Lib.hid (show foundRow T i k (rl.drop k) = placeT T i k rl[k] ++ foundRow T i (k + 1) (rl.drop (k + 1)) from by rw [List.drop_eq_getElem_cons hkl]; rfl)
            have hro := hRK.out rl[k] (List.getElem_mem hkl)
            have hl2 : l2.length + (placeT T i k rl[k]).length ≤ 30720 := by
              have := congrArg List.length hG3.out
              rw [hst2.out] at this
              simp at this
              omega
            generalize rl[k] = p at d0 d1 hst2 hro hl2
            obtain ⟨pb, ps⟩ := p
            have htr := fun wx hx => ref11_translate R (.slice a T.length cap) T HCH.out i pb ps wx hi0 hlt hx hro
            have hpl := Lib.hid (show placeT T i k (pb, ps) = if (translateT T i pb ps).2 = true then [(((i : Int), (k : Int)), (translateT T i pb ps).1)] else [] from rfl)
            unfold TransPost at htr
            rw [hpl.out] at hl2
            generalize translateT T i pb ps = X at htr hpl hl2
            obtain ⟨⟨x1, x2⟩, xb⟩ := X
            simp only at htr hl2
            have HTR := Lib.hid htr; clear htr hro
            have hba : Below w1.heap.size w1 (wr.alloc (.cells #[.int .i64 pb, .int .i64 ps] 56)) := hb5.alloc hbs5 _
            cases xb with
            | true =>
              simp only [if_true, List.length_singleton] at hl2
              have hP := Lib.hid (show foundRow T i k (rl.drop k) = [(((i : Int), (k : Int)), (x1, x2))] ++ foundRow T i (k + 1) (rl.drop (k + 1)) from by rw [hst2.out, hpl.out, if_pos rfl])
              clear hst2 hpl
              go_wp2_with fail
              refine (HTR.out _ (by exact HT.out.new (hb2.trans (hba.mono hs2)))).mono ?_
              rintro e w3 ⟨rfl, hb6⟩
              have hb7 := hba.trans (hb6.mono (by simp; omega))
              have hownP4 := (row_new (hownP3.alloc (.cells #[.int .i64 pb, .int .i64 ps] 56)) hb6).alloc (.cells #[.int .i64 x1, .int .i64 x2] 56)
              have hownA4 := (row_new (hownA3.alloc (.cells #[.int .i64 pb, .int .i64 ps] 56)) hb6).alloc (.cells #[.int .i64 x1, .int .i64 x2] 56)
              have hR4 := (row_new (hR3.alloc (.cells #[.int .i64 pb, .int .i64 ps] 56)) hb6).alloc (.cells #[.int .i64 x1, .int .i64 x2] 56)
              have hX4 := Holds.new w3 #[.int .i64 x1, .int .i64 x2] 56
              have hb8 := hb7.alloc hb7.size (.cells #[.int .i64 x1, .int .i64 x2] 56)
              have hs8 := hb8.size
              have hza : ∀ v : Value, (∀ g, v.ownBlock = some g → g < w3.heap.size) → v.ownBlock ≠ some w3.heap.size := fun v h e => Nat.lt_irrefl _ (h _ e)
              have hzP := hza _ (fun g e => ((row_new (hownP3.alloc (.cells #[.int .i64 pb, .int .i64 ps] 56)) hb6).lt g e).2)
              have hzA := hza _ (fun g e => ((row_new (hownA3.alloc (.cells #[.int .i64 pb, .int .i64 ps] 56)) hb6).lt g e).2)
              clear d0 d1 hza
              go_upto_region 15 with fail
              refine wp_region_any (by kernel_rfl) ?_
              refine wpAny_ops (ops' := rovOps) (by kernel_rfl) ?_
              refine rov_region i k w3.heap.size x1 x2 w1.heap.size l2.length _ (.slice pa3 l2.length pc3) _ (.slice qa l2.length qc) wo.heap.size (.slice (some ⟨gR, 0, none⟩) rl.length rc) rl.length (pairCells rl) w1.heap.size (w3.alloc (.cells #[.int .i64 x1, .int .i64 x2] 56)) _ _ rfl hs8 (Nat.le_refl _) hs8 (by omega) (Nat.le_refl _) hs8 (by omega) (fun g e => (hownP4.lt g e).2) (fun g e => (hownA4.lt g e).2) hapP hapA hzP hzA rfl rfl rfl rfl rfl (Below.refl _ _).drew hownP4.drew hownA4.drew hR4.drew hX4.drew ?_
              intro c w5 v0 v1 hsb hb9 h6 hownP5 hk0 h7 hownA5 hk1 hR5
              obtain ⟨y6, y7, y55, y56, y57, y58, y59, y60, y61, y62, y63, y64, hcc⟩ := hsb.ex [6, 7, 55, 56, 57, 58, 59, 60, 61, 62, 63, 64] (by kernel_rfl)
              subst hcc
              simp only [List.setIfInBounds_toArray, List.set_cons_zero, List.set_cons_succ] at h6 h7 ⊢
              have e6 : y6 = v0 := h6
              have e7 : y7 = v1 := h7
              subst e6 e7
              have hb10 := hb8.trans hb9
              clear hsb h6 h7 hb8 hb9 hX4 hR4 hownP4 hownA4 hzP hzA
              go_wp2_with fail
              go_roundg (gk - 1)
              case measure => omega
              case rel =>
                refine ⟨k + 1, l2 ++ [(((i : Int), (k : Int)), (x1, x2))], by go_num, by omega, by omega, by rw [quad_fst, List.length_append]; exact hownP5, by rw [quad_snd, List.length_append]; exact hownA5, .inr hk0, .inr hk1, ?_, hR5, hb10⟩
                show _ = _
                rw [hG3.out, hP.out]; simp
            | false =>
              have hP := Lib.hid (show foundRow T i k (rl.drop k) = foundRow T i (k + 1) (rl.drop (k + 1)) from by rw [hst2.out, hpl.out, if_neg (by simp)]; rfl)
              clear hst2 hpl
              go_wp2_with fail
              refine (HTR.out _ (by exact HT.out.new (hb2.trans (hba.mono hs2)))).mono ?_
              rintro e w3 ⟨rfl, hb6⟩
              have hb7 := hba.trans (hb6.mono (by simp; omega))
              have hownP4 := row_new (hownP3.alloc (.cells #[.int .i64 pb, .int .i64 ps] 56)) hb6
              have hownA4 := row_new (hownA3.alloc (.cells #[.int .i64 pb, .int .i64 ps] 56)) hb6
              have hR4 := row_new (hR3.alloc (.cells #[.int .i64 pb, .int .i64 ps] 56)) hb6
              clear d0 d1
              go_wp2_with fail
              go_roundg (gk - 1)
              case measure => omega
              case rel =>
                refine ⟨k + 1, l2, by go_num, by omega, by omega, hownP4.alloc _, hownA4.alloc _, hapP, hapA, ?_, hR4.alloc _, hb7.alloc hb7.size _⟩
                show _ = _
                rw [hG3.out, hP.out]
          · have hP := Lib.hid (show foundT T = l2 ++ foundF T (T.length - (i + 1)) (i + 1) from by
              rw [hG3.out, List.drop_eq_nil_of_le (by omega)]; simp [foundRow])
            go_wp2_with fail
            go_roundg (go - 1)
            case measure => omega
            case rel => exact ⟨i + 1, l2, by go_num, by omega, by omega, hownP3, hownA3, hP, hb5⟩
      · have hF := Lib.hid (show foundT T = l from by rw [hG.out, show T.length - i = 0 from by omega]; simp [foundF])
        have hll : l.length ≤ 30720 := by rw [← hF.out]; exact hfl2
        have HEND := Lib.hid (show overlapsT T = (hitsF T l, 0) from by rw [hE2.out, hF.out])
        have hhl := HHL.out
        rw [hF.out] at hhl
        have HHL2 := Lib.hid (show (hitsF T l).length ≤ 943718400 from Nat.le_trans hhl (Nat.le_trans (Nat.mul_le_mul hll hll) (by decide)))
        have HFO2 : Hid (∀ x ∈ l, FoundOk T.length x) := by show _; rw [← hF.out]; exact HFO.out
        have HP : Hid (wo.ownsRow w1.heap.size 91 2 (.slice pa l.length pc) (l.map (·.1)).length (pairCells (l.map (·.1)))) := by show _; rw [List.length_map]; exact hownP
        have HA : Hid (wo.ownsRow w1.heap.size 56 2 (.slice oa l.length oc) (l.map (·.2)).length (pairCells (l.map (·.2)))) := by show _; rw [List.length_map]; exact hownA
        clear hhl HHL HFO hE2 hG bx blt hownP hownA
        go_wp2_with fail
        go_loopg [15, 69] (l.length) (fun f x y wr => ∃ (j : Nat) (out : List ((Int × Int) × Int × Int)), y = .int .i64 j ∧ j ≤ l.length ∧ l.length ≤ j + f ∧ wr.ownsRow wo.heap.size 96 4 x out.length (quadCells out) ∧
          Hid (hitsF T l = out ++ hitsF T (l.drop j)) ∧ Below wo.heap.size wo wr)
        case atStart => exact ⟨0, [], rfl, by omega, by omega, World.ownsRow_nil _ _ _ _, by show _ = _; rw [List.drop_zero]; rfl, Below.refl _ _⟩
        case round =>
          obtain ⟨j, out, rfl, hj, hfj, hown2, hG2, hc2'⟩ := hrel
          obtain ⟨wp, rfl⟩ : ∃ x : World, x = wr := ⟨_, rfl⟩
          obtain ⟨gp, rfl⟩ : ∃ x : Nat, x = gk := ⟨_, rfl⟩
          obtain ⟨oa2, oc2, rfl⟩ := owns_slice hown2
          have hbs2 := hc2'.size
          by_cases hjl : j < l.length
          · obtain ⟨gl, cl, e1, hcl, hgl, _, d0, d1⟩ := pair_cells_at HP.out j (by rw [List.length_map]; exact hjl)
            obtain ⟨gx, cx, e2, hcx, hgx, _, k0, k1⟩ := pair_cells_at HA.out j (by rw [List.length_map]; exact hjl)
            rw [List.length_map] at e1 e2
            cases e1
            cases e2
            simp only [List.getElem_map] at d0 d1 k0 k1
            have f0 := cell_new d0 hgl hc2'
            have f1 := cell_new d1 hgl hc2'
            have hX := HFO2.out l[j] (List.getElem_mem hjl)
            have hst : Hid (hitsF T (l.drop j) = hitRow T l[j] (l.drop (j + 1)) ++ hitsF T (l.drop (j + 1))) := by show _ = _; rw [List.drop_eq_getElem_cons hjl]; rfl
            generalize l[j] = X at f0 f1 k0 k1 hX hst
            obtain ⟨⟨xn, xk⟩, xb, xs⟩ := X
            obtain ⟨n0, n1, hxr⟩ := hX
            simp only at n0 n1 hxr f0 f1 k0 k1
            clear d0 d1 hcl hcx
            have hjI : (j : Int) < (l.length : Int) := by omega
            have hbX : Below wo.heap.size wo (wp.alloc (.cells #[.int .i64 xn, .int .i64 xk] 91)) := hc2'.alloc hbs2 _
            have hX0 := Holds.new wp #[.int .i64 xn, .int .i64 xk] 91
            have hownX := hown2.alloc (.cells #[.int .i64 xn, .int .i64 xk] 91)
            go_wp2_with fail
            go_loopg [15, 18] (l.length) (fun f x y wr => ∃ (q : Nat) (o2 : List ((Int × Int) × Int × Int)), y = .int .i64 q ∧ j + 1 ≤ q ∧ q ≤ l.length ∧ l.length ≤ q + f ∧ wr.ownsRow wo.heap.size 96 4 x o2.length (quadCells o2) ∧
              Hid (hitsF T l = (o2 ++ hitRow T ((xn, xk), (xb, xs)) (l.drop q)) ++ hitsF T (l.drop (j + 1))) ∧ Holds wr wp.heap.size #[.int .i64 xn, .int .i64 xk] 91 ∧ Below wo.heap.size wo wr)
            case atStart =>
              refine ⟨j + 1, out, by go_num, by omega, by omega, by omega, hownX, ?_, hX0, hbX⟩
              show _ = _
              rw [hG2.out, hst.out, List.append_assoc]
            case round =>
              obtain ⟨q, o2, rfl, hq0, hq, hfq, hown5, hG5, hX5, hb5⟩ := hrel
              obtain ⟨oa5, oc5, rfl⟩ := owns_slice hown5
              have hs5 := hb5.size
              have hol : o2.length ≤ 943718400 := by
                have := congrArg List.length hG5.out
                simp at this
                have h2 := HHL2.out
                omega
              by_cases hql : q < l.length
              · have hqI : (q : Int) < (l.length : Int) := by omega
                obtain ⟨gl', cl', e1, hcl', hgl', _, d0, d1⟩ := pair_cells_at HP.out q (by rw [List.length_map]; exact hql)
                obtain ⟨gx', cx', e2, hcx', hgx', _, t0, t1⟩ := pair_cells_at HA.out q (by rw [List.length_map]; exact hql)
                rw [List.length_map] at e1 e2
                cases e1
                cases e2
                simp only [List.getElem_map] at d0 d1 t0 t1
                have y0 := cell_new d0 hgl' hb5
                have y1 := cell_new d1 hgl' hb5
                have hY := HFO2.out l[q] (List.getElem_mem hql)
                have hst2 : Hid (hitRow T ((xn, xk), (xb, xs)) (l.drop q) = (if hitB T ((xn, xk), (xb, xs)) l[q] = true then [((xn, xk), l[q].1)] else []) ++ hitRow T ((xn, xk), (xb, xs)) (l.drop (q + 1))) := by
                  show _ = _
                  rw [List.drop_eq_getElem_cons hql]; rfl
                generalize l[q] = Y at y0 y1 t0 t1 hY hst2
                obtain ⟨⟨yn, yk⟩, yb, ys⟩ := Y
                obtain ⟨m0, m1, hyr⟩ := hY
                simp only at m0 m1 hyr y0 y1 t0 t1
                clear d0 d1
                have hbY : Below wo.heap.size wo (wr.alloc (.cells #[.int .i64 yn, .int .i64 yk] 91)) := hb5.alloc hs5 _
                have hY0 := Holds.new wr #[.int .i64 yn, .int .i64 yk] 91
                have hX6 := hX5.alloc (.cells #[.int .i64 yn, .int .i64 yk] 91)
                have hown6 := hown5.alloc (.cells #[.int .i64 yn, .int .i64 yk] 91)
                have hB6 := hB1.keeps (Keeps.of_fresh (hb.trans (hbY.mono hbs)) (fun _ => False)) (fun e => e)
                have bx := hB6.cell 0
                have blt := hB6.lt
                have x0 := hX6.cell 0
                have x1 := hX6.cell 1
                have xlt := hX6.lt
                have z0 := hY0.cell 0
                have z1 := hY0.cell 1
                have zlt := hY0.lt
                have hsY := hbY.size
                have hab := ref11_below R (.slice a T.length cap) T xn yn (wr.alloc (.cells #[.int .i64 yn, .int .i64 yk] 91)) (by exact HT.out.new (hb2.trans ((hb.trans (hbY.mono hbs)).mono hs2))) HC0.out n0 m0 m1
                have hhit : hitB T ((xn, xk), (xb, xs)) ((yn, yk), (yb, ys)) = (commonB (xb, xs) (yb, ys) && !aboveT T xn yn) := rfl
                generalize aboveT T xn yn = ab at hab hhit
                have HHIT := Lib.hid hhit
                clear hhit
                go_wp2_with fail
                refine hab.mono ?_
                rintro e w8 ⟨rfl, hb8⟩
                clear hab
                have hbm3 := hbY.trans (hb8.mono hsY)
                have hX8 := hX6.keeps (Keeps.of_fresh hb8 (fun _ => False)) (fun e => e)
                have hY8 := hY0.keeps (Keeps.of_fresh hb8 (fun _ => False)) (fun e => e)
                have hown8 := row_new hown6 hb8
                have hs8 := hbm3.size
                clear bx blt x0 x1 xlt z0 z1 zlt y0 y1
                cases ab with
                | true =>
                  have hF3 : Hid (hitsF T l = (o2 ++ hitRow T ((xn, xk), (xb, xs)) (l.drop (q + 1))) ++ hitsF T (l.drop (j + 1))) := by
                    show _ = _
                    rw [hG5.out, hst2.out, HHIT.out, if_neg (by simp)]; rfl
                  go_wp2_with fail
                  go_roundg (gk - 1)
                  case measure => omega
                  case rel => exact ⟨q + 1, o2, by go_num, by omega, by omega, by omega, hown8, hF3, hX8, hbm3⟩
                | false =>
                  go_upto_region 27 with fail
                  refine wp_region_any (by kernel_rfl) ?_
                  refine wpAny_ops (ops' := rcmOps) (by kernel_rfl) ?_
                  refine rcm_region gx l.length oc j q xb xs yb ys w8.heap.size w8 _ _ rfl (Nat.le_refl _) hjl hql (Nat.lt_of_lt_of_le hgx hs8) hxr hyr (cell_new k0 hgx hbm3) (cell_new k1 hgx hbm3) (cell_new t0 hgx hbm3) (cell_new t1 hgx hbm3) rfl rfl rfl (Below.refl _ _).drew ?_
                  intro c w9 hsb hb9 h126
                  obtain ⟨y92, y93, y94, y95, y96, y97, y98, y99, y100, y101, y102, y103, y104, y105, y106, y107, y108, y109, y110, y111, y112, y113, y114, y115, y116, y117, y118, y119, y120, y121, y122, y123, y124, y125, y126, hcc⟩ := hsb.ex [92, 93, 94, 95, 96, 97, 98, 99, 100, 101, 102, 103, 104, 105, 106, 107, 108, 109, 110, 111, 112, 113, 114, 115, 116, 117, 118, 119, 120, 121, 122, 123, 124, 125, 126] (by kernel_rfl)
                  subst hcc
                  simp only [List.setIfInBounds_toArray, List.set_cons_zero, List.set_cons_succ] at h126 ⊢
                  have e126 : y126 = .bool (decide (max xb yb < min (xb + xs) (yb + ys))) := h126
                  have hX9 := hX8.keeps (Keeps.of_fresh hb9 (fun _ => False)) (fun e => e)
                  have hY9 := hY8.keeps (Keeps.of_fresh hb9 (fun _ => False)) (fun e => e)
                  have hown9 := row_new hown8 hb9
                  have hbm4 := hbm3.trans (hb9.mono hs8)
                  have hs9 := hbm4.size
                  clear hX8 hY8 hown8 hbm3 hb9 hsb h126 hX6 hY0 hown6 hbY hb8
                  have hcom : commonB (xb, xs) (yb, ys) = decide (max xb yb < min (xb + xs) (yb + ys)) := rfl
                  by_cases hcm : max xb yb < min (xb + xs) (yb + ys)
                  · have hd : decide (max xb yb < min (xb + xs) (yb + ys)) = true := decide_eq_true hcm
                    rw [hd] at e126
                    subst e126
                    have hF3 : Hid (hitsF T l = ((o2 ++ [((xn, xk), (yn, yk))]) ++ hitRow T ((xn, xk), (xb, xs)) (l.drop (q + 1))) ++ hitsF T (l.drop (j + 1))) := by
                      show _ = _
                      rw [hG5.out, hst2.out, HHIT.out, hcom, hd, if_pos (by simp)]; simp
                    clear hcom hcm hd
                    obtain ⟨i0, hi0, hz0, hz1, hz2⟩ := info_parts infoOver
                    have hne := owns_ne_holds hown9 hX9 (by decide)
                    have x0 := hX9.cell 0
                    have x1 := hX9.cell 1
                    have xlt := hX9.lt
                    have z0 := hY9.cell 0
                    have z1 := hY9.cell 1
                    have zlt := hY9.lt
                    go_wp2_with (at_builtin; refine wpList_append_own _ rfl (.tmp 127) (.tmp 131) 43 rfl wo.heap.size 96 i0 (.agg #[.int .i64 0, .int .i64 0, .int .i64 0, .int .i64 0]) 4 32 Tryz.underlying43 hi0 hz0 hz1 hz2 rfl (by decide) (.slice oa5 o2.length oc5) o2.length (quadCells o2) rfl (by exact hown9.alloc _) ⟨w9.heap.size, 0, none⟩ 1 1 [.int .i64 xn, .int .i64 xk, .int .i64 yn, .int .i64 yk] rfl rfl ?g1 ?g2 ?g3 ?g4 ?g5 ?_)
                    case g1 => exact (row_built (w := w9) (base := 0) (n := 1) (size := 4) (cs := #[.int .i64 xn, .int .i64 xk, .int .i64 yn, .int .i64 yk]) rfl (Nat.zero_le _) rfl (by omega)).cells (g := w9.heap.size) rfl
                    case g2 => intro u hu; simp at hu; rcases hu with rfl | rfl | rfl | rfl <;> rfl
                    case g3 => unfold maxLen; omega
                    case g4 => omega
                    case g5 => simp; omega
                    intro v' w10 hown' hgrow _
                    have hb10 := (hbm4.alloc hs9 (.cells #[.int .i64 xn, .int .i64 xk, .int .i64 yn, .int .i64 yk] 96)).grown hgrow (by simp; omega) (fun q hq => (hown9.lt q hq).1)
                    have hX10 := (hX9.alloc (.cells #[.int .i64 xn, .int .i64 xk, .int .i64 yn, .int .i64 yk] 96)).grown hgrow hne
                    clear hgrow
                    go_wp2_with fail
                    go_roundg (gk - 1)
                    case measure => omega
                    case rel => exact ⟨q + 1, o2 ++ [((xn, xk), (yn, yk))], by go_num, by omega, by omega, by omega, by rw [quadCells_snoc, List.length_append]; exact hown', hF3, hX10, hb10⟩
                  · have hd : decide (max xb yb < min (xb + xs) (yb + ys)) = false := decide_eq_false hcm
                    rw [hd] at e126
                    subst e126
                    have hF3 : Hid (hitsF T l = (o2 ++ hitRow T ((xn, xk), (xb, xs)) (l.drop (q + 1))) ++ hitsF T (l.drop (j + 1))) := by
                      show _ = _
                      rw [hG5.out, hst2.out, HHIT.out, hcom, hd, if_neg (by simp)]; rfl
                    clear hcom hcm hd
                    go_wp2_with fail
                    go_roundg (gk - 1)
                    case measure => omega
                    case rel => exact ⟨q + 1, o2, by go_num, by omega, by omega, by omega, hown9, hF3, hX9, hbm4⟩
              · have hqI : ¬ (q : Int) < (l.length : Int) := by omega
                have hF3 : Hid (hitsF T l = o2 ++ hitsF T (l.drop (j + 1))) := by
                  show _ = _
                  rw [hG5.out, List.drop_eq_nil_of_le (by omega : l.length ≤ q)]; simp [hitRow]
                go_wp2_with fail
                go_roundg (gp - 1)
                case measure => omega
                case rel => exact ⟨j + 1, o2, by go_num, by omega, by omega, hown5, hF3, hb5⟩
          · have hfin := Lib.hid (show overlapsT T = (out, 0) from by rw [HEND.out, hG2.out, List.drop_eq_nil_of_le (by omega)]; simp [hitsF])
            have hjI : ¬ (j : Int) < (l.length : Int) := by omega
            go_wp2_with fail
            go_ret2
            exact ⟨_, by rw [hfin.out]; rfl, by rw [hfin.out]; exact row_base hown2 (Nat.le_trans hs2 hbs), hb2.trans ((hb.mono hs2).trans (hc2'.mono (Nat.le_trans hs2 hbs)))⟩
  · have hcb : (c != 0) = true := by simpa using hc
    have hF := Lib.hid (show overlapsT T = ([], c) from by rw [hE.out, if_pos hc])
    clear hc hE
    go_enter Tryz.func17, Tryz.ntmps17
    go_wp2_with fail
    refine (HCK.out _ (by exact HT.out.new hb0)).mono ?_
    rintro e w1 ⟨rfl, hb1⟩
    go_wp2_with fail
    go_ret2
    exact ⟨.slice none 0 0, by rw [hF.out]; rfl, by rw [hF.out]; exact World.ownsRow_nil _ _ _ _, hb0.trans (hb1.mono (by simp))⟩
end Go.Proofs.YthkoaakicdhnpaaGreat

namespace Go.Proofs.YthkoaakicdhnpaaGreat
open Go.RowKit

set_option maxHeartbeats 4000000 in
theorem ref11_Translate (R : Nat → Prop) (v : Value) (T : List NodeT) (node index : Int) (w : World) (hT : NodesIn R w v T) :
    Calls Tryz.prog 25 #[.agg #[v], .int .i64 node, .int .i64 index] w (ATransPost T node index w) := by
  obtain ⟨a, cap, rfl, hc1, hc2⟩ := hT.shape
  have HT := Lib.hid hT; clear hT
  have hck := fun wx hx => ref11_Check R (.slice a T.length cap) T wx hx
  have hE := Lib.hid (show aTransT T node index = if (aCheckT T).2 ≠ 0 then ((0, 0), (aCheckT T).2) else if node < 0 ∨ T.length ≤ node then ((0, 0), 4) else
    if index < 0 ∨ (regionsT T node.toNat).1.length ≤ index then ((0, 0), 4) else atRegion T node.toNat ((regionsT T node.toNat).1.getD index.toNat (0, 0)) from rfl)
  have hok := Lib.hid (@aCheck_ok T)
  have hb0 : Below w.heap.size w ((w.alloc (.cells #[.slice a T.length cap] 25)).alloc (.cells #[.int .i64 0, .int .i64 0] 56)) := ((Below.refl w.heap.size w).alloc (Nat.le_refl _) _).alloc (by simp) _
  have hB0 := (Holds.new w #[.slice a T.length cap] 25).alloc (.cells #[.int .i64 0, .int .i64 0] 56)
  have hZ0 := Holds.new (w.alloc (.cells #[.slice a T.length cap] 25)) #[.int .i64 0, .int .i64 0] 56
  rw [show (w.alloc (.cells #[.slice a T.length cap] 25)).heap.size = w.heap.size + 1 from by simp] at hZ0
  generalize hCC : aCheckT T = C at hck hE hok
  have HCC := Lib.hid hCC
  clear hCC
  obtain ⟨ci, c⟩ := C
  simp only at hck
  have HCK := Lib.hid hck; clear hck
  by_cases hc : c = 0
  · subst hc
    have hc0 := hok.out rfl
    clear hok
    by_cases hn : node < 0
    · have hF := Lib.hid (show aTransT T node index = ((0, 0), 4) from by rw [hE.out, if_neg (by simp), if_pos (.inl hn)])
      clear hE
      go_enter Tryz.func25, Tryz.ntmps25
      go_wp2_with fail
      refine (HCK.out _ (by exact HT.out.new hb0)).mono ?_
      rintro e w1 ⟨rfl, hb1⟩
      have hb2 := hb0.trans (hb1.mono (by simp; omega))
      have hB1 := hB0.keeps (Keeps.of_fresh hb1 (fun _ => False)) (fun e => e)
      have hZ1 := hZ0.keeps (Keeps.of_fresh hb1 (fun _ => False)) (fun e => e)
      have bx := hB1.cell 0
      have blt := hB1.lt
      have z0 := hZ1.cell 0
      have z1 := hZ1.cell 1
      have zf0 := hZ1.free 0
      have zf1 := hZ1.free 1
      have zlt := hZ1.lt
      go_wp2_with fail
      exact bodyPost_ret (v := .tuple #[.agg #[.int .i64 0, .int .i64 0], .int .i64 4]) (by simp [results, Tryz.results25, go_sem, z0, z1]) rfl ⟨by rw [hF.out], (hb2.setCell (by simp) _).setCell (by simp) _⟩
    · have hn' : 0 ≤ node := by omega
      by_cases hbig : (T.length : Int) ≤ node
      · have hF := Lib.hid (show aTransT T node index = ((0, 0), 4) from by rw [hE.out, if_neg (by simp), if_pos (.inr hbig)])
        clear hE
        go_enter Tryz.func25, Tryz.ntmps25
        go_wp2_with fail
        refine (HCK.out _ (by exact HT.out.new hb0)).mono ?_
        rintro e w1 ⟨rfl, hb1⟩
        have hb2 := hb0.trans (hb1.mono (by simp; omega))
        have hB1 := hB0.keeps (Keeps.of_fresh hb1 (fun _ => False)) (fun e => e)
        have hZ1 := hZ0.keeps (Keeps.of_fresh hb1 (fun _ => False)) (fun e => e)
        have bx := hB1.cell 0
        have blt := hB1.lt
        have z0 := hZ1.cell 0
        have z1 := hZ1.cell 1
        have zf0 := hZ1.free 0
        have zf1 := hZ1.free 1
        have zlt := hZ1.lt
        go_wp2_with fail
        exact bodyPost_ret (v := .tuple #[.agg #[.int .i64 0, .int .i64 0], .int .i64 4]) (by simp [results, Tryz.results25, go_sem, z0, z1]) rfl ⟨by rw [hF.out], (hb2.setCell (by simp) _).setCell (by simp) _⟩
      · obtain ⟨k, rfl⟩ := Int.eq_ofNat_of_zero_le hn'
        have hk : k < T.length := by omega
        have hE2 := Lib.hid (show aTransT T k index = if index < 0 ∨ (regionsT T k).1.length ≤ index then ((0, 0), 4) else atRegion T k ((regionsT T k).1.getD index.toNat (0, 0)) from by
          rw [hE.out, if_neg (by simp), if_neg (by rintro (h | h); exact hn h; exact hbig h), Int.toNat_natCast])
        have hbig' : (k : Int) < (T.length : Int) := by omega
        clear hE hn hbig
        have hrg := fun wx hx => ref11_regions R (.slice a T.length cap) T k wx hx hc0 hk
        have hRK := Lib.hid (regionsT_ok T k)
        unfold RegionsPost at hrg
        have hk00 := Lib.hid (show k = 0 → (regionsT T k).1.length = 0 from fun h => by unfold regionsT; rw [if_pos h]; rfl)
        generalize regionsT T k = C at hrg hE2 hRK hk00
        obtain ⟨l, er⟩ := C
        simp only at hrg
        have HRG := Lib.hid hrg; clear hrg
        by_cases hi : index < 0
        · have hF := Lib.hid (show aTransT T k index = ((0, 0), 4) from by rw [hE2.out, if_pos (.inl hi)])
          clear hE2
          go_enter Tryz.func25, Tryz.ntmps25
          go_wp2_with fail
          refine (HCK.out _ (by exact HT.out.new hb0)).mono ?_
          rintro e w1 ⟨rfl, hb1⟩
          have hb2 := hb0.trans (hb1.mono (by simp; omega))
          have hB1 := hB0.keeps (Keeps.of_fresh hb1 (fun _ => False)) (fun e => e)
          have hZ1 := hZ0.keeps (Keeps.of_fresh hb1 (fun _ => False)) (fun e => e)
          have bx := hB1.cell 0
          have blt := hB1.lt
          have z0 := hZ1.cell 0
          have z1 := hZ1.cell 1
          have zf0 := hZ1.free 0
          have zf1 := hZ1.free 1
          have zlt := hZ1.lt
          go_wp2_with fail
          refine (HRG.out _ (by exact HT.out.new hb2)).mono ?_
          rintro e w2 ⟨rv, rfl, hown, hb3⟩
          obtain ⟨ra, rc, rfl⟩ := owns_slice hown
          have hb4 := hb2.trans (hb3.mono hb2.size)
          have hB2 := hB1.keeps (Keeps.of_fresh hb3 (fun _ => False)) (fun e => e)
          have hZ2 := hZ1.keeps (Keeps.of_fresh hb3 (fun _ => False)) (fun e => e)
          clear bx blt z0 z1 zf0 zf1 zlt
          have bx := hB2.cell 0
          have blt := hB2.lt
          have z0 := hZ2.cell 0
          have z1 := hZ2.cell 1
          have zf0 := hZ2.free 0
          have zf1 := hZ2.free 1
          have zlt := hZ2.lt
          go_wp2_with fail
          exact bodyPost_ret (v := .tuple #[.agg #[.int .i64 0, .int .i64 0], .int .i64 4]) (by simp [results, Tryz.results25, go_sem, z0, z1]) rfl ⟨by rw [hF.out], (hb4.setCell (by simp) _).setCell (by simp) _⟩
        · have hi' : 0 ≤ index := by omega
          by_cases hbi : (l.length : Int) ≤ index
          · have hF := Lib.hid (show aTransT T k index = ((0, 0), 4) from by rw [hE2.out, if_pos (.inr hbi)])
            clear hE2
            go_enter Tryz.func25, Tryz.ntmps25
            go_wp2_with fail
            refine (HCK.out _ (by exact HT.out.new hb0)).mono ?_
            rintro e w1 ⟨rfl, hb1⟩
            have hb2 := hb0.trans (hb1.mono (by simp; omega))
            have hB1 := hB0.keeps (Keeps.of_fresh hb1 (fun _ => False)) (fun e => e)
            have hZ1 := hZ0.keeps (Keeps.of_fresh hb1 (fun _ => False)) (fun e => e)
            have bx := hB1.cell 0
            have blt := hB1.lt
            have z0 := hZ1.cell 0
            have z1 := hZ1.cell 1
            have zf0 := hZ1.free 0
            have zf1 := hZ1.free 1
            have zlt := hZ1.lt
            go_wp2_with fail
            refine (HRG.out _ (by exact HT.out.new hb2)).mono ?_
            rintro e w2 ⟨rv, rfl, hown, hb3⟩
            obtain ⟨ra, rc, rfl⟩ := owns_slice hown
            have hb4 := hb2.trans (hb3.mono hb2.size)
            have hB2 := hB1.keeps (Keeps.of_fresh hb3 (fun _ => False)) (fun e => e)
            have hZ2 := hZ1.keeps (Keeps.of_fresh hb3 (fun _ => False)) (fun e => e)
            clear bx blt z0 z1 zf0 zf1 zlt
            have bx := hB2.cell 0
            have blt := hB2.lt
            have z0 := hZ2.cell 0
            have z1 := hZ2.cell 1
            have zf0 := hZ2.free 0
            have zf1 := hZ2.free 1
            have zlt := hZ2.lt
            go_wp2_with fail
            exact bodyPost_ret (v := .tuple #[.agg #[.int .i64 0, .int .i64 0], .int .i64 4]) (by simp [results, Tryz.results25, go_sem, z0, z1]) rfl ⟨by rw [hF.out], (hb4.setCell (by simp) _).setCell (by simp) _⟩
          · obtain ⟨j, rfl⟩ := Int.eq_ofNat_of_zero_le hi'
            have hj : j < l.length := by omega
            have hE3 := Lib.hid (show aTransT T k j = atRegion T k l[j] from by
              rw [hE2.out, if_neg (by rintro (h | h); exact hi h; exact hbi h), Int.toNat_natCast]
              simp [List.getD, hj])
            have hbi' : (j : Int) < (l.length : Int) := by omega
            clear hE2 hi hbi
            go_enter Tryz.func25, Tryz.ntmps25
            go_wp2_with fail
            refine (HCK.out _ (by exact HT.out.new hb0)).mono ?_
            rintro e w1 ⟨rfl, hb1⟩
            have hb2 := hb0.trans (hb1.mono (by simp; omega))
            have hB1 := hB0.keeps (Keeps.of_fresh hb1 (fun _ => False)) (fun e => e)
            have hZ1 := hZ0.keeps (Keeps.of_fresh hb1 (fun _ => False)) (fun e => e)
            have bx := hB1.cell 0
            have blt := hB1.lt
            have z0 := hZ1.cell 0
            have z1 := hZ1.cell 1
            have zf0 := hZ1.free 0
            have zf1 := hZ1.free 1
            have zlt := hZ1.lt
            go_wp2_with fail
            refine (HRG.out _ (by exact HT.out.new hb2)).mono ?_
            rintro e w2 ⟨rv, rfl, hown, hb3⟩
            obtain ⟨ra, rc, rfl⟩ := owns_slice hown
            have hb4 := hb2.trans (hb3.mono hb2.size)
            have hB2 := hB1.keeps (Keeps.of_fresh hb3 (fun _ => False)) (fun e => e)
            have hZ2 := hZ1.keeps (Keeps.of_fresh hb3 (fun _ => False)) (fun e => e)
            clear bx blt z0 z1 zf0 zf1 zlt
            have bx := hB2.cell 0
            have blt := hB2.lt
            have z0 := hZ2.cell 0
            have z1 := hZ2.cell 1
            have zf0 := hZ2.free 0
            have zf1 := hZ2.free 1
            have zlt := hZ2.lt
            go_wp2_with fail
            have hrk := hRK.out l[j] (List.getElem_mem hj)
            obtain ⟨gl, cl, e1, q1, q2, q3, f0, f1⟩ := pair_cells_at hown j hj
            cases e1
            generalize l[j] = P at hrk f0 f1 hE3
            obtain ⟨b, sz⟩ := P
            obtain ⟨h1, h2, h3, h4, h5⟩ := hrk
            simp only at h1 h2 h3 h4 h5 f0 f1
            have htr := fun wx hx => ref11_translate R (.slice a T.length cap) T (by rw [HCC.out]) k b sz wx (Nat.pos_of_ne_zero (fun e => by have := hk00.out e; omega)) hk hx ⟨h1, h2, h3, h4, h5⟩
            unfold TransPost at htr
            have hE4 := Lib.hid (show aTransT T k j = if (translateT T k b sz).2 = true then ((translateT T k b sz).1, 0) else ((0, 0), 27) from by rw [hE3.out]; rfl)
            clear hE3
            generalize translateT T k b sz = D at htr hE4
            obtain ⟨⟨d0, d1⟩, ok⟩ := D
            simp only at htr
            have HTR := Lib.hid htr; clear htr
            have n1 := World.new_ne w2 _ bx
            have n2 := World.new_ne w2 _ f0
            go_region_held3 (fun wx => wx.cell? ⟨w.heap.size, 0, none⟩ = some (.slice a T.length cap) ∧ wx.cell? ⟨gl, j * 2, none⟩ = some (.int .i64 b) ∧ wx.cell? ⟨gl, j * 2 + 1, none⟩ = some (.int .i64 sz) ∧ Below w2.heap.size w2 wx)
              (first
              | exact ⟨by assumption, by assumption, by assumption, (Below.refl _ _).drew⟩
              | exact ⟨k0, k1, k2, kb⟩
              | exact ⟨by go_keep, by go_keep, by go_keep, kb.alloc hbs _⟩
              | exact ⟨by go_keep, by go_keep, by go_keep, (kb.setCell (Nat.le_refl _) _).setCell (Nat.le_refl _) _⟩
              | (refine ⟨by go_keep, by go_keep, by go_keep, ?_⟩; go_split_ands; rename_i hbw; first | exact hbw.alloc hbw.size _ | exact hbw.setCell (Nat.le_refl _) _ | exact hbw.setCell (by assumption) _)
              | go_keep)
              ((go_at_call 50; obtain ⟨s0, s1, s2, hbw⟩ := ‹World.cell? _ _ = _ ∧ _ ∧ _ ∧ Below _ _ _›; refine (HTR.out _ (by exact HT.out.new (hb4.trans (hbw.mono hb4.size)))).mono ?_; rintro e wc ⟨rfl, hbc⟩; have hbs := Nat.le_trans hbw.size hbc.size; have k0 := cell_new s0 (Nat.lt_of_lt_of_le blt hbw.size) hbc; have k1 := cell_new s1 (Nat.lt_of_lt_of_le q2 hbw.size) hbc; have k2 := cell_new s2 (Nat.lt_of_lt_of_le q2 hbw.size) hbc; have kb := hbw.trans (hbc.mono hbw.size); try (have hzn : wc.cell? ⟨w2.heap.size, 0, none⟩ = some (.int .i64 0) ∧ wc.cell? ⟨w2.heap.size, 1, none⟩ = some (.int .i64 0) ∧ wc.frozen? ⟨w2.heap.size, 0, none⟩ = false ∧ wc.frozen? ⟨w2.heap.size, 1, none⟩ = false ∧ w2.heap.size < wc.heap.size := new_held hbc; obtain ⟨g0, g1, gf0, gf1, glt⟩ := hzn)))
            all_goals
              rename_i hS
              obtain ⟨_, _, _, hbx⟩ := hS
              have hb5 := hb4.trans (hbx.mono hb4.size)
              have hZ3 := hZ2.keeps (Keeps.of_fresh hbx (fun _ => False)) (fun e => e)
              clear z0 z1 zf0 zf1 zlt
              have z0 := hZ3.cell 0
              have z1 := hZ3.cell 1
              have zf0 := hZ3.free 0
              have zf1 := hZ3.free 1
              have zlt := hZ3.lt
              cases ok with
              | true =>
                have hF := Lib.hid (show aTransT T k j = ((d0, d1), 0) from by rw [hE4.out]; rfl)
                clear hE4
                go_wp2_with fail
                exact bodyPost_ret (v := .tuple #[.agg #[.int .i64 d0, .int .i64 d1], .int .i64 0]) (by simp [results, Tryz.results25, go_sem, z0, z1]) rfl ⟨by rw [hF.out], (hb5.setCell (by simp) _).setCell (by simp) _⟩
              | false =>
                have hF := Lib.hid (show aTransT T k j = ((0, 0), 27) from by rw [hE4.out]; rfl)
                clear hE4
                go_wp2_with fail
                exact bodyPost_ret (v := .tuple #[.agg #[.int .i64 0, .int .i64 0], .int .i64 27]) (by simp [results, Tryz.results25, go_sem, z0, z1]) rfl ⟨by rw [hF.out], (hb5.setCell (by simp) _).setCell (by simp) _⟩
  · have hcb : (c != 0) = true := by simpa using hc
    have hE2 := Lib.hid (show aTransT T node index = ((0, 0), c) from by rw [hE.out, if_pos hc])
    clear hE hc hok
    go_enter Tryz.func25, Tryz.ntmps25
    go_wp2_with fail
    refine (HCK.out _ (by exact HT.out.new hb0)).mono ?_
    rintro e w1 ⟨rfl, hb1⟩
    have hb2 := hb0.trans (hb1.mono (by simp; omega))
    have hB1 := hB0.keeps (Keeps.of_fresh hb1 (fun _ => False)) (fun e => e)
    have hZ1 := hZ0.keeps (Keeps.of_fresh hb1 (fun _ => False)) (fun e => e)
    have bx := hB1.cell 0
    have blt := hB1.lt
    have z0 := hZ1.cell 0
    have z1 := hZ1.cell 1
    have zf0 := hZ1.free 0
    have zf1 := hZ1.free 1
    have zlt := hZ1.lt
    go_wp2_with fail
    exact bodyPost_ret (v := .tuple #[.agg #[.int .i64 0, .int .i64 0], .int .i64 c]) (by simp [results, Tryz.results25, go_sem, z0, z1]) rfl ⟨by rw [hE2.out], (hb2.setCell (by simp) _).setCell (by simp) _⟩
end Go.Proofs.YthkoaakicdhnpaaGreat

namespace Go.Proofs.YthkoaakicdhnpaaGreat
open Go.RowKit

noncomputable def ansBlk (n : Nat) : Code := (blkOf (Tryz.f3.body.getD .skip) n).getD .skip
theorem aRegions_len (T : List NodeT) (n : Int) : (aRegionsT T n).1.length ≤ 256 := by
  unfold aRegionsT
  split
  · simp
  · exact regionsT_len T _

set_option maxRecDepth 100000 in
set_option maxHeartbeats 8000000 in
theorem ans_in {Q : Exit → Act → World → Prop} (R : Nat → Prop) (Yb Rb j yc : Nat) (ya : Option Addr) (Y : List NodeT) (zs : List Int) (w : World)
    (hN : NodesIn R w (.slice ya Y.length yc) Y) (hY : Holds w Yb #[.slice ya Y.length yc] 25) (hR : Holds w Rb (zs.map (Value.int .i64)).toArray 47) (hzl : zs.length = 6) (hj3 : j < 3)
    {u0 u1 u2 u3 u4 u5 u6 u7 u8 u9 u10 u11 u12 u13 u14 u16 u17 u18 u19 u20 u21 u22 u23 u24 u25 u26 u27 u28 u29 u30 u31 u32 u33 u34 u35 u36 u37 u38 u39 u40 u41 u42 u43 u44 u45 u46 u47 u48 u49 u50 u51 u52 u53 u54 u55 u56 u57 u58 u59 u60 u61 u62 u63 u64 u65 u66 u67 u68 u69 u70 u71 u72 u73 u74 u75 u76 u77 u78 u79 u80 u81 u82 u83 u84 u85 u86 u87 u88 u89 u90 u91 u92 u93 u94 u95 u96 u97 u98 u99 u100 u101 u102 u103 u104 u105 u106 u107 u108 u109 u110 u111 u112 u113 u114 u115 u116 u117 u118 u119 u120 u121 u122 u123 u124 u125 u126 u127 u128 u129 u130 u131 u132 u133 u134 u135 u136 u137 u138 u139 u140 u141 u142 u144 u146 u147 u148 u149 u150 u151 u152 u153 u154 u155 u156 u157 u158 u159 u160 u161 u162 u163 u164 u165 u166 u167 u168 u169 u170 u171 u172 u173 u174 u175 u176 u177 u178 u179 u180 u181 u182 u183 u184 u185 u186 u187 u188 u189 u190 u191 u192 u193 u194 u195 u196 u197 u198 u199 u200 u201 u202 u203 u204 u205 u206 u207 u208 u209 u210 u211 u212 u213 u214 u215 u216 u217 u218 u219 u220 u221 u222 u223 u224 u225 u226 u227 u228 u229 u230 u231 u232 u233 : Value}
    (hQ : Hid (∀ (x8 x25 x26 x27 x28 x29 x30 x31 x32 x33 x34 x35 x36 x37 x38 x39 x147 x148 x149 x150 x151 x152 x153 x154 x155 x156 x157 x158 x159 x160 x161 x162 x163 x164 x165 x166 x167 x168 x169 x170 x171 x172 x173 x174 x175 x176 x177 x178 x179 x180 x181 x182 x183 x184 x185 x186 x187 x188 x189 x190 x191 x192 x193 x194 x195 x196 x197 x198 x199 x200 x201 x202 x203 x204 x205 x206 x207 x208 x209 x210 x211 x212 x213 x214 x215 x216 x217 x218 x219 x220 x221 x222 x223 x224 x225 x226 x227 x228 x229 x230 : Value) (wx : World), Below w.heap.size w wx → Q .normal ⟨#[u0, u1, u2, u3, u4, u5, u6, u7, x8, u9, u10, u11, u12, u13, u14, .pointer (some ⟨Yb, 0, none⟩), u16, u17, u18, u19, u20, u21, u22, u23, u24, x25, x26, x27, x28, x29, x30, x31, x32, x33, x34, x35, x36, x37, x38, x39, u40, u41, u42, u43, u44, u45, u46, u47, u48, u49, u50, u51, u52, u53, u54, u55, u56, u57, u58, u59, u60, u61, u62, u63, u64, u65, u66, u67, u68, u69, u70, u71, u72, u73, u74, u75, u76, u77, u78, u79, u80, u81, u82, u83, u84, u85, u86, u87, u88, u89, u90, u91, u92, u93, u94, u95, u96, u97, u98, u99, u100, u101, u102, u103, u104, u105, u106, u107, u108, u109, u110, u111, u112, u113, u114, u115, u116, u117, u118, u119, u120, u121, u122, u123, u124, u125, u126, u127, u128, u129, u130, u131, u132, u133, u134, u135, u136, u137, u138, u139, u140, u141, u142, .slice (some ⟨Rb, 0, none⟩) 3 3, u144, .int .i64 j, u146, x147, x148, x149, x150, x151, x152, x153, x154, x155, x156, x157, x158, x159, x160, x161, x162, x163, x164, x165, x166, x167, x168, x169, x170, x171, x172, x173, x174, x175, x176, x177, x178, x179, x180, x181, x182, x183, x184, x185, x186, x187, x188, x189, x190, x191, x192, x193, x194, x195, x196, x197, x198, x199, x200, x201, x202, x203, x204, x205, x206, x207, x208, x209, x210, x211, x212, x213, x214, x215, x216, x217, x218, x219, x220, x221, x222, x223, x224, x225, x226, x227, x228, x229, x230, u231, u232, u233], []⟩ wx)) :
    (ansBlk 3).wp Tryz.prog Q ⟨#[u0, u1, u2, u3, u4, u5, u6, u7, u8, u9, u10, u11, u12, u13, u14, .pointer (some ⟨Yb, 0, none⟩), u16, u17, u18, u19, u20, u21, u22, u23, u24, u25, u26, u27, u28, u29, u30, u31, u32, u33, u34, u35, u36, u37, u38, u39, u40, u41, u42, u43, u44, u45, u46, u47, u48, u49, u50, u51, u52, u53, u54, u55, u56, u57, u58, u59, u60, u61, u62, u63, u64, u65, u66, u67, u68, u69, u70, u71, u72, u73, u74, u75, u76, u77, u78, u79, u80, u81, u82, u83, u84, u85, u86, u87, u88, u89, u90, u91, u92, u93, u94, u95, u96, u97, u98, u99, u100, u101, u102, u103, u104, u105, u106, u107, u108, u109, u110, u111, u112, u113, u114, u115, u116, u117, u118, u119, u120, u121, u122, u123, u124, u125, u126, u127, u128, u129, u130, u131, u132, u133, u134, u135, u136, u137, u138, u139, u140, u141, u142, .slice (some ⟨Rb, 0, none⟩) 3 3, u144, .int .i64 j, u146, u147, u148, u149, u150, u151, u152, u153, u154, u155, u156, u157, u158, u159, u160, u161, u162, u163, u164, u165, u166, u167, u168, u169, u170, u171, u172, u173, u174, u175, u176, u177, u178, u179, u180, u181, u182, u183, u184, u185, u186, u187, u188, u189, u190, u191, u192, u193, u194, u195, u196, u197, u198, u199, u200, u201, u202, u203, u204, u205, u206, u207, u208, u209, u210, u211, u212, u213, u214, u215, u216, u217, u218, u219, u220, u221, u222, u223, u224, u225, u226, u227, u228, u229, u230, u231, u232, u233], []⟩ w := by
  simp only [ansBlk, blkOf, Tryz.f3, Option.getD_some, reduceIte, Nat.reduceEqDiff]
  have hc0 := hR.cell (j * 2)
  have hc1 := hR.cell (j * 2 + 1)
  have hz0 : (zs.map (Value.int .i64)).toArray[j * 2]? = some (.int .i64 zs[j * 2]) := by simp
  have hz1 : (zs.map (Value.int .i64)).toArray[j * 2 + 1]? = some (.int .i64 zs[j * 2 + 1]) := by simp
  rw [hz0] at hc0
  rw [hz1] at hc1
  clear hz0 hz1
  generalize zs[j * 2] = n at *
  generalize zs[j * 2 + 1] = m at *
  have hj : (j : Int) < 3 := by omega
  have hcl := hR.lt
  have hv0 : Below w.heap.size w (w.alloc (.cells #[.int .i64 n, .int .i64 m] 47)) := (Below.refl w.heap.size w).alloc (Nat.le_refl _) _
  have hN0 := hN.new hv0
  have hY0 := hY.keeps (Keeps.of_fresh hv0 (fun _ => False)) (fun e => e)
  have hZ0 := Holds.new w #[.int .i64 n, .int .i64 m] 47
  have y0 := hY0.cell 0
  have yl := hY0.lt
  have z0 := hZ0.cell 0
  have z1 := hZ0.cell 1
  have zl := hZ0.lt
  have k1 := Lib.hid (fun wx hx => address_Cells R (.slice ya Y.length yc) Y n wx hx)
  have k2 := Lib.hid (fun wx hx => ref11_Cells R (.slice ya Y.length yc) Y n wx hx)
  have k3 := fun wx hx => address_Regions R (.slice ya Y.length yc) Y n wx hx
  have k4 := fun wx hx => ref11_Regions R (.slice ya Y.length yc) Y n wx hx
  have k5 := fun wx hx => address_Translate R (.slice ya Y.length yc) Y n m wx hx
  have k6 := fun wx hx => ref11_Translate R (.slice ya Y.length yc) Y n m wx hx
  unfold ARegionsPost at k3 k4
  unfold ATransPost at k5 k6
  have hrl := aRegions_len Y n
  generalize aCellsT Y n = C at *
  obtain ⟨q0, q1, q2⟩ := C
  generalize aRegionsT Y n = D at *
  obtain ⟨rl, re⟩ := D
  generalize aTransT Y n m = E at *
  obtain ⟨⟨t0, t1⟩, te⟩ := E
  simp only at k1 k2 k3 k4 k5 k6 hrl
  have K3 := Lib.hid k3
  have K4 := Lib.hid k4
  have K5 := Lib.hid k5
  have K6 := Lib.hid k6
  clear k3 k4 k5 k6
  go_wp2_with fail
  refine (k1.out _ (by exact hN0)).mono ?_
  rintro e v1 ⟨rfl, hk1⟩
  have hv1 := hv0.trans (hk1.mono (by simp))
  have hN1 := hN.new hv1
  have hY1 := hY.keeps (Keeps.of_fresh hv1 (fun _ => False)) (fun e => e)
  have hZ1 := hZ0.keeps (Keeps.of_fresh hk1 (fun _ => False)) (fun e => e)
  clear y0 yl z0 z1 zl
  have y0 := hY1.cell 0
  have yl := hY1.lt
  have z0 := hZ1.cell 0
  have z1 := hZ1.cell 1
  have zl := hZ1.lt
  go_wp2_with fail
  refine (k2.out _ (by exact hN1)).mono ?_
  rintro e v2 ⟨rfl, hk2⟩
  have hv2 := hv1.trans (hk2.mono hv1.size)
  have hN2 := hN.new hv2
  have hY2 := hY.keeps (Keeps.of_fresh hv2 (fun _ => False)) (fun e => e)
  have hZ2 := hZ1.keeps (Keeps.of_fresh hk2 (fun _ => False)) (fun e => e)
  clear y0 yl z0 z1 zl
  have y0 := hY2.cell 0
  have yl := hY2.lt
  have z0 := hZ2.cell 0
  have z1 := hZ2.cell 1
  have zl := hZ2.lt
  go_wp2_with fail
  refine (K3.out _ (by exact hN2)).mono ?_
  rintro e v3 ⟨p, rfl, hp3, hk3⟩
  obtain ⟨pa, pc, rfl⟩ := owns_slice hp3
  have hv3 := hv2.trans (hk3.mono hv2.size)
  have hN3 := hN.new hv3
  have hY3 := hY.keeps (Keeps.of_fresh hv3 (fun _ => False)) (fun e => e)
  have hZ3 := hZ2.keeps (Keeps.of_fresh hk3 (fun _ => False)) (fun e => e)
  clear y0 yl z0 z1 zl
  have y0 := hY3.cell 0
  have yl := hY3.lt
  have z0 := hZ3.cell 0
  have z1 := hZ3.cell 1
  have zl := hZ3.lt
  go_wp2_with fail
  refine (K4.out _ (by exact hN3)).mono ?_
  rintro e v4 ⟨q, rfl, hq4, hk4⟩
  obtain ⟨qa, qc, rfl⟩ := owns_slice hq4
  have hp4 := row_new hp3 hk4
  have hv4 := hv3.trans (hk4.mono hv3.size)
  have hN4 := hN.new hv4
  have hY4 := hY.keeps (Keeps.of_fresh hv4 (fun _ => False)) (fun e => e)
  have hZ4 := hZ3.keeps (Keeps.of_fresh hk4 (fun _ => False)) (fun e => e)
  clear y0 yl z0 z1 zl
  have y0 := hY4.cell 0
  have yl := hY4.lt
  have z0 := hZ4.cell 0
  have z1 := hZ4.cell 1
  have zl := hZ4.lt
  go_wp2_with fail
  refine (K5.out _ (by exact hN4)).mono ?_
  rintro e v5 ⟨rfl, hk5⟩
  have hp5 := (row_new hp4 hk5).alloc (.cells #[.int .i64 t0, .int .i64 t1] 56)
  have hq5 := (row_new hq4 hk5).alloc (.cells #[.int .i64 t0, .int .i64 t1] 56)
  have hv5 := (hv4.trans (hk5.mono hv4.size)).alloc (Nat.le_trans hv4.size hk5.size) (.cells #[.int .i64 t0, .int .i64 t1] 56)
  have hA5 := Holds.new v5 #[.int .i64 t0, .int .i64 t1] 56
  have hN5 := hN.new hv5
  have hY5 := hY.keeps (Keeps.of_fresh hv5 (fun _ => False)) (fun e => e)
  have hZ5 := (hZ4.keeps (Keeps.of_fresh hk5 (fun _ => False)) (fun e => e)).alloc (.cells #[.int .i64 t0, .int .i64 t1] 56)
  clear y0 yl z0 z1 zl
  have y0 := hY5.cell 0
  have yl := hY5.lt
  have z0 := hZ5.cell 0
  have z1 := hZ5.cell 1
  have zl := hZ5.lt
  go_wp2_with fail
  refine (K6.out _ (by exact hN5)).mono ?_
  rintro e v6 ⟨rfl, hk6⟩
  have hp6 := (row_new hp5 hk6).alloc (.cells #[.int .i64 t0, .int .i64 t1] 56)
  have hq6 := (row_new hq5 hk6).alloc (.cells #[.int .i64 t0, .int .i64 t1] 56)
  have hv6 := (hv5.trans (hk6.mono hv5.size)).alloc (Nat.le_trans hv5.size hk6.size) (.cells #[.int .i64 t0, .int .i64 t1] 56)
  have hA6 := (hA5.keeps (Keeps.of_fresh hk6 (fun _ => False)) (fun e => e)).alloc (.cells #[.int .i64 t0, .int .i64 t1] 56)
  have hB6 := Holds.new v6 #[.int .i64 t0, .int .i64 t1] 56
  clear y0 yl z0 z1 zl
  go_wp2_with fail
  refine (same_Regions _ _ _ _ rl _ (by exact hp6) (by exact hq6) (by omega)).mono ?_
  rintro e v7 ⟨rfl, hk7⟩
  have hA7 := hA6.keeps (Keeps.of_fresh hk7 (fun _ => False)) (fun e => e)
  have hB7 := hB6.keeps (Keeps.of_fresh hk7 (fun _ => False)) (fun e => e)
  have a0 := hA7.cell 0
  have a1 := hA7.cell 1
  have al := hA7.lt
  have b0 := hB7.cell 0
  have b1 := hB7.cell 1
  have bl := hB7.lt
  have hv7 := hv6.trans (hk7.mono hv6.size)
  go_wp2_with fail
  exact hQ.out _ _ _ _ _ _ _ _ _ _ _ _ _ _ _ _ _ _ _ _ _ _ _ _ _ _ _ _ _ _ _ _ _ _ _ _ _ _ _ _ _ _ _ _ _ _ _ _ _ _ _ _ _ _ _ _ _ _ _ _ _ _ _ _ _ _ _ _ _ _ _ _ _ _ _ _ _ _ _ _ _ _ _ _ _ _ _ _ _ _ _ _ _ _ _ _ _ _ _ _ _  hv7
end Go.Proofs.YthkoaakicdhnpaaGreat
