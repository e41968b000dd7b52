/- Contracts of address: begin, Regions, Cells, Check. -/
import Derived.Test.YtjfkjnakmmkkiaaAdrG
namespace Go.Proofs.Ytjfkjnakmmkkiaa
open Go.RowKit

def beginT (T : List NodeT) (node : Int) : Int := if checkT T ≠ 0 then checkT T else if node < 0 ∨ T.length ≤ node then 4 else 0

set_option maxHeartbeats 2000000 in
theorem address_begin (R : Nat → Prop) (v : Value) (T : List NodeT) (node : Int) (w : World) (hT : NodesIn R w v T) :
    Calls Try.prog 43 #[.agg #[v], .int .i64 node] w fun e w' => e = .returned (.int .i64 (beginT T node)) ∧ Below w.heap.size w w' := by
  obtain ⟨a, cap, rfl, hc1, hc2⟩ := hT.shape
  have HT := Lib.hid hT; clear hT
  have hck := fun wx hx => tree_Check R (.slice a T.length cap) T wx hx
  have hE := Lib.hid (show beginT T node = if checkT T ≠ 0 then checkT T else if node < 0 ∨ T.length ≤ node then 4 else 0 from rfl)
  have hb0 : Below w.heap.size w (w.alloc (.cells #[.slice a T.length cap] 27)) := (Below.refl w.heap.size w).alloc (Nat.le_refl _) _
  have hB0 := Holds.new w #[.slice a T.length cap] 27
  generalize checkT T = c at hck hE
  have HCK := Lib.hid hck; clear hck
  by_cases hc : c = 0
  · subst hc
    by_cases hn : node < 0
    · have hF := Lib.hid (show beginT T node = 4 from by rw [hE.out, if_neg (by simp), if_pos (.inl hn)])
      go_enter Try.func43, Try.ntmps43
      go_wp2_with fail
      refine (HCK.out _ (by exact HT.out.new hb0)).mono ?_
      rintro e w1 ⟨rfl, hb1⟩
      go_wp2_with fail
      go_ret
      exact ⟨ret_int (by rw [hF.out]), hb0.trans (hb1.mono (by simp))⟩
    · have hn' : 0 ≤ node := by omega
      by_cases hbig : (T.length : Int) ≤ node
      · have hF := Lib.hid (show beginT T node = 4 from by rw [hE.out, if_neg (by simp), if_pos (.inr hbig)])
        go_enter Try.func43, Try.ntmps43
        go_wp2_with fail
        refine (HCK.out _ (by exact HT.out.new hb0)).mono ?_
        rintro e w1 ⟨rfl, hb1⟩
        have hB1 := hB0.keeps (Keeps.of_fresh hb1 (fun _ => False)) (fun e => e)
        have bx := hB1.cell 0
        have blt := hB1.lt
        go_wp2_with fail
        go_ret
        exact ⟨ret_int (by rw [hF.out]), hb0.trans (hb1.mono (by simp))⟩
      · have hF := Lib.hid (show beginT T node = 0 from by rw [hE.out, if_neg (by simp), if_neg (by rintro (h | h); exact hn h; exact hbig h)])
        have hbig' : node < (T.length : Int) := by omega
        go_enter Try.func43, Try.ntmps43
        go_wp2_with fail
        refine (HCK.out _ (by exact HT.out.new hb0)).mono ?_
        rintro e w1 ⟨rfl, hb1⟩
        have hB1 := hB0.keeps (Keeps.of_fresh hb1 (fun _ => False)) (fun e => e)
        have bx := hB1.cell 0
        have blt := hB1.lt
        go_wp2_with fail
        go_ret
        exact ⟨ret_int (by rw [hF.out]), hb0.trans (hb1.mono (by simp))⟩
  · have hcb : (c != 0) = true := by simpa using hc
    have hF := Lib.hid (show beginT T node = c from by rw [hE.out, if_pos hc])
    clear hc
    go_enter Try.func43, Try.ntmps43
    go_wp2_with fail
    refine (HCK.out _ (by exact HT.out.new hb0)).mono ?_
    rintro e w1 ⟨rfl, hb1⟩
    go_wp2_with fail
    go_ret
    exact ⟨ret_int (by rw [hF.out]), hb0.trans (hb1.mono (by simp))⟩

theorem begin_ok {T : List NodeT} {node : Int} (h : beginT T node = 0) : checkT T = 0 ∧ 0 ≤ node ∧ node < T.length := by
  unfold beginT at h
  by_cases hc : checkT T ≠ 0
  · rw [if_pos hc] at h; exact absurd h hc
  · rw [if_neg hc] at h
    by_cases hn : node < 0 ∨ T.length ≤ node
    · rw [if_pos hn] at h; cases h
    · simp only [not_or] at hn
      exact ⟨Decidable.byContradiction hc, by omega, by omega⟩
def aRegionsT (T : List NodeT) (node : Int) : List (Int × Int) × Int := if beginT T node ≠ 0 then ([], beginT T node) else regionsT T node.toNat
def ARegionsPost (T : List NodeT) (node : Int) (w : World) (e : Ending) (w' : World) : Prop :=
  ∃ v, e = .returned (.tuple #[v, .int .i64 (aRegionsT T node).2]) ∧ w'.ownsRow w.heap.size 37 2 v (aRegionsT T node).1.length (pairCells (aRegionsT T node).1) ∧ Below w.heap.size w w'

set_option maxHeartbeats 2000000 in
theorem address_Regions (R : Nat → Prop) (v : Value) (T : List NodeT) (node : Int) (w : World) (hT : NodesIn R w v T) :
    Calls Try.prog 15 #[.agg #[v], .int .i64 node] w (ARegionsPost T node w) := by
  obtain ⟨a, cap, rfl, hc1, hc2⟩ := hT.shape
  have HT := Lib.hid hT; clear hT
  have hbg := fun wx hx => address_begin R (.slice a T.length cap) T node wx hx
  have hE := Lib.hid (show aRegionsT T node = if beginT T node ≠ 0 then ([], beginT T node) else regionsT T node.toNat from rfl)
  have hb0 : Below w.heap.size w (w.alloc (.cells #[.slice a T.length cap] 27)) := (Below.refl w.heap.size w).alloc (Nat.le_refl _) _
  have hB0 := Holds.new w #[.slice a T.length cap] 27
  by_cases hc : beginT T node = 0
  · obtain ⟨h1, h2, h3⟩ := begin_ok hc
    obtain ⟨k, rfl⟩ := Int.eq_ofNat_of_zero_le h2
    have hrg := fun wx hx => address_regions R (.slice a T.length cap) T k wx hx h1 (by omega)
    unfold RegionsPost at hrg
    have hE2 := Lib.hid (show aRegionsT T k = regionsT T k from by rw [hE.out, if_neg (by rw [hc]; simp), Int.toNat_natCast])
    rw [hc] at hbg
    have HBG := Lib.hid hbg; clear hbg
    clear hE hc h1
    generalize regionsT T k = C at hrg hE2
    obtain ⟨l, er⟩ := C
    simp only at hrg
    have HRG := Lib.hid hrg; clear hrg
    go_enter Try.func15, Try.ntmps15
    go_wp2_with fail
    refine (HBG.out _ (by exact HT.out.new hb0)).mono ?_
    rintro e w1 ⟨rfl, hb1⟩
    have hb2 := hb0.trans (hb1.mono (by simp))
    have hB1 := hB0.keeps (Keeps.of_fresh hb1 (fun _ => False)) (fun e => e)
    have bx := hB1.cell 0
    have blt := hB1.lt
    go_wp2_with fail
    refine (HRG.out _ (by exact HT.out.new hb2)).mono ?_
    rintro e w2 ⟨rv, rfl, hown, hb3⟩
    obtain ⟨ra, rc, rfl⟩ := owns_slice hown
    have hs2 := hb2.size
    go_wp2_with fail
    go_ret2
    exact ⟨_, by rw [hE2.out]; rfl, by rw [hE2.out]; exact ownsRow_base' hown hs2, hb2.trans (hb3.mono hs2)⟩
  · have hcb : (beginT T node != 0) = true := by simpa using hc
    have hE2 := Lib.hid (show aRegionsT T node = ([], beginT T node) from by rw [hE.out, if_pos hc])
    clear hE hc
    generalize beginT T node = c at hbg hE2 hcb
    have HBG := Lib.hid hbg; clear hbg
    go_enter Try.func15, Try.ntmps15
    go_wp2_with fail
    refine (HBG.out _ (by exact HT.out.new hb0)).mono ?_
    rintro e w1 ⟨rfl, hb1⟩
    go_wp2_with fail
    go_ret2
    exact ⟨.slice none 0 0, by rw [hE2.out]; rfl, by rw [hE2.out]; exact World.ownsRow_nil _ _ _ _, hb0.trans (hb1.mono (by simp))⟩

def aCellsT (T : List NodeT) (node : Int) : Int × Int × Int := if beginT T node ≠ 0 then (0, 0, beginT T node) else pairT T node

set_option maxHeartbeats 2000000 in
theorem address_Cells (R : Nat → Prop) (v : Value) (T : List NodeT) (node : Int) (w : World) (hT : NodesIn R w v T) :
    Calls Try.prog 22 #[.agg #[v], .int .i64 node] w fun e w' => e = .returned (.tuple #[.int .i64 (aCellsT T node).1, .int .i64 (aCellsT T node).2.1, .int .i64 (aCellsT T node).2.2]) ∧ Below w.heap.size w w' := by
  obtain ⟨a, cap, rfl, hc1, hc2⟩ := hT.shape
  have HT := Lib.hid hT; clear hT
  have hbg := fun wx hx => address_begin R (.slice a T.length cap) T node wx hx
  have hpr := fun wx hx => address_cells R (.slice a T.length cap) T node wx hx
  have hE := Lib.hid (show aCellsT T node = if beginT T node ≠ 0 then (0, 0, beginT T node) else pairT T node from rfl)
  have hb0 : Below w.heap.size w (w.alloc (.cells #[.slice a T.length cap] 27)) := (Below.refl w.heap.size w).alloc (Nat.le_refl _) _
  have hB0 := Holds.new w #[.slice a T.length cap] 27
  generalize pairT T node = C at hpr hE
  obtain ⟨x1, x2, x3⟩ := C
  simp only at hpr
  have HPR := Lib.hid hpr; clear hpr
  generalize beginT T node = c at hbg hE
  have HBG := Lib.hid hbg; clear hbg
  by_cases hc : c = 0
  · subst hc
    have hE2 := Lib.hid (show aCellsT T node = (x1, x2, x3) from by rw [hE.out, if_neg (by simp)])
    clear hE
    go_enter Try.func22, Try.ntmps22
    go_wp2_with fail
    refine (HBG.out _ (by exact HT.out.new hb0)).mono ?_
    rintro e w1 ⟨rfl, hb1⟩
    have hb2 := hb0.trans (hb1.mono (by simp))
    have hB1 := hB0.keeps (Keeps.of_fresh hb1 (fun _ => False)) (fun e => e)
    have bx := hB1.cell 0
    have blt := hB1.lt
    go_wp2_with fail
    refine (HPR.out _ (by exact HT.out.new hb2)).mono ?_
    rintro e w2 ⟨rfl, hb3⟩
    go_wp2_with fail
    go_ret3
    exact ⟨by rw [hE2.out]; rfl, hb2.trans (hb3.mono hb2.size)⟩
  · have hcb : (c != 0) = true := by simpa using hc
    have hE2 := Lib.hid (show aCellsT T node = (0, 0, c) from by rw [hE.out, if_pos hc])
    clear hE hc
    go_enter Try.func22, Try.ntmps22
    go_wp2_with fail
    refine (HBG.out _ (by exact HT.out.new hb0)).mono ?_
    rintro e w1 ⟨rfl, hb1⟩
    go_wp2_with fail
    go_ret3
    exact ⟨by rw [hE2.out]; rfl, hb0.trans (hb1.mono (by simp))⟩

/-- The first error of a node's addresses. -/
def nodeErr (T : List NodeT) (k : Nat) : Int :=
  if (pairT T k).2.2 ≠ 0 then (pairT T k).2.2 else if (regionsT T k).2 ≠ 0 then (regionsT T k).2 else if k = 0 then 0 else (windowsT T k).2.2
def aCheckF (T : List NodeT) : Nat → Nat → Int × Int
  | 0, _ => (0, 0)
  | f + 1, k => if nodeErr T k ≠ 0 then ((k : Int), nodeErr T k) else aCheckF T f (k + 1)
def aCheckT (T : List NodeT) : Int × Int := if checkT T ≠ 0 then (0, checkT T) else aCheckF T T.length 0

set_option maxHeartbeats 4000000 in
theorem address_Check (R : Nat → Prop) (v : Value) (T : List NodeT) (w : World) (hT : NodesIn R w v T) :
    Calls Try.prog 13 #[.agg #[v]] w fun e w' => e = .returned (.tuple #[.int .i64 (aCheckT T).1, .int .i64 (aCheckT T).2]) ∧ Below w.heap.size w w' := by
  obtain ⟨a, cap, rfl, hc1, hc2⟩ := hT.shape
  have HT := Lib.hid hT; clear hT
  have hck := fun wx hx => tree_Check R (.slice a T.length cap) T wx hx
  have hE := Lib.hid (show aCheckT T = if checkT T ≠ 0 then (0, checkT T) else aCheckF T T.length 0 from rfl)
  have hb0 : Below w.heap.size w (w.alloc (.cells #[.slice a T.length cap] 27)) := (Below.refl w.heap.size w).alloc (Nat.le_refl _) _
  have hB0 := Holds.new w #[.slice a T.length cap] 27
  by_cases hc : checkT T = 0
  · have hE2 := Lib.hid (show aCheckT T = aCheckF T T.length 0 from by rw [hE.out, if_neg (by rw [hc]; simp)])
    rw [hc] at hck
    have HCK := Lib.hid hck; clear hck
    have HC := Lib.hid hc
    have hlen := (limits_len (check_limits hc)).2
    clear hE hc
    go_enter Try.func13, Try.ntmps13
    go_wp2_with fail
    refine (HCK.out _ (by exact HT.out.new hb0)).mono ?_
    rintro e w1 ⟨rfl, hb1⟩
    have hb2 := hb0.trans (hb1.mono (by simp))
    have hB1 := hB0.keeps (Keeps.of_fresh hb1 (fun _ => False)) (fun e => e)
    have bx1 := hB1.cell 0
    have blt1 := hB1.lt
    go_wp2_with fail
    go_loopg [22] (T.length) (fun f x wr => ∃ k : Nat, x = .int .i64 k ∧ k ≤ T.length ∧ T.length ≤ k + f ∧ Hid (aCheckT T = aCheckF T (T.length - k) k) ∧ Below w.heap.size w wr ∧ Holds wr w.heap.size #[.slice a T.length cap] 27)
    case atStart => exact ⟨0, rfl, by omega, by omega, hE2.out, hb2, hB1⟩
    case round =>
      obtain ⟨k, rfl, hk, hf, hA, hb, hB⟩ := hrel
      have hbs := hb.size
      have bx := hB.cell 0
      have blt := hB.lt
      by_cases hlt : k < T.length
      · have hstep := Lib.hid (show aCheckF T (T.length - k) k = if nodeErr T k ≠ 0 then ((k : Int), nodeErr T k) else aCheckF T (T.length - (k + 1)) (k + 1) from by
          rw [show T.length - k = (T.length - (k + 1)) + 1 from by omega]; rfl)
        have hpr := fun wx hx => address_cells R (.slice a T.length cap) T k wx hx
        have hrg := fun wx hx => address_regions R (.slice a T.length cap) T k wx hx HC.out hlt
        have hwn := fun wx hx => address_windows R (.slice a T.length cap) T k wx hx HC.out hlt
        have hne := Lib.hid (show nodeErr T k = if (pairT T k).2.2 ≠ 0 then (pairT T k).2.2 else if (regionsT T k).2 ≠ 0 then (regionsT T k).2 else if k = 0 then 0 else (windowsT T k).2.2 from rfl)
        unfold RegionsPost at hrg
        unfold WindowsPost at hwn
        generalize pairT T (k : Int) = C at hpr hne
        obtain ⟨x1, x2, x3⟩ := C
        generalize regionsT T k = D at hrg hne
        obtain ⟨rl, re⟩ := D
        generalize windowsT T k = F at hwn hne
        obtain ⟨wl, wb, we⟩ := F
        simp only at hpr hrg hwn
        have HPR := Lib.hid hpr; clear hpr
        have HRG := Lib.hid hrg; clear hrg
        have HWN := Lib.hid hwn; clear hwn
        by_cases h3 : x3 = 0
        · subst h3
          by_cases hre : re = 0
          · subst hre
            by_cases hk0 : k = 0
            · have hN := Lib.hid (show nodeErr T k = 0 from by rw [hne.out, if_neg (by simp), if_neg (by simp), if_pos hk0])
              have hkb : ((k : Int) == 0) = true := by simp [hk0]
              clear hne hk0
              go_wp2_with fail
              refine (HPR.out _ (by exact HT.out.new hb)).mono ?_
              rintro e w2 ⟨rfl, hb3⟩
              have hb4 := hb.trans (hb3.mono hbs)
              have hB4 := hB.keeps (Keeps.of_fresh hb3 (fun _ => False)) (fun e => e)
              have bx4 := hB4.cell 0
              have blt4 := hB4.lt
              go_wp2_with fail
              refine (HRG.out _ (by exact HT.out.new hb4)).mono ?_
              rintro e w3 ⟨rv, rfl, hown, hb5⟩
              have hb6 := hb4.trans (hb5.mono hb4.size)
              have hB6 := hB4.keeps (Keeps.of_fresh hb5 (fun _ => False)) (fun e => e)
              go_wp2_with fail
              go_roundg (gk - 1)
              case measure => omega
              case rel => exact ⟨k + 1, by go_num, by omega, by omega, by show _ = _; rw [hA.out, hstep.out, hN.out, if_neg (by simp)], hb6, hB6⟩
            · have hkb : ((k : Int) == 0) = false := by simp; omega
              have hN := Lib.hid (show nodeErr T k = we from by rw [hne.out, if_neg (by simp), if_neg (by simp), if_neg hk0])
              have hk1 : 0 < k := by omega
              clear hne hk0
              by_cases hwe : we = 0
              · subst hwe
                go_wp2_with fail
                refine (HPR.out _ (by exact HT.out.new hb)).mono ?_
                rintro e w2 ⟨rfl, hb3⟩
                have hb4 := hb.trans (hb3.mono hbs)
                have hB4 := hB.keeps (Keeps.of_fresh hb3 (fun _ => False)) (fun e => e)
                have bx4 := hB4.cell 0
                have blt4 := hB4.lt
                go_wp2_with fail
                refine (HRG.out _ (by exact HT.out.new hb4)).mono ?_
                rintro e w3 ⟨rv, rfl, hown, hb5⟩
                have hb6 := hb4.trans (hb5.mono hb4.size)
                have hB6 := hB4.keeps (Keeps.of_fresh hb5 (fun _ => False)) (fun e => e)
                have bx6 := hB6.cell 0
                have blt6 := hB6.lt
                go_wp2_with fail
                refine (HWN.out _ (by exact HT.out.new hb6) hk1).mono ?_
                rintro e w4 ⟨rv2, rfl, hown2, hb7⟩
                have hb8 := hb6.trans (hb7.mono hb6.size)
                have hB8 := hB6.keeps (Keeps.of_fresh hb7 (fun _ => False)) (fun e => e)
                go_wp2_with fail
                go_roundg (gk - 1)
                case measure => omega
                case rel => exact ⟨k + 1, by go_num, by omega, by omega, by show _ = _; rw [hA.out, hstep.out, hN.out, if_neg (by simp)], hb8, hB8⟩
              · have hweb : (we != 0) = true := by simpa using hwe
                have hfin := Lib.hid (show aCheckT T = ((k : Int), we) from by rw [hA.out, hstep.out, hN.out, if_pos hwe])
                clear hwe
                go_wp2_with fail
                refine (HPR.out _ (by exact HT.out.new hb)).mono ?_
                rintro e w2 ⟨rfl, hb3⟩
                have hb4 := hb.trans (hb3.mono hbs)
                have hB4 := hB.keeps (Keeps.of_fresh hb3 (fun _ => False)) (fun e => e)
                have bx4 := hB4.cell 0
                have blt4 := hB4.lt
                go_wp2_with fail
                refine (HRG.out _ (by exact HT.out.new hb4)).mono ?_
                rintro e w3 ⟨rv, rfl, hown, hb5⟩
                have hb6 := hb4.trans (hb5.mono hb4.size)
                have hB6 := hB4.keeps (Keeps.of_fresh hb5 (fun _ => False)) (fun e => e)
                have bx6 := hB6.cell 0
                have blt6 := hB6.lt
                go_wp2_with fail
                refine (HWN.out _ (by exact HT.out.new hb6) hk1).mono ?_
                rintro e w4 ⟨rv2, rfl, hown2, hb7⟩
                go_wp2_with fail
                go_ret2
                exact ⟨by rw [hfin.out]; rfl, hb6.trans (hb7.mono hb6.size)⟩
          · have hreb : (re != 0) = true := by simpa using hre
            have hN := Lib.hid (show nodeErr T k = re from by rw [hne.out, if_neg (by simp), if_pos hre])
            have hfin := Lib.hid (show aCheckT T = ((k : Int), re) from by rw [hA.out, hstep.out, hN.out, if_pos hre])
            clear hne hre
            go_wp2_with fail
            refine (HPR.out _ (by exact HT.out.new hb)).mono ?_
            rintro e w2 ⟨rfl, hb3⟩
            have hb4 := hb.trans (hb3.mono hbs)
            have hB4 := hB.keeps (Keeps.of_fresh hb3 (fun _ => False)) (fun e => e)
            have bx4 := hB4.cell 0
            have blt4 := hB4.lt
            go_wp2_with fail
            refine (HRG.out _ (by exact HT.out.new hb4)).mono ?_
            rintro e w3 ⟨rv, rfl, hown, hb5⟩
            go_wp2_with fail
            go_ret2
            exact ⟨by rw [hfin.out]; rfl, hb4.trans (hb5.mono hb4.size)⟩
        · have h3b : (x3 != 0) = true := by simpa using h3
          have hN := Lib.hid (show nodeErr T k = x3 from by rw [hne.out, if_pos h3])
          have hfin := Lib.hid (show aCheckT T = ((k : Int), x3) from by rw [hA.out, hstep.out, hN.out, if_pos h3])
          clear hne h3
          go_wp2_with fail
          refine (HPR.out _ (by exact HT.out.new hb)).mono ?_
          rintro e w2 ⟨rfl, hb3⟩
          go_wp2_with fail
          go_ret2
          exact ⟨by rw [hfin.out]; rfl, hb.trans (hb3.mono hbs)⟩
      · have hfin := Lib.hid (show aCheckT T = (0, 0) from by rw [hA.out, show T.length - k = 0 from by omega]; rfl)
        go_wp2_with fail
        go_ret2
        exact ⟨by rw [hfin.out]; rfl, hb⟩
  · have hcb : (checkT T != 0) = true := by simpa using hc
    have hE2 := Lib.hid (show aCheckT T = (0, checkT T) from by rw [hE.out, if_pos hc])
    clear hE hc
    generalize checkT T = c at hck hE2 hcb
    have HCK := Lib.hid hck; clear hck
    go_enter Try.func13, Try.ntmps13
    go_wp2_with fail
    refine (HCK.out _ (by exact HT.out.new hb0)).mono ?_
    rintro e w1 ⟨rfl, hb1⟩
    go_wp2_with fail
    go_ret2
    exact ⟨by rw [hE2.out]; rfl, hb0.trans (hb1.mono (by simp))⟩
end Go.Proofs.Ytjfkjnakmmkkiaa
