/- Contracts of package tree: Children. | Contracts of bringupmake: Ints. | Contracts of bringupref03: Children. | A drawn, guarded region of TreeChecks (printed by gck.py). -/
import Derived.Test.YtjfkjnakmmkkiaaGreatZ20
import Derived.Test.YtjfkjnakmmkkiaaGreatZ12
import Derived.Test.YtjfkjnakmmkkiaaGreatZ6
import Derived.Test.YtjfkjnakmmkkiaaGreatZ27

namespace Go.Proofs.YtjfkjnakmmkkiaaGreat
open Go.RowKit

def kidsP (T : List NodeT) (node : Int) (k : Nat) : List Nat := (List.range k).filter fun i => decide (parOf T i = node)
def childT (T : List NodeT) (node : Int) : List Nat := if checkT T ≠ 0 ∨ node < 0 then [] else kidsP T node T.length
theorem kidsP_yes {T : List NodeT} {node : Int} {k : Nat} (h : parOf T k = node) : kidsP T node (k + 1) = kidsP T node k ++ [k] := by
  unfold kidsP; rw [List.range_succ, List.filter_append]; simp [h]
theorem kidsP_no {T : List NodeT} {node : Int} {k : Nat} (h : ¬ parOf T k = node) : kidsP T node (k + 1) = kidsP T node k := by
  unfold kidsP; rw [List.range_succ, List.filter_append]; simp [h]
theorem kidsP_len (T : List NodeT) (node : Int) (k : Nat) : (kidsP T node k).length ≤ k := by
  unfold kidsP; exact Nat.le_trans (List.length_filter_le _ _) (by simp)

set_option maxRecDepth 100000 in
set_option maxHeartbeats 2000000 in
theorem tree_Children (R : Nat → Prop) (v : Value) (T : List NodeT) (node : Int) (w : World) (hT : NodesIn R w v T) :
    Calls Tryz.prog 40 #[.agg #[v], .int .i64 node] w fun e w' => ∃ u, e = .returned u ∧ w'.ownsRow w.heap.size 3 1 u (childT T node).length (natCells (childT T node)) ∧ Below w.heap.size w w' := by
  obtain ⟨a, cap, rfl, hc1, hc2⟩ := hT.shape
  have HT := Lib.hid hT; clear hT
  have hck := fun wx hx => tree_Check R (.slice a T.length cap) T wx hx
  have hE := Lib.hid (show childT T node = if checkT T ≠ 0 ∨ node < 0 then [] else kidsP T node T.length from rfl)
  have hb0 : Below w.heap.size w (w.alloc (.cells #[.slice a T.length cap] 25)) := (Below.refl _ _).alloc (Nat.le_refl _) _
  have hB0 := Holds.new w #[.slice a T.length cap] 25
  by_cases hz : checkT T = 0
  · have hl2 := (limits_len (check_limits hz)).2
    by_cases hr : node < 0
    · have hX := Lib.hid (show childT T node = [] from by rw [hE.out, if_pos (.inr hr)])
      rw [hz] at hck
      have HCK := Lib.hid hck
      clear hck hz
      go_enter Tryz.func40, Tryz.ntmps40
      go_wp2_with fail
      refine (HCK.out _ (by exact HT.out.new hb0)).mono ?_
      rintro e w1 ⟨rfl, hb1⟩
      go_wp2_with fail
      go_ret
      exact ⟨_, rfl, by rw [hX.out]; exact World.ownsRow_nil _ _ _ _, hb0.trans (hb1.mono (by simp))⟩
    · have hX := Lib.hid (show childT T node = kidsP T node T.length from by rw [hE.out, if_neg (by rintro (h | h); exact h hz; omega)])
      rw [hz] at hck
      have HCK := Lib.hid hck
      have hr' : 0 ≤ node := by omega
      clear hck hz hE hr
      go_enter Tryz.func40, Tryz.ntmps40
      go_wp2_with fail
      refine (HCK.out _ (by exact HT.out.new hb0)).mono ?_
      rintro e w1 ⟨rfl, hb1⟩
      have hB1 := hB0.keeps (Keeps.of_fresh hb1 (fun _ => False)) (fun e => e)
      have bx := hB1.cell 0
      have bl := hB1.lt
      have hb2 := hb0.trans (hb1.mono (by simp))
      have hlw := hb2.size
      have HT1 := Lib.hid (HT.out.new hb2)
      go_wp2_with fail
      go_loopg [5, 18] T.length (fun f x y wr => ∃ k : Nat, y = .int .i64 k ∧ k ≤ T.length ∧ T.length ≤ k + f ∧ wr.ownsRow w.heap.size 3 1 x (kidsP T node k).length (natCells (kidsP T node k)) ∧ Below w.heap.size w wr)
      case atStart => exact ⟨0, rfl, by omega, by omega, World.ownsRow_nil _ _ _ _, hb2⟩
      case round =>
        obtain ⟨k, rfl, hk1, hk2, hown, hb⟩ := hrel
        have hbs := hb.size
        by_cases hlt : k < T.length
        · have HTr := HT.out.new hb
          obtain ⟨g, o, pa, pc, rfl, hg, q0, q1, q2, hP, hpc, hpc2, hns, hp0, hp1⟩ := HTr.at k hlt
          have hkl := kidsP_len T node k
          obtain ⟨va, vc, rfl⟩ := row_slice hown
          have hcut : (k : Int) < (T.length : Int) := by omega
          by_cases hn : parOf T k = node
          · have hst := Lib.hid (kidsP_yes hn)
            rw [parOf_at hlt] at hn
            clear hP
            generalize T[k] = nd at *
            obtain ⟨i0, hi, hz0, hz1, hz2⟩ := info_parts infoInt
            have hb3 : Below wr.heap.size wr ((wr.alloc (.cells #[.int .i64 node, .string nd.name, .slice pa nd.props.length pc] 76)).alloc (.cells #[.int .i64 k] 3)) := ((Below.refl _ _).alloc (Nat.le_refl _) _).alloc (by simp) _
            have hown4 := Lib.hid (row_new hown hb3)
            have hb4 := Lib.hid (hb.trans (hb3.mono hbs))
            clear hown hb3
            go_wp2_with (at_builtin; refine wpList_append_own _ rfl _ _ 22 rfl w.heap.size 3 i0 (.int .i64 0) 1 8 Tryz.underlying22 hi hz0 hz1 hz2 rfl (by decide) _ (kidsP T node k).length (natCells (kidsP T node k)) rfl (by exact hown4.out) ⟨wr.heap.size + 1, 0, none⟩ 1 1 [.int .i64 k] rfl rfl ?c1 ?c2 ?c3 ?c4 ?c5 ?_)
            case c1 => exact new_cells _ _ _ (wr.heap.size + 1) (by simp) _ rfl
            case c2 => intro u hu; simp at hu; rcases hu with rfl; rfl
            case c3 => unfold maxLen; omega
            case c4 => omega
            case c5 => simp; omega
            intro v' w7 hown' hgrow _
            obtain ⟨ra', rc', rfl⟩ := row_slice hown'
            have hb7 := hb4.out.grown hgrow (by simp; omega) (fun i e => (hown4.out.lt i e).1)
            have HF := Lib.hid (show w7.ownsRow w.heap.size 3 1 (.slice ra' ((kidsP T node k).length + 1) rc') (kidsP T node (k + 1)).length (natCells (kidsP T node (k + 1))) from by
              rw [hst.out, List.length_append, List.length_singleton]; unfold natCells; rw [List.map_append]; exact hown')
            clear hown' hgrow hown4 hb4
            go_wp2_with fail
            go_roundg (gk - 1)
            case measure => omega
            case rel => exact ⟨k + 1, by go_num, by omega, by omega, HF.out, hb7⟩
          · have hst := Lib.hid (kidsP_no hn)
            rw [parOf_at hlt] at hn
            clear hP
            generalize T[k] = nd at *
            have HOW := Lib.hid hown
            clear hown
            go_wp2_with fail
            go_roundg (gk - 1)
            case measure => omega
            case rel => exact ⟨k + 1, by go_num, by omega, by omega, by rw [hst.out]; exact row_new HOW.out ((Below.refl _ _).alloc (Nat.le_refl _) _), hb.alloc hbs _⟩
        · obtain rfl : k = T.length := by omega
          obtain ⟨va, vc, rfl⟩ := row_slice hown
          have HF := Lib.hid hown
          clear hown
          go_wp2_with fail
          go_ret
          exact ⟨_, rfl, by rw [hX.out]; exact HF.out, hb⟩
  · have hz' : (checkT T != 0) = true := by simpa using hz
    have hX := Lib.hid (show childT T node = [] from by rw [hE.out, if_pos (.inl hz)])
    have HCK := Lib.hid hck
    clear hck hz hE
    generalize checkT T = c at *
    go_enter Tryz.func40, Tryz.ntmps40
    go_wp2_with fail
    refine (HCK.out _ (by exact HT.out.new hb0)).mono ?_
    rintro e w1 ⟨rfl, hb1⟩
    go_wp2_with fail
    go_ret
    exact ⟨_, rfl, by rw [hX.out]; exact World.ownsRow_nil _ _ _ _, hb0.trans (hb1.mono (by simp))⟩
end Go.Proofs.YtjfkjnakmmkkiaaGreat

namespace Go.Proofs.YtjfkjnakmmkkiaaGreat
open Go.RowKit

set_option maxRecDepth 100000 in
set_option maxHeartbeats 2000000 in
/-- Equal lists are found equal. -/
theorem mk_Ints (b1 b2 : Nat) (v u : Value) (l : List Nat) (w : World) (h1 : w.ownsRow b1 3 1 v l.length (natCells l)) (h2 : w.ownsRow b2 3 1 u l.length (natCells l)) :
    Calls Tryz.prog 39 #[v, u] w fun e w' => e = .returned (.bool true) ∧ Below w.heap.size w w' := by
  obtain ⟨a, c, rfl⟩ := row_slice h1
  obtain ⟨a', c', rfl⟩ := row_slice h2
  have H1 := Lib.hid h1; have H2 := Lib.hid h2
  have hlen : l.length ≤ 9223372036854775807 := by
    rcases h1.2 with ⟨_, h0⟩ | ⟨_, _, _, e, _, _, hc, hm, _⟩
    · omega
    · unfold maxLen at hm; cases e; omega
  clear h1 h2
  have hne : ((l.length : Int) != (l.length : Int)) = false := by simp
  go_enter Tryz.func39, Tryz.ntmps39
  go_wp2_with fail
  go_loopg [5] l.length (fun f x wr => ∃ i : Nat, x = .int .i64 i ∧ i ≤ l.length ∧ l.length ≤ i + f ∧ Below w.heap.size w wr)
  case atStart => exact ⟨0, rfl, by omega, by omega, Below.refl _ _⟩
  case round =>
    obtain ⟨i, rfl, hi1, hi2, hb⟩ := hrel
    by_cases hlt : i < l.length
    · have r1 := row_new H1.out hb
      have r2 := row_new H2.out hb
      obtain ⟨g, cc, he, _, hg⟩ := r1.form (by omega)
      obtain ⟨g', cc', he', _, hg'⟩ := r2.form (by omega)
      cases he
      cases he'
      have hnc : (natCells l)[i]? = some (.int .i64 (l[i] : Int)) := by simp [natCells, hlt]
      have c0 := (r1.cellAt i (by omega)).trans hnc
      have d0 := (r2.cellAt i (by omega)).trans hnc
      have k1 : (i : Int) < (l.length : Int) := by omega
      have HB := Lib.hid hb
      have hxx : (((l[i] : Nat) : Int) != ((l[i] : Nat) : Int)) = false := by simp
      clear r1 r2 hb hnc
      generalize ((l[i] : Nat) : Int) = x at *
      go_wp2_with fail
      go_quiet (fail)
      go_wp2_with fail
      go_roundg (gk - 1)
      case measure => omega
      case rel => exact ⟨i + 1, by go_num, by omega, by omega, ⟨HB.out.os, HB.out.tape, HB.out.output, HB.out.size, HB.out.block⟩⟩
    · have k1 : ¬ (i : Int) < (l.length : Int) := by omega
      have HB := Lib.hid hb
      clear hb
      go_wp2_with fail
      go_ret
      exact ⟨rfl, HB.out⟩
end Go.Proofs.YtjfkjnakmmkkiaaGreat

namespace Go.Proofs.YtjfkjnakmmkkiaaGreat
open Go.RowKit

set_option maxRecDepth 100000 in
set_option maxHeartbeats 2000000 in
theorem ref3_Children (R : Nat → Prop) (v : Value) (T : List NodeT) (node : Int) (w : World) (hT : NodesIn R w v T) :
    Calls Tryz.prog 41 #[.agg #[v], .int .i64 node] w fun e w' => ∃ u, e = .returned u ∧ w'.ownsRow w.heap.size 3 1 u (childT T node).length (natCells (childT T node)) ∧ Below w.heap.size w w' := by
  obtain ⟨a, cap, rfl, hc1, hc2⟩ := hT.shape
  have HT := Lib.hid hT; clear hT
  have hck := fun wx hx => ref3_Check R (.slice a T.length cap) T wx hx
  have hE := Lib.hid (show childT T node = if checkT T ≠ 0 ∨ node < 0 then [] else kidsP T node T.length from rfl)
  have hb0 : Below w.heap.size w (w.alloc (.cells #[.slice a T.length cap] 25)) := (Below.refl _ _).alloc (Nat.le_refl _) _
  have hB0 := Holds.new w #[.slice a T.length cap] 25
  by_cases hz : checkT T = 0
  · have hl2 := (limits_len (check_limits hz)).2
    by_cases hr : node < 0
    · have hX := Lib.hid (show childT T node = [] from by rw [hE.out, if_pos (.inr hr)])
      rw [hz] at hck
      have HCK := Lib.hid hck
      clear hck hz
      go_enter Tryz.func41, Tryz.ntmps41
      go_wp2_with fail
      refine (HCK.out _ (by exact HT.out.new hb0)).mono ?_
      rintro e w1 ⟨rfl, hb1⟩
      go_wp2_with fail
      go_ret
      exact ⟨_, rfl, by rw [hX.out]; exact World.ownsRow_nil _ _ _ _, hb0.trans (hb1.mono (by simp))⟩
    · have hX := Lib.hid (show childT T node = kidsP T node T.length from by rw [hE.out, if_neg (by rintro (h | h); exact h hz; omega)])
      rw [hz] at hck
      have HCK := Lib.hid hck
      have hr' : 0 ≤ node := by omega
      clear hck hz hE hr
      go_enter Tryz.func41, Tryz.ntmps41
      go_wp2_with fail
      refine (HCK.out _ (by exact HT.out.new hb0)).mono ?_
      rintro e w1 ⟨rfl, hb1⟩
      have hB1 := hB0.keeps (Keeps.of_fresh hb1 (fun _ => False)) (fun e => e)
      have bx := hB1.cell 0
      have bl := hB1.lt
      have hb2 := hb0.trans (hb1.mono (by simp))
      have hlw := hb2.size
      have HT1 := Lib.hid (HT.out.new hb2)
      go_wp2_with fail
      go_loopg [5, 18] T.length (fun f x y wr => ∃ k : Nat, y = .int .i64 k ∧ k ≤ T.length ∧ T.length ≤ k + f ∧ wr.ownsRow w.heap.size 3 1 x (kidsP T node k).length (natCells (kidsP T node k)) ∧ Below w.heap.size w wr)
      case atStart => exact ⟨0, rfl, by omega, by omega, World.ownsRow_nil _ _ _ _, hb2⟩
      case round =>
        obtain ⟨k, rfl, hk1, hk2, hown, hb⟩ := hrel
        have hbs := hb.size
        by_cases hlt : k < T.length
        · have HTr := HT.out.new hb
          obtain ⟨g, o, pa, pc, rfl, hg, q0, q1, q2, hP, hpc, hpc2, hns, hp0, hp1⟩ := HTr.at k hlt
          have hkl := kidsP_len T node k
          obtain ⟨va, vc, rfl⟩ := row_slice hown
          have hcut : (k : Int) < (T.length : Int) := by omega
          by_cases hn : parOf T k = node
          · have hst := Lib.hid (kidsP_yes hn)
            rw [parOf_at hlt] at hn
            clear hP
            generalize T[k] = nd at *
            obtain ⟨i0, hi, hz0, hz1, hz2⟩ := info_parts infoInt
            have hb3 : Below wr.heap.size wr ((wr.alloc (.cells #[.int .i64 node, .string nd.name, .slice pa nd.props.length pc] 76)).alloc (.cells #[.int .i64 k] 3)) := ((Below.refl _ _).alloc (Nat.le_refl _) _).alloc (by simp) _
            have hown4 := Lib.hid (row_new hown hb3)
            have hb4 := Lib.hid (hb.trans (hb3.mono hbs))
            clear hown hb3
            go_wp2_with (at_builtin; refine wpList_append_own _ rfl _ _ 22 rfl w.heap.size 3 i0 (.int .i64 0) 1 8 Tryz.underlying22 hi hz0 hz1 hz2 rfl (by decide) _ (kidsP T node k).length (natCells (kidsP T node k)) rfl (by exact hown4.out) ⟨wr.heap.size + 1, 0, none⟩ 1 1 [.int .i64 k] rfl rfl ?c1 ?c2 ?c3 ?c4 ?c5 ?_)
            case c1 => exact new_cells _ _ _ (wr.heap.size + 1) (by simp) _ rfl
            case c2 => intro u hu; simp at hu; rcases hu with rfl; rfl
            case c3 => unfold maxLen; omega
            case c4 => omega
            case c5 => simp; omega
            intro v' w7 hown' hgrow _
            obtain ⟨ra', rc', rfl⟩ := row_slice hown'
            have hb7 := hb4.out.grown hgrow (by simp; omega) (fun i e => (hown4.out.lt i e).1)
            have HF := Lib.hid (show w7.ownsRow w.heap.size 3 1 (.slice ra' ((kidsP T node k).length + 1) rc') (kidsP T node (k + 1)).length (natCells (kidsP T node (k + 1))) from by
              rw [hst.out, List.length_append, List.length_singleton]; unfold natCells; rw [List.map_append]; exact hown')
            clear hown' hgrow hown4 hb4
            go_wp2_with fail
            go_roundg (gk - 1)
            case measure => omega
            case rel => exact ⟨k + 1, by go_num, by omega, by omega, HF.out, hb7⟩
          · have hst := Lib.hid (kidsP_no hn)
            rw [parOf_at hlt] at hn
            clear hP
            generalize T[k] = nd at *
            have HOW := Lib.hid hown
            clear hown
            go_wp2_with fail
            go_roundg (gk - 1)
            case measure => omega
            case rel => exact ⟨k + 1, by go_num, by omega, by omega, by rw [hst.out]; exact row_new HOW.out ((Below.refl _ _).alloc (Nat.le_refl _) _), hb.alloc hbs _⟩
        · obtain rfl : k = T.length := by omega
          obtain ⟨va, vc, rfl⟩ := row_slice hown
          have HF := Lib.hid hown
          clear hown
          go_wp2_with fail
          go_ret
          exact ⟨_, rfl, by rw [hX.out]; exact HF.out, hb⟩
  · have hz' : (checkT T == 0) = false := by simpa using hz
    have hX := Lib.hid (show childT T node = [] from by rw [hE.out, if_pos (.inl hz)])
    have HCK := Lib.hid hck
    clear hck hz hE
    generalize checkT T = c at *
    go_enter Tryz.func41, Tryz.ntmps41
    go_wp2_with fail
    refine (HCK.out _ (by exact HT.out.new hb0)).mono ?_
    rintro e w1 ⟨rfl, hb1⟩
    go_wp2_with fail
    go_ret
    exact ⟨_, rfl, by rw [hX.out]; exact World.ownsRow_nil _ _ _ _, hb0.trans (hb1.mono (by simp))⟩
end Go.Proofs.YtjfkjnakmmkkiaaGreat

namespace Go.Proofs.YtjfkjnakmmkkiaaGreat
open Go.RowKit

noncomputable def ckbOps (n : Nat) : Array Oper := (regOps (Tryz.f4.body.getD .skip) n).getD #[]
theorem ckbR : inRow2 .any (ckbOps 13) = true := by kernel_rfl
theorem ckbRa : apartB (ckbOps 13) = true := by kernel_rfl
theorem ckbRn : (ckbOps 13).size = 17 := by kernel_rfl
def CkbF (W0 : Nat) (_ : Nat) (xa : Option Addr) (xc : Nat) (X : List NodeT) (k : Int) (j : Nat) : Value → World → Prop := match j with
  | 0 => fun u _ => u = .agg #[.slice xa X.length xc]
  | 1 => fun u _ => u = .int .i64 k
  | 2 => fun u _ => u = .string (pathQ X k)
  | 3 => fun u _ => u = .agg #[.slice xa X.length xc]
  | 4 => fun u _ => u = .int .i64 k
  | 5 => fun u _ => u = .string (pathQ X k)
  | 6 => fun u _ => u = .bool false
  | 7 => fun u _ => u = .bool false
  | 8 => fun u _ => u = .agg #[.slice xa X.length xc]
  | 9 => fun u _ => u = .int .i64 k
  | 10 => fun u w => w.ownsRow W0 3 1 u (childT X k).length (natCells (childT X k))
  | 11 => fun u _ => u = .agg #[.slice xa X.length xc]
  | 12 => fun u _ => u = .int .i64 k
  | 13 => fun u w => w.ownsRow W0 3 1 u (childT X k).length (natCells (childT X k))
  | 14 => fun u _ => u = .bool true
  | 15 => fun u _ => u = .bool false
  | 16 => fun u _ => u = .bool false
  | _ => fun _ _ => True
theorem CkbF.new {W0 : Nat} {Xb : Nat} {xa : Option Addr} {xc : Nat} {X : List NodeT} {k : Int} {j : Nat} {u : Value} {w w' : World} (h : CkbF W0 Xb xa xc X k j u w) (kb : Below w.heap.size w w') : CkbF W0 Xb xa xc X k j u w' := by
  unfold CkbF at *
  split at h
  all_goals first
    | exact h | exact row_new h kb

set_option maxHeartbeats 4000000 in
set_option maxRecDepth 100000 in
theorem ckb_region {Q : Exit → Act → World → Prop} (Xb : Nat) (xa : Option Addr) (xc : Nat) (X : List NodeT) (k : Int) (W w : World) (Ac : Act) (hsz : Ac.tmps.size = 197)
    (RRX : Nat → Prop) (hXW : Holds W Xb #[.slice xa X.length xc] 25) (hXN : NodesIn RRX W (.slice xa X.length xc) X) (aX : Ac.tmps.getD 14 undef = .pointer (some ⟨Xb, 0, none⟩))
    (ak : Ac.tmps.getD 16 undef = .int .i64 k)
    (hS : Below W.heap.size W w) (hQ : ∀ c w', SameBut (ckbOps 13) Ac c → Below W.heap.size W w' → c.tmps.getD 108 undef = .bool false → Q .normal c w') :
    wpAny Tryz.prog .any (ckbOps 13) Q (ckbOps 13).size (Array.replicate (ckbOps 13).size false) Ac w := by
  refine wpAny_inv2 (fun l c wx => RInv (ckbOps 13) Ac (CkbF W.heap.size Xb xa xc X k) (fun wx => Below W.heap.size W wx) l c wx) ckbR (fun l c wx hI hl => hQ c wx hI.1 hI.2.1 (hI.fact 16 108 rfl (hl 16 (by rw [ckbRn]; decide)))) ?hstep _ _ _ _ (by simp) (by simp) (RInv.start hS)
  intro l c wx hI i' op ho _ hall K' hK'
  have hi : i' < 17 := by rw [← ckbRn]; exact (Array.getElem?_eq_some_iff.1 ho).1
  simp only [ckbOps, regOps, Tryz.f4, Option.getD_some, reduceIte, Nat.reduceEqDiff] at ho
  have hS := hI.2.1
  have sX := (hI.slot 14 (by kernel_rfl)).trans aX
  have sk := (hI.slot 16 (by kernel_rfl)).trans ak
  simp only [Array.getD_eq_getD_getElem?] at sX sk
  have hd7 : (ckbOps 13)[7]?.bind (fun x => x.dst) = some 99 := by kernel_rfl
  have hic : i' = 0 ∨ i' = 1 ∨ i' = 2 ∨ i' = 3 ∨ i' = 4 ∨ i' = 5 ∨ i' = 6 ∨ i' = 7 ∨ i' = 8 ∨ i' = 9 ∨ i' = 10 ∨ i' = 11 ∨ i' = 12 ∨ i' = 13 ∨ i' = 14 ∨ i' = 15 ∨ i' = 16 := by omega
  rcases hic with rfl | rfl | rfl | rfl | rfl | rfl | rfl | rfl | rfl | rfl | rfl | rfl | rfl | rfl | rfl | rfl | rfl
  all_goals cases ho
  · have c0 := (hXW.keeps (Keeps.of_fresh hS (fun _ => False)) (fun e => e)).cell 0
    have cl := (hXW.keeps (Keeps.of_fresh hS (fun _ => False)) (fun e => e)).lt
    go_simp
    exact hK' _ _ (hI.step ckbRa 0 92 rfl (by rw [hsz]; decide) _ _ rfl hall hS (fun _ _ h => h) rfl)
  · go_simp
    exact hK' _ _ (hI.step ckbRa 1 93 rfl (by rw [hsz]; decide) _ _ rfl hall hS (fun _ _ h => h) rfl)
  · have e0 : c.tmps.getD 92 undef = .agg #[.slice xa X.length xc] := hI.fact 0 92 rfl (listed hall 0 (by kernel_rfl))
    simp only [Array.getD_eq_getD_getElem?] at e0
    have e1 : c.tmps.getD 93 undef = .int .i64 k := hI.fact 1 93 rfl (listed hall 1 (by kernel_rfl))
    simp only [Array.getD_eq_getD_getElem?] at e1
    go_simp
    refine (tree_Path _ _ X k wx (hXN.new hS)).mono ?_
    rintro e w2 ⟨rfl, hb2⟩
    go_simp
    have hS2 : Below W.heap.size W w2 := hS.trans (hb2.mono hS.size)
    exact hK' _ _ (hI.step ckbRa 2 94 rfl (by rw [hsz]; decide) _ _ rfl hall hS2 (fun _ _ h => CkbF.new h hb2) rfl)
  · have c0 := (hXW.keeps (Keeps.of_fresh hS (fun _ => False)) (fun e => e)).cell 0
    have cl := (hXW.keeps (Keeps.of_fresh hS (fun _ => False)) (fun e => e)).lt
    go_simp
    exact hK' _ _ (hI.step ckbRa 3 95 rfl (by rw [hsz]; decide) _ _ rfl hall hS (fun _ _ h => h) rfl)
  · go_simp
    exact hK' _ _ (hI.step ckbRa 4 96 rfl (by rw [hsz]; decide) _ _ rfl hall hS (fun _ _ h => h) rfl)
  · have e3 : c.tmps.getD 95 undef = .agg #[.slice xa X.length xc] := hI.fact 3 95 rfl (listed hall 3 (by kernel_rfl))
    simp only [Array.getD_eq_getD_getElem?] at e3
    have e4 : c.tmps.getD 96 undef = .int .i64 k := hI.fact 4 96 rfl (listed hall 4 (by kernel_rfl))
    simp only [Array.getD_eq_getD_getElem?] at e4
    go_simp
    refine (ref3_Path _ _ X k wx (hXN.new hS)).mono ?_
    rintro e w2 ⟨rfl, hb2⟩
    go_simp
    have hS2 : Below W.heap.size W w2 := hS.trans (hb2.mono hS.size)
    exact hK' _ _ (hI.step ckbRa 5 97 rfl (by rw [hsz]; decide) _ _ rfl hall hS2 (fun _ _ h => CkbF.new h hb2) rfl)
  · have e2 : c.tmps.getD 94 undef = .string (pathQ X k) := hI.fact 2 94 rfl (listed hall 2 (by kernel_rfl))
    simp only [Array.getD_eq_getD_getElem?] at e2
    have e5 : c.tmps.getD 97 undef = .string (pathQ X k) := hI.fact 5 97 rfl (listed hall 5 (by kernel_rfl))
    simp only [Array.getD_eq_getD_getElem?] at e5
    have hbn : ∀ x : Int, (x != x) = false := fun x => by simp
    have hbs : ∀ x : ByteArray, (x.toList == x.toList) = true := fun x => by simp
    have hbb : ∀ x : Bool, (x != x) = false := fun x => by simp
    go_simp
    exact hK' _ _ (hI.step ckbRa 6 98 rfl (by rw [hsz]; decide) _ _ rfl hall hS (fun _ _ h => h) rfl)
  · have e6 : c.tmps.getD 98 undef = .bool false := hI.fact 6 98 rfl (listed hall 6 (by kernel_rfl))
    simp only [Array.getD_eq_getD_getElem?] at e6
    go_simp
    exact hK' _ _ (hI.step ckbRa 7 99 rfl (by rw [hsz]; decide) _ _ rfl hall hS (fun _ _ h => h) rfl)
  · have g0 : c.tmps[99]? = some (.bool false) := guard_val (hI.fact 7 99 rfl (listed hall 7 (by kernel_rfl)))
    have c0 := (hXW.keeps (Keeps.of_fresh hS (fun _ => False)) (fun e => e)).cell 0
    have cl := (hXW.keeps (Keeps.of_fresh hS (fun _ => False)) (fun e => e)).lt
    go_simp
    try rw [if_pos (by rw [hd7]; simp only [Option.bind_some, g0])]
    exact hK' _ _ (hI.step ckbRa 8 100 rfl (by rw [hsz]; decide) _ _ rfl hall hS (fun _ _ h => h) rfl)
  · have g0 : c.tmps[99]? = some (.bool false) := guard_val (hI.fact 7 99 rfl (listed hall 7 (by kernel_rfl)))
    go_simp
    try rw [if_pos (by rw [hd7]; simp only [Option.bind_some, g0])]
    exact hK' _ _ (hI.step ckbRa 9 101 rfl (by rw [hsz]; decide) _ _ rfl hall hS (fun _ _ h => h) rfl)
  · have g0 : c.tmps[99]? = some (.bool false) := guard_val (hI.fact 7 99 rfl (listed hall 7 (by kernel_rfl)))
    have e8 : c.tmps.getD 100 undef = .agg #[.slice xa X.length xc] := hI.fact 8 100 rfl (listed hall 8 (by kernel_rfl))
    simp only [Array.getD_eq_getD_getElem?] at e8
    have e9 : c.tmps.getD 101 undef = .int .i64 k := hI.fact 9 101 rfl (listed hall 9 (by kernel_rfl))
    simp only [Array.getD_eq_getD_getElem?] at e9
    go_simp
    try rw [if_pos (by rw [hd7]; simp only [Option.bind_some, g0])]
    refine (tree_Children _ _ X k wx (hXN.new hS)).mono ?_
    rintro e w2 ⟨u2, rfl, hr2, hb2⟩
    obtain ⟨ua, uc, rfl⟩ := row_slice hr2
    go_simp
    try rw [if_pos (by rw [hd7]; simp only [Option.bind_some, g0])]
    have hS2 : Below W.heap.size W w2 := hS.trans (hb2.mono hS.size)
    exact hK' _ _ (hI.step ckbRa 10 102 rfl (by rw [hsz]; decide) _ _ rfl hall hS2 (fun _ _ h => CkbF.new h hb2) (row_base hr2 hS.size))
  · have g0 : c.tmps[99]? = some (.bool false) := guard_val (hI.fact 7 99 rfl (listed hall 7 (by kernel_rfl)))
    have c0 := (hXW.keeps (Keeps.of_fresh hS (fun _ => False)) (fun e => e)).cell 0
    have cl := (hXW.keeps (Keeps.of_fresh hS (fun _ => False)) (fun e => e)).lt
    go_simp
    try rw [if_pos (by rw [hd7]; simp only [Option.bind_some, g0])]
    exact hK' _ _ (hI.step ckbRa 11 103 rfl (by rw [hsz]; decide) _ _ rfl hall hS (fun _ _ h => h) rfl)
  · have g0 : c.tmps[99]? = some (.bool false) := guard_val (hI.fact 7 99 rfl (listed hall 7 (by kernel_rfl)))
    go_simp
    try rw [if_pos (by rw [hd7]; simp only [Option.bind_some, g0])]
    exact hK' _ _ (hI.step ckbRa 12 104 rfl (by rw [hsz]; decide) _ _ rfl hall hS (fun _ _ h => h) rfl)
  · have g0 : c.tmps[99]? = some (.bool false) := guard_val (hI.fact 7 99 rfl (listed hall 7 (by kernel_rfl)))
    have e11 : c.tmps.getD 103 undef = .agg #[.slice xa X.length xc] := hI.fact 11 103 rfl (listed hall 11 (by kernel_rfl))
    simp only [Array.getD_eq_getD_getElem?] at e11
    have e12 : c.tmps.getD 104 undef = .int .i64 k := hI.fact 12 104 rfl (listed hall 12 (by kernel_rfl))
    simp only [Array.getD_eq_getD_getElem?] at e12
    go_simp
    try rw [if_pos (by rw [hd7]; simp only [Option.bind_some, g0])]
    refine (ref3_Children _ _ X k wx (hXN.new hS)).mono ?_
    rintro e w2 ⟨u2, rfl, hr2, hb2⟩
    obtain ⟨ua, uc, rfl⟩ := row_slice hr2
    go_simp
    try rw [if_pos (by rw [hd7]; simp only [Option.bind_some, g0])]
    have hS2 : Below W.heap.size W w2 := hS.trans (hb2.mono hS.size)
    exact hK' _ _ (hI.step ckbRa 13 105 rfl (by rw [hsz]; decide) _ _ rfl hall hS2 (fun _ _ h => CkbF.new h hb2) (row_base hr2 hS.size))
  · have g0 : c.tmps[99]? = some (.bool false) := guard_val (hI.fact 7 99 rfl (listed hall 7 (by kernel_rfl)))
    have e10 : wx.ownsRow W.heap.size 3 1 (c.tmps.getD 102 undef) (childT X k).length (natCells (childT X k)) := hI.fact 10 102 rfl (listed hall 10 (by kernel_rfl))
    obtain ⟨ka10, kc10, ke10⟩ := row_slice e10
    rw [ke10] at e10
    simp only [Array.getD_eq_getD_getElem?] at ke10
    have e13 : wx.ownsRow W.heap.size 3 1 (c.tmps.getD 105 undef) (childT X k).length (natCells (childT X k)) := hI.fact 13 105 rfl (listed hall 13 (by kernel_rfl))
    obtain ⟨ka13, kc13, ke13⟩ := row_slice e13
    rw [ke13] at e13
    simp only [Array.getD_eq_getD_getElem?] at ke13
    go_simp
    try rw [if_pos (by rw [hd7]; simp only [Option.bind_some, g0])]
    refine (mk_Ints _ _ _ _ (childT X k) wx e10 e13).mono ?_
    rintro e w2 ⟨rfl, hb2⟩
    go_simp
    try rw [if_pos (by rw [hd7]; simp only [Option.bind_some, g0])]
    have hS2 : Below W.heap.size W w2 := hS.trans (hb2.mono hS.size)
    exact hK' _ _ (hI.step ckbRa 14 106 rfl (by rw [hsz]; decide) _ _ rfl hall hS2 (fun _ _ h => CkbF.new h hb2) rfl)
  · have g0 : c.tmps[99]? = some (.bool false) := guard_val (hI.fact 7 99 rfl (listed hall 7 (by kernel_rfl)))
    have e14 : c.tmps.getD 106 undef = .bool true := hI.fact 14 106 rfl (listed hall 14 (by kernel_rfl))
    simp only [Array.getD_eq_getD_getElem?] at e14
    go_simp
    try rw [if_pos (by rw [hd7]; simp only [Option.bind_some, g0])]
    exact hK' _ _ (hI.step ckbRa 15 107 rfl (by rw [hsz]; decide) _ _ rfl hall hS (fun _ _ h => h) rfl)
  · have e7 : c.tmps.getD 99 undef = .bool false := hI.fact 7 99 rfl (listed hall 7 (by kernel_rfl))
    simp only [Array.getD_eq_getD_getElem?] at e7
    have e15 : c.tmps.getD 107 undef = .bool false := hI.fact 15 107 rfl (listed hall 15 (by kernel_rfl))
    simp only [Array.getD_eq_getD_getElem?] at e15
    go_simp
    exact hK' _ _ (hI.step ckbRa 16 108 rfl (by rw [hsz]; decide) _ _ rfl hall hS (fun _ _ h => h) rfl)
end Go.Proofs.YtjfkjnakmmkkiaaGreat
