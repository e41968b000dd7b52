/- Contracts of bringupref07: Cells. -/
import Derived.Test.YthkoaakicdhnpaaGreatZ8
import Derived.Deep.DeepCutAuto
import Derived.Deep.CutBlock

namespace Go.Proofs.YthkoaakicdhnpaaGreat
open Go.RowKit

theorem cells_drop (s : ByteArray) (i : Nat) (h : i + 3 < s.size) : cellsF (s.data.toList.drop i) = wordT (s[i]'(by omega)) (s[i + 1]'(by omega)) (s[i + 2]'(by omega)) (s[i + 3]'(by omega)) :: cellsF (s.data.toList.drop (i + 4)) := by
  rw [drop_cons s i (by omega), drop_cons s (i + 1) (by omega), drop_cons s (i + 1 + 1) (by omega), drop_cons s (i + 1 + 1 + 1) (by omega)]
  rfl

set_option maxRecDepth 100000 in
set_option maxHeartbeats 4000000 in
theorem ref7_Cells (s : ByteArray) (w : World) (hs2 : s.size ≤ 1000000) :
    Calls Tryz.prog 75 #[.string s] w (CellsPost s w) := by
  by_cases h0 : s.size = 0
  · have hne : ((s.size : Int) == 0) = true := by simp [h0]
    have hC := Lib.hid (show cellsOkB s = false from by unfold cellsOkB; simp [h0])
    clear h0
    go_enter Tryz.func75, Tryz.ntmps75
    go_wp2_with fail
    go_ret2
    exact ⟨.slice none 0 0, by rw [hC.out]; rfl, by unfold cellsT; rw [hC.out]; exact World.ownsRow_nil _ _ _ _, Below.refl _ _⟩
  · have hne : ((s.size : Int) == 0) = false := by simpa using h0
    by_cases h4 : s.size % 4 = 0
    · have hmod : (((s.size : Int) % 4) != 0) = false := by simp; omega
      have hC := Lib.hid (show cellsOkB s = true from by unfold cellsOkB; simp [h0, h4])
      have hT := Lib.hid (show cellsT s = cellsF s.data.toList from by unfold cellsT; rw [hC.out, if_pos rfl])
      obtain ⟨i0, hi, hz0, hz1, hz2⟩ := info_parts infoInt
      clear h0
      go_enter Tryz.func75, Tryz.ntmps75
      go_wp2_with fail
      clear hne hmod
      go_loopg [5, 4] (s.size) (fun f x y wr => ∃ (l : List Int) (i : Nat), x = .int .i64 i ∧ i ≤ s.size ∧ s.size ≤ i + f ∧ Hid (l.length * 4 = i) ∧ Hid (cellsF s.data.toList = l ++ cellsF (s.data.toList.drop i)) ∧
        wr.ownsRow w.heap.size 3 1 y l.length (intCells l) ∧ Below w.heap.size w wr)
      case atStart => exact ⟨[], 0, rfl, by omega, by omega, Lib.hid rfl, Lib.hid (by simp), World.ownsRow_nil _ _ _ _, Below.refl _ _⟩
      case round =>
        obtain ⟨l, i, rfl, hi1, hi2, hli, hH, hown, hb⟩ := hrel
        have hbs := hb.size
        have hlen : l.length ≤ 1000000 := by have := hli.out; omega
        by_cases hz : i < s.size
        · have hz' : (i : Int) < (s.size : Int) := by omega
          have q3 : i + 3 < s.size := by have := hli.out; omega
          have q0 : i < s.size := by omega
          have q1 : i + 1 < s.size := by omega
          have q2 : i + 2 < s.size := by omega
          have hstep := Lib.hid (cells_drop s i q3)
          have hor := word_or s[i] s[i + 1] s[i + 2] s[i + 3]
          generalize wordT s[i] s[i + 1] s[i + 2] s[i + 3] = W at hor hstep
          obtain ⟨oa, oc, rfl⟩ := owns_slice hown
          clear hz
          go_upto_region 7 with fail
          refine wp_region_any (by kernel_rfl) ?_
          refine wpAny_ops (ops' := r7cOps) (by kernel_rfl) ?_
          refine r7c_region w.heap.size i s _ _ _ _ _ _ W (intCells l) l.length (.slice oa l.length oc) w.heap.size wr wr.drew _ rfl hbs (Nat.le_refl _) hbs (by omega) q3 hs2 rfl rfl rfl rfl rfl rfl hor rfl rfl rfl (Below.refl w.heap.size wr).drew hown ?_
          intro c w5 v0 hsb hb5 h4 hown5
          obtain ⟨y4, y21, y22, y23, y24, y25, y26, y27, y28, y29, y30, y31, y32, y33, y34, y35, y36, y37, y38, y39, y40, y41, y42, y43, y44, y45, y46, y47, y48, hc⟩ := hsb.ex [4, 21, 22, 23, 24, 25, 26, 27, 28, 29, 30, 31, 32, 33, 34, 35, 36, 37, 38, 39, 40, 41, 42, 43, 44, 45, 46, 47, 48] (by kernel_rfl)
          subst hc
          simp only [List.setIfInBounds_toArray, List.set_cons_zero, List.set_cons_succ] at h4 ⊢
          have e4 : y4 = v0 := h4
          subst e4
          have hbb := hb.trans hb5
          clear hsb h4 hown hb5
          go_wp2_with fail
          go_roundg (gk - 4)
          case measure => omega
          case rel =>
            refine ⟨l ++ [W], i + 4, by go_num, by omega, by omega, Lib.hid (by have := hli.out; simp; omega), ?_, ?_, hbb⟩
            · show _ = _
              rw [hH.out, hstep.out]; simp
            · simpa [intCells] using hown5
        · have hz' : ¬ (i : Int) < (s.size : Int) := by omega
          have hfin := Lib.hid (show cellsT s = l from by
            rw [hT.out, hH.out, List.drop_eq_nil_of_le (by simp; omega)]; simp [cellsF])
          obtain ⟨ao, co, rfl⟩ := owns_slice hown
          clear hz hH
          go_wp2_with fail
          go_ret2
          exact ⟨_, by rw [hC.out]; rfl, by rw [hfin.out]; exact hown, hb⟩
    · have hmod : (((s.size : Int) % 4) != 0) = true := by simp; omega
      have hC := Lib.hid (show cellsOkB s = false from by unfold cellsOkB; simp [h4])
      clear h0 h4
      go_enter Tryz.func75, Tryz.ntmps75
      go_wp2_with fail
      go_ret2
      exact ⟨.slice none 0 0, by rw [hC.out]; rfl, by unfold cellsT; rw [hC.out]; exact World.ownsRow_nil _ _ _ _, Below.refl _ _⟩
end Go.Proofs.YthkoaakicdhnpaaGreat
