/- Contracts of tree: named. -/
import Derived.Test.YtjfkjnakmmkkiaaTreB
namespace Go.Proofs.Ytjfkjnakmmkkiaa
open Go.RowKit

theorem head_cases (i : Nat) (n : NodeT) :
    (((i : Int) == 0) = true ∧ decide (0 < i) = false ∧ (n.parent != -1) = false ∧ n.name.toList = [] ∧ headB i n = true) ∨
    (((i : Int) == 0) = true ∧ decide (0 < i) = false ∧ (n.parent != -1) = true ∧ headB i n = false) ∨
    (((i : Int) == 0) = true ∧ decide (0 < i) = false ∧ (n.parent != -1) = false ∧ ¬ n.name.toList = [] ∧ n.name.toList.isEmpty = false ∧ headB i n = false) ∨
    (((i : Int) == 0) = false ∧ decide (0 < i) = true ∧ n.parent < 0 ∧ headB i n = false) ∨
    (((i : Int) == 0) = false ∧ decide (0 < i) = true ∧ 0 ≤ n.parent ∧ (i : Int) ≤ n.parent ∧ headB i n = false) ∨
    (((i : Int) == 0) = false ∧ decide (0 < i) = true ∧ 0 ≤ n.parent ∧ n.parent < i ∧ nameT n.name.data.toList = true ∧ headB i n = true) ∨
    (((i : Int) == 0) = false ∧ decide (0 < i) = true ∧ 0 ≤ n.parent ∧ n.parent < i ∧ nameT n.name.data.toList = false ∧ headB i n = false) := by
  have hem : eqS n.name ByteArray.empty = decide (n.name.toList = []) := by
    unfold eqS
    rw [show ByteArray.empty.toList = [] from by rw [ByteArray.toList_eq]; rfl, Bool.eq_iff_iff]
    simp
  unfold headB
  by_cases h0 : i = 0
  · subst h0
    simp only [if_true, hem]
    by_cases h1 : n.parent = -1
    · by_cases h2 : n.name.toList = []
      · left; simp [h1, h2]
      · right; right; left; simp [h1, h2]
    · right; left; simp [h1]
  · have e1 : ((i : Int) == 0) = false := by simp; omega
    have e2 : decide (0 < i) = true := by simp; omega
    simp only [if_neg h0, e1, e2]
    by_cases h1 : n.parent < 0
    · right; right; right; left; simp [h1]; omega
    · by_cases h2 : (i : Int) ≤ n.parent
      · right; right; right; right; left; simp; omega
      · cases h3 : nameT n.name.data.toList
        · right; right; right; right; right; right; simp; omega
        · right; right; right; right; right; left; simp; omega

set_option maxHeartbeats 4000000 in
theorem tree_named (R : Nat → Prop) (v : Value) (T : List NodeT) (w : World) (hT : NodesIn R w v T) :
    Calls Try.prog 74 #[.agg #[v]] w fun e w' => e = .returned (.bool (namedT T)) ∧ Below w.heap.size w w' := by
  obtain ⟨a, cap, rfl, hc1, hc2⟩ := hT.shape
  have HT := Lib.hid hT; clear hT

  go_enter Try.func74, Try.ntmps74
  go_wp2_with fail
  go_loopg [10] (T.length) (fun f x wr => ∃ k : Nat, x = .int .i64 k ∧ k ≤ T.length ∧ T.length ≤ k + f ∧ Hid (namedT T = namedF k (T.drop k)) ∧ Below w.heap.size w wr)
  case atStart => exact ⟨0, rfl, by omega, by omega, by simp [Hid, namedT], (Below.refl _ _).alloc (Nat.le_refl _) _⟩
  case round =>
    obtain ⟨go, rfl⟩ : ∃ x : Nat, x = gk := ⟨_, rfl⟩
    obtain ⟨k, rfl, hk, hf, hN, hb⟩ := hrel
    have hbs := hb.size
    by_cases hlt : k < T.length
    · obtain ⟨g, o, pa, pc, rfl, hg, c0, c1, c2, hp, p1, p2, b0, b1, b2⟩ := (HT.out.new hb).at k hlt
      have HPn := Lib.hid hp
      clear hp
      have hstep := Lib.hid (show namedF k (T.drop k) = (headB k T[k] && (T[k].props.all fun p => propB p.name) && namedF (k + 1) (T.drop (k + 1))) from by rw [List.drop_eq_getElem_cons hlt]; rfl)
      have hca := head_cases k T[k]
      rcases hca with hca | hca | hca | hca | hca | hca | hca
      · obtain ⟨hk0, hk1, q1, q2, hh⟩ := hca
        have hH2 := Lib.hid hh; clear hh
        go_wp2_with fail
        go_loopg [51] (T[k].props.length) (fun f x wx => ∃ j : Nat, x = .int .i64 j ∧ j ≤ T[k].props.length ∧ T[k].props.length ≤ j + f ∧ Hid (T[k].props.all (fun p => propB p.name) = (T[k].props.drop j).all (fun p => propB p.name)) ∧ Below wr.heap.size wr wx)
        case atStart => exact ⟨0, rfl, by omega, by omega, by simp [Hid], (Below.refl _ _).alloc (Nat.le_refl _) _⟩
        case round =>
          obtain ⟨j, rfl, hj, hf2, hA, hb2⟩ := hrel
          have hb3 := hb.trans (hb2.mono hbs)
          have hbs3 := hb3.size
          by_cases hjl : j < T[k].props.length
          · obtain ⟨gp, op, rfl, hgp, d0, d1, e0, e1⟩ := (HPn.out.new hb2).at j hjl
            have hpb := fun wx => tree_Property (T[k].props[j]).name wx e0
            have hdrop := Lib.hid (show (T[k].props.drop j).all (fun p => propB p.name) = (propB (T[k].props[j]).name && (T[k].props.drop (j + 1)).all (fun p => propB p.name)) from by rw [List.drop_eq_getElem_cons hjl]; rfl)
            generalize propB (T[k].props[j]).name = y at hpb hdrop
            have HB := Lib.hid hpb; clear hpb
            cases y with
            | true =>
              go_wp2_with fail
              refine (HB.out _).mono ?_
              rintro e w' ⟨rfl, rfl⟩
              go_wp2_with fail
              go_roundg (gk - 1)
              case measure => omega
              case rel => exact ⟨j + 1, by go_num, by omega, by omega, by show _ = _; rw [hA.out, hdrop.out, Bool.true_and], hb2.alloc hb2.size _⟩
            | false =>
              go_wp2_with fail
              refine (HB.out _).mono ?_
              rintro e w' ⟨rfl, rfl⟩
              go_wp2_with fail
              go_ret
              exact ⟨ret_bool (by rw [hN.out, hstep.out, hA.out, hdrop.out]; simp), hb3.alloc hbs3 _⟩
          · go_wp2_with fail
            go_roundg (go - 1)
            case measure => omega
            case rel => exact ⟨k + 1, by go_num, by omega, by omega, by show _ = _; rw [hN.out, hstep.out, hA.out, List.drop_eq_nil_of_le (by omega), hH2.out]; simp, hb3⟩
      · obtain ⟨hk0, hk1, q1, hh⟩ := hca
        have hH2 := Lib.hid hh; clear hh
        go_wp2_with fail
        go_ret
        exact ⟨ret_bool (by rw [hN.out, hstep.out, hH2.out]; simp), hb.alloc hbs _⟩
      · obtain ⟨hk0, hk1, q1, q2, q3, hh⟩ := hca
        have hH2 := Lib.hid hh; clear hh
        go_wp2_with fail
        go_ret
        exact ⟨ret_bool (by rw [hN.out, hstep.out, hH2.out]; simp), hb.alloc hbs _⟩
      · obtain ⟨hk0, hk1, q1, hh⟩ := hca
        have hH2 := Lib.hid hh; clear hh
        go_wp2_with fail
        go_ret
        exact ⟨ret_bool (by rw [hN.out, hstep.out, hH2.out]; simp), hb.alloc hbs _⟩
      · obtain ⟨hk0, hk1, q1, q2, hh⟩ := hca
        have hH2 := Lib.hid hh; clear hh
        go_wp2_with fail
        go_ret
        exact ⟨ret_bool (by rw [hN.out, hstep.out, hH2.out]; simp), hb.alloc hbs _⟩
      · obtain ⟨hk0, hk1, q1, q2, hn, hh⟩ := hca
        have hH2 := Lib.hid hh; clear hh
        have hnm := fun wx => token_Name T[k].name wx (by unfold maxLen; omega)
        rw [hn] at hnm
        have HNM := Lib.hid hnm; clear hnm hn
        go_wp2_with fail
        refine (HNM.out _).mono ?_
        rintro e w' ⟨rfl, rfl⟩
        go_wp2_with fail
        go_loopg [51] (T[k].props.length) (fun f x wx => ∃ j : Nat, x = .int .i64 j ∧ j ≤ T[k].props.length ∧ T[k].props.length ≤ j + f ∧ Hid (T[k].props.all (fun p => propB p.name) = (T[k].props.drop j).all (fun p => propB p.name)) ∧ Below wr.heap.size wr wx)
        case atStart => exact ⟨0, rfl, by omega, by omega, by simp [Hid], (Below.refl _ _).alloc (Nat.le_refl _) _⟩
        case round =>
          obtain ⟨j, rfl, hj, hf2, hA, hb2⟩ := hrel
          have hb3 := hb.trans (hb2.mono hbs)
          have hbs3 := hb3.size
          by_cases hjl : j < T[k].props.length
          · obtain ⟨gp, op, rfl, hgp, d0, d1, e0, e1⟩ := (HPn.out.new hb2).at j hjl
            have hpb := fun wx => tree_Property (T[k].props[j]).name wx e0
            have hdrop := Lib.hid (show (T[k].props.drop j).all (fun p => propB p.name) = (propB (T[k].props[j]).name && (T[k].props.drop (j + 1)).all (fun p => propB p.name)) from by rw [List.drop_eq_getElem_cons hjl]; rfl)
            generalize propB (T[k].props[j]).name = y at hpb hdrop
            have HB := Lib.hid hpb; clear hpb
            cases y with
            | true =>
              go_wp2_with fail
              refine (HB.out _).mono ?_
              rintro e w' ⟨rfl, rfl⟩
              go_wp2_with fail
              go_roundg (gk - 1)
              case measure => omega
              case rel => exact ⟨j + 1, by go_num, by omega, by omega, by show _ = _; rw [hA.out, hdrop.out, Bool.true_and], hb2.alloc hb2.size _⟩
            | false =>
              go_wp2_with fail
              refine (HB.out _).mono ?_
              rintro e w' ⟨rfl, rfl⟩
              go_wp2_with fail
              go_ret
              exact ⟨ret_bool (by rw [hN.out, hstep.out, hA.out, hdrop.out]; simp), hb3.alloc hbs3 _⟩
          · go_wp2_with fail
            go_roundg (go - 1)
            case measure => omega
            case rel => exact ⟨k + 1, by go_num, by omega, by omega, by show _ = _; rw [hN.out, hstep.out, hA.out, List.drop_eq_nil_of_le (by omega), hH2.out]; simp, hb3⟩
      · obtain ⟨hk0, hk1, q1, q2, hn, hh⟩ := hca
        have hH2 := Lib.hid hh; clear hh
        have hnm := fun wx => token_Name T[k].name wx (by unfold maxLen; omega)
        rw [hn] at hnm
        have HNM := Lib.hid hnm; clear hnm hn
        go_wp2_with fail
        refine (HNM.out _).mono ?_
        rintro e w' ⟨rfl, rfl⟩
        go_wp2_with fail
        go_ret
        exact ⟨ret_bool (by rw [hN.out, hstep.out, hH2.out]; simp), hb.alloc hbs _⟩

    · go_wp2_with fail
      go_ret
      exact ⟨ret_bool (by rw [hN.out, List.drop_eq_nil_of_le (by omega)]; rfl), hb⟩
end Go.Proofs.Ytjfkjnakmmkkiaa
