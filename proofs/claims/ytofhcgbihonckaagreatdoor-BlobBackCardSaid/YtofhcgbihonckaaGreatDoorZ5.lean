/- Contracts of tree: Property, depth, what Check asks of properties. | Contracts of tree: the limits that Check asks of properties. | Contracts of tree: named. | Contracts of tree: walked. | Contracts of bringupref03: Property. | Contracts of bringupref03: names (the code is that of named of tree). | Contracts of bringupref03: level, limits. -/
import Derived.Test.YtofhcgbihonckaaGreatDoorZ3
import Derived.Test.YtofhcgbihonckaaGreatDoorZ4
import Derived.Deep.LoopGhost
import Derived.IntWalk
import Derived.Laws.MakeOwn
import Derived.OwnWalk

set_option linter.unusedVariables false
set_option linter.unusedSimpArgs false
set_option linter.unusedSectionVars false

namespace Go.Proofs.YtofhcgbihonckaaGreatDoor
open Go.RowKit

theorem drop_data (s : ByteArray) (a : Nat) : (s.extract a s.size).data.toList = s.data.toList.drop a := by
  simp [ByteArray.data_extract, Array.toList_extract, List.extract_eq_take_drop]
  try exact List.take_of_length_le (by simp)
theorem memB_idx (l : List UInt8) (b : UInt8) : decide (0 ≤ Lib.indexByte l b) = memB l b.toNat := idx_byte l b
theorem adds_of' (a b : ByteArray) (h : a.size + b.size ≤ 9223372036854775807) : ∃ c : ByteArray, (∀ wx, (Op.stringOp .add a b).run Tryz.prog wx = .ok (.string c) wx) ∧ c.size = a.size + b.size ∧ c.data.toList = a.data.toList ++ b.data.toList := by
  refine ⟨a ++ b, fun wx => ?_, by simp, by simp⟩
  simp only [Op.stringOp]
  rw [if_neg (by simp [IntKind.max, IntKind.signed, IntKind.bits]; omega)]
  rfl

set_option maxHeartbeats 800000 in
theorem tree_Property (s : ByteArray) (w : World) (hs : s.size ≤ 9223372036854775807) :
    Calls Tryz.prog 83 #[.string s] w fun e w' => e = .returned (.bool (propB s)) ∧ w = w' := by
  have hH := fun wx => Tryz.strings_HasPrefix s ⟨#[35]⟩ wx
  have hF := Lib.hid (show propB s = propT s.data.toList from rfl)
  by_cases h : Lib.hasPrefix s.data.toList [35] = true
  · have hpl := Lib.hasPrefix_le h
    simp only [List.length_cons, List.length_nil] at hpl
    have hs1 : 1 ≤ s.size := by simpa using hpl
    have hH2 : Lib.hasPrefix s.data.toList (⟨#[35]⟩ : ByteArray).data.toList = true := h
    rw [hH2] at hH
    have HH := Lib.hid hH; clear hH hH2
    have hx : (s.extract 1 s.size).size = s.size - 1 := by simp
    obtain ⟨c, hadd, hcs, hcd⟩ := adds_of' ⟨#[95]⟩ (s.extract 1 s.size) (by rw [show (⟨#[95]⟩ : ByteArray).size = 1 from rfl]; omega)
    rw [show (⟨#[95]⟩ : ByteArray).size = 1 from rfl] at hcs
    have hcl : c.data.toList = 95 :: s.data.toList.drop 1 := by rw [hcd, drop_data]; rfl
    have hN := fun wx => token_Name c wx (by unfold maxLen; omega)
    have hC := fun wx => Tryz.strings_Contains_one c 64 wx
    rw [memB_idx, hcl] at hC
    rw [hcl] at hN
    have HF : Hid (propB s = (nameT (95 :: s.data.toList.drop 1) && !memB (95 :: s.data.toList.drop 1) 64)) := by show _ = _; rw [hF.out]; unfold propT; rw [if_pos h]
    have HN := Lib.hid hN; clear hN
    have HC := Lib.hid hC; clear hC
    clear h hF hcd hcl hpl
    cases hy : nameT (95 :: s.data.toList.drop 1) with
    | true =>
      rw [hy] at HN HF
      clear hy
      go_enter Tryz.func83, Tryz.ntmps83
      go_wp2_with fail
      refine (HH.out _).mono ?_
      rintro e w' ⟨rfl, rfl⟩
      go_wp2_with fail
      refine (HN.out _).mono ?_
      rintro e w' ⟨rfl, rfl⟩
      go_wp2_with fail
      refine (HC.out _).mono ?_
      rintro e w' ⟨rfl, rfl⟩
      go_wp2_with fail
      go_ret
      exact ⟨ret_bool (by rw [HF.out]; simp), rfl⟩
    | false =>
      rw [hy] at HN HF
      clear hy
      go_enter Tryz.func83, Tryz.ntmps83
      go_wp2_with fail
      refine (HH.out _).mono ?_
      rintro e w' ⟨rfl, rfl⟩
      go_wp2_with fail
      refine (HN.out _).mono ?_
      rintro e w' ⟨rfl, rfl⟩
      go_wp2_with fail
      go_ret
      exact ⟨ret_bool (by rw [HF.out]; simp), rfl⟩
  · have h : Lib.hasPrefix s.data.toList [35] = false := by simpa using h
    have hH2 : Lib.hasPrefix s.data.toList (⟨#[35]⟩ : ByteArray).data.toList = false := h
    rw [hH2] at hH
    have HH := Lib.hid hH; clear hH hH2
    have hN := fun wx => token_Name s wx (by unfold maxLen; omega)
    have hC := fun wx => Tryz.strings_Contains_one s 64 wx
    rw [memB_idx] at hC
    have HF : Hid (propB s = (nameT s.data.toList && !memB s.data.toList 64)) := by show _ = _; rw [hF.out]; unfold propT; rw [if_neg (by simp [h])]
    have HN := Lib.hid hN; clear hN
    have HC := Lib.hid hC; clear hC
    clear h hF
    cases hy : nameT s.data.toList with
    | true =>
      rw [hy] at HN HF
      clear hy
      go_enter Tryz.func83, Tryz.ntmps83
      go_wp2_with fail
      refine (HH.out _).mono ?_
      rintro e w' ⟨rfl, rfl⟩
      go_wp2_with fail
      refine (HN.out _).mono ?_
      rintro e w' ⟨rfl, rfl⟩
      go_wp2_with fail
      refine (HC.out _).mono ?_
      rintro e w' ⟨rfl, rfl⟩
      go_wp2_with fail
      go_ret
      exact ⟨ret_bool (by rw [HF.out]; simp), rfl⟩
    | false =>
      rw [hy] at HN HF
      clear hy
      go_enter Tryz.func83, Tryz.ntmps83
      go_wp2_with fail
      refine (HH.out _).mono ?_
      rintro e w' ⟨rfl, rfl⟩
      go_wp2_with fail
      refine (HN.out _).mono ?_
      rintro e w' ⟨rfl, rfl⟩
      go_wp2_with fail
      go_ret
      exact ⟨ret_bool (by rw [HF.out]; simp), rfl⟩

set_option maxHeartbeats 800000 in
theorem tree_depth (R : Nat → Prop) (v : Value) (T : List NodeT) (u : Int) (w : World) (hT : NodesIn R w v T) (hn : namedT T = true) (hu : u < T.length) (hu0 : -1 ≤ u) (hl : T.length ≤ 1000) :
    Calls Tryz.prog 61 #[.agg #[v], .int .i64 u] w fun e w' => e = .returned (.int .i64 (depF T T.length u)) ∧ Below w.heap.size w w' := by
  obtain ⟨a, cap, rfl, hc1, hc2⟩ := hT.shape
  have HT := Lib.hid hT; clear hT
  have HN := Lib.hid hn; clear hn
  go_enter Tryz.func61, Tryz.ntmps61
  go_wp2_with fail
  go_loopg [1, 5] (u.toNat) (fun f x y wr => ∃ (x' : Int) (y' : Nat), x = .int .i64 x' ∧ y = .int .i64 y' ∧ x'.toNat ≤ f ∧ -1 ≤ x' ∧ x' < T.length ∧ y' + x'.toNat ≤ u.toNat ∧ Hid (depF T T.length u = y' + depF T T.length x') ∧
    ∃ n, wr = (w.alloc (.cells #[.slice a T.length cap] 25)).drewN n)
  case atStart => exact ⟨u, 0, rfl, rfl, by omega, hu0, hu, by omega, by show _ = _; omega, 0, rfl⟩
  case round =>
    obtain ⟨x, y, rfl, rfl, hf, hx0, hx1, hy, hD, n, rfl⟩ := hrel
    by_cases h0 : 0 < x
    · obtain ⟨k, rfl⟩ := Int.eq_ofNat_of_zero_le (show 0 ≤ x by omega)
      have hk : k < T.length := by omega
      obtain ⟨g, o, pa, pc, rfl, hg, c0, c1, c2, hp, p1, p2, b0, b1, b2⟩ := HT.out.at k hk
      have hpar := (named_par HN.out k hk).2 (by omega)
      have hDn : Hid (depF T T.length u = (y + 1 : Nat) + depF T T.length T[k].parent) := by
        show _ = _
        rw [hD.out]
        have e1 : depF T T.length (k : Int) = depF T (T.length - 1) (parOf T k) + 1 := by
          obtain ⟨m, hm⟩ : ∃ m, T.length = m + 1 := ⟨T.length - 1, by omega⟩
          rw [hm]; simp only [depF]; rw [if_pos h0]; rfl
        rw [e1, parOf_at hk, depF_fuel HN.out T.length T[k].parent (by omega) (by omega) (T.length - 1) T.length (by omega) (by omega)]
        omega
      clear hp hD
      go_wp2_with fail
      go_roundg (gk - 1)
      case measure => omega
      case rel => exact ⟨T[k].parent, y + 1, rfl, by go_num, by omega, by omega, by omega, by omega, hDn, n, rfl⟩
    · go_wp2_with fail
      go_ret
      refine ⟨ret_int ?_, below_draws ((Below.refl _ _).alloc (Nat.le_refl _) _) n⟩
      have e1 : depF T T.length x = 0 := by cases hTl : T.length with
        | zero => rfl
        | succ m => simp [depF, h0]
      rw [hD.out, e1]; simp
end Go.Proofs.YtofhcgbihonckaaGreatDoor

namespace Go.Proofs.YtofhcgbihonckaaGreatDoor
open Go.RowKit

def bigB (p : PropT) : Bool := decide (256 < p.value.size)

set_option maxHeartbeats 400000 in
theorem tree_big (p : PropT) (w : World) (hs : p.value.size ≤ 9223372036854775807) :
    Calls Tryz.prog 58 #[.agg #[.string p.name, .string p.value]] w fun e w' => e = .returned (.bool (bigB p)) ∧ Below w.heap.size w w' := by
  go_enter Tryz.func58, Tryz.ntmps58
  go_wp2_with fail
  go_ret
  exact ⟨ret_bool (by unfold bigB; rw [Bool.eq_iff_iff]; simp <;> omega), (Below.refl _ _).alloc (Nat.le_refl _) _⟩

theorem enters_big : ∀ args w, (callFunc 58 args).run Tryz.prog w = .ok (.enter 58 args) w := enters_of Tryz.func58 (by kernel_rfl) rfl

/-- The place of the first that is found, or -1. -/
def FindPost (p : PropT → Bool) (ps : List PropT) (w : World) (e : Ending) (w' : World) : Prop := ∃ r : Int, e = .returned (.int .i64 r) ∧ decide (0 ≤ r) = ps.any p ∧ Below w.heap.size w w'

set_option maxHeartbeats 800000 in
theorem props_IndexFunc (R : Nat → Prop) (v : Value) (ps : List PropT) (w : World) (hP : PropsIn R w v ps) :
    Calls Tryz.prog 81 #[v, .func (.func 58) #[] #[]] w (FindPost bigB ps w) := by
  obtain ⟨a, cap, rfl, hc1, hc2⟩ := hP.shape
  have HP := Lib.hid hP; clear hP
  have eg := enters_big
  go_enter Tryz.func81, Tryz.ntmps81
  go_wp2_with fail
  go_loopg [8] (ps.length) (fun f x wr => ∃ k : Nat, x = .int .i64 k ∧ k ≤ ps.length ∧ ps.length ≤ k + f ∧ Hid ((ps.take k).any bigB = false) ∧ Below w.heap.size w wr)
  case atStart => exact ⟨0, rfl, by omega, by omega, by simp [Hid], Below.refl _ _⟩
  case round =>
    obtain ⟨k, rfl, hk, hf, hN, hb⟩ := hrel
    by_cases hlt : k < ps.length
    · obtain ⟨g, o, rfl, hg, c0, c1, b0, b1⟩ := (HP.out.new hb).at k hlt
      have hbg := fun wx => tree_big ps[k] wx b1
      have hsn := Lib.hid (show (ps.take (k + 1)).any bigB = (bigB ps[k] || false) from by rw [List.take_succ_eq_append_getElem hlt, List.any_append, hN.out]; simp)
      have hany := Lib.hid (show bigB ps[k] = true → ps.any bigB = true from fun h => List.any_eq_true.2 ⟨_, List.getElem_mem hlt, h⟩)
      have hbs := hb.size
      generalize bigB ps[k] = y at hbg hsn hany
      have HB := Lib.hid hbg; clear hbg
      cases y with
      | true =>
        have HA := Lib.hid (hany.out rfl); clear hany hsn
        go_wp2_with fail
        refine (HB.out _).mono ?_
        rintro e w' ⟨rfl, hb'⟩
        go_wp2_with fail
        go_ret
        exact ⟨k, rfl, by rw [HA.out]; simp, hb.trans (hb'.mono hbs)⟩
      | false =>
        clear hany
        go_wp2_with fail
        refine (HB.out _).mono ?_
        rintro e w' ⟨rfl, hb'⟩
        go_wp2_with fail
        go_roundg (gk - 1)
        case measure => omega
        case rel => exact ⟨k + 1, by go_num, by omega, by omega, hsn.out, hb.trans (hb'.mono hbs)⟩
    · go_wp2_with fail
      go_ret
      refine ⟨-1, rfl, ?_, hb⟩
      have := hN.out
      rw [List.take_of_length_le (by omega)] at this
      rw [this]; rfl

set_option maxHeartbeats 400000 in
theorem props_ContainsFunc (R : Nat → Prop) (v : Value) (ps : List PropT) (w : World) (hP : PropsIn R w v ps) :
    Calls Tryz.prog 57 #[v, .func (.func 58) #[] #[]] w fun e w' => e = .returned (.bool (ps.any bigB)) ∧ Below w.heap.size w w' := by
  obtain ⟨a, cap, rfl, hc1, hc2⟩ := hP.shape
  go_enter Tryz.func57, Tryz.ntmps57
  go_wp2_with fail
  refine (props_IndexFunc R _ ps _ hP).mono ?_
  rintro e w' ⟨r, rfl, hr, hb⟩
  have HR := Lib.hid hr; clear hr
  go_wp2_with fail
  go_ret
  exact ⟨ret_bool (by rw [← HR.out]), hb⟩
end Go.Proofs.YtofhcgbihonckaaGreatDoor

namespace Go.Proofs.YtofhcgbihonckaaGreatDoor
open Go.RowKit

theorem head_cases (i : Nat) (n : NodeT) :
    (((i : Int) == 0) = true ∧ decide (0 < i) = false ∧ (n.parent != -1) = false ∧ n.name.toList = [] ∧ headB i n = true) ∨
    (((i : Int) == 0) = true ∧ decide (0 < i) = false ∧ (n.parent != -1) = true ∧ headB i n = false) ∨
    (((i : Int) == 0) = true ∧ decide (0 < i) = false ∧ (n.parent != -1) = false ∧ ¬ n.name.toList = [] ∧ n.name.toList.isEmpty = false ∧ headB i n = false) ∨
    (((i : Int) == 0) = false ∧ decide (0 < i) = true ∧ n.parent < 0 ∧ headB i n = false) ∨
    (((i : Int) == 0) = false ∧ decide (0 < i) = true ∧ 0 ≤ n.parent ∧ (i : Int) ≤ n.parent ∧ headB i n = false) ∨
    (((i : Int) == 0) = false ∧ decide (0 < i) = true ∧ 0 ≤ n.parent ∧ n.parent < i ∧ nameT n.name.data.toList = true ∧ headB i n = true) ∨
    (((i : Int) == 0) = false ∧ decide (0 < i) = true ∧ 0 ≤ n.parent ∧ n.parent < i ∧ nameT n.name.data.toList = false ∧ headB i n = false) := by
  have hem : eqS n.name ByteArray.empty = decide (n.name.toList = []) := by
    unfold eqS
    rw [show ByteArray.empty.toList = [] from by rw [ByteArray.toList_eq]; rfl, Bool.eq_iff_iff]
    simp
  unfold headB
  by_cases h0 : i = 0
  · subst h0
    simp only [if_true, hem]
    by_cases h1 : n.parent = -1
    · by_cases h2 : n.name.toList = []
      · left; simp [h1, h2]
      · right; right; left; simp [h1, h2]
    · right; left; simp [h1]
  · have e1 : ((i : Int) == 0) = false := by simp; omega
    have e2 : decide (0 < i) = true := by simp; omega
    simp only [if_neg h0, e1, e2]
    by_cases h1 : n.parent < 0
    · right; right; right; left; simp [h1]; omega
    · by_cases h2 : (i : Int) ≤ n.parent
      · right; right; right; right; left; simp; omega
      · cases h3 : nameT n.name.data.toList
        · right; right; right; right; right; right; simp; omega
        · right; right; right; right; right; left; simp; omega

set_option maxHeartbeats 4000000 in
theorem tree_named (R : Nat → Prop) (v : Value) (T : List NodeT) (w : World) (hT : NodesIn R w v T) :
    Calls Tryz.prog 59 #[.agg #[v]] w fun e w' => e = .returned (.bool (namedT T)) ∧ Below w.heap.size w w' := by
  obtain ⟨a, cap, rfl, hc1, hc2⟩ := hT.shape
  have HT := Lib.hid hT; clear hT

  go_enter Tryz.func59, Tryz.ntmps59
  go_wp2_with fail
  go_loopg [10] (T.length) (fun f x wr => ∃ k : Nat, x = .int .i64 k ∧ k ≤ T.length ∧ T.length ≤ k + f ∧ Hid (namedT T = namedF k (T.drop k)) ∧ Below w.heap.size w wr)
  case atStart => exact ⟨0, rfl, by omega, by omega, by simp [Hid, namedT], (Below.refl _ _).alloc (Nat.le_refl _) _⟩
  case round =>
    obtain ⟨go, rfl⟩ : ∃ x : Nat, x = gk := ⟨_, rfl⟩
    obtain ⟨k, rfl, hk, hf, hN, hb⟩ := hrel
    have hbs := hb.size
    by_cases hlt : k < T.length
    · obtain ⟨g, o, pa, pc, rfl, hg, c0, c1, c2, hp, p1, p2, b0, b1, b2⟩ := (HT.out.new hb).at k hlt
      have HPn := Lib.hid hp
      clear hp
      have hstep := Lib.hid (show namedF k (T.drop k) = (headB k T[k] && (T[k].props.all fun p => propB p.name) && namedF (k + 1) (T.drop (k + 1))) from by rw [List.drop_eq_getElem_cons hlt]; rfl)
      have hca := head_cases k T[k]
      rcases hca with hca | hca | hca | hca | hca | hca | hca
      · obtain ⟨hk0, hk1, q1, q2, hh⟩ := hca
        have hH2 := Lib.hid hh; clear hh
        go_wp2_with fail
        go_loopg [51] (T[k].props.length) (fun f x wx => ∃ j : Nat, x = .int .i64 j ∧ j ≤ T[k].props.length ∧ T[k].props.length ≤ j + f ∧ Hid (T[k].props.all (fun p => propB p.name) = (T[k].props.drop j).all (fun p => propB p.name)) ∧ Below wr.heap.size wr wx)
        case atStart => exact ⟨0, rfl, by omega, by omega, by simp [Hid], (Below.refl _ _).alloc (Nat.le_refl _) _⟩
        case round =>
          obtain ⟨j, rfl, hj, hf2, hA, hb2⟩ := hrel
          have hb3 := hb.trans (hb2.mono hbs)
          have hbs3 := hb3.size
          by_cases hjl : j < T[k].props.length
          · obtain ⟨gp, op, rfl, hgp, d0, d1, e0, e1⟩ := (HPn.out.new hb2).at j hjl
            have hpb := fun wx => tree_Property (T[k].props[j]).name wx e0
            have hdrop := Lib.hid (show (T[k].props.drop j).all (fun p => propB p.name) = (propB (T[k].props[j]).name && (T[k].props.drop (j + 1)).all (fun p => propB p.name)) from by rw [List.drop_eq_getElem_cons hjl]; rfl)
            generalize propB (T[k].props[j]).name = y at hpb hdrop
            have HB := Lib.hid hpb; clear hpb
            cases y with
            | true =>
              go_wp2_with fail
              refine (HB.out _).mono ?_
              rintro e w' ⟨rfl, rfl⟩
              go_wp2_with fail
              go_roundg (gk - 1)
              case measure => omega
              case rel => exact ⟨j + 1, by go_num, by omega, by omega, by show _ = _; rw [hA.out, hdrop.out, Bool.true_and], hb2.alloc hb2.size _⟩
            | false =>
              go_wp2_with fail
              refine (HB.out _).mono ?_
              rintro e w' ⟨rfl, rfl⟩
              go_wp2_with fail
              go_ret
              exact ⟨ret_bool (by rw [hN.out, hstep.out, hA.out, hdrop.out]; simp), hb3.alloc hbs3 _⟩
          · go_wp2_with fail
            go_roundg (go - 1)
            case measure => omega
            case rel => exact ⟨k + 1, by go_num, by omega, by omega, by show _ = _; rw [hN.out, hstep.out, hA.out, List.drop_eq_nil_of_le (by omega), hH2.out]; simp, hb3⟩
      · obtain ⟨hk0, hk1, q1, hh⟩ := hca
        have hH2 := Lib.hid hh; clear hh
        go_wp2_with fail
        go_ret
        exact ⟨ret_bool (by rw [hN.out, hstep.out, hH2.out]; simp), hb.alloc hbs _⟩
      · obtain ⟨hk0, hk1, q1, q2, q3, hh⟩ := hca
        have hH2 := Lib.hid hh; clear hh
        go_wp2_with fail
        go_ret
        exact ⟨ret_bool (by rw [hN.out, hstep.out, hH2.out]; simp), hb.alloc hbs _⟩
      · obtain ⟨hk0, hk1, q1, hh⟩ := hca
        have hH2 := Lib.hid hh; clear hh
        go_wp2_with fail
        go_ret
        exact ⟨ret_bool (by rw [hN.out, hstep.out, hH2.out]; simp), hb.alloc hbs _⟩
      · obtain ⟨hk0, hk1, q1, q2, hh⟩ := hca
        have hH2 := Lib.hid hh; clear hh
        go_wp2_with fail
        go_ret
        exact ⟨ret_bool (by rw [hN.out, hstep.out, hH2.out]; simp), hb.alloc hbs _⟩
      · obtain ⟨hk0, hk1, q1, q2, hn, hh⟩ := hca
        have hH2 := Lib.hid hh; clear hh
        have hnm := fun wx => token_Name T[k].name wx (by unfold maxLen; omega)
        rw [hn] at hnm
        have HNM := Lib.hid hnm; clear hnm hn
        go_wp2_with fail
        refine (HNM.out _).mono ?_
        rintro e w' ⟨rfl, rfl⟩
        go_wp2_with fail
        go_loopg [51] (T[k].props.length) (fun f x wx => ∃ j : Nat, x = .int .i64 j ∧ j ≤ T[k].props.length ∧ T[k].props.length ≤ j + f ∧ Hid (T[k].props.all (fun p => propB p.name) = (T[k].props.drop j).all (fun p => propB p.name)) ∧ Below wr.heap.size wr wx)
        case atStart => exact ⟨0, rfl, by omega, by omega, by simp [Hid], (Below.refl _ _).alloc (Nat.le_refl _) _⟩
        case round =>
          obtain ⟨j, rfl, hj, hf2, hA, hb2⟩ := hrel
          have hb3 := hb.trans (hb2.mono hbs)
          have hbs3 := hb3.size
          by_cases hjl : j < T[k].props.length
          · obtain ⟨gp, op, rfl, hgp, d0, d1, e0, e1⟩ := (HPn.out.new hb2).at j hjl
            have hpb := fun wx => tree_Property (T[k].props[j]).name wx e0
            have hdrop := Lib.hid (show (T[k].props.drop j).all (fun p => propB p.name) = (propB (T[k].props[j]).name && (T[k].props.drop (j + 1)).all (fun p => propB p.name)) from by rw [List.drop_eq_getElem_cons hjl]; rfl)
            generalize propB (T[k].props[j]).name = y at hpb hdrop
            have HB := Lib.hid hpb; clear hpb
            cases y with
            | true =>
              go_wp2_with fail
              refine (HB.out _).mono ?_
              rintro e w' ⟨rfl, rfl⟩
              go_wp2_with fail
              go_roundg (gk - 1)
              case measure => omega
              case rel => exact ⟨j + 1, by go_num, by omega, by omega, by show _ = _; rw [hA.out, hdrop.out, Bool.true_and], hb2.alloc hb2.size _⟩
            | false =>
              go_wp2_with fail
              refine (HB.out _).mono ?_
              rintro e w' ⟨rfl, rfl⟩
              go_wp2_with fail
              go_ret
              exact ⟨ret_bool (by rw [hN.out, hstep.out, hA.out, hdrop.out]; simp), hb3.alloc hbs3 _⟩
          · go_wp2_with fail
            go_roundg (go - 1)
            case measure => omega
            case rel => exact ⟨k + 1, by go_num, by omega, by omega, by show _ = _; rw [hN.out, hstep.out, hA.out, List.drop_eq_nil_of_le (by omega), hH2.out]; simp, hb3⟩
      · obtain ⟨hk0, hk1, q1, q2, hn, hh⟩ := hca
        have hH2 := Lib.hid hh; clear hh
        have hnm := fun wx => token_Name T[k].name wx (by unfold maxLen; omega)
        rw [hn] at hnm
        have HNM := Lib.hid hnm; clear hnm hn
        go_wp2_with fail
        refine (HNM.out _).mono ?_
        rintro e w' ⟨rfl, rfl⟩
        go_wp2_with fail
        go_ret
        exact ⟨ret_bool (by rw [hN.out, hstep.out, hH2.out]; simp), hb.alloc hbs _⟩

    · go_wp2_with fail
      go_ret
      exact ⟨ret_bool (by rw [hN.out, List.drop_eq_nil_of_le (by omega)]; rfl), hb⟩
end Go.Proofs.YtofhcgbihonckaaGreatDoor

namespace Go.Proofs.YtofhcgbihonckaaGreatDoor
open Go.RowKit

theorem madeCells_one (z : Value) (n : Nat) : madeCells #[z] n = Array.replicate n z := by
  unfold madeCells
  apply Array.ext
  · simp
  · intro i h1 h2
    simp [Nat.mod_one]
theorem infoStr : (Tryz.prog.info? 9).map (fun i => (i.zero, i.size, i.bytes)) = some (some (.string ⟨#[]⟩), 1, 16) := by kernel_rfl
theorem make_strs (n : Nat) (hn : n ≤ 1000) (wx : World) : (Instr.makeSlice 49 (.int .i64 n) (.int .i64 n)).run Tryz.prog wx = .ok (.slice (some ⟨wx.heap.size, 0, none⟩) n n) (wx.alloc (.cells (Array.replicate n (.string ⟨#[]⟩)) 9)) := by
  obtain ⟨i0, hi, hz0, hz1, hz2⟩ := info_parts infoStr
  have := run_make (P := Tryz.prog) wx 49 9 i0 _ Tryz.underlying49 hi hz0 .i64 .i64 n n (by omega) (by omega) (by rw [hz2]; omega) (by omega)
  rw [this, hz1, show (Value.string ⟨#[]⟩).cells = #[.string ⟨#[]⟩] from rfl]
  simp [madeCells_one]
def strCells (l : List ByteArray) : Array Value := (l.map Value.string).toArray
theorem strCells_at (l : List ByteArray) (k : Nat) (h : k < l.length) : (strCells l)[k]? = some (.string l[k]) := by simp [strCells, h]
theorem strCells_set (l : List ByteArray) (k : Nat) (s : ByteArray) : (strCells l).setIfInBounds k (.string s) = strCells (l.set k s) := by simp [strCells, List.map_set]

theorem asc_nil {l : List PropT} (h : l.length ≤ 1) : ascT l = true := by
  match l with
  | [] => rfl
  | [_] => rfl
  | a :: b :: r => simp at h
theorem asc_two (l : List PropT) (j : Nat) (h0 : 1 ≤ j) (h : j < l.length) : ascT (l.drop (j - 1)) = (ltS (l[j - 1]'(by omega)).name l[j].name && ascT (l.drop j)) := by
  obtain ⟨i, rfl⟩ : ∃ i, j = i + 1 := ⟨j - 1, by omega⟩
  simp only [Nat.add_sub_cancel]
  rw [List.drop_eq_getElem_cons (show i < l.length by omega), List.drop_eq_getElem_cons h]
  rfl
theorem walkedF_cons (T : List NodeT) (i : Nat) (last : List ByteArray) (n : NodeT) (r : List NodeT) : walkedF T i last (n :: r) = (ascT n.props && (if i = 0 then walkedF T 1 last r else
      (decide (0 ≤ upT3 T n.parent (i + 1) (i - 1)) && !ltS n.name (last.getD (upT3 T n.parent (i + 1) (i - 1)).toNat ByteArray.empty) && walkedF T (i + 1) (last.set (upT3 T n.parent (i + 1) (i - 1)).toNat n.name) r))) := rfl

set_option maxHeartbeats 4000000 in
theorem tree_walked (R : Nat → Prop) (v : Value) (T : List NodeT) (w : World) (hT : NodesIn R w v T) (hn : namedT T = true) (hl : T.length ≤ 1000) :
    Calls Tryz.prog 60 #[.agg #[v]] w fun e w' => e = .returned (.bool (walkedT T)) ∧ Below w.heap.size w w' := by
  obtain ⟨a, cap, rfl, hc1, hc2⟩ := hT.shape
  have HT := Lib.hid hT; clear hT
  have HNM := Lib.hid hn; clear hn
  have hmk := make_strs T.length hl
  go_enter Tryz.func60, Tryz.ntmps60
  go_wp2_with fail
  clear hmk
  go_loopg [15] (T.length) (fun f x wr => ∃ (k : Nat) (last : List ByteArray), x = .int .i64 k ∧ k ≤ T.length ∧ T.length ≤ k + f ∧ last.length = T.length ∧ Hid (walkedT T = walkedF T k last (T.drop k)) ∧ Below w.heap.size w wr ∧
    Holds wr w.heap.size #[.slice a T.length cap] 25 ∧ Holds wr (w.heap.size + 1) (strCells last) 9)
  case atStart =>
    refine ⟨0, List.replicate T.length ByteArray.empty, rfl, by omega, by omega, by simp, by simp [Hid, walkedT], ((Below.refl _ _).alloc (Nat.le_refl _) _).alloc (by simp) _, (Holds.new w _ _).alloc _, ?_⟩
    have := Holds.new (w.alloc (.cells #[.slice a T.length cap] 25)) (Array.replicate T.length (.string ⟨#[]⟩)) 9
    rw [show (w.alloc (.cells #[.slice a T.length cap] 25)).heap.size = w.heap.size + 1 from by simp] at this
    rw [show strCells (List.replicate T.length ByteArray.empty) = Array.replicate T.length (.string ⟨#[]⟩) from by simp [strCells]; right; rfl]
    exact this
  case round =>
    obtain ⟨go, rfl⟩ : ∃ x : Nat, x = gk := ⟨_, rfl⟩
    obtain ⟨k, last, rfl, hk, hf, hll, hW, hb, hB, hS⟩ := hrel
    have hbs := hb.size
    have bx0 := hB.cell 0
    have blt := hB.lt
    have slt := hS.lt
    by_cases hlt : k < T.length
    · obtain ⟨g, o, pa, pc, rfl, hg, c0, c1, c2, hp, p1, p2, b0, b1, b2⟩ := (HT.out.new hb).at k hlt
      have HPn := Lib.hid hp; clear hp
      have hstep := Lib.hid (show walkedF T k last (T.drop k) = walkedF T k last (T[k] :: T.drop (k + 1)) from by rw [List.drop_eq_getElem_cons hlt])
      have hpar := named_par HNM.out k hlt
      have HPAR := Lib.hid hpar; clear hpar
      have hnb := Holds.new wr #[.int .i64 T[k].parent, .string T[k].name, .slice pa T[k].props.length pc] 52
      go_wp2_with fail
      go_loopg [6] (T[k].props.length) (fun f x wx => ∃ (j m : Nat), x = .int .i64 j ∧ 1 ≤ j ∧ T[k].props.length ≤ j + f ∧ (1 < j → j ≤ T[k].props.length) ∧ Hid (ascT T[k].props = ascT (T[k].props.drop (j - 1))) ∧
        wx = (wr.alloc (.cells #[.int .i64 T[k].parent, .string T[k].name, .slice pa T[k].props.length pc] 52)).drewN m)
      case atStart => exact ⟨1, 0, rfl, by omega, by omega, by omega, by simp [Hid], rfl⟩
      case round =>
        obtain ⟨j, m, rfl, hj1, hf2, hj2, hA, rfl⟩ := hrel
        by_cases hjl : j < T[k].props.length
        · obtain ⟨gp, op, e1, hgp, d0, d1, d2, d3⟩ := HPn.out.at j hjl
          obtain ⟨gq, oq, e2, hgq, f0, f1, f2, f3⟩ := HPn.out.at (j - 1) (by omega)
          subst e1
          cases e2
          have hj1' : j - 1 < T[k].props.length := by omega
          have hsub : IntKind.i64.wrap ((j : Int) - 1) = (j : Int) - 1 := IntWalk.i64_in _ (by omega)
          have hsub0 : (0 : Int) ≤ (j : Int) - 1 := by omega
          have hsub1 : ((j : Int) - 1).toNat = j - 1 := by omega
          have hsub2 : (j : Int) - 1 < (T[k].props.length : Int) := by omega
          have hjI : (j : Int) < (T[k].props.length : Int) := by omega
          have hasc := Lib.hid (asc_two T[k].props j hj1 hjl)
          cases hlt2 : Op.bytesLess (T[k].props[j - 1]).name.toList (T[k].props[j]).name.toList with
          | true =>
            have hL := Lib.hid (show ltS (T[k].props[j - 1]).name (T[k].props[j]).name = true from hlt2)
            go_wp2_with fail
            go_quiet (fail)
            go_wp2_with fail
            clear hsub hsub0 hsub1 hsub2 hjI
            go_roundg (gk - 1)
            case measure => omega
            case rel => exact ⟨j + 1, _, by go_num, by omega, by omega, by omega, by show _ = _; rw [hA.out, hasc.out, hL.out, Bool.true_and]; rfl, rfl⟩
          | false =>
            have hL := Lib.hid (show ltS (T[k].props[j - 1]).name (T[k].props[j]).name = false from hlt2)
            go_wp2_with fail
            go_quiet (fail)
            go_wp2_with fail
            clear hsub hsub0 hsub1 hsub2 hjI
            go_ret
            exact ⟨ret_bool (by rw [hW.out, hstep.out, walkedF_cons, hA.out, hasc.out, hL.out]; rfl), below_draws (below_draws (hb.alloc hbs _) _) _⟩
        · have hAs := Lib.hid (show ascT T[k].props = true from by rw [hA.out]; exact asc_nil (by simp; omega))
          clear hA
          have hb3 : Below w.heap.size w ((wr.alloc (.cells #[.int .i64 T[k].parent, .string T[k].name, .slice pa T[k].props.length pc] 52)).drewN m) := below_draws (hb.alloc hbs _) m
          have hB3 := (hB.alloc (.cells #[.int .i64 T[k].parent, .string T[k].name, .slice pa T[k].props.length pc] 52)).drewN m
          have hS3 := (hS.alloc (.cells #[.int .i64 T[k].parent, .string T[k].name, .slice pa T[k].props.length pc] 52)).drewN m
          by_cases hk0 : k = 0
          · subst hk0
            have hW1 := Lib.hid (show walkedT T = walkedF T 1 last (T.drop 1) from by rw [hW.out, hstep.out, walkedF_cons, hAs.out, if_pos rfl]; rfl)
            go_wp2_with fail
            go_roundg (go - 1)
            case measure => omega
            case rel => exact ⟨1, last, by go_num, by omega, by omega, hll, hW1.out, hb3, hB3, hS3⟩
          · have hk0b : ((k : Int) == 0) = false := by simp; omega
            obtain ⟨hq0, hq1⟩ := HPAR.out.2 (by omega)
            have hk1 : IntKind.i64.wrap ((k : Int) - 1) = (k : Int) - 1 := IntWalk.i64_in _ (by omega)
            have hW1 := Lib.hid (show walkedT T = (decide (0 ≤ upT3 T T[k].parent (k + 1) ((k : Int) - 1)) && !ltS T[k].name (last.getD (upT3 T T[k].parent (k + 1) ((k : Int) - 1)).toNat ByteArray.empty) && walkedF T (k + 1) (last.set (upT3 T T[k].parent (k + 1) ((k : Int) - 1)).toNat T[k].name) (T.drop (k + 1))) from by rw [hW.out, hstep.out, walkedF_cons, hAs.out, if_neg hk0, Bool.true_and])
            go_wp2_with fail
            clear hk1
            go_loopg [7] k (fun f x wx => ∃ (u : Int) (n m2 : Nat), x = .int .i64 u ∧ u + 1 ≤ f ∧ -1 ≤ u ∧ u < k ∧ u < n ∧ Hid (upT3 T T[k].parent (k + 1) ((k : Int) - 1) = upT3 T T[k].parent n u) ∧
              wx = (wr.alloc (.cells #[.int .i64 T[k].parent, .string T[k].name, .slice pa T[k].props.length pc] 52)).drewN m2)
            case atStart => exact ⟨(k : Int) - 1, k + 1, m, by go_num, by omega, by omega, by omega, by omega, rfl, rfl⟩
            case round =>
              obtain ⟨u, n, m2, rfl, hf3, hu0, hu1, hun, hU, rfl⟩ := hrel
              have hb4 : Below w.heap.size w ((wr.alloc (.cells #[.int .i64 T[k].parent, .string T[k].name, .slice pa T[k].props.length pc] 52)).drewN m2) := below_draws (hb.alloc hbs _) m2
              by_cases hneg : u < 0
              · have hUe := Lib.hid (show upT3 T T[k].parent n u = u from by cases n with
                  | zero => rfl
                  | succ n => simp [upT3, hneg])
                have hub : decide (u < 0) = true := by simpa using hneg
                have hub2 : decide (0 ≤ u) = false := by simpa using hneg
                go_wp2_with fail
                go_quiet (fail)
                go_wp2_with fail
                go_ret
                exact ⟨ret_bool (by rw [hW1.out, hU.out, hUe.out, hub2]; rfl), below_draws hb4 _⟩
              · have hu2 : 0 ≤ u := by omega
                by_cases heq : u = T[k].parent
                · have hUe := Lib.hid (show upT3 T T[k].parent n u = u from by cases n with
                    | zero => rfl
                    | succ n => simp [upT3, heq])
                  obtain ⟨y, rfl⟩ := Int.eq_ofNat_of_zero_le hu2
                  have hyl : y < last.length := by omega
                  have hne : ((y : Int) != T[k].parent) = false := by simp [heq]
                  have hub : decide ((y : Int) < 0) = false := by simp
                  have hyI : (y : Int) < (T.length : Int) := by omega
                  have hlc : wr.cell? ⟨w.heap.size + 1, y, none⟩ = some (.string last[y]) := (hS.cell y).trans (strCells_at last y hyl)
                  have hlf : wr.frozen? ⟨w.heap.size + 1, y, none⟩ = false := hS.free y
                  have HEQ := Lib.hid heq; clear heq
                  have hgd := Lib.hid (show last.getD y ByteArray.empty = last[y] from by simp [List.getD, hyl])
                  cases hlt3 : Op.bytesLess T[k].name.toList last[y].toList with
                  | true =>
                    have hL := Lib.hid (show ltS T[k].name last[y] = true from hlt3)
                    go_wp2_with fail
                    go_quiet (fail)
                    go_wp2_with fail
                    go_ret
                    exact ⟨ret_bool (by rw [hW1.out, hU.out, hUe.out, Int.toNat_natCast, hgd.out, hL.out]; simp), below_draws hb4 _⟩
                  | false =>
                    have hL := Lib.hid (show ltS T[k].name last[y] = false from hlt3)
                    go_wp2_with fail
                    go_quiet (fail)
                    go_wp2_with fail
                    go_roundg (go - 1)
                    case measure => omega
                    case rel =>
                      refine ⟨k + 1, last.set y T[k].name, by go_num, by omega, by omega, by simpa using hll, ?_, ?_, ?_, ?_⟩
                      · show _ = _
                        rw [hW1.out, hU.out, hUe.out, Int.toNat_natCast, hgd.out, hL.out]; simp
                      · refine (below_draws (hb.alloc hbs _) _).setCell ?_ _
                        show w.heap.size ≤ w.heap.size + 1
                        omega
                      · refine ((hB.alloc _).drewN _).other _ _ ?_
                        show w.heap.size ≠ w.heap.size + 1
                        omega
                      · rw [← strCells_set]
                        exact ((hS.alloc _).drewN _).set y (.string T[k].name)
                · have hne : (u != T[k].parent) = true := by simpa using heq
                  obtain ⟨y, rfl⟩ := Int.eq_ofNat_of_zero_le hu2
                  have hyl : y < T.length := by omega
                  obtain ⟨g2, o2, pa2, pc2, e3, _, f0, _⟩ := (HT.out.new hb).at y hyl
                  cases e3
                  have hpy := named_par HNM.out y hyl
                  have hstp : Hid (upT3 T T[k].parent n (y : Int) = upT3 T T[k].parent (n - 1) T[y].parent) := by
                    obtain ⟨n', rfl⟩ : ∃ n', n = n' + 1 := ⟨n - 1, by omega⟩
                    show _ = _
                    simp only [upT3]
                    rw [if_neg (by rintro (e | e); omega; exact heq e), Int.toNat_natCast, parOf_at hyl]; rfl
                  have hq : -1 ≤ T[y].parent ∧ T[y].parent < y := by
                    by_cases h0 : y = 0
                    · have := hpy.1 h0; omega
                    · have := hpy.2 (by omega); omega
                  obtain ⟨hq2, hq3⟩ := hq
                  clear hpy heq
                  go_wp2_with fail
                  go_roundg (gk - 1)
                  case measure => omega
                  case rel => exact ⟨T[y].parent, n - 1, m2, rfl, by omega, hq2, by omega, by omega, by show _ = _; rw [hU.out, hstp.out], rfl⟩
    · go_wp2_with fail
      go_ret
      exact ⟨ret_bool (by rw [hW.out, List.drop_eq_nil_of_le (by omega)]; rfl), hb⟩
end Go.Proofs.YtofhcgbihonckaaGreatDoor

namespace Go.Proofs.YtofhcgbihonckaaGreatDoor
open Go.RowKit

theorem name_first (r : List UInt8) : nameT (97 :: r) = nameT (95 :: r) := by
  unfold nameT
  simp [allB_cons, show letterB 97 = true from by decide, show nameB 97 = true from by decide, show nameB 95 = true from by decide, show letterB 95 = false from by decide]
theorem prop_hash (r : List UInt8) : propT (35 :: r) = (nameT (97 :: r) && !memB r 64) := by
  unfold propT
  rw [if_pos (by simp [Lib.hasPrefix]), name_first]
  simp [memB]
theorem prop_plain (c : UInt8) (r : List UInt8) (h : c.toNat ≠ 35) : propT (c :: r) = (nameT (c :: r) && !memB (c :: r) 64) := by
  unfold propT
  rw [if_neg (by simp [Lib.hasPrefix]; intro e; exact h (by rw [← e]; rfl))]
theorem prop_len (l : List UInt8) (h : ¬ (1 ≤ l.length ∧ l.length ≤ 31)) : propT l = false := by
  cases l with
  | nil => rfl
  | cons c r =>
    by_cases hc : c.toNat = 35
    · have : c = 35 := UInt8.toNat_inj.1 hc
      subst this
      rw [prop_hash]; unfold nameT
      rw [show decide (1 ≤ (97 :: r : List UInt8).length ∧ (97 :: r : List UInt8).length ≤ 31) = false from by simpa using h]; rfl
    · rw [prop_plain c r hc]; unfold nameT
      rw [decide_eq_false h]; rfl
theorem prop_at (l : List UInt8) (h : memB l 64 = true) : propT l = false := by
  cases l with
  | nil => rfl
  | cons c r =>
    by_cases hc : c.toNat = 35
    · have : c = 35 := UInt8.toNat_inj.1 hc
      subst this
      rw [prop_hash, show memB r 64 = true from by simpa [memB] using h]; simp
    · rw [prop_plain c r hc, h]; simp

set_option maxHeartbeats 1000000 in
theorem ref3_Property (s : ByteArray) (w : World) (hs : s.size ≤ 9223372036854775807) :
    Calls Tryz.prog 47 #[.string s] w fun e w' => e = .returned (.bool (propB s)) ∧ w = w' := by
  by_cases hl : 1 ≤ s.size ∧ s.size ≤ 31
  · obtain ⟨h1, h2⟩ := hl
    go_enter Tryz.func47, Tryz.ntmps47
    go_wp2_with fail
    go_loop [3] (fun i => ∃ k : Nat, k ≤ s.size ∧ i = .int .i64 k ∧ Hid (memB s.data.toList 64 = memB (s.data.toList.drop k) 64)) (fun i => s.size - (intOf i).toNat)
    case atStart => exact ⟨0, Nat.zero_le _, rfl, rfl⟩
    case round =>
      obtain ⟨k, hk, rfl, hB⟩ := hrel
      by_cases hlt : k < s.size
      · have hD := Lib.hid (drop_cons s k hlt)
        by_cases h64 : s[k].toNat = 64
        · have hP := Lib.hid (show propB s = false from prop_at _ (by rw [hB.out, hD.out, memB_cons, h64]; rfl))
          have h64' : ((s[k].toNat : Int) == 64) = true := by simp [h64]
          clear h64
          go_wp2_with fail
          go_ret
          exact ⟨ret_bool (by rw [hP.out]), rfl⟩
        · have h64' : ((s[k].toNat : Int) == 64) = false := by simp; omega
          have hS := Lib.hid (show memB s.data.toList 64 = memB (s.data.toList.drop (k + 1)) 64 from by
            rw [hB.out, hD.out, memB_cons, show decide (((s[k].toNat : Nat) : Int) = 64) = false from by simp; omega]; rfl)
          clear h64
          go_wp2_with fail
          go_round
          case rel => exact ⟨k + 1, by omega, by go_num, hS⟩
          case measure => simp [intOf]; omega
      · have hM := Lib.hid (show memB s.data.toList 64 = false from by rw [hB.out, drop_end s k (by omega)]; rfl)
        have hD := Lib.hid (show s.data.toList = s[0] :: s.data.toList.drop 1 from by have := drop_cons s 0 h1; rw [List.drop_zero] at this; exact this)
        clear hB hk
        by_cases h35 : s[0].toNat = 35
        · have h35' : ((s[0].toNat : Int) == 35) = true := by simp [h35]
          have hP := Lib.hid (show propB s = nameT (97 :: s.data.toList.drop 1) from by
            have hM2 := hM.out
            unfold propB
            rw [hD.out] at hM2 ⊢
            rw [memB_cons] at hM2
            have e : s[0] = 35 := UInt8.toNat_inj.1 h35
            rw [e] at hM2 ⊢
            rw [prop_hash]
            simp at hM2
            simp [hM2])
          by_cases hone : s.size = 1
          · have hone' : ((s.size : Int) == 1) = true := by simp; omega
            have hP2 := Lib.hid (show propB s = true from by rw [hP.out, List.drop_eq_nil_of_le (by simp; omega)]; decide)
            clear h35 hone
            go_wp2_with fail
            go_ret
            exact ⟨ret_bool (by rw [hP2.out]), rfl⟩
          · have hone' : ((s.size : Int) == 1) = false := by simp; omega
            obtain ⟨c, hadd, hcs, hcd⟩ := adds_of' ⟨#[97]⟩ (s.extract 1 s.size) (by rw [show (⟨#[97]⟩ : ByteArray).size = 1 from rfl]; simp; omega)
            have hcz : c.size ≤ maxLen := by rw [hcs, show (⟨#[97]⟩ : ByteArray).size = 1 from rfl]; simp; unfold maxLen; omega
            have hnm := Lib.hid (ref_Name c · hcz)
            have hP2 := Lib.hid (show nameT c.data.toList = propB s from by rw [hP.out, hcd, drop_data]; rfl)
            clear h35 hone hcs hcd hcz
            go_wp2_with fail
            refine (hnm.out _).mono ?_
            rintro e w' ⟨rfl, rfl⟩
            go_wp2_with fail
            go_ret
            exact ⟨ret_bool hP2.out, rfl⟩
        · have h35' : ((s[0].toNat : Int) == 35) = false := by simp; omega
          have hP := Lib.hid (show nameT s.data.toList = propB s from by
            have hM2 := hM.out
            unfold propB
            rw [hD.out] at hM2 ⊢
            rw [prop_plain _ _ h35, hM2]; simp)
          clear h35
          go_wp2_with fail
          refine (ref_Name s _ (by unfold maxLen; omega)).mono ?_
          rintro e w' ⟨rfl, rfl⟩
          go_wp2_with fail
          go_ret
          exact ⟨ret_bool hP.out, rfl⟩
  · have hP := Lib.hid (show propB s = false from prop_len _ (by simpa using hl))
    have hcs : (s.size : Int) < 1 ∨ (1 ≤ (s.size : Int) ∧ 31 < (s.size : Int)) := by omega
    clear hl
    rcases hcs with h | ⟨h, h'⟩
    all_goals
      go_enter Tryz.func47, Tryz.ntmps47
      go_wp2_with fail
      go_ret
      exact ⟨ret_bool (by rw [hP.out]), rfl⟩
end Go.Proofs.YtofhcgbihonckaaGreatDoor

namespace Go.Proofs.YtofhcgbihonckaaGreatDoor
open Go.RowKit

set_option maxHeartbeats 4000000 in
theorem ref3_names (R : Nat → Prop) (v : Value) (T : List NodeT) (w : World) (hT : NodesIn R w v T) :
    Calls Tryz.prog 66 #[.agg #[v]] w fun e w' => e = .returned (.bool (namedT T)) ∧ Below w.heap.size w w' := by
  obtain ⟨a, cap, rfl, hc1, hc2⟩ := hT.shape
  have HT := Lib.hid hT; clear hT

  go_enter Tryz.func66, Tryz.ntmps66
  go_wp2_with fail
  go_loopg [10] (T.length) (fun f x wr => ∃ k : Nat, x = .int .i64 k ∧ k ≤ T.length ∧ T.length ≤ k + f ∧ Hid (namedT T = namedF k (T.drop k)) ∧ Below w.heap.size w wr)
  case atStart => exact ⟨0, rfl, by omega, by omega, by simp [Hid, namedT], (Below.refl _ _).alloc (Nat.le_refl _) _⟩
  case round =>
    obtain ⟨go, rfl⟩ : ∃ x : Nat, x = gk := ⟨_, rfl⟩
    obtain ⟨k, rfl, hk, hf, hN, hb⟩ := hrel
    have hbs := hb.size
    by_cases hlt : k < T.length
    · obtain ⟨g, o, pa, pc, rfl, hg, c0, c1, c2, hp, p1, p2, b0, b1, b2⟩ := (HT.out.new hb).at k hlt
      have HPn := Lib.hid hp
      clear hp
      have hstep := Lib.hid (show namedF k (T.drop k) = (headB k T[k] && (T[k].props.all fun p => propB p.name) && namedF (k + 1) (T.drop (k + 1))) from by rw [List.drop_eq_getElem_cons hlt]; rfl)
      have hca := head_cases k T[k]
      rcases hca with hca | hca | hca | hca | hca | hca | hca
      · obtain ⟨hk0, hk1, q1, q2, hh⟩ := hca
        have hH2 := Lib.hid hh; clear hh
        go_wp2_with fail
        go_loopg [51] (T[k].props.length) (fun f x wx => ∃ j : Nat, x = .int .i64 j ∧ j ≤ T[k].props.length ∧ T[k].props.length ≤ j + f ∧ Hid (T[k].props.all (fun p => propB p.name) = (T[k].props.drop j).all (fun p => propB p.name)) ∧ Below wr.heap.size wr wx)
        case atStart => exact ⟨0, rfl, by omega, by omega, by simp [Hid], (Below.refl _ _).alloc (Nat.le_refl _) _⟩
        case round =>
          obtain ⟨j, rfl, hj, hf2, hA, hb2⟩ := hrel
          have hb3 := hb.trans (hb2.mono hbs)
          have hbs3 := hb3.size
          by_cases hjl : j < T[k].props.length
          · obtain ⟨gp, op, rfl, hgp, d0, d1, e0, e1⟩ := (HPn.out.new hb2).at j hjl
            have hpb := fun wx => ref3_Property (T[k].props[j]).name wx e0
            have hdrop := Lib.hid (show (T[k].props.drop j).all (fun p => propB p.name) = (propB (T[k].props[j]).name && (T[k].props.drop (j + 1)).all (fun p => propB p.name)) from by rw [List.drop_eq_getElem_cons hjl]; rfl)
            generalize propB (T[k].props[j]).name = y at hpb hdrop
            have HB := Lib.hid hpb; clear hpb
            cases y with
            | true =>
              go_wp2_with fail
              refine (HB.out _).mono ?_
              rintro e w' ⟨rfl, rfl⟩
              go_wp2_with fail
              go_roundg (gk - 1)
              case measure => omega
              case rel => exact ⟨j + 1, by go_num, by omega, by omega, by show _ = _; rw [hA.out, hdrop.out, Bool.true_and], hb2.alloc hb2.size _⟩
            | false =>
              go_wp2_with fail
              refine (HB.out _).mono ?_
              rintro e w' ⟨rfl, rfl⟩
              go_wp2_with fail
              go_ret
              exact ⟨ret_bool (by rw [hN.out, hstep.out, hA.out, hdrop.out]; simp), hb3.alloc hbs3 _⟩
          · go_wp2_with fail
            go_roundg (go - 1)
            case measure => omega
            case rel => exact ⟨k + 1, by go_num, by omega, by omega, by show _ = _; rw [hN.out, hstep.out, hA.out, List.drop_eq_nil_of_le (by omega), hH2.out]; simp, hb3⟩
      · obtain ⟨hk0, hk1, q1, hh⟩ := hca
        have hH2 := Lib.hid hh; clear hh
        go_wp2_with fail
        go_ret
        exact ⟨ret_bool (by rw [hN.out, hstep.out, hH2.out]; simp), hb.alloc hbs _⟩
      · obtain ⟨hk0, hk1, q1, q2, q3, hh⟩ := hca
        have hH2 := Lib.hid hh; clear hh
        go_wp2_with fail
        go_ret
        exact ⟨ret_bool (by rw [hN.out, hstep.out, hH2.out]; simp), hb.alloc hbs _⟩
      · obtain ⟨hk0, hk1, q1, hh⟩ := hca
        have hH2 := Lib.hid hh; clear hh
        go_wp2_with fail
        go_ret
        exact ⟨ret_bool (by rw [hN.out, hstep.out, hH2.out]; simp), hb.alloc hbs _⟩
      · obtain ⟨hk0, hk1, q1, q2, hh⟩ := hca
        have hH2 := Lib.hid hh; clear hh
        go_wp2_with fail
        go_ret
        exact ⟨ret_bool (by rw [hN.out, hstep.out, hH2.out]; simp), hb.alloc hbs _⟩
      · obtain ⟨hk0, hk1, q1, q2, hn, hh⟩ := hca
        have hH2 := Lib.hid hh; clear hh
        have hnm := fun wx => ref_Name T[k].name wx (by unfold maxLen; omega)
        rw [hn] at hnm
        have HNM := Lib.hid hnm; clear hnm hn
        go_wp2_with fail
        refine (HNM.out _).mono ?_
        rintro e w' ⟨rfl, rfl⟩
        go_wp2_with fail
        go_loopg [51] (T[k].props.length) (fun f x wx => ∃ j : Nat, x = .int .i64 j ∧ j ≤ T[k].props.length ∧ T[k].props.length ≤ j + f ∧ Hid (T[k].props.all (fun p => propB p.name) = (T[k].props.drop j).all (fun p => propB p.name)) ∧ Below wr.heap.size wr wx)
        case atStart => exact ⟨0, rfl, by omega, by omega, by simp [Hid], (Below.refl _ _).alloc (Nat.le_refl _) _⟩
        case round =>
          obtain ⟨j, rfl, hj, hf2, hA, hb2⟩ := hrel
          have hb3 := hb.trans (hb2.mono hbs)
          have hbs3 := hb3.size
          by_cases hjl : j < T[k].props.length
          · obtain ⟨gp, op, rfl, hgp, d0, d1, e0, e1⟩ := (HPn.out.new hb2).at j hjl
            have hpb := fun wx => ref3_Property (T[k].props[j]).name wx e0
            have hdrop := Lib.hid (show (T[k].props.drop j).all (fun p => propB p.name) = (propB (T[k].props[j]).name && (T[k].props.drop (j + 1)).all (fun p => propB p.name)) from by rw [List.drop_eq_getElem_cons hjl]; rfl)
            generalize propB (T[k].props[j]).name = y at hpb hdrop
            have HB := Lib.hid hpb; clear hpb
            cases y with
            | true =>
              go_wp2_with fail
              refine (HB.out _).mono ?_
              rintro e w' ⟨rfl, rfl⟩
              go_wp2_with fail
              go_roundg (gk - 1)
              case measure => omega
              case rel => exact ⟨j + 1, by go_num, by omega, by omega, by show _ = _; rw [hA.out, hdrop.out, Bool.true_and], hb2.alloc hb2.size _⟩
            | false =>
              go_wp2_with fail
              refine (HB.out _).mono ?_
              rintro e w' ⟨rfl, rfl⟩
              go_wp2_with fail
              go_ret
              exact ⟨ret_bool (by rw [hN.out, hstep.out, hA.out, hdrop.out]; simp), hb3.alloc hbs3 _⟩
          · go_wp2_with fail
            go_roundg (go - 1)
            case measure => omega
            case rel => exact ⟨k + 1, by go_num, by omega, by omega, by show _ = _; rw [hN.out, hstep.out, hA.out, List.drop_eq_nil_of_le (by omega), hH2.out]; simp, hb3⟩
      · obtain ⟨hk0, hk1, q1, q2, hn, hh⟩ := hca
        have hH2 := Lib.hid hh; clear hh
        have hnm := fun wx => ref_Name T[k].name wx (by unfold maxLen; omega)
        rw [hn] at hnm
        have HNM := Lib.hid hnm; clear hnm hn
        go_wp2_with fail
        refine (HNM.out _).mono ?_
        rintro e w' ⟨rfl, rfl⟩
        go_wp2_with fail
        go_ret
        exact ⟨ret_bool (by rw [hN.out, hstep.out, hH2.out]; simp), hb.alloc hbs _⟩

    · go_wp2_with fail
      go_ret
      exact ⟨ret_bool (by rw [hN.out, List.drop_eq_nil_of_le (by omega)]; rfl), hb⟩
end Go.Proofs.YtofhcgbihonckaaGreatDoor

namespace Go.Proofs.YtofhcgbihonckaaGreatDoor
open Go.RowKit

set_option maxHeartbeats 800000 in
theorem ref3_level (R : Nat → Prop) (v : Value) (T : List NodeT) (u : Int) (w : World) (hT : NodesIn R w v T) (hn : namedT T = true) (hu : u < T.length) (hu0 : -1 ≤ u) (hl : T.length ≤ 1000) :
    Calls Tryz.prog 68 #[.agg #[v], .int .i64 u] w fun e w' => e = .returned (.int .i64 (depF T T.length u)) ∧ Below w.heap.size w w' := by
  obtain ⟨a, cap, rfl, hc1, hc2⟩ := hT.shape
  have HT := Lib.hid hT; clear hT
  have HN := Lib.hid hn; clear hn
  go_enter Tryz.func68, Tryz.ntmps68
  go_wp2_with fail
  go_loopg [1, 5] (u.toNat) (fun f x y wr => ∃ (x' : Int) (y' : Nat), x = .int .i64 x' ∧ y = .int .i64 y' ∧ x'.toNat ≤ f ∧ -1 ≤ x' ∧ x' < T.length ∧ y' + x'.toNat ≤ u.toNat ∧ Hid (depF T T.length u = y' + depF T T.length x') ∧
    ∃ n, wr = (w.alloc (.cells #[.slice a T.length cap] 25)).drewN n)
  case atStart => exact ⟨u, 0, rfl, rfl, by omega, hu0, hu, by omega, by show _ = _; omega, 0, rfl⟩
  case round =>
    obtain ⟨x, y, rfl, rfl, hf, hx0, hx1, hy, hD, n, rfl⟩ := hrel
    by_cases h0 : 0 < x
    · obtain ⟨k, rfl⟩ := Int.eq_ofNat_of_zero_le (show 0 ≤ x by omega)
      have hk : k < T.length := by omega
      obtain ⟨g, o, pa, pc, rfl, hg, c0, c1, c2, hp, p1, p2, b0, b1, b2⟩ := HT.out.at k hk
      have hpar := (named_par HN.out k hk).2 (by omega)
      have hDn : Hid (depF T T.length u = (y + 1 : Nat) + depF T T.length T[k].parent) := by
        show _ = _
        rw [hD.out]
        have e1 : depF T T.length (k : Int) = depF T (T.length - 1) (parOf T k) + 1 := by
          obtain ⟨m, hm⟩ : ∃ m, T.length = m + 1 := ⟨T.length - 1, by omega⟩
          rw [hm]; simp only [depF]; rw [if_pos h0]; rfl
        rw [e1, parOf_at hk, depF_fuel HN.out T.length T[k].parent (by omega) (by omega) (T.length - 1) T.length (by omega) (by omega)]
        omega
      clear hp hD
      go_wp2_with fail
      go_roundg (gk - 1)
      case measure => omega
      case rel => exact ⟨T[k].parent, y + 1, rfl, by go_num, by omega, by omega, by omega, by omega, hDn, n, rfl⟩
    · go_wp2_with fail
      go_ret
      refine ⟨ret_int ?_, below_draws ((Below.refl _ _).alloc (Nat.le_refl _) _) n⟩
      have e1 : depF T T.length x = 0 := by cases hTl : T.length with
        | zero => rfl
        | succ m => simp [depF, h0]
      rw [hD.out, e1]; simp

def valB (p : PropT) : Bool := decide (p.value.size ≤ 256)
theorem fit_split (n : NodeT) : fitB n = (decide (n.props.length ≤ 24) && n.props.all valB) := rfl
theorem limits_not {T : List NodeT} (h : T.length = 0 ∨ 120 < T.length) : limitsT T = false := by
  unfold limitsT; rw [decide_eq_false (by omega)]; rfl

set_option maxHeartbeats 4000000 in
theorem ref3_limits (R : Nat → Prop) (v : Value) (T : List NodeT) (w : World) (hT : NodesIn R w v T) :
    Calls Tryz.prog 50 #[.agg #[v]] w fun e w' => e = .returned (.bool (!limitsT T)) ∧ Below w.heap.size w w' := by
  obtain ⟨a, cap, rfl, hc1, hc2⟩ := hT.shape
  have HT := Lib.hid hT; clear hT
  by_cases hl : 1 ≤ T.length ∧ T.length ≤ 120
  · obtain ⟨hl1, hl2⟩ := hl
    have hL := Lib.hid (show limitsT T = T.all fitB from by unfold limitsT; rw [decide_eq_true ⟨hl1, hl2⟩, Bool.true_and])
    go_enter Tryz.func50, Tryz.ntmps50
    go_wp2_with fail
    go_loopg [20] (T.length) (fun f x wr => ∃ k : Nat, x = .int .i64 k ∧ k ≤ T.length ∧ T.length ≤ k + f ∧ Hid (T.all fitB = (T.drop k).all fitB) ∧ Below w.heap.size w wr)
    case atStart => exact ⟨0, rfl, by omega, by omega, by simp [Hid], (Below.refl _ _).alloc (Nat.le_refl _) _⟩
    case round =>
      obtain ⟨go, rfl⟩ : ∃ x : Nat, x = gk := ⟨_, rfl⟩
      obtain ⟨wo, rfl⟩ : ∃ x : World, x = wr := ⟨_, rfl⟩
      obtain ⟨k, rfl, hk, hf, hN, hb⟩ := hrel
      have hbs := hb.size
      by_cases hlt : k < T.length
      · obtain ⟨g, o, pa, pc, rfl, hg, c0, c1, c2, hp, p1, p2, b0, b1, b2⟩ := (HT.out.new hb).at k hlt
        have HPn := Lib.hid hp
        clear hp
        have hstep := Lib.hid (show (T.drop k).all fitB = (fitB T[k] && (T.drop (k + 1)).all fitB) from by rw [List.drop_eq_getElem_cons hlt]; rfl)
        by_cases h24 : T[k].props.length ≤ 24
        · have hfs := Lib.hid (show fitB T[k] = T[k].props.all valB from by rw [fit_split, decide_eq_true h24, Bool.true_and])
          go_wp2_with fail
          go_loopg [31] (T[k].props.length) (fun f x wx => ∃ j : Nat, x = .int .i64 j ∧ j ≤ T[k].props.length ∧ T[k].props.length ≤ j + f ∧ Hid (T[k].props.all valB = (T[k].props.drop j).all valB) ∧ Below wo.heap.size wo wx)
          case atStart => exact ⟨0, rfl, by omega, by omega, by simp [Hid], (Below.refl _ _).alloc (Nat.le_refl _) _⟩
          case round =>
            obtain ⟨j, rfl, hj, hf2, hA, hb2⟩ := hrel
            have hb3 := hb.trans (hb2.mono hbs)
            have hbs3 := hb3.size
            by_cases hjl : j < T[k].props.length
            · obtain ⟨gp, op, rfl, hgp, d0, d1, e0, e1⟩ := (HPn.out.new hb2).at j hjl
              have hdrop := Lib.hid (show (T[k].props.drop j).all valB = (valB T[k].props[j] && (T[k].props.drop (j + 1)).all valB) from by rw [List.drop_eq_getElem_cons hjl]; rfl)
              by_cases hv : T[k].props[j].value.size ≤ 256
              · have hvb := Lib.hid (show valB T[k].props[j] = true from decide_eq_true hv)
                go_wp2_with fail
                go_roundg (gk - 1)
                case measure => omega
                case rel => exact ⟨j + 1, by go_num, by omega, by omega, by show _ = _; rw [hA.out, hdrop.out, hvb.out, Bool.true_and], hb2.alloc hb2.size _⟩
              · have hvb := Lib.hid (show valB T[k].props[j] = false from decide_eq_false hv)
                have hv' : 256 < T[k].props[j].value.size := by omega
                clear hv
                go_wp2_with fail
                go_ret
                exact ⟨ret_bool (by rw [hL.out, hN.out, hstep.out, hfs.out, hA.out, hdrop.out, hvb.out]; simp), hb3.alloc hbs3 _⟩
            · go_wp2_with fail
              go_roundg (go - 1)
              case measure => omega
              case rel => exact ⟨k + 1, by go_num, by omega, by omega, by show _ = _; rw [hN.out, hstep.out, hfs.out, hA.out, List.drop_eq_nil_of_le (by omega)]; simp, hb3⟩
        · have hfs := Lib.hid (show fitB T[k] = false from by rw [fit_split, decide_eq_false h24, Bool.false_and])
          have h24' : 24 < T[k].props.length := by omega
          clear h24
          go_wp2_with fail
          go_ret
          exact ⟨ret_bool (by rw [hL.out, hN.out, hstep.out, hfs.out]; simp), hb.alloc hbs _⟩
      · go_wp2_with fail
        go_ret
        exact ⟨ret_bool (by rw [hL.out, hN.out, List.drop_eq_nil_of_le (by omega)]; rfl), hb⟩
  · have hcs : T.length = 0 ∨ (T.length ≠ 0 ∧ 120 < T.length) := by omega
    rcases hcs with h | ⟨h, h'⟩
    · have hL := Lib.hid (limits_not (.inl h))
      have h1 : ((T.length : Int) < 1) := by omega
      clear hl
      go_enter Tryz.func50, Tryz.ntmps50
      go_wp2_with fail
      go_ret
      exact ⟨ret_bool (by rw [hL.out]; rfl), (Below.refl _ _).alloc (Nat.le_refl _) _⟩
    · have hL := Lib.hid (limits_not (.inr h'))
      have h1 : 1 ≤ T.length := by omega
      clear hl h
      go_enter Tryz.func50, Tryz.ntmps50
      go_wp2_with fail
      go_ret
      exact ⟨ret_bool (by rw [hL.out]; rfl), (Below.refl _ _).alloc (Nat.le_refl _) _⟩
end Go.Proofs.YtofhcgbihonckaaGreatDoor
