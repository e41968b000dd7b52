/- Contracts of tree: a property of a node. -/
import Derived.Test.YtjfkjnakmmkkiaaTreE
import Derived.WalkLawsBesides
namespace Go.Proofs.Ytjfkjnakmmkkiaa
open Go.RowKit

set_option maxHeartbeats 400000 in
theorem cmp_isNaN (a : ByteArray) (w : World) : Calls Try.prog 121 #[.string a] w fun e w' => e = .returned (.bool false) ∧ w = w' := by
  go_enter Try.func121, Try.ntmps121
  go_wp2_with fail
  go_ret
  exact ⟨ret_bool (by simp), rfl⟩

set_option maxHeartbeats 400000 in
theorem cmp_Compare (a b : ByteArray) (w : World) : Calls Try.prog 101 #[.string a, .string b] w fun e w' => e = .returned (.int .i64 (cmpS a b)) ∧ w = w' := by
  have n1 := fun wx => cmp_isNaN a wx
  have n2 := fun wx => cmp_isNaN b wx
  have N1 := Lib.hid n1; clear n1
  have N2 := Lib.hid n2; clear n2
  cases h1 : Op.bytesLess a.toList b.toList with
  | true =>
    have hC := Lib.hid (show cmpS a b = -1 from by unfold cmpS; rw [if_pos (show ltS a b = true from h1)])
    go_enter Try.func101, Try.ntmps101
    go_wp2_with fail
    refine (N1.out _).mono ?_
    rintro e w' ⟨rfl, rfl⟩
    go_wp2_with fail
    refine (N2.out _).mono ?_
    rintro e w' ⟨rfl, rfl⟩
    go_wp2_with fail
    go_ret
    exact ⟨ret_int (by rw [hC.out]), rfl⟩
  | false =>
    cases h2 : (a.toList == b.toList) with
    | true =>
      have hC := Lib.hid (show cmpS a b = 0 from by unfold cmpS; rw [if_neg (by rw [show ltS a b = false from h1]; simp), if_pos (show eqS a b = true from h2)])
      go_enter Try.func101, Try.ntmps101
      go_wp2_with fail
      refine (N1.out _).mono ?_
      rintro e w' ⟨rfl, rfl⟩
      go_wp2_with fail
      refine (N2.out _).mono ?_
      rintro e w' ⟨rfl, rfl⟩
      go_wp2_with fail
      go_ret
      exact ⟨ret_int (by rw [hC.out]), rfl⟩
    | false =>
      have hC := Lib.hid (show cmpS a b = 1 from by unfold cmpS; rw [if_neg (by rw [show ltS a b = false from h1]; simp), if_neg (by rw [show eqS a b = false from h2]; simp)])
      go_enter Try.func101, Try.ntmps101
      go_wp2_with fail
      refine (N1.out _).mono ?_
      rintro e w' ⟨rfl, rfl⟩
      go_wp2_with fail
      refine (N2.out _).mono ?_
      rintro e w' ⟨rfl, rfl⟩
      go_wp2_with fail
      go_ret
      exact ⟨ret_int (by rw [hC.out]), rfl⟩

set_option maxHeartbeats 400000 in
theorem tree_property1 (p : PropT) (x : ByteArray) (w : World) : Calls Try.prog 109 #[.agg #[.string p.name, .string p.value], .string x] w fun e w' => e = .returned (.int .i64 (cmpS p.name x)) ∧ Below w.heap.size w w' := by
  go_enter Try.func109, Try.ntmps109
  go_wp2_with fail
  refine (cmp_Compare p.name x _).mono ?_
  rintro e w' ⟨rfl, rfl⟩
  go_wp2_with fail
  go_ret
  exact ⟨rfl, (Below.refl _ _).alloc (Nat.le_refl _) _⟩

theorem enters_property1 : ∀ args w, (callFunc 109 args).run Try.prog w = .ok (.enter 109 args) w := enters_of Try.func109 (by kernel_rfl) rfl

theorem half_bits (n : Nat) (h : n ≤ 9223372036854775807) : IntKind.u64.wrap ((n : Int)) = n := by
  simp [IntKind.wrap, IntKind.signed, IntKind.bits]; omega

set_option maxHeartbeats 2000000 in
theorem props_Search (R : Nat → Prop) (v : Value) (ps : List PropT) (x : ByteArray) (w : World) (hP : PropsIn R w v ps) (ha : ascT ps = true) (hl : ps.length ≤ 1000) :
    Calls Try.prog 108 #[v, .string x, .func (.func 109) #[] #[]] w
      fun e w' => e = .returned (.tuple #[.int .i64 (lowT ps x), .bool (hasT ps x)]) ∧ Below w.heap.size w w' := by
  obtain ⟨a, cap, rfl, hc1, hc2⟩ := hP.shape
  have HP := Lib.hid hP; clear hP
  have HA := Lib.hid ha; clear ha
  have eg := enters_property1
  go_enter Try.func108, Try.ntmps108
  go_wp2_with fail
  go_loopg [9, 10] (ps.length) (fun f y z wr => ∃ i j : Nat, y = .int .i64 i ∧ z = .int .i64 j ∧ i ≤ j ∧ j ≤ ps.length ∧ j ≤ i + f ∧ Hid (∀ k (h : k < ps.length), k < i → ltS ps[k].name x = true) ∧ Hid (∀ k (h : k < ps.length), j ≤ k → ltS ps[k].name x = false) ∧ Below w.heap.size w wr)
  case atStart => exact ⟨0, ps.length, rfl, rfl, by omega, by omega, by omega, fun k h h2 => absurd h2 (by omega), fun k h h2 => absurd h (by omega), Below.refl _ _⟩
  case round =>
    obtain ⟨i, j, rfl, rfl, hij, hj, hf, hlo, hhi, hb⟩ := hrel
    have hbs := hb.size
    by_cases hlt : i < j
    · have hm : (i + j) / 2 < ps.length := by omega
      obtain ⟨g, o, rfl, hg, c0, c1, b0, b1⟩ := (HP.out.new hb).at ((i + j) / 2) hm
      have hcp := fun wx => tree_property1 (ps[(i + j) / 2]) x wx
      have hcase : (ltS (ps[(i + j) / 2]).name x = true ∧ cmpS (ps[(i + j) / 2]).name x < 0) ∨ (ltS (ps[(i + j) / 2]).name x = false ∧ 0 ≤ cmpS (ps[(i + j) / 2]).name x) := by
        unfold cmpS
        cases ltS (ps[(i + j) / 2]).name x
        · right; simp; split <;> omega
        · left; simp
      rcases hcase with ⟨hl1, hl2⟩ | ⟨hl1, hl2⟩
      · have HL := Lib.hid hl1; clear hl1
        generalize cmpS (ps[(i + j) / 2]).name x = r at hcp hl2
        have HC := Lib.hid hcp; clear hcp
        go_wp2_with fail
        refine (HC.out _).mono ?_
        rintro e w' ⟨rfl, hb'⟩
        go_wp2_with fail
        go_roundg (gk - 1)
        case measure => omega
        case rel =>
          refine ⟨(i + j) / 2 + 1, j, by go_num, rfl, by omega, hj, by omega, ?_, hhi, hb.trans (hb'.mono hbs)⟩
          intro k hk hk2
          by_cases e : k = (i + j) / 2
          · subst e; exact HL.out
          · exact ltS_trans (asc_lt ps HA.out k ((i + j) / 2) hk hm (by omega)) HL.out
      · have HL := Lib.hid hl1; clear hl1
        generalize cmpS (ps[(i + j) / 2]).name x = r at hcp hl2
        have HC := Lib.hid hcp; clear hcp
        go_wp2_with fail
        refine (HC.out _).mono ?_
        rintro e w' ⟨rfl, hb'⟩
        go_wp2_with fail
        go_roundg (gk - 1)
        case measure => omega
        case rel =>
          refine ⟨i, (i + j) / 2, rfl, by go_num, by omega, by omega, by omega, hlo, ?_, hb.trans (hb'.mono hbs)⟩
          intro k hk hk2
          by_cases e : k = (i + j) / 2
          · subst e; exact HL.out
          · rw [Bool.eq_false_iff]
            intro hc
            have := ltS_trans (asc_lt ps HA.out ((i + j) / 2) k hm hk (by omega)) hc
            rw [HL.out] at this; cases this
    · have hlow := Lib.hid (show lowT ps x = i from takeWhile_at _ ps i (by omega) (fun k h h2 => hlo.out k h h2) (fun h => hhi.out i h (by omega)))
      by_cases hi : i < ps.length
      · obtain ⟨g, o, rfl, hg, c0, c1, b0, b1⟩ := (HP.out.new hb).at i hi
        have hcp := fun wx => tree_property1 ps[i] x wx
        have hhas := Lib.hid (show hasT ps x = eqS ps[i].name x from by unfold hasT; rw [hlow.out, List.getElem?_eq_getElem hi])
        have hnl := hhi.out i hi (by omega)
        have hcase : (eqS ps[i].name x = true ∧ (cmpS ps[i].name x == 0) = true) ∨ (eqS ps[i].name x = false ∧ (cmpS ps[i].name x == 0) = false) := by
          unfold cmpS
          rw [hnl]
          cases eqS ps[i].name x <;> simp
        clear hlo hhi hnl
        rcases hcase with ⟨hl1, hl2⟩ | ⟨hl1, hl2⟩
        · have HL := Lib.hid hl1; clear hl1
          generalize cmpS ps[i].name x = r at hcp hl2
          have HC := Lib.hid hcp; clear hcp
          go_wp2_with fail
          refine (HC.out _).mono ?_
          rintro e w' ⟨rfl, hb'⟩
          go_wp2_with fail
          go_ret2
          exact ⟨by rw [hlow.out, hhas.out, HL.out]; rfl, hb.trans (hb'.mono hbs)⟩
        · have HL := Lib.hid hl1; clear hl1
          generalize cmpS ps[i].name x = r at hcp hl2
          have HC := Lib.hid hcp; clear hcp
          go_wp2_with fail
          refine (HC.out _).mono ?_
          rintro e w' ⟨rfl, hb'⟩
          go_wp2_with fail
          go_ret2
          exact ⟨by rw [hlow.out, hhas.out, HL.out]; rfl, hb.trans (hb'.mono hbs)⟩
      · have hhas := Lib.hid (show hasT ps x = false from by unfold hasT; rw [hlow.out, List.getElem?_eq_none (by omega)])
        clear hlo hhi
        go_wp2_with fail
        go_ret2
        exact ⟨by rw [hlow.out, hhas.out]; rfl, hb⟩

set_option maxHeartbeats 1000000 in
theorem tree_property (R : Nat → Prop) (pv : Value) (n : NodeT) (x : ByteArray) (w : World) (hP : PropsIn R w pv n.props) (ha : ascT n.props = true) (hl : n.props.length ≤ 1000) :
    Calls Try.prog 66 #[.agg #[.int .i64 n.parent, .string n.name, pv], .string x] w fun e w' => e = .returned (.tuple #[.int .i64 (lowT n.props x), .bool (hasT n.props x)]) ∧ Below w.heap.size w w' := by
  obtain ⟨a, cap, rfl, hc1, hc2⟩ := hP.shape
  have hs := fun wx hx => props_Search R (.slice a n.props.length cap) n.props x wx hx ha hl
  generalize lowT n.props x = y at hs
  generalize hasT n.props x = z at hs
  have HS := Lib.hid hs; clear hs
  have HP := Lib.hid hP; clear hP
  clear ha
  go_enter Try.func66, Try.ntmps66
  go_wp2_with fail
  refine (HS.out _ (by exact HP.out.new ((Below.refl w.heap.size w).alloc (Nat.le_refl _) _))).mono ?_
  rintro e w' ⟨rfl, hb⟩
  go_wp2_with fail
  go_ret2
  exact ⟨rfl, ((Below.refl _ _).alloc (Nat.le_refl _) _).trans (hb.mono (by simp))⟩
end Go.Proofs.Ytjfkjnakmmkkiaa
