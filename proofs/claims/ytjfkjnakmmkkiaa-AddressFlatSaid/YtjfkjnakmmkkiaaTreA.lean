/- Contracts of tree: Property, depth, what Check asks of properties. -/
import Derived.Test.YtjfkjnakmmkkiaaTreM
import Derived.Test.YtjfkjnakmmkkiaaTokN
import Derived.Deep.LoopGhost
import Derived.IntWalk
namespace Go.Proofs.Ytjfkjnakmmkkiaa
open Go.RowKit

theorem drop_data (s : ByteArray) (a : Nat) : (s.extract a s.size).data.toList = s.data.toList.drop a := by
  simp [ByteArray.data_extract, Array.toList_extract, List.extract_eq_take_drop]
  try exact List.take_of_length_le (by simp)
theorem memB_idx (l : List UInt8) (b : UInt8) : decide (0 ≤ Lib.indexByte l b) = memB l b.toNat := idx_byte l b
theorem adds_of' (a b : ByteArray) (h : a.size + b.size ≤ 9223372036854775807) : ∃ c : ByteArray, (∀ wx, (Op.stringOp .add a b).run Try.prog wx = .ok (.string c) wx) ∧ c.size = a.size + b.size ∧ c.data.toList = a.data.toList ++ b.data.toList := by
  refine ⟨a ++ b, fun wx => ?_, by simp, by simp⟩
  simp only [Op.stringOp]
  rw [if_neg (by simp [IntKind.max, IntKind.signed, IntKind.bits]; omega)]
  rfl

set_option maxHeartbeats 800000 in
theorem tree_Property (s : ByteArray) (w : World) (hs : s.size ≤ 9223372036854775807) :
    Calls Try.prog 65 #[.string s] w fun e w' => e = .returned (.bool (propB s)) ∧ w = w' := by
  have hH := fun wx => Try.strings_HasPrefix s ⟨#[35]⟩ wx
  have hF := Lib.hid (show propB s = propT s.data.toList from rfl)
  by_cases h : Lib.hasPrefix s.data.toList [35] = true
  · have hpl := Lib.hasPrefix_le h
    simp only [List.length_cons, List.length_nil] at hpl
    have hs1 : 1 ≤ s.size := by simpa using hpl
    have hH2 : Lib.hasPrefix s.data.toList (⟨#[35]⟩ : ByteArray).data.toList = true := h
    rw [hH2] at hH
    have HH := Lib.hid hH; clear hH hH2
    have hx : (s.extract 1 s.size).size = s.size - 1 := by simp
    obtain ⟨c, hadd, hcs, hcd⟩ := adds_of' ⟨#[95]⟩ (s.extract 1 s.size) (by rw [show (⟨#[95]⟩ : ByteArray).size = 1 from rfl]; omega)
    rw [show (⟨#[95]⟩ : ByteArray).size = 1 from rfl] at hcs
    have hcl : c.data.toList = 95 :: s.data.toList.drop 1 := by rw [hcd, drop_data]; rfl
    have hN := fun wx => token_Name c wx (by unfold maxLen; omega)
    have hC := fun wx => Try.strings_Contains_one c 64 wx
    rw [memB_idx, hcl] at hC
    rw [hcl] at hN
    have HF : Hid (propB s = (nameT (95 :: s.data.toList.drop 1) && !memB (95 :: s.data.toList.drop 1) 64)) := by show _ = _; rw [hF.out]; unfold propT; rw [if_pos h]
    have HN := Lib.hid hN; clear hN
    have HC := Lib.hid hC; clear hC
    clear h hF hcd hcl hpl
    cases hy : nameT (95 :: s.data.toList.drop 1) with
    | true =>
      rw [hy] at HN HF
      clear hy
      go_enter Try.func65, Try.ntmps65
      go_wp2_with fail
      refine (HH.out _).mono ?_
      rintro e w' ⟨rfl, rfl⟩
      go_wp2_with fail
      refine (HN.out _).mono ?_
      rintro e w' ⟨rfl, rfl⟩
      go_wp2_with fail
      refine (HC.out _).mono ?_
      rintro e w' ⟨rfl, rfl⟩
      go_wp2_with fail
      go_ret
      exact ⟨ret_bool (by rw [HF.out]; simp), rfl⟩
    | false =>
      rw [hy] at HN HF
      clear hy
      go_enter Try.func65, Try.ntmps65
      go_wp2_with fail
      refine (HH.out _).mono ?_
      rintro e w' ⟨rfl, rfl⟩
      go_wp2_with fail
      refine (HN.out _).mono ?_
      rintro e w' ⟨rfl, rfl⟩
      go_wp2_with fail
      go_ret
      exact ⟨ret_bool (by rw [HF.out]; simp), rfl⟩
  · have h : Lib.hasPrefix s.data.toList [35] = false := by simpa using h
    have hH2 : Lib.hasPrefix s.data.toList (⟨#[35]⟩ : ByteArray).data.toList = false := h
    rw [hH2] at hH
    have HH := Lib.hid hH; clear hH hH2
    have hN := fun wx => token_Name s wx (by unfold maxLen; omega)
    have hC := fun wx => Try.strings_Contains_one s 64 wx
    rw [memB_idx] at hC
    have HF : Hid (propB s = (nameT s.data.toList && !memB s.data.toList 64)) := by show _ = _; rw [hF.out]; unfold propT; rw [if_neg (by simp [h])]
    have HN := Lib.hid hN; clear hN
    have HC := Lib.hid hC; clear hC
    clear h hF
    cases hy : nameT s.data.toList with
    | true =>
      rw [hy] at HN HF
      clear hy
      go_enter Try.func65, Try.ntmps65
      go_wp2_with fail
      refine (HH.out _).mono ?_
      rintro e w' ⟨rfl, rfl⟩
      go_wp2_with fail
      refine (HN.out _).mono ?_
      rintro e w' ⟨rfl, rfl⟩
      go_wp2_with fail
      refine (HC.out _).mono ?_
      rintro e w' ⟨rfl, rfl⟩
      go_wp2_with fail
      go_ret
      exact ⟨ret_bool (by rw [HF.out]; simp), rfl⟩
    | false =>
      rw [hy] at HN HF
      clear hy
      go_enter Try.func65, Try.ntmps65
      go_wp2_with fail
      refine (HH.out _).mono ?_
      rintro e w' ⟨rfl, rfl⟩
      go_wp2_with fail
      refine (HN.out _).mono ?_
      rintro e w' ⟨rfl, rfl⟩
      go_wp2_with fail
      go_ret
      exact ⟨ret_bool (by rw [HF.out]; simp), rfl⟩

set_option maxHeartbeats 800000 in
theorem tree_depth (R : Nat → Prop) (v : Value) (T : List NodeT) (u : Int) (w : World) (hT : NodesIn R w v T) (hn : namedT T = true) (hu : u < T.length) (hu0 : -1 ≤ u) (hl : T.length ≤ 1000) :
    Calls Try.prog 64 #[.agg #[v], .int .i64 u] w fun e w' => e = .returned (.int .i64 (depF T T.length u)) ∧ Below w.heap.size w w' := by
  obtain ⟨a, cap, rfl, hc1, hc2⟩ := hT.shape
  have HT := Lib.hid hT; clear hT
  have HN := Lib.hid hn; clear hn
  go_enter Try.func64, Try.ntmps64
  go_wp2_with fail
  go_loopg [1, 5] (u.toNat) (fun f x y wr => ∃ (x' : Int) (y' : Nat), x = .int .i64 x' ∧ y = .int .i64 y' ∧ x'.toNat ≤ f ∧ -1 ≤ x' ∧ x' < T.length ∧ y' + x'.toNat ≤ u.toNat ∧ Hid (depF T T.length u = y' + depF T T.length x') ∧
    ∃ n, wr = (w.alloc (.cells #[.slice a T.length cap] 27)).drewN n)
  case atStart => exact ⟨u, 0, rfl, rfl, by omega, hu0, hu, by omega, by show _ = _; omega, 0, rfl⟩
  case round =>
    obtain ⟨x, y, rfl, rfl, hf, hx0, hx1, hy, hD, n, rfl⟩ := hrel
    by_cases h0 : 0 < x
    · obtain ⟨k, rfl⟩ := Int.eq_ofNat_of_zero_le (show 0 ≤ x by omega)
      have hk : k < T.length := by omega
      obtain ⟨g, o, pa, pc, rfl, hg, c0, c1, c2, hp, p1, p2, b0, b1, b2⟩ := HT.out.at k hk
      have hpar := (named_par HN.out k hk).2 (by omega)
      have hDn : Hid (depF T T.length u = (y + 1 : Nat) + depF T T.length T[k].parent) := by
        show _ = _
        rw [hD.out]
        have e1 : depF T T.length (k : Int) = depF T (T.length - 1) (parOf T k) + 1 := by
          obtain ⟨m, hm⟩ : ∃ m, T.length = m + 1 := ⟨T.length - 1, by omega⟩
          rw [hm]; simp only [depF]; rw [if_pos h0]; rfl
        rw [e1, parOf_at hk, depF_fuel HN.out T.length T[k].parent (by omega) (by omega) (T.length - 1) T.length (by omega) (by omega)]
        omega
      clear hp hD
      go_wp2_with fail
      go_roundg (gk - 1)
      case measure => omega
      case rel => exact ⟨T[k].parent, y + 1, rfl, by go_num, by omega, by omega, by omega, by omega, hDn, n, rfl⟩
    · go_wp2_with fail
      go_ret
      refine ⟨ret_int ?_, below_draws ((Below.refl _ _).alloc (Nat.le_refl _) _) n⟩
      have e1 : depF T T.length x = 0 := by cases hTl : T.length with
        | zero => rfl
        | succ m => simp [depF, h0]
      rw [hD.out, e1]; simp
end Go.Proofs.Ytjfkjnakmmkkiaa
